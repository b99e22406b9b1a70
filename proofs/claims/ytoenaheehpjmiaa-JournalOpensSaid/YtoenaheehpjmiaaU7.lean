/- The program's journal: records read, Crash, Open, Copy.
   Conditions: none. -/
import Derived.Test.YtoenaheehpjmiaaU6
namespace Go.Sh
open Go
set_option linter.unusedSimpArgs false
set_option linter.unusedVariables false
set_option maxHeartbeats 4000000

theorem intC'_len (n : Int) : (intC' n).length = 1 := rfl
theorem intC'_one (x : Int) : ∀ u ∈ intC' x, u.oneCell' = true := by
  intro u hu; simp [intC'] at hu; subst hu; rfl

def IntP (w : World) (s : Sl) (bs : List UInt8) (m : Nat) (v : Value) (w' : World) : Prop :=
  ∃ (l r : Sl) (ok : Bool), v = .tuple #[.slice l.a l.n l.c, .slice r.a r.n r.c, .bool ok] ∧ ((ok = false ∧ (rdA m [] 0 bs).2.2 ≠ 0) ∨ (ok = true ∧ ∃ ns a, rdA m [] 0 bs = (ns, a, 0) ∧ ns.length = m ∧ Own intC' 1 t_i64_2 w' l ns ∧ (∀ b, l.on b → w.heap.size ≤ b) ∧
    Rd byteC 1 w' r (bs.drop a) ∧ a ≤ bs.length ∧ r.n ≤ r.c ∧ ∀ b, r.on b → s.on b))

theorem integers_spec {w : World} {s : Sl} {bs : List UInt8} (hr : Rd byteC 1 w s bs) (hcap : s.n ≤ s.c) (m : Nat) (hm : m ≤ 3) (hl : bs.length ≤ 1000000) : Spec PP n_journal_integers [.slice s.a s.n s.c, .int .i64 (m : Int)] w noB (IntP w s bs m) := by
  refine journal_integers_calls s (m : Int) _ w ?_
  unfold F_journal_integers
  have T : Now noB w w := Now.refl
  refine Reb.A T Anc.nil (fun w1 T t => ?_)
  unfold C_journal_integers_1
  refine Reb.A T Anc.nil (fun w1 T t => ?_)
  unfold C_journal_integers_2
  refine Reb.A T Anc.nil (fun w1 T t => ?_)
  unfold C_journal_integers_4
  refine LoopC.mk (fun x w' => ∃ (k a : Nat) (ns : List Int), x.2.2 = (k : Int) ∧ k ≤ m ∧ ns.length = k ∧ a ≤ bs.length ∧ Now noB w w' ∧ Own intC' 1 t_i64_2 w' x.2.1 ns ∧ (∀ b, x.2.1.on b → w.heap.size ≤ b) ∧ Rd byteC 1 w' x.1 (bs.drop a) ∧ x.1.n ≤ x.1.c ∧ (∀ b, x.1.on b → s.on b) ∧ rdA m [] 0 bs = rdA (m - k) ns a (bs.drop a)) (fun x => m - x.2.2.toNat) ?_ ?_
  · exact Reb.A T Anc.nil (fun w2 T t => ⟨0, 0, [], rfl, by omega, rfl, by omega, T, Own.nil, by simp, hr.tr T.t (by simp [noB]), hcap, fun b hb => hb, rfl⟩)
  · rintro ⟨b, out, i⟩ wb ⟨k, a, ns, hi, hk, hns, ha, T, ho, hon, hrb, hcb, hbs, hR⟩
    simp only at hi ho hon hrb hcb hbs
    subst hi
    have hbn := hrb.1
    rw [List.length_drop] at hbn
    unfold L_journal_integers_5
    dsimp only
    unfold B_journal_integers_5
    refine ifbd (fun hlt => ?_) (fun hlt => ?_)
    · have hdl : (bs.drop a).length ≤ 1000000000 := by rw [List.length_drop]; omega
      refine CallL.vA T Anc.nil (fun wa _ t => wire_TakeInt_spec (hrb.tr t (by simp [blk])) hdl) (fun w2 T t => ⟨(tkI (bs.drop a)).1, ((tkI (bs.drop a)).2.1 : Nat), (tkI (bs.drop a)).2.2, rfl, ?_⟩)
      replace hrb := hrb.tr t (by simp [blk])
      replace ho := ho.tr t (by simp [blk])
      have hlen := tkI_len (bs := bs.drop a)
      rw [List.length_drop] at hlen
      refine ifbnd (fun h0 => ?_) (fun h0 => ?_)
      · refine Reb.A T Anc.nil (fun w3 T t => ⟨T.t, ⟨none, 0, 0⟩, ⟨none, 0, 0⟩, false, rfl, .inl ⟨rfl, ?_⟩⟩)
        rw [hR, show m - k = (m - k - 1) + 1 by omega, rdA_stop h0]
        exact h0
      · rw [show m - k = (m - k - 1) + 1 by omega, rdA_step h0, List.drop_drop] at hR
        refine NewL.A T Anc.nil (fun bn w3 T t3 hb3 l3 => ?_)
        replace hrb := hrb.tr t3 (by simp [blk])
        replace ho := ho.tr t3 (by simp [blk])
        have zz := T.t.size
        have hol := ho.1
        refine RunL.appA T Anc.nil el_sl_i64.t (by decide) intC'_len intC'_one ho (Blk.rd1 (x := (tkI (bs.drop a)).1) hb3) (fun h => by cases h) (by omega) (fun i hi hh => by have := hon i hh; omega) (by simp [blk]) (by simp [blk]) (fun s2 w4 T t4 o2 f2 n2 => ⟨s2, rfl, by omega, by omega, ?_⟩)
        have hrb4 : Rd byteC 1 w4 b (bs.drop a) := (hr.tr T.t (by simp [noB])) |> fun _ => hrb.tr t4 (by
          rintro c hc (hm | hm)
          · simp [blk] at hm
          · have := hon c hm
            obtain ⟨p, hp, rfl⟩ := hbs c hc
            rcases Nat.eq_zero_or_pos bs.length with h0' | h0'
            · exact absurd hlen (by have := tkI_pos h0; omega)
            · have := hr.lt (by simp [byteC]) ⟨p, hp, rfl⟩ (by have := hr.1; omega)
              omega)
        have step : IntKind.i64.wrap ((k : Int) + 1) = ((k + 1 : Nat) : Int) := by rw [wrap_i64 (by omega) (by omega)]; simp
        refine Reb.A T Anc.nil (fun w5 T t5 => ⟨rfl, ⟨k + 1, a + (tkI (bs.drop a)).2.1, ns ++ [(tkI (bs.drop a)).1], step, by omega, by simp [hns], by omega, T, o2.tr t5 n2, fun i hi => ?_, ?_, ?_, fun c hc => hbs c (slA_on (s := b) hc), ?_⟩, by simp only [step]; omega⟩)
        · rcases f2 i hi with h | h
          · exact hon i h
          · omega
        · have hd := (hrb4.tr t5 (by simp [blk])).drop (i := (tkI (bs.drop a)).2.1) (by rw [List.length_drop]; omega) hcb (cap := b.c - (tkI (bs.drop a)).2.1)
          rw [List.drop_drop] at hd
          exact hd
        · show b.n - _ ≤ b.c - _
          omega
        · rw [hR, show m - (k + 1) = m - k - 1 by omega]
    · have hkm : k = m := by omega
      subst hkm
      refine Reb.A T Anc.nil (fun w3 T t3 => ?_)
      unfold C_journal_integers_3
      rw [Nat.sub_self, rdA] at hR
      refine Reb.A T Anc.nil (fun w4 T t4 => ⟨T.t, out, b, true, rfl, .inr ⟨rfl, ns, a, hR, hns, (ho.tr t3 (by simp [blk])).tr t4 (by simp [blk]), hon, (hrb.tr t3 (by simp [blk])).tr t4 (by simp [blk]), ha, hcb, hbs⟩⟩)

/-! ### records -/
theorem rec_kind {r : Rec} {k : Int} {rest : List UInt8} (h : ebL [k] ++ rest = recB r) : ∃ tl, r.nums = k :: tl ∧ rest = ebL tl := by
  unfold recB at h
  cases hn : r.nums with
  | nil => cases r <;> simp [Rec.nums] at hn
  | cons x tl =>
    rw [hn] at h
    have e1 : ebL [k] ++ rest = vb (zz k) ++ rest := by simp [ebL]
    have e2 : ebL (x :: tl) = vb (zz x) ++ ebL tl := by simp [ebL]
    rw [e1, e2] at h
    obtain ⟨h1, h2⟩ := vb_inj _ _ _ _ h
    rw [zz_inj h1]
    exact ⟨tl, rfl, h2⟩
theorem rdA_of {ns tl : List Int} (h : ∀ n ∈ ns ++ tl, okI n) : rdA ns.length [] 0 (ebL (ns ++ tl)) = (ns, (ebL ns).length, 0) := by
  have e : ebL (ns ++ tl) = ebL ns ++ ebL tl := by simp [ebL]
  rw [e, rdA_eb ns [] 0 _ (fun n hn => h n (by simp [hn]))]
  simp
/-- what a record read makes of a journal -/
noncomputable def rdJ (M : JM) (p : List UInt8) : JM := match readM M.J p with | some J => ⟨J, M.b, M.d⟩ | none => M
theorem rdJ_none {M : JM} {p : List UInt8} (h : readM M.J p = none) : rdJ M p = M := by unfold rdJ; rw [h]
theorem rdJ_rec {M : JM} {r : Rec} (h : r.ok) : rdJ M (recB r) = apJ M r ∧ (readM M.J (recB r)).isSome = decide (errR M.J r = 0) := by
  unfold rdJ apJ
  by_cases h0 : errR M.J r = 0
  · rw [readM_rec h h0, if_pos h0]
    simp [h0]
  · rw [readM_bad h0, if_neg h0]
    simp [h0]

theorem take1 {ns : List Int} (h : ns.length = 1) : ∃ k, ns = [k] := by
  match ns, h with
  | [k], _ => exact ⟨k, rfl⟩
theorem take2 {ns : List Int} (h : ns.length = 2) : ∃ k j, ns = [k, j] := by
  match ns, h with
  | [k, j], _ => exact ⟨k, j, rfl⟩
theorem rdA_eq {m a : Nat} {ns : List Int} {bs : List UInt8} (h : rdA m [] 0 bs = (ns, a, 0)) : bs = ebL ns ++ bs.drop a ∧ (∀ n ∈ ns, okI n) ∧ a = (ebL ns).length := by
  obtain ⟨ms, r, h1, h2, h3, h4⟩ := rdA_ok m [] 0 bs (by rw [h])
  rw [h] at h4
  simp only [List.nil_append, Nat.zero_add, Prod.mk.injEq, and_true] at h4
  obtain ⟨rfl, rfl⟩ := h4
  refine ⟨?_, h2, rfl⟩
  conv => lhs; rw [h3]
  conv => rhs; rw [h3]
  rw [List.drop_left' rfl]

section
variable {w : World} {h : JH} {M : JM}

theorem journal_read_spec (A : JAt t_journal_Journal t_disk_Disk w h M) {s : Sl} {p : List UInt8} (hr : Rd byteC 1 w s p) (hcap : s.n ≤ s.c) (hso : ∀ b, s.on b → ¬ h.on b ∧ b < w.heap.size) (hp : p.length ≤ 65536) (hl : M.J.log.length ≤ 1000000) :
    Spec PP n_journal_Journal_read [.pointer (some ⟨h.bj, 0, none⟩), .slice s.a s.n s.c] w h.on (fun r w' => r = .bool (readM M.J p).isSome ∧ JP t_journal_Journal t_disk_Disk w h (rdJ M p) w') := by
  refine journal_Journal_read_calls (some ⟨h.bj, 0, none⟩) s _ w ?_
  unfold F_journal_Journal_read
  have B := JN.start A
  have no : ∀ {L : List LB} {w' : World}, readM M.J p = none → JN t_journal_Journal t_disk_Disk w h w' h M → offJ w h L → Reb w.heap.size w' L ((fun (r : Value) w' => Touch h.on w w' ∧ (r = .bool (readM M.J p).isSome ∧ JP t_journal_Journal t_disk_Disk w h (rdJ M p) w')) (Value.bool false)) := by
    intro L w' hn B hL
    rw [rdJ_none hn, hn]
    exact B.fin hL
  have yes : ∀ {L : List LB} {w' : World} {h' : JH} {r : Rec}, r.ok → p = recB r → JN t_journal_Journal t_disk_Disk w h w' h' (apJ M r) → offJ w h' L → Reb w.heap.size w' L ((fun (r : Value) w' => Touch h.on w w' ∧ (r = .bool (readM M.J p).isSome ∧ JP t_journal_Journal t_disk_Disk w h (rdJ M p) w')) (Value.bool (decide (errR M.J r = 0)))) := by
    intro L w' h' r qr qp B hL
    rw [qp, (rdJ_rec qr).1, (rdJ_rec qr).2]
    exact B.fin hL
  refine B.p offJ.nil (fun wa _ t => integers_spec (hr.tr t (by simp [blk])) hcap 1 (by omega) (by omega)) ?_
  rintro wa v w1 B t z1 _ ⟨l1, r1, ok, rfl, hcase⟩
  refine ⟨l1, r1, ok, rfl, ?_⟩
  rcases hcase with ⟨rfl, hbad⟩ | ⟨rfl, ns, a, hR, hns, o1, f1, hr1, ha, hc1, on1⟩
  · refine ifbn (fun _ => no (readM_none (fun r qr qp q0 => ?_)) B offJ.nil) (fun h => by cases h)
    apply hbad
    rw [qp]
    obtain ⟨x, tl, hx⟩ : ∃ x tl, r.nums = x :: tl := by cases r <;> exact ⟨_, _, rfl⟩
    have := rdA_of (ns := [x]) (tl := tl) (by rw [List.singleton_append, ← hx]; exact qr.nums)
    rw [List.singleton_append, ← hx] at this
    show (rdA 1 [] 0 (recB r)).2.2 = 0
    unfold recB
    rw [show (1 : Nat) = [x].length from rfl, this]
  refine ifbn (fun h => by cases h) (fun _ => ?_)
  obtain ⟨k, rfl⟩ := take1 hns
  obtain ⟨hp1, hk1, hal⟩ := rdA_eq hR
  have hs1 : ∀ b, r1.on b → ¬ h.on b ∧ b < w.heap.size := fun b hb => hso b (on1 b hb)
  have hdl : (p.drop a).length ≤ 65536 := by rw [List.length_drop]; omega
  refine (o1.rd intC'_len).idx (by omega) (by have := o1.1; simp at this; omega) (fun q x hq hx ha1 => ⟨x, ha1, notIn_nil, ?_⟩)
  simp only [Int.toNat_zero, List.getElem?_cons_zero, Option.some.injEq] at hx
  subst hx
  refine ifbd (fun hk => ?_) (fun hk => ?_)
  · subst hk
    refine B.p offJ.nil (fun wa _ t => integers_spec (hr1.tr t (by simp [blk])) hc1 2 (by omega) (by omega)) ?_
    rintro wa2 v w2 B t2 z2 _ ⟨l2, r2, ok2, rfl, hcase⟩
    refine ⟨l2, r2, ok2, rfl, ?_⟩
    rcases hcase with ⟨rfl, hbad⟩ | ⟨rfl, ns2, a2, hR2, hns2, o2, f2, hr2, ha2, hc2, on2⟩
    · refine ifb (fun h => by cases h) (fun _ => no (readM_none (fun r qr qp q0 => ?_)) B offJ.nil)
      obtain ⟨tl, e1, e2⟩ := rec_kind (hp1.symm.trans qp)
      apply hbad
      rw [e2]
      cases r <;> simp [Rec.nums] at e1
      rename_i t v
      obtain rfl := e1
      have := rdA_of (ns := [t, v]) (tl := []) (by simpa using ⟨qr.1, qr.2⟩)
      rw [List.append_nil] at this
      show (rdA 2 [] 0 (ebL [t, v])).2.2 = 0
      rw [show (2 : Nat) = [t, v].length from rfl, this]
    refine ifb (fun _ => ?_) (fun h => by cases h)
    obtain ⟨t, v, rfl⟩ := take2 hns2
    obtain ⟨hp2, hk2, hal2⟩ := rdA_eq hR2
    have hn2 := hr2.1
    refine ifbd (fun hz => ?_) (fun hz => ?_)
    · have hd : (p.drop a).drop a2 = [] := List.eq_nil_of_length_eq_zero (by omega)
      have hpr : p = recB (.st t v) := by
        rw [hp1, hp2, hd, List.append_nil]
        simp [ebL, recB, Rec.nums]
      have hro : Rec.ok (.st t v) := ⟨hk2 t (by simp), hk2 v (by simp)⟩
      refine (o2.rd intC'_len).idx (by omega) (by have := o2.1; simp at this; omega) (fun q x hq hx ha1 => ⟨x, ha1, notIn_nil, ?_⟩)
      simp only [Int.toNat_zero, List.getElem?_cons_zero, Option.some.injEq] at hx
      subst hx
      refine (o2.rd intC'_len).idx (by omega) (by have := o2.1; simp at this; omega) (fun q x hq hx ha1 => ⟨x, ha1, notIn_nil, ?_⟩)
      simp only [show (1 : Int).toNat = 1 from rfl, List.getElem?_cons_succ, List.getElem?_cons_zero, Option.some.injEq] at hx
      subst hx
      exact B.op offJ.nil (fun wa B _ => journal_setTerm_spec B.A t v) (fun h' w3 B _ hL _ => ⟨_, rfl, yes hro hpr B hL⟩)
    · refine no (readM_none (fun r qr qp q0 => ?_)) B offJ.nil
      obtain ⟨tl, e1, e2⟩ := rec_kind (hp1.symm.trans qp)
      cases r <;> simp [Rec.nums] at e1
      rename_i t' v'
      obtain rfl := e1
      rw [e2] at hp2 hR2 hn2
      have h3 := rdA_of (ns := [t', v']) (tl := []) (by simpa using ⟨qr.1, qr.2⟩)
      rw [List.append_nil] at h3
      have h4 : rdA 2 [] 0 (ebL [t', v']) = ([t', v'], (ebL [t', v']).length, 0) := h3
      rw [h4] at hR2
      simp only [Prod.mk.injEq, and_true] at hR2
      rw [← hR2.2, List.drop_length] at hn2
      simp at hn2
      omega
  refine ifbd (fun hk2 => ?_) (fun hk2 => ?_)
  · subst hk2
    refine B.p offJ.nil (fun wa _ t => integers_spec (hr1.tr t (by simp [blk])) hc1 1 (by omega) (by omega)) ?_
    rintro wa2 v w2 B t2 z2 _ ⟨l2, r2, ok2, rfl, hcase⟩
    refine ⟨l2, r2, ok2, rfl, ?_⟩
    rcases hcase with ⟨rfl, hbad⟩ | ⟨rfl, ns2, a2, hR2, hns2, o2, f2, hr2, ha2, hc2, on2⟩
    · refine ifbn (fun _ => no (readM_none (fun r qr qp q0 => ?_)) B offJ.nil) (fun h => by cases h)
      obtain ⟨tl, e1, e2⟩ := rec_kind (hp1.symm.trans qp)
      apply hbad
      rw [e2]
      cases r <;> simp [Rec.nums] at e1
      rename_i t e
      obtain rfl := e1
      have := rdA_of (ns := [t]) (tl := flds e) (by
        intro n hn
        simp only [List.singleton_append, List.mem_cons] at hn
        rcases hn with rfl | hn
        · exact qr.1
        · exact qr.2.1 n hn)
      rw [List.singleton_append] at this
      show (rdA 1 [] 0 (ebL (t :: flds e))).2.2 = 0
      rw [show (1 : Nat) = [t].length from rfl, this]
    refine ifbn (fun h => by cases h) (fun _ => ?_)
    obtain ⟨t, rfl⟩ := take1 hns2
    obtain ⟨hp2, hk2, hal2⟩ := rdA_eq hR2
    have hn2 := hr2.1
    have hs2 : ∀ b, r2.on b → b < w2.heap.size := fun b hb => by have := (hs1 b (on2 b hb)).2; have := B.T.t.size; omega
    have hd2 : ((p.drop a).drop a2).length ≤ 1000000 := by rw [List.length_drop]; omega
    refine B.v offJ.nil (fun wa _ t => entry_Read_spec (hr2.tr t (by simp [blk])) hc2 (fun b hb => Nat.lt_of_lt_of_le (hs2 b hb) t.size) hd2) (fun w3 B t3 => ⟨(eRd ((p.drop a).drop a2)).1, ((eRd ((p.drop a).drop a2)).2.1 : Nat), (eRd ((p.drop a).drop a2)).2.2, rfl, ?_⟩)
    replace o2 := o2.tr t3 (by simp [blk])
    -- what a record of this kind would be
    have isr : ∀ r : Rec, r.ok → p = recB r → ∃ e, r = .ap t e ∧ (p.drop a).drop a2 = ebL (flds e) := by
      intro r qr qp
      obtain ⟨tl, e1, e2⟩ := rec_kind (hp1.symm.trans qp)
      cases r <;> simp [Rec.nums] at e1
      rename_i t' e
      obtain rfl := e1
      rw [e2] at hp2
      have e3 : ebL (t' :: flds e) = ebL [t'] ++ ebL (flds e) := by simp [ebL]
      have e4 : ebL [t] = vb (zz t) := by simp [ebL]
      have e5 : ebL [t'] = vb (zz t') := by simp [ebL]
      have hp3 : vb (zz t') ++ ebL (flds e) = vb (zz t) ++ List.drop a2 (ebL (t' :: flds e)) := by rw [← e5, ← e4, ← e3]; exact hp2
      obtain ⟨g1, g2⟩ := vb_inj _ _ _ _ hp3
      rw [← zz_inj g1]
      refine ⟨e, rfl, ?_⟩
      rw [e2, ← g2]
    intro b30 h30
    have hL : offJ w h [⟨b30, (eRd ((p.drop a).drop a2)).1.cells, t_api_Entry⟩] := by
      intro b hb
      simp [blk] at hb
      subst hb
      exact ⟨by have := B.T.t.size; omega, fun hn => by have := B.A.lt hn; omega⟩
    have hEr : ∀ e : G_api_Entry, (∀ n ∈ flds e, okI n) → shapeP e → eRd (ebL (flds e)) = (e, (ebL (flds e)).length, 0) := by
      intro e he hs
      have h9 : rdA 9 [] 0 (ebL (flds e)) = (flds e, (ebL (flds e)).length, 0) := by
        have := rdA_of (ns := flds e) (tl := []) (by simpa using he)
        rwa [List.append_nil] at this
      unfold eRd
      rw [h9]
      simp only [if_true]
      rw [entOf_flds, if_pos hs]
    refine ifbd (fun he => ?_) (fun he => ?_)
    · refine ifbd (fun hz => ?_) (fun hz => ?_)
      · -- the entry's bytes are all that is left
        have hrd : (rdA 9 [] 0 ((p.drop a).drop a2)).2.2 = 0 ∧ okP (entOf (rdA 9 [] 0 ((p.drop a).drop a2)).1) 32 16 4 30 := by
          unfold eRd at he
          split at he
          · rename_i h1
            split at he
            · rename_i h2; exact ⟨h1, h2⟩
            · simp at he
          · rename_i h1
            exact absurd he h1
        obtain ⟨ms, r, g1, g2, g3, g4⟩ := rdA_ok 9 [] 0 _ hrd.1
        have hE : eRd ((p.drop a).drop a2) = (entOf ms, (ebL ms).length, 0) := by
          unfold eRd
          rw [if_pos hrd.1, if_pos hrd.2, g4]
          simp
        rw [hE] at hz hL ⊢
        simp only at hz hL ⊢
        have hfe : flds (entOf ms) = ms := flds_entOf g1
        have hs : shapeP (entOf ms) := by
          have := hrd.2
          rw [g4] at this
          simpa using this
        have hre : r = [] := by
          have := congrArg List.length g3
          rw [List.length_append] at this
          exact List.eq_nil_of_length_eq_zero (by omega)
        have hro : Rec.ok (.ap t (entOf ms)) := ⟨hk2 t (by simp), by rw [hfe]; exact g2, hs⟩
        have hpr : p = recB (.ap t (entOf ms)) := by
          rw [hp1, hp2, g3, hre, List.append_nil]
          simp [ebL, recB, Rec.nums, hfe]
        refine (o2.rd intC'_len).idx (by omega) (by have := o2.1; simp at this; omega) (fun q x hq hx ha1 => ⟨x, ha1, ?_, ?_⟩)
        · have := o2.lt ⟨q, hq, rfl⟩
          simp [add_block]; omega
        simp only [Int.toNat_zero, List.getElem?_cons_zero, Option.some.injEq] at hx
        subst hx
        exact B.op hL (fun wa B _ => journal_add_spec B.A t (entOf ms) hl) (fun h' w3 B _ hL _ => ⟨_, rfl, yes hro hpr B hL⟩)
      · refine no (readM_none (fun r qr qp q0 => ?_)) B hL
        obtain ⟨e, rfl, e2⟩ := isr r qr qp
        rw [e2] at hz hn2
        rw [hEr e qr.2.1 qr.2.2] at hz
        simp only at hz
        omega
    · refine no (readM_none (fun r qr qp q0 => ?_)) B hL
      obtain ⟨e, rfl, e2⟩ := isr r qr qp
      rw [e2, hEr e qr.2.1 qr.2.2] at he
      exact he rfl
  refine ifbd (fun hk3 => ?_) (fun hk3 => ?_)
  · subst hk3
    refine B.p offJ.nil (fun wa _ t => integers_spec (hr1.tr t (by simp [blk])) hc1 1 (by omega) (by omega)) ?_
    rintro wa2 v w2 B t2 z2 _ ⟨l2, r2, ok2, rfl, hcase⟩
    refine ⟨l2, r2, ok2, rfl, ?_⟩
    rcases hcase with ⟨rfl, hbad⟩ | ⟨rfl, ns2, a2, hR2, hns2, o2, f2, hr2, ha2, hc2, on2⟩
    · refine ifb (fun h => by cases h) (fun _ => no (readM_none (fun r qr qp q0 => ?_)) B offJ.nil)
      obtain ⟨tl, e1, e2⟩ := rec_kind (hp1.symm.trans qp)
      apply hbad
      rw [e2]
      cases r <;> simp [Rec.nums] at e1
      rename_i n
      obtain rfl := e1
      have := rdA_of (ns := [n]) (tl := []) (by simpa using (show okI n from qr))
      rw [List.append_nil] at this
      show (rdA 1 [] 0 (ebL [n])).2.2 = 0
      rw [show (1 : Nat) = [n].length from rfl, this]
    refine ifb (fun _ => ?_) (fun h => by cases h)
    obtain ⟨n, rfl⟩ := take1 hns2
    obtain ⟨hp2, hk2, hal2⟩ := rdA_eq hR2
    have hn2 := hr2.1
    refine ifbd (fun hz => ?_) (fun hz => ?_)
    · have hd : (p.drop a).drop a2 = [] := List.eq_nil_of_length_eq_zero (by omega)
      have hpr : p = recB (.ct n) := by
        rw [hp1, hp2, hd, List.append_nil]
        simp [ebL, recB, Rec.nums]
      have hro : Rec.ok (.ct n) := hk2 n (by simp)
      refine (o2.rd intC'_len).idx (by omega) (by have := o2.1; simp at this; omega) (fun q x hq hx ha1 => ⟨x, ha1, notIn_nil, ?_⟩)
      simp only [Int.toNat_zero, List.getElem?_cons_zero, Option.some.injEq] at hx
      subst hx
      exact B.op offJ.nil (fun wa B _ => journal_cut_spec B.A n hl) (fun h' w3 B _ hL _ => ⟨_, rfl, yes hro hpr B hL⟩)
    · refine no (readM_none (fun r qr qp q0 => ?_)) B offJ.nil
      obtain ⟨tl, e1, e2⟩ := rec_kind (hp1.symm.trans qp)
      cases r <;> simp [Rec.nums] at e1
      rename_i n'
      obtain rfl := e1
      rw [e2] at hp2 hR2 hn2
      have h3 := rdA_of (ns := [n']) (tl := []) (by simpa using (show okI n' from qr))
      rw [List.append_nil] at h3
      have h4 : rdA 1 [] 0 (ebL [n']) = ([n'], (ebL [n']).length, 0) := h3
      rw [h4] at hR2
      simp only [Prod.mk.injEq, and_true] at hR2
      rw [← hR2.2, List.drop_length] at hn2
      simp at hn2
      omega
  · refine no (readM_none (fun r qr qp q0 => ?_)) B offJ.nil
    obtain ⟨tl, e1, e2⟩ := rec_kind (hp1.symm.trans qp)
    cases r <;> simp [Rec.nums] at e1 <;> omega
end

end Go.Sh
