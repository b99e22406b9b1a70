/- The reference's journal: SetTerm, Append, Cut, record.
   Conditions: none. -/
import Derived.Test.YtoenaheehpjmiaaU15
namespace Go.Sh
open Go
set_option linter.unusedSimpArgs false
set_option linter.unusedVariables false
set_option maxHeartbeats 4000000

theorem opM_put {M : JM} {r : Rec} (h : errR M.J r = 0) : (⟨(apJ M r).J, (apJ M r).b ++ putF (recB r), (apJ M r).d⟩ : JM) = opM M r := by
  unfold apJ opM; rw [if_pos h, if_pos h]
theorem opM_none {M : JM} {r : Rec} (h : errR M.J r ≠ 0) : apJ M r = opM M r := by
  unfold apJ opM; rw [if_neg h, if_neg h]

theorem tkI_0 {bs : List UInt8} (h : (tkI bs).2.2 = 0) : okI (tkI bs).1 ∧ bs = vb (zz (tkI bs).1) ++ bs.drop (tkI bs).2.1 := by
  obtain ⟨r, h1, h2, h3⟩ := tkI_ok h
  refine ⟨h1, ?_⟩
  rw [h3]
  have : List.drop (vb (zz (tkI bs).1)).length bs = r := by
    have h4 := congrArg (List.drop (vb (zz (tkI bs).1)).length) h2
    rwa [List.drop_left' rfl] at h4
  rw [this]; exact h2
theorem eRd_e {e : G_api_Entry} (he : ∀ n ∈ flds e, okI n) (hs : shapeP e) : eRd (ebL (flds e)) = (e, (ebL (flds e)).length, 0) := by
  have h9 : rdA 9 [] 0 (ebL (flds e)) = (flds e, (ebL (flds e)).length, 0) := by
    have := rdA_of (ns := flds e) (tl := []) (by simpa using he)
    rwa [List.append_nil] at this
  unfold eRd
  rw [h9]
  simp only [if_true]
  rw [entOf_flds, if_pos hs]
theorem eRd_0 {bs : List UInt8} (he : (eRd bs).2.2 = 0) : ∃ e r, eRd bs = (e, (ebL (flds e)).length, 0) ∧ shapeP e ∧ (∀ n ∈ flds e, okI n) ∧ bs = ebL (flds e) ++ r := by
  have hrd : (rdA 9 [] 0 bs).2.2 = 0 ∧ okP (entOf (rdA 9 [] 0 bs).1) 32 16 4 30 := by
    unfold eRd at he
    split at he
    · rename_i h1
      split at he
      · rename_i h2; exact ⟨h1, h2⟩
      · simp at he
    · rename_i h1
      exact absurd he h1
  obtain ⟨ms, r, g1, g2, g3, g4⟩ := rdA_ok 9 [] 0 _ hrd.1
  have hfe : flds (entOf ms) = ms := flds_entOf g1
  have hs : shapeP (entOf ms) := by
    have := hrd.2
    rw [g4] at this
    simpa using this
  refine ⟨entOf ms, r, ?_, hs, by rw [hfe]; exact g2, by rw [hfe]; exact g3⟩
  unfold eRd
  rw [if_pos hrd.1, if_pos hrd.2, g4, hfe]
  simp
theorem recT {r : Rec} (hr : r.ok) : ∃ k n tl, r.nums = k :: n :: tl ∧ (tkI (recB r)).1 = k ∧ (tkI (recB r)).2.2 = 0 ∧ (tkI ((recB r).drop (tkI (recB r)).2.1)).1 = n ∧ (tkI ((recB r).drop (tkI (recB r)).2.1)).2.2 = 0
    ∧ (recB r).drop ((tkI (recB r)).2.1 + (tkI ((recB r).drop (tkI (recB r)).2.1)).2.1) = ebL tl := by
  obtain ⟨k, n, tl, hn⟩ : ∃ k n tl, r.nums = k :: n :: tl := by cases r <;> exact ⟨_, _, _, rfl⟩
  have hk : okI k := hr.nums k (by rw [hn]; simp)
  have hm : okI n := hr.nums n (by rw [hn]; simp)
  have e1 : recB r = vb (zz k) ++ (vb (zz n) ++ ebL tl) := by unfold recB; rw [hn]; simp [ebL]
  have t1 : tkI (recB r) = (k, (vb (zz k)).length, 0) := by rw [e1]; exact tkI_vb hk _
  have d1 : (recB r).drop (vb (zz k)).length = vb (zz n) ++ ebL tl := by rw [e1]; exact List.drop_left' rfl
  have t2 : tkI ((recB r).drop (vb (zz k)).length) = (n, (vb (zz n)).length, 0) := by rw [d1]; exact tkI_vb hm _
  refine ⟨k, n, tl, hn, by rw [t1], by rw [t1], by rw [t1]; simp only; rw [t2], by rw [t1]; simp only; rw [t2], ?_⟩
  rw [t1]
  simp only
  rw [t2]
  simp only
  rw [← List.drop_drop, d1]
  exact List.drop_left' rfl

section
variable {w : World} {h : JH} {M : JM}

theorem ref08_SetTerm_spec (A : JAt RJ RD w h M) (t v : Int) (hl : M.J.log.length ≤ 1000000) (hb : M.b.length ≤ 90000000) : Spec PP n_cellplaneref08_Journal_SetTerm [.pointer (some ⟨h.bj, 0, none⟩), .int .i64 t, .int .i64 v] w h.on
    (fun r w' => r = .int .i64 (errR M.J (.st t v)) ∧ JP RJ RD w h (opM M (.st t v)) w') := by
  refine cellplaneref08_Journal_SetTerm_calls (some ⟨h.bj, 0, none⟩) t v _ w ?_
  unfold F_cellplaneref08_Journal_SetTerm
  have B := JN.start A
  refine B.op offJ.nil (fun wa B _ => ref08_setTerm_spec B.A t v) (fun h' w1 B _ _ _ => ⟨_, rfl, ?_⟩)
  refine ifbd (fun h0 => ?_) (fun h0 => ?_)
  rotate_left
  · rw [opM_none h0] at B
    exact B.fin offJ.nil
  have hro : Rec.ok (.st t v) := errR_ok hl h0
  obtain ⟨ht, hv⟩ := hro
  have hlen := recB_len (r := .st t v) ⟨ht, hv⟩
  refine B.p offJ.nil (fun wa B t => ref01_Int_spec (s := ⟨none, 0, 0⟩) (bs := []) (n := 1) (by decide) (by decide) Rd.nil (fun _ => rfl) (by simp)) ?_
  rintro wa1 v1 w2 B t2 z2 _ ⟨l1, rfl, o1, f1⟩
  refine ⟨l1, rfl, ?_⟩
  have v10 : ∀ {n : Int}, okI n → (vb (zz n)).length ≤ 10 := fun h => vb_len10 (zz_lt h.1 h.2)
  have k1 := v10 (n := 1) (by unfold okI; omega)
  refine B.p offJ.nil (fun wa B t' => ref01_Int_spec (n := t) ht.1 ht.2 ((o1.rd byteC_len).tr t' (by simp [blk])) o1.cap.2 (by simp; omega)) ?_
  rintro wa2 v2 w3 B t3 z3 _ ⟨l2, rfl, o2, f2⟩
  refine ⟨l2, rfl, ?_⟩
  have k2 := v10 ht
  refine B.p offJ.nil (fun wa B t' => ref01_Int_spec (n := v) hv.1 hv.2 ((o2.rd byteC_len).tr t' (by simp [blk])) o2.cap.2 (by simp; omega)) ?_
  rintro wa3 v3 w4 B t4 z4 _ ⟨l3, rfl, o3, f3⟩
  refine ⟨l3, rfl, ?_⟩
  have e : ([] ++ vb (zz 1) ++ vb (zz t)) ++ vb (zz v) = recB (.st t v) := by simp [recB, Rec.nums, ebL]
  rw [e] at o3
  rw [show h.bj = h'.bj from B.ej.symm]
  refine B.op offJ.nil (fun wa B t' => ref08_put_spec B.A ((o3.rd byteC_len).tr t' (by simp [blk])) o3.cap.2 (by omega) (by rw [apJ_b]; exact hb)) (fun h2 w5 B _ hL _ => ⟨rfl, ?_⟩)
  rw [opM_put h0] at B
  exact B.fin hL

theorem ref08_Cut_spec (A : JAt RJ RD w h M) (n : Int) (hl : M.J.log.length ≤ 1000000) (hb : M.b.length ≤ 90000000) : Spec PP n_cellplaneref08_Journal_Cut [.pointer (some ⟨h.bj, 0, none⟩), .int .i64 n] w h.on
    (fun r w' => r = .int .i64 (errR M.J (.ct n)) ∧ JP RJ RD w h (opM M (.ct n)) w') := by
  refine cellplaneref08_Journal_Cut_calls (some ⟨h.bj, 0, none⟩) n _ w ?_
  unfold F_cellplaneref08_Journal_Cut
  have B := JN.start A
  refine B.op offJ.nil (fun wa B _ => ref08_cut_spec B.A n hl) (fun h' w1 B _ _ _ => ⟨_, rfl, ?_⟩)
  refine ifbd (fun h0 => ?_) (fun h0 => ?_)
  rotate_left
  · rw [opM_none h0] at B
    exact B.fin offJ.nil
  have hro : Rec.ok (.ct n) := errR_ok hl h0
  have ht : okI n := hro
  have hlen := recB_len (r := .ct n) hro
  refine B.p offJ.nil (fun wa B t => ref01_Int_spec (s := ⟨none, 0, 0⟩) (bs := []) (n := 3) (by decide) (by decide) Rd.nil (fun _ => rfl) (by simp)) ?_
  rintro wa1 v1 w2 B t2 z2 _ ⟨l1, rfl, o1, f1⟩
  refine ⟨l1, rfl, ?_⟩
  have v10 : ∀ {n : Int}, okI n → (vb (zz n)).length ≤ 10 := fun h => vb_len10 (zz_lt h.1 h.2)
  have k1 := v10 (n := 3) (by unfold okI; omega)
  refine B.p offJ.nil (fun wa B t' => ref01_Int_spec (n := n) ht.1 ht.2 ((o1.rd byteC_len).tr t' (by simp [blk])) o1.cap.2 (by simp; omega)) ?_
  rintro wa2 v2 w3 B t3 z3 _ ⟨l2, rfl, o2, f2⟩
  refine ⟨l2, rfl, ?_⟩
  have e : ([] ++ vb (zz 3)) ++ vb (zz n) = recB (.ct n) := by simp [recB, Rec.nums, ebL]
  rw [e] at o2
  rw [show h.bj = h'.bj from B.ej.symm]
  refine B.op offJ.nil (fun wa B t' => ref08_put_spec B.A ((o2.rd byteC_len).tr t' (by simp [blk])) o2.cap.2 (by omega) (by rw [apJ_b]; exact hb)) (fun h2 w5 B _ hL _ => ⟨rfl, ?_⟩)
  rw [opM_put h0] at B
  exact B.fin hL

theorem ref08_Append_spec (A : JAt RJ RD w h M) (t : Int) (x : G_api_Entry) (hx : ∀ n ∈ flds x, okI n) (hl : M.J.log.length ≤ 1000000) (hb : M.b.length ≤ 90000000) : Spec PP n_cellplaneref08_Journal_Append [.pointer (some ⟨h.bj, 0, none⟩), .int .i64 t, .agg (List.toArray x.cells)] w h.on
    (fun r w' => r = .int .i64 (errR M.J (.ap t x)) ∧ JP RJ RD w h (opM M (.ap t x)) w') := by
  refine cellplaneref08_Journal_Append_calls (some ⟨h.bj, 0, none⟩) t x _ w ?_
  unfold F_cellplaneref08_Journal_Append
  have B := JN.start A
  intro b1 h1
  have hL : offJ w h [⟨b1, x.cells, t_api_Entry⟩] := by
    intro b hb
    simp [blk] at hb
    subst hb
    exact ⟨h1, fun hn => by have := A.lt hn; omega⟩
  refine B.op hL (fun wa B _ => ref08_add_spec B.A t x hl) (fun h' w1 B _ hL _ => ⟨_, rfl, ?_⟩)
  refine ifbd (fun h0 => ?_) (fun h0 => ?_)
  rotate_left
  · rw [opM_none h0] at B
    exact B.fin hL
  have hro : Rec.ok (.ap t x) := errR_ok hl h0
  obtain ⟨ht, hv⟩ := hro
  have hlen := recB_len (r := .ap t x) ⟨ht, hv⟩
  have off : ∀ {l : Sl} {w1 w2 : World}, Touch (fun b => b ∈ blk [⟨b1, x.cells, t_api_Entry⟩]) w1 w2 → (∀ b, l.on b → b ≠ b1) → ∀ b, l.on b → ¬ b ∈ blk [⟨b1, x.cells, t_api_Entry⟩] := by
    intro l w1 w2 _ hne b hb hm
    simp [blk] at hm
    exact hne b hb hm
  have zb : b1 < w1.heap.size ∨ True := .inr trivial
  refine B.p hL (fun wa B t => ref01_Int_spec (s := ⟨none, 0, 0⟩) (bs := []) (n := 2) (by decide) (by decide) Rd.nil (fun _ => rfl) (by simp)) ?_
  rintro wa1 v1 w2 B t2 z2 y2 ⟨l1, rfl, o1, f1⟩
  have zB2 : ∀ b, h'.on b → b < w2.heap.size := fun b hb => B.A.lt hb
  have zw2 := B.T.t.size
  have q1 : ∀ b, l1.on b → b ≠ b1 := fun b hb e => by have := f1 b hb; have := y2 b1 (by simp [blk]); omega
  refine ⟨l1, rfl, ?_⟩
  have v10 : ∀ {n : Int}, okI n → (vb (zz n)).length ≤ 10 := fun h => vb_len10 (zz_lt h.1 h.2)
  have k1 := v10 (n := 2) (by unfold okI; omega)
  refine B.p hL (fun wa B t' => ref01_Int_spec (n := t) ht.1 ht.2 ((o1.rd byteC_len).tr t' (off t' q1)) o1.cap.2 (by simp; omega)) ?_
  rintro wa2 v2 w3 B t3 z3 y3 ⟨l2, rfl, o2, f2⟩
  have q2 : ∀ b, l2.on b → b ≠ b1 := fun b hb e => by have := f2 b hb; have := y3 b1 (by simp [blk]); omega
  refine ⟨l2, rfl, ?_⟩
  have k2 := v10 ht
  refine B.p hL (fun wa B t' => ref06_Bytes_spec x hx wa) ?_
  rintro wa3 v3 w4 B t4 z4 y4 ⟨l3, rfl, o3, f3⟩
  have q3 : ∀ b, l3.on b → b ≠ b1 := fun b hb e => by have := f3 b hb; have := y4 b1 (by simp [blk]); omega
  replace o2 := o2.tr t4 (off t4 q2)
  refine ⟨l3, rfl, ?_⟩
  have e : ([] ++ vb (zz 2) ++ vb (zz t)) ++ ebL (flds x) = recB (.ap t x) := by simp [recB, Rec.nums, ebL]
  have hl2 := o2.1
  have hl3 := o3.1
  have hlen2 := congrArg List.length e
  rw [List.length_append] at hlen2
  have nin : ∀ {l : Sl}, (∀ b, l.on b → b ≠ b1) → ∀ b, l.on b → b ∉ blk [⟨b1, x.cells, t_api_Entry⟩] := by
    intro l hne b hb hm
    simp [blk] at hm
    exact hne b hb hm
  have g2 : ∀ b, l2.on b → w.heap.size ≤ b ∧ ¬ h'.on b := fun b hb => by
    have h5 := f2 b hb
    exact ⟨by omega, fun hh => by have := zB2 b hh; omega⟩
  refine RunL.appA B.T Anc.start el_sl_u8.t (by decide) byteC_len byteC_one o2 (q := l3.a) (m := l3.n) (cap := l3.c) (ys := ebL (flds x)) (o3.rd byteC_len) o3.cap.2 (by omega) (fun b hlt hb => by have := (g2 b hb).1; omega) (nin q2) (nin q3) (fun s' w5 T5 t5 o5 f5 n5 => ⟨s', rfl, ?_⟩)
  rw [e] at o5
  have B5 := B.gen T5 t5 (fun b hb => hb.elim (fun hb => (hL b hb).2) (fun hb => (g2 b hb).2))
  rw [show h.bj = h'.bj from B5.ej.symm]
  refine B5.op hL (fun wa B t' => ref08_put_spec B.A ((o5.rd byteC_len).tr t' n5) o5.cap.2 (by omega) (by rw [apJ_b]; exact hb)) (fun h2 w5 B _ hL _ => ⟨rfl, ?_⟩)
  rw [opM_put h0] at B
  exact B.fin hL

theorem ref08_record_spec (A : JAt RJ RD w h M) {s : Sl} {p : List UInt8} (hr : Rd byteC 1 w s p) (hcap : s.n ≤ s.c) (hso : ∀ b, s.on b → ¬ h.on b ∧ b < w.heap.size) (hp : p.length ≤ 65536) (hl : M.J.log.length ≤ 1000000) :
    Spec PP n_cellplaneref08_Journal_record [.pointer (some ⟨h.bj, 0, none⟩), .slice s.a s.n s.c] w h.on (fun r w' => r = .bool (readM M.J p).isSome ∧ JP RJ RD w h (rdJ M p) w') := by
  refine cellplaneref08_Journal_record_calls (some ⟨h.bj, 0, none⟩) s _ w ?_
  unfold F_cellplaneref08_Journal_record
  have B := JN.start A
  have hn := hr.1
  have no : ∀ {L : List LB} {w' : World}, readM M.J p = none → JN RJ RD w h w' h M → offJ w h L → Reb w.heap.size w' L ((fun (r : Value) w' => Touch h.on w w' ∧ (r = .bool (readM M.J p).isSome ∧ JP RJ RD w h (rdJ M p) w')) (Value.bool false)) := by
    intro L w' hn B hL
    rw [rdJ_none hn, hn]
    exact B.fin hL
  have yes : ∀ {L : List LB} {w' : World} {h' : JH} {r : Rec}, r.ok → p = recB r → JN RJ RD w h w' h' (apJ M r) → offJ w h' L → Reb w.heap.size w' L ((fun (r : Value) w' => Touch h.on w w' ∧ (r = .bool (readM M.J p).isSome ∧ JP RJ RD w h (rdJ M p) w')) (Value.bool (decide (errR M.J r = 0)))) := by
    intro L w' h' r qr qp B hL
    rw [qp, (rdJ_rec qr).1, (rdJ_rec qr).2]
    exact B.fin hL
  have tl1 := tkI_len (bs := p)
  refine B.v offJ.nil (fun wa _ t => ref01_TakeInt_spec (hr.tr t (by simp [blk])) (by omega)) (fun w1 B t1 => ⟨(tkI p).1, ((tkI p).2.1 : Nat), (tkI p).2.2, rfl, ?_⟩)
  have hr1 := hr.tr t1 (by simp [blk])
  have hT := fun r (qr : Rec.ok r) (qp : p = recB r) => qp ▸ recT qr
  refine ifbnd (fun h1 => no (readM_none (fun r qr qp q0 => ?_)) B offJ.nil) (fun h1 => ?_)
  · obtain ⟨k, n, tl, a1, a2, a3, _⟩ := hT r qr qp
    exact h1 a3
  obtain ⟨ok1, e1⟩ := tkI_0 h1
  refine ⟨by omega, by omega, ?_⟩
  simp only [Int.toNat_natCast]
  generalize hu : (tkI p).2.1 = u at *
  generalize hk : (tkI p).1 = k at *
  have dl1 : (p.drop u).length = p.length - u := List.length_drop
  have tl2 := tkI_len (bs := p.drop u)
  have hd1 : Rd byteC 1 w1 ⟨slA s.a s.c u 1, s.n - u, s.c - u⟩ (p.drop u) := hr1.drop tl1 hcap
  refine B.v offJ.nil (fun wa _ t => ref01_TakeInt_spec (s := ⟨slA s.a s.c u 1, s.n - u, s.c - u⟩) (hd1.tr t (by simp [blk])) (by omega)) (fun w2 B t2 => ⟨(tkI (p.drop u)).1, ((tkI (p.drop u)).2.1 : Nat), (tkI (p.drop u)).2.2, rfl, ?_⟩)
  have hr2 := hr1.tr t2 (by simp [blk])
  refine ifbnd (fun h2 => no (readM_none (fun r qr qp q0 => ?_)) B offJ.nil) (fun h2 => ?_)
  · obtain ⟨k', n, tl, a1, a2, a3, a4, a5, _⟩ := hT r qr qp
    exact h2 a5
  obtain ⟨ok2, e2⟩ := tkI_0 h2
  generalize hm : (tkI (p.drop u)).2.1 = m at *
  generalize hx : (tkI (p.drop u)).1 = n at *
  have ew : IntKind.i64.wrap ((u : Int) + (m : Int)) = ((u + m : Nat) : Int) := by rw [wrap_i64 (by omega) (by omega)]; simp
  rw [ew]
  have hum : u + m ≤ p.length := by omega
  rw [List.drop_drop] at e2
  have hd2 : Rd byteC 1 w2 ⟨slA s.a s.c (u + m) 1, s.n - (u + m), s.c - (u + m)⟩ (p.drop (u + m)) := hr2.drop hum hcap
  have dl2 : (p.drop (u + m)).length = p.length - (u + m) := List.length_drop
  have ep : p = vb (zz k) ++ (vb (zz n) ++ p.drop (u + m)) := by rw [← e2]; exact e1
  generalize hrest : p.drop (u + m) = rest at *
  -- what a record must be
  have isr : ∀ r, Rec.ok r → p = recB r → ∃ tl, r.nums = k :: n :: tl ∧ rest = ebL tl := by
    intro r qr qp
    obtain ⟨k', n', tl, a1, a2, a3, a4, a5, a6⟩ := hT r qr qp
    exact ⟨tl, by rw [a1, ← a2, ← a4], a6⟩
  refine ifbd (fun k1 => ?_) (fun k1 => ?_)
  · subst k1
    refine ⟨by omega, by omega, ?_⟩
    simp only [Int.toNat_natCast]
    have tl3 := tkI_len (bs := rest)
    refine B.v offJ.nil (fun wa _ t => ref01_TakeInt_spec (s := ⟨slA s.a s.c (u + m) 1, s.n - (u + m), s.c - (u + m)⟩) (hd2.tr t (by simp [blk])) (by omega)) (fun w3 B t3 => ⟨(tkI rest).1, ((tkI rest).2.1 : Nat), (tkI rest).2.2, rfl, ?_⟩)
    have bad : ∀ r, Rec.ok r → p = recB r → ∃ v, r = .st n v ∧ rest = ebL [v] ∧ okI v ∧ tkI rest = (v, (vb (zz v)).length, 0) ∧ rest.length = (vb (zz v)).length := by
      intro r qr qp
      obtain ⟨tl, a1, a2⟩ := isr r qr qp
      cases r <;> simp [Rec.nums] at a1
      rename_i t v
      obtain ⟨rfl, rfl⟩ := a1
      have e3 : ebL [v] = vb (zz v) ++ [] := by simp [ebL]
      refine ⟨v, rfl, a2, qr.2, by rw [a2, e3]; exact tkI_vb qr.2 [], by rw [a2, e3, List.append_nil]⟩
    refine ifbd (fun h3 => ?_) (fun h3 => no (readM_none (fun r qr qp q0 => ?_)) B offJ.nil)
    rotate_left
    · obtain ⟨v, _, _, _, b1, _⟩ := bad r qr qp
      exact h3 (by rw [b1])
    rw [show IntKind.i64.wrap (((u + m : Nat) : Int) + ((tkI rest).2.1 : Nat)) = ((u + m + (tkI rest).2.1 : Nat) : Int) by rw [wrap_i64 (by omega) (by omega)]; simp]
    refine ifbd (fun h4 => ?_) (fun h4 => no (readM_none (fun r qr qp q0 => ?_)) B offJ.nil)
    rotate_left
    · obtain ⟨v, _, _, _, b1, b2⟩ := bad r qr qp
      apply h4
      rw [b1]
      simp only
      omega
    obtain ⟨ok3, e3⟩ := tkI_0 h3
    have hz : List.drop (tkI rest).2.1 rest = [] := List.eq_nil_of_length_eq_zero (by rw [List.length_drop]; omega)
    rw [hz] at e3
    have hpr : p = recB (.st n (tkI rest).1) := by
      rw [ep]
      conv => lhs; rw [e3]
      simp [recB, Rec.nums, ebL]
    exact B.op offJ.nil (fun wa B _ => ref08_setTerm_spec B.A n (tkI rest).1) (fun h' w3 B _ hL _ => ⟨_, rfl, yes ⟨ok2, ok3⟩ hpr B hL⟩)
  refine ifbd (fun k2 => ?_) (fun k2 => ?_)
  · subst k2
    refine ⟨by omega, by omega, ?_⟩
    simp only [Int.toNat_natCast]
    have hs2 : ∀ b, (Sl.mk (slA s.a s.c (u + m) 1) (s.n - (u + m)) (s.c - (u + m))).on b → b < w2.heap.size := fun b hb => by have := (hso b (slA_on (s := s) hb)).2; have := B.T.t.size; omega
    refine B.v offJ.nil (fun wa _ t => ref06_Read_spec (s := ⟨slA s.a s.c (u + m) 1, s.n - (u + m), s.c - (u + m)⟩) (hd2.tr t (by simp [blk])) (by simp only; omega) (fun b hb => Nat.lt_of_lt_of_le (hs2 b hb) t.size) (by omega)) (fun w3 B t3 => ⟨(eRd rest).1, ((eRd rest).2.1 : Nat), (eRd rest).2.2, rfl, ?_⟩)
    intro b24 h24
    have hL : offJ w h [⟨b24, (eRd rest).1.cells, t_api_Entry⟩] := by
      intro b hb
      simp [blk] at hb
      subst hb
      exact ⟨by have := B.T.t.size; omega, fun hn => by have := B.A.lt hn; omega⟩
    have bad : ∀ r, Rec.ok r → p = recB r → ∃ e, eRd rest = (e, (ebL (flds e)).length, 0) ∧ rest.length = (ebL (flds e)).length := by
      intro r qr qp
      obtain ⟨tl, a1, a2⟩ := isr r qr qp
      cases r <;> simp [Rec.nums] at a1
      rename_i t e
      obtain ⟨rfl, rfl⟩ := a1
      exact ⟨e, by rw [a2]; exact eRd_e qr.2.1 qr.2.2, by rw [a2]⟩
    refine ifbd (fun h3 => ?_) (fun h3 => no (readM_none (fun r qr qp q0 => ?_)) B hL)
    rotate_left
    · obtain ⟨e, b1, _⟩ := bad r qr qp
      exact h3 (by rw [b1])
    obtain ⟨e, r3, g1, g2, g3, g4⟩ := eRd_0 h3
    rw [g1] at hL ⊢
    simp only at hL ⊢
    have hrl := congrArg List.length g4
    rw [List.length_append] at hrl
    rw [show IntKind.i64.wrap (((u + m : Nat) : Int) + ((ebL (flds e)).length : Nat)) = ((u + m + (ebL (flds e)).length : Nat) : Int) by rw [wrap_i64 (by omega) (by omega)]; simp]
    refine ifbd (fun h4 => ?_) (fun h4 => no (readM_none (fun r qr qp q0 => ?_)) B hL)
    rotate_left
    · obtain ⟨e', b1, b2⟩ := bad r qr qp
      rw [g1] at b1
      obtain rfl : e = e' := congrArg Prod.fst b1
      apply h4
      omega
    have hz : r3 = [] := List.eq_nil_of_length_eq_zero (by omega)
    have hpr : p = recB (.ap n e) := by
      rw [ep]
      rw [hz, List.append_nil] at g4
      conv => lhs; rw [g4]
      simp [recB, Rec.nums, ebL]
    exact B.op hL (fun wa B _ => ref08_add_spec B.A n e hl) (fun h' w3 B _ hL _ => ⟨_, rfl, yes ⟨ok2, g3, g2⟩ hpr B hL⟩)
  refine ifbd (fun k3 => ?_) (fun k3 => no (readM_none (fun r qr qp q0 => ?_)) B offJ.nil)
  rotate_left
  · obtain ⟨tl, a1, a2⟩ := isr r qr qp
    cases r <;> simp [Rec.nums] at a1 <;> omega
  subst k3
  refine ifbd (fun h4 => ?_) (fun h4 => no (readM_none (fun r qr qp q0 => ?_)) B offJ.nil)
  · have hz : rest = [] := List.eq_nil_of_length_eq_zero (by omega)
    have hpr : p = recB (.ct n) := by
      rw [ep, hz]
      simp [recB, Rec.nums, ebL]
    exact B.op offJ.nil (fun wa B _ => ref08_cut_spec B.A n hl) (fun h' w3 B _ hL _ => ⟨_, rfl, yes ok2 hpr B hL⟩)
  · obtain ⟨tl, a1, a2⟩ := isr r qr qp
    cases r <;> simp [Rec.nums] at a1
    obtain ⟨rfl, rfl⟩ := a1
    apply h4
    have : rest.length = 0 := by rw [a2]; rfl
    omega
end

end Go.Sh
