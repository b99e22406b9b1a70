/- The program's journal: New, Sync, add, cut, write, SetTerm, Append, Cut.
   Conditions: none. -/
import Derived.Test.YtoenaheehpjmiaaU5
namespace Go.Sh
open Go
set_option linter.unusedSimpArgs false
set_option linter.unusedVariables false
set_option maxHeartbeats 4000000

section
variable {Tj Td : TypeId} {w w' w0 : World} {h h0 h' : JH} {M M' : JM} {L : List LB}

/-- an entry appended to the journal's own log, and the new log laid into its block -/
theorem JN.grow {x : G_api_Logged} {bn T : Nat} {K : World → Prop} (B : JN Tj Td w0 h0 w h M) (hL : offJ w0 h L) (hn : Blk w bn (lgC x) T) (hbn : bn ∉ blk L) (hl : M.J.log.length ≤ 1000000)
    (k : ∀ h' w', JN Tj Td w0 h0 w' h' ⟨{ M.J with log := M.J.log ++ [x] }, M.b, M.d⟩ → offJ w0 h' L → K w') :
    RunL PP w0.heap.size w L (Builtin.append_ #[t_sl_api_Logged, t_sl_api_Logged] t_sl_api_Logged #[.slice h.lg.a h.lg.n h.lg.c, .slice (some ⟨bn, 0, none⟩) 1 1]) fun r w5 => ∃ l : Sl, r = .slice l.a l.n l.c ∧ NilL (some ⟨h.bj, 0, none⟩) fun q => StL w5 L (addA q 3) [.slice l.a l.n l.c] K := by
  have hlen := B.A.l.1
  refine RunL.appA B.T Anc.start el_sl_api_Logged.t (by decide) lgC_len lgC_one B.A.l (Blk.rd1 (x := x) hn) (fun h => by cases h) (by omega) (fun b hlt hb => (B.fr b (.inr (.inr hb))).elim id (fun h => by omega)) (fun b hb hm => (hL b hm).2 (.inr (.inr hb))) (fun b hb => by simp at hb; rw [← hb]; exact hbn) (fun s' w1 T1 t o f n => ⟨s', rfl, nilL ?_⟩)
  have zz := B.T.t.size
  have jlt := B.A.j.lt
  have j1 := B.A.j.tr t (by
    rintro c rfl (hm | hm)
    · exact (hL _ hm).2 (.inl rfl)
    · exact B.A.n2 hm)
  have d1 := B.A.d.tr t (by
    rintro c hc (hm | hm)
    · exact (hL _ hm).2 (.inr (.inl hc))
    · exact B.A.n3 c hc hm)
  have nbj : ¬ s'.on h.bj := fun hs => (f _ hs).elim B.A.n2 (fun hh => by omega)
  refine ⟨j1.room (o := 3) (by simp [jCells]), fun hm => (hL h.bj hm).2 (.inl rfl), ?_⟩
  have tp := (Touch.refl (fun b => b = h.bj) w1).putC (p := ⟨h.bj, 3, none⟩) (cs := [.slice s'.a s'.n s'.c]) (fun _ => rfl)
  have j2 : Blk _ h.bj (jCells { h with lg := s' } { M.J with log := M.J.log ++ [x] }) Tj := j1.putC 3 [.slice s'.a s'.n s'.c]
  have hT : Now h0.on w0 (putC w1 ⟨h.bj, 3, none⟩ [.slice s'.a s'.n s'.c]) := T1.putC (p := ⟨h.bj, 3, none⟩) (cs := [.slice s'.a s'.n s'.c]) (fun hl => (B.fr h.bj (.inl rfl)).elim id (fun hh => by simp at hl; omega))
  refine k { h with lg := s' } _ ⟨hT, ⟨j2, d1.tr tp (fun b hb e => B.A.n1 (e ▸ hb)), o.tr tp (fun b hb e => nbj (e ▸ hb)), B.A.n1, nbj, fun b hb hs => (f b hs).elim (B.A.n3 b hb) (fun hh => by have := B.A.d.lt hb; omega)⟩, B.ej, B.ed, ?_⟩ ?_
  · rintro b (hb | hb | hb)
    · exact B.fr b (.inl hb)
    · exact B.fr b (.inr (.inl hb))
    · exact (f b hb).elim (fun hh => B.fr b (.inr (.inr hh))) (fun hh => .inr (by omega))
  · intro b hm
    refine ⟨(hL b hm).1, ?_⟩
    rintro (hb | hb | hb)
    · exact (hL b hm).2 (.inl hb)
    · exact (hL b hm).2 (.inr (.inl hb))
    · exact n b hb hm

theorem journal_New_spec (w : World) : Spec PP n_journal_New [] w noB (fun v w' => ∃ h : JH, v = .pointer (some ⟨h.bj, 0, none⟩) ∧ JAt t_journal_Journal t_disk_Disk w' h jm0 ∧ ∀ b, h.on b → w.heap.size ≤ b) := by
  refine journal_New_calls _ w ?_
  unfold F_journal_New
  have T : Now noB w w := Now.refl
  refine CallL.pA T Anc.nil (fun wa _ _ => disk_New_spec wa) ?_
  rintro wa v w1 T t z1 z2 _ ⟨bd, rfl, D, hge⟩
  refine ⟨_, rfl, ?_⟩
  refine NewL.A T Anc.nil (fun b w2 T t2 h2 l2 => ?_)
  have hlt := D.c.lt
  refine Reb.A T Anc.nil (fun w3 T t3 => ⟨T.t, ⟨b, bd, ⟨none, 0, 0⟩, ⟨none, 0, 0⟩⟩, rfl, ⟨Blk.tr (cs := jCells ⟨b, bd, ⟨none, 0, 0⟩, ⟨none, 0, 0⟩⟩ j0) h2 t3 (by simp [blk]), (D.tr t2 (by simp [blk])).tr t3 (by simp [blk]), Own.nil, ?_, by simp, by simp⟩, ?_⟩)
  · rintro (hb | hb)
    · simp only at hb; omega
    · simp at hb
  · rintro b' (hb | (hb | hb) | hb)
    · simp only at hb; omega
    · simp only at hb; omega
    · simp at hb
    · simp at hb
end

section
variable {w : World} {h : JH} {M : JM}

theorem journal_add_spec (A : JAt t_journal_Journal t_disk_Disk w h M) (t : Int) (e : G_api_Entry) (hl : M.J.log.length ≤ 1000000) : Spec PP n_journal_Journal_add [.pointer (some ⟨h.bj, 0, none⟩), .int .i64 t, .agg (List.toArray e.cells)] w h.on
    (fun r w' => r = .int .i64 (errR M.J (.ap t e)) ∧ JP t_journal_Journal t_disk_Disk w h (apJ M (.ap t e)) w') := by
  refine journal_Journal_add_calls (some ⟨h.bj, 0, none⟩) t e _ w ?_
  unfold F_journal_Journal_add
  have B := JN.start A
  intro b28 h28
  have hL : offJ w h [⟨b28, e.cells, t_api_Entry⟩] := by
    intro b hb
    simp [blk] at hb
    subst hb
    exact ⟨h28, fun hn => by have := A.lt hn; omega⟩
  have hbj : h.bj ≠ b28 := fun hh => (hL b28 (by simp [blk])).2 (.inl hh.symm)
  have ni : ∀ {o : Nat}, NotIn (⟨h.bj, o, none⟩ : Addr).block [⟨b28, e.cells, t_api_Entry⟩] := by intro o; simp; exact hbj
  refine B.reb hL (fun w1 B _ => ?_)
  unfold C_journal_Journal_add_1
  have bad : ∀ {n : Int} {w' : World}, n ≠ 0 → errR M.J (.ap t e) = n → JN t_journal_Journal t_disk_Disk w h w' h M → Reb w.heap.size w' [⟨b28, e.cells, t_api_Entry⟩] ((fun (r : Value) w' => Touch h.on w w' ∧ (r = .int .i64 (errR M.J (.ap t e)) ∧ JP t_journal_Journal t_disk_Disk w h (apJ M (.ap t e)) w')) (Value.int .i64 n)) := by
    intro n w' hn he B
    have ha : apJ M (.ap t e) = M := by unfold apJ; rw [if_neg (by rw [he]; exact hn)]
    rw [ha, he]
    exact B.fin hL
  have key4 : ∀ (x : Bool) w', ¬ (t < 1 ∨ 1073741824 < t ∨ ¬ shapeP e) → (x = true → M.J.term < t ∨ t < lastT M.J.log) → (x = false → ¬ (M.J.term < t ∨ t < lastT M.J.log)) → JN t_journal_Journal t_disk_Disk w h w' h M →
      C_journal_Journal_add_4 w.heap.size (fun (r : Value) w' => Touch h.on w w' ∧ (r = .int .i64 (errR M.J (.ap t e)) ∧ JP t_journal_Journal t_disk_Disk w h (apJ M (.ap t e)) w')) (some ⟨h.bj, 0, none⟩) t b28 e t_api_Entry x w' := by
    intro x w' g1 x1 x2 B
    unfold C_journal_Journal_add_4
    have hn := B.A.l.1
    refine ifb (fun hx => bad (by decide) (by simp only [errR]; rw [if_neg g1, if_pos (x1 hx)]) B) (fun hx => ?_)
    have g2 := x2 hx
    refine nilL ⟨h.lg, B.A.j.at 3 rfl, ni (o := 3), ?_⟩
    refine ifbd (fun h3 => bad (by decide) (by simp only [errR]; rw [if_neg g1, if_neg g2, if_pos (by omega)]) B) (fun h3 => ?_)
    have e0 : errR M.J (.ap t e) = 0 := by simp only [errR]; rw [if_neg g1, if_neg g2, if_neg (by omega)]
    refine B.reb hL (fun w2 B _ => ?_)
    unfold C_journal_Journal_add_2
    refine nilL ⟨h.lg, B.A.j.at 3 rfl, ni (o := 3), ?_⟩
    refine B.new hL (fun bn w3 B _ hbn _ hbl _ => ?_)
    refine B.grow (x := ⟨t, e⟩) hL hbn hbl hl (fun h' w4 B hL' => ?_)
    have ha : apJ M (.ap t e) = ⟨{ M.J with log := M.J.log ++ [⟨t, e⟩] }, M.b, M.d⟩ := by unfold apJ; rw [if_pos e0]; rfl
    rw [ha, e0]
    exact B.fin hL'
  have key3 : ∀ (x : Bool) w', (x = true → t < 1 ∨ 1073741824 < t ∨ ¬ shapeP e) → (x = false → ¬ (t < 1 ∨ 1073741824 < t ∨ ¬ shapeP e)) → JN t_journal_Journal t_disk_Disk w h w' h M →
      C_journal_Journal_add_3 w.heap.size (fun (r : Value) w' => Touch h.on w w' ∧ (r = .int .i64 (errR M.J (.ap t e)) ∧ JP t_journal_Journal t_disk_Disk w h (apJ M (.ap t e)) w')) (some ⟨h.bj, 0, none⟩) t b28 e t_api_Entry x w' := by
    intro x w' x1 x2 B
    unfold C_journal_Journal_add_3
    have hn := B.A.l.1
    refine ifb (fun hx => bad (by decide) (by simp only [errR]; rw [if_pos (x1 hx)]) B) (fun hx => ?_)
    have g1 := x2 hx
    refine nilL ⟨M.J.term, B.A.j.at 1 rfl, ni (o := 1), ?_⟩
    refine ifbd (fun h2 => B.reb hL (fun w2 B _ => key4 _ _ g1 (fun _ => .inl h2) (fun h => by cases h) B)) (fun h2 => ?_)
    refine nilL ⟨h.lg, B.A.j.at 3 rfl, ni (o := 3), ?_⟩
    rw [wrap_i64 (x := ((h.lg.n : Nat) : Int) - 1) (by omega) (by omega), ← hn]
    refine B.v hL (fun wa B _ => journal_TermAt_spec B.A _) (fun w2 B _ => ⟨_, rfl, ?_⟩)
    rw [lastT_eq]
    exact B.reb hL (fun w2 B _ => key4 _ _ g1 (fun h => .inr (of_decide_eq_true h)) (fun h => by rintro (hh | hh); exact h2 hh; exact (of_decide_eq_false h) hh) B)
  refine ifbd (fun h1 => B.reb hL (fun w2 B _ => key3 _ _ (fun _ => .inl h1) (fun h => by cases h) B)) (fun h1 => ?_)
  refine ifbd (fun h2 => B.reb hL (fun w2 B _ => key3 _ _ (fun _ => .inr (.inl h2)) (fun h => by cases h) B)) (fun h2 => ?_)
  refine B.v hL (fun wa _ _ => entry_Shape_spec e wa) (fun w2 B _ => ⟨_, rfl, ?_⟩)
  exact B.reb hL (fun w2 B _ => key3 _ _ (fun h => .inr (.inr (by simpa using h))) (fun h => by
    have hs : shapeP e := by simpa using h
    rintro (hh | hh | hh)
    · exact h1 hh
    · exact h2 hh
    · exact hh hs) B)

theorem journal_cut_spec (A : JAt t_journal_Journal t_disk_Disk w h M) (n : Int) (hl : M.J.log.length ≤ 1000000) : Spec PP n_journal_Journal_cut [.pointer (some ⟨h.bj, 0, none⟩), .int .i64 n] w h.on
    (fun r w' => r = .int .i64 (errR M.J (.ct n)) ∧ JP t_journal_Journal t_disk_Disk w h (apJ M (.ct n)) w') := by
  refine journal_Journal_cut_calls (some ⟨h.bj, 0, none⟩) n _ w ?_
  unfold F_journal_Journal_cut
  have B := JN.start A
  have hn := A.l.1
  have hcap := A.l.cap.1
  have bad : (n < 0 ∨ (M.J.log.length : Int) < n) → Reb w.heap.size w [] ((fun (r : Value) w' => Touch h.on w w' ∧ (r = .int .i64 (errR M.J (.ct n)) ∧ JP t_journal_Journal t_disk_Disk w h (apJ M (.ct n)) w')) (Value.int .i64 1)) := by
    intro hb
    have he : errR M.J (.ct n) = 1 := by simp only [errR]; rw [if_pos hb]
    have ha : apJ M (.ct n) = M := by unfold apJ; rw [if_neg (by rw [he]; decide)]
    rw [ha, he]
    exact B.fin offJ.nil
  refine ifbd (fun h1 => bad (.inl h1)) (fun h1 => ?_)
  refine nilL ⟨h.lg, A.j.at 3 rfl, notIn_nil, ?_⟩
  refine ifbd (fun h2 => bad (.inr (by omega))) (fun h2 => ?_)
  have he : errR M.J (.ct n) = 0 := by simp only [errR]; rw [if_neg (by omega)]
  have ha : apJ M (.ct n) = ⟨{ M.J with log := M.J.log.take n.toNat }, M.b, M.d⟩ := by unfold apJ; rw [if_pos he]; rfl
  rw [ha, he]
  refine nilL ⟨h.lg, A.j.at 3 rfl, notIn_nil, by omega, by omega, ?_⟩
  refine nilL (B.put (h' := { h with lg := ⟨h.lg.a, n.toNat, h.lg.c⟩ }) (M' := ⟨{ M.J with log := M.J.log.take n.toNat }, M.b, M.d⟩) (o := 3) offJ.nil rfl rfl rfl rfl (by simp) rfl rfl (A.l.takeN lgC_len (by omega)) (fun b hb => .inl hb) (fun b hb => ⟨fun hd => A.n3 b hd hb, fun e => A.n2 (e ▸ hb), by simp [blk]⟩) (fun w2 B _ => B.fin offJ.nil))

/-- a record's bytes laid onto the disk, unless the call has failed -/
def wrM (M : JM) (e : Int) (p : List UInt8) : JM := if e = 0 then ⟨M.J, M.b ++ putF p, M.d⟩ else M

theorem journal_write_spec (A : JAt t_journal_Journal t_disk_Disk w h M) (e : Int) {s q : Sl} {tb : List UInt8} {ns : List Int} (hr : Rd byteC 1 w s tb) (hc : s.a = none → s.c = 0) (hq : Rd intC' 1 w q ns) (hI : e = 0 → ∀ n ∈ ns, okI n) (hns : ns.length ≤ 3) (ht : tb.length ≤ 1000) (hb : M.b.length ≤ 90000000) :
    Spec PP n_journal_Journal_write [.pointer (some ⟨h.bj, 0, none⟩), .int .i64 e, .slice s.a s.n s.c, .slice q.a q.n q.c] w h.on (fun r w' => r = .int .i64 e ∧ JP t_journal_Journal t_disk_Disk w h (wrM M e (ebL ns ++ tb)) w') := by
  refine journal_Journal_write_calls (some ⟨h.bj, 0, none⟩) e s q _ w ?_
  unfold F_journal_Journal_write
  have B := JN.start A
  have hqn := hq.1
  have hsn := hr.1
  refine B.reb offJ.nil (fun w1 B t => ?_)
  replace hr := hr.tr t (by simp [blk])
  replace hq := hq.tr t (by simp [blk])
  unfold C_journal_Journal_write_1
  refine ifbnd (fun he => ?_) (fun he => ?_)
  · have : wrM M e (ebL ns ++ tb) = M := by unfold wrM; rw [if_neg he]
    rw [this]
    exact B.fin offJ.nil
  subst he
  have hw : wrM M 0 (ebL ns ++ tb) = ⟨M.J, M.b ++ putF (ebL ns ++ tb), M.d⟩ := by unfold wrM; rw [if_pos rfl]
  rw [hw]
  refine B.reb offJ.nil (fun w1 B t => ?_)
  replace hr := hr.tr t (by simp [blk])
  replace hq := hq.tr t (by simp [blk])
  unfold C_journal_Journal_write_2
  refine B.reb offJ.nil (fun w1 B t => ?_)
  replace hr := hr.tr t (by simp [blk])
  replace hq := hq.tr t (by simp [blk])
  unfold C_journal_Journal_write_3
  refine B.reb offJ.nil (fun w1 B t => ?_)
  replace hr := hr.tr t (by simp [blk])
  replace hq := hq.tr t (by simp [blk])
  unfold C_journal_Journal_write_5
  refine LoopC.mk (fun x w' => ∃ k : Nat, x.2 = (k : Int) ∧ k ≤ ns.length ∧ JN t_journal_Journal t_disk_Disk w h w' h M ∧ Own byteC 1 t_u8 w' x.1 (ebL (ns.take k)) ∧ (∀ b, x.1.on b → w.heap.size ≤ b ∧ ¬ h.on b) ∧ Rd byteC 1 w' s tb ∧ Rd intC' 1 w' q ns ∧ (ebL (ns.take k)).length ≤ 10 * k) (fun x => ns.length - x.2.toNat) ?_ ?_
  · refine B.reb offJ.nil (fun w2 B t => ⟨0, rfl, by omega, B, Own.nil, by simp, hr.tr t (by simp [blk]), hq.tr t (by simp [blk]), by simp [ebL]⟩)
  · rintro ⟨sl, i⟩ wb ⟨k, hi, hk, B, ho, hon, hr, hq, hlen⟩
    simp only at hi ho hon
    subst hi
    unfold L_journal_Journal_write_6
    dsimp only
    unfold B_journal_Journal_write_6
    refine ifbd (fun hlt => ?_) (fun hlt => ?_)
    · refine hq.idx (by omega) (by omega) (fun p x hp hx ha => ⟨x, ha, notIn_nil, ?_⟩)
      rw [Int.toNat_natCast] at hx
      have hx' := hI rfl x (List.mem_of_getElem? hx)
      have hkl := (List.getElem?_eq_some_iff.1 hx).1
      have zw := B.T.t.size
      have zA : ∀ b, h.on b → b < wb.heap.size := fun b hb => B.A.lt hb
      refine B.p offJ.nil (fun wa _ t => wire_Int_spec hx'.1 hx'.2 ((ho.tr t (by simp [blk])).rd byteC_len) ho.cap0 (by omega)) ?_
      rintro wa v w2 B t z1 _ ⟨s2, rfl, o2, f2⟩
      refine ⟨s2, rfl, ?_⟩
      have zb : ∀ b, s2.on b → w.heap.size ≤ b ∧ ¬ h.on b := fun b hb => by
        have h1 := f2 b hb
        exact ⟨by omega, fun hn => by have := zA b hn; omega⟩
      have step : IntKind.i64.wrap ((k : Int) + 1) = ((k + 1 : Nat) : Int) := by rw [wrap_i64 (by omega) (by omega)]; simp
      have eb : ebL (ns.take (k + 1)) = ebL (ns.take k) ++ vb (zz x) := by
        rw [take_snoc hx]; unfold ebL; rw [List.flatMap_append, List.flatMap_cons, List.flatMap_nil, List.append_nil]
      refine B.reb offJ.nil (fun w3 B t3 => ⟨rfl, ⟨k + 1, step, by omega, B, by rw [eb]; exact o2.tr t3 (by simp [blk]), zb, (hr.tr t (by simp [blk])).tr t3 (by simp [blk]), (hq.tr t (by simp [blk])).tr t3 (by simp [blk]), ?_⟩, by simp only [step]; omega⟩)
      rw [eb, List.length_append]
      have := vb_len10 (zz_lt hx'.1 hx'.2)
      omega
    · have hkn : k = ns.length := by omega
      subst hkn
      rw [List.take_length] at ho hlen
      refine B.reb offJ.nil (fun w2 B t => ?_)
      replace hr := hr.tr t (by simp [blk])
      replace ho := ho.tr t (by simp [blk])
      unfold C_journal_Journal_write_4
      refine nilL ⟨some ⟨h.bd, 0, none⟩, B.A.j.at 0 rfl, notIn_nil, ?_⟩
      have hn := ho.1
      refine RunL.appA B.T Anc.start el_sl_u8.t (by decide) byteC_len byteC_one ho hr hc (by omega) (fun b hlt hb => by have := (hon b hb).1; omega) (by simp [blk]) (by simp [blk]) (fun s2 w3 T t2 o2 f2 n2 => ⟨s2, rfl, ?_⟩)
      have B3 := B.gen T t2 (by
        rintro b (hb | hb)
        · simp [blk] at hb
        · exact (hon b hb).2)
      refine ⟨B3.A.j.at 0 rfl, ?_⟩
      have hc2 := o2.cap0
      have hpl : (ebL ns ++ tb).length ≤ 65536 := by rw [List.length_append]; omega
      refine B3.p offJ.nil (fun wa _ t => frame_Put_spec ((o2.tr t (by simp [blk])).rd byteC_len) hc2 hpl) ?_
      rintro wa v w4 B4 t4 z4 _ ⟨s4, rfl, o4, f4⟩
      refine ⟨s4, rfl, B4.A.j.at 0 rfl, ?_⟩
      have hc4 := o4.cap0
      have hfl : (putF (ebL ns ++ tb)).length ≤ 70000 := by
        rw [putF_len]
        have := vb_len10 (zz_lt (n := ((ebL ns ++ tb).length : Int)) (by omega) (by omega))
        omega
      refine B4.dk offJ.nil (fun wa Ba t => disk_Append_spec Ba.A.d ((o4.tr t (by simp [blk])).rd byteC_len) hc4 (by omega)) (fun h' w5 B5 _ _ hL5 _ => ⟨rfl, B5.fin hL5⟩)

theorem opM_eq {M : JM} {r : Rec} : wrM (apJ M r) (errR M.J r) (recB r) = opM M r := by
  unfold wrM apJ opM
  by_cases he : errR M.J r = 0
  · rw [if_pos he, if_pos he, if_pos he]
  · rw [if_neg he, if_neg he, if_neg he]
theorem apJ_b {M : JM} {r : Rec} : (apJ M r).b = M.b := by unfold apJ; split <;> rfl

theorem journal_SetTerm_spec (A : JAt t_journal_Journal t_disk_Disk w h M) (t v : Int) (hl : M.J.log.length ≤ 1000000) (hb : M.b.length ≤ 90000000) : Spec PP n_journal_Journal_SetTerm [.pointer (some ⟨h.bj, 0, none⟩), .int .i64 t, .int .i64 v] w h.on
    (fun r w' => r = .int .i64 (errR M.J (.st t v)) ∧ JP t_journal_Journal t_disk_Disk w h (opM M (.st t v)) w') := by
  refine journal_Journal_SetTerm_calls (some ⟨h.bj, 0, none⟩) t v _ w ?_
  unfold F_journal_Journal_SetTerm
  have B := JN.start A
  refine B.op offJ.nil (fun wa B _ => journal_setTerm_spec B.A t v) (fun h' w1 B _ _ _ => ⟨_, rfl, ?_⟩)
  refine B.new offJ.nil (fun bn w2 B _ hbn _ _ hnj => ?_)
  have hr : Rd intC' 1 w2 ⟨some ⟨bn, 0, none⟩, 3, 3⟩ [1, t, v] := Blk.rdL (xs := [1, t, v]) hbn rfl
  rw [show h.bj = h'.bj from B.ej.symm]
  have hsp : ∀ wa, JN t_journal_Journal t_disk_Disk w h wa h' (apJ M (.st t v)) → Touch (fun b => b ∈ blk []) w2 wa → Spec PP n_journal_Journal_write [.pointer (some ⟨h'.bj, 0, none⟩), .int .i64 (errR M.J (.st t v)), .slice none 0 0, .slice (some ⟨bn, 0, none⟩) 3 3] wa h'.on (fun r w' => r = .int .i64 (errR M.J (.st t v)) ∧ JP t_journal_Journal t_disk_Disk wa h' (wrM (apJ M (.st t v)) (errR M.J (.st t v)) (ebL [1, t, v] ++ [])) w') := by
    intro wa B t'
    have hI : errR M.J (.st t v) = 0 → ∀ x ∈ [1, t, v], okI x := fun he => Rec.ok.nums (errR_ok hl he)
    have hb' : (apJ M (.st t v)).b.length ≤ 90000000 := by rw [apJ_b]; exact hb
    exact journal_write_spec (s := ⟨none, 0, 0⟩) (q := ⟨some ⟨bn, 0, none⟩, 3, 3⟩) (tb := []) (ns := [1, t, v]) B.A (errR M.J (.st t v)) Rd.nil (fun _ => rfl) (hr.tr t' (by simp [blk])) hI (by simp) (by simp) hb'
  refine B.op offJ.nil (fun wa B t' => hsp wa B t') (fun h2 w3 B _ hL _ => ⟨_, rfl, ?_⟩)
  rw [List.append_nil, show ebL [1, t, v] = recB (.st t v) from rfl, opM_eq] at B
  exact B.fin hL

theorem journal_Cut_spec (A : JAt t_journal_Journal t_disk_Disk w h M) (n : Int) (hl : M.J.log.length ≤ 1000000) (hb : M.b.length ≤ 90000000) : Spec PP n_journal_Journal_Cut [.pointer (some ⟨h.bj, 0, none⟩), .int .i64 n] w h.on
    (fun r w' => r = .int .i64 (errR M.J (.ct n)) ∧ JP t_journal_Journal t_disk_Disk w h (opM M (.ct n)) w') := by
  refine journal_Journal_Cut_calls (some ⟨h.bj, 0, none⟩) n _ w ?_
  unfold F_journal_Journal_Cut
  have B := JN.start A
  refine B.op offJ.nil (fun wa B _ => journal_cut_spec B.A n hl) (fun h' w1 B _ _ _ => ⟨_, rfl, ?_⟩)
  refine B.new offJ.nil (fun bn w2 B _ hbn _ _ hnj => ?_)
  have hr : Rd intC' 1 w2 ⟨some ⟨bn, 0, none⟩, 2, 2⟩ [3, n] := Blk.rdL (xs := [3, n]) hbn rfl
  rw [show h.bj = h'.bj from B.ej.symm]
  have hsp : ∀ wa, JN t_journal_Journal t_disk_Disk w h wa h' (apJ M (.ct n)) → Touch (fun b => b ∈ blk []) w2 wa → Spec PP n_journal_Journal_write [.pointer (some ⟨h'.bj, 0, none⟩), .int .i64 (errR M.J (.ct n)), .slice none 0 0, .slice (some ⟨bn, 0, none⟩) 2 2] wa h'.on (fun r w' => r = .int .i64 (errR M.J (.ct n)) ∧ JP t_journal_Journal t_disk_Disk wa h' (wrM (apJ M (.ct n)) (errR M.J (.ct n)) (ebL [3, n] ++ [])) w') := by
    intro wa B t'
    have hI : errR M.J (.ct n) = 0 → ∀ x ∈ [3, n], okI x := fun he => Rec.ok.nums (errR_ok hl he)
    have hb' : (apJ M (.ct n)).b.length ≤ 90000000 := by rw [apJ_b]; exact hb
    exact journal_write_spec (s := ⟨none, 0, 0⟩) (q := ⟨some ⟨bn, 0, none⟩, 2, 2⟩) (tb := []) (ns := [3, n]) B.A (errR M.J (.ct n)) Rd.nil (fun _ => rfl) (hr.tr t' (by simp [blk])) hI (by simp) (by simp) hb'
  refine B.op offJ.nil (fun wa B t' => hsp wa B t') (fun h2 w3 B _ hL _ => ⟨_, rfl, ?_⟩)
  rw [List.append_nil, show ebL [3, n] = recB (.ct n) from rfl, opM_eq] at B
  exact B.fin hL

theorem journal_Append_spec (A : JAt t_journal_Journal t_disk_Disk w h M) (t : Int) (e : G_api_Entry) (he : ∀ n ∈ flds e, okI n) (hl : M.J.log.length ≤ 1000000) (hb : M.b.length ≤ 90000000) : Spec PP n_journal_Journal_Append [.pointer (some ⟨h.bj, 0, none⟩), .int .i64 t, .agg (List.toArray e.cells)] w h.on
    (fun r w' => r = .int .i64 (errR M.J (.ap t e)) ∧ JP t_journal_Journal t_disk_Disk w h (opM M (.ap t e)) w') := by
  refine journal_Journal_Append_calls (some ⟨h.bj, 0, none⟩) t e _ w ?_
  unfold F_journal_Journal_Append
  have B := JN.start A
  intro b1 h1
  have hL : offJ w h [⟨b1, e.cells, t_api_Entry⟩] := by
    intro b hb
    simp [blk] at hb
    subst hb
    exact ⟨h1, fun hn => by have := A.lt hn; omega⟩
  have hb' : (apJ M (.ap t e)).b.length ≤ 90000000 := by rw [apJ_b]; exact hb
  have hI : errR M.J (.ap t e) = 0 → ∀ x ∈ [2, t], okI x := fun h0 x hx => Rec.ok.nums (errR_ok hl h0) x (by
    simp only [List.mem_cons, List.not_mem_nil, or_false] at hx
    simp only [Rec.nums, List.mem_cons]
    rcases hx with rfl | rfl
    · exact .inl rfl
    · exact .inr (.inl rfl))
  have ebl : (ebL (flds e)).length ≤ 1000 := by
    have h1 : ∀ ns : List Int, (∀ n ∈ ns, okI n) → (ebL ns).length ≤ ns.length * 10 := by
      intro ns
      induction ns with
      | nil => intro _; simp [ebL]
      | cons n ns ih =>
        intro h
        have h1 := ih (fun x hx => h x (by simp [hx]))
        have hn := h n (by simp)
        have h2 := vb_len10 (zz_lt hn.1 hn.2)
        simp only [ebL, List.flatMap_cons, List.length_append, List.length_cons] at h1 ⊢
        omega
    have := h1 _ he
    have : (flds e).length = 9 := rfl
    omega
  have wr : ∀ {L : List LB} {h' : JH} {w1 : World} {s : Sl} {bn : Nat}, JN t_journal_Journal t_disk_Disk w h w1 h' (apJ M (.ap t e)) → offJ w h' L → Own byteC 1 t_u8 w1 s (ebL (flds e)) → (∀ b, s.on b → b ∉ blk L) → Rd intC' 1 w1 ⟨some ⟨bn, 0, none⟩, 2, 2⟩ [2, t] → bn ∉ blk L →
      CallL PP w.heap.size w1 L n_journal_Journal_write [.pointer (some ⟨h.bj, 0, none⟩), .int .i64 (errR M.J (.ap t e)), .slice s.a s.n s.c, .slice (some ⟨bn, 0, none⟩) 2 2] fun r11 w12 => ∃ n10 : Int, r11 = .int .i64 n10 ∧ Reb w.heap.size w12 L ((fun (r : Value) w' => Touch h.on w w' ∧ (r = .int .i64 (errR M.J (.ap t e)) ∧ JP t_journal_Journal t_disk_Disk w h (opM M (.ap t e)) w')) (Value.int .i64 n10)) := by
    intro L h' w1 s bn B hL o hs hr hbn
    rw [show h.bj = h'.bj from B.ej.symm]
    have hsp : ∀ wa, JN t_journal_Journal t_disk_Disk w h wa h' (apJ M (.ap t e)) → Touch (fun b => b ∈ blk L) w1 wa → Spec PP n_journal_Journal_write [.pointer (some ⟨h'.bj, 0, none⟩), .int .i64 (errR M.J (.ap t e)), .slice s.a s.n s.c, .slice (some ⟨bn, 0, none⟩) 2 2] wa h'.on (fun r w' => r = .int .i64 (errR M.J (.ap t e)) ∧ JP t_journal_Journal t_disk_Disk wa h' (wrM (apJ M (.ap t e)) (errR M.J (.ap t e)) (ebL [2, t] ++ ebL (flds e))) w') := by
      intro wa B t'
      exact journal_write_spec (s := s) (q := ⟨some ⟨bn, 0, none⟩, 2, 2⟩) (tb := ebL (flds e)) (ns := [2, t]) B.A (errR M.J (.ap t e)) ((o.tr t' hs).rd byteC_len) o.cap0 (hr.tr t' (by intro b hb; simp at hb; rw [← hb]; exact hbn)) hI (by simp) ebl hb'
    refine B.op hL (fun wa B t' => hsp wa B t') (fun h2 w3 B _ hL _ => ⟨_, rfl, ?_⟩)
    have er : ebL [2, t] ++ ebL (flds e) = recB (.ap t e) := by simp [ebL, recB, Rec.nums]
    rw [er, opM_eq] at B
    exact B.fin hL
  refine ⟨?_, ?_⟩
  · refine B.op hL (fun wa B _ => journal_add_spec B.A t e hl) (fun h' w1 B f1 hL' t1 => ⟨_, rfl, ?_⟩)
    refine ⟨?_, ?_⟩
    · refine B.p hL' (fun wa _ t => entry_Bytes_spec e he wa) ?_
      rintro wa v w2 B t2 z2 y2 ⟨s, rfl, o, f⟩
      refine ⟨s, rfl, ?_⟩
      have hs : ∀ b, s.on b → b ∉ blk [(⟨b1, e.cells, t_api_Entry⟩ : LB)] := fun b hb hm => by have := f b hb; have := y2 b hm; omega
      refine B.new hL' (fun bn w3 B t3 hbn _ hbl _ => ?_)
      exact wr B hL' (o.tr t3 hs) hs (Blk.rdL (xs := [2, t]) hbn rfl) hbl
    · refine B.new hL' (fun bn w2 B t2 hbn zn hbl _ => ?_)
      have hlt := Blk.lt hbn
      refine B.p hL' (fun wa _ t => entry_Bytes_spec e he wa) ?_
      rintro wa v w3 B t3 z3 y3 ⟨s, rfl, o, f⟩
      refine ⟨s, rfl, ?_⟩
      have hs : ∀ b, s.on b → b ∉ blk [(⟨b1, e.cells, t_api_Entry⟩ : LB)] := fun b hb hm => by have := f b hb; have := y3 b hm; omega
      exact wr B hL' o hs (Blk.rdL (xs := [2, t]) (hbn.tr t3 (by rintro c rfl; exact hbl)) rfl) hbl
  · refine B.new hL (fun bn w1 B t1 hbn zn hbl hnj => ?_)
    have hlt := Blk.lt hbn
    refine B.op hL (fun wa B _ => journal_add_spec B.A t e hl) (fun h' w2 B f2 hL' t2 => ⟨_, rfl, ?_⟩)
    replace hbn := hbn.tr t2 (by
      rintro c rfl (hm | hm)
      · exact hbl hm
      · exact hnj hm)
    refine B.p hL' (fun wa _ t => entry_Bytes_spec e he wa) ?_
    rintro wa v w3 B t3 z3 y3 ⟨s, rfl, o, f⟩
    refine ⟨s, rfl, ?_⟩
    have hs : ∀ b, s.on b → b ∉ blk [(⟨b1, e.cells, t_api_Entry⟩ : LB)] := fun b hb hm => by have := f b hb; have := y3 b hm; omega
    exact wr B hL' o hs (Blk.rdL (xs := [2, t]) (hbn.tr t3 (by rintro c rfl; exact hbl)) rfl) hbl
end

end Go.Sh
