/- Two journals: rules; same, both; JournalPlays.
   Conditions: none. -/
import Derived.Test.YtoenaheehpjmiaaU18
import Derived.Test.YtoenaheehpjmiaaU10
import Derived.Test.YtoenaheehpjmiaaEW
namespace Go.Sh
open Go
set_option linter.unusedSimpArgs false
set_option linter.unusedVariables false
set_option maxHeartbeats 4000000

theorem make_BetweenW_spec {v a b : Int} (h : a ≤ b) (h1 : -4000000000 ≤ a) (h2 : b ≤ 4000000000) (w : World) : Spec PP n_cellplanemake_Between [.int .i64 v, .int .i64 a, .int .i64 b] w noB (fun r _ => r = .int .i64 (betM v a b)) := by
  refine cellplanemake_Between_calls v a b _ w ?_
  unfold F_cellplanemake_Between
  have T : Now noB w w := Now.refl
  rw [wrap_i64 (x := b - a) (by omega) (by omega), wrap_i64 (x := b - a + 1) (by omega) (by omega)]
  refine CallL.vA T Anc.nil (fun wa _ _ => make_Mod_spec (by omega) (by omega) wa) (fun w1 T t => ⟨_, rfl, ?_⟩)
  have := modM_range (v := v) (n := b - a + 1) (by omega)
  rw [wrap_i64 (by omega) (by omega)]
  exact Reb.A T Anc.nil (fun w2 T t => ⟨T.t, rfl⟩)

/-- terms that a journal may have -/
def TB (J : JC) : Prop := 0 ≤ J.term ∧ J.term ≤ 1073741824
theorem TB.do {J : JC} {r : Rec} (h : TB J) (h0 : errR J r = 0) : TB (doR J r) := by
  cases r with
  | st t v =>
    simp only [errR] at h0
    split at h0
    · omega
    · exact ⟨by simp only [doR]; omega, by simp only [doR]; omega⟩
  | ap t e => exact h
  | ct n => exact h
theorem TB.op {M : JM} {r : Rec} (h : TB M.J) : TB (opM M r).J := by
  by_cases h0 : errR M.J r = 0
  · rw [opM_ok h0]; exact h.do h0
  · rw [opM_no h0]; exact h
theorem TB.replay : ∀ (k : Nat) (J : JC) (b : List UInt8), b.length ≤ k → TB J → TB (replay J b).1 := by
  intro k
  induction k with
  | zero =>
    intro J b hb h
    have : b = [] := List.eq_nil_of_length_eq_zero (by omega)
    subst this
    rw [replay_none takeM_nil]; exact h
  | succ k ih =>
    intro J b hb h
    cases ht : takeM b with
    | none => rw [replay_none ht]; exact h
    | some x =>
      obtain ⟨p, n⟩ := x
      cases hr : readM J p with
      | none => rw [replay_bad ht hr]; exact h
      | some J' =>
        rw [replay_step ht hr]
        have hn := takeM_le ht
        have hd : (b.drop n).length = b.length - n := List.length_drop
        obtain ⟨r, _, _, h0, rfl⟩ := readM_some hr
        exact ih _ (b.drop n) (by omega) (h.do h0)
theorem TB.j0 : TB j0 := ⟨by simp [Go.Sh.j0], by simp [Go.Sh.j0]⟩
theorem TB.crash {M : JM} {k : Int} : TB (crashM M k).J := TB.replay _ _ _ (Nat.le_refl _) TB.j0

/-- where a call stands that has two journals -/
structure PN (Tj Td Tr Tq : TypeId) (S0 : Nat → Prop) (w0 w : World) (bj br : Nat) (h g : JH) (M M' : JM) : Prop where
  T : Now S0 w0 w
  A : JAt Tj Td w h M
  R : JAt Tr Tq w g M'
  ej : h.bj = bj
  er : g.bj = br
  fj : ∀ b, h.on b → S0 b ∨ w0.heap.size ≤ b
  fr : ∀ b, g.on b → S0 b ∨ w0.heap.size ≤ b
  d : ∀ b, h.on b → ¬ g.on b
def offP (w0 : World) (h g : JH) (L : List LB) : Prop := ∀ b ∈ blk L, w0.heap.size ≤ b ∧ ¬ h.on b ∧ ¬ g.on b
section
variable {Tj Td Tr Tq : TypeId} {S0 S : Nat → Prop} {w0 w w' : World} {bj br : Nat} {h g : JH} {M M' M2 : JM} {L : List LB}
theorem offP.nil : offP w0 h g [] := fun b hb => by simp [blk] at hb
theorem offP.swap (hL : offP w0 h g L) : offP w0 g h L := fun b hb => ⟨(hL b hb).1, (hL b hb).2.2, (hL b hb).2.1⟩
theorem PN.swap (B : PN Tj Td Tr Tq S0 w0 w bj br h g M M') : PN Tr Tq Tj Td S0 w0 w br bj g h M' M := ⟨B.T, B.R, B.A, B.er, B.ej, B.fr, B.fj, fun b hb hh => B.d b hh hb⟩
theorem PN.gen (B : PN Tj Td Tr Tq S0 w0 w bj br h g M M') (T : Now S0 w0 w') (t : Touch S w w') (hS : ∀ b, S b → ¬ h.on b ∧ ¬ g.on b) : PN Tj Td Tr Tq S0 w0 w' bj br h g M M' :=
  ⟨T, B.A.tr t (fun b hb hs => (hS b hs).1 hb), B.R.tr t (fun b hb hs => (hS b hs).2 hb), B.ej, B.er, B.fj, B.fr, B.d⟩
theorem PN.reb {K : World → Prop} (B : PN Tj Td Tr Tq S0 w0 w bj br h g M M') (hL : offP w0 h g L) (k : ∀ w', PN Tj Td Tr Tq S0 w0 w' bj br h g M M' → Touch (fun b => b ∈ blk L) w w' → K w') : Reb w0.heap.size w L K :=
  Reb.A B.T Anc.start (fun w' T t => k w' (B.gen T t (fun b hb => (hL b hb).2)) t)
theorem PN.v {f : FuncId} {args : List Value} {R : Value → World → Prop} {m : Value} (B : PN Tj Td Tr Tq S0 w0 w bj br h g M M') (hL : offP w0 h g L)
    (hs : ∀ wa, PN Tj Td Tr Tq S0 w0 wa bj br h g M M' → Touch (fun b => b ∈ blk L) w wa → Spec PP f args wa noB (fun v _ => v = m)) (k : ∀ w', PN Tj Td Tr Tq S0 w0 w' bj br h g M M' → Touch (fun b => b ∈ blk L) w w' → R m w') : CallL PP w0.heap.size w L f args R :=
  CallL.vA B.T Anc.start (fun wa T t => hs wa (B.gen T t (fun b hb => (hL b hb).2)) t) (fun w' T t => k w' (B.gen T t (fun b hb => (hL b hb).2)) t)
theorem PN.p {f : FuncId} {args : List Value} {R : Value → World → Prop} {R' : World → Value → World → Prop} (B : PN Tj Td Tr Tq S0 w0 w bj br h g M M') (hL : offP w0 h g L)
    (hs : ∀ wa, PN Tj Td Tr Tq S0 w0 wa bj br h g M M' → Touch (fun b => b ∈ blk L) w wa → Spec PP f args wa noB (R' wa))
    (k : ∀ wa v w', PN Tj Td Tr Tq S0 w0 w' bj br h g M M' → Touch (fun b => b ∈ blk L) w w' → w.heap.size ≤ wa.heap.size → R' wa v w' → R v w') : CallL PP w0.heap.size w L f args R :=
  CallL.pA B.T Anc.start (fun wa T t => hs wa (B.gen T t (fun b hb => (hL b hb).2)) t) (fun wa v w' T t z1 _ y hr => k wa v w' (B.gen T t (fun b hb => (hL b hb).2)) t z1 hr)
theorem PN.getJ {f : FuncId} {args : List Value} {R : Value → World → Prop} {m : Value} (B : PN Tj Td Tr Tq S0 w0 w bj br h g M M') (hL : offP w0 h g L)
    (hs : ∀ wa, JAt Tj Td wa h M → Spec PP f (.pointer (some ⟨h.bj, 0, none⟩) :: args) wa noB (fun v _ => v = m)) (k : ∀ w', PN Tj Td Tr Tq S0 w0 w' bj br h g M M' → Touch (fun b => b ∈ blk L) w w' → R m w') :
    CallL PP w0.heap.size w L f (.pointer (some ⟨bj, 0, none⟩) :: args) R := by
  obtain rfl := B.ej
  exact B.v hL (fun wa B _ => hs wa B.A) k
theorem PN.getR {f : FuncId} {args : List Value} {R : Value → World → Prop} {m : Value} (B : PN Tj Td Tr Tq S0 w0 w bj br h g M M') (hL : offP w0 h g L)
    (hs : ∀ wa, JAt Tr Tq wa g M' → Spec PP f (.pointer (some ⟨g.bj, 0, none⟩) :: args) wa noB (fun v _ => v = m)) (k : ∀ w', PN Tj Td Tr Tq S0 w0 w' bj br h g M M' → Touch (fun b => b ∈ blk L) w w' → R m w') :
    CallL PP w0.heap.size w L f (.pointer (some ⟨br, 0, none⟩) :: args) R :=
  B.swap.getJ hL.swap hs (fun w' B t => k w' B.swap t)
theorem PN.op' {f : FuncId} {args : List Value} {R : Value → World → Prop} {v0 : Value} (B : PN Tj Td Tr Tq S0 w0 w bj br h g M M') (hL : offP w0 h g L)
    (hs : ∀ wa, JAt Tj Td wa h M → Touch (fun b => b ∈ blk L) w wa → Spec PP f args wa h.on (fun v w' => v = v0 ∧ JP Tj Td wa h M2 w'))
    (k : ∀ h' w', PN Tj Td Tr Tq S0 w0 w' bj br h' g M2 M' → offP w0 h' g L → Touch (fun b => b ∈ blk L ∨ h.on b) w w' → R v0 w') : CallL PP w0.heap.size w L f args R := by
  refine ⟨h.on, fun b hb => ⟨B.A.lt hb, fun hm => (hL b hm).2.1 hb⟩, fun wa hl => ?_⟩
  have Ba := B.gen (B.T.locA hl Anc.start) hl.touch (fun b hb => (hL b hb).2)
  refine Calls.mono (hs wa Ba.A hl.touch) ?_
  rintro e w' ⟨v, he, ht, rfl, h', A', ej, ed, hf⟩
  have zz := hl.touch.size
  have z0 := B.T.t.size
  refine ⟨ht, v, he, k h' w' ⟨Ba.T.comp ht (fun i hi hd => (B.fj i hd).elim id (fun h => by omega)), A', Ba.R.tr ht (fun b hb hh => B.d b hh hb), ej.trans B.ej, B.er, fun b hb => (hf b hb).elim (B.fj b) (fun h => .inr (by omega)), B.fr, fun b hb hh => (hf b hb).elim (fun h1 => B.d b h1 hh) (fun h1 => by have := Ba.R.lt hh; omega)⟩
    (fun b hb => ⟨(hL b hb).1, fun hn => (hf b hn).elim (hL b hb).2.1 (fun h => by have := hl.lt hb; omega), (hL b hb).2.2⟩) ((hl.touch.mono (fun _ _ h => .inl h)).comp ht (fun _ _ h => .inr h))⟩
theorem PN.opJ {f : FuncId} {args : List Value} {R : Value → World → Prop} {v0 : Value} (B : PN Tj Td Tr Tq S0 w0 w bj br h g M M') (hL : offP w0 h g L)
    (hs : ∀ wa, JAt Tj Td wa h M → Touch (fun b => b ∈ blk L) w wa → Spec PP f (.pointer (some ⟨h.bj, 0, none⟩) :: args) wa h.on (fun v w' => v = v0 ∧ JP Tj Td wa h M2 w'))
    (k : ∀ h' w', PN Tj Td Tr Tq S0 w0 w' bj br h' g M2 M' → offP w0 h' g L → Touch (fun b => b ∈ blk L ∨ h.on b) w w' → R v0 w') : CallL PP w0.heap.size w L f (.pointer (some ⟨bj, 0, none⟩) :: args) R := by
  obtain rfl := B.ej
  exact B.op' hL hs k
theorem PN.opR {f : FuncId} {args : List Value} {R : Value → World → Prop} {v0 : Value} (B : PN Tj Td Tr Tq S0 w0 w bj br h g M M') (hL : offP w0 h g L)
    (hs : ∀ wa, JAt Tr Tq wa g M' → Touch (fun b => b ∈ blk L) w wa → Spec PP f (.pointer (some ⟨g.bj, 0, none⟩) :: args) wa g.on (fun v w' => v = v0 ∧ JP Tr Tq wa g M2 w'))
    (k : ∀ g' w', PN Tj Td Tr Tq S0 w0 w' bj br h g' M M2 → offP w0 h g' L → Touch (fun b => b ∈ blk L ∨ g.on b) w w' → R v0 w') : CallL PP w0.heap.size w L f (.pointer (some ⟨br, 0, none⟩) :: args) R :=
  B.swap.opJ hL.swap hs (fun g' w' B o t => k g' w' B.swap o.swap t)
/-- a call on a journal's disk is a call on the journal -/
theorem JAt.dkJ {f : FuncId} {args : List Value} {v0 : Value} {b' : List UInt8} {d' : Nat} (A : JAt Tj Td w h M) (hs : Spec PP f args w (dOn h.bd h.sl) (fun v w' => v = v0 ∧ DP Td w h.bd h.sl b' d' w')) :
    Spec PP f args w h.on (fun v w' => v = v0 ∧ JP Tj Td w h ⟨M.J, b', d'⟩ w') := by
  refine Calls.mono hs ?_
  rintro e w' ⟨v, he, ht, rfl, sl', D, f⟩
  refine ⟨v, he, ht.mono (fun i _ hi => .inr (.inl hi)), rfl, { h with sl := sl' }, A.disk ht D f, rfl, rfl, ?_⟩
  rintro b (hb | (hb | hb) | hb)
  · exact .inl (.inl hb)
  · exact .inl (.inr (.inl (.inl hb)))
  · exact (f b hb).imp (fun h => .inr (.inl (.inr h))) id
  · exact .inl (.inr (.inr hb))
end

abbrev PJ := PN t_journal_Journal t_disk_Disk RJ RD

theorem atM_neg {l : List G_api_Logged} {i : Int} (h : i < 0) : (atM l i).1.Term = 0 := by unfold atM; rw [if_pos h]; rfl
theorem atM_out {l : List G_api_Logged} {i : Int} (h : (l.length : Int) ≤ i) : (atM l i).1.Term = 0 := by
  unfold atM; rw [if_neg (by omega), List.getElem?_eq_none (by omega)]; rfl

theorem same_spec {w : World} {h g : JH} {M : JM} (A : JAt t_journal_Journal t_disk_Disk w h M) (R : JAt RJ RD w g M) (hb : M.b.length ≤ 100000000) (hl : M.J.log.length ≤ 1000000) :
    Spec PP n_cellplanelaw08_same [.pointer (some ⟨h.bj, 0, none⟩), .pointer (some ⟨g.bj, 0, none⟩)] w noB (fun v _ => v = .bool true) := by
  refine cellplanelaw08_same_calls (some ⟨h.bj, 0, none⟩) (some ⟨g.bj, 0, none⟩) _ w ?_
  unfold F_cellplanelaw08_same
  have hA : ∀ {w'}, Now noB w w' → JAt t_journal_Journal t_disk_Disk w' h M := fun T => A.now T
  have hR : ∀ {w'}, Now noB w w' → JAt RJ RD w' g M := fun T => R.now T
  have hgl := R.l.1
  refine Reb.A (Now.refl (S := noB)) Anc.nil (fun w1 T t => ?_)
  unfold C_cellplanelaw08_same_1
  refine nilL ⟨_, (hR T).j.at 1 rfl, notIn_nil, ?_⟩
  refine CallL.vA T Anc.nil (fun wa T _ => journal_Term_spec (hA T)) (fun w2 T t => ⟨_, rfl, (hR T).j.at 1 rfl, ?_⟩)
  refine ifbnd (fun h => absurd rfl h) (fun _ => ?_)
  refine nilL ⟨_, (hR T).j.at 2 rfl, notIn_nil, ?_⟩
  refine CallL.vA T Anc.nil (fun wa T _ => journal_Vote_spec (hA T)) (fun w2 T t => ⟨_, rfl, (hR T).j.at 2 rfl, ?_⟩)
  refine ifbnd (fun h => absurd rfl h) (fun _ => ?_)
  refine nilL ⟨g.lg, (hR T).j.at 3 rfl, notIn_nil, ?_⟩
  refine CallL.vA T Anc.nil (fun wa T _ => journal_Len_spec (hA T)) (fun w2 T t => ⟨_, rfl, (hR T).j.at 3 rfl, ?_⟩)
  refine ifbnd (fun h => absurd (by rw [hgl]) h) (fun _ => ?_)
  refine nilL ⟨some ⟨h.bd, 0, none⟩, (hA T).j.at 0 rfl, notIn_nil, nilL ⟨some ⟨g.bd, 0, none⟩, (hR T).j.at 0 rfl, notIn_nil, nilL ⟨g.sl, (hR T).d.c.at 0 rfl, notIn_nil, ?_⟩⟩⟩
  refine CallL.pA T Anc.nil (fun wa T _ => disk_Bytes_spec (hA T).d hb) ?_
  rintro wa v w3 T t z1 z2 _ ⟨s1, rfl, o1, f1⟩
  refine ⟨s1, rfl, (hR T).d.c.at 0 rfl, (hR T).j.at 0 rfl, ?_⟩
  refine CallL.vA T Anc.nil (fun wa T t => SameBytes_spec ((o1.rd byteC_len).tr t (by simp [blk])) ((hR T).d.s.rd byteC_len)) (fun w4 T t => ⟨_, rfl, ?_⟩)
  refine ifbnd (fun h => absurd rfl h) (fun _ => ?_)
  refine CallL.vA T Anc.nil (fun wa T _ => journal_TermAt_spec (hA T) (-1)) (fun w5 T t => ⟨_, rfl, ?_⟩)
  rw [atM_neg (by omega)]
  refine ifbnd (fun h => absurd rfl h) (fun _ => ?_)
  refine nilL ⟨g.lg, (hR T).j.at 3 rfl, notIn_nil, ?_⟩
  refine CallL.vA T Anc.nil (fun wa T _ => journal_TermAt_spec (hA T) ((g.lg.n : Nat) : Int)) (fun w5 T t => ⟨_, rfl, ?_⟩)
  rw [atM_out (by omega)]
  refine ifbnd (fun h => absurd rfl h) (fun _ => ?_)
  refine Reb.A T Anc.nil (fun w6 T t => ?_)
  unfold C_cellplanelaw08_same_2
  refine Reb.A T Anc.nil (fun w6 T t => ?_)
  unfold C_cellplanelaw08_same_4
  refine LoopC.mk (fun x w' => -1 ≤ x ∧ x ≤ (M.J.log.length : Int) + 1 ∧ Now noB w w') (fun x => ((M.J.log.length : Int) + 1 - x).toNat) ?_ ?_
  · exact Reb.A T Anc.nil (fun w6 T t => ⟨by omega, by omega, T⟩)
  rintro i wa ⟨hi1, hi2, T⟩
  unfold L_cellplanelaw08_same_5 B_cellplanelaw08_same_5
  simp only
  refine nilL ⟨g.lg, (hR T).j.at 3 rfl, notIn_nil, ?_⟩
  refine ifbd (fun hlt => ?_) (fun hge => ?_)
  rotate_left
  · refine Reb.A T Anc.nil (fun w6 T t => ?_)
    unfold C_cellplanelaw08_same_3
    exact Reb.A T Anc.nil (fun w6 T t => ⟨T.t, rfl⟩)
  refine CallL.vA T Anc.nil (fun wa T _ => journal_At_spec (hA T) i) (fun w7 T t => ⟨_, _, rfl, fun b7 h7 => ?_⟩)
  have z7 := T.t.size
  have L7 : Anc noB w w.heap.size [⟨b7, (atM M.J.log i).1.cells, t_api_Logged⟩] := Anc.start
  refine CallL.vA T Anc.start (fun wa T _ => ref08_At_spec (hR T) i) (fun w8 T t => ⟨_, _, rfl, fun b12 h12 => ?_⟩)
  refine ifbn (fun h => by rw [show G_api_Logged.eqb (atM M.J.log i).1 (atM M.J.log i).1 = true by rw [G_api_Logged.eqb_iff]] at h; cases h) (fun _ => ?_)
  refine ifbn (fun h => by simp at h) (fun _ => ?_)
  refine CallL.vA T Anc.start (fun wa T _ => journal_TermAt_spec (hA T) i) (fun w9 T t => ⟨_, rfl, ?_⟩)
  refine ifbnd (fun h => absurd rfl h) (fun _ => ?_)
  refine Reb.A T Anc.start (fun w6 T t => ⟨trivial, ⟨?_, ?_, T⟩, ?_⟩) <;> rw [wrap_i64 (by omega) (by omega)] <;> omega

end Go.Sh
