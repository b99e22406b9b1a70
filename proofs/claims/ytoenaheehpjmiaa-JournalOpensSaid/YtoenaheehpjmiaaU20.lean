/- both; JournalPlays.
   Conditions: none. -/
import Derived.Test.YtoenaheehpjmiaaU19
namespace Go.Sh
open Go
set_option linter.unusedSimpArgs false
set_option linter.unusedVariables false
set_option maxHeartbeats 4000000

theorem spoil_ok {e : G_api_Entry} {which by_ : Int} (h : ∀ n ∈ flds e, okI n) (hb : okI by_) : ∀ n ∈ flds (spoilM e which by_), okI n := by
  simp only [flds, List.mem_cons, List.not_mem_nil, or_false, forall_eq_or_imp, forall_eq] at h ⊢
  unfold spoilM
  dsimp only
  repeat' split
  all_goals simp only [h, hb, and_self]

section
variable {Tj Td Tr Tq : TypeId} {S0 S : Nat → Prop} {w0 w w' : World} {bj br : Nat} {h g : JH} {M M' M2 : JM} {L : List LB}
theorem PN.niR (B : PN Tj Td Tr Tq S0 w0 w bj br h g M M') (hL : offP w0 h g L) : NotIn br L := fun hm => (hL br hm).2.2 (.inl B.er.symm)
theorem PN.niJ (B : PN Tj Td Tr Tq S0 w0 w bj br h g M M') (hL : offP w0 h g L) : NotIn bj L := fun hm => (hL bj hm).2.1 (.inl B.ej.symm)
theorem PN.atT (B : PN Tj Td Tr Tq S0 w0 w bj br h g M M') : At w (addA ⟨br, 0, none⟩ 1) [.int .i64 M'.J.term] := by
  obtain rfl := B.er
  exact B.R.j.at 1 rfl
theorem PN.atL (B : PN Tj Td Tr Tq S0 w0 w bj br h g M M') : At w (addA ⟨br, 0, none⟩ 3) [.slice g.lg.a g.lg.n g.lg.c] := by
  obtain rfl := B.er
  exact B.R.j.at 3 rfl
theorem PN.atD (B : PN Tj Td Tr Tq S0 w0 w bj br h g M M') : At w ⟨bj, 0, none⟩ [.pointer (some ⟨h.bd, 0, none⟩)] := by
  obtain rfl := B.ej
  exact B.A.j.at 0 rfl
theorem PN.one {l : LB} (B : PN Tj Td Tr Tq S0 w0 w bj br h g M M') (hb : w.heap.size ≤ l.b) : offP w0 h g [l] := by
  intro b hm
  simp [blk] at hm
  subst hm
  have := B.T.t.size
  exact ⟨by omega, fun hn => by have := B.A.lt hn; omega, fun hn => by have := B.R.lt hn; omega⟩
theorem offP.two {l l2 : LB} (h1 : offP w0 h g [l]) (h2 : offP w0 h g [l2]) : offP w0 h g [l, l2] := by
  intro b hm
  simp [blk] at hm
  rcases hm with rfl | rfl
  · exact h1 _ (by simp [blk])
  · exact h2 _ (by simp [blk])
end

/-- what both leaves -/
def BP (w : World) (h g : JH) (c : Nat) (w' : World) : Prop :=
  ∃ h' g' M', JAt t_journal_Journal t_disk_Disk w' h' M' ∧ JAt RJ RD w' g' M' ∧ h'.bj = h.bj ∧ g'.bj = g.bj ∧ (∀ b, h'.on b → (h.on b ∨ g.on b) ∨ w.heap.size ≤ b) ∧ (∀ b, g'.on b → (h.on b ∨ g.on b) ∨ w.heap.size ≤ b) ∧ (∀ b, h'.on b → ¬ g'.on b) ∧ Bd M' (c + 1) ∧ TB M'.J

theorem both_spec {w : World} {h g : JH} {M : JM} {c : Nat} (x : G_cellplanelaw08_Act) (hx : actOk x) (A : JAt t_journal_Journal t_disk_Disk w h M) (R : JAt RJ RD w g M) (hd : ∀ b, h.on b → ¬ g.on b) (bd : Bd M c) (hc : c ≤ 60) (tb : TB M.J) :
    Spec PP n_cellplanelaw08_both [.pointer (some ⟨h.bj, 0, none⟩), .pointer (some ⟨g.bj, 0, none⟩), .agg (List.toArray x.cells)] w (fun b => h.on b ∨ g.on b) (fun v w' => v = .bool true ∧ BP w h g c w') := by
  refine cellplanelaw08_both_calls (some ⟨h.bj, 0, none⟩) (some ⟨g.bj, 0, none⟩) x _ w ?_
  unfold F_cellplanelaw08_both
  have B : PJ (fun b => h.on b ∨ g.on b) w w h.bj g.bj h g M M := ⟨Now.refl, A, R, rfl, rfl, fun b hb => .inl (.inl hb), fun b hb => .inl (.inr hb), hd⟩
  have hl := bd.l
  have hb := bd.b
  intro b5 h5
  have hL : offP w h g [⟨b5, x.cells, t_cellplanelaw08_Act⟩] := B.one h5
  have k3 : ∀ {w' : World} {h' g' : JH} {M2 : JM} {L : List LB}, PJ (fun b => h.on b ∨ g.on b) w w' h.bj g.bj h' g' M2 M2 → offP w h' g' L → Bd M2 (c + 1) → TB M2.J →
      Reb w.heap.size w' L (fun w1 => C_cellplanelaw08_both_3 w.heap.size (fun v w' => Touch (fun b => h.on b ∨ g.on b) w w' ∧ (v = .bool true ∧ BP w h g c w')) (some ⟨h.bj, 0, none⟩) (some ⟨g.bj, 0, none⟩) w1) := by
    intro w' h' g' M2 L B hL bd2 tb2
    refine B.reb hL (fun w1 B _ => ?_)
    unfold C_cellplanelaw08_both_3
    refine B.v offP.nil (fun wa B _ => by
      have := same_spec B.A B.R (by have := bd2.b; omega) (by have := bd2.l; omega)
      rw [B.ej, B.er] at this
      exact this) (fun w2 B _ => ⟨_, rfl, ?_⟩)
    exact B.reb offP.nil (fun w3 B _ => ⟨B.T.t, rfl, h', g', M2, B.A, B.R, B.ej, B.er, B.fj, B.fr, B.d, bd2, tb2⟩)
  -- one call on both
  have kS : ∀ {w' : World} (t v : Int), PJ (fun b => h.on b ∨ g.on b) w w' h.bj g.bj h g M M →
      CallL PP w.heap.size w' [⟨b5, x.cells, t_cellplanelaw08_Act⟩] n_journal_Journal_SetTerm [(.pointer (some ⟨h.bj, 0, none⟩)), (.int .i64 t), (.int .i64 v)] fun r5 w6 => ∃ n4 : Int, r5 = (.int .i64 n4) ∧ CallL PP w.heap.size w6 [⟨b5, x.cells, t_cellplanelaw08_Act⟩] n_cellplaneref08_Journal_SetTerm [(.pointer (some ⟨g.bj, 0, none⟩)), (.int .i64 t), (.int .i64 v)] fun r8 w9 => ∃ n7 : Int, r8 = (.int .i64 n7) ∧ IfB (!decide ((n4 : Int) = n7)) (Reb w.heap.size w9 [⟨b5, x.cells, t_cellplanelaw08_Act⟩] ((fun (v : Value) w' => Touch (fun b => h.on b ∨ g.on b) w w' ∧ (v = .bool true ∧ BP w h g c w')) (Value.bool false))) (Reb w.heap.size w9 [⟨b5, x.cells, t_cellplanelaw08_Act⟩] fun w10 => C_cellplanelaw08_both_3 w.heap.size (fun v w' => Touch (fun b => h.on b ∨ g.on b) w w' ∧ (v = .bool true ∧ BP w h g c w')) (some ⟨h.bj, 0, none⟩) (some ⟨g.bj, 0, none⟩) w10) := by
    intro w' t v B
    refine B.opJ hL (fun wa A _ => journal_SetTerm_spec A t v (by omega) (by omega)) (fun h2 w2 B hL _ => ⟨_, rfl, ?_⟩)
    refine B.opR hL (fun wa R _ => ref08_SetTerm_spec R t v (by omega) (by omega)) (fun g2 w3 B hL _ => ⟨_, rfl, ?_⟩)
    exact ifbnd (fun h => absurd rfl h) (fun _ => k3 B hL (bd.op (by omega)) tb.op)
  -- Spoilt entries
  have k9 : ∀ {w' : World} {b9 : Nat} {e : G_api_Entry}, PJ (fun b => h.on b ∨ g.on b) w w' h.bj g.bj h g M M → offP w h g [⟨b9, e.cells, t_api_Entry⟩] → (∀ n ∈ flds e, okI n) →
      C_cellplanelaw08_both_9 w.heap.size (fun v w' => Touch (fun b => h.on b ∨ g.on b) w w' ∧ (v = .bool true ∧ BP w h g c w')) (some ⟨h.bj, 0, none⟩) (some ⟨g.bj, 0, none⟩) b9 e t_api_Entry w' := by
    intro w' b9 e B hL he
    unfold C_cellplanelaw08_both_9
    refine nilL ⟨_, B.atT, B.niR hL, nilL ⟨_, B.atT, B.niR hL, ?_⟩⟩
    refine B.opJ hL (fun wa A _ => journal_Append_spec A M.J.term e he (by omega) (by omega)) (fun h2 w2 B hL _ => ⟨_, rfl, B.atT, ?_⟩)
    refine B.opR hL (fun wa R _ => ref08_Append_spec R M.J.term e he (by omega) (by omega)) (fun g2 w3 B hL _ => ⟨_, rfl, ?_⟩)
    exact ifbnd (fun h => absurd rfl h) (fun _ => k3 B hL (bd.op (by omega)) tb.op)
  have k11 : ∀ {w' : World} (v : Bool), PJ (fun b => h.on b ∨ g.on b) w w' h.bj g.bj h g M M → Reb w.heap.size w' [⟨b5, x.cells, t_cellplanelaw08_Act⟩] fun w1 =>
      C_cellplanelaw08_both_11 w.heap.size (fun v w' => Touch (fun b => h.on b ∨ g.on b) w w' ∧ (v = .bool true ∧ BP w h g c w')) (some ⟨h.bj, 0, none⟩) (some ⟨g.bj, 0, none⟩) b5 x t_cellplanelaw08_Act v w1 := by
    intro w' v B
    refine B.reb hL (fun w1 B _ => ?_)
    unfold C_cellplanelaw08_both_11
    refine ifb (fun _ => ?_) (fun _ => ?_)
    · refine nilL ⟨_, B.atD, B.niJ hL, ?_⟩
      refine B.op' (M2 := syncM M) hL (fun wa A _ => A.dkJ (disk_Sync_spec A.d)) (fun h2 w2 B hL _ => ⟨rfl, ?_⟩)
      refine B.opR hL (fun wa R _ => ref08_Sync_spec R) (fun g2 w3 B hL _ => ⟨rfl, ?_⟩)
      exact k3 B hL (bd.sync.up (by omega)) tb
    · refine B.v hL (fun wa _ _ => make_BetweenW_spec (v := x.A) (a := -1) (b := 80) (by omega) (by omega) (by omega) wa) (fun w2 B _ => ⟨_, rfl, ?_⟩)
      refine B.opJ hL (fun wa A _ => journal_Crash_spec A bd.d (by omega) (betM x.A (-1) 80)) (fun h2 w2 B hL _ => ⟨rfl, ?_⟩)
      refine B.v hL (fun wa _ _ => make_BetweenW_spec (v := x.A) (a := -1) (b := 80) (by omega) (by omega) (by omega) wa) (fun w2 B _ => ⟨_, rfl, ?_⟩)
      refine B.opR hL (fun wa R _ => ref08_Crash_spec R bd.d (by omega) (betM x.A (-1) 80)) (fun g2 w3 B hL _ => ⟨rfl, ?_⟩)
      exact k3 B hL (bd.crash.up (by omega)) TB.crash
  have k10 : ∀ {w' : World} (n : Int) (v : Bool), PJ (fun b => h.on b ∨ g.on b) w w' h.bj g.bj h g M M → Reb w.heap.size w' [⟨b5, x.cells, t_cellplanelaw08_Act⟩] fun w1 =>
      C_cellplanelaw08_both_10 w.heap.size (fun v w' => Touch (fun b => h.on b ∨ g.on b) w w' ∧ (v = .bool true ∧ BP w h g c w')) (some ⟨h.bj, 0, none⟩) (some ⟨g.bj, 0, none⟩) b5 x t_cellplanelaw08_Act n v w1 := by
    intro w' n v B
    refine B.reb hL (fun w1 B _ => ?_)
    unfold C_cellplanelaw08_both_10
    refine ifb (fun _ => ?_) (fun _ => ifbd (fun _ => k11 _ B) (fun _ => k11 _ B))
    have hgl := B.R.l.1
    refine nilL ⟨g.lg, B.atL, B.niR hL, ?_⟩
    rw [wrap_i64 (x := ((g.lg.n : Nat) : Int) + 1) (by omega) (by omega)]
    refine B.v hL (fun wa _ _ => make_BetweenW_spec (v := x.A) (a := -1) (b := ((g.lg.n : Nat) : Int) + 1) (by omega) (by omega) (by omega) wa) (fun w2 B _ => ⟨_, rfl, ?_⟩)
    refine B.opJ hL (fun wa A _ => journal_Cut_spec A (betM x.A (-1) (((g.lg.n : Nat) : Int) + 1)) (by omega) (by omega)) (fun h2 w2 B hL _ => ⟨_, rfl, ?_⟩)
    refine B.opR hL (fun wa R _ => ref08_Cut_spec R (betM x.A (-1) (((g.lg.n : Nat) : Int) + 1)) (by omega) (by omega)) (fun g2 w3 B hL _ => ⟨_, rfl, ?_⟩)
    exact ifbnd (fun h => absurd rfl h) (fun _ => k3 B hL (bd.op (by omega)) tb.op)
  have k8 : ∀ {w' : World} (n : Int) (v : Bool), PJ (fun b => h.on b ∨ g.on b) w w' h.bj g.bj h g M M → Reb w.heap.size w' [⟨b5, x.cells, t_cellplanelaw08_Act⟩] fun w1 =>
      C_cellplanelaw08_both_8 w.heap.size (fun v w' => Touch (fun b => h.on b ∨ g.on b) w w' ∧ (v = .bool true ∧ BP w h g c w')) (some ⟨h.bj, 0, none⟩) (some ⟨g.bj, 0, none⟩) b5 x t_cellplanelaw08_Act n v w1 := by
    intro w' n v B
    refine B.reb hL (fun w1 B _ => ?_)
    unfold C_cellplanelaw08_both_8
    refine ifb (fun _ => ?_) (fun _ => k10 _ _ B)
    have he : ∀ n ∈ flds (spoilM (noteE 3) x.A x.B), okI n := spoil_ok (noteE_I 3) hx.2.2
    refine ⟨?_, ?_⟩
    · refine B.v hL (fun wa _ _ => note_spec 3 wa) (fun w2 B _ => ⟨_, rfl, ?_, ?_⟩)
      · refine B.v hL (fun wa _ _ => make_Spoilt_spec (noteE 3) x.A x.B wa) (fun w3 B _ => ⟨_, rfl, fun b51 h51 => ?_⟩)
        have h1 : offP w h g [⟨b51, (spoilM (noteE 3) x.A x.B).cells, t_api_Entry⟩] := B.one h51
        exact B.reb (hL.two h1) (fun w4 B _ => k9 B h1 he)
      · intro b53 h53
        have h1 : offP w h g [⟨b53, (⟨0, 0, 0, 0, 0, 0, 0, 0, 0⟩ : G_api_Entry).cells, t_api_Entry⟩] := B.one h53
        refine B.v (hL.two h1) (fun wa _ _ => make_Spoilt_spec (noteE 3) x.A x.B wa) (fun w3 B _ => ⟨_, rfl, ?_⟩)
        have h2 : offP w h g [⟨b53, (spoilM (noteE 3) x.A x.B).cells, t_api_Entry⟩] := h1
        exact B.reb (hL.two h2) (fun w4 B _ => k9 B h2 he)
    · intro b58 h58
      have h1 : offP w h g [⟨b58, (⟨0, 0, 0, 0, 0, 0, 0, 0, 0⟩ : G_api_Entry).cells, t_api_Entry⟩] := B.one h58
      refine B.v (hL.two h1) (fun wa _ _ => note_spec 3 wa) (fun w2 B _ => ⟨_, rfl, ?_⟩)
      refine B.v (hL.two h1) (fun wa _ _ => make_Spoilt_spec (noteE 3) x.A x.B wa) (fun w3 B _ => ⟨_, rfl, ?_⟩)
      have h2 : offP w h g [⟨b58, (spoilM (noteE 3) x.A x.B).cells, t_api_Entry⟩] := h1
      exact B.reb (hL.two h2) (fun w4 B _ => k9 B h2 he)
  have k7 : ∀ {w' : World} (t n : Int) (v : Bool), PJ (fun b => h.on b ∨ g.on b) w w' h.bj g.bj h g M M → Reb w.heap.size w' [⟨b5, x.cells, t_cellplanelaw08_Act⟩] fun w1 =>
      C_cellplanelaw08_both_7 w.heap.size (fun v w' => Touch (fun b => h.on b ∨ g.on b) w w' ∧ (v = .bool true ∧ BP w h g c w')) (some ⟨h.bj, 0, none⟩) (some ⟨g.bj, 0, none⟩) b5 x t_cellplanelaw08_Act t n v w1 := by
    intro w' t n v B
    refine B.reb hL (fun w1 B _ => ?_)
    unfold C_cellplanelaw08_both_7
    refine ifb (fun _ => ?_) (fun _ => k8 _ _ B)
    refine B.v hL (fun wa _ _ => note_spec x.B wa) (fun w2 B _ => ⟨_, rfl, ?_⟩)
    refine B.opJ hL (fun wa A _ => journal_Append_spec A t (noteE x.B) (noteE_I x.B) (by omega) (by omega)) (fun h2 w2 B hL _ => ⟨_, rfl, ?_⟩)
    refine B.v hL (fun wa _ _ => note_spec x.B wa) (fun w2 B _ => ⟨_, rfl, ?_⟩)
    refine B.opR hL (fun wa R _ => ref08_Append_spec R t (noteE x.B) (noteE_I x.B) (by omega) (by omega)) (fun g2 w3 B hL _ => ⟨_, rfl, ?_⟩)
    exact ifbnd (fun h => absurd rfl h) (fun _ => k3 B hL (bd.op (by omega)) tb.op)
  have k6 : ∀ {w' : World} (t n : Int) (v : Bool), PJ (fun b => h.on b ∨ g.on b) w w' h.bj g.bj h g M M → Reb w.heap.size w' [⟨b5, x.cells, t_cellplanelaw08_Act⟩] fun w1 =>
      C_cellplanelaw08_both_6 w.heap.size (fun v w' => Touch (fun b => h.on b ∨ g.on b) w w' ∧ (v = .bool true ∧ BP w h g c w')) (some ⟨h.bj, 0, none⟩) (some ⟨g.bj, 0, none⟩) b5 x t_cellplanelaw08_Act t n v w1 := by
    intro w' t n v B
    refine B.reb hL (fun w1 B _ => ?_)
    unfold C_cellplanelaw08_both_6
    refine ifb (fun _ => ?_) (fun _ => ifbd (fun _ => k7 _ _ _ B) (fun _ => ifbd (fun _ => k7 _ _ _ B) (fun _ => ifbd (fun _ => k7 _ _ _ B) (fun _ => k7 _ _ _ B))))
    refine B.v hL (fun wa _ _ => make_BetweenW_spec (v := x.B) (a := -2) (b := 5) (by omega) (by omega) (by omega) wa) (fun w2 B _ => ⟨_, rfl, kS _ _ B⟩)
  refine B.reb hL (fun w1 B _ => ?_)
  unfold C_cellplanelaw08_both_1
  obtain ⟨t0, t1⟩ := tb
  refine nilL ⟨_, B.atT, B.niR hL, nilL ⟨_, B.atT, B.niR hL, ?_⟩⟩
  rw [wrap_i64 (x := M.J.term - 1) (by omega) (by omega), wrap_i64 (x := M.J.term + 2) (by omega) (by omega)]
  refine B.v hL (fun wa _ _ => make_BetweenW_spec (v := x.A) (a := M.J.term - 1) (b := M.J.term + 2) (by omega) (by omega) (by omega) wa) (fun w2 B _ => ⟨_, rfl, ?_⟩)
  refine B.reb hL (fun w3 B _ => ?_)
  unfold C_cellplanelaw08_both_2
  refine B.v hL (fun wa _ _ => make_Mod_spec (v := x.Which) (n := 12) (by decide) (by decide) wa) (fun w2 B _ => ⟨_, rfl, ?_⟩)
  refine B.reb hL (fun w3 B _ => ?_)
  unfold C_cellplanelaw08_both_4
  refine B.reb hL (fun w3 B _ => ?_)
  unfold C_cellplanelaw08_both_5
  exact ifb (fun _ => kS _ _ B) (fun _ => ifbd (fun _ => k6 _ _ _ B) (fun _ => k6 _ _ _ B))

theorem JournalPlays_spec {w : World} {l : Sl} {xs : List G_cellplanelaw08_Act} (I : In actC 3 actOk w l xs) : Spec PP n_cellplanelaw08_JournalPlays [.slice l.a l.n l.c] w noB (fun v _ => v = .bool true) := by
  refine cellplanelaw08_JournalPlays_calls l _ w ?_
  unfold F_cellplanelaw08_JournalPlays
  have hln := I.rd.1
  have hR : ∀ {w'}, Now noB w w' → Rd actC 3 w' l xs := fun T => I.rd.tr T.t (by simp [noB])
  refine Reb.A (Now.refl (S := noB)) Anc.nil (fun w1 T t => ?_)
  unfold C_cellplanelaw08_JournalPlays_1
  refine journal_new T (fun h1 w1 B t1 f1 => ⟨_, rfl, ?_⟩)
  have zh : ∀ b, h1.on b → b < w1.heap.size := fun b hb => B.A.lt hb
  refine ref08_new B.T (fun g1 w2 R t2 f2 => ⟨_, rfl, ?_⟩)
  replace B := B.keep R.T t2 (by simp [noB])
  have P : PJ noB w w2 h1.bj g1.bj h1 g1 jm0 jm0 := ⟨B.T, B.A, R.A, rfl, rfl, fun b hb => .inr (B.fr b hb), fun b hb => .inr (R.fr b hb), fun b hb hh => by have := zh b hb; have := f2 b hh; omega⟩
  refine P.reb offP.nil (fun w3 P _ => ?_)
  unfold C_cellplanelaw08_JournalPlays_2
  refine P.v offP.nil (fun wa _ _ => awake_spec wa) (fun w3 P _ => ⟨_, rfl, ?_⟩)
  refine ifb (fun h => by cases h) (fun _ => ?_)
  refine ifbd (fun h50 => ?_) (fun h50 => ?_)
  · refine P.reb offP.nil (fun w2 P _ => ?_)
    unfold C_cellplanelaw08_JournalPlays_7
    refine ifb (fun _ => ?_) (fun h => by cases h)
    refine P.v offP.nil (fun wa _ _ => awake_spec wa) (fun w3 P _ => ⟨_, rfl, ?_⟩)
    refine ifb (fun _ => ?_) (fun h => by cases h)
    exact P.reb offP.nil (fun w2 P _ => ⟨P.T.t, rfl⟩)
  · refine P.reb offP.nil (fun w2 P _ => ?_)
    unfold C_cellplanelaw08_JournalPlays_7
    refine ifb (fun h => by simp at h) (fun _ => ?_)
    refine P.reb offP.nil (fun w2 P _ => ?_)
    unfold C_cellplanelaw08_JournalPlays_3
    refine P.reb offP.nil (fun w2 P _ => ?_)
    unfold C_cellplanelaw08_JournalPlays_5
    refine LoopC.mk (fun y w' => ∃ (i : Nat) (h' g' : JH) (M : JM), y = (i : Int) ∧ i ≤ xs.length ∧ PJ noB w w' h1.bj g1.bj h' g' M M ∧ Bd M i ∧ TB M.J) (fun y => xs.length - y.toNat) ?_ ?_
    · exact P.reb offP.nil (fun w2 P _ => ⟨0, h1, g1, jm0, rfl, by omega, P, Bd.new, TB.j0⟩)
    rintro y wa ⟨i, h', g', M, rfl, hi, P, bd, tb⟩
    unfold L_cellplanelaw08_JournalPlays_6 B_cellplanelaw08_JournalPlays_6
    simp only
    refine ifbd (fun hlt => ?_) (fun hge => ?_)
    rotate_left
    · refine P.reb offP.nil (fun w2 P _ => ?_)
      unfold C_cellplanelaw08_JournalPlays_4
      exact P.reb offP.nil (fun w2 P _ => ⟨P.T.t, rfl⟩)
    refine (hR P.T).idx (by omega) (by omega) (fun p x hp hx ha => ⟨x, ha, notIn_nil, ?_⟩)
    have hxo := I.all x (List.mem_of_getElem? hx)
    have ej := P.ej
    have er := P.er
    rw [← ej, ← er]
    refine ⟨fun b => h'.on b ∨ g'.on b, fun b hb => ⟨hb.elim P.A.lt P.R.lt, by simp [blk]⟩, fun wb hl => ?_⟩
    have Pb := P.gen (P.T.locA hl Anc.nil) hl.touch (by simp [blk])
    refine Calls.mono (both_spec (c := i) x hxo Pb.A Pb.R Pb.d bd (by omega) tb) ?_
    rintro e w' ⟨v, he, ht, rfl, h2, g2, M2, A2, R2, e1, e2, f1, f2, d2, bd2, tb2⟩
    refine ⟨ht, _, he, _, rfl, ?_⟩
    refine ifbn (fun h => by cases h) (fun _ => ?_)
    have z0 := Pb.T.t.size
    have P2 : PJ noB w w' h'.bj g'.bj h2 g2 M2 M2 := ⟨Pb.T.comp ht (fun i hi hh => hh.elim (fun hh => by rcases Pb.fj i hh with hh | hh; exact hh; omega) (fun hh => by rcases Pb.fr i hh with hh | hh; exact hh; omega)), A2, R2, e1, e2,
      fun b hb => .inr (by rcases f1 b hb with (hh | hh) | hh; exact (Pb.fj b hh).elim (fun h => h.elim) id; exact (Pb.fr b hh).elim (fun h => h.elim) id; omega),
      fun b hb => .inr (by rcases f2 b hb with (hh | hh) | hh; exact (Pb.fj b hh).elim (fun h => h.elim) id; exact (Pb.fr b hh).elim (fun h => h.elim) id; omega), d2⟩
    refine P2.reb offP.nil (fun w2 P _ => ⟨trivial, ⟨i + 1, h2, g2, M2, ?_, by omega, P, bd2, tb2⟩, ?_⟩) <;> rw [wrap_i64 (by omega) (by omega)] <;> omega

end Go.Sh
