/- Contracts of the reference's test of entries.
   Conditions: none. -/
import Derived.Test.YtoenaheehpjmiaaEA
namespace Go.Sh
open Go
set_option linter.unusedSimpArgs false
set_option linter.unusedVariables false
set_option maxHeartbeats 4000000

theorem IfB_t {p q : Prop} : IfB true p q = p := rfl
theorem IfB_f {p q : Prop} : IfB false p q = q := rfl

theorem has1 : hasM 1 116 = true ∧ hasM 1 99 = true ∧ hasM 1 67 = false ∧ hasM 1 111 = true ∧ hasM 1 114 = false ∧ hasM 1 101 = false ∧ hasM 1 119 = false ∧ hasM 1 118 = false ∧ hasM 1 98 = false ∧ hasM 1 109 = false ∧ hasM 1 110 = false := by decide
theorem has2 : hasM 2 116 = true ∧ hasM 2 99 = true ∧ hasM 2 67 = false ∧ hasM 2 111 = false ∧ hasM 2 114 = false ∧ hasM 2 101 = true ∧ hasM 2 119 = true ∧ hasM 2 118 = true ∧ hasM 2 98 = false ∧ hasM 2 109 = false ∧ hasM 2 110 = false := by decide
theorem has3 : hasM 3 116 = true ∧ hasM 3 99 = false ∧ hasM 3 67 = false ∧ hasM 3 111 = false ∧ hasM 3 114 = false ∧ hasM 3 101 = true ∧ hasM 3 119 = false ∧ hasM 3 118 = false ∧ hasM 3 98 = false ∧ hasM 3 109 = false ∧ hasM 3 110 = false := by decide
theorem has4 : hasM 4 116 = true ∧ hasM 4 99 = false ∧ hasM 4 67 = true ∧ hasM 4 111 = false ∧ hasM 4 114 = false ∧ hasM 4 101 = false ∧ hasM 4 119 = false ∧ hasM 4 118 = false ∧ hasM 4 98 = false ∧ hasM 4 109 = false ∧ hasM 4 110 = false := by decide
theorem has5 : hasM 5 116 = true ∧ hasM 5 99 = true ∧ hasM 5 67 = false ∧ hasM 5 111 = false ∧ hasM 5 114 = false ∧ hasM 5 101 = false ∧ hasM 5 119 = false ∧ hasM 5 118 = false ∧ hasM 5 98 = false ∧ hasM 5 109 = false ∧ hasM 5 110 = false := by decide
theorem has6 : hasM 6 116 = true ∧ hasM 6 99 = true ∧ hasM 6 67 = false ∧ hasM 6 111 = false ∧ hasM 6 114 = false ∧ hasM 6 101 = false ∧ hasM 6 119 = false ∧ hasM 6 118 = false ∧ hasM 6 98 = false ∧ hasM 6 109 = false ∧ hasM 6 110 = false := by decide
theorem has7 : hasM 7 116 = true ∧ hasM 7 99 = false ∧ hasM 7 67 = false ∧ hasM 7 111 = false ∧ hasM 7 114 = false ∧ hasM 7 101 = false ∧ hasM 7 119 = false ∧ hasM 7 118 = false ∧ hasM 7 98 = false ∧ hasM 7 109 = false ∧ hasM 7 110 = false := by decide
theorem has8 : hasM 8 116 = true ∧ hasM 8 99 = false ∧ hasM 8 67 = false ∧ hasM 8 111 = false ∧ hasM 8 114 = false ∧ hasM 8 101 = false ∧ hasM 8 119 = false ∧ hasM 8 118 = false ∧ hasM 8 98 = true ∧ hasM 8 109 = false ∧ hasM 8 110 = false := by decide
theorem has9 : hasM 9 116 = false ∧ hasM 9 99 = true ∧ hasM 9 67 = false ∧ hasM 9 111 = false ∧ hasM 9 114 = false ∧ hasM 9 101 = false ∧ hasM 9 119 = false ∧ hasM 9 118 = false ∧ hasM 9 98 = false ∧ hasM 9 109 = true ∧ hasM 9 110 = false := by decide
theorem has10 : hasM 10 116 = false ∧ hasM 10 99 = true ∧ hasM 10 67 = false ∧ hasM 10 111 = false ∧ hasM 10 114 = false ∧ hasM 10 101 = false ∧ hasM 10 119 = false ∧ hasM 10 118 = true ∧ hasM 10 98 = false ∧ hasM 10 109 = false ∧ hasM 10 110 = false := by decide
theorem has11 : hasM 11 116 = false ∧ hasM 11 99 = true ∧ hasM 11 67 = false ∧ hasM 11 111 = false ∧ hasM 11 114 = false ∧ hasM 11 101 = false ∧ hasM 11 119 = false ∧ hasM 11 118 = true ∧ hasM 11 98 = false ∧ hasM 11 109 = false ∧ hasM 11 110 = false := by decide
theorem has12 : hasM 12 116 = false ∧ hasM 12 99 = false ∧ hasM 12 67 = false ∧ hasM 12 111 = false ∧ hasM 12 114 = false ∧ hasM 12 101 = false ∧ hasM 12 119 = false ∧ hasM 12 118 = true ∧ hasM 12 98 = false ∧ hasM 12 109 = false ∧ hasM 12 110 = false := by decide
theorem has13 : hasM 13 116 = false ∧ hasM 13 99 = false ∧ hasM 13 67 = false ∧ hasM 13 111 = false ∧ hasM 13 114 = true ∧ hasM 13 101 = false ∧ hasM 13 119 = false ∧ hasM 13 118 = false ∧ hasM 13 98 = true ∧ hasM 13 109 = false ∧ hasM 13 110 = false := by decide
theorem has14 : hasM 14 116 = false ∧ hasM 14 99 = false ∧ hasM 14 67 = false ∧ hasM 14 111 = false ∧ hasM 14 114 = false ∧ hasM 14 101 = false ∧ hasM 14 119 = false ∧ hasM 14 118 = false ∧ hasM 14 98 = false ∧ hasM 14 109 = false ∧ hasM 14 110 = false := by decide
theorem has15 : hasM 15 116 = false ∧ hasM 15 99 = false ∧ hasM 15 67 = false ∧ hasM 15 111 = false ∧ hasM 15 114 = false ∧ hasM 15 101 = false ∧ hasM 15 119 = false ∧ hasM 15 118 = false ∧ hasM 15 98 = false ∧ hasM 15 109 = false ∧ hasM 15 110 = false := by decide
theorem has16 : hasM 16 116 = false ∧ hasM 16 99 = false ∧ hasM 16 67 = false ∧ hasM 16 111 = false ∧ hasM 16 114 = false ∧ hasM 16 101 = false ∧ hasM 16 119 = false ∧ hasM 16 118 = false ∧ hasM 16 98 = false ∧ hasM 16 109 = false ∧ hasM 16 110 = true := by decide

/-- the places are right -/
def plP (e : G_api_Entry) (t c r : Int) : Prop :=
  (if e.Kind = 1 ∨ e.Kind = 2 ∨ e.Kind = 3 ∨ e.Kind = 4 ∨ e.Kind = 5 ∨ e.Kind = 6 ∨ e.Kind = 7 ∨ e.Kind = 8 then 0 ≤ e.Tenant ∧ e.Tenant < t else e.Tenant = -1) ∧
  (if e.Kind = 1 ∨ e.Kind = 2 ∨ e.Kind = 5 ∨ e.Kind = 6 ∨ e.Kind = 9 ∨ e.Kind = 10 ∨ e.Kind = 11 then 0 ≤ e.Cell ∧ e.Cell < c else if e.Kind = 4 then -1 ≤ e.Cell ∧ e.Cell < c else e.Cell = -1) ∧
  (if e.Kind = 1 then -1 ≤ e.Other ∧ e.Other < c ∧ e.Other ≠ e.Cell else if e.Kind = 13 then 0 ≤ e.Other ∧ e.Other < r else e.Other = -1)
/-- the numbers are right -/
def nuP (e : G_api_Entry) (v : Int) : Prop :=
  (if e.Kind = 2 ∨ e.Kind = 3 then 1 ≤ e.Epoch ∧ e.Epoch ≤ 1048576 else e.Epoch = 0) ∧
  (if e.Kind = 2 then 0 ≤ e.From ∧ e.From ≤ 1073741824 ∧ 0 ≤ e.Until ∧ e.Until ≤ 1073741824 else e.From = 0 ∧ e.Until = 0) ∧
  (if e.Kind = 2 ∨ e.Kind = 10 ∨ e.Kind = 11 ∨ e.Kind = 12 then 0 ≤ e.N ∧ e.N < v else if e.Kind = 8 ∨ e.Kind = 13 then 0 ≤ e.N ∧ e.N ≤ 1 else if e.Kind = 9 then 1 ≤ e.N ∧ e.N ≤ 3 else if e.Kind = 16 then 0 ≤ e.N ∧ e.N ≤ 1073741824 else e.N = 0)
instance (e : G_api_Entry) (t c r : Int) : Decidable (plP e t c r) := by unfold plP; infer_instance
instance (e : G_api_Entry) (v : Int) : Decidable (nuP e v) := by unfold nuP; infer_instance
def okP (e : G_api_Entry) (t c r v : Int) : Prop := (1 ≤ e.Kind ∧ e.Kind ≤ 16) ∧ (0 ≤ e.Tick ∧ e.Tick ≤ 1073741824) ∧ plP e t c r ∧ nuP e v
instance (e : G_api_Entry) (t c r v : Int) : Decidable (okP e t c r v) := by unfold okP; infer_instance

theorem kinds {k : Int} (h : 1 ≤ k ∧ k ≤ 16) : k = 1 ∨ k = 2 ∨ k = 3 ∨ k = 4 ∨ k = 5 ∨ k = 6 ∨ k = 7 ∨ k = 8 ∨ k = 9 ∨ k = 10 ∨ k = 11 ∨ k = 12 ∨ k = 13 ∨ k = 14 ∨ k = 15 ∨ k = 16 := by omega


theorem ref06_places_spec {e : G_api_Entry} (hk : 1 ≤ e.Kind ∧ e.Kind ≤ 16) {t c r : Int} (ht : 0 ≤ t ∧ t ≤ 1000000) (hc : 0 ≤ c ∧ c ≤ 1000000) (hr : 0 ≤ r ∧ r ≤ 1000000) (w : World) : Spec PP n_cellplaneref06_places [.agg (List.toArray e.cells), .int .i64 t, .int .i64 c, .int .i64 r] w noB (fun v _ => v = .bool (decide (plP e t c r))) := by
  refine cellplaneref06_places_calls e t c r _ w ?_
  unfold F_cellplaneref06_places
  have T : Now noB w w := Now.refl
  obtain ⟨kind, tick, tenant, cell, other, epoch, from_, until_, n⟩ := e
  simp only at hk
  have wt : IntKind.i64.wrap (t - 1) = t - 1 := wrap_i64 (by omega) (by omega)
  have wc : IntKind.i64.wrap (c - 1) = c - 1 := wrap_i64 (by omega) (by omega)
  have wr : IntKind.i64.wrap (r - 1) = r - 1 := wrap_i64 (by omega) (by omega)
  intro b lb
  refine Reb.A T Anc.start (fun w T _ => ?_)
  unfold C_cellplaneref06_places_1
  dsimp only
  refine Reb.A T Anc.start (fun w T _ => ?_)
  rcases kinds hk with rfl | rfl | rfl | rfl | rfl | rfl | rfl | rfl | rfl | rfl | rfl | rfl | rfl | rfl | rfl | rfl
  all_goals
    repeat' first
      | exact Reb.A T Anc.start (fun w T _ => ⟨T.t, by grind [plP, inM]⟩)
      | refine Reb.A T Anc.start (fun w T _ => ?_)
      | (refine CallL.vA T Anc.start (fun wa _ _ => ref06_has_spec _ _ wa) (fun w T _ => ⟨_, rfl, ?_⟩); simp only [has1, has2, has3, has4, has5, has6, has7, has8, has9, has10, has11, has12, has13, has14, has15, has16, IfB_t, IfB_f, Bool.not_true, Bool.not_false, Bool.true_beq, Bool.false_beq])
      | refine CallL.vA T Anc.start (fun wa _ _ => ref06_in_spec _ _ _ wa) (fun w T _ => ⟨_, rfl, ?_⟩)
      | (first | unfold C_cellplaneref06_places_1 | unfold C_cellplaneref06_places_2 | unfold C_cellplaneref06_places_3 | unfold C_cellplaneref06_places_4 | unfold C_cellplaneref06_places_5 | unfold C_cellplaneref06_places_6 | unfold C_cellplaneref06_places_7 | unfold C_cellplaneref06_places_8 | unfold C_cellplaneref06_places_9 | unfold C_cellplaneref06_places_10 | unfold C_cellplaneref06_places_11)
      | (with_reducible refine ifbn (fun h => ?_) (fun h => ?_))
      | (with_reducible refine ifbd (fun h => ?_) (fun h => ?_))
      | (with_reducible refine ifbnd (fun h => ?_) (fun h => ?_))
      | (refine ifb (fun h => ?_) (fun h => ?_))


theorem ref06_numbers_spec {e : G_api_Entry} (hk : 1 ≤ e.Kind ∧ e.Kind ≤ 16) {u : Int} (hv : 0 ≤ u ∧ u ≤ 1000000) (w : World) : Spec PP n_cellplaneref06_numbers [.agg (List.toArray e.cells), .int .i64 u] w noB (fun v _ => v = .bool (decide (nuP e u))) := by
  refine cellplaneref06_numbers_calls e u _ w ?_
  unfold F_cellplaneref06_numbers
  have T : Now noB w w := Now.refl
  obtain ⟨kind, tick, tenant, cell, other, epoch, from_, until_, n⟩ := e
  simp only at hk
  have wu : IntKind.i64.wrap (u - 1) = u - 1 := wrap_i64 (by omega) (by omega)
  intro b lb
  refine Reb.A T Anc.start (fun w T _ => ?_)
  unfold C_cellplaneref06_numbers_1
  dsimp only
  refine Reb.A T Anc.start (fun w T _ => ?_)
  rcases kinds hk with rfl | rfl | rfl | rfl | rfl | rfl | rfl | rfl | rfl | rfl | rfl | rfl | rfl | rfl | rfl | rfl
  all_goals
    repeat' first
      | exact Reb.A T Anc.start (fun w T _ => ⟨T.t, by grind [nuP, inM]⟩)
      | refine Reb.A T Anc.start (fun w T _ => ?_)
      | (refine CallL.vA T Anc.start (fun wa _ _ => ref06_has_spec _ _ wa) (fun w T _ => ⟨_, rfl, ?_⟩); simp only [has1, has2, has3, has4, has5, has6, has7, has8, has9, has10, has11, has12, has13, has14, has15, has16, IfB_t, IfB_f, Bool.not_true, Bool.not_false, Bool.true_beq, Bool.false_beq])
      | refine CallL.vA T Anc.start (fun wa _ _ => ref06_in_spec _ _ _ wa) (fun w T _ => ⟨_, rfl, ?_⟩)
      | (first | unfold C_cellplaneref06_numbers_1 | unfold C_cellplaneref06_numbers_2 | unfold C_cellplaneref06_numbers_3 | unfold C_cellplaneref06_numbers_4 | unfold C_cellplaneref06_numbers_5 | unfold C_cellplaneref06_numbers_6 | unfold C_cellplaneref06_numbers_7 | unfold C_cellplaneref06_numbers_8)
      | (with_reducible refine ifbn (fun h => ?_) (fun h => ?_))
      | (with_reducible refine ifbd (fun h => ?_) (fun h => ?_))
      | (with_reducible refine ifbnd (fun h => ?_) (fun h => ?_))
      | (refine ifb (fun h => ?_) (fun h => ?_))


theorem ref06_right_spec (e : G_api_Entry) {t c r u : Int} (ht : 0 ≤ t ∧ t ≤ 1000000) (hc : 0 ≤ c ∧ c ≤ 1000000) (hr : 0 ≤ r ∧ r ≤ 1000000) (hv : 0 ≤ u ∧ u ≤ 1000000) (w : World) :
    Spec PP n_cellplaneref06_right [.agg (List.toArray e.cells), .int .i64 t, .int .i64 c, .int .i64 r, .int .i64 u] w noB (fun v _ => v = .bool (decide (okP e t c r u))) := by
  refine cellplaneref06_right_calls e t c r u _ w ?_
  unfold F_cellplaneref06_right
  have T : Now noB w w := Now.refl
  intro b lb
  refine CallL.vA T Anc.start (fun wa _ _ => ref06_in_spec _ _ _ wa) (fun w T _ => ⟨_, rfl, ?_⟩)
  refine ifb (fun h1 => ?_) (fun h1 => Reb.A T Anc.start (fun w T _ => ⟨T.t, by grind [okP, inM]⟩))
  refine CallL.vA T Anc.start (fun wa _ _ => ref06_in_spec _ _ _ wa) (fun w T _ => ⟨_, rfl, ?_⟩)
  refine ifb (fun h2 => ?_) (fun h2 => Reb.A T Anc.start (fun w T _ => ⟨T.t, by grind [okP, inM]⟩))
  have hk : 1 ≤ e.Kind ∧ e.Kind ≤ 16 := by simpa [inM] using h1
  refine CallL.vA T Anc.start (fun wa _ _ => ref06_places_spec hk ht hc hr wa) (fun w T _ => ⟨_, rfl, ?_⟩)
  refine ifb (fun h3 => ?_) (fun h3 => Reb.A T Anc.start (fun w T _ => ⟨T.t, by grind [okP, inM]⟩))
  refine CallL.vA T Anc.start (fun wa _ _ => ref06_numbers_spec hk hv wa) (fun w T _ => ⟨_, rfl, ?_⟩)
  exact Reb.A T Anc.start (fun w T _ => ⟨T.t, by grind [okP, inM]⟩)

theorem ref06_Shape_spec (e : G_api_Entry) (w : World) : Spec PP n_cellplaneref06_Shape [.agg (List.toArray e.cells)] w noB (fun v _ => v = .bool (decide (okP e 32 16 4 30))) := by
  refine cellplaneref06_Shape_calls e _ w ?_
  unfold F_cellplaneref06_Shape
  have T : Now noB w w := Now.refl
  intro b lb
  refine CallL.vA T Anc.start (fun wa _ _ => ref06_right_spec e (by omega) (by omega) (by omega) (by omega) wa) (fun w T _ => ⟨_, rfl, ?_⟩)
  exact Reb.A T Anc.start (fun w T _ => ⟨T.t, rfl⟩)

end Go.Sh
