/- EntryName: the law's walk.
   Conditions: the list of names stands in its variable (N). -/
import Derived.Test.YtcligpfkmnlhnaaDoorEC
namespace Go.Sh
open Go
set_option linter.unusedSimpArgs false
set_option linter.unusedVariables false

theorem EntryName_spec {k : Int} (h1 : -9223372036854775808 ≤ k) (h2 : k ≤ 9223372036854775807) {w : World} (hN : NamesAt w) : Spec PP n_cellplanelaw06_EntryName [.int .i64 k] w noB (fun v _ => v = .bool true) := by
  refine cellplanelaw06_EntryName_calls k _ w ?_
  unfold F_cellplanelaw06_EntryName
  have T : Now noB w w := Now.refl
  refine CallL.vA T Anc.nil (fun wa _ _ => make_Between_spec (by omega) (by omega) (by omega) wa) (fun w1 T t => ⟨_, rfl, ?_⟩)
  refine CallL.vA T Anc.nil (fun wa T _ => awake06_spec (hN.now T)) (fun w1 T t => ⟨_, rfl, ?_⟩)
  refine ifb (fun _ => ?_) (fun h => absurd h (by decide))
  refine CallL.vA T Anc.nil (fun wa T _ => entry_Name_spec h1 h2 (hN.now T)) (fun w1 T t => ⟨_, rfl, ?_⟩)
  refine CallL.vA T Anc.nil (fun wa T _ => ref06_Name_spec _ wa) (fun w1 T t => ⟨_, rfl, ?_⟩)
  refine ifb (fun _ => ?_) (fun h => absurd (strEq_iff.mpr rfl) (by rw [h]; decide))
  refine CallL.vA T Anc.nil (fun wa T _ => entry_Name_spec ?_ ?_ (hN.now T)) (fun w1 T t => ⟨_, rfl, ?_⟩)
  rotate_left 2
  refine CallL.vA T Anc.nil (fun wa T _ => ref06_Name_spec _ wa) (fun w1 T t => ⟨_, rfl, ?_⟩)
  exact Reb.A T Anc.nil (fun w2 T t => ⟨T.t, congrArg Value.bool (strEq_iff.mpr rfl)⟩)
  · have := betM_range (v := k) (a := -1) (b := 18) (by omega); omega
  · have := betM_range (v := k) (a := -1) (b := 18) (by omega); omega

end Go.Sh
