/- EntryKinds: the law's walk.
   Conditions: the list of names stands in its variable (N). -/
import Derived.Test.YtcligpfkmnlhnaaDoorEC
namespace Go.Sh
open Go
set_option linter.unusedSimpArgs false
set_option linter.unusedVariables false
set_option maxHeartbeats 2000000

theorem EntryKinds_spec (kind tenant cell other epoch from_ until_ n : Int) {w : World} (hN : NamesAt w) : Spec PP n_cellplanelaw06_EntryKinds [.int .i64 kind, .int .i64 tenant, .int .i64 cell, .int .i64 other, .int .i64 epoch, .int .i64 from_, .int .i64 until_, .int .i64 n] w noB (fun v _ => v = .bool true) := by
  refine cellplanelaw06_EntryKinds_calls kind tenant cell other epoch from_ until_ n _ w ?_
  unfold F_cellplanelaw06_EntryKinds
  have T : Now noB w w := Now.refl
  refine CallL.vA T Anc.nil (fun wa _ _ => make_Between_spec (by omega) (by omega) (by omega) wa) (fun w1 T t => ⟨_, rfl, ?_⟩)
  refine CallL.vA T Anc.nil (fun wa _ _ => make_Between_spec (by omega) (by omega) (by omega) wa) (fun w1 T t => ⟨_, rfl, ?_⟩)
  refine CallL.vA T Anc.nil (fun wa _ _ => make_Between_spec (by omega) (by omega) (by omega) wa) (fun w1 T t => ⟨_, rfl, ?_⟩)
  refine CallL.vA T Anc.nil (fun wa _ _ => make_Between_spec (by omega) (by omega) (by omega) wa) (fun w1 T t => ⟨_, rfl, ?_⟩)
  refine CallL.vA T Anc.nil (fun wa _ _ => make_Between_spec (by omega) (by omega) (by omega) wa) (fun w1 T t => ⟨_, rfl, ?_⟩)
  refine CallL.vA T Anc.nil (fun wa _ _ => make_Between_spec (by omega) (by omega) (by omega) wa) (fun w1 T t => ⟨_, rfl, ?_⟩)
  refine CallL.vA T Anc.nil (fun wa _ _ => make_Between_spec (by omega) (by omega) (by omega) wa) (fun w1 T t => ⟨_, rfl, ?_⟩)
  refine CallL.vA T Anc.nil (fun wa _ _ => make_Between_spec (by omega) (by omega) (by omega) wa) (fun w1 T t => ⟨_, rfl, ?_⟩)
  intro b1 hb1 b2 hb2
  refine CallL.vA T Anc.start (fun wa T _ => awake06_spec (hN.now T)) (fun w1 T t => ⟨_, rfl, ?_⟩)
  refine ifb (fun _ => ?_) (fun h => absurd h (by decide))
  refine CallL.vA T Anc.start (fun wa T _ => entry_Shape_spec _ wa) (fun w1 T t => ⟨_, rfl, ?_⟩)
  refine CallL.vA T Anc.start (fun wa T _ => ref06_Shape_spec _ wa) (fun w1 T t => ⟨_, rfl, ?_⟩)
  refine ifb (fun _ => ?_) (fun h => absurd h (by simp))
  refine CallL.vA T Anc.start (fun wa T _ => entry_Shape_spec _ wa) (fun w1 T t => ⟨_, rfl, ?_⟩)
  refine CallL.vA T Anc.start (fun wa T _ => ref06_Shape_spec _ wa) (fun w1 T t => ⟨_, rfl, ?_⟩)
  exact Reb.A T Anc.start (fun w2 T t => ⟨T.t, by simp⟩)

end Go.Sh
