/- Contracts of the validity tests.
   Conditions: none. -/
import Derived.Test.YtcligpfkmnlhnaaLib2
import Derived.Test.YtcligpfkmnlhnaaF0
import Derived.Test.YtcligpfkmnlhnaaF1
import Derived.Test.YtcligpfkmnlhnaaF2
import Derived.Test.YtcligpfkmnlhnaaF3
import Derived.Test.YtcligpfkmnlhnaaF4
import Derived.Test.YtcligpfkmnlhnaaF5
import Derived.Test.YtcligpfkmnlhnaaF6
import Derived.Test.YtcligpfkmnlhnaaF7
import Derived.Test.YtcligpfkmnlhnaaF8
import Derived.Test.YtcligpfkmnlhnaaF9
namespace Go.Sh
open Go
set_option linter.unusedSimpArgs false
set_option linter.unusedVariables false

abbrev noB : Nat → Prop := fun _ => False

def isKeyM (s : ByteArray) : Bool := decide (1 ≤ (s.size : Int)) && decide ((s.size : Int) ≤ 16)
def isValueM (s : ByteArray) : Bool := decide ((s.size : Int) ≤ 64)
def empB (s : ByteArray) : Bool := strEq s { data := #[] }
def inM (n a b : Int) : Bool := decide (a ≤ n) && decide (n ≤ b)
def validM (x : G_api_Change) : Bool :=
  decide (1 ≤ x.Epoch) && decide (x.Epoch ≤ 1048576) && decide (1 ≤ x.Seq) && decide (x.Seq ≤ 4096) && decide (1 ≤ x.Client) && decide (x.Client ≤ 8) && decide (1 ≤ x.Number) && decide (x.Number ≤ 1048576) &&
  (if x.Kind = 1 then isKeyM x.Key && isValueM x.Value_ && decide (x.Item = 0)
   else if x.Kind = 2 then isKeyM x.Key && empB x.Value_ && decide (x.Item = 0)
   else if x.Kind = 3 then empB x.Key && isValueM x.Value_ && decide (x.Item = 0)
   else if x.Kind = 4 then empB x.Key && empB x.Value_ && decide (1 ≤ x.Item) && decide (x.Item < x.Seq)
   else false)

theorem store_isKey_spec (s : ByteArray) (w : World) : Spec PP n_store_isKey [.string s] w noB (fun v _ => v = .bool (isKeyM s)) := by
  refine store_isKey_calls s _ w ?_
  unfold F_store_isKey
  have T : Now noB w w := Now.refl
  repeat' first
    | refine Reb.val (by assumption) (Nat.le_refl _) ?_
    | with_reducible refine ifbd (fun h => ?_) (fun h => ?_)
    | with_reducible refine ifbnd (fun h => ?_) (fun h => ?_)
    | with_reducible refine ifbn (fun h => ?_) (fun h => ?_)
    | refine ifb (fun h => ?_) (fun h => ?_)
  all_goals grind [isKeyM]

theorem store_isValue_spec (s : ByteArray) (w : World) : Spec PP n_store_isValue [.string s] w noB (fun v _ => v = .bool (isValueM s)) := by
  refine store_isValue_calls s _ w ?_
  unfold F_store_isValue
  have T : Now noB w w := Now.refl
  repeat' first
    | refine Reb.val (by assumption) (Nat.le_refl _) ?_
    | with_reducible refine ifbd (fun h => ?_) (fun h => ?_)
    | with_reducible refine ifbnd (fun h => ?_) (fun h => ?_)
    | with_reducible refine ifbn (fun h => ?_) (fun h => ?_)
    | refine ifb (fun h => ?_) (fun h => ?_)
  all_goals grind [isValueM]

theorem store_Valid_spec (x : G_api_Change) (w : World) : Spec PP n_store_Valid [.agg (List.toArray x.cells)] w noB (fun v _ => v = .bool (validM x)) := by
  refine store_Valid_calls x _ w ?_
  unfold F_store_Valid
  have T : Now noB w w := Now.refl
  intro b hb
  repeat' first
    | refine Reb.val (by assumption) (Nat.le_refl _) ?_
    | with_reducible refine ifbd (fun h => ?_) (fun h => ?_)
    | with_reducible refine ifbnd (fun h => ?_) (fun h => ?_)
    | with_reducible refine ifbn (fun h => ?_) (fun h => ?_)
    | refine ifb (fun h => ?_) (fun h => ?_)
    | (refine CallL.val (by assumption) (Nat.le_refl _) (fun wa _ _ => store_isKey_spec _ _) (fun w' t1 _ => ?_); refine ⟨_, rfl, ?_⟩)
    | (refine CallL.val (by assumption) (Nat.le_refl _) (fun wa _ _ => store_isValue_spec _ _) (fun w' t1 _ => ?_); refine ⟨_, rfl, ?_⟩)
  all_goals grind [validM, empB]

theorem ref24_in_spec (n a b : Int) (w : World) : Spec PP n_cellplaneref24_in [.int .i64 n, .int .i64 a, .int .i64 b] w noB (fun v _ => v = .bool (inM n a b)) := by
  refine cellplaneref24_in_calls n a b _ w ?_
  unfold F_cellplaneref24_in
  have T : Now noB w w := Now.refl
  repeat' first
    | refine Reb.val (by assumption) (Nat.le_refl _) ?_
    | with_reducible refine ifbd (fun h => ?_) (fun h => ?_)
    | with_reducible refine ifbnd (fun h => ?_) (fun h => ?_)
    | with_reducible refine ifbn (fun h => ?_) (fun h => ?_)
    | refine ifb (fun h => ?_) (fun h => ?_)
  all_goals grind [inM]

theorem ref24_Key_spec (s : ByteArray) (w : World) : Spec PP n_cellplaneref24_Key [.string s] w noB (fun v _ => v = .bool (isKeyM s)) := by
  refine cellplaneref24_Key_calls s _ w ?_
  unfold F_cellplaneref24_Key
  have T : Now noB w w := Now.refl
  repeat' first
    | refine Reb.val (by assumption) (Nat.le_refl _) ?_
    | with_reducible refine ifbd (fun h => ?_) (fun h => ?_)
    | with_reducible refine ifbnd (fun h => ?_) (fun h => ?_)
    | with_reducible refine ifbn (fun h => ?_) (fun h => ?_)
    | refine ifb (fun h => ?_) (fun h => ?_)
    | (refine CallL.val (by assumption) (Nat.le_refl _) (fun wa _ _ => ref24_in_spec _ _ _ _) (fun w' t1 _ => ?_); refine ⟨_, rfl, ?_⟩)
  all_goals grind [inM, isKeyM]

theorem ref24_Value_spec (s : ByteArray) (w : World) : Spec PP n_cellplaneref24_Value [.string s] w noB (fun v _ => v = .bool (isValueM s)) := by
  refine cellplaneref24_Value_calls s _ w ?_
  unfold F_cellplaneref24_Value
  have T : Now noB w w := Now.refl
  repeat' first
    | refine Reb.val (by assumption) (Nat.le_refl _) ?_
    | with_reducible refine ifbd (fun h => ?_) (fun h => ?_)
    | with_reducible refine ifbnd (fun h => ?_) (fun h => ?_)
    | with_reducible refine ifbn (fun h => ?_) (fun h => ?_)
    | refine ifb (fun h => ?_) (fun h => ?_)
  all_goals grind [isValueM]

theorem ref24_Valid_spec (x : G_api_Change) (w : World) : Spec PP n_cellplaneref24_Valid [.agg (List.toArray x.cells)] w noB (fun v _ => v = .bool (validM x)) := by
  refine cellplaneref24_Valid_calls x _ w ?_
  unfold F_cellplaneref24_Valid
  have T : Now noB w w := Now.refl
  intro b hb
  repeat' first
    | refine Reb.val (by assumption) (Nat.le_refl _) ?_
    | with_reducible refine ifbd (fun h => ?_) (fun h => ?_)
    | with_reducible refine ifbnd (fun h => ?_) (fun h => ?_)
    | with_reducible refine ifbn (fun h => ?_) (fun h => ?_)
    | refine ifb (fun h => ?_) (fun h => ?_)
    | (refine CallL.val (by assumption) (Nat.le_refl _) (fun wa _ _ => ref24_Key_spec _ _) (fun w' t1 _ => ?_); refine ⟨_, rfl, ?_⟩)
    | (refine CallL.val (by assumption) (Nat.le_refl _) (fun wa _ _ => ref24_Value_spec _ _) (fun w' t1 _ => ?_); refine ⟨_, rfl, ?_⟩)
    | (refine CallL.val (by assumption) (Nat.le_refl _) (fun wa _ _ => ref24_in_spec _ _ _ _) (fun w' t1 _ => ?_); refine ⟨_, rfl, ?_⟩)
  all_goals grind [validM, empB, inM, wrap_i64]

theorem valid_range {x : G_api_Change} (h : validM x = true) : 1 ≤ x.Epoch ∧ x.Epoch ≤ 1048576 ∧ 1 ≤ x.Seq ∧ x.Seq ≤ 4096 ∧ 1 ≤ x.Client ∧ x.Client ≤ 8 ∧ 1 ≤ x.Number ∧ x.Number ≤ 1048576 ∧ 1 ≤ x.Kind ∧ x.Kind ≤ 4 ∧
    (x.Kind ≠ 4 → x.Item = 0) ∧ (x.Kind = 4 → 1 ≤ x.Item ∧ x.Item < x.Seq) := by
  grind [validM]

end Go.Sh
