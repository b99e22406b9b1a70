/- Arguments of the journal laws, opened.
   Conditions: none. -/
import Derived.Test.YtoenaheehpjmiaaU10
import Derived.Test.YtoenaheehpjmiaaLib4
namespace Go.Sh
open Go
set_option linter.unusedSimpArgs false
set_option linter.unusedVariables false

theorem bi64 {n : Int} (h : (Lit.int .i64 n).wf = true) : okI n := by
  simp [Lit.wf, IntKind.min, IntKind.max, IntKind.signed, IntKind.bits] at h; unfold okI; omega
def actL : List Leaf := [.int .i64, .int .i64, .int .i64]
theorem flat_act : flatT PP 4 t_cellplanelaw08_Act = some actL := by kernel_rfl
theorem act_of {cs : List Value} (h : okLeaves actL cs) : ∃ x : G_cellplanelaw08_Act, cs = actC x ∧ actOk x := by
  obtain ⟨_, _, ⟨a, rfl, ha⟩, h, rfl⟩ := h
  obtain ⟨_, _, ⟨b, rfl, hb⟩, h, rfl⟩ := h
  obtain ⟨_, _, ⟨c, rfl, hc⟩, h, rfl⟩ := h
  cases h
  exact ⟨⟨a, b, c⟩, rfl, bi64 ha, bi64 hb, bi64 hc⟩
section
variable {H : Type} {enc : TypeId × Value → H} {w : World} {base : Nat} {sp : Nat → Bool} {held : Bool}
theorem el_act (n : Nat) (cs : List Value) (y : DataW H × List MemPlace) (h : DataW.trod enc PP w base sp held n t_cellplanelaw08_Act cs = some y) : ∃ x : G_cellplanelaw08_Act, cs = actC x ∧ actOk x :=
  act_of (flatT_spec 4 _ _ _ _ _ flat_act h)
theorem el_int (n : Nat) (cs : List Value) (y : DataW H × List MemPlace) (h : DataW.trod enc PP w base sp held n t_i64_2 cs = some y) : ∃ x : Int, cs = intC' x ∧ True := by
  obtain ⟨m, rfl, _, _⟩ := DataW.trod_int (by kernel_rfl : PP.underlying t_i64_2 = some (.int .i64)) h
  exact ⟨m, rfl, trivial⟩
end
end Go.Sh
