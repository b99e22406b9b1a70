/- JournalPlays: for every input the law returns true, and every argument reads as it did.
   Conditions: none beyond the row's own. -/
import Derived.Test.YtoenaheehpjmiaaUR
import Derived.Test.YtoenaheehpjmiaaU20
import Derived.Test.YtoenaheehpjmiaaJF
import Derived.Test.YtoenaheehpjmiaaRows
namespace Go.Proofs.Ytoenaheehpjmiaa.journalPlays
open Go Go.Sh Go.ChangeShapes Go.RowKit
set_option linter.unusedVariables false
set_option linter.unusedSimpArgs false

theorem own : ownKnob PP.godebug = none := by kernel_rfl
theorem laidOut : laidOutB PP = true := by kernel_rfl
theorem ub : PP.underlying t_bool = some .bool := by kernel_rfl
theorem u0 : PP.underlying t_sl_cellplanelaw08_Act = some (.slice t_cellplanelaw08_Act) := by kernel_rfl
theorem c0 : PP.cellsOf t_cellplanelaw08_Act = 3 := by kernel_rfl

set_option maxRecDepth 100000 in
theorem lifted (os : Os) (started : os.Started) (H : Type) (enc : TypeId × Value → H) :
    ReturnsInHanded {} Try.checked os 7 .any (Rows.journalPlaysSpec.pre6 enc Try.prog Try.f7 Rows.journalPlaysRow.domain false) (Rows.journalPlaysSpec.post enc Try.prog Try.f7 false true false false) := by
  refine returnsInHanded_of_change (C := Try.checked) own started (by kernel_rfl) Try.func7
    (ChangeSpec.witness6 (enc := enc) (C := Try.checked) false ⟨#[], #[.slice none 0 0], []⟩ 8 (by kernel_rfl) (by kernel_rfl) (by kernel_rfl) (by kernel_rfl)) ?_
  intro W base args ds gs before hval0 hW hcnd _
  have hval : ∀ (j : Nat) t v, Try.f7.params[j]? = some t → args[j]? = some v → Value.okWide Try.prog W .any base t v := hval0
  have hW' := hW
  obtain ⟨p, q, hA0, hV, rfl, hfz, hnd⟩ := hW
  have hA : DataW.TrodAll enc Try.prog W 0 (fun _ => true) true Try.f7.params.toList args.toList ds p := hA0
  rw [Try.params7] at hA hval
  obtain ⟨v0, vs0, d0, ds0, p0, q0, ha0, rfl, rfl, h0, r0⟩ := trodAll_cons hA
  obtain ⟨e1, rfl, rfl⟩ := trodAll_nil r0
  obtain rfl : args = #[v0] := by cases args; simp_all
  obtain ⟨s0, x0, rfl, in0⟩ := open_slice (c := actC) (k := 3) (φ := actOk) u0 c0 (fun n cs y h => (el_act n cs y h)) (hval 0 _ v0 rfl rfl) h0
  refine Calls.mono (JournalPlays_spec in0) fun e W' ⟨v, he, ht, hv⟩ => ⟨v, he, ?_⟩
  subst hv
  exact law_post laidOut (by intro t ht; rw [Try.params7] at ht; simp only [List.mem_cons, List.not_mem_nil, or_false] at ht; subst ht <;> exact ⟨by kernel_rfl, of_decide_eq_true (by kernel_rfl)⟩) (tb := t_bool) rfl ub rfl rfl hW' ht

theorem closed : joinedFacts Try.pinned.checked.prog 7 Try.f7 Rows.journalPlaysSpec Rows.journalPlaysRow = true := by
  unfold joinedFacts
  rw [mayT, show (Rows.journalPlaysRow.lifted == Try.pinned.checked.prog.liftsFinal) = true from liftT, show (Try.pinned.checked.prog.make == some Rows.journalPlaysRow.make) = true from makeT]
  kernel_rfl

theorem holds : Rows.JournalPlaysSaid :=
  OpenClaim.holds_of_wide 7 Try.f7 rfl rfl rfl rfl rfl rfl rfl ⟨rfl, rfl, rfl, rfl, rfl⟩ rfl rfl rfl rfl rfl (by kernel_rfl) Try.func7 closed
    (of_decide_eq_true (by kernel_rfl)) (by unfold Func.isWrapper; first | (rw [if_pos (by decide +kernel)]; kernel_rfl) | (rw [if_neg (by decide +kernel)]; exact ⟨rfl, rfl⟩))
    (fun os started H enc _ => lifted os started H enc)
end Go.Proofs.Ytoenaheehpjmiaa.journalPlays
