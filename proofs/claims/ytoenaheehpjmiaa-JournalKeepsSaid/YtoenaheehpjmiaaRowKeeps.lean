/- JournalKeeps: for every input the law returns true, and every argument reads as it did.
   Conditions: none beyond the row's own. -/
import Derived.Test.YtoenaheehpjmiaaUR
import Derived.Test.YtoenaheehpjmiaaU13
import Derived.Test.YtoenaheehpjmiaaJF
import Derived.Test.YtoenaheehpjmiaaRows
namespace Go.Proofs.Ytoenaheehpjmiaa.journalKeeps
open Go Go.Sh Go.ChangeShapes Go.RowKit
set_option linter.unusedVariables false
set_option linter.unusedSimpArgs false

theorem own : ownKnob PP.godebug = none := by kernel_rfl
theorem laidOut : laidOutB PP = true := by kernel_rfl
theorem ub : PP.underlying t_bool = some .bool := by kernel_rfl
theorem u0 : PP.underlying t_sl_i64 = some (.slice t_i64_2) := by kernel_rfl
theorem c0 : PP.cellsOf t_i64_2 = 1 := by kernel_rfl
theorem u1 : PP.underlying 3 = some (.int .i64) := by kernel_rfl
theorem u2 : PP.underlying 3 = some (.int .i64) := by kernel_rfl

set_option maxRecDepth 100000 in
theorem lifted (os : Os) (started : os.Started) (H : Type) (enc : TypeId × Value → H) :
    ReturnsInHanded {} Try.checked os 4 .any (Rows.journalKeepsSpec.pre6 enc Try.prog Try.f4 Rows.journalKeepsRow.domain false) (Rows.journalKeepsSpec.post enc Try.prog Try.f4 false true false false) := by
  refine returnsInHanded_of_change (C := Try.checked) own started (by kernel_rfl) Try.func4
    (ChangeSpec.witness6 (enc := enc) (C := Try.checked) false ⟨#[], #[.slice none 0 0, .int .i64 0, .int .i64 0], []⟩ 8 (by kernel_rfl) (by kernel_rfl) (by kernel_rfl) (by kernel_rfl)) ?_
  intro W base args ds gs before hval0 hW hcnd _
  have hval : ∀ (j : Nat) t v, Try.f4.params[j]? = some t → args[j]? = some v → Value.okWide Try.prog W .any base t v := hval0
  have hW' := hW
  obtain ⟨p, q, hA0, hV, rfl, hfz, hnd⟩ := hW
  have hA : DataW.TrodAll enc Try.prog W 0 (fun _ => true) true Try.f4.params.toList args.toList ds p := hA0
  rw [Try.params4] at hA hval
  obtain ⟨v0, vs0, d0, ds0, p0, q0, ha0, rfl, rfl, h0, r0⟩ := trodAll_cons hA
  obtain ⟨v1, vs1, d1, ds1, p1, q1, ha1, rfl, rfl, h1, r1⟩ := trodAll_cons r0
  obtain ⟨v2, vs2, d2, ds2, p2, q2, ha2, rfl, rfl, h2, r2⟩ := trodAll_cons r1
  obtain ⟨e1, rfl, rfl⟩ := trodAll_nil r2
  obtain rfl : args = #[v0, v1, v2] := by cases args; simp_all
  obtain ⟨s0, x0, rfl, in0⟩ := open_slice (c := intC') (k := 1) (φ := fun _ => True) u0 c0 (fun n cs y h => (el_int n cs y h)) (hval 0 _ v0 rfl rfl) h0
  obtain ⟨n1, rfl, rfl, rfl, wf1⟩ := open_int u1 (hval 1 _ v1 rfl rfl) h1
  obtain ⟨n2, rfl, rfl, rfl, wf2⟩ := open_int u2 (hval 2 _ v2 rfl rfl) h2
  refine Calls.mono (JournalKeeps_spec in0 n1 n2) fun e W' ⟨v, he, ht, hv⟩ => ⟨v, he, ?_⟩
  subst hv
  exact law_post laidOut (by intro t ht; rw [Try.params4] at ht; simp only [List.mem_cons, List.not_mem_nil, or_false] at ht; rcases ht with rfl | rfl | rfl <;> exact ⟨by kernel_rfl, of_decide_eq_true (by kernel_rfl)⟩) (tb := t_bool) rfl ub rfl rfl hW' ht

theorem closed : joinedFacts Try.pinned.checked.prog 4 Try.f4 Rows.journalKeepsSpec Rows.journalKeepsRow = true := by
  unfold joinedFacts
  rw [mayT, show (Rows.journalKeepsRow.lifted == Try.pinned.checked.prog.liftsFinal) = true from liftT, show (Try.pinned.checked.prog.make == some Rows.journalKeepsRow.make) = true from makeT]
  kernel_rfl

theorem holds : Rows.JournalKeepsSaid :=
  OpenClaim.holds_of_wide 4 Try.f4 rfl rfl rfl rfl rfl rfl rfl ⟨rfl, rfl, rfl, rfl, rfl⟩ rfl rfl rfl rfl rfl (by kernel_rfl) Try.func4 closed
    (of_decide_eq_true (by kernel_rfl)) (by unfold Func.isWrapper; first | (rw [if_pos (by decide +kernel)]; kernel_rfl) | (rw [if_neg (by decide +kernel)]; exact ⟨rfl, rfl⟩))
    (fun os started H enc _ => lifted os started H enc)
end Go.Proofs.Ytoenaheehpjmiaa.journalKeeps
