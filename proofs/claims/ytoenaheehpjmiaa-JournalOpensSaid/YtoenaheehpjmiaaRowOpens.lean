/- JournalOpens: for every input the law returns true, and every argument reads as it did.
   Conditions: none beyond the row's own. -/
import Derived.Test.YtoenaheehpjmiaaUR
import Derived.Test.YtoenaheehpjmiaaU21
import Derived.Test.YtoenaheehpjmiaaJF
import Derived.Test.YtoenaheehpjmiaaRows
namespace Go.Proofs.Ytoenaheehpjmiaa.journalOpens
open Go Go.Sh Go.ChangeShapes Go.RowKit
set_option linter.unusedVariables false
set_option linter.unusedSimpArgs false

theorem own : ownKnob PP.godebug = none := by kernel_rfl
theorem laidOut : laidOutB PP = true := by kernel_rfl
theorem ub : PP.underlying t_bool = some .bool := by kernel_rfl
theorem u0 : PP.underlying t_sl_cellplanelaw08_Act = some (.slice t_cellplanelaw08_Act) := by kernel_rfl
theorem c0 : PP.cellsOf t_cellplanelaw08_Act = 3 := by kernel_rfl
theorem u1 : PP.underlying t_sl_u8 = some (.slice t_u8) := by kernel_rfl
theorem c1 : PP.cellsOf t_u8 = 1 := by kernel_rfl
theorem u2 : PP.underlying 3 = some (.int .i64) := by kernel_rfl
theorem u3 : PP.underlying t_u8 = some (.int .u8) := by kernel_rfl
theorem u8a : PP.underlying t_sl_u8 = some (.slice t_u8) := by kernel_rfl
theorem u8b : PP.underlying t_u8 = some (.int .u8) := by kernel_rfl
set_option maxRecDepth 100000 in
theorem lifted (os : Os) (started : os.Started) (H : Type) (enc : TypeId × Value → H) :
    ReturnsInHanded {} Try.checked os 8 .any (Rows.journalOpensSpec.pre6 enc Try.prog Try.f8 Rows.journalOpensRow.domain false) (Rows.journalOpensSpec.post enc Try.prog Try.f8 false true false false) := by
  refine returnsInHanded_of_change (C := Try.checked) own started (by kernel_rfl) Try.func8
    (ChangeSpec.witness6 (enc := enc) (C := Try.checked) false ⟨#[], #[.slice none 0 0, .slice none 0 0, .int .i64 0, .int .u8 0], []⟩ 8 (by kernel_rfl) (by kernel_rfl) (by kernel_rfl) (by kernel_rfl)) ?_
  intro W base args ds gs before hval0 hW hcnd _
  have hval : ∀ (j : Nat) t v, Try.f8.params[j]? = some t → args[j]? = some v → Value.okWide Try.prog W .any base t v := hval0
  have hW' := hW
  obtain ⟨p, q, hA0, hV, rfl, hfz, hnd⟩ := hW
  have hA : DataW.TrodAll enc Try.prog W 0 (fun _ => true) true Try.f8.params.toList args.toList ds p := hA0
  rw [Try.params8] at hA hval
  obtain ⟨v0, vs0, d0, ds0, p0, q0, ha0, rfl, rfl, h0, r0⟩ := trodAll_cons hA
  obtain ⟨v1, vs1, d1, ds1, p1, q1, ha1, rfl, rfl, h1, r1⟩ := trodAll_cons r0
  obtain ⟨v2, vs2, d2, ds2, p2, q2, ha2, rfl, rfl, h2, r2⟩ := trodAll_cons r1
  obtain ⟨v3, vs3, d3, ds3, p3, q3, ha3, rfl, rfl, h3, r3⟩ := trodAll_cons r2
  obtain ⟨e1, rfl, rfl⟩ := trodAll_nil r3
  obtain rfl : args = #[v0, v1, v2, v3] := by cases args; simp_all
  obtain ⟨s0, x0, rfl, in0⟩ := open_slice (c := actC) (k := 3) (φ := actOk) u0 c0 (fun n cs y h => (el_act n cs y h)) (hval 0 _ v0 rfl rfl) h0
  obtain ⟨s1, x1, rfl, in1⟩ := open_slice (c := byteC) (k := 1) (φ := fun _ => True) u1 c1 (fun n cs y h => (open_bytes u8a u8b n cs y h)) (hval 1 _ v1 rfl rfl) h1
  obtain ⟨n2, rfl, rfl, rfl, wf2⟩ := open_int u2 (hval 2 _ v2 rfl rfl) h2
  obtain ⟨n3, rfl, rfl, rfl, wf3⟩ := open_int u3 (hval 3 _ v3 rfl rfl) h3
  refine Calls.mono (JournalOpens_spec in0 in1 n2 n3 (bu8 wf3)) fun e W' ⟨v, he, ht, hv⟩ => ⟨v, he, ?_⟩
  subst hv
  exact law_post laidOut (by intro t ht; rw [Try.params8] at ht; simp only [List.mem_cons, List.not_mem_nil, or_false] at ht; rcases ht with rfl | rfl | rfl | rfl <;> exact ⟨by kernel_rfl, of_decide_eq_true (by kernel_rfl)⟩) (tb := t_bool) rfl ub rfl rfl hW' ht

theorem closed : joinedFacts Try.pinned.checked.prog 8 Try.f8 Rows.journalOpensSpec Rows.journalOpensRow = true := by
  unfold joinedFacts
  rw [mayT, show (Rows.journalOpensRow.lifted == Try.pinned.checked.prog.liftsFinal) = true from liftT, show (Try.pinned.checked.prog.make == some Rows.journalOpensRow.make) = true from makeT]
  kernel_rfl

theorem holds : Rows.JournalOpensSaid :=
  OpenClaim.holds_of_wide 8 Try.f8 rfl rfl rfl rfl rfl rfl rfl ⟨rfl, rfl, rfl, rfl, rfl⟩ rfl rfl rfl rfl rfl (by kernel_rfl) Try.func8 closed
    (of_decide_eq_true (by kernel_rfl)) (by unfold Func.isWrapper; first | (rw [if_pos (by decide +kernel)]; kernel_rfl) | (rw [if_neg (by decide +kernel)]; exact ⟨rfl, rfl⟩))
    (fun os started H enc _ => lifted os started H enc)
end Go.Proofs.Ytoenaheehpjmiaa.journalOpens
