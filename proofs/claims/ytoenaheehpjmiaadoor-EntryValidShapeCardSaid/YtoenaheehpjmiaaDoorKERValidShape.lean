/- EntryValidShape: for every input the law returns true, and every argument reads as it did.
   Conditions: none beyond the row's own. -/
import Derived.Test.YtoenaheehpjmiaaDoorCards
import Derived.Test.YtoenaheehpjmiaaDoorTie
import Derived.Test.YtoenaheehpjmiaaDoorRows
import Derived.Test.YtoenaheehpjmiaaDoorKRE
import Derived.Test.YtoenaheehpjmiaaDoorKEL3
namespace Go.Proofs.YtoenaheehpjmiaaDoor.entryValidShape
open Go Go.Sh Go.ChangeShapes Go.RowKit
set_option linter.unusedVariables false
set_option linter.unusedSimpArgs false
theorem own : ownKnob PP.godebug = none := by kernel_rfl
theorem laidOut : laidOutB PP = true := by kernel_rfl
theorem ub : PP.underlying a0E = some .bool := by kernel_rfl
theorem u0 : PP.underlying lG = some (.slice eP) := by kernel_rfl
theorem c0 : PP.cellsOf eP = 1 := by kernel_rfl
theorem u2 : PP.underlying 3 = some (.int .i64) := by kernel_rfl
theorem u3 : PP.underlying 3 = some (.int .i64) := by kernel_rfl
set_option maxRecDepth 100000 in
theorem lifted (os : Os) (started : os.Started) (H : Type) (enc : TypeId × Value → H) :
    ReturnsInHanded {} Tryd.checked os 7 .any (fun w args => (Rows.entryValidShapeSpec.pre enc Tryd.prog Tryd.f7 Rows.entryValidShapeRow.domain false w args ∧ laidMetH Tryd.prog a0K w) ∧ sizedMet enc Tryd.prog Tryd.f7 (OpenSpec.ofChange Rows.entryValidShapeSpec) false w args) (Rows.entryValidShapeSpec.post enc Tryd.prog Tryd.f7 false true false false) := by
  refine returnsInHanded_of_change_and (C := Tryd.checked) (X := fun w _ => laidMetH Tryd.prog a0K w) (fun _ _ _ hh h => h.of_heap hh) own started (by kernel_rfl) Tryd.func7
    (ChangeSpec.witness_at (enc := enc) (C := Tryd.checked) (os := os) (X := fun w _ => laidMetH Tryd.prog a0K w) false (aZ3 os) #[.slice none 0 0, .agg #[.int .i64 0, .int .i64 0, .int .i64 0, .int .i64 0, .int .i64 0, .int .i64 0, .int .i64 0, .int .i64 0, .int .i64 0], .int .i64 0, .int .i64 0] 8 rfl (by kernel_rfl) (by kernel_rfl) (by kernel_rfl) (by kernel_rfl) (by kernel_rfl) (aZW os _)) ?_
  intro W base args ds gs before hval0 hW _ _ hL _
  have hN : aIF W := aYT hL
  have hval : ∀ (j : Nat) t v, Tryd.f7.params[j]? = some t → args[j]? = some v → Value.okWide Tryd.prog W .any base t v := hval0
  have hW' := hW
  obtain ⟨p, q, hA0, hV, rfl, hfz, hnd⟩ := hW
  have hA : DataW.TrodAll enc Tryd.prog W 0 (fun _ => true) true Tryd.f7.params.toList args.toList ds p := hA0
  rw [Tryd.params7] at hA hval
  obtain ⟨v0, vs0, d0, ds0, p0, q0, ha0, rfl, rfl, h0, r0⟩ := trodAll_cons hA
  obtain ⟨v1, vs1, d1, ds1, p1, q1, ha1, rfl, rfl, h1, r1⟩ := trodAll_cons r0
  obtain ⟨v2, vs2, d2, ds2, p2, q2, ha2, rfl, rfl, h2, r2⟩ := trodAll_cons r1
  obtain ⟨v3, vs3, d3, ds3, p3, q3, ha3, rfl, rfl, h3, r3⟩ := trodAll_cons r2
  obtain ⟨e1, rfl, rfl⟩ := trodAll_nil r3
  obtain rfl : args = #[v0, v1, v2, v3] := by cases args; simp_all
  obtain ⟨s0, x0, rfl, in0⟩ := open_slice (c := intC) (k := 1) (φ := fun _ => True) u0 c0 (fun n cs y h => (by obtain ⟨m, rfl, _, _⟩ := DataW.trod_int (by kernel_rfl : PP.underlying eP = some (.int .i64)) h; exact ⟨m, rfl, trivial⟩)) (hval 0 _ v0 rfl rfl) h0
  obtain ⟨x1, rfl, wx1⟩ := a0X (hval 1 _ v1 rfl rfl) h1
  obtain ⟨n2, rfl, rfl, rfl, wf2⟩ := open_int u2 (hval 2 _ v2 rfl rfl) h2
  obtain ⟨n3, rfl, rfl, rfl, wf3⟩ := open_int u3 (hval 3 _ v3 rfl rfl) h3
  refine Calls.mono (a0N in0 x1 n2 n3 hN) fun e W' ⟨v, he, ht, hv⟩ => ⟨v, he, ?_⟩
  subst hv
  exact law_post laidOut (by intro t ht; rw [Tryd.params7] at ht; simp only [List.mem_cons, List.not_mem_nil, or_false] at ht; rcases ht with rfl | rfl | rfl | rfl <;> exact ⟨by kernel_rfl, of_decide_eq_true (by kernel_rfl)⟩) (tb := a0E) rfl ub rfl rfl hW' ht
theorem holds : Rows.EntryValidShapeSaid :=
  OpenClaim.holds_of_wide 7 Tryd.f7 rfl rfl rfl rfl rfl rfl rfl ⟨rfl, rfl, rfl, rfl, rfl⟩ rfl rfl rfl rfl rfl (by kernel_rfl) Tryd.func7 (by kernel_rfl)
    (of_decide_eq_true (by kernel_rfl)) (by unfold Func.isWrapper; first | (rw [if_pos (by decide +kernel)]; kernel_rfl) | (rw [if_neg (by decide +kernel)]; exact ⟨rfl, rfl⟩))
    (fun os started H enc _ => lifted os started H enc)
theorem card : Rows.EntryValidShapeCardSaid :=
  Claim7.holds_tied_plain_at .later [] [.data] true (true, "81a1dd593cec514f664d0226b1f7232033442efbecd0f368f250ee0a5c45e5e7") false
    holds (fun _ h => by cases h) (by kernel_rfl) (fun _ h => by cases h) entryValidShape_row_tie rfl ⟨rfl, rfl⟩ (by kernel_rfl) rfl
    (fun f fn hf hfn => by
      obtain rfl : f = 7 := Option.some.inj ((show Tryd.prog.funcNamed "cellplane/cellplanelaw06.EntryValidShape" = some 7 by kernel_rfl).symm.trans hf) |>.symm
      obtain rfl : fn = Tryd.f7 := (Option.some.inj (Tryd.func7.symm.trans hfn)).symm
      exact ⟨by kernel_rfl, fun j t ht => by
        have hall : (Tryd.f7.params.toList.all fun t => !Tryd.prog.wantsStandIn t) = true := by kernel_rfl
        have := List.all_eq_true.1 hall t (Array.mem_toList_iff.2 (Array.mem_of_getElem? ht))
        exact (by simpa using this : Tryd.prog.wantsStandIn t = false)⟩)
    (by kernel_rfl)
end Go.Proofs.YtoenaheehpjmiaaDoor.entryValidShape
