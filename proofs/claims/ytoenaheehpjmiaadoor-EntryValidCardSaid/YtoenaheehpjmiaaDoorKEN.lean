/- A part of the proof (printed smaller by a program of ours). Conditions: none. -/
import Derived.Test.YtoenaheehpjmiaaDoorRows
import Derived.ChangeSame
import Derived.ChangeVars
import Derived.JoinedOf
import Derived.RowKit
import Derived.RowKitTokens
import Derived.LaidLaws
import Derived.LaidHandle
import Derived.MakeChecks
import Derived.OpenShut
import Derived.Test.YtoenaheehpjmiaaDoorKEC
namespace Go.Sh
open Go Go.Proofs.YtoenaheehpjmiaaDoor
set_option linter.unusedSimpArgs false
set_option linter.unusedVariables false
def a0K : List (String × DataW Unit) := [("cellplane/entry.names", Rows.laid_cellplane_entry_names)]
theorem gN : PP.globalNamed "cellplane/entry.names" = some 0 := by kernel_rfl
theorem gNT : (PP.globals[0]?).map (·.type) = some aIG := by kernel_rfl
theorem uNT : PP.underlying aIG = some (.array 16 aFS) := by kernel_rfl
theorem uSt : PP.underlying aFS = some .string := by kernel_rfl
theorem cSt : PP.cellsOf aFS = 1 := by kernel_rfl
theorem cNT : PP.cellsOf aIG = 16 := by kernel_rfl
theorem aWF {s : ByteArray} {l : List UInt8} (h : s.data.toList = l) : s = ⟨l.toArray⟩ := by
  cases s with | mk d => simp only at h; subst h; simp
theorem a0M : (Rows.laid_cellplane_entry_names : DataW Unit) = .agg (vW.map fun s => .lit (.string s.data.toList)) := by
  rfl
theorem aYT {W : World} (h : laidMetH PP a0K W) : aIF W := by
  rw [MakeChecks.laidMetH_plain _ _ _ (by kernel_rfl)] at h
  obtain ⟨ps, ⟨g, t, cs, fuel, p, q, h1, h2, h3, h4, _, _⟩, _⟩ := h
  obtain rfl : 0 = g := Option.some.inj (gN.symm.trans h1)
  obtain rfl : aIG = t := Option.some.inj (gNT.symm.trans h2)
  obtain ⟨xs, m, rfl, hx, hl, hn, hg⟩ := DataW.trod_array uNT h4
  rw [cSt] at hg
  rw [cNT] at hl
  rw [a0M] at hx
  simp only [Prod.mk.injEq, DataW.agg.injEq] at hx
  obtain ⟨hx, _⟩ := hx
  have hcell : ∀ i, i < 16 → ∃ s, vW[i]? = some s ∧ cs.toList[i]? = some (.string s) := by
    intro i hi
    have hy : xs[i]? = some xs[i] := List.getElem?_eq_getElem (by omega)
    have h5 := hg i hi
    rw [hy] at h5
    obtain ⟨s, e1, e2, _⟩ := DataW.trod_string uSt h5
    have e3 : (xs.map (·.1))[i]? = some (.lit (.string s.data.toList)) := by
      rw [List.getElem?_map, hy, e2]; rfl
    rw [← hx, List.getElem?_map] at e3
    have e4 : i < vW.length := by show i < 16; exact hi
    rw [List.getElem?_eq_getElem e4] at e3
    simp only [Option.map_some, Option.some.injEq, DataW.lit.injEq, Lit.string.injEq] at e3
    refine ⟨s, ?_, ?_⟩
    · rw [List.getElem?_eq_getElem e4, aWF e3.symm, aWF (rfl : vW[i].data.toList = _)]
    · have e5 : ((cs.toList.drop (i * 1)).take 1)[0]? = some (.string s) := by rw [e1]; rfl
      simpa using e5
  have hlt : 0 < W.heap.size := by
    have := World.var?_cell gN h3 0
    obtain ⟨s, _, hs⟩ := hcell 0 (by omega)
    rw [← Array.getElem?_toList, hs] at this
    exact World.block_lt_of_cell? _ _ this
  refine ⟨hlt, fun j v hj => ?_⟩
  have hf : (vW.flatMap strC)[j]? = (vW[j]?).map Value.string := by
    have : vW.flatMap strC = vW.map Value.string := by
      rfl
    rw [this, List.getElem?_map]
  rw [hf] at hj
  have hj16 : j < 16 := by
    rcases Nat.lt_or_ge j 16 with h | h
    · exact h
    · rw [List.getElem?_eq_none (show vW.length ≤ j from h)] at hj; cases hj
  obtain ⟨s, hs1, hs2⟩ := hcell j hj16
  rw [hs1] at hj
  obtain rfl := Option.some.inj hj
  have hc := World.var?_cell gN h3 j
  rw [← Array.getElem?_toList, hs2] at hc
  have ha : Addr.add ⟨0, 0, none⟩ j = ⟨0, j, none⟩ := by unfold Addr.add; cases j <;> simp
  rw [ha]; exact hc
noncomputable def aZ3 (os : Os) : World :=
  let w0 := World.holding PP os ⟨#[], #[], []⟩
  { w0 with heap := w0.heap.modify 0 fun
      | .cells _ t frozen => .cells (vW.map Value.string).toArray t frozen
      | o => o }
theorem aZW (os : Os) (args : Array Value) : laidMetH PP a0K ((aZ3 os).forCall (fun _ _ => 0) ⟨#[], args, []⟩).memory := by
  rw [MakeChecks.laidMetH_plain _ _ _ (by kernel_rfl)]
  exact laidMet_of_run (ps := (List.range 16).map fun i => .cell 0 i) 8 (by kernel_rfl) (by kernel_rfl) (by kernel_rfl)
end Go.Sh
