/- A part of the proof (printed smaller by a program of ours). Conditions: none. -/
import Derived.Test.YtoenaheehpjmiaaDoorKEN
import Derived.Test.YtoenaheehpjmiaaDoorKEW
import Derived.Test.YtoenaheehpjmiaaDoorKL
namespace Go.Sh
open Go
set_option linter.unusedSimpArgs false
set_option linter.unusedVariables false
theorem bi64 {n : Int} (h : (Lit.int .i64 n).wf = true) : okI n := by
  simp [Lit.wf, IntKind.min, IntKind.max, IntKind.signed, IntKind.bits] at h; unfold okI; omega
theorem a06 {P : Program} {t : TypeId} (h : (match P.underlying t with | some (.struct _) => true | _ => false) = true) : ∃ fs, P.underlying t = some (.struct fs) := by
  split at h
  · rename_i fs hu; exact ⟨fs, hu⟩
  · cases h
theorem a19 : ∃ fs, PP.underlying aD = some (.struct fs) := a06 (by kernel_rfl)
def a1A : List Leaf := [.int .i64, .int .i64, .int .i64, .int .i64, .int .i64, .int .i64, .int .i64, .int .i64, .int .i64]
theorem a0W : flatT PP 4 aD = some a1A := by kernel_rfl
theorem a1C {cs : List Value} (h : okLeaves a1A cs) : ∃ x : aC, cs = x.cells ∧ ∀ n ∈ flds x, okI n := by
  obtain ⟨_, _, ⟨a, rfl, ha⟩, h, rfl⟩ := h
  obtain ⟨_, _, ⟨b, rfl, hb⟩, h, rfl⟩ := h
  obtain ⟨_, _, ⟨c, rfl, hc⟩, h, rfl⟩ := h
  obtain ⟨_, _, ⟨d, rfl, hd⟩, h, rfl⟩ := h
  obtain ⟨_, _, ⟨e, rfl, he⟩, h, rfl⟩ := h
  obtain ⟨_, _, ⟨f, rfl, hf⟩, h, rfl⟩ := h
  obtain ⟨_, _, ⟨g, rfl, hg⟩, h, rfl⟩ := h
  obtain ⟨_, _, ⟨i, rfl, hi⟩, h, rfl⟩ := h
  obtain ⟨_, _, ⟨j, rfl, hj⟩, h, rfl⟩ := h
  cases h
  refine ⟨⟨a, b, c, d, e, f, g, i, j⟩, rfl, ?_⟩
  intro n hn
  simp only [flds, List.mem_cons, List.not_mem_nil, or_false] at hn
  rcases hn with rfl | rfl | rfl | rfl | rfl | rfl | rfl | rfl | rfl
  · exact bi64 ha
  · exact bi64 hb
  · exact bi64 hc
  · exact bi64 hd
  · exact bi64 he
  · exact bi64 hf
  · exact bi64 hg
  · exact bi64 hi
  · exact bi64 hj
set_option maxRecDepth 100000 in
theorem a0X {H : Type} {enc : TypeId × Value → H} {w : World} {base : Nat} {sp : Nat → Bool} {held : Bool} {v : Value} {b0 : Nat} {d : DataW H} {ps : List MemPlace} (hval : Value.okWide PP w .any b0 aD v) (h : DataW.Trod enc PP w base sp held aD v d ps) :
    ∃ x : aC, v = .agg (List.toArray x.cells) ∧ ∀ n ∈ flds x, okI n := by
  obtain ⟨fs, hfs⟩ := a19
  have hO := open_agg (P := PP) (w := w) (t := aD) (v := v) (b0 := b0) (d := d) (ps := ps) (enc := enc) (base := base) (sp := sp) (held := held) hfs a0W
  obtain ⟨cs, rfl, hl⟩ := hO hval h
  obtain ⟨x, rfl, hx⟩ := a1C hl
  exact ⟨x, rfl, hx⟩
end Go.Sh
