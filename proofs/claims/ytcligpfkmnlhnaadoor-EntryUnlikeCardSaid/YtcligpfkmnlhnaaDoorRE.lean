/- Arguments of the entry laws, opened.
   Conditions: none. -/
import Derived.Test.YtcligpfkmnlhnaaDoorEN
import Derived.Test.YtcligpfkmnlhnaaDoorEW
import Derived.Test.YtcligpfkmnlhnaaDoorLib4
namespace Go.Sh
open Go
set_option linter.unusedSimpArgs false
set_option linter.unusedVariables false

theorem bi64 {n : Int} (h : (Lit.int .i64 n).wf = true) : okI n := by
  simp [Lit.wf, IntKind.min, IntKind.max, IntKind.signed, IntKind.bits] at h; unfold okI; omega

theorem struct_of {P : Program} {t : TypeId} (h : (match P.underlying t with | some (.struct _) => true | _ => false) = true) : ∃ fs, P.underlying t = some (.struct fs) := by
  split at h
  · rename_i fs hu; exact ⟨fs, hu⟩
  · cases h
theorem u_entry : ∃ fs, PP.underlying t_api_Entry = some (.struct fs) := struct_of (by kernel_rfl)
def entryL : List Leaf := [.int .i64, .int .i64, .int .i64, .int .i64, .int .i64, .int .i64, .int .i64, .int .i64, .int .i64]
theorem flat_entry : flatT PP 4 t_api_Entry = some entryL := by kernel_rfl
theorem entry_of {cs : List Value} (h : okLeaves entryL cs) : ∃ x : G_api_Entry, cs = x.cells ∧ ∀ n ∈ flds x, okI n := by
  obtain ⟨_, _, ⟨a, rfl, ha⟩, h, rfl⟩ := h
  obtain ⟨_, _, ⟨b, rfl, hb⟩, h, rfl⟩ := h
  obtain ⟨_, _, ⟨c, rfl, hc⟩, h, rfl⟩ := h
  obtain ⟨_, _, ⟨d, rfl, hd⟩, h, rfl⟩ := h
  obtain ⟨_, _, ⟨e, rfl, he⟩, h, rfl⟩ := h
  obtain ⟨_, _, ⟨f, rfl, hf⟩, h, rfl⟩ := h
  obtain ⟨_, _, ⟨g, rfl, hg⟩, h, rfl⟩ := h
  obtain ⟨_, _, ⟨i, rfl, hi⟩, h, rfl⟩ := h
  obtain ⟨_, _, ⟨j, rfl, hj⟩, h, rfl⟩ := h
  cases h
  refine ⟨⟨a, b, c, d, e, f, g, i, j⟩, rfl, ?_⟩
  intro n hn
  simp only [flds, List.mem_cons, List.not_mem_nil, or_false] at hn
  rcases hn with rfl | rfl | rfl | rfl | rfl | rfl | rfl | rfl | rfl
  · exact bi64 ha
  · exact bi64 hb
  · exact bi64 hc
  · exact bi64 hd
  · exact bi64 he
  · exact bi64 hf
  · exact bi64 hg
  · exact bi64 hi
  · exact bi64 hj

set_option maxRecDepth 100000 in
theorem open_entry {H : Type} {enc : TypeId × Value → H} {w : World} {base : Nat} {sp : Nat → Bool} {held : Bool} {v : Value} {b0 : Nat} {d : DataW H} {ps : List MemPlace} (hval : Value.okWide PP w .any b0 t_api_Entry v) (h : DataW.Trod enc PP w base sp held t_api_Entry v d ps) :
    ∃ x : G_api_Entry, v = .agg (List.toArray x.cells) ∧ ∀ n ∈ flds x, okI n := by
  obtain ⟨fs, hfs⟩ := u_entry
  have hO := open_agg (P := PP) (w := w) (t := t_api_Entry) (v := v) (b0 := b0) (d := d) (ps := ps) (enc := enc) (base := base) (sp := sp) (held := held) hfs flat_entry
  obtain ⟨cs, rfl, hl⟩ := hO hval h
  obtain ⟨x, rfl, hx⟩ := entry_of hl
  exact ⟨x, rfl, hx⟩

end Go.Sh
