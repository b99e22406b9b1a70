/- Arguments of the session laws, opened.
   Conditions: none. -/
import Derived.Test.YtcligpfkmnlhnaaSY
namespace Go.Sh
open Go
set_option linter.unusedSimpArgs false
set_option linter.unusedVariables false

theorem u_change : ∃ fs, PP.underlying t_api_Change = some (.struct fs) := struct_of (by kernel_rfl)

section
variable {H : Type} {enc : TypeId × Value → H} {w : World} {base : Nat} {sp : Nat → Bool} {held : Bool}

theorem el_int (n : Nat) (cs : List Value) (y : DataW H × List MemPlace) (h : DataW.trod enc PP w base sp held n t_i64_2 cs = some y) : ∃ x : Int, cs = intC x ∧ True := by
  obtain ⟨m, rfl, _, _⟩ := DataW.trod_int (by kernel_rfl : PP.underlying t_i64_2 = some (.int .i64)) h
  exact ⟨m, rfl, trivial⟩

def changeL : List Leaf := [.int .i64, .int .i64, .int .i64, .int .i64, .int .i64, .int .i64, .string, .string]
theorem flat_change : flatT PP 4 t_api_Change = some changeL := by kernel_rfl
theorem change_of {cs : List Value} (h : okLeaves changeL cs) : ∃ x : G_api_Change, cs = x.cells := by
  obtain ⟨_, _, ⟨a, rfl, _⟩, h, rfl⟩ := h
  obtain ⟨_, _, ⟨b, rfl, _⟩, h, rfl⟩ := h
  obtain ⟨_, _, ⟨c, rfl, _⟩, h, rfl⟩ := h
  obtain ⟨_, _, ⟨d, rfl, _⟩, h, rfl⟩ := h
  obtain ⟨_, _, ⟨e, rfl, _⟩, h, rfl⟩ := h
  obtain ⟨_, _, ⟨f, rfl, _⟩, h, rfl⟩ := h
  obtain ⟨_, _, ⟨g, rfl, _⟩, h, rfl⟩ := h
  obtain ⟨_, _, ⟨i, rfl, _⟩, h, rfl⟩ := h
  cases h
  exact ⟨⟨a, b, c, d, e, f, g, i⟩, rfl⟩

theorem el_change (n : Nat) (cs : List Value) (y : DataW H × List MemPlace) (h : DataW.trod enc PP w base sp held n t_api_Change cs = some y) : ∃ x : G_api_Change, cs = chC x ∧ True := by
  obtain ⟨x, hx⟩ := change_of (flatT_spec 4 _ _ _ _ _ flat_change h)
  exact ⟨x, hx, trivial⟩

set_option maxRecDepth 100000 in
theorem open_change {v : Value} {b0 : Nat} {d : DataW H} {ps : List MemPlace} (hval : Value.okWide PP w .any b0 t_api_Change v) (h : DataW.Trod enc PP w base sp held t_api_Change v d ps) : ∃ x : G_api_Change, v = .agg (List.toArray x.cells) := by
  obtain ⟨fs, hfs⟩ := u_change
  have hO := open_agg (P := PP) (w := w) (t := t_api_Change) (v := v) (b0 := b0) (d := d) (ps := ps) (enc := enc) (base := base) (sp := sp) (held := held) hfs flat_change
  obtain ⟨cs, rfl, hl⟩ := hO hval h
  obtain ⟨x, rfl⟩ := change_of hl
  exact ⟨x, rfl⟩

theorem In.le {α : Type} {c : α → List Value} {k : Nat} {φ : α → Prop} {s : Sl} {xs : List α} (h : In c k φ w s xs) : xs.length ≤ 9223372036854775807 := by
  have h1 := h.rd.1
  have h2 := h.cap
  have h3 := h.capm
  simp only [maxLen] at h3
  omega
end
end Go.Sh
