/- Arguments that can be read as data, opened; the row of a law whose call turns nothing and answers true.
   Conditions: none. -/
import Derived.Test.YtoenaheehpjmiaaLib3
import Derived.ProofKit
import GoSem.Claim
import GoSem.ClaimJoined
namespace Go.Sh
open Go
open Go.RowKit
set_option linter.unusedSimpArgs false
set_option linter.unusedVariables false

def okLeaf : Leaf → Value → Prop
  | .bool, v => ∃ b, v = .bool b
  | .int k, v => ∃ n, v = .int k n ∧ (Lit.int k n).wf = true
  | .string, v => ∃ s : ByteArray, v = .string s ∧ s.size ≤ maxLen
  | _, _ => False

def okLeaves : List Leaf → List Value → Prop
  | [], cs => cs = []
  | l :: r, cs => ∃ v u, okLeaf l v ∧ okLeaves r u ∧ cs = v :: u

theorem okLeaves_append : ∀ {a b : List Leaf} {x y : List Value}, okLeaves a x → okLeaves b y → okLeaves (a ++ b) (x ++ y)
  | [], b, x, y, h, g => by cases h; exact g
  | l :: r, b, x, y, h, g => by
    obtain ⟨v, u, h1, h2, rfl⟩ := h
    exact ⟨v, u ++ y, h1, okLeaves_append h2 g, rfl⟩

theorem okLeaves_len : ∀ {a : List Leaf} {x : List Value}, okLeaves a x → x.length = a.length
  | [], x, h => by cases h; rfl
  | l :: r, x, h => by
    obtain ⟨v, u, h1, h2, rfl⟩ := h
    simp [okLeaves_len h2]

def flatF (P : Program) (g : TypeId → Option (List Leaf)) : List Field → Nat → Option (List Leaf)
  | [], _ => some []
  | f :: r, off =>
    match g f.type with
    | some ls => if Nat.beq f.offset off && Nat.beq (P.cellsOf f.type) ls.length then (flatF P g r (off + ls.length)).map (ls ++ ·) else none
    | none => none

/-- the leaves of a type of plain data, one behind the other -/
def flatT (P : Program) : Nat → TypeId → Option (List Leaf)
  | 0, _ => none
  | d + 1, t =>
    match P.underlying t with
    | some .bool => some [.bool]
    | some (.int k) => some [.int k]
    | some .string => some [.string]
    | some (.struct fs) =>
      match flatF P (flatT P d) fs.toList 0 with
      | some ls => if Nat.beq (P.cellsOf t) ls.length then some ls else none
      | none => none
    | _ => none

section
variable {H : Type} {enc : TypeId × Value → H} {P : Program} {w : World} {base : Nat} {sp : Nat → Bool} {held : Bool}

theorem flatF_spec {g : TypeId → Option (List Leaf)} {tr : TypeId → List Value → Prop} (hg : ∀ t ls cs, g t = some ls → tr t cs → okLeaves ls cs) {cs : List Value} :
    ∀ (fs : List Field) (off : Nat) (ls : List Leaf), flatF P g fs off = some ls → (∀ f ∈ fs, tr f.type ((cs.drop f.offset).take (P.cellsOf f.type))) → cs.length = off + ls.length → okLeaves ls (cs.drop off)
  | [], off, ls, h, _, hl => by
    simp [flatF] at h
    subst h
    simp at hl
    show cs.drop off = []
    exact List.drop_of_length_le (by omega)
  | f :: r, off, ls, h, hall, hl => by
    unfold flatF at h
    split at h
    · rename_i l1 hl1
      split at h
      · rename_i hb
        simp only [Bool.and_eq_true, Nat.beq_eq] at hb
        cases hr : flatF P g r (off + l1.length) with
        | none => rw [hr] at h; cases h
        | some l2 =>
          rw [hr] at h
          simp only [Option.map_some, Option.some.injEq] at h
          subst h
          have h1 := hg _ _ _ hl1 (hall f (by simp))
          rw [hb.1, hb.2] at h1
          have h2 := flatF_spec hg r _ _ hr (fun x hx => hall x (by simp [hx])) (by rw [List.length_append] at hl; omega)
          have := okLeaves_append h1 h2
          rw [← List.drop_drop] at this
          rwa [List.take_append_drop] at this
      · cases h
    · cases h

theorem flatT_spec : ∀ (d : Nat) (t : TypeId) (ls : List Leaf) (n : Nat) (cs : List Value) (y : DataW H × List MemPlace), flatT P d t = some ls → DataW.trod enc P w base sp held n t cs = some y → okLeaves ls cs
  | 0, t, ls, n, cs, y, h, _ => by simp [flatT] at h
  | d + 1, t, ls, n, cs, y, h, hy => by
    unfold flatT at h
    split at h
    · rename_i ht
      cases h
      obtain ⟨b, rfl, _⟩ : ∃ b, cs = [.bool b] ∧ True := by
        cases n with
        | zero => simp [DataW.trod] at hy
        | succ n =>
          unfold DataW.trod at hy
          rw [ht] at hy
          split at hy <;> simp_all
      exact ⟨_, [], ⟨b, rfl⟩, rfl, rfl⟩
    · rename_i k ht
      cases h
      obtain ⟨m, rfl, _, hw⟩ := DataW.trod_int ht hy
      exact ⟨_, [], ⟨m, rfl, hw⟩, rfl, rfl⟩
    · rename_i ht
      cases h
      obtain ⟨s, rfl, _, hw⟩ := DataW.trod_string ht hy
      exact ⟨_, [], ⟨s, rfl, hw⟩, rfl, rfl⟩
    · rename_i fs ht
      split at h
      · rename_i l1 hl1
        split at h
        · rename_i hb
          simp only [Option.some.injEq] at h
          subst h
          rw [Nat.beq_eq] at hb
          obtain ⟨xs, m, rfl, _, hlen, hxl, hf⟩ := DataW.trod_struct ht hy
          have := flatF_spec (P := P) (g := flatT P d) (tr := fun t cs => ∃ y, DataW.trod enc P w base sp held m t cs = some y) (cs := cs) (fun t ls cs h1 ⟨y, h2⟩ => flatT_spec d t ls m cs y h1 h2) fs.toList 0 l1 hl1 ?_ (by omega)
          · simpa using this
          · intro f hfm
            obtain ⟨i, hi, he⟩ := List.getElem_of_mem hfm
            have h1 := hf i f (by simp at hi; simp [hi, ← he])
            have : i < xs.length := by simp at hi; omega
            rw [List.getElem?_eq_getElem this] at h1
            exact ⟨_, h1⟩
        · cases h
      · cases h
    · cases h

theorem at_of_cells {a : Addr} {n : Nat} {cs : List Value} (h : w.cells? base a n = some cs) : At w a cs := by
  obtain ⟨_, hl, hi⟩ := World.cells?_some h
  intro j v hj
  have : j < cs.length := by
    rcases Nat.lt_or_ge j cs.length with h' | h'
    · exact h'
    · rw [List.getElem?_eq_none h'] at hj; cases hj
  rw [hi j (by omega), hj]

theorem choose_list {α : Type} {p : Nat → α → Prop} : ∀ {n : Nat}, (∀ i, i < n → ∃ x, p i x) → ∃ xs : List α, xs.length = n ∧ ∀ i x, xs[i]? = some x → p i x
  | 0, _ => ⟨[], rfl, fun i x h => by simp at h⟩
  | n + 1, h => by
    obtain ⟨xs, hl, hx⟩ := choose_list (n := n) (fun i hi => h i (by omega))
    obtain ⟨y, hy⟩ := h n (by omega)
    refine ⟨xs ++ [y], by simp [hl], fun i x hi => ?_⟩
    rcases Nat.lt_or_ge i n with h' | h'
    · rw [List.getElem?_append_left (by omega)] at hi; exact hx i x hi
    · rw [List.getElem?_append_right (by omega)] at hi
      have : i = n := by
        rcases Nat.eq_zero_or_pos (i - xs.length) with h0 | h0
        · omega
        · rw [List.getElem?_eq_none (by simp; omega)] at hi; cases hi
      subst this
      simp [hl] at hi
      subst hi
      exact hy

/-- a slice that comes in -/
structure In {α : Type} (c : α → List Value) (k : Nat) (φ : α → Prop) (w : World) (s : Sl) (xs : List α) : Prop where
  rd : Rd c k w s xs
  lt : ∀ b, s.on b → b < w.heap.size
  cap : s.n ≤ s.c
  capm : s.c ≤ maxLen
  capn : s.a = none → s.c = 0
  all : ∀ x ∈ xs, φ x

theorem open_slice {α : Type} {c : α → List Value} {k : Nat} {φ : α → Prop} {t e : TypeId} {v : Value} {b0 : Nat} {d : DataW H} {ps : List MemPlace} (ht : P.underlying t = some (.slice e)) (hk : P.cellsOf e = k)
    (hel : ∀ n cs y, DataW.trod enc P w base sp held n e cs = some y → ∃ x, cs = c x ∧ φ x) (hval : Value.okWide P w .any b0 t v) (h : DataW.Trod enc P w base sp held t v d ps) :
    ∃ (s : Sl) (xs : List α), v = .slice s.a s.n s.c ∧ In c k φ w s xs := by
  obtain ⟨fuel, h⟩ := h
  rcases DataW.trod_slice ht h with ⟨h0, _⟩ | ⟨a, len, cap, elems, rest, n, _, h0, _, hb, hl, hm, hlen, hel', _, _⟩
  · have hv : v = .slice none 0 0 := by
      cases v <;> simp [Value.cells] at h0 <;> first | exact congrArg _ h0 | (obtain ⟨rfl, rfl, rfl⟩ := h0; rfl) | skip
      all_goals (unfold Value.okWide at hval; rw [ht] at hval; unfold Cell.okWide at hval; rw [ht] at hval; simp [Cell.ok, ht] at hval)
    exact ⟨⟨none, 0, 0⟩, [], hv, Rd.nil, fun b hb => by simp at hb, Nat.le_refl _, Nat.zero_le _, fun _ => rfl, fun x hx => by cases hx⟩
  · have hv : v = .slice (some a) len cap := by
      cases v <;> simp [Value.cells] at h0 <;> first | exact congrArg _ h0 | (obtain ⟨rfl, rfl, rfl⟩ := h0; rfl) | skip
      all_goals (unfold Value.okWide at hval; rw [ht] at hval; unfold Cell.okWide at hval; rw [ht] at hval; simp [Cell.ok, ht] at hval)
    subst hv
    have hlt : a.block < w.heap.size := by
      unfold Value.okWide at hval
      rw [ht] at hval
      unfold Cell.okWide at hval
      rw [ht] at hval
      simp only [Cell.ok, ht, World.has] at hval
      obtain ⟨_, _, _, _, row, cells, hs, _⟩ := hval
      unfold World.shape? at hs
      rcases Nat.lt_or_ge a.block w.heap.size with h' | h'
      · exact h'
      · rw [Array.getElem?_eq_none h'] at hs; cases hs
    obtain ⟨xs, hxl, hx⟩ := choose_list (p := fun i x => At w (a.add (i * k)) (c x) ∧ φ x) (n := len) (fun i hi => by
      have h1 := hel' i hi
      rw [hk] at h1
      have : i < elems.length := by omega
      rw [List.getElem?_eq_getElem this] at h1
      simp only [Option.bind_eq_some_iff] at h1
      obtain ⟨cs', h2, h3⟩ := h1
      obtain ⟨x, rfl, hφ⟩ := hel n cs' _ h3
      exact ⟨x, at_of_cells h2, hφ⟩)
    refine ⟨⟨some a, len, cap⟩, xs, rfl, ⟨hxl, (fun h => by cases h), (fun p hp i x hi => by cases hp; exact (hx i x hi).1)⟩, fun b hb => by simp at hb; rw [← hb]; exact hlt, hl, hm, (fun h => by cases h), fun x hx' => ?_⟩
    obtain ⟨i, hi, he⟩ := List.getElem_of_mem hx'
    exact (hx i x (by rw [List.getElem?_eq_getElem hi, he])).2

/-- a struct that comes in -/
theorem open_agg {t : TypeId} {fs : Array Field} {v : Value} {b0 : Nat} {d : DataW H} {ps : List MemPlace} {ls : List Leaf} {m : Nat} (ht : P.underlying t = some (.struct fs)) (hp : flatT P m t = some ls)
    (hval : Value.okWide P w .any b0 t v) (h : DataW.Trod enc P w base sp held t v d ps) : ∃ cs : List Value, v = .agg cs.toArray ∧ okLeaves ls cs := by
  obtain ⟨fuel, h⟩ := h
  have h1 := flatT_spec m t ls fuel _ _ hp h
  unfold Value.okWide at hval
  rw [ht] at hval
  obtain ⟨cs, rfl, _, _⟩ := hval
  exact ⟨cs.toList, by simp, by simpa [Value.cells] using h1⟩

theorem open_bytes {t e : TypeId} (ht : P.underlying t = some (.slice e)) (he : P.underlying e = some (.int .u8)) (n : Nat) (cs : List Value) (y : DataW H × List MemPlace)
    (h : DataW.trod enc P w base sp held n e cs = some y) : ∃ x : UInt8, cs = byteC x ∧ True := by
  obtain ⟨m, rfl, _, hw⟩ := DataW.trod_int he h
  have : 0 ≤ m ∧ m ≤ 255 := by simpa [Lit.wf, IntKind.min, IntKind.max, IntKind.signed, IntKind.bits] using hw
  refine ⟨UInt8.ofNat m.toNat, ?_, trivial⟩
  simp only [byteC, List.cons.injEq, and_true, Value.int.injEq, true_and]
  rw [UInt8.toNat_ofNat']
  omega
end

/-! ### the row of a law -/
theorem trodAll_stays {H : Type} {enc : TypeId × Value → H} {P : Program} (hl : laidOutB P = true) {W W' : World} (hb : Below W.heap.size W W') :
    ∀ {ts : List TypeId} {vs : List Value} {ds : List (DataW H)} {ps : List MemPlace}, (∀ t ∈ ts, P.readableRec t = true ∧ t < P.types.size) → (∀ x ∈ ps, x.block < W.heap.size) →
      DataW.TrodAll enc P W 0 (fun _ => true) true ts vs ds ps → DataW.TrodAll enc P W' 0 (fun b => decide (b < W.heap.size)) true ts vs ds ps
  | [], [], [], ps, _, _, h => h
  | t :: ts, v :: vs, d :: ds, ps, hr, hlt, h => by
    obtain ⟨p, q, h1, h2, rfl⟩ := h
    exact ⟨p, q, Below.trod hl (hr t (by simp)).1 (hr t (by simp)).2 h1 hb (fun x hx => hlt x (by simp [hx])), trodAll_stays hl hb (fun x hx => hr x (by simp [hx])) (fun x hx => hlt x (by simp [hx])) h2, rfl⟩
  | [], [], _ :: _, _, _, _, h => h.elim
  | [], _ :: _, _, _, _, _, h => h.elim
  | _ :: _, [], _, _, _, _, h => h.elim
  | _ :: _, _ :: _, [], _, _, _, h => h.elim

theorem Touch.below {W W' : World} (h : Touch (fun _ => False) W W') : Below W.heap.size W W' := ⟨h.os, h.tape, h.output, h.size, fun k hk => h.block k hk (fun h => h)⟩

/-- 'post' of a law: nothing old has turned, the answer is true. -/
theorem law_post {H : Type} {enc : TypeId × Value → H} {P : Program} {f : Func} {s : ChangeSpec} {tb : TypeId} {W W' : World} {args : Array Value} {ds gs : List (DataW H)} {before : List MemPlace}
    (hl : laidOutB P = true) (hr : ∀ t ∈ f.params.toList, P.readableRec t = true ∧ t < P.types.size) (hres : f.resultTypes = #[tb]) (hb : P.underlying tb = some .bool) (hv : s.vars = [])
    (hs : s.fn H ds = { results := [.lit (.bool true)], args := ds }) (hW : DataW.Whole enc P f.params.toList s.vars false W args.toList ds gs before) (ht : Touch (fun _ => False) W W') :
    s.post enc P f false true false false W args (.bool true) W' := by
  obtain ⟨p, q, hA, hV, rfl, hz, hn⟩ := id hW
  have hlt : ∀ x ∈ p ++ q, x.block < W.heap.size := fun x hx => hW.lt x hx
  rw [hv] at hV
  have hgs : gs = [] ∧ q = [] := by
    cases gs with
    | nil => exact ⟨rfl, hV⟩
    | cons g r => exact hV.elim
  obtain ⟨rfl, rfl⟩ := hgs
  have hs' : s.fn H (ds ++ []) = { results := [.lit (.bool true)], args := ds } := by rw [List.append_nil]; exact hs
  refine ⟨ds, [], p ++ [], [], p, [], hW, ?_, ?_, ?_, Below.frame ht.below _, fun h => by cases h⟩
  · rw [hs', hres]
    refine ⟨[], [], ⟨1, ?_⟩, rfl, rfl⟩
    simp [DataW.trod, hb, Value.cells]
  · rw [hs']
    exact trodAll_stays hl ht.below hr (fun x hx => hlt x (by simp [hx])) hA
  · rw [hs', hv]; exact rfl

end Go.Sh
