/- What a copy of a tenant does with changes, and the histories that are made of lists of numbers, in plain words.
   Conditions: none. -/
import Derived.Test.YtcligpfkmnlhnaaSJ
namespace Go.Sh
open Go
set_option linter.unusedSimpArgs false
set_option linter.unusedVariables false

structure QM where
  q : List Itm
  ls : List Lea
  most : Int

def qapply (m : QM) (x : G_api_Change) : Int × QM :=
  if validM x then
    (if x.Kind = 3 then (if x.Seq ≤ m.most then (36, m) else if 16 ≤ m.q.length then (33, m) else (0, ⟨m.q ++ [⟨x.Seq, x.Value_⟩], m.ls, x.Seq⟩))
     else if x.Kind = 4 then (if qatI x.Item m.q < 0 then (34, m) else (0, ⟨m.q.take (qat x.Item m.q) ++ m.q.drop (qat x.Item m.q + 1), dropM x.Item m.ls, m.most⟩))
     else (0, m))
  else (1, m)

structure CM where
  h : List G_api_Change
  s : List Cel
  m : QM
  t : Tab

def epochM (h : List G_api_Change) : Int := match h[h.length - 1]? with | some x => x.Epoch | none => 0
def capply (c : CM) (x : G_api_Change) : Int × CM :=
  if validM x then
    (if x.Seq ≠ (c.h.length : Int) + 1 ∨ x.Epoch < epochM c.h then (36, c)
     else if (tapply c.t x).1 ≠ 0 then ((tapply c.t x).1, c)
     else if (sapply c.s x).1 ≠ 0 then ((sapply c.s x).1, c)
     else if (qapply c.m x).1 ≠ 0 then ((qapply c.m x).1, c)
     else (0, ⟨c.h ++ [x], (sapply c.s x).2, (qapply c.m x).2, (tapply c.t x).2⟩))
  else (1, c)

def c0 : CM := ⟨[], [], ⟨[], [], 0⟩, tab0⟩

/-- the change that is drawn -/
def changeM (xs : List Int) (i : Nat) (c : CM) (epoch : Int) : G_api_Change × Nat :=
  let k := rangeM xs i 1 4
  let cl := rangeM xs k.2 1 4
  let x : G_api_Change := { Epoch := epoch, Seq := (c.h.length : Int) + 1, Kind := k.1, Client := cl.1, Number := tlast c.t cl.1 + 1, Item := 0, Key := ByteArray.empty, Value_ := ByteArray.empty }
  let kind := if k.1 = 4 ∧ c.m.q.length = 0 then 3 else if k.1 = 2 ∧ c.s.length = 0 then 1 else k.1
  if kind = 1 then
    let a := textM xs cl.2 1 16
    let b := textM xs a.2 0 64
    ({ x with Kind := kind, Key := a.1, Value_ := b.1 }, b.2)
  else if kind = 2 then
    let n := nextM xs cl.2 c.s.length
    ({ x with Kind := kind, Key := ((c.s[n.1.toNat]?).map (·.Key)).getD ByteArray.empty }, n.2)
  else if kind = 3 then
    let b := textM xs cl.2 0 64
    ({ x with Kind := kind, Value_ := b.1 }, b.2)
  else
    let n := nextM xs cl.2 c.m.q.length
    ({ x with Kind := kind, Item := ((c.m.q[n.1.toNat]?).map (·.Number)).getD 0 }, n.2)

structure GM where
  i : Nat
  e : Int
  c : CM
def gstep (xs : List Int) (g : GM) : GM :=
  let r := nextM xs g.i 7
  let e := if r.1 = 6 then g.e + 1 else g.e
  let ch := changeM xs r.2 g.c e
  ⟨ch.2, e, (capply g.c ch.1).2⟩
/-- the first rounds of Grow, as long as there are numbers -/
def growM (xs : List Int) : Nat → GM → GM
  | 0, g => g
  | k + 1, g => if g.i < xs.length then growM xs k (gstep xs g) else g

def histM (xs : List Int) : List G_api_Change := (growM xs 60 ⟨0, 1, c0⟩).c.h

/-! ### what stays -/
structure COk (c : CM) : Prop where
  t : TabOk c.t
  s : c.s.length ≤ 32
  q : c.m.q.length ≤ 16
  ls : c.m.ls = []
  f : tfold tab0 c.h = (c.t, c.h.length, 0)

theorem tfold_tabs {t : Tab} {a : List G_api_Change} (h : (tfold t a).2.2 = 0) : (tfold t a).1 = tabs t a := by
  have := tfold_at (b := []) h
  rw [List.append_nil] at this
  rw [this]; rfl

theorem tfold_snoc {t t' : Tab} {a : List G_api_Change} {n : Nat} {x : G_api_Change} (h : tfold t a = (t', n, 0)) (hn : n = a.length) (hx : (tapply t' x).1 = 0) : tfold t (a ++ [x]) = ((tapply t' x).2, n + 1, 0) := by
  have h0 : (tfold t a).2.2 = 0 := by rw [h]
  have h1 := tfold_tabs h0
  rw [tfold_at h0, ← h1, h]
  simp [tfold, hx, hn, Nat.add_comm]

theorem sapply_len {xs : List Cel} (h : xs.length ≤ 32) (x : G_api_Change) : (sapply xs x).2.length ≤ 32 := by
  have := findI_le x.Key xs
  unfold sapply
  split
  · split
    · simpa using h
    · split
      · split
        · exact h
        · simp; omega
      · split
        · split
          · exact h
          · simp; omega
        · exact h
  · exact h

theorem qapply_len {m : QM} (h : m.q.length ≤ 16) (hl : m.ls = []) (x : G_api_Change) : (qapply m x).2.q.length ≤ 16 ∧ (qapply m x).2.ls = [] := by
  unfold qapply
  split
  · split
    · split
      · exact ⟨h, hl⟩
      · split
        · exact ⟨h, hl⟩
        · exact ⟨by simp; omega, hl⟩
    · split
      · split
        · exact ⟨h, hl⟩
        · exact ⟨by simp; omega, by simp [hl, dropM]⟩
      · exact ⟨h, hl⟩
  · exact ⟨h, hl⟩

theorem capply_ok {c : CM} (h : COk c) (x : G_api_Change) : COk (capply c x).2 ∧ (capply c x).2.h.length ≤ c.h.length + 1 := by
  unfold capply
  split
  · split
    · exact ⟨h, by simp⟩
    split
    · exact ⟨h, by simp⟩
    split
    · exact ⟨h, by simp⟩
    split
    · exact ⟨h, by simp⟩
    · rename_i h1 h2 h3 h4
      have hq := qapply_len h.q h.ls x
      refine ⟨⟨tapply_ok h.t x, sapply_len h.s x, hq.1, hq.2, ?_⟩, by simp⟩
      rw [tfold_snoc h.f rfl (by simpa using h2)]
      simp
  · exact ⟨h, by simp⟩

theorem c0_ok : COk c0 := ⟨tab0_ok, by simp [c0], by simp [c0], rfl, rfl⟩

structure GrOk (xs : List Int) (k : Nat) (g : GM) : Prop where
  c : COk g.c
  i : g.i ≤ xs.length
  e : 1 ≤ g.e ∧ g.e ≤ k + 1
  h : g.c.h.length ≤ k

theorem drawL_le {xs : List Int} {i : Nat} (h : i ≤ xs.length) : ∀ m, (drawL xs i m).2 ≤ xs.length
  | 0 => h
  | m + 1 => (nextM_le (drawL_le h m)).2

theorem textM_le {xs : List Int} {i : Nat} (h : i ≤ xs.length) (a b : Int) : (textM xs i a b).2 ≤ xs.length := by
  unfold textM textK rangeM
  exact drawL_le (nextM_le (nextM_le h).2).2 _

theorem changeM_le {xs : List Int} {i : Nat} (h : i ≤ xs.length) (c : CM) (e : Int) : (changeM xs i c e).2 ≤ xs.length := by
  unfold changeM
  have h1 : (rangeM xs i 1 4).2 ≤ xs.length := (nextM_le h).2
  have h2 : (rangeM xs (rangeM xs i 1 4).2 1 4).2 ≤ xs.length := (nextM_le h1).2
  dsimp only
  generalize (if (rangeM xs i 1 4).1 = 4 ∧ c.m.q.length = 0 then (3 : Int) else if (rangeM xs i 1 4).1 = 2 ∧ c.s.length = 0 then 1 else (rangeM xs i 1 4).1) = kind
  split
  · exact textM_le (textM_le h2 _ _) _ _
  split
  · exact (nextM_le h2).2
  split
  · exact textM_le h2 _ _
  · exact (nextM_le h2).2

theorem gstep_ok {xs : List Int} {k : Nat} {g : GM} (h : GrOk xs k g) : GrOk xs (k + 1) (gstep xs g) := by
  unfold gstep
  have h1 := (nextM_le (n := 7) h.i).2
  have h2 := h.e
  have hc := capply_ok h.c (changeM xs (nextM xs g.i 7).2 g.c (if (nextM xs g.i 7).1 = 6 then g.e + 1 else g.e)).1
  have := h.h
  refine ⟨hc.1, changeM_le h1 _ _, ?_, by have := hc.2; simp only; omega⟩
  dsimp only
  split <;> constructor <;> omega

theorem growM_ok {xs : List Int} : ∀ (n k : Nat) (g : GM), GrOk xs k g → GrOk xs (k + n) (growM xs n g)
  | 0, k, g, h => h
  | n + 1, k, g, h => by
    unfold growM
    split
    · have := growM_ok n (k + 1) _ (gstep_ok h)
      rwa [Nat.add_right_comm] at this
    · exact ⟨h.c, h.i, ⟨h.e.1, by have := h.e.2; omega⟩, by have := h.h; omega⟩

theorem hist_ok (xs : List Int) : ∃ t, TabOk t ∧ tfold tab0 (histM xs) = (t, (histM xs).length, 0) ∧ (histM xs).length ≤ 60 := by
  have := growM_ok (xs := xs) 60 0 ⟨0, 1, c0⟩ ⟨c0_ok, Nat.zero_le _, by simp, by simp [c0]⟩
  exact ⟨_, this.c.t, this.c.f, by have := this.h; rw [Nat.zero_add] at this; exact this⟩

/-- behind the first n rounds, one more -/
theorem growM_next {xs : List Int} : ∀ (n : Nat) (g : GM), growM xs (n + 1) g = if (growM xs n g).i < xs.length then gstep xs (growM xs n g) else growM xs n g
  | 0, g => by
    show (if g.i < xs.length then growM xs 0 (gstep xs g) else g) = _
    rfl
  | n + 1, g => by
    by_cases h0 : g.i < xs.length
    · have e1 : growM xs (n + 1 + 1) g = growM xs (n + 1) (gstep xs g) := by rw [growM, if_pos h0]
      have e2 : growM xs (n + 1) g = growM xs n (gstep xs g) := by rw [growM, if_pos h0]
      rw [e1, e2]
      exact growM_next n _
    · have e1 : growM xs (n + 1 + 1) g = g := by rw [growM, if_neg h0]
      have e2 : growM xs (n + 1) g = g := by rw [growM, if_neg h0]
      rw [e1, e2, if_neg h0]

/-! ### a fold that ends well -/
theorem tfold_split {t : Tab} {a b : List G_api_Change} (h : (tfold t (a ++ b)).2.2 = 0) : (tfold t a).2.2 = 0 := by
  induction a generalizing t with
  | nil => rfl
  | cons x r ih =>
    simp only [List.cons_append, tfold] at h ⊢
    split
    · rename_i h0
      rw [if_pos h0] at h
      exact ih h
    · rename_i h0
      rw [if_neg h0] at h
      exact absurd h h0

theorem tfold_at_ok {t : Tab} {xs : List G_api_Change} (h : (tfold t xs).2.2 = 0) {m : Nat} {x : G_api_Change} (hx : xs[m]? = some x) : (tapply (tabs t (xs.take m)) x).1 = 0 := by
  have hm : m < xs.length := by
    rcases Nat.lt_or_ge m xs.length with h' | h'
    · exact h'
    · rw [List.getElem?_eq_none h'] at hx; cases hx
  have e : xs = xs.take m ++ x :: xs.drop (m + 1) := by
    rw [List.getElem?_eq_getElem hm] at hx
    cases hx
    rw [← List.drop_eq_getElem_cons hm, List.take_append_drop]
  rw [e] at h
  have h1 := tfold_split h
  rw [tfold_at h1] at h
  simp only [tfold] at h
  by_cases h0 : (tapply (tabs t (xs.take m)) x).1 = 0
  · exact h0
  · rw [if_neg h0] at h; exact absurd h h0

theorem tapply_zero {t : Tab} {x : G_api_Change} (h : (tapply t x).1 = 0) : validM x = true ∧ x.Number = (tget t x.Client).number + 1 ∧ (tapply t x).2 = t.set (x.Client - 1).toNat ⟨x.Number, treply x⟩ := by
  unfold tapply at h ⊢
  by_cases hv : validM x = true
  · rw [if_pos hv] at h ⊢
    by_cases hn : x.Number = (tget t x.Client).number + 1
    · rw [if_pos hn]; exact ⟨hv, hn, rfl⟩
    · rw [if_neg hn] at h; simp at h
  · rw [if_neg hv] at h; simp at h

theorem tget_set {t : Tab} {c d : Int} (hl : t.length = 8) (h1 : 1 ≤ c) (h2 : c ≤ 8) (h3 : 1 ≤ d) (h4 : d ≤ 8) (r : G_session_record) : tget (t.set (c - 1).toNat r) d = if d = c then r else tget t d := by
  unfold tget
  rw [List.getD_eq_getElem?_getD, List.getD_eq_getElem?_getD]
  by_cases h : d = c
  · subst h
    rw [if_pos rfl, List.getElem?_set_self (by omega)]; rfl
  · rw [if_neg h]
    have : (c - 1).toNat ≠ (d - 1).toNat := by omega
    rw [List.getElem?_set_ne this]

end Go.Sh
