/- Contracts of the reference's store.
   Conditions: none. -/
import Derived.Test.YtcligpfkmnlhnaaSF
namespace Go.Sh
open Go
set_option linter.unusedSimpArgs false
set_option linter.unusedVariables false

abbrev Cel := G_cellplaneref24_Cell
abbrev ceC : Cel → List Value := G_cellplaneref24_Cell.cells
theorem ceC_len (x : Cel) : (ceC x).length = 3 := rfl
theorem ceC_one (x : Cel) : ∀ u ∈ ceC x, u.oneCell' = true := by
  intro u hu
  simp [ceC, G_cellplaneref24_Cell.cells] at hu
  rcases hu with rfl | rfl | rfl <;> rfl

/-- the reference's store: the block of the pointer, its slice, the cells -/
structure StoreAt (w : World) (q : Nat) (s : Sl) (xs : List Cel) : Prop where
  at_ : Blk w q (⟨s⟩ : G_cellplaneref24_Store).cells t_cellplaneref24_Store
  rd : Rd ceC 3 w s xs
  apart : ¬ s.on q
  lt : ∀ c, s.on c → c < w.heap.size
  cap : s.n ≤ s.c
  capn : s.a = none → s.c = 0

theorem StoreAt.touch {w w' : World} {q : Nat} {s : Sl} {xs : List Cel} {S : Nat → Prop} (h : StoreAt w q s xs) (t : Touch S w w') (h1 : ¬ S q) (h2 : ∀ c, s.on c → ¬ S c) : StoreAt w' q s xs :=
  ⟨h.at_.touch t h1, h.rd.touch t h2, h.apart, fun c hc => Nat.lt_of_lt_of_le (h.lt c hc) t.size, h.cap, h.capn⟩

def lessM (a b : ByteArray) : Bool := Op.bytesLess a.toList b.toList
/-- the place of a key, from a place on -/
def findI (key : ByteArray) : List Cel → Nat
  | [] => 0
  | x :: r => if lessM x.Key key then findI key r + 1 else 0
def findB (key : ByteArray) (xs : List Cel) : Bool := match xs[findI key xs]? with | some x => strEq x.Key key | none => false

theorem findI_le (key : ByteArray) : ∀ xs, findI key xs ≤ xs.length
  | [] => Nat.le_refl _
  | x :: r => by
    unfold findI
    split
    · have := findI_le key r; simp; omega
    · simp

/-- what is known behind a step of the search -/
theorem findI_from {key : ByteArray} : ∀ {xs : List Cel} {m : Nat}, (∀ j x, j < m → xs[j]? = some x → lessM x.Key key = true) → m ≤ xs.length → findI key xs = m + findI key (xs.drop m)
  | xs, 0, _, _ => by simp
  | [], m + 1, _, h => by simp at h
  | y :: r, m + 1, hall, h => by
    have h0 := hall 0 y (by omega) rfl
    simp only [findI, h0, if_true, List.drop_succ_cons]
    rw [findI_from (xs := r) (m := m) (fun j x hj hx => hall (j + 1) x (by omega) (by simpa using hx)) (by simpa using h)]
    omega

theorem store24_find_spec {w : World} {q : Nat} {s : Sl} {xs : List Cel} (h : StoreAt w q s xs) (hm : xs.length < 1000000) (key : ByteArray) : Spec PP n_cellplaneref24_Store_find [.pointer (some ⟨q, 0, none⟩), .string key] w noB
    (fun v _ => v = .tuple #[.int .i64 (findI key xs : Int), .bool (findB key xs)]) := by
  refine cellplaneref24_Store_find_calls (some ⟨q, 0, none⟩) key _ w ?_
  unfold F_cellplaneref24_Store_find
  have T : Now noB w w := Now.refl
  have hlen := h.rd.1
  refine Reb.use T (Nat.le_refl _) (fun w1 T1 _ _ => ?_)
  unfold C_cellplaneref24_Store_find_1
  refine Reb.use T1 (Nat.le_refl _) (fun w2 T2 _ _ => ?_)
  unfold C_cellplaneref24_Store_find_2
  refine ⟨fun x w' => ∃ m : Nat, x = m ∧ m ≤ xs.length ∧ Now noB w w' ∧ (∀ j x, j < m → xs[j]? = some x → lessM x.Key key = true), fun x => xs.length - x.toNat, ?_, ?_⟩
  · exact Reb.use T2 (Nat.le_refl _) (fun w3 T3 _ _ => ⟨0, rfl, Nat.zero_le _, T3, fun j x hj => by omega⟩)
  · rintro x wb ⟨m, rfl, hml, Tb, hall⟩
    unfold L_cellplaneref24_Store_find_4
    dsimp only
    unfold B_cellplaneref24_Store_find_4
    have hb : StoreAt wb q s xs := h.touch Tb.t (fun h => h) (fun _ _ h => h)
    have fin : findI key xs = m → ∀ wc, Now noB w wc → C_cellplaneref24_Store_find_3 w.heap.size (fun v w' => Touch noB w w' ∧ v = .tuple #[.int .i64 (findI key xs : Int), .bool (findB key xs)]) (some ⟨q, 0, none⟩) key m wc := by
      intro he wc Tc
      have hc : StoreAt wc q s xs := h.touch Tc.t (fun h => h) (fun _ _ h => h)
      unfold C_cellplaneref24_Store_find_3
      refine nilL ⟨s, hc.at_.at 0 rfl, notIn_nil, ?_⟩
      refine ifbd (fun h1 => ?_) (fun h1 => ?_)
      · refine nilL ⟨s, hc.at_.at 0 rfl, notIn_nil, ?_⟩
        refine hc.rd.idx (by omega) (by omega) (fun p x hp hx hat => ?_)
        rw [Int.toNat_natCast] at hx
        refine ⟨x.Key, hat.take 1 rfl, notIn_nil, Reb.val Tc (Nat.le_refl _) ?_⟩
        simp [he, findB, hx]
      · refine Reb.val Tc (Nat.le_refl _) ?_
        have : xs[m]? = none := List.getElem?_eq_none (by omega)
        simp [he, findB, this]
    refine nilL ⟨s, hb.at_.at 0 rfl, notIn_nil, ?_⟩
    refine ifbd (fun h1 => ?_) (fun h1 => ?_)
    · refine nilL ⟨s, hb.at_.at 0 rfl, notIn_nil, ?_⟩
      refine hb.rd.idx (by omega) (by omega) (fun p x hp hx hat => ?_)
      rw [Int.toNat_natCast] at hx
      refine ⟨x.Key, hat.take 1 rfl, notIn_nil, ?_⟩
      refine ifb (fun h3 => ?_) (fun h3 => ?_)
      · refine Reb.use Tb (Nat.le_refl _) (fun w5 T5 _ _ => ⟨rfl, ⟨m + 1, ?_, by omega, T5, ?_⟩, ?_⟩)
        · rw [wrap_i64 (by omega) (by omega)]; simp
        · intro j y hj hy
          rcases Nat.lt_or_ge j m with h' | h'
          · exact hall j y h' hy
          · have : j = m := by omega
            subst this
            rw [hx] at hy; cases hy
            exact h3
        · rw [wrap_i64 (by omega) (by omega)]
          have : ((m : Int) + 1).toNat = m + 1 := by omega
          rw [this, Int.toNat_natCast]
          omega
      · refine Reb.use Tb (Nat.le_refl _) (fun w5 T5 _ _ => fin ?_ w5 T5)
        have hlt : m < xs.length := by omega
        rw [findI_from hall hml, List.drop_eq_getElem_cons hlt]
        rw [List.getElem?_eq_getElem hlt] at hx
        cases hx
        have : lessM xs[m].Key key = false := h3
        simp [findI, this]
    · refine Reb.use Tb (Nat.le_refl _) (fun w5 T5 _ _ => fin ?_ w5 T5)
      rw [findI_from hall hml, List.drop_of_length_le (by omega)]
      rfl

end Go.Sh
