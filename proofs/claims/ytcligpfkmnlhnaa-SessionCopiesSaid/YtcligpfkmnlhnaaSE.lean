/- Contracts of the size tests, and of the comparison of lists of numbers.
   Conditions: none. -/
import Derived.Test.YtcligpfkmnlhnaaSD
namespace Go.Sh
open Go
set_option linter.unusedSimpArgs false
set_option linter.unusedVariables false

abbrev chC : G_api_Change → List Value := G_api_Change.cells
theorem chC_len (x : G_api_Change) : (chC x).length = 8 := rfl

theorem mill_Light_spec (l : Sl) (w : World) : Spec PP n_cellplanemill_Light [.slice l.a l.n l.c] w noB (fun v _ => v = .bool (decide (l.n ≤ 150))) := by
  refine cellplanemill_Light_calls l _ w ?_
  unfold F_cellplanemill_Light
  have T : Now noB w w := Now.refl
  repeat' first
    | refine Reb.val (by assumption) (Nat.le_refl _) ?_
    | with_reducible refine ifbd (fun h => ?_) (fun h => ?_)
    | with_reducible refine ifbnd (fun h => ?_) (fun h => ?_)
    | with_reducible refine ifbn (fun h => ?_) (fun h => ?_)
    | refine ifb (fun h => ?_) (fun h => ?_)
  simp
  omega

def shortM (x : G_api_Change) : Bool := decide ((x.Key.size : Int) ≤ 100) && decide ((x.Value_.size : Int) ≤ 100)

theorem mill_Short_spec (x : G_api_Change) (w : World) : Spec PP n_cellplanemill_Short [.agg (List.toArray x.cells)] w noB (fun v _ => v = .bool (shortM x)) := by
  refine cellplanemill_Short_calls x _ w ?_
  unfold F_cellplanemill_Short
  have T : Now noB w w := Now.refl
  intro b hb
  repeat' first
    | refine Reb.val (by assumption) (Nat.le_refl _) ?_
    | with_reducible refine ifbd (fun h => ?_) (fun h => ?_)
    | with_reducible refine ifbnd (fun h => ?_) (fun h => ?_)
    | with_reducible refine ifbn (fun h => ?_) (fun h => ?_)
    | refine ifb (fun h => ?_) (fun h => ?_)
  all_goals grind [shortM]

def fewM (xs : List G_api_Change) (n : Int) : Bool := decide ((xs.length : Int) ≤ n) && xs.all shortM

theorem mill_Few_spec {w : World} {s : Sl} {xs : List G_api_Change} (h : Rd chC 8 w s xs) (hm : xs.length ≤ 9223372036854775807) (n : Int) : Spec PP n_cellplanemill_Few [.slice s.a s.n s.c, .int .i64 n] w noB (fun v _ => v = .bool (fewM xs n)) := by
  refine cellplanemill_Few_calls s n _ w ?_
  unfold F_cellplanemill_Few
  have T : Now noB w w := Now.refl
  have hlen := h.1
  refine Reb.use T (Nat.le_refl _) (fun w1 T1 _ _ => ?_)
  unfold C_cellplanemill_Few_1
  refine Reb.use T1 (Nat.le_refl _) (fun w2 T2 _ _ => ?_)
  unfold C_cellplanemill_Few_3
  refine ⟨fun x w' => ∃ m : Nat, x = m ∧ m ≤ xs.length ∧ Now noB w w' ∧ ((xs.length : Int) ≤ n → (xs.take m).all shortM = true), fun x => xs.length - x.toNat, ?_, ?_⟩
  · exact Reb.use T2 (Nat.le_refl _) (fun w3 T3 _ _ => ⟨0, rfl, Nat.zero_le _, T3, by simp⟩)
  · rintro x wb ⟨m, rfl, hml, Tb, hall⟩
    unfold L_cellplanemill_Few_4
    dsimp only
    unfold B_cellplanemill_Few_4
    have fin : ∀ wc, Now noB w wc → (¬ ((m : Int) < s.n) ∨ ¬ ((s.n : Int) ≤ n)) → C_cellplanemill_Few_2 w.heap.size (fun v w' => Touch noB w w' ∧ v = .bool (fewM xs n)) s n wc := by
      intro wc Tc hc
      unfold C_cellplanemill_Few_2
      refine Reb.val Tc (Nat.le_refl _) ?_
      unfold fewM
      by_cases hn : (xs.length : Int) ≤ n
      · have hmx : m = xs.length := by omega
        have := hall hn
        rw [hmx, List.take_length] at this
        simp [this]; omega
      · have : ¬ ((s.n : Int) ≤ n) := by omega
        simp [hn, this]
    refine ifbd (fun h1 => ?_) (fun h1 => ?_)
    · refine ifbd (fun h2 => ?_) (fun h2 => ?_)
      · refine (h.touch Tb.t (fun _ _ h => h)).idx (by omega) (by omega) (fun p x hp hx hat => ?_)
        refine ⟨x, hat, notIn_nil, ?_⟩
        refine CallL.val Tb (Nat.le_refl _) (fun wa _ _ => mill_Short_spec _ _) (fun w4 T4 _ => ⟨_, rfl, ?_⟩)
        rw [Int.toNat_natCast] at hx
        refine ifbn (fun h3 => ?_) (fun h3 => ?_)
        · refine Reb.val T4 (Nat.le_refl _) ?_
          have : xs.all shortM = false := by
            rw [List.all_eq_false]
            exact ⟨x, List.mem_of_getElem? hx, by simp [h3]⟩
          simp [fewM, this]
        · refine Reb.use T4 (Nat.le_refl _) (fun w5 T5 _ _ => ⟨rfl, ⟨m + 1, ?_, by omega, T5, fun hn => ?_⟩, ?_⟩)
          · rw [wrap_i64 (by omega) (by omega)]; simp
          · rw [List.take_add_one, hx]
            simp [hall hn, h3]
          · rw [wrap_i64 (by omega) (by omega)]
            have : ((m : Int) + 1).toNat = m + 1 := by omega
            rw [this, Int.toNat_natCast]
            omega
      · exact Reb.use Tb (Nat.le_refl _) (fun w4 T4 _ _ => fin w4 T4 (Or.inr h2))
    · exact Reb.use Tb (Nat.le_refl _) (fun w4 T4 _ _ => fin w4 T4 (Or.inl h1))

end Go.Sh
