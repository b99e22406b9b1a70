/- Contracts of the tape of numbers.
   Conditions: none. -/
import Derived.Test.YtcligpfkmnlhnaaSB
namespace Go.Sh
open Go
set_option linter.unusedSimpArgs false
set_option linter.unusedVariables false

abbrev intC : Int → List Value := fun n => [.int .i64 n]
theorem intC_len (n : Int) : (intC n).length = 1 := rfl

structure TapeAt (w : World) (b : Nat) (s : Sl) (xs : List Int) (i : Nat) : Prop where
  at_ : Blk w b (⟨s, i⟩ : G_cellplanemill_Tape).cells t_cellplanemill_Tape
  rd : Rd intC 1 w s xs
  apart : ¬ s.on b
  le : i ≤ xs.length
  small : xs.length ≤ 1000000
  lt : ∀ c, s.on c → c < w.heap.size

theorem TapeAt.touch {w w' : World} {b : Nat} {s : Sl} {xs : List Int} {i : Nat} {S : Nat → Prop} (h : TapeAt w b s xs i) (t : Touch S w w') (h1 : ¬ S b) (h2 : ∀ c, s.on c → ¬ S c) : TapeAt w' b s xs i :=
  ⟨h.at_.touch t h1, h.rd.touch t h2, h.apart, h.le, h.small, fun c hc => Nat.lt_of_lt_of_le (h.lt c hc) t.size⟩

def modM (v n : Int) : Int := if Int.tmod v n < 0 then Int.tmod v n + n else Int.tmod v n
def nextM (xs : List Int) (i : Nat) (n : Int) : Int × Nat := if xs.length ≤ i then (0, i) else (modM (xs.getD i 0) n, i + 1)

theorem modM_range {v n : Int} (h : 1 ≤ n) : 0 ≤ modM v n ∧ modM v n < n := by
  unfold modM
  have h1 := Int.tmod_lt_of_pos v (show 0 < n by omega)
  have h2 : -n < Int.tmod v n := by
    have := Int.tmod_lt_of_pos (-v) (show 0 < n by omega)
    rw [Int.neg_tmod] at this
    omega
  split <;> omega

theorem nextM_range {xs : List Int} {i : Nat} {n : Int} (h : 1 ≤ n) : 0 ≤ (nextM xs i n).1 ∧ (nextM xs i n).1 < n := by
  unfold nextM
  split
  · simp; omega
  · exact modM_range h

theorem nextM_le {xs : List Int} {i : Nat} {n : Int} (h : i ≤ xs.length) : i ≤ (nextM xs i n).2 ∧ (nextM xs i n).2 ≤ xs.length := by
  unfold nextM
  split <;> simp <;> omega

theorem mill_Mod_spec {v n : Int} (h : 1 ≤ n) (h' : n ≤ 4611686018427387904) (w : World) : Spec PP n_cellplanemill_Mod [.int .i64 v, .int .i64 n] w noB (fun r _ => r = .int .i64 (modM v n)) := by
  refine cellplanemill_Mod_calls v n _ w ?_
  unfold F_cellplanemill_Mod
  have T : Now noB w w := Now.refl
  refine ⟨by omega, ?_⟩
  have h2 : -n < Int.tmod v n := by
    have := Int.tmod_lt_of_pos (-v) (show 0 < n by omega)
    rw [Int.neg_tmod] at this
    omega
  repeat' first
    | refine Reb.val (by assumption) (Nat.le_refl _) ?_
    | with_reducible refine ifbd (fun h => ?_) (fun h => ?_)
    | with_reducible refine ifbnd (fun h => ?_) (fun h => ?_)
    | with_reducible refine ifbn (fun h => ?_) (fun h => ?_)
    | refine ifb (fun h => ?_) (fun h => ?_)
  · rw [wrap_i64 (by omega) (by omega)]; simp [modM]; omega
  · simp [modM]; omega

theorem mill_New_spec {w : World} {s : Sl} {xs : List Int} (hr : Rd intC 1 w s xs) (hl : xs.length ≤ 1000000) (hs : ∀ c, s.on c → c < w.heap.size) : Spec PP n_cellplanemill_New [.slice s.a s.n s.c] w noB
    (fun v w' => ∃ b, v = .pointer (some ⟨b, 0, none⟩) ∧ w.heap.size ≤ b ∧ TapeAt w' b s xs 0) := by
  refine cellplanemill_New_calls s _ w ?_
  unfold F_cellplanemill_New
  have T : Now noB w w := Now.refl
  refine NewL.use T (Nat.le_refl _) (fun b w1 h1 h2 T1 t1 hb hlt _ => ?_)
  refine Reb.use T1 (Nat.le_refl _) (fun wa T2 t2 _ => ⟨T2.t, b, rfl, h2, ?_⟩)
  refine ⟨?_, (hr.touch T2.t (fun _ _ h => h)), fun hb' => ?_, Nat.zero_le _, hl, fun c hc => Nat.lt_of_lt_of_le (hs c hc) T2.t.size⟩
  · have h : Blk w1 b (⟨s, 0⟩ : G_cellplanemill_Tape).cells t_cellplanemill_Tape := hb
    exact h.touch t2 (by simp [blk])
  · have := hs b hb'; omega

theorem mill_More_spec {w : World} {b : Nat} {s : Sl} {xs : List Int} {i : Nat} (h : TapeAt w b s xs i) : Spec PP n_cellplanemill_Tape_More [.pointer (some ⟨b, 0, none⟩)] w noB (fun v _ => v = .bool (decide (i < xs.length))) := by
  refine cellplanemill_Tape_More_calls (some ⟨b, 0, none⟩) _ w ?_
  unfold F_cellplanemill_Tape_More
  have T : Now noB w w := Now.refl
  refine nilL ⟨i, h.at_.at 1 rfl, notIn_nil, nilL ⟨s, h.at_.at 0 rfl, notIn_nil, Reb.val T (Nat.le_refl _) ?_⟩⟩
  rw [h.rd.1]
  simp

theorem mill_Next_spec {w : World} {b : Nat} {s : Sl} {xs : List Int} {i : Nat} (h : TapeAt w b s xs i) {n : Int} (hn : 1 ≤ n) (hn' : n ≤ 4611686018427387904) : Spec PP n_cellplanemill_Tape_Next [.pointer (some ⟨b, 0, none⟩), .int .i64 n] w (fun i => i = b)
    (fun v w' => v = .int .i64 (nextM xs i n).1 ∧ TapeAt w' b s xs (nextM xs i n).2) := by
  refine cellplanemill_Tape_Next_calls (some ⟨b, 0, none⟩) n _ w ?_
  unfold F_cellplanemill_Tape_Next
  have T : Now (fun i => i = b) w w := Now.refl
  have hlen := h.rd.1
  have hlt := h.at_.lt
  refine nilL ⟨i, h.at_.at 1 rfl, notIn_nil, nilL ⟨s, h.at_.at 0 rfl, notIn_nil, ?_⟩⟩
  refine ifbd (fun h1 => ?_) (fun h1 => ?_)
  · have e : nextM xs i n = (0, i) := by unfold nextM; rw [if_pos (by omega)]
    refine Reb.use T (Nat.le_refl _) (fun w3 T3 t3 _ => ⟨T3.t, ?_, ?_⟩)
    · rw [e]
    · rw [e]
      exact h.touch t3 (by simp [blk]) (by simp [blk])
  · have hsm := h.small
    have hle := h.le
    refine nilL ⟨i, h.at_.at 1 rfl, notIn_nil, nilL ⟨h.at_.room (by simp [G_cellplanemill_Tape.cells, addA]), notIn_nil, ?_⟩⟩
    rw [wrap_i64 (by omega) (by omega)]
    have T1 : Now (fun i => i = b) w (putC w (addA ⟨b, 0, none⟩ 1) [.int .i64 ((i : Int) + 1)]) := T.putC (fun _ => rfl)
    have hb1 : Blk (putC w (addA ⟨b, 0, none⟩ 1) [.int .i64 ((i : Int) + 1)]) b (⟨s, ((i + 1 : Nat) : Int)⟩ : G_cellplanemill_Tape).cells t_cellplanemill_Tape := h.at_.putC 1 _
    have hr1 : Rd intC 1 (putC w (addA ⟨b, 0, none⟩ 1) [.int .i64 ((i : Int) + 1)]) s xs := h.rd.touch T1.t (fun c hc e => h.apart (e ▸ hc))
    refine nilL ⟨s, hb1.at 0 rfl, notIn_nil, nilL ⟨((i + 1 : Nat) : Int), hb1.at 1 rfl, notIn_nil, ?_⟩⟩
    rw [wrap_i64 (by omega) (by omega)]
    have ei : ((i + 1 : Nat) : Int) - 1 = (i : Int) := by omega
    rw [ei]
    refine hr1.idx (by omega) (by omega) (fun p x hp hx hat => ?_)
    refine ⟨x, by simpa using hat, notIn_nil, ?_⟩
    refine CallL.val T1 (Nat.le_refl _) (fun wa _ _ => mill_Mod_spec hn hn' _) (fun w2 T2 t2 => ⟨_, rfl, ?_⟩)
    have e : nextM xs i n = (modM x n, i + 1) := by
      unfold nextM
      rw [if_neg (by omega)]
      simp at hx
      simp [List.getD_eq_getElem?_getD, hx]
    refine Reb.use T2 (Nat.le_refl _) (fun w3 T3 t3 _ => ⟨T3.t, by rw [e], ?_⟩)
    rw [e]
    exact ⟨(hb1.touch t2 (by simp [blk])).touch t3 (by simp [blk]), (hr1.touch t2 (by simp [blk])).touch t3 (by simp [blk]), h.apart, by show i + 1 ≤ _; omega, hsm, fun c hc => Nat.lt_of_lt_of_le (h.lt c hc) T3.t.size⟩

def rangeM (xs : List Int) (i : Nat) (a b : Int) : Int × Nat := (a + (nextM xs i (b - a + 1)).1, (nextM xs i (b - a + 1)).2)

theorem mill_Range_spec {w : World} {b : Nat} {s : Sl} {xs : List Int} {i : Nat} (h : TapeAt w b s xs i) {lo hi : Int} (h1 : -1000000 ≤ lo) (h2 : lo ≤ hi) (h3 : hi ≤ 1000000) : Spec PP n_cellplanemill_Tape_Range [.pointer (some ⟨b, 0, none⟩), .int .i64 lo, .int .i64 hi] w (fun i => i = b)
    (fun v w' => v = .int .i64 (rangeM xs i lo hi).1 ∧ TapeAt w' b s xs (rangeM xs i lo hi).2) := by
  refine cellplanemill_Tape_Range_calls (some ⟨b, 0, none⟩) lo hi _ w ?_
  unfold F_cellplanemill_Tape_Range
  have T : Now (fun i => i = b) w w := Now.refl
  have hlt := h.at_.lt
  rw [wrap_i64 (x := hi - lo) (by omega) (by omega), wrap_i64 (x := hi - lo + 1) (by omega) (by omega)]
  refine CallL.turn (fun i => i = b) T (Nat.le_refl _) (fun i hi => ⟨by omega, by simp [blk]⟩) (fun _ _ h => h) (fun wa _ t => mill_Next_spec (h.touch t (by simp [blk]) (by simp [blk])) (by omega) (by omega))
    (fun wa v w2 T2 t2 _ _ hv => ⟨_, hv.1, ?_⟩)
  have hr := nextM_range (xs := xs) (i := i) (n := hi - lo + 1) (by omega)
  rw [wrap_i64 (by omega) (by omega)]
  exact Reb.use T2 (Nat.le_refl _) (fun w3 T3 t3 _ => ⟨T3.t, rfl, hv.2.touch t3 (by simp [blk]) (by simp [blk])⟩)

end Go.Sh
