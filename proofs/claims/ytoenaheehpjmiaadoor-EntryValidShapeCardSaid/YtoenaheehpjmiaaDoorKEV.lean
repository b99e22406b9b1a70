/- A part of the proof (printed smaller by a program of ours). Conditions: none. -/
import Derived.Test.YtoenaheehpjmiaaDoorKL
namespace Go.Sh
open Go
set_option linter.unusedSimpArgs false
set_option linter.unusedVariables false
def zz (n : Int) : Nat := if 0 ≤ n then (2 * n).toNat else (-2 * n - 1).toNat
theorem a2Q {a b : Int} (h : zz a = zz b) : a = b := by
  unfold zz at h
  split at h <;> split at h <;> omega
theorem a2E {n : Int} (h1 : -9223372036854775808 ≤ n) (h2 : n ≤ 9223372036854775807) : zz n < 18446744073709551616 := by
  unfold zz; split <;> omega
theorem a1M {n : Int} (h1 : -9223372036854775808 ≤ n) (h2 : n ≤ 9223372036854775807) :
    IntKind.u64.wrap ((BitVec.ofInt (IntKind.u64).bits (IntKind.u64.wrap ((IntKind.u64.wrap n) * 2 ^ (min (Int.toNat 1) (IntKind.u64).bits))) ^^^ BitVec.ofInt (IntKind.u64).bits (IntKind.u64.wrap (Int.fdiv n (2 ^ (min (Int.toNat 63) (IntKind.i64).bits))))).toNat) = (zz n : Int) := by
  have hb : IntKind.u64.bits = 64 := rfl
  have hb' : IntKind.i64.bits = 64 := rfl
  rw [hb, hb']
  have hw : ∀ x : Int, IntKind.u64.wrap x = x % 18446744073709551616 := by
    intro x; simp [IntKind.wrap, IntKind.signed, IntKind.bits]
  have e1 : (min (Int.toNat 1) 64) = 1 := rfl
  have e2 : (min (Int.toNat 63) 64) = 63 := rfl
  rw [e1, e2]
  by_cases hn : 0 ≤ n
  · have hd : Int.fdiv n (2 ^ 63) = 0 := by
      rw [Int.fdiv_eq_ediv_of_nonneg _ (by decide)]; omega
    rw [hd]
    have : BitVec.ofInt 64 (IntKind.u64.wrap 0) = 0#64 := by rw [hw]; rfl
    rw [this, BitVec.xor_zero, BitVec.toNat_ofInt]
    simp only [hw]
    rw [zz, if_pos hn]
    omega
  · have hd : Int.fdiv n (2 ^ 63) = -1 := by
      rw [Int.fdiv_eq_ediv_of_nonneg _ (by decide)]; omega
    rw [hd]
    have : BitVec.ofInt 64 (IntKind.u64.wrap (-1)) = BitVec.allOnes 64 := by rw [hw]; rfl
    rw [this, BitVec.xor_allOnes, BitVec.toNat_not, BitVec.toNat_ofInt]
    simp only [hw]
    rw [zz, if_neg hn]
    omega
def vb (c : Nat) : List UInt8 := if h : c < 128 then [UInt8.ofNat c] else UInt8.ofNat (c % 128 + 128) :: vb (c / 128)
termination_by c
decreasing_by omega
theorem aY7 {c : Nat} (h : c < 128) : vb c = [UInt8.ofNat c] := by rw [vb, dif_pos h]
theorem aZ2 {c : Nat} (h : ¬ c < 128) : vb c = UInt8.ofNat (c % 128 + 128) :: vb (c / 128) := by rw [vb, dif_neg h]
theorem aZ4 {a b : Nat} (ha : a < 256) (hb : b < 256) (h : UInt8.ofNat a = UInt8.ofNat b) : a = b := by
  have := congrArg UInt8.toNat h
  rw [UInt8.toNat_ofNat', UInt8.toNat_ofNat'] at this
  omega
theorem a2U : ∀ (a b : Nat) (r s : List UInt8), vb a ++ r = vb b ++ s → a = b ∧ r = s := by
  intro a
  induction a using Nat.strongRecOn with
  | ind a ih =>
    intro b r s h
    by_cases ha : a < 128 <;> by_cases hb : b < 128
    · rw [aY7 ha, aY7 hb] at h
      simp only [List.cons_append, List.nil_append, List.cons.injEq] at h
      exact ⟨aZ4 (by omega) (by omega) h.1, h.2⟩
    · rw [aY7 ha, aZ2 hb] at h
      simp only [List.cons_append, List.nil_append, List.cons.injEq] at h
      have := aZ4 (by omega) (by omega) h.1
      omega
    · rw [aZ2 ha, aY7 hb] at h
      simp only [List.cons_append, List.nil_append, List.cons.injEq] at h
      have := aZ4 (by omega) (by omega) h.1
      omega
    · rw [aZ2 ha, aZ2 hb] at h
      simp only [List.cons_append, List.cons.injEq] at h
      have e := aZ4 (by omega) (by omega) h.1
      obtain ⟨e2, e3⟩ := ih (a / 128) (by omega) _ _ _ h.2
      exact ⟨by omega, e3⟩
theorem a1F : ∀ (k c : Nat), c < 128 ^ (k + 1) → (vb c).length ≤ k + 1
  | 0, c, h => by rw [aY7 (by simpa using h)]; simp
  | k + 1, c, h => by
    by_cases hc : c < 128
    · rw [aY7 hc]; simp
    · rw [aZ2 hc, List.length_cons]
      have := a1F k (c / 128) (by rw [Nat.div_lt_iff_lt_mul (by decide)]; simpa [Nat.pow_succ] using h)
      omega
theorem a0J {c : Nat} (h : c < 18446744073709551616) : (vb c).length ≤ 10 := a1F 9 c (by omega)
theorem a2V : ∀ x, x < 256 → (x ||| 128) = x % 128 + 128 := by decide +kernel
theorem a1Z (c : Nat) : IntKind.u8.wrap ((BitVec.ofInt (IntKind.u8).bits (IntKind.u8.wrap (c : Int)) ||| BitVec.ofInt (IntKind.u8).bits 128).toNat) = ((UInt8.ofNat (c % 128 + 128)).toNat : Int) := by
  have hb : IntKind.u8.bits = 8 := rfl
  have hw : ∀ x : Int, IntKind.u8.wrap x = x % 256 := by
    intro x; simp [IntKind.wrap, IntKind.signed, IntKind.bits]
  rw [hb, BitVec.toNat_or, BitVec.toNat_ofInt, BitVec.toNat_ofInt, hw, hw, UInt8.toNat_ofNat']
  have e1 : ((128 : Int) % ((2 ^ 8 : Nat) : Int)).toNat = 128 := by decide
  have e2 : (((c : Int) % 256) % ((2 ^ 8 : Nat) : Int)).toNat = c % 256 := by omega
  rw [e1, e2, a2V _ (by omega)]
  omega
theorem a14 {c : Nat} (h : c < 128) : IntKind.u8.wrap (c : Int) = ((UInt8.ofNat c).toNat : Int) := by
  have hw : ∀ x : Int, IntKind.u8.wrap x = x % 256 := by
    intro x; simp [IntKind.wrap, IntKind.signed, IntKind.bits]
  rw [hw, UInt8.toNat_ofNat']; omega
def ebL (ns : List Int) : List UInt8 := ns.flatMap fun n => vb (zz n)
theorem a1S : ∀ (a b : List Int), a.length = b.length → ebL a = ebL b → a = b
  | [], [], _, _ => rfl
  | [], _ :: _, h, _ => by simp at h
  | _ :: _, [], h, _ => by simp at h
  | x :: a, y :: b, h, he => by
    simp only [ebL, List.flatMap_cons] at he
    obtain ⟨e1, e2⟩ := a2U _ _ _ _ he
    rw [a2Q e1, a1S a b (by simpa using h) e2]
end Go.Sh
