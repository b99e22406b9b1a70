/- The bytes of integers and lists of them: the plain law.
   Conditions: none. -/
import Derived.Test.YtoenaheehpjmiaaLib6
namespace Go.Sh
open Go
set_option linter.unusedSimpArgs false
set_option linter.unusedVariables false

def zz (n : Int) : Nat := if 0 ≤ n then (2 * n).toNat else (-2 * n - 1).toNat
theorem zz_inj {a b : Int} (h : zz a = zz b) : a = b := by
  unfold zz at h
  split at h <;> split at h <;> omega
theorem zz_lt {n : Int} (h1 : -9223372036854775808 ≤ n) (h2 : n ≤ 9223372036854775807) : zz n < 18446744073709551616 := by
  unfold zz; split <;> omega

theorem zz_code {n : Int} (h1 : -9223372036854775808 ≤ n) (h2 : n ≤ 9223372036854775807) :
    IntKind.u64.wrap ((BitVec.ofInt (IntKind.u64).bits (IntKind.u64.wrap ((IntKind.u64.wrap n) * 2 ^ (min (Int.toNat 1) (IntKind.u64).bits))) ^^^ BitVec.ofInt (IntKind.u64).bits (IntKind.u64.wrap (Int.fdiv n (2 ^ (min (Int.toNat 63) (IntKind.i64).bits))))).toNat) = (zz n : Int) := by
  have hb : IntKind.u64.bits = 64 := rfl
  have hb' : IntKind.i64.bits = 64 := rfl
  rw [hb, hb']
  have hw : ∀ x : Int, IntKind.u64.wrap x = x % 18446744073709551616 := by
    intro x; simp [IntKind.wrap, IntKind.signed, IntKind.bits]
  have e1 : (min (Int.toNat 1) 64) = 1 := rfl
  have e2 : (min (Int.toNat 63) 64) = 63 := rfl
  rw [e1, e2]
  by_cases hn : 0 ≤ n
  · have hd : Int.fdiv n (2 ^ 63) = 0 := by
      rw [Int.fdiv_eq_ediv_of_nonneg _ (by decide)]; omega
    rw [hd]
    have : BitVec.ofInt 64 (IntKind.u64.wrap 0) = 0#64 := by rw [hw]; rfl
    rw [this, BitVec.xor_zero, BitVec.toNat_ofInt]
    simp only [hw]
    rw [zz, if_pos hn]
    omega
  · have hd : Int.fdiv n (2 ^ 63) = -1 := by
      rw [Int.fdiv_eq_ediv_of_nonneg _ (by decide)]; omega
    rw [hd]
    have : BitVec.ofInt 64 (IntKind.u64.wrap (-1)) = BitVec.allOnes 64 := by rw [hw]; rfl
    rw [this, BitVec.xor_allOnes, BitVec.toNat_not, BitVec.toNat_ofInt]
    simp only [hw]
    rw [zz, if_neg hn]
    omega

def vb (c : Nat) : List UInt8 := if h : c < 128 then [UInt8.ofNat c] else UInt8.ofNat (c % 128 + 128) :: vb (c / 128)
termination_by c
decreasing_by omega

theorem vb_lt {c : Nat} (h : c < 128) : vb c = [UInt8.ofNat c] := by rw [vb, dif_pos h]
theorem vb_ge {c : Nat} (h : ¬ c < 128) : vb c = UInt8.ofNat (c % 128 + 128) :: vb (c / 128) := by rw [vb, dif_neg h]

theorem u8_inj {a b : Nat} (ha : a < 256) (hb : b < 256) (h : UInt8.ofNat a = UInt8.ofNat b) : a = b := by
  have := congrArg UInt8.toNat h
  rw [UInt8.toNat_ofNat', UInt8.toNat_ofNat'] at this
  omega

theorem vb_inj : ∀ (a b : Nat) (r s : List UInt8), vb a ++ r = vb b ++ s → a = b ∧ r = s := by
  intro a
  induction a using Nat.strongRecOn with
  | ind a ih =>
    intro b r s h
    by_cases ha : a < 128 <;> by_cases hb : b < 128
    · rw [vb_lt ha, vb_lt hb] at h
      simp only [List.cons_append, List.nil_append, List.cons.injEq] at h
      exact ⟨u8_inj (by omega) (by omega) h.1, h.2⟩
    · rw [vb_lt ha, vb_ge hb] at h
      simp only [List.cons_append, List.nil_append, List.cons.injEq] at h
      have := u8_inj (by omega) (by omega) h.1
      omega
    · rw [vb_ge ha, vb_lt hb] at h
      simp only [List.cons_append, List.nil_append, List.cons.injEq] at h
      have := u8_inj (by omega) (by omega) h.1
      omega
    · rw [vb_ge ha, vb_ge hb] at h
      simp only [List.cons_append, List.cons.injEq] at h
      have e := u8_inj (by omega) (by omega) h.1
      obtain ⟨e2, e3⟩ := ih (a / 128) (by omega) _ _ _ h.2
      exact ⟨by omega, e3⟩

theorem vb_len : ∀ (k c : Nat), c < 128 ^ (k + 1) → (vb c).length ≤ k + 1
  | 0, c, h => by rw [vb_lt (by simpa using h)]; simp
  | k + 1, c, h => by
    by_cases hc : c < 128
    · rw [vb_lt hc]; simp
    · rw [vb_ge hc, List.length_cons]
      have := vb_len k (c / 128) (by rw [Nat.div_lt_iff_lt_mul (by decide)]; simpa [Nat.pow_succ] using h)
      omega
theorem vb_len10 {c : Nat} (h : c < 18446744073709551616) : (vb c).length ≤ 10 := vb_len 9 c (by omega)

theorem lor128 : ∀ x, x < 256 → (x ||| 128) = x % 128 + 128 := by decide +kernel
theorem byte_hi (c : Nat) : IntKind.u8.wrap ((BitVec.ofInt (IntKind.u8).bits (IntKind.u8.wrap (c : Int)) ||| BitVec.ofInt (IntKind.u8).bits 128).toNat) = ((UInt8.ofNat (c % 128 + 128)).toNat : Int) := by
  have hb : IntKind.u8.bits = 8 := rfl
  have hw : ∀ x : Int, IntKind.u8.wrap x = x % 256 := by
    intro x; simp [IntKind.wrap, IntKind.signed, IntKind.bits]
  rw [hb, BitVec.toNat_or, BitVec.toNat_ofInt, BitVec.toNat_ofInt, hw, hw, UInt8.toNat_ofNat']
  have e1 : ((128 : Int) % ((2 ^ 8 : Nat) : Int)).toNat = 128 := by decide
  have e2 : (((c : Int) % 256) % ((2 ^ 8 : Nat) : Int)).toNat = c % 256 := by omega
  rw [e1, e2, lor128 _ (by omega)]
  omega
theorem byte_lo {c : Nat} (h : c < 128) : IntKind.u8.wrap (c : Int) = ((UInt8.ofNat c).toNat : Int) := by
  have hw : ∀ x : Int, IntKind.u8.wrap x = x % 256 := by
    intro x; simp [IntKind.wrap, IntKind.signed, IntKind.bits]
  rw [hw, UInt8.toNat_ofNat']; omega

/-- the bytes of a list of integers -/
def ebL (ns : List Int) : List UInt8 := ns.flatMap fun n => vb (zz n)
theorem ebL_inj : ∀ (a b : List Int), a.length = b.length → ebL a = ebL b → a = b
  | [], [], _, _ => rfl
  | [], _ :: _, h, _ => by simp at h
  | _ :: _, [], h, _ => by simp at h
  | x :: a, y :: b, h, he => by
    simp only [ebL, List.flatMap_cons] at he
    obtain ⟨e1, e2⟩ := vb_inj _ _ _ _ he
    rw [zz_inj e1, ebL_inj a b (by simpa using h) e2]

end Go.Sh
