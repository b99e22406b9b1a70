/- Integers read back from bytes: the plain law.
   Conditions: none. -/
import Derived.Test.YtoenaheehpjmiaaEW
namespace Go.Sh
open Go
set_option linter.unusedSimpArgs false
set_option linter.unusedVariables false

/-- reading a code: 'k' bytes were read, 'u' is what they say; the answer is the code, the number of bytes, an error -/
def tk (k u : Nat) : List UInt8 → Nat × Nat × Int
  | [] => if k < 10 then (0, 0, 17) else (0, 0, 18)
  | c :: r => if 10 ≤ k then (0, 0, 18)
    else if c.toNat < 128 then (if (0 < k ∧ c.toNat = 0) ∨ (k = 9 ∧ 1 < c.toNat) then (0, 0, 18) else (u + c.toNat * 128 ^ k, k + 1, 0))
    else tk (k + 1) (u + (c.toNat - 128) * 128 ^ k) r
def unzz (c : Nat) : Int := if c % 2 = 0 then ((c / 2 : Nat) : Int) else -((c / 2 : Nat) : Int) - 1
def tkI (bs : List UInt8) : Int × Nat × Int := (unzz (tk 0 0 bs).1, (tk 0 0 bs).2.1, (tk 0 0 bs).2.2)

theorem unzz_zz (n : Int) : unzz (zz n) = n := by
  unfold zz unzz
  split <;> split <;> omega
theorem zz_unzz (c : Nat) : zz (unzz c) = c := by
  unfold zz unzz
  split <;> split <;> omega

theorem tk_err : ∀ (bs : List UInt8) (k u : Nat), (tk k u bs).2.2 ≠ 0 → tk k u bs = (0, 0, (tk k u bs).2.2)
  | [], k, u, h => by unfold tk; split <;> rfl
  | c :: r, k, u, h => by
    unfold tk at h ⊢
    split
    · rfl
    · rename_i h1
      rw [if_neg h1] at h
      split
      · rename_i h2
        rw [if_pos h2] at h
        split
        · rfl
        · rename_i h3
          rw [if_neg h3] at h
          exact absurd rfl h
      · rename_i h2
        rw [if_neg h2] at h
        exact tk_err r _ _ h
theorem tk_cases : ∀ (bs : List UInt8) (k u : Nat), (tk k u bs).2.2 = 0 ∨ (tk k u bs).2.2 = 17 ∨ (tk k u bs).2.2 = 18
  | [], k, u => by unfold tk; split <;> simp
  | c :: r, k, u => by
    unfold tk
    split
    · simp
    · split
      · split <;> simp
      · exact tk_cases r _ _

theorem tk_vb : ∀ (c k u : Nat) (r : List UInt8), k ≤ 9 → (0 < k → 0 < c) → c * 128 ^ k < 18446744073709551616 → tk k u (vb c ++ r) = (u + c * 128 ^ k, k + (vb c).length, 0) := by
  intro c
  induction c using Nat.strongRecOn with
  | ind c ih =>
    intro k u r hk h0 hb
    by_cases hc : c < 128
    · rw [vb_lt hc, List.singleton_append, tk, if_neg (by omega)]
      have e : (UInt8.ofNat c).toNat = c := by rw [UInt8.toNat_ofNat']; omega
      rw [e, if_pos hc, if_neg]
      · rfl
      · rintro (⟨h1, h2⟩ | ⟨h1, h2⟩)
        · have := h0 h1; omega
        · subst h1
          have e9 : (128 : Nat) ^ 9 = 9223372036854775808 := by decide
          rw [e9] at hb; omega
    · rw [vb_ge hc, List.cons_append, tk, if_neg (by omega)]
      have e : (UInt8.ofNat (c % 128 + 128)).toNat = c % 128 + 128 := by rw [UInt8.toNat_ofNat']; omega
      have hs : (128 : Nat) ^ (k + 1) = 128 * 128 ^ k := by rw [Nat.pow_succ, Nat.mul_comm]
      have hsum : c % 128 * 128 ^ k + c / 128 * 128 ^ (k + 1) = c * 128 ^ k := by
        rw [hs, ← Nat.mul_assoc, ← Nat.add_mul]
        congr 1
        omega
      have hk8 : k ≤ 8 := by
        rcases Nat.lt_or_ge k 9 with h | h
        · omega
        · have : k = 9 := by omega
          subst this
          have e9 : (128 : Nat) ^ 9 = 9223372036854775808 := by decide
          rw [e9] at hb; omega
      rw [e, if_neg (by omega), show c % 128 + 128 - 128 = c % 128 by omega, ih (c / 128) (by omega) (k + 1) _ r (by omega) (fun _ => by omega) (by omega)]
      rw [List.length_cons, Nat.add_assoc, hsum]
      simp only [Prod.mk.injEq, true_and, and_true]
      omega

theorem pow_cases {k : Nat} (h : k ≤ 9) : (128 ^ k = 1 ∧ k = 0) ∨ (128 ^ k = 128 ∧ k = 1) ∨ (128 ^ k = 16384 ∧ k = 2) ∨ (128 ^ k = 2097152 ∧ k = 3) ∨ (128 ^ k = 268435456 ∧ k = 4) ∨ (128 ^ k = 34359738368 ∧ k = 5) ∨ (128 ^ k = 4398046511104 ∧ k = 6) ∨ (128 ^ k = 562949953421312 ∧ k = 7) ∨ (128 ^ k = 72057594037927936 ∧ k = 8) ∨ (128 ^ k = 9223372036854775808 ∧ k = 9) := by
  rcases (by omega : k = 0 ∨ k = 1 ∨ k = 2 ∨ k = 3 ∨ k = 4 ∨ k = 5 ∨ k = 6 ∨ k = 7 ∨ k = 8 ∨ k = 9) with rfl | rfl | rfl | rfl | rfl | rfl | rfl | rfl | rfl | rfl <;> decide

theorem dm128 {x d : Nat} (h1 : 128 ≤ x) (h2 : x < 256) : (128 * d + (x - 128)) % 128 + 128 = x ∧ (128 * d + (x - 128)) / 128 = d ∧ (0 < d → ¬ 128 * d + (x - 128) < 128) ∧ (0 < d → 0 < 128 * d + (x - 128)) := by omega
theorem am128 (u d c p : Nat) : u + c * p + d * (128 * p) = u + (128 * d + c) * p := by
  have : d * (128 * p) = 128 * d * p := by rw [← Nat.mul_assoc, Nat.mul_comm d 128]
  rw [this, Nat.add_mul]
  generalize 128 * d * p = x
  generalize c * p = y
  omega
theorem mb {d c P Q : Nat} (hq : 128 * P * Q = 18446744073709551616) (hc : c < 128) (h : d * (128 * P) < 18446744073709551616) : (128 * d + c) * P < 18446744073709551616 := by
  have hdQ : d < Q := by
    rcases Nat.lt_or_ge d Q with h1 | h1
    · exact h1
    · have := Nat.mul_le_mul_right (128 * P) h1
      rw [Nat.mul_comm Q, hq] at this
      exact absurd h (Nat.not_lt.2 this)
  have hP : 0 < P := by
    rcases Nat.eq_zero_or_pos P with h1 | h1
    · subst h1; simp at hq
    · exact h1
  have h2 : 128 * d + c < 128 * Q := by omega
  have h3 := Nat.mul_lt_mul_of_pos_right h2 hP
  rw [Nat.mul_right_comm, hq] at h3
  exact h3
theorem tk_ok : ∀ (bs : List UInt8) (k u c n : Nat), tk k u bs = (c, n, 0) → ∃ d r, bs = vb d ++ r ∧ c = u + d * 128 ^ k ∧ n = k + (vb d).length ∧ (0 < k → 0 < d) ∧ d * 128 ^ k < 18446744073709551616 ∧ k ≤ 9
  | [], k, u, c, n, h => by
    unfold tk at h
    split at h <;> simp at h
  | b :: r, k, u, c, n, h => by
    unfold tk at h
    split at h
    · simp at h
    rename_i h1
    split at h
    · rename_i h2
      split at h
      · simp at h
      rename_i h3
      simp only [Prod.mk.injEq, and_true] at h
      refine ⟨b.toNat, r, ?_, h.1.symm, ?_, ?_, ?_, by omega⟩
      · rw [vb_lt h2, UInt8.ofNat_toNat]; rfl
      · rw [vb_lt h2]; exact h.2.symm
      · intro h4
        rcases Nat.eq_zero_or_pos b.toNat with h5 | h5
        · exact absurd (Or.inl ⟨h4, h5⟩) h3
        · exact h5
      · rcases pow_cases (show k ≤ 9 by omega) with ⟨e, _⟩ | ⟨e, _⟩ | ⟨e, _⟩ | ⟨e, _⟩ | ⟨e, _⟩ | ⟨e, _⟩ | ⟨e, _⟩ | ⟨e, _⟩ | ⟨e, _⟩ | ⟨e, hk⟩ <;> rw [e] <;> omega
    · rename_i h2
      obtain ⟨d, r', e1, e2, e3, e4, e5, e6⟩ := tk_ok r _ _ _ _ h
      have hd := e4 (by omega)
      have hb := b.toNat_lt
      obtain ⟨m1, m2, m3, m4⟩ := dm128 (d := d) (show 128 ≤ b.toNat by clear e2 e3 e4 e5 h; omega) hb
      have hs : (128 : Nat) ^ (k + 1) = 128 * 128 ^ k := by rw [Nat.pow_succ, Nat.mul_comm]
      refine ⟨128 * d + (b.toNat - 128), r', ?_, ?_, ?_, fun _ => m4 hd, ?_, Nat.le_of_lt_succ (Nat.lt_of_not_le h1)⟩
      · rw [vb_ge (m3 hd), m1, m2, UInt8.ofNat_toNat, e1]; rfl
      · rw [e2, hs]; exact am128 _ _ _ _
      · rw [vb_ge (m3 hd), m2, List.length_cons, e3]; generalize (vb d).length = z; clear e2 e3 e4 e5 h hs; omega
      · rw [hs] at e5
        have hk9 : k ≤ 9 := Nat.le_of_lt_succ (Nat.lt_of_not_le h1)
        clear e2 e3 h m1 m2 m3 m4
        clear hs e4
        have pc := pow_cases hk9
        have hc : b.toNat - 128 < 128 := by clear e5 pc; omega
        generalize 128 ^ k = p at e5 pc ⊢
        rcases pc with ⟨rfl, _⟩ | ⟨rfl, _⟩ | ⟨rfl, _⟩ | ⟨rfl, _⟩ | ⟨rfl, _⟩ | ⟨rfl, _⟩ | ⟨rfl, _⟩ | ⟨rfl, _⟩ | ⟨rfl, _⟩ | ⟨rfl, _⟩
        · exact mb (Q := 144115188075855872) (by decide) hc e5
        · exact mb (Q := 1125899906842624) (by decide) hc e5
        · exact mb (Q := 8796093022208) (by decide) hc e5
        · exact mb (Q := 68719476736) (by decide) hc e5
        · exact mb (Q := 536870912) (by decide) hc e5
        · exact mb (Q := 4194304) (by decide) hc e5
        · exact mb (Q := 32768) (by decide) hc e5
        · exact mb (Q := 256) (by decide) hc e5
        · exact mb (Q := 2) (by decide) hc e5
        · exfalso
          have : 1 * (128 * 9223372036854775808) ≤ d * (128 * 9223372036854775808) := Nat.mul_le_mul_right _ hd
          exact absurd (Nat.lt_of_le_of_lt this e5) (by decide)

theorem tkI_vb {n : Int} (h : okI n) (r : List UInt8) : tkI (vb (zz n) ++ r) = (n, (vb (zz n)).length, 0) := by
  have h3 := zz_lt h.1 h.2
  have h4 := tk_vb (zz n) 0 0 r (by decide) (fun h => absurd h (by decide)) (by rw [Nat.pow_zero, Nat.mul_one]; exact h3)
  unfold tkI
  rw [h4]
  simp only [Nat.pow_zero, Nat.mul_one, Nat.zero_add, unzz_zz]
theorem tkI_ok {bs : List UInt8} (h : (tkI bs).2.2 = 0) : ∃ r, okI (tkI bs).1 ∧ bs = vb (zz (tkI bs).1) ++ r ∧ (tkI bs).2.1 = (vb (zz (tkI bs).1)).length := by
  obtain ⟨d, r, e1, e2, e3, _, e5, _⟩ := tk_ok bs 0 0 (tk 0 0 bs).1 (tk 0 0 bs).2.1 (Prod.ext rfl (Prod.ext rfl h))
  have hd : (tk 0 0 bs).1 = d := by rw [e2, Nat.pow_zero, Nat.mul_one, Nat.zero_add]
  have h1 : (tkI bs).1 = unzz d := by show unzz (tk 0 0 bs).1 = _; rw [hd]
  refine ⟨r, ?_, ?_, ?_⟩
  · rw [Nat.pow_zero, Nat.mul_one] at e5
    rw [h1]; unfold okI unzz; split <;> omega
  · rw [h1, zz_unzz]; exact e1
  · rw [h1, zz_unzz]; show (tk 0 0 bs).2.1 = _; rw [e3]; simp
theorem tkI_err {bs : List UInt8} (h : (tkI bs).2.2 ≠ 0) : tkI bs = (0, 0, (tkI bs).2.2) := by
  have h' : (tk 0 0 bs).2.2 ≠ 0 := h
  have := tk_err bs 0 0 h'
  have e1 : (tk 0 0 bs).1 = 0 := by rw [this]
  have e2 : (tk 0 0 bs).2.1 = 0 := by rw [this]
  show (unzz (tk 0 0 bs).1, (tk 0 0 bs).2.1, (tk 0 0 bs).2.2) = (0, 0, (tk 0 0 bs).2.2)
  rw [e1, e2]; rfl
theorem tkI_len {bs : List UInt8} : (tkI bs).2.1 ≤ bs.length := by
  by_cases h : (tkI bs).2.2 = 0
  · obtain ⟨r, _, e1, e2⟩ := tkI_ok h
    have := congrArg List.length e1
    rw [List.length_append] at this
    omega
  · rw [tkI_err h]; simp
theorem vb_pos (c : Nat) : 0 < (vb c).length := by
  rw [vb]; split <;> simp
theorem tkI_pos {bs : List UInt8} (h : (tkI bs).2.2 = 0) : 0 < (tkI bs).2.1 := by
  obtain ⟨r, _, e1, e2⟩ := tkI_ok h
  rw [e2]; exact vb_pos _
theorem tkI_I {bs : List UInt8} : okI (tkI bs).1 := by
  by_cases h : (tkI bs).2.2 = 0
  · obtain ⟨r, h1, _⟩ := tkI_ok h; exact h1
  · rw [tkI_err h]; unfold okI; omega

/-- 'm' integers, read one behind the other: 'l' were read before, in 'a' bytes -/
def rdA : Nat → List Int → Nat → List UInt8 → List Int × Nat × Int
  | 0, l, a, _ => (l, a, 0)
  | m + 1, l, a, bs => if (tkI bs).2.2 = 0 then rdA m (l ++ [(tkI bs).1]) (a + (tkI bs).2.1) (bs.drop (tkI bs).2.1) else ([], 0, (tkI bs).2.2)

theorem rdA_eb : ∀ (ns l : List Int) (a : Nat) (r : List UInt8), (∀ n ∈ ns, okI n) → rdA ns.length l a (ebL ns ++ r) = (l ++ ns, a + (ebL ns).length, 0)
  | [], l, a, r, _ => by simp [rdA, ebL]
  | n :: ns, l, a, r, h => by
    have e : ebL (n :: ns) ++ r = vb (zz n) ++ (ebL ns ++ r) := by simp [ebL]
    rw [List.length_cons, rdA, e, tkI_vb (h n (by simp))]
    simp only [if_true]
    rw [List.drop_left' rfl, rdA_eb ns _ _ r (fun x hx => h x (by simp [hx]))]
    simp [ebL]
    omega
theorem rdA_ok : ∀ (m : Nat) (l : List Int) (a : Nat) (bs : List UInt8), (rdA m l a bs).2.2 = 0 → ∃ ns r, ns.length = m ∧ (∀ n ∈ ns, okI n) ∧ bs = ebL ns ++ r ∧ rdA m l a bs = (l ++ ns, a + (ebL ns).length, 0)
  | 0, l, a, bs, h => ⟨[], bs, rfl, by simp, rfl, by simp [rdA, ebL]⟩
  | m + 1, l, a, bs, h => by
    unfold rdA at h
    split at h
    · rename_i h0
      obtain ⟨r, h1, h2, h3⟩ := tkI_ok h0
      obtain ⟨ns, r', e1, e2, e3, e4⟩ := rdA_ok m _ _ _ h
      refine ⟨(tkI bs).1 :: ns, r', by simp [e1], ?_, ?_, ?_⟩
      · intro n hn
        rcases List.mem_cons.1 hn with rfl | hn
        · exact h1
        · exact e2 n hn
      · have hd : bs.drop (tkI bs).2.1 = r := by
          have e : bs.drop (tkI bs).2.1 = (vb (zz (tkI bs).1) ++ r).drop (tkI bs).2.1 := congrArg (fun l => List.drop (tkI bs).2.1 l) h2
          rw [e, h3]; exact List.drop_left' rfl
        rw [hd] at e3
        have e5 : ebL ((tkI bs).1 :: ns) ++ r' = vb (zz (tkI bs).1) ++ (ebL ns ++ r') := by simp [ebL]
        rw [e5, ← e3, ← h2]
      · unfold rdA
        rw [if_pos h0, e4, h3]
        simp [ebL]
        omega
    · rename_i h0
      exact absurd h h0
theorem rdA_err : ∀ (m : Nat) (l : List Int) (a : Nat) (bs : List UInt8), (rdA m l a bs).2.2 ≠ 0 → rdA m l a bs = ([], 0, (rdA m l a bs).2.2)
  | 0, l, a, bs, h => absurd rfl h
  | m + 1, l, a, bs, h => by
    unfold rdA at h ⊢
    split
    · rename_i h0
      rw [if_pos h0] at h
      exact rdA_err m _ _ _ h
    · rfl

end Go.Sh
