/- Contracts of wire.TakeInt and of the reference's.
   Conditions: none. -/
import Derived.Test.YtoenaheehpjmiaaEP1
import Derived.Test.YtoenaheehpjmiaaRA
namespace Go.Sh
open Go
set_option linter.unusedSimpArgs false
set_option linter.unusedVariables false
set_option maxHeartbeats 2000000

theorem pow128 (k : Nat) : (128 : Nat) ^ k = 2 ^ (7 * k) := by rw [Nat.pow_mul]
theorem wu64 (x : Int) : IntKind.u64.wrap x = x % 18446744073709551616 := by simp [IntKind.wrap, IntKind.signed, IntKind.bits]
theorem wu64_nat {n : Nat} (h : n < 18446744073709551616) : IntKind.u64.wrap (n : Int) = (n : Int) := by rw [wu64]; omega
theorem w7k {k : Nat} (h : k ≤ 10) : IntKind.i64.wrap (7 * (k : Int)) = ((7 * k : Nat) : Int) := by rw [wrap_i64 (by omega) (by omega)]; omega

theorem or_code {u c k : Nat} (hk : k ≤ 9) (hu : u < 128 ^ k) (hc : u + c * 128 ^ k < 18446744073709551616) :
    IntKind.u64.wrap ((BitVec.ofInt (IntKind.u64).bits (u : Int) ||| BitVec.ofInt (IntKind.u64).bits (IntKind.u64.wrap ((IntKind.u64.wrap (c : Int)) * 2 ^ (min (Int.toNat (IntKind.i64.wrap (7 * (k : Int)))) (IntKind.u64).bits)))).toNat) = ((u + c * 128 ^ k : Nat) : Int) := by
  have hb : IntKind.u64.bits = 64 := rfl
  have hp : 0 < 128 ^ k := Nat.pow_pos (by decide)
  have hcc : c ≤ c * 128 ^ k := Nat.le_mul_of_pos_right _ hp
  rw [w7k (by omega), Int.toNat_natCast, hb, Nat.min_eq_left (by omega), wu64_nat (n := c) (by omega)]
  have e1 : (c : Int) * 2 ^ (7 * k) = ((c * 128 ^ k : Nat) : Int) := by rw [pow128]; simp
  rw [e1, wu64_nat (n := c * 128 ^ k) (by omega), BitVec.toNat_or, BitVec.toNat_ofInt, BitVec.toNat_ofInt]
  have e2 : ((u : Int) % ((2 ^ 64 : Nat) : Int)).toNat = u := by omega
  have e3 : (((c * 128 ^ k : Nat) : Int) % ((2 ^ 64 : Nat) : Int)).toNat = c * 128 ^ k := by omega
  rw [e2, e3]
  have e4 : u ||| c * 128 ^ k = u + c * 128 ^ k := by
    have := Nat.two_pow_add_eq_or_of_lt (i := 7 * k) (b := u) (by rw [← pow128]; exact hu) c
    rw [← pow128] at this
    rw [Nat.or_comm, Nat.mul_comm c, ← this]
    omega
  rw [e4, wu64_nat (by omega)]

theorem un_code {C : Nat} (h : C < 18446744073709551616) :
    IntKind.i64.wrap ((BitVec.ofInt (IntKind.i64).bits (IntKind.i64.wrap (Int.fdiv (C : Int) (2 ^ (min (Int.toNat 1) (IntKind.u64).bits)))) ^^^ BitVec.ofInt (IntKind.i64).bits (IntKind.i64.wrap (0 - (IntKind.i64.wrap (IntKind.u64.wrap ((BitVec.ofInt (IntKind.u64).bits (C : Int) &&& BitVec.ofInt (IntKind.u64).bits 1).toNat)))))).toNat) = unzz C := by
  have hb : IntKind.u64.bits = 64 := rfl
  have hb' : IntKind.i64.bits = 64 := rfl
  have hwi : ∀ x : Int, IntKind.i64.wrap x = (x + 9223372036854775808) % 18446744073709551616 - 9223372036854775808 := by
    intro x; simp [IntKind.wrap, IntKind.signed, IntKind.bits]; omega
  have e0 : (min (Int.toNat 1) 64) = 1 := rfl
  rw [hb, hb', e0]
  have e1 : Int.fdiv (C : Int) (2 ^ 1) = ((C / 2 : Nat) : Int) := by
    rw [Int.fdiv_eq_ediv_of_nonneg _ (by decide)]; omega
  have e2 : (BitVec.ofInt 64 (C : Int) &&& BitVec.ofInt 64 1).toNat = C % 2 := by
    rw [BitVec.toNat_and, BitVec.toNat_ofInt, BitVec.toNat_ofInt]
    have a1 : ((C : Int) % ((2 ^ 64 : Nat) : Int)).toNat = C := by omega
    have a2 : ((1 : Int) % ((2 ^ 64 : Nat) : Int)).toNat = 1 := by decide
    rw [a1, a2, Nat.and_one_is_mod]
  rw [e1, e2, wu64_nat (by omega)]
  have e3 : IntKind.i64.wrap ((C / 2 : Nat) : Int) = ((C / 2 : Nat) : Int) := by rw [wrap_i64] <;> omega
  rw [e3]
  unfold unzz
  by_cases hc : C % 2 = 0
  · rw [if_pos hc, hc]
    have e4 : IntKind.i64.wrap (0 - IntKind.i64.wrap ((0 : Nat) : Int)) = 0 := by rw [hwi, hwi]; decide
    rw [e4]
    have e5 : BitVec.ofInt 64 0 = 0#64 := rfl
    rw [e5, BitVec.xor_zero, BitVec.toNat_ofInt, hwi]
    omega
  · have hc1 : C % 2 = 1 := by omega
    rw [if_neg hc, hc1]
    have e4 : IntKind.i64.wrap (0 - IntKind.i64.wrap ((1 : Nat) : Int)) = -1 := by rw [hwi, hwi]; decide
    rw [e4]
    have e5 : BitVec.ofInt 64 (-1) = BitVec.allOnes 64 := rfl
    rw [e5, BitVec.xor_allOnes, BitVec.toNat_not, BitVec.toNat_ofInt, hwi]
    omega

theorem tk_nil (k u : Nat) : tk k u [] = if k < 10 then (0, 0, 17) else (0, 0, 18) := rfl
theorem tk_10 (u : Nat) (bs : List UInt8) : tk 10 u bs = (0, 0, 18) := by
  cases bs with
  | nil => rfl
  | cons c r => unfold tk; rfl

def tkV (bs : List UInt8) : Value := .tuple #[.int .i64 (tkI bs).1, .int .i64 ((tkI bs).2.1 : Nat), .int .i64 (tkI bs).2.2]
theorem tkV_of {bs : List UInt8} {c n : Nat} {e : Int} (h : tk 0 0 bs = (c, n, e)) : tkV bs = .tuple #[.int .i64 (unzz c), .int .i64 (n : Int), .int .i64 e] := by
  unfold tkV tkI; rw [h]
theorem drop_cons {bs : List UInt8} {k : Nat} {c : UInt8} (h : bs[k]? = some c) : bs.drop k = c :: bs.drop (k + 1) := by
  obtain ⟨hk, e⟩ := List.getElem?_eq_some_iff.1 h
  rw [List.drop_eq_getElem_cons hk, e]

theorem wire_TakeInt_spec {w : World} {s : Sl} {bs : List UInt8} (hr : Rd byteC 1 w s bs) (hl : bs.length ≤ 1000000000) : Spec PP n_wire_TakeInt [.slice s.a s.n s.c] w noB (fun v _ => v = tkV bs) := by
  refine wire_TakeInt_calls s _ w ?_
  unfold F_wire_TakeInt
  have T : Now noB w w := Now.refl
  have hn := hr.1
  refine Reb.A T Anc.nil (fun w1 T t => ?_)
  unfold C_wire_TakeInt_1
  refine Reb.A T Anc.nil (fun w1 T t => ?_)
  unfold C_wire_TakeInt_2
  refine Reb.A T Anc.nil (fun w1 T t => ?_)
  unfold C_wire_TakeInt_4
  refine LoopC.mk (fun x w' => ∃ (k u : Nat), x.2 = (k : Int) ∧ k ≤ bs.length ∧ k ≤ 10 ∧ Now noB w w' ∧ tk 0 0 bs = tk k u (bs.drop k) ∧ (k ≤ 9 → x.1 = (u : Int) ∧ u < 128 ^ k)) (fun x => bs.length - x.2.toNat) ?_ ?_
  · exact Reb.A T Anc.nil (fun w2 T t => ⟨0, 0, rfl, by omega, by omega, T, rfl, fun _ => ⟨rfl, by decide⟩⟩)
  · rintro ⟨x, i⟩ wb ⟨k, u, hi, hk, hk10, T, hm, hu⟩
    simp only at hi hu
    subst hi
    unfold L_wire_TakeInt_5
    dsimp only
    unfold B_wire_TakeInt_5
    refine Reb.A T Anc.nil (fun w2 T t => ?_)
    unfold C_wire_TakeInt_6
    refine ifbd (fun h => ?_) (fun h => ?_)
    · refine Reb.A T Anc.nil (fun w2 T t => ?_)
      unfold C_wire_TakeInt_7
      refine (hr.tr T.t (by simp [noB])).idx (by omega) (by omega) (fun p c hp hc ha => ?_)
      rw [Int.toNat_natCast] at hc
      have hdc := drop_cons hc
      have hcl := c.toNat_lt
      refine ⟨(c.toNat : Int), ha, notIn_nil, ?_⟩
      refine Reb.A T Anc.nil (fun w2 T t => ?_)
      unfold C_wire_TakeInt_9
      refine Reb.A T Anc.nil (fun w2 T t => ?_)
      unfold C_wire_TakeInt_11
      refine ifbd (fun h10 => ?_) (fun h10 => ?_)
      · have e10 : k = 10 := by omega
        subst e10
        rw [tk_10] at hm
        exact Reb.A T Anc.nil (fun w2 T t => ⟨T.t, (tkV_of hm).symm⟩)
      have hk9 : k ≤ 9 := by omega
      obtain ⟨rfl, hub⟩ := hu hk9
      have hpc := pow_cases hk9
      rw [hdc, tk, if_neg (by omega)] at hm
      have key10 : ∀ w', Now noB w w' → c.toNat < 128 → ¬ ((0 < k ∧ c.toNat = 0) ∨ (k = 9 ∧ 1 < c.toNat)) → C_wire_TakeInt_10 w.heap.size (fun c' x' w' => c' = (s, s, ((s.n : Nat) : Int)) ∧ (∃ (k u : Nat), x'.2 = (k : Int) ∧ k ≤ bs.length ∧ k ≤ 10 ∧ Now noB w w' ∧ tk 0 0 bs = tk k u (bs.drop k) ∧ (k ≤ 9 → x'.1 = (u : Int) ∧ u < 128 ^ k)) ∧ bs.length - x'.2.toNat < bs.length - (k : Int).toNat) (fun v w' => Touch noB w w' ∧ v = tkV bs) (u : Int) (k : Int) (c.toNat : Int) w' := by
        intro w' T hc1 hc2
        unfold C_wire_TakeInt_10
        rw [if_pos hc1, if_neg hc2] at hm
        have hsum : u + c.toNat * 128 ^ k < 18446744073709551616 := by
          rcases hpc with ⟨e, _⟩ | ⟨e, _⟩ | ⟨e, _⟩ | ⟨e, _⟩ | ⟨e, _⟩ | ⟨e, _⟩ | ⟨e, _⟩ | ⟨e, _⟩ | ⟨e, _⟩ | ⟨e, hk⟩ <;> rw [e] at hub ⊢ <;> omega
        rw [or_code hk9 hub hsum, un_code hsum]
        refine ⟨by rw [w7k (by omega)]; omega, by omega, ?_⟩
        refine Reb.A T Anc.nil (fun w2 T t => ⟨T.t, ?_⟩)
        rw [tkV_of hm, wrap_i64 (by omega) (by omega)]
        simp
      refine Reb.A T Anc.nil (fun w2 T t => ?_)
      unfold C_wire_TakeInt_12
      refine ifbd (fun h128 => ?_) (fun h128 => ?_)
      · refine ⟨by rw [w7k (by omega)]; omega, ?_⟩
        rw [if_neg (by omega)] at hm
        refine Reb.A T Anc.nil (fun w2 T t => ?_)
        unfold C_wire_TakeInt_8
        refine Reb.A T Anc.nil (fun w2 T t => ?_)
        have step : IntKind.i64.wrap ((k : Int) + 1) = ((k + 1 : Nat) : Int) := by rw [wrap_i64 (by omega) (by omega)]; simp
        refine ⟨rfl, ⟨k + 1, u + (c.toNat - 128) * 128 ^ k, step, by omega, by omega, T, hm, fun hk' => ?_⟩, by simp only [step]; omega⟩
        have e8 : IntKind.u8.wrap ((c.toNat : Int) - 128) = ((c.toNat - 128 : Nat) : Int) := by
          simp [IntKind.wrap, IntKind.signed, IntKind.bits]; omega
        have hsum : u + (c.toNat - 128) * 128 ^ k < 128 * 128 ^ k ∧ u + (c.toNat - 128) * 128 ^ k < 18446744073709551616 := by
          rcases pow_cases (show k ≤ 9 by omega) with ⟨e, _⟩ | ⟨e, _⟩ | ⟨e, _⟩ | ⟨e, _⟩ | ⟨e, _⟩ | ⟨e, _⟩ | ⟨e, _⟩ | ⟨e, _⟩ | ⟨e, _⟩ | ⟨e, hk⟩ <;> rw [e] at hub ⊢ <;> omega
        refine ⟨?_, by rw [Nat.pow_succ, Nat.mul_comm (128 ^ k)]; exact hsum.1⟩
        simp only
        rw [e8, or_code hk9 hub hsum.2]
      · have hc1 : c.toNat < 128 := by omega
        have bad : (0 < k ∧ c.toNat = 0) ∨ (k = 9 ∧ 1 < c.toNat) → tkV bs = .tuple #[.int .i64 0, .int .i64 0, .int .i64 18] := by
          intro hb
          rw [if_pos hc1, if_pos hb] at hm
          exact tkV_of hm
        have key13 : ∀ (v : Bool) w', Now noB w w' → (v = true → (0 < k ∧ c.toNat = 0) ∨ (k = 9 ∧ 1 < c.toNat)) → (v = false → ¬ ((0 < k ∧ c.toNat = 0) ∨ (k = 9 ∧ 1 < c.toNat))) → C_wire_TakeInt_13 w.heap.size (fun c' x' w' => c' = (s, s, ((s.n : Nat) : Int)) ∧ (∃ (k u : Nat), x'.2 = (k : Int) ∧ k ≤ bs.length ∧ k ≤ 10 ∧ Now noB w w' ∧ tk 0 0 bs = tk k u (bs.drop k) ∧ (k ≤ 9 → x'.1 = (u : Int) ∧ u < 128 ^ k)) ∧ bs.length - x'.2.toNat < bs.length - (k : Int).toNat) (fun v w' => Touch noB w w' ∧ v = tkV bs) (u : Int) (k : Int) (c.toNat : Int) v w' := by
          intro v w' T h1 h2
          unfold C_wire_TakeInt_13
          refine ifb (fun hv => ?_) (fun hv => ?_)
          · exact Reb.A T Anc.nil (fun w2 T t => ⟨T.t, (bad (h1 hv)).symm⟩)
          · exact Reb.A T Anc.nil (fun w2 T t => key10 _ T hc1 (h2 hv))
        have key14 : ∀ (v : Bool) w', Now noB w w' → (v = true ↔ (0 < k ∧ c.toNat = 0)) → C_wire_TakeInt_14 w.heap.size (fun c' x' w' => c' = (s, s, ((s.n : Nat) : Int)) ∧ (∃ (k u : Nat), x'.2 = (k : Int) ∧ k ≤ bs.length ∧ k ≤ 10 ∧ Now noB w w' ∧ tk 0 0 bs = tk k u (bs.drop k) ∧ (k ≤ 9 → x'.1 = (u : Int) ∧ u < 128 ^ k)) ∧ bs.length - x'.2.toNat < bs.length - (k : Int).toNat) (fun v w' => Touch noB w w' ∧ v = tkV bs) (u : Int) (k : Int) (c.toNat : Int) v w' := by
          intro v w' T hv
          unfold C_wire_TakeInt_14
          refine ifb (fun h => ?_) (fun h => ?_)
          · exact Reb.A T Anc.nil (fun w2 T t => key13 _ _ T (fun _ => .inl (hv.1 h)) (fun h' => by rw [h] at h'; cases h'))
          · have h0 : ¬ (0 < k ∧ c.toNat = 0) := fun h' => by rw [hv.2 h'] at h; cases h
            refine ifbd (fun h9 => ?_) (fun h9 => ?_)
            · refine Reb.A T Anc.nil (fun w2 T t => key13 _ _ T (fun h => .inr ⟨by omega, by have := of_decide_eq_true h; omega⟩) (fun h => ?_))
              have := of_decide_eq_false h
              rintro (h' | h')
              · exact h0 h'
              · omega
            · refine Reb.A T Anc.nil (fun w2 T t => key13 _ _ T (fun h => by cases h) (fun _ => ?_))
              rintro (h' | h')
              · exact h0 h'
              · omega
        refine ifbd (fun h0 => ?_) (fun h0 => ?_)
        · refine Reb.A T Anc.nil (fun w2 T t => key14 _ _ T ?_)
          rw [decide_eq_true_iff]
          omega
        · refine Reb.A T Anc.nil (fun w2 T t => key14 _ _ T ?_)
          constructor
          · intro h; cases h
          · intro h; omega
    · refine Reb.A T Anc.nil (fun w2 T t => ?_)
      unfold C_wire_TakeInt_3
      have hkn : k = bs.length := by omega
      have hd : bs.drop k = [] := List.drop_of_length_le (by omega)
      rw [hd] at hm
      rw [tk_nil] at hm
      refine ifbd (fun h10 => ?_) (fun h10 => ?_)
      · rw [if_neg (by omega)] at hm
        exact Reb.A T Anc.nil (fun w2 T t => ⟨T.t, (tkV_of hm).symm⟩)
      · rw [if_pos (by omega)] at hm
        exact Reb.A T Anc.nil (fun w2 T t => ⟨T.t, (tkV_of hm).symm⟩)

end Go.Sh
