/- Contracts of sums and of frames, the program's and the reference's.
   Conditions: none. -/
import Derived.Test.YtoenaheehpjmiaaU2
import Derived.Test.YtoenaheehpjmiaaEP4
import Derived.Test.YtoenaheehpjmiaaJA
namespace Go.Sh
open Go
set_option linter.unusedSimpArgs false
set_option linter.unusedVariables false
set_option maxHeartbeats 2000000

theorem take_snoc {α : Type} {l : List α} {k : Nat} {c : α} (h : l[k]? = some c) : l.take (k + 1) = l.take k ++ [c] := by rw [List.take_add_one, h]; rfl

theorem digest_Mix_spec (h n : Int) (w : World) : Spec PP n_digest_Mix [.int .u64 h, .int .i64 n] w noB (fun v _ => v = .int .u64 (mixM h n)) := by
  refine digest_Mix_calls h n _ w ?_
  unfold F_digest_Mix
  have T : Now noB w w := Now.refl
  exact ⟨by decide, Reb.A T Anc.nil (fun w1 T t => ⟨T.t, rfl⟩)⟩

theorem digest_bytes_spec {w : World} {s : Sl} {bs : List UInt8} (h : Int) (hr : Rd byteC 1 w s bs) (hl : bs.length ≤ 1000000000) : Spec PP n_digest_bytes [.int .u64 h, .slice s.a s.n s.c] w noB (fun v _ => v = .int .u64 (mixM (foldM h bs) (bs.length : Int))) := by
  refine digest_bytes_calls h s _ w ?_
  unfold F_digest_bytes
  have T : Now noB w w := Now.refl
  have hn := hr.1
  refine Reb.A T Anc.nil (fun w1 T t => ?_)
  unfold C_digest_bytes_1
  refine Reb.A T Anc.nil (fun w1 T t => ?_)
  unfold C_digest_bytes_3
  refine LoopC.mk (fun x w' => ∃ k : Nat, x.2 = (k : Int) ∧ k ≤ bs.length ∧ Now noB w w' ∧ x.1 = foldM h (bs.take k)) (fun x => bs.length - x.2.toNat) ?_ ?_
  · exact Reb.A T Anc.nil (fun w2 T t => ⟨0, rfl, by omega, T, rfl⟩)
  · rintro ⟨y, i⟩ wb ⟨k, hi, hk, T, hy⟩
    simp only at hi hy
    subst hi hy
    unfold L_digest_bytes_4
    dsimp only
    unfold B_digest_bytes_4
    refine ifbd (fun hlt => ?_) (fun hlt => ?_)
    · refine (hr.tr T.t (by simp [noB])).idx (by omega) (by omega) (fun p c hp hc ha => ?_)
      rw [Int.toNat_natCast] at hc
      have hcl := c.toNat_lt
      refine ⟨(c.toNat : Int), ha, notIn_nil, ?_⟩
      rw [wrap_i64 (x := (c.toNat : Int)) (by omega) (by omega)]
      refine CallL.vA T Anc.nil (fun wa _ _ => digest_Mix_spec _ _ wa) (fun w2 T t => ⟨_, rfl, ?_⟩)
      have step : IntKind.i64.wrap ((k : Int) + 1) = ((k + 1 : Nat) : Int) := by rw [wrap_i64 (by omega) (by omega)]; simp
      refine Reb.A T Anc.nil (fun w3 T t => ⟨rfl, ⟨k + 1, step, by have := (List.getElem?_eq_some_iff.1 hc).1; omega, T, ?_⟩, by simp only [step]; omega⟩)
      simp only [foldM]
      rw [take_snoc hc, List.foldl_append]; rfl
    · have : k = bs.length := by omega
      subst this
      rw [List.take_length]
      refine Reb.A T Anc.nil (fun w3 T t => ?_)
      unfold C_digest_bytes_2
      refine CallL.vA T Anc.nil (fun wa _ _ => digest_Mix_spec _ _ wa) (fun w2 T t => ⟨_, rfl, ?_⟩)
      refine Reb.A T Anc.nil (fun w3 T t => ⟨T.t, ?_⟩)
      rw [hn]

theorem digest_Sum_spec {w : World} {s : Sl} {bs : List UInt8} (key : Int) (hr : Rd byteC 1 w s bs) (hl : bs.length ≤ 1000000000) : Spec PP n_digest_Sum [.int .i64 key, .slice s.a s.n s.c] w noB (fun v _ => v = .int .u64 (sumI key bs)) := by
  refine digest_Sum_calls key s _ w ?_
  unfold F_digest_Sum
  have T : Now noB w w := Now.refl
  refine CallL.vA T Anc.nil (fun wa _ _ => digest_Mix_spec _ _ wa) (fun w2 T t => ⟨_, rfl, ?_⟩)
  refine CallL.vA T Anc.nil (fun wa T _ => digest_bytes_spec _ (hr.tr T.t (by simp [noB])) hl) (fun w2 T t => ⟨_, rfl, ?_⟩)
  exact Reb.A T Anc.nil (fun w3 T t => ⟨T.t, rfl⟩)

theorem cellplaneref02_Mix_spec (h n : Int) (w : World) : Spec PP n_cellplaneref02_Mix [.int .u64 h, .int .i64 n] w noB (fun v _ => v = .int .u64 (mixM h n)) := by
  refine cellplaneref02_Mix_calls h n _ w ?_
  unfold F_cellplaneref02_Mix
  have T : Now noB w w := Now.refl
  exact ⟨by decide, Reb.A T Anc.nil (fun w1 T t => ⟨T.t, rfl⟩)⟩

theorem cellplaneref02_all_spec {w : World} {s : Sl} {bs : List UInt8} (h : Int) (hr : Rd byteC 1 w s bs) (hl : bs.length ≤ 1000000000) : Spec PP n_cellplaneref02_all [.int .u64 h, .slice s.a s.n s.c] w noB (fun v _ => v = .int .u64 (mixM (foldM h bs) (bs.length : Int))) := by
  refine cellplaneref02_all_calls h s _ w ?_
  unfold F_cellplaneref02_all
  have T : Now noB w w := Now.refl
  have hn := hr.1
  refine Reb.A T Anc.nil (fun w1 T t => ?_)
  unfold C_cellplaneref02_all_1
  refine Reb.A T Anc.nil (fun w1 T t => ?_)
  unfold C_cellplaneref02_all_3
  refine LoopC.mk (fun x w' => ∃ k : Nat, x.2 = (k : Int) ∧ k ≤ bs.length ∧ Now noB w w' ∧ x.1 = foldM h (bs.take k)) (fun x => bs.length - x.2.toNat) ?_ ?_
  · exact Reb.A T Anc.nil (fun w2 T t => ⟨0, rfl, by omega, T, rfl⟩)
  · rintro ⟨y, i⟩ wb ⟨k, hi, hk, T, hy⟩
    simp only at hi hy
    subst hi hy
    unfold L_cellplaneref02_all_4
    dsimp only
    unfold B_cellplaneref02_all_4
    refine ifbd (fun hlt => ?_) (fun hlt => ?_)
    · refine (hr.tr T.t (by simp [noB])).idx (by omega) (by omega) (fun p c hp hc ha => ?_)
      rw [Int.toNat_natCast] at hc
      have hcl := c.toNat_lt
      refine ⟨(c.toNat : Int), ha, notIn_nil, ?_⟩
      rw [wrap_i64 (x := (c.toNat : Int)) (by omega) (by omega)]
      refine CallL.vA T Anc.nil (fun wa _ _ => cellplaneref02_Mix_spec _ _ wa) (fun w2 T t => ⟨_, rfl, ?_⟩)
      have step : IntKind.i64.wrap ((k : Int) + 1) = ((k + 1 : Nat) : Int) := by rw [wrap_i64 (by omega) (by omega)]; simp
      refine Reb.A T Anc.nil (fun w3 T t => ⟨rfl, ⟨k + 1, step, by have := (List.getElem?_eq_some_iff.1 hc).1; omega, T, ?_⟩, by simp only [step]; omega⟩)
      simp only [foldM]
      rw [take_snoc hc, List.foldl_append]; rfl
    · have : k = bs.length := by omega
      subst this
      rw [List.take_length]
      refine Reb.A T Anc.nil (fun w3 T t => ?_)
      unfold C_cellplaneref02_all_2
      refine CallL.vA T Anc.nil (fun wa _ _ => cellplaneref02_Mix_spec _ _ wa) (fun w2 T t => ⟨_, rfl, ?_⟩)
      refine Reb.A T Anc.nil (fun w3 T t => ⟨T.t, ?_⟩)
      rw [hn]

theorem cellplaneref02_Sum_spec {w : World} {s : Sl} {bs : List UInt8} (key : Int) (hr : Rd byteC 1 w s bs) (hl : bs.length ≤ 1000000000) : Spec PP n_cellplaneref02_Sum [.int .i64 key, .slice s.a s.n s.c] w noB (fun v _ => v = .int .u64 (sumI key bs)) := by
  refine cellplaneref02_Sum_calls key s _ w ?_
  unfold F_cellplaneref02_Sum
  have T : Now noB w w := Now.refl
  refine CallL.vA T Anc.nil (fun wa _ _ => cellplaneref02_Mix_spec _ _ wa) (fun w2 T t => ⟨_, rfl, ?_⟩)
  refine CallL.vA T Anc.nil (fun wa T _ => cellplaneref02_all_spec _ (hr.tr T.t (by simp [noB])) hl) (fun w2 T t => ⟨_, rfl, ?_⟩)
  exact Reb.A T Anc.nil (fun w3 T t => ⟨T.t, rfl⟩)

/-! ### eight bytes -/
theorem pow256 (k : Nat) : (256 : Nat) ^ k = 2 ^ (8 * k) := by rw [Nat.pow_mul]
theorem w8k {k : Nat} (h : k ≤ 10) : IntKind.i64.wrap (8 * (k : Int)) = ((8 * k : Nat) : Int) := by rw [wrap_i64 (by omega) (by omega)]; omega
theorem p256 {k : Nat} (h : k ≤ 7) : (256 ^ k = 1 ∧ k = 0) ∨ (256 ^ k = 256 ∧ k = 1) ∨ (256 ^ k = 65536 ∧ k = 2) ∨ (256 ^ k = 16777216 ∧ k = 3) ∨ (256 ^ k = 4294967296 ∧ k = 4) ∨ (256 ^ k = 1099511627776 ∧ k = 5) ∨ (256 ^ k = 281474976710656 ∧ k = 6) ∨ (256 ^ k = 72057594037927936 ∧ k = 7) := by
  rcases (by omega : k = 0 ∨ k = 1 ∨ k = 2 ∨ k = 3 ∨ k = 4 ∨ k = 5 ∨ k = 6 ∨ k = 7) with rfl | rfl | rfl | rfl | rfl | rfl | rfl | rfl <;> decide
theorem or_byte {u c k : Nat} (hk : k ≤ 7) (hu : u < 256 ^ k) (hc : c < 256) :
    IntKind.u64.wrap ((BitVec.ofInt (IntKind.u64).bits (u : Int) ||| BitVec.ofInt (IntKind.u64).bits (IntKind.u64.wrap ((IntKind.u64.wrap (c : Int)) * 2 ^ (min (Int.toNat (IntKind.i64.wrap (8 * (k : Int)))) (IntKind.u64).bits)))).toNat) = ((u + c * 256 ^ k : Nat) : Int) := by
  have hb : IntKind.u64.bits = 64 := rfl
  have hs : u + c * 256 ^ k < 18446744073709551616 := by
    have pc := p256 hk
    generalize 256 ^ k = p at hu pc ⊢
    rcases pc with ⟨rfl, _⟩ | ⟨rfl, _⟩ | ⟨rfl, _⟩ | ⟨rfl, _⟩ | ⟨rfl, _⟩ | ⟨rfl, _⟩ | ⟨rfl, _⟩ | ⟨rfl, _⟩ <;> omega
  rw [w8k (by omega), Int.toNat_natCast, hb, Nat.min_eq_left (by omega), wu64_nat (n := c) (by omega)]
  have e1 : (c : Int) * 2 ^ (8 * k) = ((c * 256 ^ k : Nat) : Int) := by rw [pow256]; simp
  rw [e1, wu64_nat (n := c * 256 ^ k) (by omega), BitVec.toNat_or, BitVec.toNat_ofInt, BitVec.toNat_ofInt]
  have e2 : ((u : Int) % ((2 ^ 64 : Nat) : Int)).toNat = u := by omega
  have e3 : (((c * 256 ^ k : Nat) : Int) % ((2 ^ 64 : Nat) : Int)).toNat = c * 256 ^ k := by omega
  rw [e2, e3]
  have e4 : u ||| c * 256 ^ k = u + c * 256 ^ k := by
    have := Nat.two_pow_add_eq_or_of_lt (i := 8 * k) (b := u) (by rw [← pow256]; exact hu) c
    rw [← pow256] at this
    rw [Nat.or_comm, Nat.mul_comm c, ← this]
    omega
  rw [e4, wu64_nat hs]
theorem or_byteR {u c k : Nat} (hk : k ≤ 7) (hu : u < 256 ^ k) (hc : c < 256) :
    IntKind.u64.wrap ((BitVec.ofInt (IntKind.u64).bits (u : Int) ||| BitVec.ofInt (IntKind.u64).bits (IntKind.u64.wrap ((IntKind.u64.wrap (c : Int)) * 2 ^ (min (Int.toNat (IntKind.u64.wrap (IntKind.i64.wrap (8 * (k : Int))))) (IntKind.u64).bits)))).toNat) = ((u + c * 256 ^ k : Nat) : Int) := by
  have e : IntKind.u64.wrap (IntKind.i64.wrap (8 * (k : Int))) = IntKind.i64.wrap (8 * (k : Int)) := by rw [w8k (by omega), wu64_nat (by omega)]
  rw [e]; exact or_byte hk hu hc
theorem numM_snoc : ∀ (l : List UInt8) (c : UInt8), numM (l ++ [c]) = numM l + c.toNat * 256 ^ l.length
  | [], c => by simp [numM]
  | x :: l, c => by
    rw [List.cons_append, numM, numM_snoc l c, numM, List.length_cons, Nat.pow_succ, Nat.mul_add]
    have : 256 * (c.toNat * 256 ^ l.length) = c.toNat * (256 ^ l.length * 256) := by rw [Nat.mul_left_comm, Nat.mul_comm 256]
    omega
theorem eightM_get {h i : Nat} (hi : i < 8) : (eightM h)[i]? = some (UInt8.ofNat (h / 256 ^ i)) := by
  rcases (by omega : i = 0 ∨ i = 1 ∨ i = 2 ∨ i = 3 ∨ i = 4 ∨ i = 5 ∨ i = 6 ∨ i = 7) with rfl | rfl | rfl | rfl | rfl | rfl | rfl | rfl
  · simp [eightM]
  all_goals rfl
theorem byte_at {h k : Nat} (hk : k ≤ 7) : IntKind.u8.wrap (Int.fdiv (h : Int) (2 ^ (min (Int.toNat (IntKind.i64.wrap (8 * (k : Int)))) (IntKind.u64).bits))) = ((UInt8.ofNat (h / 256 ^ k)).toNat : Int) := by
  have hb : IntKind.u64.bits = 64 := rfl
  have hw : ∀ x : Int, IntKind.u8.wrap x = x % 256 := by
    intro x; simp [IntKind.wrap, IntKind.signed, IntKind.bits]
  rw [w8k (by omega), Int.toNat_natCast, hb, Nat.min_eq_left (by omega)]
  have e1 : (2 : Int) ^ (8 * k) = ((256 ^ k : Nat) : Int) := by rw [pow256]; simp
  rw [e1, Int.fdiv_eq_ediv_of_nonneg _ (Int.natCast_nonneg _), hw, UInt8.toNat_ofNat']
  have e2 : (h : Int) / ((256 ^ k : Nat) : Int) = ((h / 256 ^ k : Nat) : Int) := rfl
  rw [e2]
  omega
theorem byte_atR {h k : Nat} (hk : k ≤ 7) : IntKind.u8.wrap (Int.fdiv (h : Int) (2 ^ (min (Int.toNat (IntKind.u64.wrap (IntKind.i64.wrap (8 * (k : Int))))) (IntKind.u64).bits))) = ((UInt8.ofNat (h / 256 ^ k)).toNat : Int) := by
  have e : IntKind.u64.wrap (IntKind.i64.wrap (8 * (k : Int))) = IntKind.i64.wrap (8 * (k : Int)) := by rw [w8k (by omega), wu64_nat (by omega)]
  rw [e]; exact byte_at hk

theorem frame_number_spec {w : World} {s : Sl} {bs : List UInt8} (hr : Rd byteC 1 w s bs) (hcap : s.n ≤ s.c) (hl : 8 ≤ bs.length) : Spec PP n_frame_number [.slice s.a s.n s.c] w noB (fun v _ => v = .int .u64 (numM (bs.take 8) : Int)) := by
  refine frame_number_calls s _ w ?_
  unfold F_frame_number
  have T : Now noB w w := Now.refl
  have hn := hr.1
  refine Reb.A T Anc.nil (fun w1 T t => ?_)
  unfold C_frame_number_1
  refine Reb.A T Anc.nil (fun w1 T t => ?_)
  unfold C_frame_number_2
  refine ⟨by decide, by omega, ?_⟩
  refine Reb.A T Anc.nil (fun w1 T t => ?_)
  unfold C_frame_number_4
  have h8 : (bs.take 8).length = 8 := by rw [List.length_take]; omega
  refine LoopC.mk (fun x w' => ∃ k : Nat, x.2 = (k : Int) ∧ k ≤ 8 ∧ Now noB w w' ∧ x.1 = (numM ((bs.take 8).take k) : Int)) (fun x => 8 - x.2.toNat) ?_ ?_
  · exact Reb.A T Anc.nil (fun w2 T t => ⟨0, rfl, by omega, T, rfl⟩)
  · rintro ⟨y, i⟩ wb ⟨k, hi, hk, T, hy⟩
    simp only at hi hy
    subst hi hy
    unfold L_frame_number_5
    dsimp only
    unfold B_frame_number_5
    refine ifbd (fun hlt => ?_) (fun hlt => ?_)
    · have hr8 : Rd byteC 1 wb ⟨s.a, 8, s.c⟩ (bs.take 8) := (hr.tr T.t (by simp [noB])).take (i := 8) hl
      have hk8 : k < 8 := by simp at hlt; omega
      refine hr8.idx (by omega) (by simp only; omega) (fun p c hp hc ha => ?_)
      rw [Int.toNat_natCast] at hc
      have hcl := c.toNat_lt
      refine ⟨(c.toNat : Int), ha, notIn_nil, ?_⟩
      have hkl : ((bs.take 8).take k).length = k := by rw [List.length_take]; omega
      have hb := numM_bound ((bs.take 8).take k)
      rw [hkl] at hb
      rw [or_byte (by omega) hb hcl]
      refine ⟨by rw [w8k (by omega)]; omega, ?_⟩
      have step : IntKind.i64.wrap ((k : Int) + 1) = ((k + 1 : Nat) : Int) := by rw [wrap_i64 (by omega) (by omega)]; simp
      refine Reb.A T Anc.nil (fun w3 T t => ⟨rfl, ⟨k + 1, step, by omega, T, ?_⟩, by simp only [step]; omega⟩)
      simp only
      rw [take_snoc hc, numM_snoc, hkl]
    · have h9 : k = 8 := by simp at hlt; omega
      subst h9
      refine Reb.A T Anc.nil (fun w3 T t => ?_)
      unfold C_frame_number_3
      refine Reb.A T Anc.nil (fun w3 T t => ⟨T.t, ?_⟩)
      rw [List.take_take, Nat.min_self]

theorem ref02_Back_spec {w : World} {s : Sl} {bs : List UInt8} (hr : Rd byteC 1 w s bs) (hl : bs.length = 8) : Spec PP n_cellplaneref02_Back [.slice s.a s.n s.c] w noB (fun v _ => v = .int .u64 (numM bs : Int)) := by
  refine cellplaneref02_Back_calls s _ w ?_
  unfold F_cellplaneref02_Back
  have T : Now noB w w := Now.refl
  have hn := hr.1
  refine Reb.A T Anc.nil (fun w1 T t => ?_)
  unfold C_cellplaneref02_Back_1
  refine Reb.A T Anc.nil (fun w1 T t => ?_)
  unfold C_cellplaneref02_Back_2
  refine Reb.A T Anc.nil (fun w1 T t => ?_)
  unfold C_cellplaneref02_Back_4
  refine LoopC.mk (fun x w' => ∃ k : Nat, x.2 = (k : Int) ∧ k ≤ 8 ∧ Now noB w w' ∧ x.1 = (numM (bs.take k) : Int)) (fun x => 8 - x.2.toNat) ?_ ?_
  · exact Reb.A T Anc.nil (fun w2 T t => ⟨0, rfl, by omega, T, rfl⟩)
  · rintro ⟨y, i⟩ wb ⟨k, hi, hk, T, hy⟩
    simp only at hi hy
    subst hi hy
    unfold L_cellplaneref02_Back_5
    dsimp only
    unfold B_cellplaneref02_Back_5
    refine ifbd (fun hlt => ?_) (fun hlt => ?_)
    · refine ifbd (fun _ => ?_) (fun h => absurd h (by omega))
      refine (hr.tr T.t (by simp [noB])).idx (by omega) (by omega) (fun p c hp hc ha => ?_)
      rw [Int.toNat_natCast] at hc
      have hcl := c.toNat_lt
      refine ⟨(c.toNat : Int), ha, notIn_nil, ?_⟩
      have hkl : (bs.take k).length = k := by rw [List.length_take]; omega
      have hb := numM_bound (bs.take k)
      rw [hkl] at hb
      rw [or_byteR (by omega) hb hcl]
      refine ⟨by rw [w8k (by omega), wu64_nat (by omega)]; omega, ?_⟩
      have step : IntKind.i64.wrap ((k : Int) + 1) = ((k + 1 : Nat) : Int) := by rw [wrap_i64 (by omega) (by omega)]; simp
      refine Reb.A T Anc.nil (fun w3 T t => ⟨rfl, ⟨k + 1, step, by omega, T, ?_⟩, by simp only [step]; omega⟩)
      simp only
      rw [take_snoc hc, numM_snoc, hkl]
    · have h9 : k = 8 := by omega
      subst h9
      refine Reb.A T Anc.nil (fun w3 T t => ?_)
      unfold C_cellplaneref02_Back_3
      refine Reb.A T Anc.nil (fun w3 T t => ⟨T.t, ?_⟩)
      rw [List.take_of_length_le (by omega)]

theorem ref02_Eight_spec {w : World} {s : Sl} {bs : List UInt8} {h : Nat} (hr : Rd byteC 1 w s bs) (hc : s.a = none → s.c = 0) (hl : bs.length ≤ 100000) :
    Spec PP n_cellplaneref02_Eight [.slice s.a s.n s.c, .int .u64 (h : Int)] w noB (fun v w' => ∃ s' : Sl, v = .slice s'.a s'.n s'.c ∧ Own byteC 1 t_u8 w' s' (bs ++ eightM h) ∧ ∀ b, s'.on b → w.heap.size ≤ b) := by
  refine cellplaneref02_Eight_calls s (h : Int) _ w ?_
  unfold F_cellplaneref02_Eight
  have T : Now noB w w := Now.refl
  have hn := hr.1
  have E := el_sl_u8.t
  refine Reb.A T Anc.nil (fun w1 T t1 => ?_)
  unfold C_cellplaneref02_Eight_1
  replace hr := hr.tr t1 (by simp [blk])
  refine NewL.A T Anc.nil (fun b0 w2 T t2 hb0 lb0 => ?_)
  replace hr := hr.tr t2 (by simp [blk])
  have zl := T.t.size
  refine RunL.freshA T Anc.nil E (by decide) byteC_len byteC_one hb0 (by omega) (by simp [blk]) hr hc (by omega) (by simp [blk]) (fun s1 w3 T t3 o f nn => ⟨s1, rfl, ?_⟩)
  have hge : ∀ b, s1.on b → w.heap.size ≤ b := fun b hb => (f b hb).elim (fun h => by omega) (fun h => by omega)
  refine Reb.A T Anc.nil (fun w4 T t4 => ?_)
  replace o := o.tr t4 nn
  unfold C_cellplaneref02_Eight_2
  refine Reb.A T Anc.nil (fun w4 T t4 => ?_)
  replace o := o.tr t4 (by simp [blk])
  unfold C_cellplaneref02_Eight_4
  refine LoopC.mk (fun x w' => ∃ k : Nat, x.2 = (k : Int) ∧ k ≤ 8 ∧ Now noB w w' ∧ Own byteC 1 t_u8 w' x.1 (bs ++ (eightM h).take k) ∧ (∀ b, x.1.on b → w.heap.size ≤ b)) (fun x => 8 - x.2.toNat) ?_ ?_
  · exact Reb.A T Anc.nil (fun w2 T t => ⟨0, rfl, by omega, T, by simpa using o.tr t (by simp [blk]), hge⟩)
  · rintro ⟨sl, i⟩ wb ⟨k, hi, hk, T, ho, hon⟩
    simp only at hi ho hon
    subst hi
    have hn2 := ho.1
    rw [List.length_append, List.length_take, eightM_len] at hn2
    unfold L_cellplaneref02_Eight_5
    dsimp only
    unfold B_cellplaneref02_Eight_5
    refine ifbd (fun hlt => ?_) (fun hlt => ?_)
    · refine ⟨by rw [w8k (by omega), wu64_nat (by omega)]; omega, ?_⟩
      rw [byte_atR (by omega)]
      refine NewL.A T Anc.nil (fun b6 w3 T t3 h6 l6 => ?_)
      replace ho := ho.tr t3 (by simp [blk])
      have z3 := T.t.size
      refine RunL.appA T Anc.nil E (by decide) byteC_len byteC_one ho (Blk.rd1 (x := UInt8.ofNat (h / 256 ^ k)) h6) (fun h => by cases h) (by omega) (fun i hi hh => by have := hon i hh; omega) (by simp [blk]) (by simp [blk]) (fun s2 w4 T t4 o2 f2 n2 => ⟨_, rfl, ?_⟩)
      have step : IntKind.i64.wrap ((k : Int) + 1) = ((k + 1 : Nat) : Int) := by rw [wrap_i64 (by omega) (by omega)]; simp
      refine Reb.A T Anc.nil (fun w5 T t5 => ⟨rfl, ⟨k + 1, step, by omega, T, ?_, fun i hi => ?_⟩, by simp only [step]; omega⟩)
      · rw [take_snoc (eightM_get (by omega)), ← List.append_assoc]; exact o2.tr t5 n2
      · rcases f2 i hi with h | h
        · exact hon i h
        · omega
    · have h9 : k = 8 := by omega
      subst h9
      refine Reb.A T Anc.nil (fun w3 T t3 => ?_)
      unfold C_cellplaneref02_Eight_3
      refine Reb.A T Anc.nil (fun w6 T t6 => ⟨T.t, sl, rfl, ?_, hon⟩)
      have := (ho.tr t3 (by simp [blk])).tr t6 (by simp [blk])
      rwa [List.take_of_length_le (Nat.le_of_eq (eightM_len _))] at this

def NilSl : Sl := ⟨none, 0, 0⟩
/-- a fresh slice of bytes -/
def FrB (w : World) (bs : List UInt8) (v : Value) (w' : World) : Prop := ∃ s' : Sl, v = .slice s'.a s'.n s'.c ∧ Own byteC 1 t_u8 w' s' bs ∧ ∀ b, s'.on b → w.heap.size ≤ b

theorem frame_Put_spec {w : World} {s : Sl} {p : List UInt8} (hr : Rd byteC 1 w s p) (hc : s.a = none → s.c = 0) (hp : p.length ≤ 65536) :
    Spec PP n_frame_Put [.slice none 0 0, .int .i64 8, .slice s.a s.n s.c] w noB (FrB w (putF p)) := by
  refine frame_Put_calls ⟨none, 0, 0⟩ 8 s _ w ?_
  unfold F_frame_Put
  have T : Now noB w w := Now.refl
  have hn := hr.1
  have E := el_sl_u8.t
  refine Reb.A T Anc.nil (fun w1 T t1 => ?_)
  unfold C_frame_Put_1
  refine ifbd (fun h => absurd h (by omega)) (fun _ => ?_)
  refine Reb.A T Anc.nil (fun w1 T t1 => ?_)
  unfold C_frame_Put_2
  have z0 := T.t.size
  refine CallL.pA T Anc.nil (fun wa T _ => wire_Int_spec (s := ⟨none, 0, 0⟩) (bs := []) (by omega) (by omega) Rd.nil (fun _ => rfl) (by simp)) ?_
  rintro wa v w2 T t z1 z2 _ ⟨s1, rfl, o1, f1⟩
  refine ⟨s1, rfl, ?_⟩
  have g1 : ∀ b, s1.on b → w.heap.size ≤ b := fun b hb => by have := f1 b hb; omega
  refine Reb.A T Anc.nil (fun w3 T t => ?_)
  replace o1 := o1.tr t (by simp [blk])
  unfold C_frame_Put_3
  refine CallL.vA T Anc.nil (fun wa T _ => digest_Sum_spec 8 (hr.tr T.t (by simp [noB])) (by omega)) (fun w4 T t => ⟨_, rfl, ?_⟩)
  replace o1 := o1.tr t (by simp [blk])
  refine Reb.A T Anc.nil (fun w5 T t => ?_)
  replace o1 := o1.tr t (by simp [blk])
  unfold C_frame_Put_4
  refine Reb.A T Anc.nil (fun w5 T t => ?_)
  replace o1 := o1.tr t (by simp [blk])
  unfold C_frame_Put_6
  rw [hn.symm] at o1
  have hvl : (vb (zz (p.length : Int))).length ≤ 10 := vb_len10 (zz_lt (by omega) (by omega))
  refine LoopC.mk (fun x w' => ∃ k : Nat, x.2 = (k : Int) ∧ k ≤ 8 ∧ Now noB w w' ∧ Own byteC 1 t_u8 w' x.1 (vb (zz (p.length : Int)) ++ (eightM (sumM p)).take k) ∧ (∀ b, x.1.on b → w.heap.size ≤ b)) (fun x => 8 - x.2.toNat) ?_ ?_
  · exact Reb.A T Anc.nil (fun w2 T t => ⟨0, rfl, by omega, T, by simpa using o1.tr t (by simp [blk]), g1⟩)
  · rintro ⟨sl, i⟩ wb ⟨k, hi, hk, T, ho, hon⟩
    simp only at hi ho hon
    subst hi
    have hn2 := ho.1
    rw [List.length_append, List.length_take, eightM_len] at hn2
    unfold L_frame_Put_7
    dsimp only
    unfold B_frame_Put_7
    refine ifbd (fun hlt => ?_) (fun hlt => ?_)
    · refine ⟨by rw [w8k (by omega)]; omega, ?_⟩
      rw [sumM_eq, byte_at (by omega)]
      refine NewL.A T Anc.nil (fun b6 w3 T t3 h6 l6 => ?_)
      replace ho := ho.tr t3 (by simp [blk])
      have z3 := T.t.size
      refine RunL.appA T Anc.nil E (by decide) byteC_len byteC_one ho (Blk.rd1 (x := UInt8.ofNat (sumM p / 256 ^ k)) h6) (fun h => by cases h) (by omega) (fun i hi hh => by have := hon i hh; omega) (by simp [blk]) (by simp [blk]) (fun s2 w4 T t4 o2 f2 n2 => ⟨_, rfl, ?_⟩)
      have step : IntKind.i64.wrap ((k : Int) + 1) = ((k + 1 : Nat) : Int) := by rw [wrap_i64 (by omega) (by omega)]; simp
      refine Reb.A T Anc.nil (fun w5 T t5 => ⟨by rw [← sumM_eq], ⟨k + 1, step, by omega, T, ?_, fun i hi => ?_⟩, by simp only [step]; omega⟩)
      · rw [take_snoc (eightM_get (by omega)), ← List.append_assoc]; exact o2.tr t5 n2
      · rcases f2 i hi with h | h
        · exact hon i h
        · omega
    · have h9 : k = 8 := by omega
      subst h9
      refine Reb.A T Anc.nil (fun w3 T t3 => ?_)
      replace ho := ho.tr t3 (by simp [blk])
      rw [List.take_of_length_le (Nat.le_of_eq (eightM_len _))] at ho
      have z3 := T.t.size
      unfold C_frame_Put_5
      refine RunL.appA T Anc.nil E (by decide) byteC_len byteC_one ho (hr.tr T.t (by simp [noB])) hc (by omega) (fun i hi hh => by have := hon i hh; omega) (by simp [blk]) (by simp [blk]) (fun s2 w4 T t4 o2 f2 n2 => ⟨_, rfl, ?_⟩)
      refine Reb.A T Anc.nil (fun w6 T t6 => ⟨T.t, s2, rfl, ?_, fun i hi => ?_⟩)
      · have := o2.tr t6 n2
        rwa [List.append_assoc] at this
      · rcases f2 i hi with h | h
        · exact hon i h
        · omega

theorem ref03_Put_spec {w : World} {s : Sl} {p : List UInt8} (hr : Rd byteC 1 w s p) (hc : s.a = none → s.c = 0) (hp : p.length ≤ 65536) :
    Spec PP n_cellplaneref03_Put [.slice none 0 0, .int .i64 8, .slice s.a s.n s.c] w noB (FrB w (putF p)) := by
  refine cellplaneref03_Put_calls ⟨none, 0, 0⟩ 8 s _ w ?_
  unfold F_cellplaneref03_Put
  have T : Now noB w w := Now.refl
  have hn := hr.1
  have E := el_sl_u8.t
  refine ifbd (fun h => absurd h (by omega)) (fun _ => ?_)
  refine CallL.pA T Anc.nil (fun wa T _ => ref01_Int_spec (s := ⟨none, 0, 0⟩) (bs := []) (by omega) (by omega) Rd.nil (fun _ => rfl) (by simp)) ?_
  rintro wa v w2 T t z1 z2 _ ⟨s1, rfl, o1, f1⟩
  refine ⟨s1, rfl, ?_⟩
  have hvl : (vb (zz (p.length : Int))).length ≤ 10 := vb_len10 (zz_lt (by omega) (by omega))
  refine CallL.vA T Anc.nil (fun wa T _ => cellplaneref02_Sum_spec 8 (hr.tr T.t (by simp [noB])) (by omega)) (fun w4 T t => ⟨_, rfl, ?_⟩)
  replace o1 := o1.tr t (by simp [blk])
  rw [hn.symm, List.nil_append] at o1
  rw [sumM_eq]
  have zw4 := T.t.size
  refine CallL.pA T Anc.nil (fun wa _ t => ref02_Eight_spec ((o1.tr t (by simp [blk])).rd byteC_len) o1.cap0 (by omega)) ?_
  rintro wa2 v w5 T t z3 z4 _ ⟨s2, rfl, o2, f2⟩
  refine ⟨s2, rfl, ?_⟩
  have hn2 := o2.1
  rw [List.length_append, eightM_len] at hn2
  refine RunL.appA T Anc.nil E (by decide) byteC_len byteC_one o2 (hr.tr T.t (by simp [noB])) hc (by omega) (fun i hi hh => by have := f2 i hh; omega) (by simp [blk]) (by simp [blk]) (fun s3 w6 T t4 o3 f3 n3 => ⟨_, rfl, ?_⟩)
  have z6 := T.t.size
  refine Reb.A T Anc.nil (fun w7 T t6 => ⟨T.t, s3, rfl, ?_, fun i hi => ?_⟩)
  · have := o3.tr t6 n3
    rwa [List.append_assoc] at this
  · rcases f3 i hi with h | h
    · have := f2 i h; omega
    · omega

end Go.Sh
