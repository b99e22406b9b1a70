/- Contracts of the reference's integers: TakeInt, Int, Bytes.
   Conditions: none. -/
import Derived.Test.YtoenaheehpjmiaaEP2
namespace Go.Sh
open Go
set_option linter.unusedSimpArgs false
set_option linter.unusedVariables false
set_option maxHeartbeats 2000000

abbrev intC' : Int → List Value := fun n => [.int .i64 n]
theorem or_codeR {u c k : Nat} (hk : k ≤ 9) (hu : u < 128 ^ k) (hc : u + c * 128 ^ k < 18446744073709551616) :
    IntKind.u64.wrap ((BitVec.ofInt (IntKind.u64).bits (u : Int) ||| BitVec.ofInt (IntKind.u64).bits (IntKind.u64.wrap ((IntKind.u64.wrap (c : Int)) * 2 ^ (min (Int.toNat (IntKind.u64.wrap (IntKind.i64.wrap (7 * (k : Int))))) (IntKind.u64).bits)))).toNat) = ((u + c * 128 ^ k : Nat) : Int) := by
  have e : IntKind.u64.wrap (IntKind.i64.wrap (7 * (k : Int))) = IntKind.i64.wrap (7 * (k : Int)) := by rw [w7k (by omega), wu64_nat (by omega)]
  rw [e]; exact or_code hk hu hc
theorem un_even {C : Nat} (h : C < 18446744073709551616) (he : Int.tmod (C : Int) 2 = 0) : IntKind.i64.wrap (IntKind.u64.wrap (Int.tdiv (C : Int) 2)) = unzz C := by
  have e1 : Int.tdiv (C : Int) 2 = ((C / 2 : Nat) : Int) := by rw [Int.tdiv_eq_ediv_of_nonneg (by omega)]; rfl
  have e2 : Int.tmod (C : Int) 2 = ((C % 2 : Nat) : Int) := by rw [Int.tmod_eq_emod_of_nonneg (by omega)]; rfl
  rw [e1, wu64_nat (by omega), wrap_i64 (by omega) (by omega)]
  rw [e2] at he
  unfold unzz
  rw [if_pos (by omega)]
theorem un_odd {C : Nat} (h : C < 18446744073709551616) (he : ¬ Int.tmod (C : Int) 2 = 0) : IntKind.i64.wrap ((IntKind.i64.wrap (0 - (IntKind.i64.wrap (IntKind.u64.wrap (Int.tdiv (C : Int) 2))))) - 1) = unzz C := by
  have e1 : Int.tdiv (C : Int) 2 = ((C / 2 : Nat) : Int) := by rw [Int.tdiv_eq_ediv_of_nonneg (by omega)]; rfl
  have e2 : Int.tmod (C : Int) 2 = ((C % 2 : Nat) : Int) := by rw [Int.tmod_eq_emod_of_nonneg (by omega)]; rfl
  rw [e1, wu64_nat (by omega), wrap_i64 (x := ((C / 2 : Nat) : Int)) (by omega) (by omega), wrap_i64 (x := 0 - ((C / 2 : Nat) : Int)) (by omega) (by omega), wrap_i64 (by omega) (by omega)]
  rw [e2] at he
  unfold unzz
  rw [if_neg (by omega)]; omega

set_option maxRecDepth 20000 in
theorem ref01_TakeInt_spec {w : World} {s : Sl} {bs : List UInt8} (hr : Rd byteC 1 w s bs) (hl : bs.length ≤ 1000000000) : Spec PP n_cellplaneref01_TakeInt [.slice s.a s.n s.c] w noB (fun v _ => v = tkV bs) := by
  refine cellplaneref01_TakeInt_calls s _ w ?_
  unfold F_cellplaneref01_TakeInt
  have T : Now noB w w := Now.refl
  have hn := hr.1
  refine Reb.A T Anc.nil (fun w1 T t => ?_)
  unfold C_cellplaneref01_TakeInt_1
  refine Reb.A T Anc.nil (fun w1 T t => ?_)
  unfold C_cellplaneref01_TakeInt_2
  refine Reb.A T Anc.nil (fun w1 T t => ?_)
  unfold C_cellplaneref01_TakeInt_4
  refine LoopC.mk (fun x w' => ∃ (k u : Nat), x.2 = (k : Int) ∧ k ≤ bs.length ∧ k ≤ 10 ∧ Now noB w w' ∧ tk 0 0 bs = tk k u (bs.drop k) ∧ (k ≤ 9 → x.1 = (u : Int) ∧ u < 128 ^ k)) (fun x => bs.length - x.2.toNat) ?_ ?_
  · exact Reb.A T Anc.nil (fun w2 T t => ⟨0, 0, rfl, by omega, by omega, T, rfl, fun _ => ⟨rfl, by decide⟩⟩)
  · rintro ⟨x, i⟩ wb ⟨k, u, hi, hk, hk10, T, hm, hu⟩
    simp only at hi hu
    subst hi
    unfold L_cellplaneref01_TakeInt_5
    dsimp only
    unfold B_cellplaneref01_TakeInt_5
    refine ifbd (fun h10 => ?_) (fun h10 => ?_)
    · have hk9 : k ≤ 9 := by omega
      obtain ⟨rfl, hub⟩ := hu hk9
      have hpc := pow_cases hk9
      refine Reb.A T Anc.nil (fun w2 T t => ?_)
      unfold C_cellplaneref01_TakeInt_6
      refine ifbd (fun h => ?_) (fun h => ?_)
      · have hd : bs.drop k = [] := List.drop_of_length_le (by omega)
        rw [hd] at hm
        rw [tk_nil] at hm
        rw [if_pos (by omega)] at hm
        exact Reb.A T Anc.nil (fun w2 T t => ⟨T.t, (tkV_of hm).symm⟩)
      · refine Reb.A T Anc.nil (fun w2 T t => ?_)
        unfold C_cellplaneref01_TakeInt_8
        obtain ⟨c, hc⟩ : ∃ c, bs[k]? = some c := ⟨bs[k]'(by omega), List.getElem?_eq_getElem (by omega)⟩
        have rdc : ∀ {w' : World} {K : Addr → Prop}, Now noB w w' → (∀ p, At w' (p.add ((k : Int).toNat * 1)) (byteC c) → K p) → IdxL s.a s.n (k : Int) K := by
          intro w' K T kk
          refine (hr.tr T.t (by simp [noB])).idx (by omega) (by omega) (fun p c' hp hc' ha => kk p ?_)
          rw [Int.toNat_natCast, hc] at hc'
          obtain rfl := Option.some.inj hc'
          exact ha
        have hdc := drop_cons hc
        have hcl := c.toNat_lt
        rw [hdc, tk, if_neg (by omega)] at hm
        refine rdc T (fun p ha => ⟨(c.toNat : Int), ha, notIn_nil, ?_⟩)
        refine Reb.A T Anc.nil (fun w2 T t => ?_)
        unfold C_cellplaneref01_TakeInt_10
        have h7 : (0 : Int) ≤ IntKind.u64.wrap (IntKind.i64.wrap (7 * (k : Int))) := by rw [w7k (by omega), wu64_nat (by omega)]; omega
        refine ifbd (fun h128 => ?_) (fun h128 => ?_)
        · have hc1 : c.toNat < 128 := by omega
          have bad : (0 < k ∧ c.toNat = 0) ∨ (k = 9 ∧ 1 < c.toNat) → tkV bs = .tuple #[.int .i64 0, .int .i64 0, .int .i64 18] := by
            intro hb
            rw [if_pos hc1, if_pos hb] at hm
            exact tkV_of hm
          have key11 : ∀ w', Now noB w w' → ¬ ((0 < k ∧ c.toNat = 0) ∨ (k = 9 ∧ 1 < c.toNat)) → C_cellplaneref01_TakeInt_11 w.heap.size (fun c' x' w' => c' = s ∧ (∃ (k u : Nat), x'.2 = (k : Int) ∧ k ≤ bs.length ∧ k ≤ 10 ∧ Now noB w w' ∧ tk 0 0 bs = tk k u (bs.drop k) ∧ (k ≤ 9 → x'.1 = (u : Int) ∧ u < 128 ^ k)) ∧ bs.length - x'.2.toNat < bs.length - (k : Int).toNat) (fun v w' => Touch noB w w' ∧ v = tkV bs) s (u : Int) (k : Int) w' := by
            intro w' T hc2
            unfold C_cellplaneref01_TakeInt_11
            rw [if_pos hc1, if_neg hc2] at hm
            have hsum : u + c.toNat * 128 ^ k < 18446744073709551616 := by
              rcases hpc with ⟨e, _⟩ | ⟨e, _⟩ | ⟨e, _⟩ | ⟨e, _⟩ | ⟨e, _⟩ | ⟨e, _⟩ | ⟨e, _⟩ | ⟨e, _⟩ | ⟨e, _⟩ | ⟨e, hk⟩ <;> rw [e] at hub ⊢ <;> omega
            refine rdc T (fun p ha => ⟨(c.toNat : Int), ha, notIn_nil, h7, by decide, ?_⟩)
            rw [or_codeR hk9 hub hsum]
            refine ifbd (fun he => ⟨by decide, ?_⟩) (fun he => ⟨by decide, ?_⟩)
            · refine Reb.A T Anc.nil (fun w2 T t => ⟨T.t, ?_⟩)
              rw [tkV_of hm, wrap_i64 (x := (k : Int) + 1) (by omega) (by omega), un_even hsum he]
              simp
            · refine Reb.A T Anc.nil (fun w2 T t => ⟨T.t, ?_⟩)
              rw [tkV_of hm, wrap_i64 (x := (k : Int) + 1) (by omega) (by omega), un_odd hsum he]
              simp
          have key9 : ∀ w', Now noB w w' → ¬ (0 < k ∧ c.toNat = 0) → IfB (decide ((k : Int) = 9)) (IdxL s.a s.n (k : Int) fun q13 => ∃ n14 : Int, At w' (q13.add ((k : Int).toNat * 1)) [(.int .u8 n14)] ∧ NotIn ((q13.add ((k : Int).toNat * 1)) : Addr).block [] ∧ IfB (decide ((1 : Int) < n14)) (Reb w.heap.size w' [] ((fun v w' => Touch noB w w' ∧ v = tkV bs) (.tuple #[(.int .i64 0), (.int .i64 0), (.int .i64 18)]))) (Reb w.heap.size w' [] fun w15 => C_cellplaneref01_TakeInt_11 w.heap.size (fun c' x' w' => c' = s ∧ (∃ (k u : Nat), x'.2 = (k : Int) ∧ k ≤ bs.length ∧ k ≤ 10 ∧ Now noB w w' ∧ tk 0 0 bs = tk k u (bs.drop k) ∧ (k ≤ 9 → x'.1 = (u : Int) ∧ u < 128 ^ k)) ∧ bs.length - x'.2.toNat < bs.length - (k : Int).toNat) (fun v w' => Touch noB w w' ∧ v = tkV bs) s (u : Int) (k : Int) w15)) (Reb w.heap.size w' [] fun w16 => C_cellplaneref01_TakeInt_11 w.heap.size (fun c' x' w' => c' = s ∧ (∃ (k u : Nat), x'.2 = (k : Int) ∧ k ≤ bs.length ∧ k ≤ 10 ∧ Now noB w w' ∧ tk 0 0 bs = tk k u (bs.drop k) ∧ (k ≤ 9 → x'.1 = (u : Int) ∧ u < 128 ^ k)) ∧ bs.length - x'.2.toNat < bs.length - (k : Int).toNat) (fun v w' => Touch noB w w' ∧ v = tkV bs) s (u : Int) (k : Int) w16) := by
            intro w' T h0
            refine ifbd (fun h9 => ?_) (fun h9 => ?_)
            · refine rdc T (fun p ha => ⟨(c.toNat : Int), ha, notIn_nil, ?_⟩)
              refine ifbd (fun h1 => ?_) (fun h1 => ?_)
              · exact Reb.A T Anc.nil (fun w2 T t => ⟨T.t, (bad (.inr ⟨by omega, by omega⟩)).symm⟩)
              · refine Reb.A T Anc.nil (fun w2 T t => key11 _ T ?_)
                rintro (h' | h')
                · exact h0 h'
                · omega
            · refine Reb.A T Anc.nil (fun w2 T t => key11 _ T ?_)
              rintro (h' | h')
              · exact h0 h'
              · omega
          refine ifbd (fun h0 => ?_) (fun h0 => ?_)
          · refine rdc T (fun p ha => ⟨(c.toNat : Int), ha, notIn_nil, ?_⟩)
            refine ifbd (fun hz => ?_) (fun hz => ?_)
            · exact Reb.A T Anc.nil (fun w2 T t => ⟨T.t, (bad (.inl ⟨by omega, by omega⟩)).symm⟩)
            · exact key9 _ T (by omega)
          · exact key9 _ T (by omega)
        · refine Reb.A T Anc.nil (fun w2 T t => ?_)
          unfold C_cellplaneref01_TakeInt_9
          rw [if_neg (by omega)] at hm
          refine rdc T (fun p ha => ⟨(c.toNat : Int), ha, notIn_nil, h7, ?_⟩)
          refine Reb.A T Anc.nil (fun w2 T t => ?_)
          unfold C_cellplaneref01_TakeInt_7
          refine Reb.A T Anc.nil (fun w2 T t => ?_)
          have step : IntKind.i64.wrap ((k : Int) + 1) = ((k + 1 : Nat) : Int) := by rw [wrap_i64 (by omega) (by omega)]; simp
          refine ⟨rfl, ⟨k + 1, u + (c.toNat - 128) * 128 ^ k, step, by omega, by omega, T, hm, fun hk' => ?_⟩, by simp only [step]; omega⟩
          have e8 : IntKind.u8.wrap ((c.toNat : Int) - 128) = ((c.toNat - 128 : Nat) : Int) := by
            simp [IntKind.wrap, IntKind.signed, IntKind.bits]; omega
          have hsum : u + (c.toNat - 128) * 128 ^ k < 128 * 128 ^ k ∧ u + (c.toNat - 128) * 128 ^ k < 18446744073709551616 := by
            rcases pow_cases (show k ≤ 9 by omega) with ⟨e, _⟩ | ⟨e, _⟩ | ⟨e, _⟩ | ⟨e, _⟩ | ⟨e, _⟩ | ⟨e, _⟩ | ⟨e, _⟩ | ⟨e, _⟩ | ⟨e, _⟩ | ⟨e, hk⟩ <;> rw [e] at hub ⊢ <;> omega
          refine ⟨?_, by rw [Nat.pow_succ, Nat.mul_comm (128 ^ k)]; exact hsum.1⟩
          simp only
          rw [e8, or_codeR hk9 hub hsum.2]
    · have e10 : k = 10 := by omega
      subst e10
      rw [tk_10] at hm
      refine Reb.A T Anc.nil (fun w2 T t => ?_)
      unfold C_cellplaneref01_TakeInt_3
      exact Reb.A T Anc.nil (fun w2 T t => ⟨T.t, (tkV_of hm).symm⟩)

theorem ref01_code_spec {n : Int} (h1 : -9223372036854775808 ≤ n) (h2 : n ≤ 9223372036854775807) (w : World) : Spec PP n_cellplaneref01_code [.int .i64 n] w noB (fun v _ => v = .int .u64 (zz n : Int)) := by
  refine cellplaneref01_code_calls n _ w ?_
  unfold F_cellplaneref01_code
  have T : Now noB w w := Now.refl
  refine ifbd (fun h => ?_) (fun h => ?_)
  · refine Reb.A T Anc.nil (fun w1 T t => ⟨T.t, ?_⟩)
    congr 1
    unfold zz
    rw [if_pos h, wu64, wu64]
    omega
  · refine Reb.A T Anc.nil (fun w1 T t => ⟨T.t, ?_⟩)
    congr 1
    unfold zz
    rw [if_neg h, wrap_i64 (x := n + 1) (by omega) (by omega), wrap_i64 (by omega) (by omega), wu64, wu64, wu64]
    omega

theorem byte_hiR {c : Nat} : IntKind.u8.wrap ((IntKind.u8.wrap (Int.tmod (c : Int) 128)) + 128) = ((UInt8.ofNat (c % 128 + 128)).toNat : Int) := by
  have hw : ∀ x : Int, IntKind.u8.wrap x = x % 256 := by
    intro x; simp [IntKind.wrap, IntKind.signed, IntKind.bits]
  rw [Int.tmod_eq_emod_of_nonneg (by omega), hw, hw, UInt8.toNat_ofNat']
  omega

theorem ref01_Int_spec {w : World} {s : Sl} {bs : List UInt8} {n : Int} (h1 : -9223372036854775808 ≤ n) (h2 : n ≤ 9223372036854775807) (hr : Rd byteC 1 w s bs) (hc : s.a = none → s.c = 0) (hl : bs.length ≤ 1000) :
    Spec PP n_cellplaneref01_Int [.slice s.a s.n s.c, .int .i64 n] w noB (fun v w' => ∃ s' : Sl, v = .slice s'.a s'.n s'.c ∧ Own byteC 1 t_u8 w' s' (bs ++ vb (zz n)) ∧ ∀ b, s'.on b → w.heap.size ≤ b) := by
  refine cellplaneref01_Int_calls s n _ w ?_
  unfold F_cellplaneref01_Int
  have T : Now noB w w := Now.refl
  have E := el_sl_u8.t
  have hzl := zz_lt h1 h2
  have hn := hr.1
  refine Reb.A T Anc.nil (fun w1 T t1 => ?_)
  unfold C_cellplaneref01_Int_1
  replace hr := hr.tr t1 (by simp [blk])
  refine NewL.A T Anc.nil (fun b0 w2 T t2 hb0 lb0 => ?_)
  replace hr := hr.tr t2 (by simp [blk])
  have zl := T.t.size
  refine RunL.freshA T Anc.nil E (by decide) byteC_len byteC_one hb0 (by omega) (by simp [blk]) hr hc (by omega) (by simp [blk]) (fun s1 w3 T t3 o f nn => ⟨s1, rfl, ?_⟩)
  refine Reb.A T Anc.nil (fun w4 T t4 => ?_)
  replace o := o.tr t4 nn
  have hge : ∀ b, s1.on b → w.heap.size ≤ b := fun b hb => (f b hb).elim (fun h => by omega) (fun h => by omega)
  unfold C_cellplaneref01_Int_2
  refine CallL.vA T Anc.nil (fun wa _ _ => ref01_code_spec h1 h2 wa) (fun w5 T t => ⟨_, rfl, ?_⟩)
  replace o := o.tr t (by simp [blk])
  refine Reb.A T Anc.nil (fun w4 T t4 => ?_)
  replace o := o.tr t4 (by simp [blk])
  unfold C_cellplaneref01_Int_3
  refine LoopC.mk (fun x w' => ∃ (pre : List UInt8) (c : Nat), x.2 = (c : Int) ∧ c < 18446744073709551616 ∧ Now noB w w' ∧ Own byteC 1 t_u8 w' x.1 (bs ++ pre) ∧ pre ++ vb c = vb (zz n) ∧ (∀ b, x.1.on b → w.heap.size ≤ b)) (fun x => x.2.toNat) ?_ ?_
  · exact Reb.A T Anc.nil (fun w3 T t3 => ⟨[], zz n, rfl, hzl, T, by rw [List.append_nil]; exact o.tr t3 (by simp [blk]), rfl, hge⟩)
  · rintro ⟨sl, x⟩ wb ⟨pre, c, hx, hc, T, ho, hp, hon⟩
    simp only at hx ho hon
    subst hx
    have hlen : pre.length ≤ 10 := by
      have := congrArg List.length hp
      rw [List.length_append] at this
      have := vb_len10 hzl
      omega
    have hn := ho.1
    rw [List.length_append] at hn
    unfold L_cellplaneref01_Int_5
    dsimp only
    unfold B_cellplaneref01_Int_5
    refine ifbd (fun h => ?_) (fun h => ?_)
    · rw [byte_hiR]
      refine ⟨by decide, ?_⟩
      refine NewL.A T Anc.nil (fun b6 w3 T t3 h6 l6 => ?_)
      replace ho := ho.tr t3 (by simp [blk])
      have z3 := T.t.size
      refine RunL.appA T Anc.nil E (by decide) byteC_len byteC_one ho (Blk.rd1 (x := UInt8.ofNat (c % 128 + 128)) h6) (fun h => by cases h) (by omega) (fun i hi hh => by have := hon i hh; omega) (by simp [blk]) (by simp [blk]) (fun s2 w4 T t4 o2 f2 n2 => ⟨_, rfl, by decide, ?_⟩)
      refine Reb.A T Anc.nil (fun w5 T t5 => ?_)
      have step : IntKind.u64.wrap (Int.tdiv (c : Int) 128) = ((c / 128 : Nat) : Int) := by
        rw [Int.tdiv_eq_ediv_of_nonneg (by omega), wu64]; omega
      refine ⟨rfl, ⟨pre ++ [UInt8.ofNat (c % 128 + 128)], c / 128, step, by omega, T, ?_, ?_, fun i hi => ?_⟩, by simp only [step]; omega⟩
      · rw [← List.append_assoc]; exact o2.tr t5 n2
      · rw [← hp, vb_ge (c := c) (by omega), List.append_assoc]; rfl
      · rcases f2 i hi with h | h
        · exact hon i h
        · omega
    · refine Reb.A T Anc.nil (fun w3 T t3 => ?_)
      replace ho := ho.tr t3 (by simp [blk])
      unfold C_cellplaneref01_Int_4
      rw [byte_lo (by omega)]
      refine NewL.A T Anc.nil (fun b1 w4 T t4 h4 l4 => ?_)
      replace ho := ho.tr t4 (by simp [blk])
      have z3 := T.t.size
      refine RunL.appA T Anc.nil E (by decide) byteC_len byteC_one ho (Blk.rd1 (x := UInt8.ofNat c) h4) (fun h => by cases h) (by omega) (fun i hi hh => by have := hon i hh; omega) (by simp [blk]) (by simp [blk]) (fun s2 w5 T t5 o2 f2 n2 => ⟨_, rfl, ?_⟩)
      refine Reb.A T Anc.nil (fun w6 T t6 => ⟨T.t, s2, rfl, ?_, fun i hi => ?_⟩)
      · rw [← hp, vb_lt (c := c) (by omega), ← List.append_assoc]; exact o2.tr t6 n2
      · rcases f2 i hi with h | h
        · exact hon i h
        · omega

theorem Blk.rdL {w : World} {b n T : Nat} {xs : List Int} (h : Blk w b (xs.flatMap intC') T) (hn : xs.length = n) : Rd intC' 1 w ⟨some ⟨b, 0, none⟩, n, n⟩ xs := by
  refine ⟨hn, fun h => (by cases h), fun p hp i x hi => ?_⟩
  cases hp
  rw [add_plain]
  have := Blk.elem (c := intC') (k := 1) (fun _ => rfl) (pre := []) (post := []) (w := w) (b := b) (T := T) (xs := xs) (by simpa using h) hi
  simpa using this

theorem ref06_Bytes_spec (e : G_api_Entry) (hw : ∀ n ∈ flds e, okI n) (w : World) : Spec PP n_cellplaneref06_Bytes [.agg (List.toArray e.cells)] w noB
    (fun v w' => ∃ s : Sl, v = .slice s.a s.n s.c ∧ Own byteC 1 t_u8 w' s (ebL (flds e)) ∧ ∀ b, s.on b → w.heap.size ≤ b) := by
  refine cellplaneref06_Bytes_calls e _ w ?_
  unfold F_cellplaneref06_Bytes
  have T : Now noB w w := Now.refl
  intro be hbe
  refine Reb.A T Anc.start (fun w1 T t => ?_)
  unfold C_cellplaneref06_Bytes_1
  refine Reb.A T Anc.start (fun w1 T t => ?_)
  unfold C_cellplaneref06_Bytes_2
  refine NewL.A T Anc.start (fun bl w2 T t hb lb => ?_)
  have hbl : Blk w2 bl ((flds e).flatMap intC') t_i64_2 := hb
  refine Reb.A T Anc.start (fun w3 T t => ?_)
  replace hbl := hbl.tr t (by intro c hc hm; exact lb.2.2.2 (hc ▸ hm))
  unfold C_cellplaneref06_Bytes_3
  refine Reb.A T Anc.nil (fun w4 T t => ?_)
  replace hbl := hbl.tr t (by simp [blk])
  unfold C_cellplaneref06_Bytes_5
  have hfl : (flds e).length = 9 := rfl
  have hge : w.heap.size ≤ bl := lb.1
  refine LoopC.mk (fun x w' => ∃ m : Nat, x.2 = (m : Int) ∧ m ≤ 9 ∧ Now noB w w' ∧ Own byteC 1 t_u8 w' x.1 (ebL ((flds e).take m)) ∧ (∀ b, x.1.on b → w.heap.size ≤ b) ∧ Blk w' bl ((flds e).flatMap intC') t_i64_2 ∧ (ebL ((flds e).take m)).length ≤ m * 10) (fun x => 9 - x.2.toNat) ?_ ?_
  · exact Reb.A T Anc.nil (fun w6 T t => ⟨0, rfl, by omega, T, Own.nil, by simp, hbl.tr t (by simp [blk]), by simp [ebL]⟩)
  · rintro ⟨sl, x⟩ wb ⟨m, hx, hm, Tb, ho, hon, hbl, hlen⟩
    have T := Tb
    simp only at hx ho hon
    subst hx
    unfold L_cellplaneref06_Bytes_6
    dsimp only
    unfold B_cellplaneref06_Bytes_6
    refine ifbd (fun h => ?_) (fun h => ?_)
    · have hrl := hbl.rdL (n := 9) rfl
      refine hrl.idx (by omega) (by simpa using h) (fun p x hp hx ha => ?_)
      rw [Int.toNat_natCast] at hx
      have hm9 : m < 9 := by simp at h; omega
      have hI := hw x (List.mem_of_getElem? hx)
      refine ⟨x, ha, notIn_nil, ?_⟩
      refine CallL.pA T Anc.nil (fun wa _ t => ref01_Int_spec hI.1 hI.2 ((ho.tr t (by simp [blk])).rd byteC_len) ho.cap0 (by omega)) ?_
      rintro wa v w6 T t z1 z2 _ ⟨s2, rfl, o2, f2⟩
      refine ⟨s2, rfl, ?_⟩
      have z0 := T.t.size
      refine Reb.A T Anc.nil (fun w7 T t7 => ?_)
      have step : IntKind.i64.wrap ((m : Int) + 1) = ((m + 1 : Nat) : Int) := by rw [wrap_i64 (by omega) (by omega)]; simp
      have et : (flds e).take (m + 1) = (flds e).take m ++ [x] := by
        rw [List.take_add_one, hx, Option.toList_some]
      have eb : ebL ((flds e).take (m + 1)) = ebL ((flds e).take m) ++ vb (zz x) := by
        unfold ebL; rw [et, List.flatMap_append, List.flatMap_cons, List.flatMap_nil, List.append_nil]
      have zb := Tb.t.size
      refine ⟨rfl, ⟨m + 1, step, by omega, T, by rw [eb]; exact o2.tr t7 (by simp [blk]), fun b hb => ?_, (hbl.tr t (by simp [blk])).tr t7 (by simp [blk]), ?_⟩, by simp only [step]; omega⟩
      · have := f2 b hb
        omega
      · rw [eb, List.length_append]
        have := vb_len10 (zz_lt hI.1 hI.2)
        omega
    · have h9 : m = 9 := by simp at h; omega
      subst h9
      refine Reb.A T Anc.nil (fun w6 T t6 => ?_)
      unfold C_cellplaneref06_Bytes_4
      refine Reb.A T Anc.nil (fun w7 T t7 => ⟨T.t, sl, rfl, ?_, hon⟩)
      rw [List.take_of_length_le (by omega)] at ho
      exact (ho.tr t6 (by simp [blk])).tr t7 (by simp [blk])

end Go.Sh
