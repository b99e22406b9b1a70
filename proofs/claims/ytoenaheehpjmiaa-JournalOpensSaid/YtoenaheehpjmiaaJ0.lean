/- What these functions do, told by computation: a formula for each, and that its calls do what the formula says.
   Conditions: none. -/
import Derived.Test.YtoenaheehpjmiaaBase
namespace Go.Sh
open Go Go.Proofs
set_option linter.unusedVariables false
set_option maxRecDepth 100000

/-! ### digest_Mix -/
def F_digest_Mix (N : Nat) (h0 : Int) (n1 : Int) (Q : VP) (w : World) : Prop :=
  (0 : Int) ≤ 29 ∧ Reb N w [] (Q (.int .u64 (IntKind.u64.wrap ((BitVec.ofInt (IntKind.u64).bits (IntKind.u64.wrap ((IntKind.u64.wrap ((BitVec.ofInt (IntKind.u64).bits h0 ^^^ BitVec.ofInt (IntKind.u64).bits (IntKind.u64.wrap n1)).toNat)) * 1099511628211)) ^^^ BitVec.ofInt (IntKind.u64).bits (Int.fdiv (IntKind.u64.wrap ((IntKind.u64.wrap ((BitVec.ofInt (IntKind.u64).bits h0 ^^^ BitVec.ofInt (IntKind.u64).bits (IntKind.u64.wrap n1)).toNat)) * 1099511628211)) (2 ^ (min (Int.toNat 29) (IntKind.u64).bits)))).toNat))))

theorem digest_Mix_snd (N : Nat) (h0 : Int) (n1 : Int) (Q : VP) (w : World) (h : F_digest_Mix N h0 n1 Q w) : Snd (cy N []) (bodyOf Try.f154) (retD (cy N []) Try.f154 Q) (entry 15 [(.int .u64 h0), (.int .i64 n1)]) w :=
  (dsm h)

theorem digest_Mix_calls (h0 : Int) (n1 : Int) (Q : VP) (w : World) (h : F_digest_Mix w.heap.size h0 n1 Q w) : Calls PP n_digest_Mix [(.int .u64 h0), (.int .i64 n1)].toArray w fun e w' => ∃ v, e = .returned v ∧ Q v w' :=
  calls_of (C := cy w.heap.size []) (fn := Try.f154) (c := (bodyOf Try.f154)) (by kernel_rfl) (by kernel_rfl) (Nat.le_refl _) (digest_Mix_snd _ h0 n1 Q w h)

/-! ### digest_bytes -/
def C_digest_bytes_2 (N : Nat) (Q : VP) (h0' : Int) (b1' : Sl) (w : World) : Prop :=
  CallL PP N w [] n_digest_Mix [(.int .u64 h0'), (.int .i64 ((b1'.n : Nat) : Int))] fun r2 w3 => ∃ n1 : Int, r2 = (.int .u64 n1) ∧ Reb N w3 [] (Q (.int .u64 n1))

noncomputable def H_digest_bytes_2 (N : Nat) (Q : VP) : St → World → Prop := HG N 22 [.v 0 (.i .u64), .v 1 .l] (C_digest_bytes_2 N Q)

theorem T_digest_bytes_2 (N : Nat) (Q : VP) (s : St) (w : World) (h : H_digest_bytes_2 N Q s w) : Snd (cy N []) (cR (cR (bodyOf Try.f153))) (retD (cy N []) Try.f153 Q) s w :=
  Snd.HG h fun _ _ _ h => dsm h

def D_digest_bytes_4 (K : (Sl × Sl × Int) → (Int × Int) → Prop) : List Value → List LB → Prop := fun vs ls => match vs, ls with
  | [.int .u64 h0', .slice b1'_a b1'_n b1'_c, .slice v7'_a v7'_n v7'_c, .int .i64 v8', .int .i64 v9'], [] => K (⟨b1'_a, b1'_n, b1'_c⟩, ⟨v7'_a, v7'_n, v7'_c⟩, v8') (h0', v9')
  | _, _ => False

noncomputable def z_digest_bytes_0 (N : Nat) (Q : VP) : Cont := (inBlockD 0 (thenD (H_digest_bytes_2 N Q) (retD (cy N []) Try.f153 Q)))

def B_digest_bytes_4 (N : Nat) (K1 : (Sl × Sl × Int) → (Int × Int) → World → Prop) (Q : VP) (h0' : Int) (b1' v7' : Sl) (v8' v9' : Int) (w : World) : Prop :=
  IfB (decide ((v9' : Int) < v8')) (IdxL v7'.a v7'.n v9' fun q4 => ∃ n5 : Int, At w (q4.add ((v9' : Int).toNat * 1)) [(.int .u8 n5)] ∧ NotIn ((q4.add ((v9' : Int).toNat * 1)) : Addr).block [] ∧ CallL PP N w [] n_digest_Mix [(.int .u64 h0'), (.int .i64 (IntKind.i64.wrap n5))] fun r7 w8 => ∃ n6 : Int, r7 = (.int .u64 n6) ∧ Reb N w8 [] fun w9 => K1 (b1', v7', v8') (n6, (IntKind.i64.wrap (v9' + 1))) w9) (Reb N w [] fun w10 => C_digest_bytes_2 N Q h0' b1' w10)

theorem X_digest_bytes_4 {N : Nat} {K1 : (Sl × Sl × Int) → (Int × Int) → World → Prop} {Q : VP} {h0' : Int} {b1' v7' : Sl} {v8' v9' : Int} {w : World} (h : B_digest_bytes_4 N K1 Q h0' b1' v7' v8' v9' w) : Snd (cy N []) (cL (cL (cR (cL (cR (bodyOf Try.f153)))))) (thenD (HeadK N 22 [.val 0, .val 1, .val 7, .val 8, .val 9] D_digest_bytes_4 K1) (z_digest_bytes_0 N Q)) (mkS 22 [.val 0, .val 1, .val 7, .val 8, .val 9] [(.int .u64 h0'), (.slice b1'.a b1'.n b1'.c), (.slice v7'.a v7'.n v7'.c), (.int .i64 v8'), (.int .i64 v9')] []) w :=
  (dsm h)

def L_digest_bytes_4 (N : Nat) (Q : VP) (K1 : (Sl × Sl × Int) → (Int × Int) → World → Prop) (c : Sl × Sl × Int) (x : Int × Int) (w : World) : Prop := match c, x with
  | (b1', v7', v8'), (h0', v9') => B_digest_bytes_4 N K1 Q h0' b1' v7' v8' v9' w

theorem T_digest_bytes_4 (N : Nat) (Q : VP) {s : St} {w : World} (h : HeadE N 22 [.val 0, .val 1, .val 7, .val 8, .val 9] D_digest_bytes_4 (L_digest_bytes_4 N Q) s w) : Snd (cy N []) (cL (cR (cL (cR (bodyOf Try.f153))))) (z_digest_bytes_0 N Q) s w := by
  refine Snd.cast (c' := .loop (cL (cL (cR (cL (cR (bodyOf Try.f153))))))) (by kernel_rfl) (Snd.loopC (fun (c : Sl × Sl × Int) (x : Int × Int) => match c, x with | (b1', v7', v8'), (h0', v9') => ([(.int .u64 h0'), (.slice b1'.a b1'.n b1'.c), (.slice v7'.a v7'.n v7'.c), (.int .i64 v8'), (.int .i64 v9')], [])) ?_ ?_ h)
  · intro K vs ls h
    unfold D_digest_bytes_4 at h
    split at h
    · exact ⟨_, _, rfl, h⟩
    · exact h.elim
  · rintro K ⟨b1', v7', v8'⟩ ⟨h0', v9'⟩ w h
    exact X_digest_bytes_4 h

def C_digest_bytes_3 (N : Nat) (Q : VP) (h0' : Int) (b1' v7' : Sl) (v8' v9' : Int) (w : World) : Prop :=
  LoopC N w [] ((b1', v7', v8') : Sl × Sl × Int) ((h0', v9') : Int × Int) (L_digest_bytes_4 N Q)

noncomputable def H_digest_bytes_3 (N : Nat) (Q : VP) : St → World → Prop := HG N 22 [.v 0 (.i .u64), .v 1 .l, .v 7 .l, .v 8 (.i .i64), .v 9 (.i .i64)] (C_digest_bytes_3 N Q)

theorem T_digest_bytes_3 (N : Nat) (Q : VP) (s : St) (w : World) (h : H_digest_bytes_3 N Q s w) : Snd (cy N []) (cR (cL (cR (bodyOf Try.f153)))) (thenD (H_digest_bytes_2 N Q) (retD (cy N []) Try.f153 Q)) s w :=
  Snd.HG h fun h0' b1' v7' v8' v9' w h => (bk 0 (T_digest_bytes_4 N Q (mpr' (by kernel_rfl) h)))

def C_digest_bytes_1 (N : Nat) (Q : VP) (h0' : Int) (b1' : Sl) (w : World) : Prop :=
  Reb N w [] fun w11 => C_digest_bytes_3 N Q h0' b1' b1' ((b1'.n : Nat) : Int) 0 w11

noncomputable def H_digest_bytes_1 (N : Nat) (Q : VP) : St → World → Prop := HG N 22 [.v 0 (.i .u64), .v 1 .l] (C_digest_bytes_1 N Q)

theorem T_digest_bytes_1 (N : Nat) (Q : VP) (s : St) (w : World) (h : H_digest_bytes_1 N Q s w) : Snd (cy N []) (cR (bodyOf Try.f153)) (retD (cy N []) Try.f153 Q) s w :=
  Snd.HG h fun h0' b1' w h => (sq (H_digest_bytes_2 N Q) (sq (H_digest_bytes_3 N Q) (dsm h) (T_digest_bytes_3 N Q)) (T_digest_bytes_2 N Q))

def F_digest_bytes (N : Nat) (h0 : Int) (b1 : Sl) (Q : VP) (w : World) : Prop :=
  Reb N w [] fun w12 => C_digest_bytes_1 N Q h0 b1 w12

theorem digest_bytes_snd (N : Nat) (h0 : Int) (b1 : Sl) (Q : VP) (w : World) (h : F_digest_bytes N h0 b1 Q w) : Snd (cy N []) (bodyOf Try.f153) (retD (cy N []) Try.f153 Q) (entry 22 [(.int .u64 h0), (.slice b1.a b1.n b1.c)]) w :=
  (sq (H_digest_bytes_1 N Q) (dsm h) (T_digest_bytes_1 N Q))

theorem digest_bytes_calls (h0 : Int) (b1 : Sl) (Q : VP) (w : World) (h : F_digest_bytes w.heap.size h0 b1 Q w) : Calls PP n_digest_bytes [(.int .u64 h0), (.slice b1.a b1.n b1.c)].toArray w fun e w' => ∃ v, e = .returned v ∧ Q v w' :=
  calls_of (C := cy w.heap.size []) (fn := Try.f153) (c := (bodyOf Try.f153)) (by kernel_rfl) (by kernel_rfl) (Nat.le_refl _) (digest_bytes_snd _ h0 b1 Q w h)

/-! ### digest_Sum -/
def F_digest_Sum (N : Nat) (key0 : Int) (b1 : Sl) (Q : VP) (w : World) : Prop :=
  CallL PP N w [] n_digest_Mix [(.int .u64 14695981039346656037), (.int .i64 key0)] fun r2 w3 => ∃ n1 : Int, r2 = (.int .u64 n1) ∧ CallL PP N w3 [] n_digest_bytes [(.int .u64 n1), (.slice b1.a b1.n b1.c)] fun r5 w6 => ∃ n4 : Int, r5 = (.int .u64 n4) ∧ Reb N w6 [] (Q (.int .u64 n4))

theorem digest_Sum_snd (N : Nat) (key0 : Int) (b1 : Sl) (Q : VP) (w : World) (h : F_digest_Sum N key0 b1 Q w) : Snd (cy N []) (bodyOf Try.f130) (retD (cy N []) Try.f130 Q) (entry 9 [(.int .i64 key0), (.slice b1.a b1.n b1.c)]) w :=
  (dsm h)

theorem digest_Sum_calls (key0 : Int) (b1 : Sl) (Q : VP) (w : World) (h : F_digest_Sum w.heap.size key0 b1 Q w) : Calls PP n_digest_Sum [(.int .i64 key0), (.slice b1.a b1.n b1.c)].toArray w fun e w' => ∃ v, e = .returned v ∧ Q v w' :=
  calls_of (C := cy w.heap.size []) (fn := Try.f130) (c := (bodyOf Try.f130)) (by kernel_rfl) (by kernel_rfl) (Nat.le_refl _) (digest_Sum_snd _ key0 b1 Q w h)

/-! ### cellplaneref02_Mix -/
def F_cellplaneref02_Mix (N : Nat) (h0 : Int) (n1 : Int) (Q : VP) (w : World) : Prop :=
  (0 : Int) ≤ 29 ∧ Reb N w [] (Q (.int .u64 (IntKind.u64.wrap ((BitVec.ofInt (IntKind.u64).bits (IntKind.u64.wrap ((IntKind.u64.wrap ((BitVec.ofInt (IntKind.u64).bits h0 ^^^ BitVec.ofInt (IntKind.u64).bits (IntKind.u64.wrap n1)).toNat)) * 1099511628211)) ^^^ BitVec.ofInt (IntKind.u64).bits (Int.fdiv (IntKind.u64.wrap ((IntKind.u64.wrap ((BitVec.ofInt (IntKind.u64).bits h0 ^^^ BitVec.ofInt (IntKind.u64).bits (IntKind.u64.wrap n1)).toNat)) * 1099511628211)) (2 ^ (min (Int.toNat 29) (IntKind.u64).bits)))).toNat))))

theorem cellplaneref02_Mix_snd (N : Nat) (h0 : Int) (n1 : Int) (Q : VP) (w : World) (h : F_cellplaneref02_Mix N h0 n1 Q w) : Snd (cy N []) (bodyOf Try.f174) (retD (cy N []) Try.f174 Q) (entry 15 [(.int .u64 h0), (.int .i64 n1)]) w :=
  (dsm h)

theorem cellplaneref02_Mix_calls (h0 : Int) (n1 : Int) (Q : VP) (w : World) (h : F_cellplaneref02_Mix w.heap.size h0 n1 Q w) : Calls PP n_cellplaneref02_Mix [(.int .u64 h0), (.int .i64 n1)].toArray w fun e w' => ∃ v, e = .returned v ∧ Q v w' :=
  calls_of (C := cy w.heap.size []) (fn := Try.f174) (c := (bodyOf Try.f174)) (by kernel_rfl) (by kernel_rfl) (Nat.le_refl _) (cellplaneref02_Mix_snd _ h0 n1 Q w h)

/-! ### cellplaneref02_all -/
def C_cellplaneref02_all_2 (N : Nat) (Q : VP) (h0' : Int) (b1' : Sl) (w : World) : Prop :=
  CallL PP N w [] n_cellplaneref02_Mix [(.int .u64 h0'), (.int .i64 ((b1'.n : Nat) : Int))] fun r2 w3 => ∃ n1 : Int, r2 = (.int .u64 n1) ∧ Reb N w3 [] (Q (.int .u64 n1))

noncomputable def H_cellplaneref02_all_2 (N : Nat) (Q : VP) : St → World → Prop := HG N 23 [.v 0 (.i .u64), .v 1 .l] (C_cellplaneref02_all_2 N Q)

theorem T_cellplaneref02_all_2 (N : Nat) (Q : VP) (s : St) (w : World) (h : H_cellplaneref02_all_2 N Q s w) : Snd (cy N []) (cR (cR (bodyOf Try.f173))) (retD (cy N []) Try.f173 Q) s w :=
  Snd.HG h fun _ _ _ h => dsm h

noncomputable def z_cellplaneref02_all_0 (N : Nat) (Q : VP) : Cont := (thenD (H_cellplaneref02_all_2 N Q) (retD (cy N []) Try.f173 Q))

def D_cellplaneref02_all_4 (K : (Sl) → (Int × Int) → Prop) : List Value → List LB → Prop := fun vs ls => match vs, ls with
  | [.int .u64 h0', .slice b1'_a b1'_n b1'_c, .int .i64 i5'], [] => K ⟨b1'_a, b1'_n, b1'_c⟩ (h0', i5')
  | _, _ => False

def B_cellplaneref02_all_4 (N : Nat) (K1 : (Sl) → (Int × Int) → World → Prop) (Q : VP) (h0' : Int) (b1' : Sl) (i5' : Int) (w : World) : Prop :=
  IfB (decide ((i5' : Int) < ((b1'.n : Nat) : Int))) (IdxL b1'.a b1'.n i5' fun q4 => ∃ n5 : Int, At w (q4.add ((i5' : Int).toNat * 1)) [(.int .u8 n5)] ∧ NotIn ((q4.add ((i5' : Int).toNat * 1)) : Addr).block [] ∧ CallL PP N w [] n_cellplaneref02_Mix [(.int .u64 h0'), (.int .i64 (IntKind.i64.wrap n5))] fun r7 w8 => ∃ n6 : Int, r7 = (.int .u64 n6) ∧ Reb N w8 [] fun w9 => K1 b1' (n6, (IntKind.i64.wrap (i5' + 1))) w9) (Reb N w [] fun w10 => C_cellplaneref02_all_2 N Q h0' b1' w10)

theorem X_cellplaneref02_all_4 {N : Nat} {K1 : (Sl) → (Int × Int) → World → Prop} {Q : VP} {h0' : Int} {b1' : Sl} {i5' : Int} {w : World} (h : B_cellplaneref02_all_4 N K1 Q h0' b1' i5' w) : Snd (cy N []) (cL (cL (cR (cL (cR (bodyOf Try.f173)))))) (thenD (HeadK N 23 [.val 0, .val 1, .val 5] D_cellplaneref02_all_4 K1) (inBlockD 0 (z_cellplaneref02_all_0 N Q))) (mkS 23 [.val 0, .val 1, .val 5] [(.int .u64 h0'), (.slice b1'.a b1'.n b1'.c), (.int .i64 i5')] []) w :=
  (dsm h)

def L_cellplaneref02_all_4 (N : Nat) (Q : VP) (K1 : (Sl) → (Int × Int) → World → Prop) (c : Sl) (x : Int × Int) (w : World) : Prop := match c, x with
  | b1', (h0', i5') => B_cellplaneref02_all_4 N K1 Q h0' b1' i5' w

theorem T_cellplaneref02_all_4 (N : Nat) (Q : VP) {s : St} {w : World} (h : HeadE N 23 [.val 0, .val 1, .val 5] D_cellplaneref02_all_4 (L_cellplaneref02_all_4 N Q) s w) : Snd (cy N []) (cL (cR (cL (cR (bodyOf Try.f173))))) (inBlockD 0 (z_cellplaneref02_all_0 N Q)) s w := by
  refine Snd.cast (c' := .loop (cL (cL (cR (cL (cR (bodyOf Try.f173))))))) (by kernel_rfl) (Snd.loopC (fun (c : Sl) (x : Int × Int) => match c, x with | b1', (h0', i5') => ([(.int .u64 h0'), (.slice b1'.a b1'.n b1'.c), (.int .i64 i5')], [])) ?_ ?_ h)
  · intro K vs ls h
    unfold D_cellplaneref02_all_4 at h
    split at h
    · exact ⟨_, _, rfl, h⟩
    · exact h.elim
  · rintro K b1' ⟨h0', i5'⟩ w h
    exact X_cellplaneref02_all_4 h

def C_cellplaneref02_all_3 (N : Nat) (Q : VP) (h0' : Int) (b1' : Sl) (i5' : Int) (w : World) : Prop :=
  LoopC N w [] (b1' : Sl) ((h0', i5') : Int × Int) (L_cellplaneref02_all_4 N Q)

noncomputable def H_cellplaneref02_all_3 (N : Nat) (Q : VP) : St → World → Prop := HG N 23 [.v 0 (.i .u64), .v 1 .l, .v 5 (.i .i64)] (C_cellplaneref02_all_3 N Q)

theorem T_cellplaneref02_all_3 (N : Nat) (Q : VP) (s : St) (w : World) (h : H_cellplaneref02_all_3 N Q s w) : Snd (cy N []) (cR (cL (cR (bodyOf Try.f173)))) (z_cellplaneref02_all_0 N Q) s w :=
  Snd.HG h fun h0' b1' i5' w h => (bk 0 (T_cellplaneref02_all_4 N Q (mpr' (by kernel_rfl) h)))

def C_cellplaneref02_all_1 (N : Nat) (Q : VP) (h0' : Int) (b1' : Sl) (w : World) : Prop :=
  Reb N w [] fun w11 => C_cellplaneref02_all_3 N Q h0' b1' 0 w11

noncomputable def H_cellplaneref02_all_1 (N : Nat) (Q : VP) : St → World → Prop := HG N 23 [.v 0 (.i .u64), .v 1 .l] (C_cellplaneref02_all_1 N Q)

theorem T_cellplaneref02_all_1 (N : Nat) (Q : VP) (s : St) (w : World) (h : H_cellplaneref02_all_1 N Q s w) : Snd (cy N []) (cR (bodyOf Try.f173)) (retD (cy N []) Try.f173 Q) s w :=
  Snd.HG h fun h0' b1' w h => (sq (H_cellplaneref02_all_2 N Q) (sq (H_cellplaneref02_all_3 N Q) (dsm h) (T_cellplaneref02_all_3 N Q)) (T_cellplaneref02_all_2 N Q))

def F_cellplaneref02_all (N : Nat) (h0 : Int) (b1 : Sl) (Q : VP) (w : World) : Prop :=
  Reb N w [] fun w12 => C_cellplaneref02_all_1 N Q h0 b1 w12

theorem cellplaneref02_all_snd (N : Nat) (h0 : Int) (b1 : Sl) (Q : VP) (w : World) (h : F_cellplaneref02_all N h0 b1 Q w) : Snd (cy N []) (bodyOf Try.f173) (retD (cy N []) Try.f173 Q) (entry 23 [(.int .u64 h0), (.slice b1.a b1.n b1.c)]) w :=
  (sq (H_cellplaneref02_all_1 N Q) (dsm h) (T_cellplaneref02_all_1 N Q))

theorem cellplaneref02_all_calls (h0 : Int) (b1 : Sl) (Q : VP) (w : World) (h : F_cellplaneref02_all w.heap.size h0 b1 Q w) : Calls PP n_cellplaneref02_all [(.int .u64 h0), (.slice b1.a b1.n b1.c)].toArray w fun e w' => ∃ v, e = .returned v ∧ Q v w' :=
  calls_of (C := cy w.heap.size []) (fn := Try.f173) (c := (bodyOf Try.f173)) (by kernel_rfl) (by kernel_rfl) (Nat.le_refl _) (cellplaneref02_all_snd _ h0 b1 Q w h)

/-! ### cellplaneref02_Sum -/
def F_cellplaneref02_Sum (N : Nat) (key0 : Int) (b1 : Sl) (Q : VP) (w : World) : Prop :=
  CallL PP N w [] n_cellplaneref02_Mix [(.int .u64 14695981039346656037), (.int .i64 key0)] fun r2 w3 => ∃ n1 : Int, r2 = (.int .u64 n1) ∧ CallL PP N w3 [] n_cellplaneref02_all [(.int .u64 n1), (.slice b1.a b1.n b1.c)] fun r5 w6 => ∃ n4 : Int, r5 = (.int .u64 n4) ∧ Reb N w6 [] (Q (.int .u64 n4))

theorem cellplaneref02_Sum_snd (N : Nat) (key0 : Int) (b1 : Sl) (Q : VP) (w : World) (h : F_cellplaneref02_Sum N key0 b1 Q w) : Snd (cy N []) (bodyOf Try.f163) (retD (cy N []) Try.f163 Q) (entry 9 [(.int .i64 key0), (.slice b1.a b1.n b1.c)]) w :=
  (dsm h)

theorem cellplaneref02_Sum_calls (key0 : Int) (b1 : Sl) (Q : VP) (w : World) (h : F_cellplaneref02_Sum w.heap.size key0 b1 Q w) : Calls PP n_cellplaneref02_Sum [(.int .i64 key0), (.slice b1.a b1.n b1.c)].toArray w fun e w' => ∃ v, e = .returned v ∧ Q v w' :=
  calls_of (C := cy w.heap.size []) (fn := Try.f163) (c := (bodyOf Try.f163)) (by kernel_rfl) (by kernel_rfl) (Nat.le_refl _) (cellplaneref02_Sum_snd _ key0 b1 Q w h)

/-! ### cellplaneref02_Eight -/
def C_cellplaneref02_Eight_3 (N : Nat) (Q : VP) (out5' : Sl) (w : World) : Prop :=
  Reb N w [] (Q (.slice out5'.a out5'.n out5'.c))

noncomputable def H_cellplaneref02_Eight_3 (N : Nat) (Q : VP) : St → World → Prop := HG N 24 [.v 5 .l] (C_cellplaneref02_Eight_3 N Q)

theorem T_cellplaneref02_Eight_3 (N : Nat) (Q : VP) (s : St) (w : World) (h : H_cellplaneref02_Eight_3 N Q s w) : Snd (cy N []) (cR (cR (cR (bodyOf Try.f162)))) (retD (cy N []) Try.f162 Q) s w :=
  Snd.HG h fun _ _ h => dsm h

noncomputable def z_cellplaneref02_Eight_0 (N : Nat) (Q : VP) : Cont := (thenD (H_cellplaneref02_Eight_3 N Q) (retD (cy N []) Try.f162 Q))

def D_cellplaneref02_Eight_5 (K : (Int) → (Sl × Int) → Prop) : List Value → List LB → Prop := fun vs ls => match vs, ls with
  | [.int .u64 h1', .slice out5'_a out5'_n out5'_c, .int .i64 i6'], [] => K h1' (⟨out5'_a, out5'_n, out5'_c⟩, i6')
  | _, _ => False

noncomputable def k_cellplaneref02_Eight_1 : Code := (cL (cR (cL (cR (cR (bodyOf Try.f162))))))

def B_cellplaneref02_Eight_5 (N : Nat) (K1 : (Int) → (Sl × Int) → World → Prop) (Q : VP) (h1' : Int) (out5' : Sl) (i6' : Int) (w : World) : Prop :=
  IfB (decide ((i6' : Int) < 8)) ((0 : Int) ≤ (IntKind.u64.wrap (IntKind.i64.wrap (8 * i6'))) ∧ NewL N w [] [(.int .u8 (IntKind.u8.wrap (Int.fdiv h1' (2 ^ (min (Int.toNat (IntKind.u64.wrap (IntKind.i64.wrap (8 * i6')))) (IntKind.u64).bits)))))] t_u8 fun b1 w2 => RunL PP N w2 [] (Builtin.append_ #[t_sl_u8, t_sl_u8] t_sl_u8 #[(.slice out5'.a out5'.n out5'.c), (.slice (some ⟨b1, 0, none⟩) 1 1)]) fun r4 w5 => ∃ l3 : Sl, r4 = (.slice l3.a l3.n l3.c) ∧ Reb N w5 [] fun w6 => K1 h1' (l3, (IntKind.i64.wrap (i6' + 1))) w6) (Reb N w [] fun w7 => C_cellplaneref02_Eight_3 N Q out5' w7)

theorem X_cellplaneref02_Eight_5 {N : Nat} {K1 : (Int) → (Sl × Int) → World → Prop} {Q : VP} {h1' : Int} {out5' : Sl} {i6' : Int} {w : World} (h : B_cellplaneref02_Eight_5 N K1 Q h1' out5' i6' w) : Snd (cy N []) (cL k_cellplaneref02_Eight_1) (thenD (HeadK N 24 [.val 1, .val 5, .val 6] D_cellplaneref02_Eight_5 K1) (inBlockD 0 (z_cellplaneref02_Eight_0 N Q))) (mkS 24 [.val 1, .val 5, .val 6] [(.int .u64 h1'), (.slice out5'.a out5'.n out5'.c), (.int .i64 i6')] []) w :=
  (dsm h)

def L_cellplaneref02_Eight_5 (N : Nat) (Q : VP) (K1 : (Int) → (Sl × Int) → World → Prop) (c : Int) (x : Sl × Int) (w : World) : Prop := match c, x with
  | h1', (out5', i6') => B_cellplaneref02_Eight_5 N K1 Q h1' out5' i6' w

theorem T_cellplaneref02_Eight_5 (N : Nat) (Q : VP) {s : St} {w : World} (h : HeadE N 24 [.val 1, .val 5, .val 6] D_cellplaneref02_Eight_5 (L_cellplaneref02_Eight_5 N Q) s w) : Snd (cy N []) k_cellplaneref02_Eight_1 (inBlockD 0 (z_cellplaneref02_Eight_0 N Q)) s w := by
  refine Snd.cast (c' := .loop (cL k_cellplaneref02_Eight_1)) (by kernel_rfl) (Snd.loopC (fun (c : Int) (x : Sl × Int) => match c, x with | h1', (out5', i6') => ([(.int .u64 h1'), (.slice out5'.a out5'.n out5'.c), (.int .i64 i6')], [])) ?_ ?_ h)
  · intro K vs ls h
    unfold D_cellplaneref02_Eight_5 at h
    split at h
    · exact ⟨_, _, rfl, h⟩
    · exact h.elim
  · rintro K h1' ⟨out5', i6'⟩ w h
    exact X_cellplaneref02_Eight_5 h

def C_cellplaneref02_Eight_4 (N : Nat) (Q : VP) (h1' : Int) (out5' : Sl) (i6' : Int) (w : World) : Prop :=
  LoopC N w [] (h1' : Int) ((out5', i6') : Sl × Int) (L_cellplaneref02_Eight_5 N Q)

noncomputable def H_cellplaneref02_Eight_4 (N : Nat) (Q : VP) : St → World → Prop := HG N 24 [.v 1 (.i .u64), .v 5 .l, .v 6 (.i .i64)] (C_cellplaneref02_Eight_4 N Q)

theorem T_cellplaneref02_Eight_4 (N : Nat) (Q : VP) (s : St) (w : World) (h : H_cellplaneref02_Eight_4 N Q s w) : Snd (cy N []) (cR (cL (cR (cR (bodyOf Try.f162))))) (z_cellplaneref02_Eight_0 N Q) s w :=
  Snd.HG h fun h1' out5' i6' w h => (bk 0 (T_cellplaneref02_Eight_5 N Q (mpr' (by kernel_rfl) h)))

def C_cellplaneref02_Eight_2 (N : Nat) (Q : VP) (h1' : Int) (out5' : Sl) (w : World) : Prop :=
  Reb N w [] fun w8 => C_cellplaneref02_Eight_4 N Q h1' out5' 0 w8

noncomputable def H_cellplaneref02_Eight_2 (N : Nat) (Q : VP) : St → World → Prop := HG N 24 [.v 1 (.i .u64), .v 5 .l] (C_cellplaneref02_Eight_2 N Q)

theorem T_cellplaneref02_Eight_2 (N : Nat) (Q : VP) (s : St) (w : World) (h : H_cellplaneref02_Eight_2 N Q s w) : Snd (cy N []) (cR (cR (bodyOf Try.f162))) (retD (cy N []) Try.f162 Q) s w :=
  Snd.HG h fun h1' out5' w h => (sq (H_cellplaneref02_Eight_3 N Q) (sq (H_cellplaneref02_Eight_4 N Q) (dsm h) (T_cellplaneref02_Eight_4 N Q)) (T_cellplaneref02_Eight_3 N Q))

def C_cellplaneref02_Eight_1 (N : Nat) (Q : VP) (b0' : Sl) (h1' : Int) (w : World) : Prop :=
  NewL N w [] [] t_u8 fun b9 w10 => RunL PP N w10 [] (Builtin.append_ #[t_sl_u8, t_sl_u8] t_sl_u8 #[(.slice (some ⟨b9, 0, none⟩) 0 0), (.slice b0'.a b0'.n b0'.c)]) fun r12 w13 => ∃ l11 : Sl, r12 = (.slice l11.a l11.n l11.c) ∧ Reb N w13 [] fun w14 => C_cellplaneref02_Eight_2 N Q h1' l11 w14

noncomputable def H_cellplaneref02_Eight_1 (N : Nat) (Q : VP) : St → World → Prop := HG N 24 [.v 0 .l, .v 1 (.i .u64)] (C_cellplaneref02_Eight_1 N Q)

theorem T_cellplaneref02_Eight_1 (N : Nat) (Q : VP) (s : St) (w : World) (h : H_cellplaneref02_Eight_1 N Q s w) : Snd (cy N []) (cR (bodyOf Try.f162)) (retD (cy N []) Try.f162 Q) s w :=
  Snd.HG h fun b0' h1' w h => (sq (H_cellplaneref02_Eight_2 N Q) (dsm h) (T_cellplaneref02_Eight_2 N Q))

def F_cellplaneref02_Eight (N : Nat) (b0 : Sl) (h1 : Int) (Q : VP) (w : World) : Prop :=
  Reb N w [] fun w15 => C_cellplaneref02_Eight_1 N Q b0 h1 w15

theorem cellplaneref02_Eight_snd (N : Nat) (b0 : Sl) (h1 : Int) (Q : VP) (w : World) (h : F_cellplaneref02_Eight N b0 h1 Q w) : Snd (cy N []) (bodyOf Try.f162) (retD (cy N []) Try.f162 Q) (entry 24 [(.slice b0.a b0.n b0.c), (.int .u64 h1)]) w :=
  (sq (H_cellplaneref02_Eight_1 N Q) (dsm h) (T_cellplaneref02_Eight_1 N Q))

theorem cellplaneref02_Eight_calls (b0 : Sl) (h1 : Int) (Q : VP) (w : World) (h : F_cellplaneref02_Eight w.heap.size b0 h1 Q w) : Calls PP n_cellplaneref02_Eight [(.slice b0.a b0.n b0.c), (.int .u64 h1)].toArray w fun e w' => ∃ v, e = .returned v ∧ Q v w' :=
  calls_of (C := cy w.heap.size []) (fn := Try.f162) (c := (bodyOf Try.f162)) (by kernel_rfl) (by kernel_rfl) (Nat.le_refl _) (cellplaneref02_Eight_snd _ b0 h1 Q w h)

/-! ### cellplaneref02_Back -/
def C_cellplaneref02_Back_3 (N : Nat) (Q : VP) (h3' : Int) (w : World) : Prop :=
  Reb N w [] (Q (.int .u64 h3'))

noncomputable def H_cellplaneref02_Back_3 (N : Nat) (Q : VP) : St → World → Prop := HG N 27 [.v 3 (.i .u64)] (C_cellplaneref02_Back_3 N Q)

theorem T_cellplaneref02_Back_3 (N : Nat) (Q : VP) (s : St) (w : World) (h : H_cellplaneref02_Back_3 N Q s w) : Snd (cy N []) (cR (cR (cR (bodyOf Try.f172)))) (retD (cy N []) Try.f172 Q) s w :=
  Snd.HG h fun _ _ h => dsm h

noncomputable def z_cellplaneref02_Back_0 (N : Nat) (Q : VP) : Cont := (thenD (H_cellplaneref02_Back_3 N Q) (retD (cy N []) Try.f172 Q))

def D_cellplaneref02_Back_5 (K : (Sl) → (Int × Int) → Prop) : List Value → List LB → Prop := fun vs ls => match vs, ls with
  | [.slice b0'_a b0'_n b0'_c, .int .u64 h3', .int .i64 i4'], [] => K ⟨b0'_a, b0'_n, b0'_c⟩ (h3', i4')
  | _, _ => False

noncomputable def k_cellplaneref02_Back_1 : Code := (cL (cR (cL (cR (cR (bodyOf Try.f172))))))

def B_cellplaneref02_Back_5 (N : Nat) (K1 : (Sl) → (Int × Int) → World → Prop) (Q : VP) (b0' : Sl) (h3' i4' : Int) (w : World) : Prop :=
  IfB (decide ((i4' : Int) < 8)) (IfB (decide ((i4' : Int) < ((b0'.n : Nat) : Int))) (IdxL b0'.a b0'.n i4' fun q1 => ∃ n2 : Int, At w (q1.add ((i4' : Int).toNat * 1)) [(.int .u8 n2)] ∧ NotIn ((q1.add ((i4' : Int).toNat * 1)) : Addr).block [] ∧ (0 : Int) ≤ (IntKind.u64.wrap (IntKind.i64.wrap (8 * i4'))) ∧ Reb N w [] fun w3 => K1 b0' ((IntKind.u64.wrap ((BitVec.ofInt (IntKind.u64).bits h3' ||| BitVec.ofInt (IntKind.u64).bits (IntKind.u64.wrap ((IntKind.u64.wrap n2) * 2 ^ (min (Int.toNat (IntKind.u64.wrap (IntKind.i64.wrap (8 * i4')))) (IntKind.u64).bits)))).toNat)), (IntKind.i64.wrap (i4' + 1))) w3) (Reb N w [] fun w4 => C_cellplaneref02_Back_3 N Q h3' w4)) (Reb N w [] fun w5 => C_cellplaneref02_Back_3 N Q h3' w5)

theorem X_cellplaneref02_Back_5 {N : Nat} {K1 : (Sl) → (Int × Int) → World → Prop} {Q : VP} {b0' : Sl} {h3' i4' : Int} {w : World} (h : B_cellplaneref02_Back_5 N K1 Q b0' h3' i4' w) : Snd (cy N []) (cL k_cellplaneref02_Back_1) (thenD (HeadK N 27 [.val 0, .val 3, .val 4] D_cellplaneref02_Back_5 K1) (inBlockD 0 (z_cellplaneref02_Back_0 N Q))) (mkS 27 [.val 0, .val 3, .val 4] [(.slice b0'.a b0'.n b0'.c), (.int .u64 h3'), (.int .i64 i4')] []) w :=
  (dsm h)

def L_cellplaneref02_Back_5 (N : Nat) (Q : VP) (K1 : (Sl) → (Int × Int) → World → Prop) (c : Sl) (x : Int × Int) (w : World) : Prop := match c, x with
  | b0', (h3', i4') => B_cellplaneref02_Back_5 N K1 Q b0' h3' i4' w

theorem T_cellplaneref02_Back_5 (N : Nat) (Q : VP) {s : St} {w : World} (h : HeadE N 27 [.val 0, .val 3, .val 4] D_cellplaneref02_Back_5 (L_cellplaneref02_Back_5 N Q) s w) : Snd (cy N []) k_cellplaneref02_Back_1 (inBlockD 0 (z_cellplaneref02_Back_0 N Q)) s w := by
  refine Snd.cast (c' := .loop (cL k_cellplaneref02_Back_1)) (by kernel_rfl) (Snd.loopC (fun (c : Sl) (x : Int × Int) => match c, x with | b0', (h3', i4') => ([(.slice b0'.a b0'.n b0'.c), (.int .u64 h3'), (.int .i64 i4')], [])) ?_ ?_ h)
  · intro K vs ls h
    unfold D_cellplaneref02_Back_5 at h
    split at h
    · exact ⟨_, _, rfl, h⟩
    · exact h.elim
  · rintro K b0' ⟨h3', i4'⟩ w h
    exact X_cellplaneref02_Back_5 h

def C_cellplaneref02_Back_4 (N : Nat) (Q : VP) (b0' : Sl) (h3' i4' : Int) (w : World) : Prop :=
  LoopC N w [] (b0' : Sl) ((h3', i4') : Int × Int) (L_cellplaneref02_Back_5 N Q)

noncomputable def H_cellplaneref02_Back_4 (N : Nat) (Q : VP) : St → World → Prop := HG N 27 [.v 0 .l, .v 3 (.i .u64), .v 4 (.i .i64)] (C_cellplaneref02_Back_4 N Q)

theorem T_cellplaneref02_Back_4 (N : Nat) (Q : VP) (s : St) (w : World) (h : H_cellplaneref02_Back_4 N Q s w) : Snd (cy N []) (cR (cL (cR (cR (bodyOf Try.f172))))) (z_cellplaneref02_Back_0 N Q) s w :=
  Snd.HG h fun b0' h3' i4' w h => (bk 0 (T_cellplaneref02_Back_5 N Q (mpr' (by kernel_rfl) h)))

def C_cellplaneref02_Back_2 (N : Nat) (Q : VP) (b0' : Sl) (h3' : Int) (w : World) : Prop :=
  Reb N w [] fun w6 => C_cellplaneref02_Back_4 N Q b0' h3' 0 w6

noncomputable def H_cellplaneref02_Back_2 (N : Nat) (Q : VP) : St → World → Prop := HG N 27 [.v 0 .l, .v 3 (.i .u64)] (C_cellplaneref02_Back_2 N Q)

theorem T_cellplaneref02_Back_2 (N : Nat) (Q : VP) (s : St) (w : World) (h : H_cellplaneref02_Back_2 N Q s w) : Snd (cy N []) (cR (cR (bodyOf Try.f172))) (retD (cy N []) Try.f172 Q) s w :=
  Snd.HG h fun b0' h3' w h => (sq (H_cellplaneref02_Back_3 N Q) (sq (H_cellplaneref02_Back_4 N Q) (dsm h) (T_cellplaneref02_Back_4 N Q)) (T_cellplaneref02_Back_3 N Q))

def C_cellplaneref02_Back_1 (N : Nat) (Q : VP) (b0' : Sl) (w : World) : Prop :=
  Reb N w [] fun w7 => C_cellplaneref02_Back_2 N Q b0' 0 w7

noncomputable def H_cellplaneref02_Back_1 (N : Nat) (Q : VP) : St → World → Prop := HG N 27 [.v 0 .l] (C_cellplaneref02_Back_1 N Q)

theorem T_cellplaneref02_Back_1 (N : Nat) (Q : VP) (s : St) (w : World) (h : H_cellplaneref02_Back_1 N Q s w) : Snd (cy N []) (cR (bodyOf Try.f172)) (retD (cy N []) Try.f172 Q) s w :=
  Snd.HG h fun b0' w h => (sq (H_cellplaneref02_Back_2 N Q) (dsm h) (T_cellplaneref02_Back_2 N Q))

def F_cellplaneref02_Back (N : Nat) (b0 : Sl) (Q : VP) (w : World) : Prop :=
  Reb N w [] fun w8 => C_cellplaneref02_Back_1 N Q b0 w8

theorem cellplaneref02_Back_snd (N : Nat) (b0 : Sl) (Q : VP) (w : World) (h : F_cellplaneref02_Back N b0 Q w) : Snd (cy N []) (bodyOf Try.f172) (retD (cy N []) Try.f172 Q) (entry 27 [(.slice b0.a b0.n b0.c)]) w :=
  (sq (H_cellplaneref02_Back_1 N Q) (dsm h) (T_cellplaneref02_Back_1 N Q))

theorem cellplaneref02_Back_calls (b0 : Sl) (Q : VP) (w : World) (h : F_cellplaneref02_Back w.heap.size b0 Q w) : Calls PP n_cellplaneref02_Back [(.slice b0.a b0.n b0.c)].toArray w fun e w' => ∃ v, e = .returned v ∧ Q v w' :=
  calls_of (C := cy w.heap.size []) (fn := Try.f172) (c := (bodyOf Try.f172)) (by kernel_rfl) (by kernel_rfl) (Nat.le_refl _) (cellplaneref02_Back_snd _ b0 Q w h)

/-! ### frame_Put -/
noncomputable def k_frame_Put_0 : Code := (cR (cR (cR (cR (cR (bodyOf Try.f134))))))

def C_frame_Put_5 (N : Nat) (Q : VP) (p2' out7' : Sl) (w : World) : Prop :=
  RunL PP N w [] (Builtin.append_ #[t_sl_u8, t_sl_u8] t_sl_u8 #[(.slice out7'.a out7'.n out7'.c), (.slice p2'.a p2'.n p2'.c)]) fun r2 w3 => ∃ l1 : Sl, r2 = (.slice l1.a l1.n l1.c) ∧ Reb N w3 [] (Q (.slice l1.a l1.n l1.c))

noncomputable def H_frame_Put_5 (N : Nat) (Q : VP) : St → World → Prop := HG N 37 [.v 2 .l, .v 7 .l] (C_frame_Put_5 N Q)

theorem T_frame_Put_5 (N : Nat) (Q : VP) (s : St) (w : World) (h : H_frame_Put_5 N Q s w) : Snd (cy N []) k_frame_Put_0 (retD (cy N []) Try.f134 Q) s w :=
  Snd.HG h fun _ _ _ h => dsm h

noncomputable def k_frame_Put_1 : Code := (cR (cL (cR (cR (cR (cR (bodyOf Try.f134)))))))

def D_frame_Put_7 (K : (Sl × Int) → (Sl × Int) → Prop) : List Value → List LB → Prop := fun vs ls => match vs, ls with
  | [.slice p2'_a p2'_n p2'_c, .slice out7'_a out7'_n out7'_c, .int .u64 n8', .int .i64 v22'], [] => K (⟨p2'_a, p2'_n, p2'_c⟩, n8') (⟨out7'_a, out7'_n, out7'_c⟩, v22')
  | _, _ => False

noncomputable def z_frame_Put_2 (N : Nat) (Q : VP) : Cont := (inBlockD 0 (thenD (H_frame_Put_5 N Q) (retD (cy N []) Try.f134 Q)))

def B_frame_Put_7 (N : Nat) (K1 : (Sl × Int) → (Sl × Int) → World → Prop) (Q : VP) (p2' out7' : Sl) (n8' v22' : Int) (w : World) : Prop :=
  IfB (decide ((v22' : Int) < 8)) ((0 : Int) ≤ (IntKind.i64.wrap (8 * v22')) ∧ NewL N w [] [(.int .u8 (IntKind.u8.wrap (Int.fdiv n8' (2 ^ (min (Int.toNat (IntKind.i64.wrap (8 * v22'))) (IntKind.u64).bits)))))] t_u8 fun b4 w5 => RunL PP N w5 [] (Builtin.append_ #[t_sl_u8, t_sl_u8] t_sl_u8 #[(.slice out7'.a out7'.n out7'.c), (.slice (some ⟨b4, 0, none⟩) 1 1)]) fun r7 w8 => ∃ l6 : Sl, r7 = (.slice l6.a l6.n l6.c) ∧ Reb N w8 [] fun w9 => K1 (p2', n8') (l6, (IntKind.i64.wrap (v22' + 1))) w9) (Reb N w [] fun w10 => C_frame_Put_5 N Q p2' out7' w10)

theorem X_frame_Put_7 {N : Nat} {K1 : (Sl × Int) → (Sl × Int) → World → Prop} {Q : VP} {p2' out7' : Sl} {n8' v22' : Int} {w : World} (h : B_frame_Put_7 N K1 Q p2' out7' n8' v22' w) : Snd (cy N []) (cL (cL k_frame_Put_1)) (thenD (HeadK N 37 [.val 2, .val 7, .val 8, .val 22] D_frame_Put_7 K1) (z_frame_Put_2 N Q)) (mkS 37 [.val 2, .val 7, .val 8, .val 22] [(.slice p2'.a p2'.n p2'.c), (.slice out7'.a out7'.n out7'.c), (.int .u64 n8'), (.int .i64 v22')] []) w :=
  (dsm h)

def L_frame_Put_7 (N : Nat) (Q : VP) (K1 : (Sl × Int) → (Sl × Int) → World → Prop) (c : Sl × Int) (x : Sl × Int) (w : World) : Prop := match c, x with
  | (p2', n8'), (out7', v22') => B_frame_Put_7 N K1 Q p2' out7' n8' v22' w

theorem T_frame_Put_7 (N : Nat) (Q : VP) {s : St} {w : World} (h : HeadE N 37 [.val 2, .val 7, .val 8, .val 22] D_frame_Put_7 (L_frame_Put_7 N Q) s w) : Snd (cy N []) (cL k_frame_Put_1) (z_frame_Put_2 N Q) s w := by
  refine Snd.cast (c' := .loop (cL (cL k_frame_Put_1))) (by kernel_rfl) (Snd.loopC (fun (c : Sl × Int) (x : Sl × Int) => match c, x with | (p2', n8'), (out7', v22') => ([(.slice p2'.a p2'.n p2'.c), (.slice out7'.a out7'.n out7'.c), (.int .u64 n8'), (.int .i64 v22')], [])) ?_ ?_ h)
  · intro K vs ls h
    unfold D_frame_Put_7 at h
    split at h
    · exact ⟨_, _, rfl, h⟩
    · exact h.elim
  · rintro K ⟨p2', n8'⟩ ⟨out7', v22'⟩ w h
    exact X_frame_Put_7 h

def C_frame_Put_6 (N : Nat) (Q : VP) (p2' out7' : Sl) (n8' v22' : Int) (w : World) : Prop :=
  LoopC N w [] ((p2', n8') : Sl × Int) ((out7', v22') : Sl × Int) (L_frame_Put_7 N Q)

noncomputable def H_frame_Put_6 (N : Nat) (Q : VP) : St → World → Prop := HG N 37 [.v 2 .l, .v 7 .l, .v 8 (.i .u64), .v 22 (.i .i64)] (C_frame_Put_6 N Q)

theorem T_frame_Put_6 (N : Nat) (Q : VP) (s : St) (w : World) (h : H_frame_Put_6 N Q s w) : Snd (cy N []) k_frame_Put_1 (thenD (H_frame_Put_5 N Q) (retD (cy N []) Try.f134 Q)) s w :=
  Snd.HG h fun p2' out7' n8' v22' w h => (bk 0 (T_frame_Put_7 N Q (mpr' (by kernel_rfl) h)))

def C_frame_Put_4 (N : Nat) (Q : VP) (p2' out7' : Sl) (n8' : Int) (w : World) : Prop :=
  Reb N w [] fun w11 => C_frame_Put_6 N Q p2' out7' n8' 0 w11

noncomputable def H_frame_Put_4 (N : Nat) (Q : VP) : St → World → Prop := HG N 37 [.v 2 .l, .v 7 .l, .v 8 (.i .u64)] (C_frame_Put_4 N Q)

theorem T_frame_Put_4 (N : Nat) (Q : VP) (s : St) (w : World) (h : H_frame_Put_4 N Q s w) : Snd (cy N []) (cR (cR (cR (cR (bodyOf Try.f134))))) (retD (cy N []) Try.f134 Q) s w :=
  Snd.HG h fun p2' out7' n8' w h => (sq (H_frame_Put_5 N Q) (sq (H_frame_Put_6 N Q) (dsm h) (T_frame_Put_6 N Q)) (T_frame_Put_5 N Q))

def C_frame_Put_3 (N : Nat) (Q : VP) (key1' : Int) (p2' out7' : Sl) (w : World) : Prop :=
  CallL PP N w [] n_digest_Sum [(.int .i64 key1'), (.slice p2'.a p2'.n p2'.c)] fun r13 w14 => ∃ n12 : Int, r13 = (.int .u64 n12) ∧ Reb N w14 [] fun w15 => C_frame_Put_4 N Q p2' out7' n12 w15

noncomputable def H_frame_Put_3 (N : Nat) (Q : VP) : St → World → Prop := HG N 37 [.v 1 (.i .i64), .v 2 .l, .v 7 .l] (C_frame_Put_3 N Q)

theorem T_frame_Put_3 (N : Nat) (Q : VP) (s : St) (w : World) (h : H_frame_Put_3 N Q s w) : Snd (cy N []) (cR (cR (cR (bodyOf Try.f134)))) (retD (cy N []) Try.f134 Q) s w :=
  Snd.HG h fun key1' p2' out7' w h => (sq (H_frame_Put_4 N Q) (dsm h) (T_frame_Put_4 N Q))

def C_frame_Put_2 (N : Nat) (Q : VP) (b0' : Sl) (key1' : Int) (p2' : Sl) (w : World) : Prop :=
  CallL PP N w [] n_wire_Int [(.slice b0'.a b0'.n b0'.c), (.int .i64 ((p2'.n : Nat) : Int))] fun r17 w18 => ∃ l16 : Sl, r17 = (.slice l16.a l16.n l16.c) ∧ Reb N w18 [] fun w19 => C_frame_Put_3 N Q key1' p2' l16 w19

noncomputable def H_frame_Put_2 (N : Nat) (Q : VP) : St → World → Prop := HG N 37 [.v 0 .l, .v 1 (.i .i64), .v 2 .l] (C_frame_Put_2 N Q)

theorem T_frame_Put_2 (N : Nat) (Q : VP) (s : St) (w : World) (h : H_frame_Put_2 N Q s w) : Snd (cy N []) (cR (cR (bodyOf Try.f134))) (retD (cy N []) Try.f134 Q) s w :=
  Snd.HG h fun b0' key1' p2' w h => (sq (H_frame_Put_3 N Q) (dsm h) (T_frame_Put_3 N Q))

def C_frame_Put_1 (N : Nat) (Q : VP) (b0' : Sl) (key1' : Int) (p2' : Sl) (w : World) : Prop :=
  IfB (decide ((65536 : Int) < ((p2'.n : Nat) : Int))) (RunL PP N w [] (Builtin.append_ #[t_sl_u8, t_sl_u8] t_sl_u8 #[(.slice none 0 0), (.slice b0'.a b0'.n b0'.c)]) fun r21 w22 => ∃ l20 : Sl, r21 = (.slice l20.a l20.n l20.c) ∧ Reb N w22 [] (Q (.slice l20.a l20.n l20.c))) (Reb N w [] fun w23 => C_frame_Put_2 N Q b0' key1' p2' w23)

noncomputable def H_frame_Put_1 (N : Nat) (Q : VP) : St → World → Prop := HG N 37 [.v 0 .l, .v 1 (.i .i64), .v 2 .l] (C_frame_Put_1 N Q)

theorem T_frame_Put_1 (N : Nat) (Q : VP) (s : St) (w : World) (h : H_frame_Put_1 N Q s w) : Snd (cy N []) (cR (bodyOf Try.f134)) (retD (cy N []) Try.f134 Q) s w :=
  Snd.HG h fun b0' key1' p2' w h => (sq (H_frame_Put_2 N Q) (dsm h) (T_frame_Put_2 N Q))

def F_frame_Put (N : Nat) (b0 : Sl) (key1 : Int) (p2 : Sl) (Q : VP) (w : World) : Prop :=
  Reb N w [] fun w24 => C_frame_Put_1 N Q b0 key1 p2 w24

theorem frame_Put_snd (N : Nat) (b0 : Sl) (key1 : Int) (p2 : Sl) (Q : VP) (w : World) (h : F_frame_Put N b0 key1 p2 Q w) : Snd (cy N []) (bodyOf Try.f134) (retD (cy N []) Try.f134 Q) (entry 37 [(.slice b0.a b0.n b0.c), (.int .i64 key1), (.slice p2.a p2.n p2.c)]) w :=
  (sq (H_frame_Put_1 N Q) (dsm h) (T_frame_Put_1 N Q))

theorem frame_Put_calls (b0 : Sl) (key1 : Int) (p2 : Sl) (Q : VP) (w : World) (h : F_frame_Put w.heap.size b0 key1 p2 Q w) : Calls PP n_frame_Put [(.slice b0.a b0.n b0.c), (.int .i64 key1), (.slice p2.a p2.n p2.c)].toArray w fun e w' => ∃ v, e = .returned v ∧ Q v w' :=
  calls_of (C := cy w.heap.size []) (fn := Try.f134) (c := (bodyOf Try.f134)) (by kernel_rfl) (by kernel_rfl) (Nat.le_refl _) (frame_Put_snd _ b0 key1 p2 Q w h)

/-! ### frame_Take -/
def F_frame_Take (N : Nat) (b0 : Sl) (key1 : Int) (Q : VP) (w : World) : Prop :=
  CallL PP N w [] n_wire_TakeInt [(.slice b0.a b0.n b0.c)] fun r4 w5 => ∃ n1 : Int, ∃ n2 : Int, ∃ n3 : Int, r4 = (.tuple #[(.int .i64 n1), (.int .i64 n2), (.int .i64 n3)]) ∧ IfB (!decide ((n3 : Int) = 0)) (Reb N w5 [] (Q (.tuple #[(.slice none 0 0), (.int .i64 0), (.int .i64 n3)]))) (IfB (decide ((n1 : Int) < 0)) (Reb N w5 [] (Q (.tuple #[(.slice none 0 0), (.int .i64 0), (.int .i64 18)]))) (IfB (decide ((65536 : Int) < n1)) (Reb N w5 [] (Q (.tuple #[(.slice none 0 0), (.int .i64 0), (.int .i64 2)]))) (IfB (decide (((IntKind.i64.wrap (((b0.n : Nat) : Int) - n2)) : Int) < (IntKind.i64.wrap (8 + n1)))) (Reb N w5 [] (Q (.tuple #[(.slice none 0 0), (.int .i64 0), (.int .i64 17)]))) ((0 : Int) ≤ (IntKind.i64.wrap (n2 + 8)) ∧ ((IntKind.i64.wrap (n2 + 8)) : Int) ≤ (IntKind.i64.wrap ((IntKind.i64.wrap (n2 + 8)) + n1)) ∧ ((IntKind.i64.wrap ((IntKind.i64.wrap (n2 + 8)) + n1)) : Int) ≤ (b0.c : Nat) ∧ (0 : Int) ≤ n2 ∧ (n2 : Int) ≤ (b0.n : Nat) ∧ CallL PP N w5 [] n_frame_number [(.slice (slA b0.a b0.c (n2 : Int).toNat 1) (b0.n - (n2 : Int).toNat) (b0.c - (n2 : Int).toNat))] fun r7 w8 => ∃ n6 : Int, r7 = (.int .u64 n6) ∧ CallL PP N w8 [] n_digest_Sum [(.int .i64 key1), (.slice (slA b0.a b0.c ((IntKind.i64.wrap (n2 + 8)) : Int).toNat 1) (Int.toNat (IntKind.i64.wrap ((IntKind.i64.wrap (n2 + 8)) + n1)) - Int.toNat (IntKind.i64.wrap (n2 + 8))) (b0.c - Int.toNat (IntKind.i64.wrap (n2 + 8))))] fun r10 w11 => ∃ n9 : Int, r10 = (.int .u64 n9) ∧ IfB (!decide ((n6 : Int) = n9)) (Reb N w11 [] (Q (.tuple #[(.slice none 0 0), (.int .i64 0), (.int .i64 18)]))) (RunL PP N w11 [] (Builtin.append_ #[t_sl_u8, t_sl_u8] t_sl_u8 #[(.slice none 0 0), (.slice (slA b0.a b0.c ((IntKind.i64.wrap (n2 + 8)) : Int).toNat 1) (Int.toNat (IntKind.i64.wrap ((IntKind.i64.wrap (n2 + 8)) + n1)) - Int.toNat (IntKind.i64.wrap (n2 + 8))) (b0.c - Int.toNat (IntKind.i64.wrap (n2 + 8))))]) fun r13 w14 => ∃ l12 : Sl, r13 = (.slice l12.a l12.n l12.c) ∧ Reb N w14 [] (Q (.tuple #[(.slice l12.a l12.n l12.c), (.int .i64 (IntKind.i64.wrap ((IntKind.i64.wrap (n2 + 8)) + n1))), (.int .i64 0)])))))))

theorem frame_Take_snd (N : Nat) (b0 : Sl) (key1 : Int) (Q : VP) (w : World) (h : F_frame_Take N b0 key1 Q w) : Snd (cy N []) (bodyOf Try.f76) (retD (cy N []) Try.f76 Q) (entry 56 [(.slice b0.a b0.n b0.c), (.int .i64 key1)]) w :=
  (dsm h)

theorem frame_Take_calls (b0 : Sl) (key1 : Int) (Q : VP) (w : World) (h : F_frame_Take w.heap.size b0 key1 Q w) : Calls PP n_frame_Take [(.slice b0.a b0.n b0.c), (.int .i64 key1)].toArray w fun e w' => ∃ v, e = .returned v ∧ Q v w' :=
  calls_of (C := cy w.heap.size []) (fn := Try.f76) (c := (bodyOf Try.f76)) (by kernel_rfl) (by kernel_rfl) (Nat.le_refl _) (frame_Take_snd _ b0 key1 Q w h)

/-! ### frame_number -/
def C_frame_number_3 (N : Nat) (Q : VP) (n3' : Int) (w : World) : Prop :=
  Reb N w [] (Q (.int .u64 n3'))

noncomputable def H_frame_number_3 (N : Nat) (Q : VP) : St → World → Prop := HG N 23 [.v 3 (.i .u64)] (C_frame_number_3 N Q)

theorem T_frame_number_3 (N : Nat) (Q : VP) (s : St) (w : World) (h : H_frame_number_3 N Q s w) : Snd (cy N []) (cR (cR (cR (bodyOf Try.f129)))) (retD (cy N []) Try.f129 Q) s w :=
  Snd.HG h fun _ _ h => dsm h

def D_frame_number_5 (K : (Sl × Int) → (Int × Int) → Prop) : List Value → List LB → Prop := fun vs ls => match vs, ls with
  | [.int .u64 n3', .slice v7'_a v7'_n v7'_c, .int .i64 v8', .int .i64 v9'], [] => K (⟨v7'_a, v7'_n, v7'_c⟩, v8') (n3', v9')
  | _, _ => False

noncomputable def z_frame_number_0 (N : Nat) (Q : VP) : Cont := (inBlockD 0 (thenD (H_frame_number_3 N Q) (retD (cy N []) Try.f129 Q)))

noncomputable def k_frame_number_1 : Code := (cL (cR (cL (cR (cR (bodyOf Try.f129))))))

def B_frame_number_5 (N : Nat) (K1 : (Sl × Int) → (Int × Int) → World → Prop) (Q : VP) (n3' : Int) (v7' : Sl) (v8' v9' : Int) (w : World) : Prop :=
  IfB (decide ((v9' : Int) < v8')) (IdxL v7'.a v7'.n v9' fun q1 => ∃ n2 : Int, At w (q1.add ((v9' : Int).toNat * 1)) [(.int .u8 n2)] ∧ NotIn ((q1.add ((v9' : Int).toNat * 1)) : Addr).block [] ∧ (0 : Int) ≤ (IntKind.i64.wrap (8 * v9')) ∧ Reb N w [] fun w3 => K1 (v7', v8') ((IntKind.u64.wrap ((BitVec.ofInt (IntKind.u64).bits n3' ||| BitVec.ofInt (IntKind.u64).bits (IntKind.u64.wrap ((IntKind.u64.wrap n2) * 2 ^ (min (Int.toNat (IntKind.i64.wrap (8 * v9'))) (IntKind.u64).bits)))).toNat)), (IntKind.i64.wrap (v9' + 1))) w3) (Reb N w [] fun w4 => C_frame_number_3 N Q n3' w4)

theorem X_frame_number_5 {N : Nat} {K1 : (Sl × Int) → (Int × Int) → World → Prop} {Q : VP} {n3' : Int} {v7' : Sl} {v8' v9' : Int} {w : World} (h : B_frame_number_5 N K1 Q n3' v7' v8' v9' w) : Snd (cy N []) (cL k_frame_number_1) (thenD (HeadK N 23 [.val 3, .val 7, .val 8, .val 9] D_frame_number_5 K1) (z_frame_number_0 N Q)) (mkS 23 [.val 3, .val 7, .val 8, .val 9] [(.int .u64 n3'), (.slice v7'.a v7'.n v7'.c), (.int .i64 v8'), (.int .i64 v9')] []) w :=
  (dsm h)

def L_frame_number_5 (N : Nat) (Q : VP) (K1 : (Sl × Int) → (Int × Int) → World → Prop) (c : Sl × Int) (x : Int × Int) (w : World) : Prop := match c, x with
  | (v7', v8'), (n3', v9') => B_frame_number_5 N K1 Q n3' v7' v8' v9' w

theorem T_frame_number_5 (N : Nat) (Q : VP) {s : St} {w : World} (h : HeadE N 23 [.val 3, .val 7, .val 8, .val 9] D_frame_number_5 (L_frame_number_5 N Q) s w) : Snd (cy N []) k_frame_number_1 (z_frame_number_0 N Q) s w := by
  refine Snd.cast (c' := .loop (cL k_frame_number_1)) (by kernel_rfl) (Snd.loopC (fun (c : Sl × Int) (x : Int × Int) => match c, x with | (v7', v8'), (n3', v9') => ([(.int .u64 n3'), (.slice v7'.a v7'.n v7'.c), (.int .i64 v8'), (.int .i64 v9')], [])) ?_ ?_ h)
  · intro K vs ls h
    unfold D_frame_number_5 at h
    split at h
    · exact ⟨_, _, rfl, h⟩
    · exact h.elim
  · rintro K ⟨v7', v8'⟩ ⟨n3', v9'⟩ w h
    exact X_frame_number_5 h

def C_frame_number_4 (N : Nat) (Q : VP) (n3' : Int) (v7' : Sl) (v8' v9' : Int) (w : World) : Prop :=
  LoopC N w [] ((v7', v8') : Sl × Int) ((n3', v9') : Int × Int) (L_frame_number_5 N Q)

noncomputable def H_frame_number_4 (N : Nat) (Q : VP) : St → World → Prop := HG N 23 [.v 3 (.i .u64), .v 7 .l, .v 8 (.i .i64), .v 9 (.i .i64)] (C_frame_number_4 N Q)

theorem T_frame_number_4 (N : Nat) (Q : VP) (s : St) (w : World) (h : H_frame_number_4 N Q s w) : Snd (cy N []) (cR (cL (cR (cR (bodyOf Try.f129))))) (thenD (H_frame_number_3 N Q) (retD (cy N []) Try.f129 Q)) s w :=
  Snd.HG h fun n3' v7' v8' v9' w h => (bk 0 (T_frame_number_5 N Q (mpr' (by kernel_rfl) h)))

def C_frame_number_2 (N : Nat) (Q : VP) (b0' : Sl) (n3' : Int) (w : World) : Prop :=
  (0 : Int) ≤ 8 ∧ (8 : Int) ≤ (b0'.c : Nat) ∧ Reb N w [] fun w5 => C_frame_number_4 N Q n3' (⟨b0'.a, (Int.toNat 8), b0'.c⟩ : Sl) (((Int.toNat 8) : Nat) : Int) 0 w5

noncomputable def H_frame_number_2 (N : Nat) (Q : VP) : St → World → Prop := HG N 23 [.v 0 .l, .v 3 (.i .u64)] (C_frame_number_2 N Q)

theorem T_frame_number_2 (N : Nat) (Q : VP) (s : St) (w : World) (h : H_frame_number_2 N Q s w) : Snd (cy N []) (cR (cR (bodyOf Try.f129))) (retD (cy N []) Try.f129 Q) s w :=
  Snd.HG h fun b0' n3' w h => (sq (H_frame_number_3 N Q) (sq (H_frame_number_4 N Q) (dsm h) (T_frame_number_4 N Q)) (T_frame_number_3 N Q))

def C_frame_number_1 (N : Nat) (Q : VP) (b0' : Sl) (w : World) : Prop :=
  Reb N w [] fun w6 => C_frame_number_2 N Q b0' 0 w6

noncomputable def H_frame_number_1 (N : Nat) (Q : VP) : St → World → Prop := HG N 23 [.v 0 .l] (C_frame_number_1 N Q)

theorem T_frame_number_1 (N : Nat) (Q : VP) (s : St) (w : World) (h : H_frame_number_1 N Q s w) : Snd (cy N []) (cR (bodyOf Try.f129)) (retD (cy N []) Try.f129 Q) s w :=
  Snd.HG h fun b0' w h => (sq (H_frame_number_2 N Q) (dsm h) (T_frame_number_2 N Q))

def F_frame_number (N : Nat) (b0 : Sl) (Q : VP) (w : World) : Prop :=
  Reb N w [] fun w7 => C_frame_number_1 N Q b0 w7

theorem frame_number_snd (N : Nat) (b0 : Sl) (Q : VP) (w : World) (h : F_frame_number N b0 Q w) : Snd (cy N []) (bodyOf Try.f129) (retD (cy N []) Try.f129 Q) (entry 23 [(.slice b0.a b0.n b0.c)]) w :=
  (sq (H_frame_number_1 N Q) (dsm h) (T_frame_number_1 N Q))

theorem frame_number_calls (b0 : Sl) (Q : VP) (w : World) (h : F_frame_number w.heap.size b0 Q w) : Calls PP n_frame_number [(.slice b0.a b0.n b0.c)].toArray w fun e w' => ∃ v, e = .returned v ∧ Q v w' :=
  calls_of (C := cy w.heap.size []) (fn := Try.f129) (c := (bodyOf Try.f129)) (by kernel_rfl) (by kernel_rfl) (Nat.le_refl _) (frame_number_snd _ b0 Q w h)

/-! ### cellplaneref03_Put -/
def F_cellplaneref03_Put (N : Nat) (b0 : Sl) (key1 : Int) (p2 : Sl) (Q : VP) (w : World) : Prop :=
  IfB (decide ((65536 : Int) < ((p2.n : Nat) : Int))) (NewL N w [] [] t_u8 fun b1 w2 => RunL PP N w2 [] (Builtin.append_ #[t_sl_u8, t_sl_u8] t_sl_u8 #[(.slice (some ⟨b1, 0, none⟩) 0 0), (.slice b0.a b0.n b0.c)]) fun r4 w5 => ∃ l3 : Sl, r4 = (.slice l3.a l3.n l3.c) ∧ Reb N w5 [] (Q (.slice l3.a l3.n l3.c))) (CallL PP N w [] n_cellplaneref01_Int [(.slice b0.a b0.n b0.c), (.int .i64 ((p2.n : Nat) : Int))] fun r7 w8 => ∃ l6 : Sl, r7 = (.slice l6.a l6.n l6.c) ∧ CallL PP N w8 [] n_cellplaneref02_Sum [(.int .i64 key1), (.slice p2.a p2.n p2.c)] fun r10 w11 => ∃ n9 : Int, r10 = (.int .u64 n9) ∧ CallL PP N w11 [] n_cellplaneref02_Eight [(.slice l6.a l6.n l6.c), (.int .u64 n9)] fun r13 w14 => ∃ l12 : Sl, r13 = (.slice l12.a l12.n l12.c) ∧ RunL PP N w14 [] (Builtin.append_ #[t_sl_u8, t_sl_u8] t_sl_u8 #[(.slice l12.a l12.n l12.c), (.slice p2.a p2.n p2.c)]) fun r16 w17 => ∃ l15 : Sl, r16 = (.slice l15.a l15.n l15.c) ∧ Reb N w17 [] (Q (.slice l15.a l15.n l15.c)))

theorem cellplaneref03_Put_snd (N : Nat) (b0 : Sl) (key1 : Int) (p2 : Sl) (Q : VP) (w : World) (h : F_cellplaneref03_Put N b0 key1 p2 Q w) : Snd (cy N []) (bodyOf Try.f143) (retD (cy N []) Try.f143 Q) (entry 23 [(.slice b0.a b0.n b0.c), (.int .i64 key1), (.slice p2.a p2.n p2.c)]) w :=
  (dsm h)

theorem cellplaneref03_Put_calls (b0 : Sl) (key1 : Int) (p2 : Sl) (Q : VP) (w : World) (h : F_cellplaneref03_Put w.heap.size b0 key1 p2 Q w) : Calls PP n_cellplaneref03_Put [(.slice b0.a b0.n b0.c), (.int .i64 key1), (.slice p2.a p2.n p2.c)].toArray w fun e w' => ∃ v, e = .returned v ∧ Q v w' :=
  calls_of (C := cy w.heap.size []) (fn := Try.f143) (c := (bodyOf Try.f143)) (by kernel_rfl) (by kernel_rfl) (Nat.le_refl _) (cellplaneref03_Put_snd _ b0 key1 p2 Q w h)

/-! ### cellplaneref03_Take -/
def F_cellplaneref03_Take (N : Nat) (b0 : Sl) (key1 : Int) (Q : VP) (w : World) : Prop :=
  CallL PP N w [] n_cellplaneref01_TakeInt [(.slice b0.a b0.n b0.c)] fun r4 w5 => ∃ n1 : Int, ∃ n2 : Int, ∃ n3 : Int, r4 = (.tuple #[(.int .i64 n1), (.int .i64 n2), (.int .i64 n3)]) ∧ IfB (!decide ((n3 : Int) = 0)) (Reb N w5 [] (Q (.tuple #[(.slice none 0 0), (.int .i64 0), (.int .i64 n3)]))) (IfB (decide ((n1 : Int) < 0)) (Reb N w5 [] (Q (.tuple #[(.slice none 0 0), (.int .i64 0), (.int .i64 18)]))) (IfB (decide ((65536 : Int) < n1)) (Reb N w5 [] (Q (.tuple #[(.slice none 0 0), (.int .i64 0), (.int .i64 2)]))) (IfB (decide (((IntKind.i64.wrap (((b0.n : Nat) : Int) - n2)) : Int) < (IntKind.i64.wrap (n1 + 8)))) (Reb N w5 [] (Q (.tuple #[(.slice none 0 0), (.int .i64 0), (.int .i64 17)]))) (NewL N w5 [] [] t_u8 fun b6 w7 => (0 : Int) ≤ (IntKind.i64.wrap (n2 + 8)) ∧ ((IntKind.i64.wrap (n2 + 8)) : Int) ≤ (IntKind.i64.wrap ((IntKind.i64.wrap (n2 + 8)) + n1)) ∧ ((IntKind.i64.wrap ((IntKind.i64.wrap (n2 + 8)) + n1)) : Int) ≤ (b0.c : Nat) ∧ RunL PP N w7 [] (Builtin.append_ #[t_sl_u8, t_sl_u8] t_sl_u8 #[(.slice (some ⟨b6, 0, none⟩) 0 0), (.slice (slA b0.a b0.c ((IntKind.i64.wrap (n2 + 8)) : Int).toNat 1) (Int.toNat (IntKind.i64.wrap ((IntKind.i64.wrap (n2 + 8)) + n1)) - Int.toNat (IntKind.i64.wrap (n2 + 8))) (b0.c - Int.toNat (IntKind.i64.wrap (n2 + 8))))]) fun r9 w10 => ∃ l8 : Sl, r9 = (.slice l8.a l8.n l8.c) ∧ (0 : Int) ≤ n2 ∧ (n2 : Int) ≤ (IntKind.i64.wrap (n2 + 8)) ∧ ((IntKind.i64.wrap (n2 + 8)) : Int) ≤ (b0.c : Nat) ∧ CallL PP N w10 [] n_cellplaneref02_Sum [(.int .i64 key1), (.slice l8.a l8.n l8.c)] fun r12 w13 => ∃ n11 : Int, r12 = (.int .u64 n11) ∧ CallL PP N w13 [] n_cellplaneref02_Back [(.slice (slA b0.a b0.c (n2 : Int).toNat 1) (Int.toNat (IntKind.i64.wrap (n2 + 8)) - Int.toNat n2) (b0.c - Int.toNat n2))] fun r15 w16 => ∃ n14 : Int, r15 = (.int .u64 n14) ∧ IfB (!decide ((n11 : Int) = n14)) (Reb N w16 [] (Q (.tuple #[(.slice none 0 0), (.int .i64 0), (.int .i64 18)]))) (Reb N w16 [] (Q (.tuple #[(.slice l8.a l8.n l8.c), (.int .i64 (IntKind.i64.wrap ((IntKind.i64.wrap (n2 + 8)) + n1))), (.int .i64 0)])))))))

theorem cellplaneref03_Take_snd (N : Nat) (b0 : Sl) (key1 : Int) (Q : VP) (w : World) (h : F_cellplaneref03_Take N b0 key1 Q w) : Snd (cy N []) (bodyOf Try.f159) (retD (cy N []) Try.f159 Q) (entry 60 [(.slice b0.a b0.n b0.c), (.int .i64 key1)]) w :=
  (dsm h)

theorem cellplaneref03_Take_calls (b0 : Sl) (key1 : Int) (Q : VP) (w : World) (h : F_cellplaneref03_Take w.heap.size b0 key1 Q w) : Calls PP n_cellplaneref03_Take [(.slice b0.a b0.n b0.c), (.int .i64 key1)].toArray w fun e w' => ∃ v, e = .returned v ∧ Q v w' :=
  calls_of (C := cy w.heap.size []) (fn := Try.f159) (c := (bodyOf Try.f159)) (by kernel_rfl) (by kernel_rfl) (Nat.le_refl _) (cellplaneref03_Take_snd _ b0 key1 Q w h)

/-! ### cellplaneref03_All -/
def C_cellplaneref03_All_4 (N : Nat) (Q : VP) (out6' : Sl) (at7' : Int) (w : World) : Prop :=
  Reb N w [] (Q (.tuple #[(.slice out6'.a out6'.n out6'.c), (.int .i64 at7')]))

noncomputable def H_cellplaneref03_All_4 (N : Nat) (Q : VP) : St → World → Prop := HG N 35 [.v 6 .l, .v 7 (.i .i64)] (C_cellplaneref03_All_4 N Q)

theorem T_cellplaneref03_All_4 (N : Nat) (Q : VP) (s : St) (w : World) (h : H_cellplaneref03_All_4 N Q s w) : Snd (cy N []) (cR (cR (cR (cR (bodyOf Try.f141))))) (retD (cy N []) Try.f141 Q) s w :=
  Snd.HG h fun _ _ _ h => dsm h

def D_cellplaneref03_All_5 (K : (Sl × Int) → (Sl × Int) → Prop) : List Value → List LB → Prop := fun vs ls => match vs, ls with
  | [.slice b0'_a b0'_n b0'_c, .int .i64 key1', .slice out6'_a out6'_n out6'_c, .int .i64 at7'], [] => K (⟨b0'_a, b0'_n, b0'_c⟩, key1') (⟨out6'_a, out6'_n, out6'_c⟩, at7')
  | _, _ => False

noncomputable def z_cellplaneref03_All_0 (N : Nat) (Q : VP) : Cont := (inBlockD 0 (thenD (H_cellplaneref03_All_4 N Q) (retD (cy N []) Try.f141 Q)))

noncomputable def k_cellplaneref03_All_1 : Code := (cL (cL (cR (cR (cR (bodyOf Try.f141))))))

def B_cellplaneref03_All_5 (N : Nat) (K1 : (Sl × Int) → (Sl × Int) → World → Prop) (Q : VP) (b0' : Sl) (key1' : Int) (out6' : Sl) (at7' : Int) (w : World) : Prop :=
  IfB (decide ((at7' : Int) < ((b0'.n : Nat) : Int))) ((0 : Int) ≤ at7' ∧ (at7' : Int) ≤ (b0'.n : Nat) ∧ CallL PP N w [] n_cellplaneref03_Take [(.slice (slA b0'.a b0'.c (at7' : Int).toNat 1) (b0'.n - (at7' : Int).toNat) (b0'.c - (at7' : Int).toNat)), (.int .i64 key1')] fun r4 w5 => ∃ l1 : Sl, ∃ n2 : Int, ∃ n3 : Int, r4 = (.tuple #[(.slice l1.a l1.n l1.c), (.int .i64 n2), (.int .i64 n3)]) ∧ IfB (!decide ((n3 : Int) = 0)) (Reb N w5 [] fun w6 => C_cellplaneref03_All_4 N Q out6' at7' w6) (NewL N w5 [] [(.slice l1.a l1.n l1.c)] t_sl_u8 fun b7 w8 => RunL PP N w8 [] (Builtin.append_ #[t_sl_sl_u8, t_sl_sl_u8] t_sl_sl_u8 #[(.slice out6'.a out6'.n out6'.c), (.slice (some ⟨b7, 0, none⟩) 1 1)]) fun r10 w11 => ∃ l9 : Sl, r10 = (.slice l9.a l9.n l9.c) ∧ Reb N w11 [] fun w12 => K1 (b0', key1') (l9, (IntKind.i64.wrap (at7' + n2))) w12)) (Reb N w [] fun w13 => C_cellplaneref03_All_4 N Q out6' at7' w13)

theorem X_cellplaneref03_All_5 {N : Nat} {K1 : (Sl × Int) → (Sl × Int) → World → Prop} {Q : VP} {b0' : Sl} {key1' : Int} {out6' : Sl} {at7' : Int} {w : World} (h : B_cellplaneref03_All_5 N K1 Q b0' key1' out6' at7' w) : Snd (cy N []) (cL k_cellplaneref03_All_1) (thenD (HeadK N 35 [.val 0, .val 1, .val 6, .val 7] D_cellplaneref03_All_5 K1) (z_cellplaneref03_All_0 N Q)) (mkS 35 [.val 0, .val 1, .val 6, .val 7] [(.slice b0'.a b0'.n b0'.c), (.int .i64 key1'), (.slice out6'.a out6'.n out6'.c), (.int .i64 at7')] []) w :=
  (dsm h)

def L_cellplaneref03_All_5 (N : Nat) (Q : VP) (K1 : (Sl × Int) → (Sl × Int) → World → Prop) (c : Sl × Int) (x : Sl × Int) (w : World) : Prop := match c, x with
  | (b0', key1'), (out6', at7') => B_cellplaneref03_All_5 N K1 Q b0' key1' out6' at7' w

theorem T_cellplaneref03_All_5 (N : Nat) (Q : VP) {s : St} {w : World} (h : HeadE N 35 [.val 0, .val 1, .val 6, .val 7] D_cellplaneref03_All_5 (L_cellplaneref03_All_5 N Q) s w) : Snd (cy N []) k_cellplaneref03_All_1 (z_cellplaneref03_All_0 N Q) s w := by
  refine Snd.cast (c' := .loop (cL k_cellplaneref03_All_1)) (by kernel_rfl) (Snd.loopC (fun (c : Sl × Int) (x : Sl × Int) => match c, x with | (b0', key1'), (out6', at7') => ([(.slice b0'.a b0'.n b0'.c), (.int .i64 key1'), (.slice out6'.a out6'.n out6'.c), (.int .i64 at7')], [])) ?_ ?_ h)
  · intro K vs ls h
    unfold D_cellplaneref03_All_5 at h
    split at h
    · exact ⟨_, _, rfl, h⟩
    · exact h.elim
  · rintro K ⟨b0', key1'⟩ ⟨out6', at7'⟩ w h
    exact X_cellplaneref03_All_5 h

def C_cellplaneref03_All_3 (N : Nat) (Q : VP) (b0' : Sl) (key1' : Int) (out6' : Sl) (at7' : Int) (w : World) : Prop :=
  LoopC N w [] ((b0', key1') : Sl × Int) ((out6', at7') : Sl × Int) (L_cellplaneref03_All_5 N Q)

noncomputable def H_cellplaneref03_All_3 (N : Nat) (Q : VP) : St → World → Prop := HG N 35 [.v 0 .l, .v 1 (.i .i64), .v 6 .l, .v 7 (.i .i64)] (C_cellplaneref03_All_3 N Q)

theorem T_cellplaneref03_All_3 (N : Nat) (Q : VP) (s : St) (w : World) (h : H_cellplaneref03_All_3 N Q s w) : Snd (cy N []) (cR (cR (cR (bodyOf Try.f141)))) (retD (cy N []) Try.f141 Q) s w :=
  Snd.HG h fun b0' key1' out6' at7' w h => (sq (H_cellplaneref03_All_4 N Q) (bk 0 (T_cellplaneref03_All_5 N Q (mpr' (by kernel_rfl) h))) (T_cellplaneref03_All_4 N Q))

def C_cellplaneref03_All_2 (N : Nat) (Q : VP) (b0' : Sl) (key1' : Int) (out6' : Sl) (w : World) : Prop :=
  Reb N w [] fun w14 => C_cellplaneref03_All_3 N Q b0' key1' out6' 0 w14

noncomputable def H_cellplaneref03_All_2 (N : Nat) (Q : VP) : St → World → Prop := HG N 35 [.v 0 .l, .v 1 (.i .i64), .v 6 .l] (C_cellplaneref03_All_2 N Q)

theorem T_cellplaneref03_All_2 (N : Nat) (Q : VP) (s : St) (w : World) (h : H_cellplaneref03_All_2 N Q s w) : Snd (cy N []) (cR (cR (bodyOf Try.f141))) (retD (cy N []) Try.f141 Q) s w :=
  Snd.HG h fun b0' key1' out6' w h => (sq (H_cellplaneref03_All_3 N Q) (dsm h) (T_cellplaneref03_All_3 N Q))

def C_cellplaneref03_All_1 (N : Nat) (Q : VP) (b0' : Sl) (key1' : Int) (w : World) : Prop :=
  Reb N w [] fun w15 => C_cellplaneref03_All_2 N Q b0' key1' (⟨none, 0, 0⟩ : Sl) w15

noncomputable def H_cellplaneref03_All_1 (N : Nat) (Q : VP) : St → World → Prop := HG N 35 [.v 0 .l, .v 1 (.i .i64)] (C_cellplaneref03_All_1 N Q)

theorem T_cellplaneref03_All_1 (N : Nat) (Q : VP) (s : St) (w : World) (h : H_cellplaneref03_All_1 N Q s w) : Snd (cy N []) (cR (bodyOf Try.f141)) (retD (cy N []) Try.f141 Q) s w :=
  Snd.HG h fun b0' key1' w h => (sq (H_cellplaneref03_All_2 N Q) (dsm h) (T_cellplaneref03_All_2 N Q))

def F_cellplaneref03_All (N : Nat) (b0 : Sl) (key1 : Int) (Q : VP) (w : World) : Prop :=
  Reb N w [] fun w16 => C_cellplaneref03_All_1 N Q b0 key1 w16

theorem cellplaneref03_All_snd (N : Nat) (b0 : Sl) (key1 : Int) (Q : VP) (w : World) (h : F_cellplaneref03_All N b0 key1 Q w) : Snd (cy N []) (bodyOf Try.f141) (retD (cy N []) Try.f141 Q) (entry 35 [(.slice b0.a b0.n b0.c), (.int .i64 key1)]) w :=
  (sq (H_cellplaneref03_All_1 N Q) (dsm h) (T_cellplaneref03_All_1 N Q))

theorem cellplaneref03_All_calls (b0 : Sl) (key1 : Int) (Q : VP) (w : World) (h : F_cellplaneref03_All w.heap.size b0 key1 Q w) : Calls PP n_cellplaneref03_All [(.slice b0.a b0.n b0.c), (.int .i64 key1)].toArray w fun e w' => ∃ v, e = .returned v ∧ Q v w' :=
  calls_of (C := cy w.heap.size []) (fn := Try.f141) (c := (bodyOf Try.f141)) (by kernel_rfl) (by kernel_rfl) (Nat.le_refl _) (cellplaneref03_All_snd _ b0 key1 Q w h)

/-! ### disk_New -/
def F_disk_New (N : Nat)  (Q : VP) (w : World) : Prop :=
  NewL N w [] (⟨(⟨none, 0, 0⟩ : Sl), 0⟩ : G_disk_Disk).cells t_disk_Disk fun b1 w2 => Reb N w2 [] (Q (.pointer (some ⟨b1, 0, none⟩)))

theorem disk_New_snd (N : Nat)  (Q : VP) (w : World) (h : F_disk_New N  Q w) : Snd (cy N []) (bodyOf Try.f79) (retD (cy N []) Try.f79 Q) (entry 3 []) w :=
  (dsm h)

theorem disk_New_calls  (Q : VP) (w : World) (h : F_disk_New w.heap.size  Q w) : Calls PP n_disk_New [].toArray w fun e w' => ∃ v, e = .returned v ∧ Q v w' :=
  calls_of (C := cy w.heap.size []) (fn := Try.f79) (c := (bodyOf Try.f79)) (by kernel_rfl) (by kernel_rfl) (Nat.le_refl _) (disk_New_snd _  Q w h)

/-! ### disk_Disk_Append -/
def F_disk_Disk_Append (N : Nat) (d0 : Option Addr) (b1 : Sl) (Q : VP) (w : World) : Prop :=
  NilL d0 fun q1 => ∃ l2 : Sl, At w q1 [(.slice l2.a l2.n l2.c)] ∧ NotIn (q1 : Addr).block [] ∧ RunL PP N w [] (Builtin.append_ #[t_sl_u8, t_sl_u8] t_sl_u8 #[(.slice l2.a l2.n l2.c), (.slice b1.a b1.n b1.c)]) fun r4 w5 => ∃ l3 : Sl, r4 = (.slice l3.a l3.n l3.c) ∧ NilL d0 fun q6 => StL w5 [] q6 [(.slice l3.a l3.n l3.c)] fun w7 => Reb N w7 [] (Q (.tuple #[]))

theorem disk_Disk_Append_snd (N : Nat) (d0 : Option Addr) (b1 : Sl) (Q : VP) (w : World) (h : F_disk_Disk_Append N d0 b1 Q w) : Snd (cy N []) (bodyOf Try.f95) (retD (cy N []) Try.f95 Q) (entry 13 [(.pointer d0), (.slice b1.a b1.n b1.c)]) w :=
  (dsm h)

theorem disk_Disk_Append_calls (d0 : Option Addr) (b1 : Sl) (Q : VP) (w : World) (h : F_disk_Disk_Append w.heap.size d0 b1 Q w) : Calls PP n_disk_Disk_Append [(.pointer d0), (.slice b1.a b1.n b1.c)].toArray w fun e w' => ∃ v, e = .returned v ∧ Q v w' :=
  calls_of (C := cy w.heap.size []) (fn := Try.f95) (c := (bodyOf Try.f95)) (by kernel_rfl) (by kernel_rfl) (Nat.le_refl _) (disk_Disk_Append_snd _ d0 b1 Q w h)

/-! ### disk_Disk_Sync -/
def F_disk_Disk_Sync (N : Nat) (d0 : Option Addr) (Q : VP) (w : World) : Prop :=
  NilL d0 fun q1 => ∃ l2 : Sl, At w q1 [(.slice l2.a l2.n l2.c)] ∧ NotIn (q1 : Addr).block [] ∧ NilL d0 fun q3 => StL w [] (addA q3 1) [(.int .i64 ((l2.n : Nat) : Int))] fun w4 => Reb N w4 [] (Q (.tuple #[]))

theorem disk_Disk_Sync_snd (N : Nat) (d0 : Option Addr) (Q : VP) (w : World) (h : F_disk_Disk_Sync N d0 Q w) : Snd (cy N []) (bodyOf Try.f32) (retD (cy N []) Try.f32 Q) (entry 10 [(.pointer d0)]) w :=
  (dsm h)

theorem disk_Disk_Sync_calls (d0 : Option Addr) (Q : VP) (w : World) (h : F_disk_Disk_Sync w.heap.size d0 Q w) : Calls PP n_disk_Disk_Sync [(.pointer d0)].toArray w fun e w' => ∃ v, e = .returned v ∧ Q v w' :=
  calls_of (C := cy w.heap.size []) (fn := Try.f32) (c := (bodyOf Try.f32)) (by kernel_rfl) (by kernel_rfl) (Nat.le_refl _) (disk_Disk_Sync_snd _ d0 Q w h)

/-! ### disk_Disk_Truncate -/
def F_disk_Disk_Truncate (N : Nat) (d0 : Option Addr) (n1 : Int) (Q : VP) (w : World) : Prop :=
  IfB (decide ((n1 : Int) < 0)) (Reb N w [] (Q (.int .i64 1))) (NilL d0 fun q1 => ∃ l2 : Sl, At w q1 [(.slice l2.a l2.n l2.c)] ∧ NotIn (q1 : Addr).block [] ∧ IfB (decide ((((l2.n : Nat) : Int) : Int) < n1)) (Reb N w [] (Q (.int .i64 1))) (NilL d0 fun q3 => ∃ l4 : Sl, At w q3 [(.slice l4.a l4.n l4.c)] ∧ NotIn (q3 : Addr).block [] ∧ (0 : Int) ≤ n1 ∧ (n1 : Int) ≤ (l4.c : Nat) ∧ NilL d0 fun q5 => StL w [] q5 [(.slice l4.a (Int.toNat n1) l4.c)] fun w6 => NilL d0 fun q7 => ∃ n8 : Int, At w6 (addA q7 1) [(.int .i64 n8)] ∧ NotIn ((addA q7 1) : Addr).block [] ∧ NilL d0 fun q9 => StL w6 [] (addA q9 1) [(.int .i64 (if n1 < n8 then n1 else n8))] fun w10 => Reb N w10 [] (Q (.int .i64 0))))

theorem disk_Disk_Truncate_snd (N : Nat) (d0 : Option Addr) (n1 : Int) (Q : VP) (w : World) (h : F_disk_Disk_Truncate N d0 n1 Q w) : Snd (cy N []) (bodyOf Try.f78) (retD (cy N []) Try.f78 Q) (entry 34 [(.pointer d0), (.int .i64 n1)]) w :=
  (dsm h)

theorem disk_Disk_Truncate_calls (d0 : Option Addr) (n1 : Int) (Q : VP) (w : World) (h : F_disk_Disk_Truncate w.heap.size d0 n1 Q w) : Calls PP n_disk_Disk_Truncate [(.pointer d0), (.int .i64 n1)].toArray w fun e w' => ∃ v, e = .returned v ∧ Q v w' :=
  calls_of (C := cy w.heap.size []) (fn := Try.f78) (c := (bodyOf Try.f78)) (by kernel_rfl) (by kernel_rfl) (Nat.le_refl _) (disk_Disk_Truncate_snd _ d0 n1 Q w h)
end Go.Sh
