/- What these functions do, told by computation: a formula for each, and that its calls do what the formula says.
   Conditions: none. -/
import Derived.Test.YtoenaheehpjmiaaBase
namespace Go.Sh
open Go Go.Proofs
set_option linter.unusedVariables false
set_option maxRecDepth 100000

/-! ### wire_TakeInt -/
def C_wire_TakeInt_3 (N : Nat) (Q : VP) (b0' : Sl) (w : World) : Prop :=
  IfB (decide ((10 : Int) ≤ ((b0'.n : Nat) : Int))) (Reb N w [] (Q (.tuple #[(.int .i64 0), (.int .i64 0), (.int .i64 18)]))) (Reb N w [] (Q (.tuple #[(.int .i64 0), (.int .i64 0), (.int .i64 17)])))

noncomputable def H_wire_TakeInt_3 (N : Nat) (Q : VP) : St → World → Prop := HG N 63 [.v 0 .l] (C_wire_TakeInt_3 N Q)

theorem T_wire_TakeInt_3 (N : Nat) (Q : VP) (s : St) (w : World) (h : H_wire_TakeInt_3 N Q s w) : Snd (cy N []) (cR (cR (cR (bodyOf Try.f128)))) (retD (cy N []) Try.f128 Q) s w :=
  Snd.HG h fun _ _ h => dsm h

def D_wire_TakeInt_5 (K : (Sl × Sl × Int) → (Int × Int) → Prop) : List Value → List LB → Prop := fun vs ls => match vs, ls with
  | [.slice b0'_a b0'_n b0'_c, .int .u64 code5', .slice v8'_a v8'_n v8'_c, .int .i64 v9', .int .i64 v10'], [] => K (⟨b0'_a, b0'_n, b0'_c⟩, ⟨v8'_a, v8'_n, v8'_c⟩, v9') (code5', v10')
  | _, _ => False

noncomputable def z_wire_TakeInt_0 (N : Nat) (Q : VP) : Cont := (inBlockD 0 (thenD (H_wire_TakeInt_3 N Q) (retD (cy N []) Try.f128 Q)))

noncomputable def k_wire_TakeInt_1 : Code := (cL (cR (cL (cR (cR (bodyOf Try.f128))))))

noncomputable def z_wire_TakeInt_2 (N : Nat) (K1 : (Sl × Sl × Int) → (Int × Int) → World → Prop) (Q : VP) : Cont := (thenD (HeadK N 63 [.val 0, .val 5, .val 8, .val 9, .val 10] D_wire_TakeInt_5 K1) (z_wire_TakeInt_0 N Q))

def C_wire_TakeInt_8 (N : Nat) (K1 : (Sl × Sl × Int) → (Int × Int) → World → Prop) (Q : VP) (b0' : Sl) (code5' : Int) (v8' : Sl) (v9' v10' : Int) (w : World) : Prop :=
  Reb N w [] fun w1 => K1 (b0', v8', v9') (code5', (IntKind.i64.wrap (v10' + 1))) w1

noncomputable def H_wire_TakeInt_8 (N : Nat) (K1 : (Sl × Sl × Int) → (Int × Int) → World → Prop) (Q : VP) : St → World → Prop := HG N 63 [.v 0 .l, .v 5 (.i .u64), .v 8 .l, .v 9 (.i .i64), .v 10 (.i .i64)] (C_wire_TakeInt_8 N K1 Q)

theorem T_wire_TakeInt_8 (N : Nat) (K1 : (Sl × Sl × Int) → (Int × Int) → World → Prop) (Q : VP) (s : St) (w : World) (h : H_wire_TakeInt_8 N K1 Q s w) : Snd (cy N []) (cR (cR (cR (cL k_wire_TakeInt_1)))) (z_wire_TakeInt_2 N K1 Q) s w :=
  Snd.HG h fun _ _ _ _ _ _ h => dsm h

noncomputable def k_wire_TakeInt_3 : Code := (cR (cL (cL (cR (cR (cL k_wire_TakeInt_1))))))

noncomputable def z_wire_TakeInt_4 (N : Nat) (K1 : (Sl × Sl × Int) → (Int × Int) → World → Prop) (Q : VP) : Cont := (inBlockD 1 (thenD (H_wire_TakeInt_8 N K1 Q) (z_wire_TakeInt_2 N K1 Q)))

def C_wire_TakeInt_10 (N : Nat) (K1 : (Sl × Sl × Int) → (Int × Int) → World → Prop) (Q : VP) (code5' k6' c7' : Int) (w : World) : Prop :=
  (0 : Int) ≤ (IntKind.i64.wrap (7 * k6')) ∧ (0 : Int) ≤ 1 ∧ Reb N w [] (Q (.tuple #[(.int .i64 (IntKind.i64.wrap ((BitVec.ofInt (IntKind.i64).bits (IntKind.i64.wrap (Int.fdiv (IntKind.u64.wrap ((BitVec.ofInt (IntKind.u64).bits code5' ||| BitVec.ofInt (IntKind.u64).bits (IntKind.u64.wrap ((IntKind.u64.wrap c7') * 2 ^ (min (Int.toNat (IntKind.i64.wrap (7 * k6'))) (IntKind.u64).bits)))).toNat)) (2 ^ (min (Int.toNat 1) (IntKind.u64).bits)))) ^^^ BitVec.ofInt (IntKind.i64).bits (IntKind.i64.wrap (0 - (IntKind.i64.wrap (IntKind.u64.wrap ((BitVec.ofInt (IntKind.u64).bits (IntKind.u64.wrap ((BitVec.ofInt (IntKind.u64).bits code5' ||| BitVec.ofInt (IntKind.u64).bits (IntKind.u64.wrap ((IntKind.u64.wrap c7') * 2 ^ (min (Int.toNat (IntKind.i64.wrap (7 * k6'))) (IntKind.u64).bits)))).toNat)) &&& BitVec.ofInt (IntKind.u64).bits 1).toNat)))))).toNat))), (.int .i64 (IntKind.i64.wrap (k6' + 1))), (.int .i64 0)]))

noncomputable def H_wire_TakeInt_10 (N : Nat) (K1 : (Sl × Sl × Int) → (Int × Int) → World → Prop) (Q : VP) : St → World → Prop := HG N 63 [.v 5 (.i .u64), .v 6 (.i .i64), .v 7 (.i .u8)] (C_wire_TakeInt_10 N K1 Q)

theorem T_wire_TakeInt_10 (N : Nat) (K1 : (Sl × Sl × Int) → (Int × Int) → World → Prop) (Q : VP) (s : St) (w : World) (h : H_wire_TakeInt_10 N K1 Q s w) : Snd (cy N []) (cR k_wire_TakeInt_3) (z_wire_TakeInt_4 N K1 Q) s w :=
  Snd.HG h fun _ _ _ _ h => dsm h

noncomputable def z_wire_TakeInt_5 (N : Nat) (K1 : (Sl × Sl × Int) → (Int × Int) → World → Prop) (Q : VP) : Cont := (inBlockD 2 (thenD (H_wire_TakeInt_10 N K1 Q) (z_wire_TakeInt_4 N K1 Q)))

noncomputable def k_wire_TakeInt_6 : Code := (cR (cR (cR (cL (cL k_wire_TakeInt_3)))))

def C_wire_TakeInt_13 (N : Nat) (K1 : (Sl × Sl × Int) → (Int × Int) → World → Prop) (Q : VP) (code5' k6' c7' : Int) (v29' : Bool) (w : World) : Prop :=
  IfB v29' (Reb N w [] (Q (.tuple #[(.int .i64 0), (.int .i64 0), (.int .i64 18)]))) (Reb N w [] fun w3 => C_wire_TakeInt_10 N K1 Q code5' k6' c7' w3)

noncomputable def H_wire_TakeInt_13 (N : Nat) (K1 : (Sl × Sl × Int) → (Int × Int) → World → Prop) (Q : VP) : St → World → Prop := HG N 63 [.v 5 (.i .u64), .v 6 (.i .i64), .v 7 (.i .u8), .v 29 .b] (C_wire_TakeInt_13 N K1 Q)

theorem T_wire_TakeInt_13 (N : Nat) (K1 : (Sl × Sl × Int) → (Int × Int) → World → Prop) (Q : VP) (s : St) (w : World) (h : H_wire_TakeInt_13 N K1 Q s w) : Snd (cy N []) (cR (cR k_wire_TakeInt_6)) (z_wire_TakeInt_5 N K1 Q) s w :=
  Snd.HG h fun _ _ _ _ _ h => dsm h

def C_wire_TakeInt_14 (N : Nat) (K1 : (Sl × Sl × Int) → (Int × Int) → World → Prop) (Q : VP) (code5' k6' c7' : Int) (v29' : Bool) (w : World) : Prop :=
  IfB v29' (Reb N w [] fun w4 => C_wire_TakeInt_13 N K1 Q code5' k6' c7' v29' w4) (IfB (decide ((k6' : Int) = 9)) (Reb N w [] fun w5 => C_wire_TakeInt_13 N K1 Q code5' k6' c7' (decide ((1 : Int) < c7')) w5) (Reb N w [] fun w6 => C_wire_TakeInt_13 N K1 Q code5' k6' c7' false w6))

noncomputable def H_wire_TakeInt_14 (N : Nat) (K1 : (Sl × Sl × Int) → (Int × Int) → World → Prop) (Q : VP) : St → World → Prop := HG N 63 [.v 5 (.i .u64), .v 6 (.i .i64), .v 7 (.i .u8), .v 29 .b] (C_wire_TakeInt_14 N K1 Q)

theorem T_wire_TakeInt_14 (N : Nat) (K1 : (Sl × Sl × Int) → (Int × Int) → World → Prop) (Q : VP) (s : St) (w : World) (h : H_wire_TakeInt_14 N K1 Q s w) : Snd (cy N []) (cR (cL (cR k_wire_TakeInt_6))) (thenD (H_wire_TakeInt_13 N K1 Q) (z_wire_TakeInt_5 N K1 Q)) s w :=
  Snd.HG h fun _ _ _ _ _ h => dsm h

def C_wire_TakeInt_12 (N : Nat) (K1 : (Sl × Sl × Int) → (Int × Int) → World → Prop) (Q : VP) (b0' : Sl) (code5' k6' c7' : Int) (v8' : Sl) (v9' v10' : Int) (v18' : Bool) (w : World) : Prop :=
  IfB v18' ((0 : Int) ≤ (IntKind.i64.wrap (7 * k6')) ∧ Reb N w [] fun w2 => C_wire_TakeInt_8 N K1 Q b0' (IntKind.u64.wrap ((BitVec.ofInt (IntKind.u64).bits code5' ||| BitVec.ofInt (IntKind.u64).bits (IntKind.u64.wrap ((IntKind.u64.wrap (IntKind.u8.wrap (c7' - 128))) * 2 ^ (min (Int.toNat (IntKind.i64.wrap (7 * k6'))) (IntKind.u64).bits)))).toNat)) v8' v9' v10' w2) (IfB (decide ((0 : Int) < k6')) (Reb N w [] fun w7 => C_wire_TakeInt_14 N K1 Q code5' k6' c7' (decide ((c7' : Int) = 0)) w7) (Reb N w [] fun w8 => C_wire_TakeInt_14 N K1 Q code5' k6' c7' false w8))

noncomputable def H_wire_TakeInt_12 (N : Nat) (K1 : (Sl × Sl × Int) → (Int × Int) → World → Prop) (Q : VP) : St → World → Prop := HG N 63 [.v 0 .l, .v 5 (.i .u64), .v 6 (.i .i64), .v 7 (.i .u8), .v 8 .l, .v 9 (.i .i64), .v 10 (.i .i64), .v 18 .b] (C_wire_TakeInt_12 N K1 Q)

theorem T_wire_TakeInt_12 (N : Nat) (K1 : (Sl × Sl × Int) → (Int × Int) → World → Prop) (Q : VP) (s : St) (w : World) (h : H_wire_TakeInt_12 N K1 Q s w) : Snd (cy N []) k_wire_TakeInt_6 (z_wire_TakeInt_5 N K1 Q) s w :=
  Snd.HG h fun b0' code5' k6' c7' v8' v9' v10' v18' w h => (Snd.cast (c' := .cond (.tmp 18) (cL k_wire_TakeInt_6) (cR k_wire_TakeInt_6)) (by kernel_rfl) (Snd.cond (t := v18') (by kernel_rfl) (by kernel_rfl) (fun ht => (fun h => (dsm h)) (ifb_t h ht)) (fun ht => (fun h => (sq (H_wire_TakeInt_13 N K1 Q) (sq (H_wire_TakeInt_14 N K1 Q) (dsm h) (T_wire_TakeInt_14 N K1 Q)) (T_wire_TakeInt_13 N K1 Q))) (ifb_f h ht))))

def C_wire_TakeInt_11 (N : Nat) (K1 : (Sl × Sl × Int) → (Int × Int) → World → Prop) (Q : VP) (b0' : Sl) (code5' k6' c7' : Int) (v8' : Sl) (v9' v10' : Int) (v15' : Bool) (w : World) : Prop :=
  IfB v15' (Reb N w [] (Q (.tuple #[(.int .i64 0), (.int .i64 0), (.int .i64 18)]))) (Reb N w [] fun w9 => C_wire_TakeInt_12 N K1 Q b0' code5' k6' c7' v8' v9' v10' (decide ((128 : Int) ≤ c7')) w9)

noncomputable def H_wire_TakeInt_11 (N : Nat) (K1 : (Sl × Sl × Int) → (Int × Int) → World → Prop) (Q : VP) : St → World → Prop := HG N 63 [.v 0 .l, .v 5 (.i .u64), .v 6 (.i .i64), .v 7 (.i .u8), .v 8 .l, .v 9 (.i .i64), .v 10 (.i .i64), .v 15 .b] (C_wire_TakeInt_11 N K1 Q)

theorem T_wire_TakeInt_11 (N : Nat) (K1 : (Sl × Sl × Int) → (Int × Int) → World → Prop) (Q : VP) (s : St) (w : World) (h : H_wire_TakeInt_11 N K1 Q s w) : Snd (cy N []) (cR (cL (cL k_wire_TakeInt_3))) (z_wire_TakeInt_5 N K1 Q) s w :=
  Snd.HG h fun b0' code5' k6' c7' v8' v9' v10' v15' w h => (Snd.cast (c' := .cond (.tmp 15) (cL (cR (cL (cL k_wire_TakeInt_3)))) (cR (cR (cL (cL k_wire_TakeInt_3))))) (by kernel_rfl) (Snd.cond (t := v15') (by kernel_rfl) (by kernel_rfl) (fun ht => (fun h => (dsm h)) (ifb_t h ht)) (fun ht => (fun h => (sq (H_wire_TakeInt_12 N K1 Q) (dsm h) (T_wire_TakeInt_12 N K1 Q))) (ifb_f h ht))))

def C_wire_TakeInt_9 (N : Nat) (K1 : (Sl × Sl × Int) → (Int × Int) → World → Prop) (Q : VP) (b0' : Sl) (code5' k6' c7' : Int) (v8' : Sl) (v9' v10' : Int) (w : World) : Prop :=
  Reb N w [] fun w10 => C_wire_TakeInt_11 N K1 Q b0' code5' k6' c7' v8' v9' v10' (decide ((k6' : Int) = 10)) w10

noncomputable def H_wire_TakeInt_9 (N : Nat) (K1 : (Sl × Sl × Int) → (Int × Int) → World → Prop) (Q : VP) : St → World → Prop := HG N 63 [.v 0 .l, .v 5 (.i .u64), .v 6 (.i .i64), .v 7 (.i .u8), .v 8 .l, .v 9 (.i .i64), .v 10 (.i .i64)] (C_wire_TakeInt_9 N K1 Q)

theorem T_wire_TakeInt_9 (N : Nat) (K1 : (Sl × Sl × Int) → (Int × Int) → World → Prop) (Q : VP) (s : St) (w : World) (h : H_wire_TakeInt_9 N K1 Q s w) : Snd (cy N []) k_wire_TakeInt_3 (z_wire_TakeInt_4 N K1 Q) s w :=
  Snd.HG h fun b0' code5' k6' c7' v8' v9' v10' w h => (sq (H_wire_TakeInt_10 N K1 Q) (bk 2 (sq (H_wire_TakeInt_11 N K1 Q) (dsm h) (T_wire_TakeInt_11 N K1 Q))) (T_wire_TakeInt_10 N K1 Q))

def C_wire_TakeInt_7 (N : Nat) (K1 : (Sl × Sl × Int) → (Int × Int) → World → Prop) (Q : VP) (b0' : Sl) (code5' : Int) (v8' : Sl) (v9' v10' : Int) (w : World) : Prop :=
  IdxL v8'.a v8'.n v10' fun q11 => ∃ n12 : Int, At w (q11.add ((v10' : Int).toNat * 1)) [(.int .u8 n12)] ∧ NotIn ((q11.add ((v10' : Int).toNat * 1)) : Addr).block [] ∧ Reb N w [] fun w13 => C_wire_TakeInt_9 N K1 Q b0' code5' v10' n12 v8' v9' v10' w13

noncomputable def H_wire_TakeInt_7 (N : Nat) (K1 : (Sl × Sl × Int) → (Int × Int) → World → Prop) (Q : VP) : St → World → Prop := HG N 63 [.v 0 .l, .v 5 (.i .u64), .v 8 .l, .v 9 (.i .i64), .v 10 (.i .i64)] (C_wire_TakeInt_7 N K1 Q)

theorem T_wire_TakeInt_7 (N : Nat) (K1 : (Sl × Sl × Int) → (Int × Int) → World → Prop) (Q : VP) (s : St) (w : World) (h : H_wire_TakeInt_7 N K1 Q s w) : Snd (cy N []) (cR (cR (cL k_wire_TakeInt_1))) (z_wire_TakeInt_2 N K1 Q) s w :=
  Snd.HG h fun b0' code5' v8' v9' v10' w h => (sq (H_wire_TakeInt_8 N K1 Q) (bk 1 (sq (H_wire_TakeInt_9 N K1 Q) (dsm h) (T_wire_TakeInt_9 N K1 Q))) (T_wire_TakeInt_8 N K1 Q))

def C_wire_TakeInt_6 (N : Nat) (K1 : (Sl × Sl × Int) → (Int × Int) → World → Prop) (Q : VP) (b0' : Sl) (code5' : Int) (v8' : Sl) (v9' v10' : Int) (v11' : Bool) (w : World) : Prop :=
  IfB v11' (Reb N w [] fun w14 => C_wire_TakeInt_7 N K1 Q b0' code5' v8' v9' v10' w14) (Reb N w [] fun w15 => C_wire_TakeInt_3 N Q b0' w15)

noncomputable def H_wire_TakeInt_6 (N : Nat) (K1 : (Sl × Sl × Int) → (Int × Int) → World → Prop) (Q : VP) : St → World → Prop := HG N 63 [.v 0 .l, .v 5 (.i .u64), .v 8 .l, .v 9 (.i .i64), .v 10 (.i .i64), .v 11 .b] (C_wire_TakeInt_6 N K1 Q)

theorem T_wire_TakeInt_6 (N : Nat) (K1 : (Sl × Sl × Int) → (Int × Int) → World → Prop) (Q : VP) (s : St) (w : World) (h : H_wire_TakeInt_6 N K1 Q s w) : Snd (cy N []) (cR (cL k_wire_TakeInt_1)) (z_wire_TakeInt_2 N K1 Q) s w :=
  Snd.HG h fun b0' code5' v8' v9' v10' v11' w h => (sq (H_wire_TakeInt_7 N K1 Q) (dsm h) (T_wire_TakeInt_7 N K1 Q))

def B_wire_TakeInt_5 (N : Nat) (K1 : (Sl × Sl × Int) → (Int × Int) → World → Prop) (Q : VP) (b0' : Sl) (code5' : Int) (v8' : Sl) (v9' v10' : Int) (w : World) : Prop :=
  Reb N w [] fun w16 => C_wire_TakeInt_6 N K1 Q b0' code5' v8' v9' v10' (decide ((v10' : Int) < v9')) w16

theorem X_wire_TakeInt_5 {N : Nat} {K1 : (Sl × Sl × Int) → (Int × Int) → World → Prop} {Q : VP} {b0' : Sl} {code5' : Int} {v8' : Sl} {v9' v10' : Int} {w : World} (h : B_wire_TakeInt_5 N K1 Q b0' code5' v8' v9' v10' w) : Snd (cy N []) (cL k_wire_TakeInt_1) (thenD (HeadK N 63 [.val 0, .val 5, .val 8, .val 9, .val 10] D_wire_TakeInt_5 K1) (z_wire_TakeInt_0 N Q)) (mkS 63 [.val 0, .val 5, .val 8, .val 9, .val 10] [(.slice b0'.a b0'.n b0'.c), (.int .u64 code5'), (.slice v8'.a v8'.n v8'.c), (.int .i64 v9'), (.int .i64 v10')] []) w :=
  (sq (H_wire_TakeInt_6 N K1 Q) (dsm h) (T_wire_TakeInt_6 N K1 Q))

def L_wire_TakeInt_5 (N : Nat) (Q : VP) (K1 : (Sl × Sl × Int) → (Int × Int) → World → Prop) (c : Sl × Sl × Int) (x : Int × Int) (w : World) : Prop := match c, x with
  | (b0', v8', v9'), (code5', v10') => B_wire_TakeInt_5 N K1 Q b0' code5' v8' v9' v10' w

theorem T_wire_TakeInt_5 (N : Nat) (Q : VP) {s : St} {w : World} (h : HeadE N 63 [.val 0, .val 5, .val 8, .val 9, .val 10] D_wire_TakeInt_5 (L_wire_TakeInt_5 N Q) s w) : Snd (cy N []) k_wire_TakeInt_1 (z_wire_TakeInt_0 N Q) s w := by
  refine Snd.cast (c' := .loop (cL k_wire_TakeInt_1)) (by kernel_rfl) (Snd.loopC (fun (c : Sl × Sl × Int) (x : Int × Int) => match c, x with | (b0', v8', v9'), (code5', v10') => ([(.slice b0'.a b0'.n b0'.c), (.int .u64 code5'), (.slice v8'.a v8'.n v8'.c), (.int .i64 v9'), (.int .i64 v10')], [])) ?_ ?_ h)
  · intro K vs ls h
    unfold D_wire_TakeInt_5 at h
    split at h
    · exact ⟨_, _, rfl, h⟩
    · exact h.elim
  · rintro K ⟨b0', v8', v9'⟩ ⟨code5', v10'⟩ w h
    exact X_wire_TakeInt_5 h

def C_wire_TakeInt_4 (N : Nat) (Q : VP) (b0' : Sl) (code5' : Int) (v8' : Sl) (v9' v10' : Int) (w : World) : Prop :=
  LoopC N w [] ((b0', v8', v9') : Sl × Sl × Int) ((code5', v10') : Int × Int) (L_wire_TakeInt_5 N Q)

noncomputable def H_wire_TakeInt_4 (N : Nat) (Q : VP) : St → World → Prop := HG N 63 [.v 0 .l, .v 5 (.i .u64), .v 8 .l, .v 9 (.i .i64), .v 10 (.i .i64)] (C_wire_TakeInt_4 N Q)

theorem T_wire_TakeInt_4 (N : Nat) (Q : VP) (s : St) (w : World) (h : H_wire_TakeInt_4 N Q s w) : Snd (cy N []) (cR (cL (cR (cR (bodyOf Try.f128))))) (thenD (H_wire_TakeInt_3 N Q) (retD (cy N []) Try.f128 Q)) s w :=
  Snd.HG h fun b0' code5' v8' v9' v10' w h => (bk 0 (T_wire_TakeInt_5 N Q (mpr' (by kernel_rfl) h)))

def C_wire_TakeInt_2 (N : Nat) (Q : VP) (b0' : Sl) (code5' : Int) (w : World) : Prop :=
  Reb N w [] fun w17 => C_wire_TakeInt_4 N Q b0' code5' b0' ((b0'.n : Nat) : Int) 0 w17

noncomputable def H_wire_TakeInt_2 (N : Nat) (Q : VP) : St → World → Prop := HG N 63 [.v 0 .l, .v 5 (.i .u64)] (C_wire_TakeInt_2 N Q)

theorem T_wire_TakeInt_2 (N : Nat) (Q : VP) (s : St) (w : World) (h : H_wire_TakeInt_2 N Q s w) : Snd (cy N []) (cR (cR (bodyOf Try.f128))) (retD (cy N []) Try.f128 Q) s w :=
  Snd.HG h fun b0' code5' w h => (sq (H_wire_TakeInt_3 N Q) (sq (H_wire_TakeInt_4 N Q) (dsm h) (T_wire_TakeInt_4 N Q)) (T_wire_TakeInt_3 N Q))

def C_wire_TakeInt_1 (N : Nat) (Q : VP) (b0' : Sl) (w : World) : Prop :=
  Reb N w [] fun w18 => C_wire_TakeInt_2 N Q b0' 0 w18

noncomputable def H_wire_TakeInt_1 (N : Nat) (Q : VP) : St → World → Prop := HG N 63 [.v 0 .l] (C_wire_TakeInt_1 N Q)

theorem T_wire_TakeInt_1 (N : Nat) (Q : VP) (s : St) (w : World) (h : H_wire_TakeInt_1 N Q s w) : Snd (cy N []) (cR (bodyOf Try.f128)) (retD (cy N []) Try.f128 Q) s w :=
  Snd.HG h fun b0' w h => (sq (H_wire_TakeInt_2 N Q) (dsm h) (T_wire_TakeInt_2 N Q))

def F_wire_TakeInt (N : Nat) (b0 : Sl) (Q : VP) (w : World) : Prop :=
  Reb N w [] fun w19 => C_wire_TakeInt_1 N Q b0 w19

theorem wire_TakeInt_snd (N : Nat) (b0 : Sl) (Q : VP) (w : World) (h : F_wire_TakeInt N b0 Q w) : Snd (cy N []) (bodyOf Try.f128) (retD (cy N []) Try.f128 Q) (entry 63 [(.slice b0.a b0.n b0.c)]) w :=
  (sq (H_wire_TakeInt_1 N Q) (dsm h) (T_wire_TakeInt_1 N Q))

theorem wire_TakeInt_calls (b0 : Sl) (Q : VP) (w : World) (h : F_wire_TakeInt w.heap.size b0 Q w) : Calls PP n_wire_TakeInt [(.slice b0.a b0.n b0.c)].toArray w fun e w' => ∃ v, e = .returned v ∧ Q v w' :=
  calls_of (C := cy w.heap.size []) (fn := Try.f128) (c := (bodyOf Try.f128)) (by kernel_rfl) (by kernel_rfl) (Nat.le_refl _) (wire_TakeInt_snd _ b0 Q w h)

/-! ### cellplaneref01_TakeInt -/
def C_cellplaneref01_TakeInt_3 (N : Nat) (Q : VP) (w : World) : Prop :=
  Reb N w [] (Q (.tuple #[(.int .i64 0), (.int .i64 0), (.int .i64 18)]))

noncomputable def H_cellplaneref01_TakeInt_3 (N : Nat) (Q : VP) : St → World → Prop := HG N 78 [] (C_cellplaneref01_TakeInt_3 N Q)

theorem T_cellplaneref01_TakeInt_3 (N : Nat) (Q : VP) (s : St) (w : World) (h : H_cellplaneref01_TakeInt_3 N Q s w) : Snd (cy N []) (cR (cR (cR (bodyOf Try.f160)))) (retD (cy N []) Try.f160 Q) s w :=
  Snd.HG h fun _ h => dsm h

noncomputable def z_cellplaneref01_TakeInt_0 (N : Nat) (Q : VP) : Cont := (thenD (H_cellplaneref01_TakeInt_3 N Q) (retD (cy N []) Try.f160 Q))

def D_cellplaneref01_TakeInt_5 (K : (Sl) → (Int × Int) → Prop) : List Value → List LB → Prop := fun vs ls => match vs, ls with
  | [.slice b0'_a b0'_n b0'_c, .int .u64 u5', .int .i64 k6'], [] => K ⟨b0'_a, b0'_n, b0'_c⟩ (u5', k6')
  | _, _ => False

noncomputable def k_cellplaneref01_TakeInt_1 : Code := (cL (cR (cL (cR (cR (bodyOf Try.f160))))))

noncomputable def z_cellplaneref01_TakeInt_2 (N : Nat) (K1 : (Sl) → (Int × Int) → World → Prop) (Q : VP) : Cont := (thenD (HeadK N 78 [.val 0, .val 5, .val 6] D_cellplaneref01_TakeInt_5 K1) (inBlockD 0 (z_cellplaneref01_TakeInt_0 N Q)))

noncomputable def k_cellplaneref01_TakeInt_3 : Code := (cR (cR (cL k_cellplaneref01_TakeInt_1)))

def C_cellplaneref01_TakeInt_7 (N : Nat) (K1 : (Sl) → (Int × Int) → World → Prop) (Q : VP) (b0' : Sl) (u5' k6' : Int) (w : World) : Prop :=
  Reb N w [] fun w1 => K1 b0' (u5', (IntKind.i64.wrap (k6' + 1))) w1

noncomputable def H_cellplaneref01_TakeInt_7 (N : Nat) (K1 : (Sl) → (Int × Int) → World → Prop) (Q : VP) : St → World → Prop := HG N 78 [.v 0 .l, .v 5 (.i .u64), .v 6 (.i .i64)] (C_cellplaneref01_TakeInt_7 N K1 Q)

theorem T_cellplaneref01_TakeInt_7 (N : Nat) (K1 : (Sl) → (Int × Int) → World → Prop) (Q : VP) (s : St) (w : World) (h : H_cellplaneref01_TakeInt_7 N K1 Q s w) : Snd (cy N []) k_cellplaneref01_TakeInt_3 (z_cellplaneref01_TakeInt_2 N K1 Q) s w :=
  Snd.HG h fun _ _ _ _ h => dsm h

noncomputable def k_cellplaneref01_TakeInt_4 : Code := (cR (cL (cL (cR (cL k_cellplaneref01_TakeInt_1)))))

noncomputable def z_cellplaneref01_TakeInt_5 (N : Nat) (K1 : (Sl) → (Int × Int) → World → Prop) (Q : VP) : Cont := (inBlockD 1 (thenD (H_cellplaneref01_TakeInt_7 N K1 Q) (z_cellplaneref01_TakeInt_2 N K1 Q)))

def C_cellplaneref01_TakeInt_9 (N : Nat) (K1 : (Sl) → (Int × Int) → World → Prop) (Q : VP) (b0' : Sl) (u5' k6' : Int) (w : World) : Prop :=
  IdxL b0'.a b0'.n k6' fun q2 => ∃ n3 : Int, At w (q2.add ((k6' : Int).toNat * 1)) [(.int .u8 n3)] ∧ NotIn ((q2.add ((k6' : Int).toNat * 1)) : Addr).block [] ∧ (0 : Int) ≤ (IntKind.u64.wrap (IntKind.i64.wrap (7 * k6'))) ∧ Reb N w [] fun w4 => C_cellplaneref01_TakeInt_7 N K1 Q b0' (IntKind.u64.wrap ((BitVec.ofInt (IntKind.u64).bits u5' ||| BitVec.ofInt (IntKind.u64).bits (IntKind.u64.wrap ((IntKind.u64.wrap (IntKind.u8.wrap (n3 - 128))) * 2 ^ (min (Int.toNat (IntKind.u64.wrap (IntKind.i64.wrap (7 * k6')))) (IntKind.u64).bits)))).toNat)) k6' w4

noncomputable def H_cellplaneref01_TakeInt_9 (N : Nat) (K1 : (Sl) → (Int × Int) → World → Prop) (Q : VP) : St → World → Prop := HG N 78 [.v 0 .l, .v 5 (.i .u64), .v 6 (.i .i64)] (C_cellplaneref01_TakeInt_9 N K1 Q)

theorem T_cellplaneref01_TakeInt_9 (N : Nat) (K1 : (Sl) → (Int × Int) → World → Prop) (Q : VP) (s : St) (w : World) (h : H_cellplaneref01_TakeInt_9 N K1 Q s w) : Snd (cy N []) (cR k_cellplaneref01_TakeInt_4) (z_cellplaneref01_TakeInt_5 N K1 Q) s w :=
  Snd.HG h fun _ _ _ _ h => dsm h

noncomputable def z_cellplaneref01_TakeInt_6 (N : Nat) (K1 : (Sl) → (Int × Int) → World → Prop) (Q : VP) : Cont := (thenD (H_cellplaneref01_TakeInt_9 N K1 Q) (z_cellplaneref01_TakeInt_5 N K1 Q))

noncomputable def k_cellplaneref01_TakeInt_7 : Code := (cR (cL (cR (cL k_cellplaneref01_TakeInt_4))))

def C_cellplaneref01_TakeInt_11 (N : Nat) (K1 : (Sl) → (Int × Int) → World → Prop) (Q : VP) (b0' : Sl) (u5' k6' : Int) (w : World) : Prop :=
  IdxL b0'.a b0'.n k6' fun q5 => ∃ n6 : Int, At w (q5.add ((k6' : Int).toNat * 1)) [(.int .u8 n6)] ∧ NotIn ((q5.add ((k6' : Int).toNat * 1)) : Addr).block [] ∧ (0 : Int) ≤ (IntKind.u64.wrap (IntKind.i64.wrap (7 * k6'))) ∧ (2 : Int) ≠ 0 ∧ IfB (decide (((Int.tmod (IntKind.u64.wrap ((BitVec.ofInt (IntKind.u64).bits u5' ||| BitVec.ofInt (IntKind.u64).bits (IntKind.u64.wrap ((IntKind.u64.wrap n6) * 2 ^ (min (Int.toNat (IntKind.u64.wrap (IntKind.i64.wrap (7 * k6')))) (IntKind.u64).bits)))).toNat)) 2) : Int) = 0)) ((2 : Int) ≠ 0 ∧ Reb N w [] (Q (.tuple #[(.int .i64 (IntKind.i64.wrap (IntKind.u64.wrap (Int.tdiv (IntKind.u64.wrap ((BitVec.ofInt (IntKind.u64).bits u5' ||| BitVec.ofInt (IntKind.u64).bits (IntKind.u64.wrap ((IntKind.u64.wrap n6) * 2 ^ (min (Int.toNat (IntKind.u64.wrap (IntKind.i64.wrap (7 * k6')))) (IntKind.u64).bits)))).toNat)) 2)))), (.int .i64 (IntKind.i64.wrap (k6' + 1))), (.int .i64 0)]))) ((2 : Int) ≠ 0 ∧ Reb N w [] (Q (.tuple #[(.int .i64 (IntKind.i64.wrap ((IntKind.i64.wrap (0 - (IntKind.i64.wrap (IntKind.u64.wrap (Int.tdiv (IntKind.u64.wrap ((BitVec.ofInt (IntKind.u64).bits u5' ||| BitVec.ofInt (IntKind.u64).bits (IntKind.u64.wrap ((IntKind.u64.wrap n6) * 2 ^ (min (Int.toNat (IntKind.u64.wrap (IntKind.i64.wrap (7 * k6')))) (IntKind.u64).bits)))).toNat)) 2))))) - 1))), (.int .i64 (IntKind.i64.wrap (k6' + 1))), (.int .i64 0)])))

noncomputable def H_cellplaneref01_TakeInt_11 (N : Nat) (K1 : (Sl) → (Int × Int) → World → Prop) (Q : VP) : St → World → Prop := HG N 78 [.v 0 .l, .v 5 (.i .u64), .v 6 (.i .i64)] (C_cellplaneref01_TakeInt_11 N K1 Q)

theorem T_cellplaneref01_TakeInt_11 (N : Nat) (K1 : (Sl) → (Int × Int) → World → Prop) (Q : VP) (s : St) (w : World) (h : H_cellplaneref01_TakeInt_11 N K1 Q s w) : Snd (cy N []) k_cellplaneref01_TakeInt_7 (z_cellplaneref01_TakeInt_6 N K1 Q) s w :=
  Snd.HG h fun _ _ _ _ h => dsm h

def C_cellplaneref01_TakeInt_10 (N : Nat) (K1 : (Sl) → (Int × Int) → World → Prop) (Q : VP) (b0' : Sl) (u5' k6' : Int) (v19' : Bool) (w : World) : Prop :=
  IfB v19' (IfB (decide ((0 : Int) < k6')) (IdxL b0'.a b0'.n k6' fun q7 => ∃ n8 : Int, At w (q7.add ((k6' : Int).toNat * 1)) [(.int .u8 n8)] ∧ NotIn ((q7.add ((k6' : Int).toNat * 1)) : Addr).block [] ∧ IfB (decide ((n8 : Int) = 0)) (Reb N w [] (Q (.tuple #[(.int .i64 0), (.int .i64 0), (.int .i64 18)]))) (IfB (decide ((k6' : Int) = 9)) (IdxL b0'.a b0'.n k6' fun q9 => ∃ n10 : Int, At w (q9.add ((k6' : Int).toNat * 1)) [(.int .u8 n10)] ∧ NotIn ((q9.add ((k6' : Int).toNat * 1)) : Addr).block [] ∧ IfB (decide ((1 : Int) < n10)) (Reb N w [] (Q (.tuple #[(.int .i64 0), (.int .i64 0), (.int .i64 18)]))) (Reb N w [] fun w11 => C_cellplaneref01_TakeInt_11 N K1 Q b0' u5' k6' w11)) (Reb N w [] fun w12 => C_cellplaneref01_TakeInt_11 N K1 Q b0' u5' k6' w12))) (IfB (decide ((k6' : Int) = 9)) (IdxL b0'.a b0'.n k6' fun q13 => ∃ n14 : Int, At w (q13.add ((k6' : Int).toNat * 1)) [(.int .u8 n14)] ∧ NotIn ((q13.add ((k6' : Int).toNat * 1)) : Addr).block [] ∧ IfB (decide ((1 : Int) < n14)) (Reb N w [] (Q (.tuple #[(.int .i64 0), (.int .i64 0), (.int .i64 18)]))) (Reb N w [] fun w15 => C_cellplaneref01_TakeInt_11 N K1 Q b0' u5' k6' w15)) (Reb N w [] fun w16 => C_cellplaneref01_TakeInt_11 N K1 Q b0' u5' k6' w16))) (Reb N w [] fun w17 => C_cellplaneref01_TakeInt_9 N K1 Q b0' u5' k6' w17)

noncomputable def H_cellplaneref01_TakeInt_10 (N : Nat) (K1 : (Sl) → (Int × Int) → World → Prop) (Q : VP) : St → World → Prop := HG N 78 [.v 0 .l, .v 5 (.i .u64), .v 6 (.i .i64), .v 19 .b] (C_cellplaneref01_TakeInt_10 N K1 Q)

theorem T_cellplaneref01_TakeInt_10 (N : Nat) (K1 : (Sl) → (Int × Int) → World → Prop) (Q : VP) (s : St) (w : World) (h : H_cellplaneref01_TakeInt_10 N K1 Q s w) : Snd (cy N []) (cR (cL k_cellplaneref01_TakeInt_4)) (z_cellplaneref01_TakeInt_6 N K1 Q) s w :=
  Snd.HG h fun b0' u5' k6' v19' w h => (Snd.cast (c' := .cond (.tmp 19) (cL (cR (cL k_cellplaneref01_TakeInt_4))) (cR (cR (cL k_cellplaneref01_TakeInt_4)))) (by kernel_rfl) (Snd.cond (t := v19') (by kernel_rfl) (by kernel_rfl) (fun ht => (fun h => (sq (H_cellplaneref01_TakeInt_11 N K1 Q) (dsm h) (T_cellplaneref01_TakeInt_11 N K1 Q))) (ifb_t h ht)) (fun ht => (fun h => (dsm h)) (ifb_f h ht))))

def C_cellplaneref01_TakeInt_8 (N : Nat) (K1 : (Sl) → (Int × Int) → World → Prop) (Q : VP) (b0' : Sl) (u5' k6' : Int) (w : World) : Prop :=
  IdxL b0'.a b0'.n k6' fun q18 => ∃ n19 : Int, At w (q18.add ((k6' : Int).toNat * 1)) [(.int .u8 n19)] ∧ NotIn ((q18.add ((k6' : Int).toNat * 1)) : Addr).block [] ∧ Reb N w [] fun w20 => C_cellplaneref01_TakeInt_10 N K1 Q b0' u5' k6' (decide ((n19 : Int) < 128)) w20

noncomputable def H_cellplaneref01_TakeInt_8 (N : Nat) (K1 : (Sl) → (Int × Int) → World → Prop) (Q : VP) : St → World → Prop := HG N 78 [.v 0 .l, .v 5 (.i .u64), .v 6 (.i .i64)] (C_cellplaneref01_TakeInt_8 N K1 Q)

theorem T_cellplaneref01_TakeInt_8 (N : Nat) (K1 : (Sl) → (Int × Int) → World → Prop) (Q : VP) (s : St) (w : World) (h : H_cellplaneref01_TakeInt_8 N K1 Q s w) : Snd (cy N []) k_cellplaneref01_TakeInt_4 (z_cellplaneref01_TakeInt_5 N K1 Q) s w :=
  Snd.HG h fun b0' u5' k6' w h => (sq (H_cellplaneref01_TakeInt_9 N K1 Q) (sq (H_cellplaneref01_TakeInt_10 N K1 Q) (dsm h) (T_cellplaneref01_TakeInt_10 N K1 Q)) (T_cellplaneref01_TakeInt_9 N K1 Q))

def C_cellplaneref01_TakeInt_6 (N : Nat) (K1 : (Sl) → (Int × Int) → World → Prop) (Q : VP) (b0' : Sl) (u5' k6' : Int) (w : World) : Prop :=
  IfB (decide ((k6' : Int) = ((b0'.n : Nat) : Int))) (Reb N w [] (Q (.tuple #[(.int .i64 0), (.int .i64 0), (.int .i64 17)]))) (Reb N w [] fun w21 => C_cellplaneref01_TakeInt_8 N K1 Q b0' u5' k6' w21)

noncomputable def H_cellplaneref01_TakeInt_6 (N : Nat) (K1 : (Sl) → (Int × Int) → World → Prop) (Q : VP) : St → World → Prop := HG N 78 [.v 0 .l, .v 5 (.i .u64), .v 6 (.i .i64)] (C_cellplaneref01_TakeInt_6 N K1 Q)

theorem T_cellplaneref01_TakeInt_6 (N : Nat) (K1 : (Sl) → (Int × Int) → World → Prop) (Q : VP) (s : St) (w : World) (h : H_cellplaneref01_TakeInt_6 N K1 Q s w) : Snd (cy N []) (cR (cL k_cellplaneref01_TakeInt_1)) (z_cellplaneref01_TakeInt_2 N K1 Q) s w :=
  Snd.HG h fun b0' u5' k6' w h => (sq (H_cellplaneref01_TakeInt_7 N K1 Q) (bk 1 (sq (H_cellplaneref01_TakeInt_8 N K1 Q) (dsm h) (T_cellplaneref01_TakeInt_8 N K1 Q))) (T_cellplaneref01_TakeInt_7 N K1 Q))

def B_cellplaneref01_TakeInt_5 (N : Nat) (K1 : (Sl) → (Int × Int) → World → Prop) (Q : VP) (b0' : Sl) (u5' k6' : Int) (w : World) : Prop :=
  IfB (decide ((k6' : Int) < 10)) (Reb N w [] fun w22 => C_cellplaneref01_TakeInt_6 N K1 Q b0' u5' k6' w22) (Reb N w [] fun w23 => C_cellplaneref01_TakeInt_3 N Q w23)

theorem X_cellplaneref01_TakeInt_5 {N : Nat} {K1 : (Sl) → (Int × Int) → World → Prop} {Q : VP} {b0' : Sl} {u5' k6' : Int} {w : World} (h : B_cellplaneref01_TakeInt_5 N K1 Q b0' u5' k6' w) : Snd (cy N []) (cL k_cellplaneref01_TakeInt_1) (thenD (HeadK N 78 [.val 0, .val 5, .val 6] D_cellplaneref01_TakeInt_5 K1) (inBlockD 0 (z_cellplaneref01_TakeInt_0 N Q))) (mkS 78 [.val 0, .val 5, .val 6] [(.slice b0'.a b0'.n b0'.c), (.int .u64 u5'), (.int .i64 k6')] []) w :=
  (sq (H_cellplaneref01_TakeInt_6 N K1 Q) (dsm h) (T_cellplaneref01_TakeInt_6 N K1 Q))

def L_cellplaneref01_TakeInt_5 (N : Nat) (Q : VP) (K1 : (Sl) → (Int × Int) → World → Prop) (c : Sl) (x : Int × Int) (w : World) : Prop := match c, x with
  | b0', (u5', k6') => B_cellplaneref01_TakeInt_5 N K1 Q b0' u5' k6' w

theorem T_cellplaneref01_TakeInt_5 (N : Nat) (Q : VP) {s : St} {w : World} (h : HeadE N 78 [.val 0, .val 5, .val 6] D_cellplaneref01_TakeInt_5 (L_cellplaneref01_TakeInt_5 N Q) s w) : Snd (cy N []) k_cellplaneref01_TakeInt_1 (inBlockD 0 (z_cellplaneref01_TakeInt_0 N Q)) s w := by
  refine Snd.cast (c' := .loop (cL k_cellplaneref01_TakeInt_1)) (by kernel_rfl) (Snd.loopC (fun (c : Sl) (x : Int × Int) => match c, x with | b0', (u5', k6') => ([(.slice b0'.a b0'.n b0'.c), (.int .u64 u5'), (.int .i64 k6')], [])) ?_ ?_ h)
  · intro K vs ls h
    unfold D_cellplaneref01_TakeInt_5 at h
    split at h
    · exact ⟨_, _, rfl, h⟩
    · exact h.elim
  · rintro K b0' ⟨u5', k6'⟩ w h
    exact X_cellplaneref01_TakeInt_5 h

def C_cellplaneref01_TakeInt_4 (N : Nat) (Q : VP) (b0' : Sl) (u5' k6' : Int) (w : World) : Prop :=
  LoopC N w [] (b0' : Sl) ((u5', k6') : Int × Int) (L_cellplaneref01_TakeInt_5 N Q)

noncomputable def H_cellplaneref01_TakeInt_4 (N : Nat) (Q : VP) : St → World → Prop := HG N 78 [.v 0 .l, .v 5 (.i .u64), .v 6 (.i .i64)] (C_cellplaneref01_TakeInt_4 N Q)

theorem T_cellplaneref01_TakeInt_4 (N : Nat) (Q : VP) (s : St) (w : World) (h : H_cellplaneref01_TakeInt_4 N Q s w) : Snd (cy N []) (cR (cL (cR (cR (bodyOf Try.f160))))) (z_cellplaneref01_TakeInt_0 N Q) s w :=
  Snd.HG h fun b0' u5' k6' w h => (bk 0 (T_cellplaneref01_TakeInt_5 N Q (mpr' (by kernel_rfl) h)))

def C_cellplaneref01_TakeInt_2 (N : Nat) (Q : VP) (b0' : Sl) (u5' : Int) (w : World) : Prop :=
  Reb N w [] fun w24 => C_cellplaneref01_TakeInt_4 N Q b0' u5' 0 w24

noncomputable def H_cellplaneref01_TakeInt_2 (N : Nat) (Q : VP) : St → World → Prop := HG N 78 [.v 0 .l, .v 5 (.i .u64)] (C_cellplaneref01_TakeInt_2 N Q)

theorem T_cellplaneref01_TakeInt_2 (N : Nat) (Q : VP) (s : St) (w : World) (h : H_cellplaneref01_TakeInt_2 N Q s w) : Snd (cy N []) (cR (cR (bodyOf Try.f160))) (retD (cy N []) Try.f160 Q) s w :=
  Snd.HG h fun b0' u5' w h => (sq (H_cellplaneref01_TakeInt_3 N Q) (sq (H_cellplaneref01_TakeInt_4 N Q) (dsm h) (T_cellplaneref01_TakeInt_4 N Q)) (T_cellplaneref01_TakeInt_3 N Q))

def C_cellplaneref01_TakeInt_1 (N : Nat) (Q : VP) (b0' : Sl) (w : World) : Prop :=
  Reb N w [] fun w25 => C_cellplaneref01_TakeInt_2 N Q b0' 0 w25

noncomputable def H_cellplaneref01_TakeInt_1 (N : Nat) (Q : VP) : St → World → Prop := HG N 78 [.v 0 .l] (C_cellplaneref01_TakeInt_1 N Q)

theorem T_cellplaneref01_TakeInt_1 (N : Nat) (Q : VP) (s : St) (w : World) (h : H_cellplaneref01_TakeInt_1 N Q s w) : Snd (cy N []) (cR (bodyOf Try.f160)) (retD (cy N []) Try.f160 Q) s w :=
  Snd.HG h fun b0' w h => (sq (H_cellplaneref01_TakeInt_2 N Q) (dsm h) (T_cellplaneref01_TakeInt_2 N Q))

def F_cellplaneref01_TakeInt (N : Nat) (b0 : Sl) (Q : VP) (w : World) : Prop :=
  Reb N w [] fun w26 => C_cellplaneref01_TakeInt_1 N Q b0 w26

theorem cellplaneref01_TakeInt_snd (N : Nat) (b0 : Sl) (Q : VP) (w : World) (h : F_cellplaneref01_TakeInt N b0 Q w) : Snd (cy N []) (bodyOf Try.f160) (retD (cy N []) Try.f160 Q) (entry 78 [(.slice b0.a b0.n b0.c)]) w :=
  (sq (H_cellplaneref01_TakeInt_1 N Q) (dsm h) (T_cellplaneref01_TakeInt_1 N Q))

theorem cellplaneref01_TakeInt_calls (b0 : Sl) (Q : VP) (w : World) (h : F_cellplaneref01_TakeInt w.heap.size b0 Q w) : Calls PP n_cellplaneref01_TakeInt [(.slice b0.a b0.n b0.c)].toArray w fun e w' => ∃ v, e = .returned v ∧ Q v w' :=
  calls_of (C := cy w.heap.size []) (fn := Try.f160) (c := (bodyOf Try.f160)) (by kernel_rfl) (by kernel_rfl) (Nat.le_refl _) (cellplaneref01_TakeInt_snd _ b0 Q w h)

/-! ### entry_Read -/
def C_entry_Read_4 (N : Nat) (Q : VP) (B2' : Nat) (v2c' : G_api_Entry) (T2' : Nat) (e5' : Addr) (used6' : Int) (w : World) : Prop :=
  ∃ x1 : G_api_Entry, At w e5' x1.cells ∧ NotIn (e5' : Addr).block [⟨B2', v2c'.cells, T2'⟩] ∧ CallL PP N w [⟨B2', v2c'.cells, T2'⟩] n_entry_Shape [(.agg (List.toArray x1.cells))] fun r3 w4 => ∃ b2 : Bool, r3 = (.bool b2) ∧ IfB (!b2) (Reb N w4 [⟨B2', (⟨0, 0, 0, 0, 0, 0, 0, 0, 0⟩ : G_api_Entry).cells, T2'⟩] (Q (.tuple #[(.agg (List.toArray (⟨0, 0, 0, 0, 0, 0, 0, 0, 0⟩ : G_api_Entry).cells)), (.int .i64 0), (.int .i64 18)]))) (∃ x5 : G_api_Entry, At w4 e5' x5.cells ∧ NotIn (e5' : Addr).block [⟨B2', v2c'.cells, T2'⟩] ∧ Reb N w4 [⟨B2', x5.cells, T2'⟩] (Q (.tuple #[(.agg (List.toArray x5.cells)), (.int .i64 used6'), (.int .i64 0)])))

noncomputable def H_entry_Read_4 (N : Nat) (Q : VP) : St → World → Prop := HG N 41 [.c 2 (.g R_api_Entry), .v 5 .p, .v 6 (.i .i64)] (C_entry_Read_4 N Q)

theorem T_entry_Read_4 (N : Nat) (Q : VP) (s : St) (w : World) (h : H_entry_Read_4 N Q s w) : Snd (cy N [2]) (cR (cR (cR (cR (bodyOf Try.f132))))) (retD (cy N [2]) Try.f132 Q) s w :=
  Snd.HG h fun _ _ _ _ _ _ h => dsm h

noncomputable def k_entry_Read_0 : Code := (cR (cL (cR (cR (cR (bodyOf Try.f132))))))

def D_entry_Read_6 (K : (Sl × Addr × G_ar9_p_i64 × Nat × Nat) → (G_api_Entry × Int × Int) → Prop) : List Value → List LB → Prop := fun vs ls => match vs, ls with
  | [.slice b0'_a b0'_n b0'_c, .pointer (some e5'), .int .i64 used6', .agg v12'_r, .int .i64 v13'], [⟨B2', v2c'_r, T2'⟩] => G_api_Entry.decL v2c'_r fun v2c' => G_ar9_p_i64.decA v12'_r fun v12' => K (⟨b0'_a, b0'_n, b0'_c⟩, e5', v12', B2', T2') (v2c', used6', v13')
  | _, _ => False

noncomputable def z_entry_Read_1 (N : Nat) (Q : VP) : Cont := (inBlockD 0 (thenD (H_entry_Read_4 N Q) (retD (cy N [2]) Try.f132 Q)))

def B_entry_Read_6 (N : Nat) (K1 : (Sl × Addr × G_ar9_p_i64 × Nat × Nat) → (G_api_Entry × Int × Int) → World → Prop) (Q : VP) (b0' : Sl) (B2' : Nat) (v2c' : G_api_Entry) (T2' : Nat) (e5' : Addr) (used6' : Int) (v12' : G_ar9_p_i64) (v13' : Int) (w : World) : Prop :=
  IfB (decide ((v13' : Int) < 9)) (∃ p6 : Option Addr, (∀ wr : World, (Instr.index t_ar9_p_i64 (.agg (List.toArray v12'.cells)) (.int .i64 v13')).run PP wr = .ok (.pointer p6) wr) ∧ (0 : Int) ≤ used6' ∧ (used6' : Int) ≤ (b0'.n : Nat) ∧ CallL PP N w [⟨B2', v2c'.cells, T2'⟩] n_wire_TakeInt [(.slice (slA b0'.a b0'.c (used6' : Int).toNat 1) (b0'.n - (used6' : Int).toNat) (b0'.c - (used6' : Int).toNat))] fun r10 w11 => ∃ n7 : Int, ∃ n8 : Int, ∃ n9 : Int, r10 = (.tuple #[(.int .i64 n7), (.int .i64 n8), (.int .i64 n9)]) ∧ IfB (!decide ((n9 : Int) = 0)) (Reb N w11 [⟨B2', (⟨0, 0, 0, 0, 0, 0, 0, 0, 0⟩ : G_api_Entry).cells, T2'⟩] (Q (.tuple #[(.agg (List.toArray (⟨0, 0, 0, 0, 0, 0, 0, 0, 0⟩ : G_api_Entry).cells)), (.int .i64 0), (.int .i64 n9)]))) (NilL p6 fun q12 => StL w11 [⟨B2', v2c'.cells, T2'⟩] q12 [(.int .i64 n7)] fun w13 => Reb N w13 [⟨B2', v2c'.cells, T2'⟩] fun w14 => K1 (b0', e5', v12', B2', T2') (v2c', (IntKind.i64.wrap (used6' + n8)), (IntKind.i64.wrap (v13' + 1))) w14)) (Reb N w [⟨B2', v2c'.cells, T2'⟩] fun w15 => C_entry_Read_4 N Q B2' v2c' T2' e5' used6' w15)

theorem X_entry_Read_6 {N : Nat} {K1 : (Sl × Addr × G_ar9_p_i64 × Nat × Nat) → (G_api_Entry × Int × Int) → World → Prop} {Q : VP} {b0' : Sl} {B2' : Nat} {v2c' : G_api_Entry} {T2' : Nat} {e5' : Addr} {used6' : Int} {v12' : G_ar9_p_i64} {v13' : Int} {w : World} (h : B_entry_Read_6 N K1 Q b0' B2' v2c' T2' e5' used6' v12' v13' w) : Snd (cy N [2]) (cL (cL k_entry_Read_0)) (thenD (HeadK N 41 [.val 0, .loc 2, .val 5, .val 6, .val 12, .val 13] D_entry_Read_6 K1) (z_entry_Read_1 N Q)) (mkS 41 [.val 0, .loc 2, .val 5, .val 6, .val 12, .val 13] [(.slice b0'.a b0'.n b0'.c), (.pointer (some e5')), (.int .i64 used6'), (.agg (List.toArray v12'.cells)), (.int .i64 v13')] [⟨B2', v2c'.cells, T2'⟩]) w :=
  (dsm h)

def L_entry_Read_6 (N : Nat) (Q : VP) (K1 : (Sl × Addr × G_ar9_p_i64 × Nat × Nat) → (G_api_Entry × Int × Int) → World → Prop) (c : Sl × Addr × G_ar9_p_i64 × Nat × Nat) (x : G_api_Entry × Int × Int) (w : World) : Prop := match c, x with
  | (b0', e5', v12', B2', T2'), (v2c', used6', v13') => B_entry_Read_6 N K1 Q b0' B2' v2c' T2' e5' used6' v12' v13' w

theorem T_entry_Read_6 (N : Nat) (Q : VP) {s : St} {w : World} (h : HeadE N 41 [.val 0, .loc 2, .val 5, .val 6, .val 12, .val 13] D_entry_Read_6 (L_entry_Read_6 N Q) s w) : Snd (cy N [2]) (cL k_entry_Read_0) (z_entry_Read_1 N Q) s w := by
  refine Snd.cast (c' := .loop (cL (cL k_entry_Read_0))) (by kernel_rfl) (Snd.loopC (fun (c : Sl × Addr × G_ar9_p_i64 × Nat × Nat) (x : G_api_Entry × Int × Int) => match c, x with | (b0', e5', v12', B2', T2'), (v2c', used6', v13') => ([(.slice b0'.a b0'.n b0'.c), (.pointer (some e5')), (.int .i64 used6'), (.agg (List.toArray v12'.cells)), (.int .i64 v13')], [⟨B2', v2c'.cells, T2'⟩])) ?_ ?_ h)
  · intro K vs ls h
    unfold D_entry_Read_6 at h
    split at h
    · obtain ⟨v2c', rfl, h0⟩ := G_api_Entry.decL_spec h
      obtain ⟨v12', rfl, h1⟩ := G_ar9_p_i64.decA_spec h0
      exact ⟨_, _, rfl, h1⟩
    · exact h.elim
  · rintro K ⟨b0', e5', v12', B2', T2'⟩ ⟨v2c', used6', v13'⟩ w h
    exact X_entry_Read_6 h

def C_entry_Read_5 (N : Nat) (Q : VP) (b0' : Sl) (B2' : Nat) (v2c' : G_api_Entry) (T2' : Nat) (e5' : Addr) (used6' : Int) (v12' : G_ar9_p_i64) (v13' : Int) (w : World) : Prop :=
  LoopC N w [⟨B2', v2c'.cells, T2'⟩] ((b0', e5', v12', B2', T2') : Sl × Addr × G_ar9_p_i64 × Nat × Nat) ((v2c', used6', v13') : G_api_Entry × Int × Int) (L_entry_Read_6 N Q)

noncomputable def H_entry_Read_5 (N : Nat) (Q : VP) : St → World → Prop := HG N 41 [.v 0 .l, .c 2 (.g R_api_Entry), .v 5 .p, .v 6 (.i .i64), .v 12 (.g R_ar9_p_i64), .v 13 (.i .i64)] (C_entry_Read_5 N Q)

theorem T_entry_Read_5 (N : Nat) (Q : VP) (s : St) (w : World) (h : H_entry_Read_5 N Q s w) : Snd (cy N [2]) k_entry_Read_0 (thenD (H_entry_Read_4 N Q) (retD (cy N [2]) Try.f132 Q)) s w :=
  Snd.HG h fun b0' B2' v2c' T2' e5' used6' v12' v13' w h => (bk 0 (T_entry_Read_6 N Q (mpr' (by kernel_rfl) h)))

def C_entry_Read_3 (N : Nat) (Q : VP) (b0' : Sl) (B2' : Nat) (v2c' : G_api_Entry) (T2' : Nat) (e5' : Addr) (used6' : Int) (w : World) : Prop :=
  CallL PP N w [⟨B2', v2c'.cells, T2'⟩] n_entry_places [(.pointer (some e5'))] fun r17 w18 => ∃ x16 : G_ar9_p_i64, r17 = (.agg (List.toArray x16.cells)) ∧ Reb N w18 [⟨B2', v2c'.cells, T2'⟩] fun w19 => C_entry_Read_5 N Q b0' B2' v2c' T2' e5' used6' x16 0 w19

noncomputable def H_entry_Read_3 (N : Nat) (Q : VP) : St → World → Prop := HG N 41 [.v 0 .l, .c 2 (.g R_api_Entry), .v 5 .p, .v 6 (.i .i64)] (C_entry_Read_3 N Q)

theorem T_entry_Read_3 (N : Nat) (Q : VP) (s : St) (w : World) (h : H_entry_Read_3 N Q s w) : Snd (cy N [2]) (cR (cR (cR (bodyOf Try.f132)))) (retD (cy N [2]) Try.f132 Q) s w :=
  Snd.HG h fun b0' B2' v2c' T2' e5' used6' w h => (sq (H_entry_Read_4 N Q) (sq (H_entry_Read_5 N Q) (dsm h) (T_entry_Read_5 N Q)) (T_entry_Read_4 N Q))

def C_entry_Read_2 (N : Nat) (Q : VP) (b0' : Sl) (B2' : Nat) (v2c' : G_api_Entry) (T2' : Nat) (e5' : Addr) (w : World) : Prop :=
  Reb N w [⟨B2', v2c'.cells, T2'⟩] fun w20 => C_entry_Read_3 N Q b0' B2' v2c' T2' e5' 0 w20

noncomputable def H_entry_Read_2 (N : Nat) (Q : VP) : St → World → Prop := HG N 41 [.v 0 .l, .c 2 (.g R_api_Entry), .v 5 .p] (C_entry_Read_2 N Q)

theorem T_entry_Read_2 (N : Nat) (Q : VP) (s : St) (w : World) (h : H_entry_Read_2 N Q s w) : Snd (cy N [2]) (cR (cR (bodyOf Try.f132))) (retD (cy N [2]) Try.f132 Q) s w :=
  Snd.HG h fun b0' B2' v2c' T2' e5' w h => (sq (H_entry_Read_3 N Q) (dsm h) (T_entry_Read_3 N Q))

def C_entry_Read_1 (N : Nat) (Q : VP) (b0' : Sl) (B2' : Nat) (v2c' : G_api_Entry) (T2' : Nat) (w : World) : Prop :=
  NewL N w [⟨B2', v2c'.cells, T2'⟩] (⟨0, 0, 0, 0, 0, 0, 0, 0, 0⟩ : G_api_Entry).cells t_api_Entry fun b21 w22 => Reb N w22 [⟨B2', v2c'.cells, T2'⟩] fun w23 => C_entry_Read_2 N Q b0' B2' v2c' T2' ⟨b21, 0, none⟩ w23

noncomputable def H_entry_Read_1 (N : Nat) (Q : VP) : St → World → Prop := HG N 41 [.v 0 .l, .c 2 (.g R_api_Entry)] (C_entry_Read_1 N Q)

theorem T_entry_Read_1 (N : Nat) (Q : VP) (s : St) (w : World) (h : H_entry_Read_1 N Q s w) : Snd (cy N [2]) (cR (bodyOf Try.f132)) (retD (cy N [2]) Try.f132 Q) s w :=
  Snd.HG h fun b0' B2' v2c' T2' w h => (sq (H_entry_Read_2 N Q) (dsm h) (T_entry_Read_2 N Q))

def F_entry_Read (N : Nat) (b0 : Sl) (Q : VP) (w : World) : Prop :=
  ∀ b24 : Nat, w.heap.size ≤ b24 → Reb N w [⟨b24, (⟨0, 0, 0, 0, 0, 0, 0, 0, 0⟩ : G_api_Entry).cells, t_api_Entry⟩] fun w25 => C_entry_Read_1 N Q b0 b24 (⟨0, 0, 0, 0, 0, 0, 0, 0, 0⟩ : G_api_Entry) t_api_Entry w25

theorem entry_Read_snd (N : Nat) (b0 : Sl) (Q : VP) (w : World) (h : F_entry_Read N b0 Q w) : Snd (cy N [2]) (bodyOf Try.f132) (retD (cy N [2]) Try.f132 Q) (entry 41 [(.slice b0.a b0.n b0.c)]) w :=
  (sq (H_entry_Read_1 N Q) (dsm h) (T_entry_Read_1 N Q))

theorem entry_Read_calls (b0 : Sl) (Q : VP) (w : World) (h : F_entry_Read w.heap.size b0 Q w) : Calls PP n_entry_Read [(.slice b0.a b0.n b0.c)].toArray w fun e w' => ∃ v, e = .returned v ∧ Q v w' :=
  calls_of (C := cy w.heap.size [2]) (fn := Try.f132) (c := (bodyOf Try.f132)) (by kernel_rfl) (by kernel_rfl) (Nat.le_refl _) (entry_Read_snd _ b0 Q w h)

/-! ### cellplaneref06_Read -/
def C_cellplaneref06_Read_4 (N : Nat) (Q : VP) (B2' : Nat) (v2c' : G_api_Entry) (T2' : Nat) (l5' : Addr) (at6' : Int) (w : World) : Prop :=
  (0 : Int) ≤ 0 ∧ (0 : Int) < (9 : Nat) ∧ ∃ n1 : Int, At w ((l5' : Addr).add ((0 : Int).toNat * 1)) [(.int .i64 n1)] ∧ NotIn (((l5' : Addr).add ((0 : Int).toNat * 1)) : Addr).block [⟨B2', v2c'.cells, T2'⟩] ∧ (0 : Int) ≤ 1 ∧ (1 : Int) < (9 : Nat) ∧ ∃ n2 : Int, At w ((l5' : Addr).add ((1 : Int).toNat * 1)) [(.int .i64 n2)] ∧ NotIn (((l5' : Addr).add ((1 : Int).toNat * 1)) : Addr).block [⟨B2', v2c'.cells, T2'⟩] ∧ (0 : Int) ≤ 2 ∧ (2 : Int) < (9 : Nat) ∧ ∃ n3 : Int, At w ((l5' : Addr).add ((2 : Int).toNat * 1)) [(.int .i64 n3)] ∧ NotIn (((l5' : Addr).add ((2 : Int).toNat * 1)) : Addr).block [⟨B2', v2c'.cells, T2'⟩] ∧ (0 : Int) ≤ 3 ∧ (3 : Int) < (9 : Nat) ∧ ∃ n4 : Int, At w ((l5' : Addr).add ((3 : Int).toNat * 1)) [(.int .i64 n4)] ∧ NotIn (((l5' : Addr).add ((3 : Int).toNat * 1)) : Addr).block [⟨B2', v2c'.cells, T2'⟩] ∧ (0 : Int) ≤ 4 ∧ (4 : Int) < (9 : Nat) ∧ ∃ n5 : Int, At w ((l5' : Addr).add ((4 : Int).toNat * 1)) [(.int .i64 n5)] ∧ NotIn (((l5' : Addr).add ((4 : Int).toNat * 1)) : Addr).block [⟨B2', v2c'.cells, T2'⟩] ∧ (0 : Int) ≤ 5 ∧ (5 : Int) < (9 : Nat) ∧ ∃ n6 : Int, At w ((l5' : Addr).add ((5 : Int).toNat * 1)) [(.int .i64 n6)] ∧ NotIn (((l5' : Addr).add ((5 : Int).toNat * 1)) : Addr).block [⟨B2', v2c'.cells, T2'⟩] ∧ (0 : Int) ≤ 6 ∧ (6 : Int) < (9 : Nat) ∧ ∃ n7 : Int, At w ((l5' : Addr).add ((6 : Int).toNat * 1)) [(.int .i64 n7)] ∧ NotIn (((l5' : Addr).add ((6 : Int).toNat * 1)) : Addr).block [⟨B2', v2c'.cells, T2'⟩] ∧ (0 : Int) ≤ 7 ∧ (7 : Int) < (9 : Nat) ∧ ∃ n8 : Int, At w ((l5' : Addr).add ((7 : Int).toNat * 1)) [(.int .i64 n8)] ∧ NotIn (((l5' : Addr).add ((7 : Int).toNat * 1)) : Addr).block [⟨B2', v2c'.cells, T2'⟩] ∧ (0 : Int) ≤ 8 ∧ (8 : Int) < (9 : Nat) ∧ ∃ n9 : Int, At w ((l5' : Addr).add ((8 : Int).toNat * 1)) [(.int .i64 n9)] ∧ NotIn (((l5' : Addr).add ((8 : Int).toNat * 1)) : Addr).block [⟨B2', v2c'.cells, T2'⟩] ∧ ∀ b10 : Nat, w.heap.size ≤ b10 → CallL PP N w [⟨B2', v2c'.cells, T2'⟩, ⟨b10, (⟨n1, n2, n3, n4, n5, n6, n7, n8, n9⟩ : G_api_Entry).cells, t_api_Entry⟩] n_cellplaneref06_Shape [(.agg (List.toArray (⟨n1, n2, n3, n4, n5, n6, n7, n8, n9⟩ : G_api_Entry).cells))] fun r12 w13 => ∃ b11 : Bool, r12 = (.bool b11) ∧ IfB (!b11) (Reb N w13 [⟨B2', (⟨0, 0, 0, 0, 0, 0, 0, 0, 0⟩ : G_api_Entry).cells, T2'⟩, ⟨b10, (⟨n1, n2, n3, n4, n5, n6, n7, n8, n9⟩ : G_api_Entry).cells, t_api_Entry⟩] (Q (.tuple #[(.agg (List.toArray (⟨0, 0, 0, 0, 0, 0, 0, 0, 0⟩ : G_api_Entry).cells)), (.int .i64 0), (.int .i64 18)]))) (Reb N w13 [⟨B2', (⟨n1, n2, n3, n4, n5, n6, n7, n8, n9⟩ : G_api_Entry).cells, T2'⟩, ⟨b10, (⟨n1, n2, n3, n4, n5, n6, n7, n8, n9⟩ : G_api_Entry).cells, t_api_Entry⟩] (Q (.tuple #[(.agg (List.toArray (⟨n1, n2, n3, n4, n5, n6, n7, n8, n9⟩ : G_api_Entry).cells)), (.int .i64 at6'), (.int .i64 0)])))

noncomputable def H_cellplaneref06_Read_4 (N : Nat) (Q : VP) : St → World → Prop := HG N 59 [.c 2 (.g R_api_Entry), .v 5 .p, .v 6 (.i .i64)] (C_cellplaneref06_Read_4 N Q)

theorem T_cellplaneref06_Read_4 (N : Nat) (Q : VP) (s : St) (w : World) (h : H_cellplaneref06_Read_4 N Q s w) : Snd (cy N [2, 11]) (cR (cR (cR (cR (bodyOf Try.f161))))) (retD (cy N [2, 11]) Try.f161 Q) s w :=
  Snd.HG h fun _ _ _ _ _ _ h => dsm h

noncomputable def k_cellplaneref06_Read_0 : Code := (cR (cL (cR (cR (cR (bodyOf Try.f161))))))

noncomputable def z_cellplaneref06_Read_1 (N : Nat) (Q : VP) : Cont := (thenD (H_cellplaneref06_Read_4 N Q) (retD (cy N [2, 11]) Try.f161 Q))

def D_cellplaneref06_Read_6 (K : (Sl × Addr × Nat × Nat) → (G_api_Entry × Int × Int) → Prop) : List Value → List LB → Prop := fun vs ls => match vs, ls with
  | [.slice b0'_a b0'_n b0'_c, .pointer (some l5'), .int .i64 at6', .int .i64 i7'], [⟨B2', v2c'_r, T2'⟩] => G_api_Entry.decL v2c'_r fun v2c' => K (⟨b0'_a, b0'_n, b0'_c⟩, l5', B2', T2') (v2c', at6', i7')
  | _, _ => False

def B_cellplaneref06_Read_6 (N : Nat) (K1 : (Sl × Addr × Nat × Nat) → (G_api_Entry × Int × Int) → World → Prop) (Q : VP) (b0' : Sl) (B2' : Nat) (v2c' : G_api_Entry) (T2' : Nat) (l5' : Addr) (at6' i7' : Int) (w : World) : Prop :=
  IfB (decide ((i7' : Int) < 9)) ((0 : Int) ≤ at6' ∧ (at6' : Int) ≤ (b0'.n : Nat) ∧ CallL PP N w [⟨B2', v2c'.cells, T2'⟩] n_cellplaneref01_TakeInt [(.slice (slA b0'.a b0'.c (at6' : Int).toNat 1) (b0'.n - (at6' : Int).toNat) (b0'.c - (at6' : Int).toNat))] fun r17 w18 => ∃ n14 : Int, ∃ n15 : Int, ∃ n16 : Int, r17 = (.tuple #[(.int .i64 n14), (.int .i64 n15), (.int .i64 n16)]) ∧ IfB (!decide ((n16 : Int) = 0)) (Reb N w18 [⟨B2', (⟨0, 0, 0, 0, 0, 0, 0, 0, 0⟩ : G_api_Entry).cells, T2'⟩] (Q (.tuple #[(.agg (List.toArray (⟨0, 0, 0, 0, 0, 0, 0, 0, 0⟩ : G_api_Entry).cells)), (.int .i64 0), (.int .i64 n16)]))) ((0 : Int) ≤ i7' ∧ (i7' : Int) < (9 : Nat) ∧ StL w18 [⟨B2', v2c'.cells, T2'⟩] ((l5' : Addr).add ((i7' : Int).toNat * 1)) [(.int .i64 n14)] fun w19 => Reb N w19 [⟨B2', v2c'.cells, T2'⟩] fun w20 => K1 (b0', l5', B2', T2') (v2c', (IntKind.i64.wrap (at6' + n15)), (IntKind.i64.wrap (i7' + 1))) w20)) (Reb N w [⟨B2', v2c'.cells, T2'⟩] fun w21 => C_cellplaneref06_Read_4 N Q B2' v2c' T2' l5' at6' w21)

theorem X_cellplaneref06_Read_6 {N : Nat} {K1 : (Sl × Addr × Nat × Nat) → (G_api_Entry × Int × Int) → World → Prop} {Q : VP} {b0' : Sl} {B2' : Nat} {v2c' : G_api_Entry} {T2' : Nat} {l5' : Addr} {at6' i7' : Int} {w : World} (h : B_cellplaneref06_Read_6 N K1 Q b0' B2' v2c' T2' l5' at6' i7' w) : Snd (cy N [2, 11]) (cL (cL k_cellplaneref06_Read_0)) (thenD (HeadK N 59 [.val 0, .loc 2, .val 5, .val 6, .val 7] D_cellplaneref06_Read_6 K1) (inBlockD 0 (z_cellplaneref06_Read_1 N Q))) (mkS 59 [.val 0, .loc 2, .val 5, .val 6, .val 7] [(.slice b0'.a b0'.n b0'.c), (.pointer (some l5')), (.int .i64 at6'), (.int .i64 i7')] [⟨B2', v2c'.cells, T2'⟩]) w :=
  (dsm h)

def L_cellplaneref06_Read_6 (N : Nat) (Q : VP) (K1 : (Sl × Addr × Nat × Nat) → (G_api_Entry × Int × Int) → World → Prop) (c : Sl × Addr × Nat × Nat) (x : G_api_Entry × Int × Int) (w : World) : Prop := match c, x with
  | (b0', l5', B2', T2'), (v2c', at6', i7') => B_cellplaneref06_Read_6 N K1 Q b0' B2' v2c' T2' l5' at6' i7' w

theorem T_cellplaneref06_Read_6 (N : Nat) (Q : VP) {s : St} {w : World} (h : HeadE N 59 [.val 0, .loc 2, .val 5, .val 6, .val 7] D_cellplaneref06_Read_6 (L_cellplaneref06_Read_6 N Q) s w) : Snd (cy N [2, 11]) (cL k_cellplaneref06_Read_0) (inBlockD 0 (z_cellplaneref06_Read_1 N Q)) s w := by
  refine Snd.cast (c' := .loop (cL (cL k_cellplaneref06_Read_0))) (by kernel_rfl) (Snd.loopC (fun (c : Sl × Addr × Nat × Nat) (x : G_api_Entry × Int × Int) => match c, x with | (b0', l5', B2', T2'), (v2c', at6', i7') => ([(.slice b0'.a b0'.n b0'.c), (.pointer (some l5')), (.int .i64 at6'), (.int .i64 i7')], [⟨B2', v2c'.cells, T2'⟩])) ?_ ?_ h)
  · intro K vs ls h
    unfold D_cellplaneref06_Read_6 at h
    split at h
    · obtain ⟨v2c', rfl, h0⟩ := G_api_Entry.decL_spec h
      exact ⟨_, _, rfl, h0⟩
    · exact h.elim
  · rintro K ⟨b0', l5', B2', T2'⟩ ⟨v2c', at6', i7'⟩ w h
    exact X_cellplaneref06_Read_6 h

def C_cellplaneref06_Read_5 (N : Nat) (Q : VP) (b0' : Sl) (B2' : Nat) (v2c' : G_api_Entry) (T2' : Nat) (l5' : Addr) (at6' i7' : Int) (w : World) : Prop :=
  LoopC N w [⟨B2', v2c'.cells, T2'⟩] ((b0', l5', B2', T2') : Sl × Addr × Nat × Nat) ((v2c', at6', i7') : G_api_Entry × Int × Int) (L_cellplaneref06_Read_6 N Q)

noncomputable def H_cellplaneref06_Read_5 (N : Nat) (Q : VP) : St → World → Prop := HG N 59 [.v 0 .l, .c 2 (.g R_api_Entry), .v 5 .p, .v 6 (.i .i64), .v 7 (.i .i64)] (C_cellplaneref06_Read_5 N Q)

theorem T_cellplaneref06_Read_5 (N : Nat) (Q : VP) (s : St) (w : World) (h : H_cellplaneref06_Read_5 N Q s w) : Snd (cy N [2, 11]) k_cellplaneref06_Read_0 (z_cellplaneref06_Read_1 N Q) s w :=
  Snd.HG h fun b0' B2' v2c' T2' l5' at6' i7' w h => (bk 0 (T_cellplaneref06_Read_6 N Q (mpr' (by kernel_rfl) h)))

def C_cellplaneref06_Read_3 (N : Nat) (Q : VP) (b0' : Sl) (B2' : Nat) (v2c' : G_api_Entry) (T2' : Nat) (l5' : Addr) (at6' : Int) (w : World) : Prop :=
  Reb N w [⟨B2', v2c'.cells, T2'⟩] fun w22 => C_cellplaneref06_Read_5 N Q b0' B2' v2c' T2' l5' at6' 0 w22

noncomputable def H_cellplaneref06_Read_3 (N : Nat) (Q : VP) : St → World → Prop := HG N 59 [.v 0 .l, .c 2 (.g R_api_Entry), .v 5 .p, .v 6 (.i .i64)] (C_cellplaneref06_Read_3 N Q)

theorem T_cellplaneref06_Read_3 (N : Nat) (Q : VP) (s : St) (w : World) (h : H_cellplaneref06_Read_3 N Q s w) : Snd (cy N [2, 11]) (cR (cR (cR (bodyOf Try.f161)))) (retD (cy N [2, 11]) Try.f161 Q) s w :=
  Snd.HG h fun b0' B2' v2c' T2' l5' at6' w h => (sq (H_cellplaneref06_Read_4 N Q) (sq (H_cellplaneref06_Read_5 N Q) (dsm h) (T_cellplaneref06_Read_5 N Q)) (T_cellplaneref06_Read_4 N Q))

def C_cellplaneref06_Read_2 (N : Nat) (Q : VP) (b0' : Sl) (B2' : Nat) (v2c' : G_api_Entry) (T2' : Nat) (l5' : Addr) (w : World) : Prop :=
  Reb N w [⟨B2', v2c'.cells, T2'⟩] fun w23 => C_cellplaneref06_Read_3 N Q b0' B2' v2c' T2' l5' 0 w23

noncomputable def H_cellplaneref06_Read_2 (N : Nat) (Q : VP) : St → World → Prop := HG N 59 [.v 0 .l, .c 2 (.g R_api_Entry), .v 5 .p] (C_cellplaneref06_Read_2 N Q)

theorem T_cellplaneref06_Read_2 (N : Nat) (Q : VP) (s : St) (w : World) (h : H_cellplaneref06_Read_2 N Q s w) : Snd (cy N [2, 11]) (cR (cR (bodyOf Try.f161))) (retD (cy N [2, 11]) Try.f161 Q) s w :=
  Snd.HG h fun b0' B2' v2c' T2' l5' w h => (sq (H_cellplaneref06_Read_3 N Q) (dsm h) (T_cellplaneref06_Read_3 N Q))

def C_cellplaneref06_Read_1 (N : Nat) (Q : VP) (b0' : Sl) (B2' : Nat) (v2c' : G_api_Entry) (T2' : Nat) (w : World) : Prop :=
  NewL N w [⟨B2', v2c'.cells, T2'⟩] (⟨0, 0, 0, 0, 0, 0, 0, 0, 0⟩ : G_ar9_i64).cells t_ar9_i64 fun b24 w25 => Reb N w25 [⟨B2', v2c'.cells, T2'⟩] fun w26 => C_cellplaneref06_Read_2 N Q b0' B2' v2c' T2' ⟨b24, 0, none⟩ w26

noncomputable def H_cellplaneref06_Read_1 (N : Nat) (Q : VP) : St → World → Prop := HG N 59 [.v 0 .l, .c 2 (.g R_api_Entry)] (C_cellplaneref06_Read_1 N Q)

theorem T_cellplaneref06_Read_1 (N : Nat) (Q : VP) (s : St) (w : World) (h : H_cellplaneref06_Read_1 N Q s w) : Snd (cy N [2, 11]) (cR (bodyOf Try.f161)) (retD (cy N [2, 11]) Try.f161 Q) s w :=
  Snd.HG h fun b0' B2' v2c' T2' w h => (sq (H_cellplaneref06_Read_2 N Q) (dsm h) (T_cellplaneref06_Read_2 N Q))

def F_cellplaneref06_Read (N : Nat) (b0 : Sl) (Q : VP) (w : World) : Prop :=
  ∀ b27 : Nat, w.heap.size ≤ b27 → Reb N w [⟨b27, (⟨0, 0, 0, 0, 0, 0, 0, 0, 0⟩ : G_api_Entry).cells, t_api_Entry⟩] fun w28 => C_cellplaneref06_Read_1 N Q b0 b27 (⟨0, 0, 0, 0, 0, 0, 0, 0, 0⟩ : G_api_Entry) t_api_Entry w28

theorem cellplaneref06_Read_snd (N : Nat) (b0 : Sl) (Q : VP) (w : World) (h : F_cellplaneref06_Read N b0 Q w) : Snd (cy N [2, 11]) (bodyOf Try.f161) (retD (cy N [2, 11]) Try.f161 Q) (entry 59 [(.slice b0.a b0.n b0.c)]) w :=
  (sq (H_cellplaneref06_Read_1 N Q) (dsm h) (T_cellplaneref06_Read_1 N Q))

theorem cellplaneref06_Read_calls (b0 : Sl) (Q : VP) (w : World) (h : F_cellplaneref06_Read w.heap.size b0 Q w) : Calls PP n_cellplaneref06_Read [(.slice b0.a b0.n b0.c)].toArray w fun e w' => ∃ v, e = .returned v ∧ Q v w' :=
  calls_of (C := cy w.heap.size [2, 11]) (fn := Try.f161) (c := (bodyOf Try.f161)) (by kernel_rfl) (by kernel_rfl) (Nat.le_refl _) (cellplaneref06_Read_snd _ b0 Q w h)

/-! ### cellplaneref01_code -/
def F_cellplaneref01_code (N : Nat) (n0 : Int) (Q : VP) (w : World) : Prop :=
  IfB (decide ((0 : Int) ≤ n0)) (Reb N w [] (Q (.int .u64 (IntKind.u64.wrap (2 * (IntKind.u64.wrap n0)))))) (Reb N w [] (Q (.int .u64 (IntKind.u64.wrap ((IntKind.u64.wrap (2 * (IntKind.u64.wrap (IntKind.i64.wrap (0 - (IntKind.i64.wrap (n0 + 1))))))) + 1)))))

theorem cellplaneref01_code_snd (N : Nat) (n0 : Int) (Q : VP) (w : World) (h : F_cellplaneref01_code N n0 Q w) : Snd (cy N []) (bodyOf Try.f145) (retD (cy N []) Try.f145 Q) (entry 14 [(.int .i64 n0)]) w :=
  (dsm h)

theorem cellplaneref01_code_calls (n0 : Int) (Q : VP) (w : World) (h : F_cellplaneref01_code w.heap.size n0 Q w) : Calls PP n_cellplaneref01_code [(.int .i64 n0)].toArray w fun e w' => ∃ v, e = .returned v ∧ Q v w' :=
  calls_of (C := cy w.heap.size []) (fn := Try.f145) (c := (bodyOf Try.f145)) (by kernel_rfl) (by kernel_rfl) (Nat.le_refl _) (cellplaneref01_code_snd _ n0 Q w h)
end Go.Sh
