/- What these functions do, told by computation: a formula for each, and that its calls do what the formula says.
   Conditions: none. -/
import Derived.Test.YtcligpfkmnlhnaaBase
namespace Go.Sh
open Go
set_option linter.unusedVariables false
set_option maxRecDepth 100000

/-! ### cellplaneref24_Valid -/
def F_cellplaneref24_Valid (N : Nat) (x0 : G_api_Change) (Q : Value → World → Prop) (w : World) : Prop :=
  ∀ b1 : Nat, w.heap.size ≤ b1 → CallL PP N w [⟨b1, x0.cells, t_api_Change⟩] n_cellplaneref24_in [(.int .i64 x0.Epoch), (.int .i64 1), (.int .i64 1048576)] fun r3 w4 => ∃ b2 : Bool, r3 = (.bool b2) ∧ IfB (!b2) (Reb N w4 [⟨b1, x0.cells, t_api_Change⟩] (Q (.bool false))) (CallL PP N w4 [⟨b1, x0.cells, t_api_Change⟩] n_cellplaneref24_in [(.int .i64 x0.Seq), (.int .i64 1), (.int .i64 4096)] fun r6 w7 => ∃ b5 : Bool, r6 = (.bool b5) ∧ IfB (!b5) (Reb N w7 [⟨b1, x0.cells, t_api_Change⟩] (Q (.bool false))) (CallL PP N w7 [⟨b1, x0.cells, t_api_Change⟩] n_cellplaneref24_in [(.int .i64 x0.Client), (.int .i64 1), (.int .i64 8)] fun r9 w10 => ∃ b8 : Bool, r9 = (.bool b8) ∧ IfB (!b8) (Reb N w10 [⟨b1, x0.cells, t_api_Change⟩] (Q (.bool false))) (CallL PP N w10 [⟨b1, x0.cells, t_api_Change⟩] n_cellplaneref24_in [(.int .i64 x0.Number), (.int .i64 1), (.int .i64 1048576)] fun r12 w13 => ∃ b11 : Bool, r12 = (.bool b11) ∧ IfB (!b11) (Reb N w13 [⟨b1, x0.cells, t_api_Change⟩] (Q (.bool false))) (IfB (decide ((x0.Kind : Int) = 1)) (CallL PP N w13 [⟨b1, x0.cells, t_api_Change⟩] n_cellplaneref24_Key [(.string x0.Key)] fun r15 w16 => ∃ b14 : Bool, r15 = (.bool b14) ∧ IfB b14 (CallL PP N w16 [⟨b1, x0.cells, t_api_Change⟩] n_cellplaneref24_Value [(.string x0.Value_)] fun r18 w19 => ∃ b17 : Bool, r18 = (.bool b17) ∧ IfB b17 (Reb N w19 [⟨b1, x0.cells, t_api_Change⟩] (Q (.bool (decide ((x0.Item : Int) = 0))))) (Reb N w19 [⟨b1, x0.cells, t_api_Change⟩] (Q (.bool false)))) (Reb N w16 [⟨b1, x0.cells, t_api_Change⟩] (Q (.bool false)))) (IfB (decide ((x0.Kind : Int) = 2)) (CallL PP N w13 [⟨b1, x0.cells, t_api_Change⟩] n_cellplaneref24_Key [(.string x0.Key)] fun r21 w22 => ∃ b20 : Bool, r21 = (.bool b20) ∧ IfB b20 (IfB (strEq x0.Value_ { data := #[] }) (Reb N w22 [⟨b1, x0.cells, t_api_Change⟩] (Q (.bool (decide ((x0.Item : Int) = 0))))) (Reb N w22 [⟨b1, x0.cells, t_api_Change⟩] (Q (.bool false)))) (Reb N w22 [⟨b1, x0.cells, t_api_Change⟩] (Q (.bool false)))) (IfB (decide ((x0.Kind : Int) = 3)) (IfB (strEq x0.Key { data := #[] }) (CallL PP N w13 [⟨b1, x0.cells, t_api_Change⟩] n_cellplaneref24_Value [(.string x0.Value_)] fun r24 w25 => ∃ b23 : Bool, r24 = (.bool b23) ∧ IfB b23 (Reb N w25 [⟨b1, x0.cells, t_api_Change⟩] (Q (.bool (decide ((x0.Item : Int) = 0))))) (Reb N w25 [⟨b1, x0.cells, t_api_Change⟩] (Q (.bool false)))) (Reb N w13 [⟨b1, x0.cells, t_api_Change⟩] (Q (.bool false)))) (IfB (decide ((x0.Kind : Int) = 4)) (IfB (strEq x0.Key { data := #[] }) (IfB (strEq x0.Value_ { data := #[] }) (CallL PP N w13 [⟨b1, x0.cells, t_api_Change⟩] n_cellplaneref24_in [(.int .i64 x0.Item), (.int .i64 1), (.int .i64 (IntKind.i64.wrap (x0.Seq - 1)))] fun r27 w28 => ∃ b26 : Bool, r27 = (.bool b26) ∧ Reb N w28 [⟨b1, x0.cells, t_api_Change⟩] (Q (.bool b26))) (Reb N w13 [⟨b1, x0.cells, t_api_Change⟩] (Q (.bool false)))) (Reb N w13 [⟨b1, x0.cells, t_api_Change⟩] (Q (.bool false)))) (Reb N w13 [⟨b1, x0.cells, t_api_Change⟩] (Q (.bool false))))))))))

theorem cellplaneref24_Valid_snd (N : Nat) (x0 : G_api_Change) (Q : Value → World → Prop) (w : World) (h : F_cellplaneref24_Valid N x0 Q w) : Snd (cx N (fun d => memN d [1])) (bodyOf Go.Proofs.Try.f30) (retD (cx N (fun d => memN d [1])) Go.Proofs.Try.f30 Q) (entry 90 [(.agg (List.toArray x0.cells))]) w :=
  (den_sound okc mixed _ _ _ _ (mpr' (by kernel_rfl) h))

theorem cellplaneref24_Valid_calls (x0 : G_api_Change) (Q : Value → World → Prop) (w : World) (h : F_cellplaneref24_Valid w.heap.size x0 Q w) : Calls PP n_cellplaneref24_Valid [(.agg (List.toArray x0.cells))].toArray w fun e w' => ∃ v, e = .returned v ∧ Q v w' :=
  calls_of (C := cx w.heap.size (fun d => memN d [1])) (fn := Go.Proofs.Try.f30) (c := (bodyOf Go.Proofs.Try.f30)) (by kernel_rfl) (by kernel_rfl) (Nat.le_refl _) (cellplaneref24_Valid_snd _ x0 Q w h)

/-! ### cellplaneref26_Table_Find -/
def F_cellplaneref26_Table_Find (N : Nat) (t0 : Option Addr) (client1 : Int) (number2 : Int) (Q : Value → World → Prop) (w : World) : Prop :=
  ∀ b1 : Nat, w.heap.size ≤ b1 → IfB (decide ((client1 : Int) < 1)) (Reb N w [⟨b1, (⟨0, 0, 0, ByteArray.empty⟩ : G_api_Reply).cells, t_api_Reply⟩] (Q (.tuple #[(.agg (List.toArray (⟨0, 0, 0, ByteArray.empty⟩ : G_api_Reply).cells)), (.int .i64 1)]))) (IfB (decide ((8 : Int) < client1)) (Reb N w [⟨b1, (⟨0, 0, 0, ByteArray.empty⟩ : G_api_Reply).cells, t_api_Reply⟩] (Q (.tuple #[(.agg (List.toArray (⟨0, 0, 0, ByteArray.empty⟩ : G_api_Reply).cells)), (.int .i64 1)]))) (IfB (decide ((number2 : Int) < 1)) (Reb N w [⟨b1, (⟨0, 0, 0, ByteArray.empty⟩ : G_api_Reply).cells, t_api_Reply⟩] (Q (.tuple #[(.agg (List.toArray (⟨0, 0, 0, ByteArray.empty⟩ : G_api_Reply).cells)), (.int .i64 1)]))) (IfB (decide ((1048576 : Int) < number2)) (Reb N w [⟨b1, (⟨0, 0, 0, ByteArray.empty⟩ : G_api_Reply).cells, t_api_Reply⟩] (Q (.tuple #[(.agg (List.toArray (⟨0, 0, 0, ByteArray.empty⟩ : G_api_Reply).cells)), (.int .i64 1)]))) (NilL t0 fun q2 => (0 : Int) ≤ (IntKind.i64.wrap (client1 - 1)) ∧ ((IntKind.i64.wrap (client1 - 1)) : Int) < (8 : Nat) ∧ ∃ n3 : Int, At w ((q2 : Addr).add (((IntKind.i64.wrap (client1 - 1)) : Int).toNat * 1)) [(.int .i64 n3)] ∧ NotIn (((q2 : Addr).add (((IntKind.i64.wrap (client1 - 1)) : Int).toNat * 1)) : Addr).block [⟨b1, (⟨0, 0, 0, ByteArray.empty⟩ : G_api_Reply).cells, t_api_Reply⟩] ∧ IfB (decide (((IntKind.i64.wrap (number2 - n3)) : Int) = 0)) (NilL t0 fun q4 => (0 : Int) ≤ (IntKind.i64.wrap (client1 - 1)) ∧ ((IntKind.i64.wrap (client1 - 1)) : Int) < (8 : Nat) ∧ ∃ x5 : G_api_Reply, At w (((addA q4 8) : Addr).add (((IntKind.i64.wrap (client1 - 1)) : Int).toNat * 4)) x5.cells ∧ NotIn ((((addA q4 8) : Addr).add (((IntKind.i64.wrap (client1 - 1)) : Int).toNat * 4)) : Addr).block [⟨b1, (⟨0, 0, 0, ByteArray.empty⟩ : G_api_Reply).cells, t_api_Reply⟩] ∧ Reb N w [⟨b1, x5.cells, t_api_Reply⟩] (Q (.tuple #[(.agg (List.toArray x5.cells)), (.int .i64 0)]))) (IfB (decide (((IntKind.i64.wrap (number2 - n3)) : Int) = 1)) (Reb N w [⟨b1, (⟨0, 0, 0, ByteArray.empty⟩ : G_api_Reply).cells, t_api_Reply⟩] (Q (.tuple #[(.agg (List.toArray (⟨0, 0, 0, ByteArray.empty⟩ : G_api_Reply).cells)), (.int .i64 34)]))) (Reb N w [⟨b1, (⟨0, 0, 0, ByteArray.empty⟩ : G_api_Reply).cells, t_api_Reply⟩] (Q (.tuple #[(.agg (List.toArray (⟨0, 0, 0, ByteArray.empty⟩ : G_api_Reply).cells)), (.int .i64 32)]))))))))

theorem cellplaneref26_Table_Find_snd (N : Nat) (t0 : Option Addr) (client1 : Int) (number2 : Int) (Q : Value → World → Prop) (w : World) (h : F_cellplaneref26_Table_Find N t0 client1 number2 Q w) : Snd (cx N (fun d => memN d [6])) (bodyOf Go.Proofs.Try.f31) (retD (cx N (fun d => memN d [6])) Go.Proofs.Try.f31 Q) (entry 45 [(.pointer t0), (.int .i64 client1), (.int .i64 number2)]) w :=
  (den_sound okc mixed _ _ _ _ (mpr' (by kernel_rfl) h))

theorem cellplaneref26_Table_Find_calls (t0 : Option Addr) (client1 : Int) (number2 : Int) (Q : Value → World → Prop) (w : World) (h : F_cellplaneref26_Table_Find w.heap.size t0 client1 number2 Q w) : Calls PP n_cellplaneref26_Table_Find [(.pointer t0), (.int .i64 client1), (.int .i64 number2)].toArray w fun e w' => ∃ v, e = .returned v ∧ Q v w' :=
  calls_of (C := cx w.heap.size (fun d => memN d [6])) (fn := Go.Proofs.Try.f31) (c := (bodyOf Go.Proofs.Try.f31)) (by kernel_rfl) (by kernel_rfl) (Nat.le_refl _) (cellplaneref26_Table_Find_snd _ t0 client1 number2 Q w h)

/-! ### cellplaneref26_Table_Last -/
def F_cellplaneref26_Table_Last (N : Nat) (t0 : Option Addr) (client1 : Int) (Q : Value → World → Prop) (w : World) : Prop :=
  IfB (decide ((client1 : Int) < 1)) (Reb N w [] (Q (.int .i64 0))) (IfB (decide ((8 : Int) < client1)) (Reb N w [] (Q (.int .i64 0))) (NilL t0 fun q1 => (0 : Int) ≤ (IntKind.i64.wrap (client1 - 1)) ∧ ((IntKind.i64.wrap (client1 - 1)) : Int) < (8 : Nat) ∧ ∃ n2 : Int, At w ((q1 : Addr).add (((IntKind.i64.wrap (client1 - 1)) : Int).toNat * 1)) [(.int .i64 n2)] ∧ NotIn (((q1 : Addr).add (((IntKind.i64.wrap (client1 - 1)) : Int).toNat * 1)) : Addr).block [] ∧ Reb N w [] (Q (.int .i64 n2))))

theorem cellplaneref26_Table_Last_snd (N : Nat) (t0 : Option Addr) (client1 : Int) (Q : Value → World → Prop) (w : World) (h : F_cellplaneref26_Table_Last N t0 client1 Q w) : Snd (cx N (fun d => memN d [])) (bodyOf Go.Proofs.Try.f32) (retD (cx N (fun d => memN d [])) Go.Proofs.Try.f32 Q) (entry 18 [(.pointer t0), (.int .i64 client1)]) w :=
  (den_sound okc mixed _ _ _ _ (mpr' (by kernel_rfl) h))

theorem cellplaneref26_Table_Last_calls (t0 : Option Addr) (client1 : Int) (Q : Value → World → Prop) (w : World) (h : F_cellplaneref26_Table_Last w.heap.size t0 client1 Q w) : Calls PP n_cellplaneref26_Table_Last [(.pointer t0), (.int .i64 client1)].toArray w fun e w' => ∃ v, e = .returned v ∧ Q v w' :=
  calls_of (C := cx w.heap.size (fun d => memN d [])) (fn := Go.Proofs.Try.f32) (c := (bodyOf Go.Proofs.Try.f32)) (by kernel_rfl) (by kernel_rfl) (Nat.le_refl _) (cellplaneref26_Table_Last_snd _ t0 client1 Q w h)

/-! ### cellplaneref24_SameInts -/
noncomputable def k_cellplaneref24_SameInts_0 : Code := (cR (cR (cR (bodyOf Go.Proofs.Try.f33))))

def C_cellplaneref24_SameInts_3 (N : Nat) (Q : Value → World → Prop) (w : World) : Prop :=
  Reb N w [] (Q (.bool true))

theorem X_cellplaneref24_SameInts_3 {N : Nat} {Q : Value → World → Prop} {w : World} (h : C_cellplaneref24_SameInts_3 N Q w) : Snd (cx N (fun d => memN d [])) k_cellplaneref24_SameInts_0 (retD (cx N (fun d => memN d [])) Go.Proofs.Try.f33 Q) (mkS 26 [] [] []) w :=
  (den_sound okc mixed _ _ _ _ (mpr' (by kernel_rfl) h))

noncomputable def H_cellplaneref24_SameInts_3 (N : Nat) (Q : Value → World → Prop) : St → World → Prop := fun s w => grabK 26 [] s fun vs ls => match vs, ls with
  | [], [] => Reb N w s.L fun wa => C_cellplaneref24_SameInts_3 N Q wa
  | _, _ => False

theorem T_cellplaneref24_SameInts_3 (N : Nat) (Q : Value → World → Prop) (s : St) (w : World) (h : H_cellplaneref24_SameInts_3 N Q s w) : Snd (cx N (fun d => memN d [])) k_cellplaneref24_SameInts_0 (retD (cx N (fun d => memN d [])) Go.Proofs.Try.f33 Q) s w := by
  refine Snd.grab h (fun vs ls hd hloc wa hl => ?_)
  split at hd
  · exact X_cellplaneref24_SameInts_3 (hd wa hl)
  · exact hd.elim

noncomputable def k_cellplaneref24_SameInts_1 : Code := (cR (cL (cR (cR (bodyOf Go.Proofs.Try.f33)))))

noncomputable def z_cellplaneref24_SameInts_2 (N : Nat) (Q : Value → World → Prop) : Cont := (thenD (H_cellplaneref24_SameInts_3 N Q) (retD (cx N (fun d => memN d [])) Go.Proofs.Try.f33 Q))

def D_cellplaneref24_SameInts_5 (K : (Sl × Sl × Int) → (Int) → Prop) : List Value → List LB → Prop := fun vs ls => match vs, ls with
  | [.slice a0'_a a0'_n a0'_c, .slice b1'_a b1'_n b1'_c, .int .i64 v12', .int .i64 v13'], [] => K (⟨a0'_a, a0'_n, a0'_c⟩, ⟨b1'_a, b1'_n, b1'_c⟩, v12') v13'
  | _, _ => False

def B_cellplaneref24_SameInts_5 (N : Nat) (K1 : (Sl × Sl × Int) → (Int) → World → Prop) (Q : Value → World → Prop) (a0' b1' : Sl) (v12' v13' : Int) (w : World) : Prop :=
  IfB (decide ((v13' : Int) < v12')) (IdxL a0'.a a0'.n v13' fun q1 => ∃ n2 : Int, At w (q1.add ((v13' : Int).toNat * 1)) [(.int .i64 n2)] ∧ NotIn ((q1.add ((v13' : Int).toNat * 1)) : Addr).block [] ∧ IdxL b1'.a b1'.n v13' fun q3 => ∃ n4 : Int, At w (q3.add ((v13' : Int).toNat * 1)) [(.int .i64 n4)] ∧ NotIn ((q3.add ((v13' : Int).toNat * 1)) : Addr).block [] ∧ IfB (!decide ((n2 : Int) = n4)) (Reb N w [] (Q (.bool false))) (Reb N w [] fun w5 => K1 (a0', b1', v12') (IntKind.i64.wrap (v13' + 1)) w5)) (Reb N w [] fun w6 => C_cellplaneref24_SameInts_3 N Q w6)

theorem X_cellplaneref24_SameInts_5 {N : Nat} {K1 : (Sl × Sl × Int) → (Int) → World → Prop} {Q : Value → World → Prop} {a0' b1' : Sl} {v12' v13' : Int} {w : World} (h : B_cellplaneref24_SameInts_5 N K1 Q a0' b1' v12' v13' w) : Snd (cx N (fun d => memN d [])) (cL (cL k_cellplaneref24_SameInts_1)) (thenD (HeadK N 26 [.val 0, .val 1, .val 12, .val 13] D_cellplaneref24_SameInts_5 K1) (inBlockD 0 (z_cellplaneref24_SameInts_2 N Q))) (mkS 26 [.val 0, .val 1, .val 12, .val 13] [(.slice a0'.a a0'.n a0'.c), (.slice b1'.a b1'.n b1'.c), (.int .i64 v12'), (.int .i64 v13')] []) w :=
  (den_sound okc mixed _ _ _ _ (mpr' (by kernel_rfl) h))

def L_cellplaneref24_SameInts_5 (N : Nat) (Q : Value → World → Prop) (K1 : (Sl × Sl × Int) → (Int) → World → Prop) (c : Sl × Sl × Int) (x : Int) (w : World) : Prop := match c, x with
  | (a0', b1', v12'), v13' => B_cellplaneref24_SameInts_5 N K1 Q a0' b1' v12' v13' w

theorem T_cellplaneref24_SameInts_5 (N : Nat) (Q : Value → World → Prop) {s : St} {w : World} (h : HeadE N 26 [.val 0, .val 1, .val 12, .val 13] D_cellplaneref24_SameInts_5 (L_cellplaneref24_SameInts_5 N Q) s w) : Snd (cx N (fun d => memN d [])) (cL k_cellplaneref24_SameInts_1) (inBlockD 0 (z_cellplaneref24_SameInts_2 N Q)) s w := by
  refine Snd.cast (c' := .loop (cL (cL k_cellplaneref24_SameInts_1))) (by kernel_rfl) (Snd.loopC (fun (c : Sl × Sl × Int) (x : Int) => match c, x with | (a0', b1', v12'), v13' => ([(.slice a0'.a a0'.n a0'.c), (.slice b1'.a b1'.n b1'.c), (.int .i64 v12'), (.int .i64 v13')], [])) ?_ ?_ h)
  · intro K vs ls h
    unfold D_cellplaneref24_SameInts_5 at h
    split at h
    · exact ⟨_, _, rfl, h⟩
    · exact h.elim
  · rintro K ⟨a0', b1', v12'⟩ v13' w h
    exact X_cellplaneref24_SameInts_5 h

def C_cellplaneref24_SameInts_4 (N : Nat) (Q : Value → World → Prop) (a0' b1' : Sl) (v12' v13' : Int) (w : World) : Prop :=
  LoopC N w [] ((a0', b1', v12') : Sl × Sl × Int) (v13' : Int) (L_cellplaneref24_SameInts_5 N Q)

theorem X_cellplaneref24_SameInts_4 {N : Nat} {Q : Value → World → Prop} {a0' b1' : Sl} {v12' v13' : Int} {w : World} (h : C_cellplaneref24_SameInts_4 N Q a0' b1' v12' v13' w) : Snd (cx N (fun d => memN d [])) k_cellplaneref24_SameInts_1 (z_cellplaneref24_SameInts_2 N Q) (mkS 26 [.val 0, .val 1, .val 12, .val 13] [(.slice a0'.a a0'.n a0'.c), (.slice b1'.a b1'.n b1'.c), (.int .i64 v12'), (.int .i64 v13')] []) w :=
  (Snd.cast (c' := .block 0 (cL k_cellplaneref24_SameInts_1)) (by kernel_rfl) (Snd.block (T_cellplaneref24_SameInts_5 N Q (mpr' (by kernel_rfl) h))))

noncomputable def H_cellplaneref24_SameInts_4 (N : Nat) (Q : Value → World → Prop) : St → World → Prop := fun s w => grabK 26 [.val 0, .val 1, .val 12, .val 13] s fun vs ls => match vs, ls with
  | [.slice a0'_a a0'_n a0'_c, .slice b1'_a b1'_n b1'_c, .int .i64 v12', .int .i64 v13'], [] => Reb N w s.L fun wa => C_cellplaneref24_SameInts_4 N Q ⟨a0'_a, a0'_n, a0'_c⟩ ⟨b1'_a, b1'_n, b1'_c⟩ v12' v13' wa
  | _, _ => False

theorem T_cellplaneref24_SameInts_4 (N : Nat) (Q : Value → World → Prop) (s : St) (w : World) (h : H_cellplaneref24_SameInts_4 N Q s w) : Snd (cx N (fun d => memN d [])) k_cellplaneref24_SameInts_1 (z_cellplaneref24_SameInts_2 N Q) s w := by
  refine Snd.grab h (fun vs ls hd hloc wa hl => ?_)
  split at hd
  · exact X_cellplaneref24_SameInts_4 (hd wa hl)
  · exact hd.elim

def C_cellplaneref24_SameInts_2 (N : Nat) (Q : Value → World → Prop) (a0' b1' : Sl) (w : World) : Prop :=
  Reb N w [] fun w7 => C_cellplaneref24_SameInts_4 N Q a0' b1' ((a0'.n : Nat) : Int) 0 w7

theorem X_cellplaneref24_SameInts_2 {N : Nat} {Q : Value → World → Prop} {a0' b1' : Sl} {w : World} (h : C_cellplaneref24_SameInts_2 N Q a0' b1' w) : Snd (cx N (fun d => memN d [])) (cR (cR (bodyOf Go.Proofs.Try.f33))) (retD (cx N (fun d => memN d [])) Go.Proofs.Try.f33 Q) (mkS 26 [.val 0, .val 1] [(.slice a0'.a a0'.n a0'.c), (.slice b1'.a b1'.n b1'.c)] []) w :=
  (Snd.cast (c' := .seq (cL (cR (cR (bodyOf Go.Proofs.Try.f33)))) (cR (cR (cR (bodyOf Go.Proofs.Try.f33))))) (by kernel_rfl) (Snd.seq (H_cellplaneref24_SameInts_3 N Q) (Snd.cast (c' := .seq (cL (cL (cR (cR (bodyOf Go.Proofs.Try.f33))))) (cR (cL (cR (cR (bodyOf Go.Proofs.Try.f33)))))) (by kernel_rfl) (Snd.seq (H_cellplaneref24_SameInts_4 N Q) (den_sound okc mixed _ _ _ _ (mpr' (by kernel_rfl) h)) (fun s w h => T_cellplaneref24_SameInts_4 N Q s w h))) (fun s w h => T_cellplaneref24_SameInts_3 N Q s w h)))

noncomputable def H_cellplaneref24_SameInts_2 (N : Nat) (Q : Value → World → Prop) : St → World → Prop := fun s w => grabK 26 [.val 0, .val 1] s fun vs ls => match vs, ls with
  | [.slice a0'_a a0'_n a0'_c, .slice b1'_a b1'_n b1'_c], [] => Reb N w s.L fun wa => C_cellplaneref24_SameInts_2 N Q ⟨a0'_a, a0'_n, a0'_c⟩ ⟨b1'_a, b1'_n, b1'_c⟩ wa
  | _, _ => False

theorem T_cellplaneref24_SameInts_2 (N : Nat) (Q : Value → World → Prop) (s : St) (w : World) (h : H_cellplaneref24_SameInts_2 N Q s w) : Snd (cx N (fun d => memN d [])) (cR (cR (bodyOf Go.Proofs.Try.f33))) (retD (cx N (fun d => memN d [])) Go.Proofs.Try.f33 Q) s w := by
  refine Snd.grab h (fun vs ls hd hloc wa hl => ?_)
  split at hd
  · exact X_cellplaneref24_SameInts_2 (hd wa hl)
  · exact hd.elim

def C_cellplaneref24_SameInts_1 (N : Nat) (Q : Value → World → Prop) (a0' b1' : Sl) (w : World) : Prop :=
  IfB (!decide ((((a0'.n : Nat) : Int) : Int) = ((b1'.n : Nat) : Int))) (Reb N w [] (Q (.bool false))) (Reb N w [] fun w8 => C_cellplaneref24_SameInts_2 N Q a0' b1' w8)

theorem X_cellplaneref24_SameInts_1 {N : Nat} {Q : Value → World → Prop} {a0' b1' : Sl} {w : World} (h : C_cellplaneref24_SameInts_1 N Q a0' b1' w) : Snd (cx N (fun d => memN d [])) (cR (bodyOf Go.Proofs.Try.f33)) (retD (cx N (fun d => memN d [])) Go.Proofs.Try.f33 Q) (mkS 26 [.val 0, .val 1] [(.slice a0'.a a0'.n a0'.c), (.slice b1'.a b1'.n b1'.c)] []) w :=
  (Snd.cast (c' := .seq (cL (cR (bodyOf Go.Proofs.Try.f33))) (cR (cR (bodyOf Go.Proofs.Try.f33)))) (by kernel_rfl) (Snd.seq (H_cellplaneref24_SameInts_2 N Q) (den_sound okc mixed _ _ _ _ (mpr' (by kernel_rfl) h)) (fun s w h => T_cellplaneref24_SameInts_2 N Q s w h)))

noncomputable def H_cellplaneref24_SameInts_1 (N : Nat) (Q : Value → World → Prop) : St → World → Prop := fun s w => grabK 26 [.val 0, .val 1] s fun vs ls => match vs, ls with
  | [.slice a0'_a a0'_n a0'_c, .slice b1'_a b1'_n b1'_c], [] => Reb N w s.L fun wa => C_cellplaneref24_SameInts_1 N Q ⟨a0'_a, a0'_n, a0'_c⟩ ⟨b1'_a, b1'_n, b1'_c⟩ wa
  | _, _ => False

theorem T_cellplaneref24_SameInts_1 (N : Nat) (Q : Value → World → Prop) (s : St) (w : World) (h : H_cellplaneref24_SameInts_1 N Q s w) : Snd (cx N (fun d => memN d [])) (cR (bodyOf Go.Proofs.Try.f33)) (retD (cx N (fun d => memN d [])) Go.Proofs.Try.f33 Q) s w := by
  refine Snd.grab h (fun vs ls hd hloc wa hl => ?_)
  split at hd
  · exact X_cellplaneref24_SameInts_1 (hd wa hl)
  · exact hd.elim

def F_cellplaneref24_SameInts (N : Nat) (a0 : Sl) (b1 : Sl) (Q : Value → World → Prop) (w : World) : Prop :=
  Reb N w [] fun w9 => C_cellplaneref24_SameInts_1 N Q a0 b1 w9

theorem cellplaneref24_SameInts_snd (N : Nat) (a0 : Sl) (b1 : Sl) (Q : Value → World → Prop) (w : World) (h : F_cellplaneref24_SameInts N a0 b1 Q w) : Snd (cx N (fun d => memN d [])) (bodyOf Go.Proofs.Try.f33) (retD (cx N (fun d => memN d [])) Go.Proofs.Try.f33 Q) (entry 26 [(.slice a0.a a0.n a0.c), (.slice b1.a b1.n b1.c)]) w :=
  (Snd.cast (c' := .seq (cL (bodyOf Go.Proofs.Try.f33)) (cR (bodyOf Go.Proofs.Try.f33))) (by kernel_rfl) (Snd.seq (H_cellplaneref24_SameInts_1 N Q) (den_sound okc mixed _ _ _ _ (mpr' (by kernel_rfl) h)) (fun s w h => T_cellplaneref24_SameInts_1 N Q s w h)))

theorem cellplaneref24_SameInts_calls (a0 : Sl) (b1 : Sl) (Q : Value → World → Prop) (w : World) (h : F_cellplaneref24_SameInts w.heap.size a0 b1 Q w) : Calls PP n_cellplaneref24_SameInts [(.slice a0.a a0.n a0.c), (.slice b1.a b1.n b1.c)].toArray w fun e w' => ∃ v, e = .returned v ∧ Q v w' :=
  calls_of (C := cx w.heap.size (fun d => memN d [])) (fn := Go.Proofs.Try.f33) (c := (bodyOf Go.Proofs.Try.f33)) (by kernel_rfl) (by kernel_rfl) (Nat.le_refl _) (cellplaneref24_SameInts_snd _ a0 b1 Q w h)

/-! ### session_Table_Lasts -/
noncomputable def k_session_Table_Lasts_0 : Code := (cR (cR (cR (bodyOf Go.Proofs.Try.f34))))

def C_session_Table_Lasts_3 (N : Nat) (Q : Value → World → Prop) (l3' : Sl) (w : World) : Prop :=
  Reb N w [] (Q (.slice l3'.a l3'.n l3'.c))

theorem X_session_Table_Lasts_3 {N : Nat} {Q : Value → World → Prop} {l3' : Sl} {w : World} (h : C_session_Table_Lasts_3 N Q l3' w) : Snd (cx N (fun d => memN d [5])) k_session_Table_Lasts_0 (retD (cx N (fun d => memN d [5])) Go.Proofs.Try.f34 Q) (mkS 20 [.val 3] [(.slice l3'.a l3'.n l3'.c)] []) w :=
  (den_sound okc mixed _ _ _ _ (mpr' (by kernel_rfl) h))

noncomputable def H_session_Table_Lasts_3 (N : Nat) (Q : Value → World → Prop) : St → World → Prop := fun s w => grabK 20 [.val 3] s fun vs ls => match vs, ls with
  | [.slice l3'_a l3'_n l3'_c], [] => Reb N w s.L fun wa => C_session_Table_Lasts_3 N Q ⟨l3'_a, l3'_n, l3'_c⟩ wa
  | _, _ => False

theorem T_session_Table_Lasts_3 (N : Nat) (Q : Value → World → Prop) (s : St) (w : World) (h : H_session_Table_Lasts_3 N Q s w) : Snd (cx N (fun d => memN d [5])) k_session_Table_Lasts_0 (retD (cx N (fun d => memN d [5])) Go.Proofs.Try.f34 Q) s w := by
  refine Snd.grab h (fun vs ls hd hloc wa hl => ?_)
  split at hd
  · exact X_session_Table_Lasts_3 (hd wa hl)
  · exact hd.elim

noncomputable def k_session_Table_Lasts_1 : Code := (cR (cL (cR (cR (bodyOf Go.Proofs.Try.f34)))))

noncomputable def z_session_Table_Lasts_2 (N : Nat) (Q : Value → World → Prop) : Cont := (thenD (H_session_Table_Lasts_3 N Q) (retD (cx N (fun d => memN d [5])) Go.Proofs.Try.f34 Q))

def D_session_Table_Lasts_5 (K : ((List Value)) → (Sl × Int) → Prop) : List Value → List LB → Prop := fun vs ls => match vs, ls with
  | [.slice l3'_a l3'_n l3'_c, .agg ⟨v9'⟩, .int .i64 v10'], [] => K v9' (⟨l3'_a, l3'_n, l3'_c⟩, v10')
  | _, _ => False

def B_session_Table_Lasts_5 (N : Nat) (K1 : ((List Value)) → (Sl × Int) → World → Prop) (Q : Value → World → Prop) (l3' : Sl) (v9' : List Value) (v10' : Int) (w : World) : Prop :=
  IfB (decide ((v10' : Int) < 8)) (∃ x1 : G_session_record, (∀ wr : World, (Instr.index t_ar8_session_record (.agg (List.toArray v9')) (.int .i64 v10')).run PP wr = .ok (.agg (List.toArray x1.cells)) wr) ∧ ∀ b2 : Nat, w.heap.size ≤ b2 → NewL N w [⟨b2, x1.cells, t_session_record⟩] [(.int .i64 x1.number)] t_i64_2 fun b3 w4 => RunL PP N w4 [⟨b2, x1.cells, t_session_record⟩] (Builtin.append_ #[t_sl_i64, t_sl_i64] t_sl_i64 #[(.slice l3'.a l3'.n l3'.c), (.slice (some ⟨b3, 0, none⟩) 1 1)]) fun r6 w7 => ∃ l5 : Sl, r6 = (.slice l5.a l5.n l5.c) ∧ Reb N w7 [⟨b2, x1.cells, t_session_record⟩] fun w8 => K1 v9' (l5, (IntKind.i64.wrap (v10' + 1))) w8) (Reb N w [] fun w9 => C_session_Table_Lasts_3 N Q l3' w9)

theorem X_session_Table_Lasts_5 {N : Nat} {K1 : ((List Value)) → (Sl × Int) → World → Prop} {Q : Value → World → Prop} {l3' : Sl} {v9' : List Value} {v10' : Int} {w : World} (h : B_session_Table_Lasts_5 N K1 Q l3' v9' v10' w) : Snd (cx N (fun d => memN d [5])) (cL (cL k_session_Table_Lasts_1)) (thenD (HeadK N 20 [.val 3, .val 9, .val 10] D_session_Table_Lasts_5 K1) (inBlockD 0 (z_session_Table_Lasts_2 N Q))) (mkS 20 [.val 3, .val 9, .val 10] [(.slice l3'.a l3'.n l3'.c), (.agg (List.toArray v9')), (.int .i64 v10')] []) w :=
  (den_sound okc mixed _ _ _ _ (mpr' (by kernel_rfl) h))

def L_session_Table_Lasts_5 (N : Nat) (Q : Value → World → Prop) (K1 : ((List Value)) → (Sl × Int) → World → Prop) (c : (List Value)) (x : Sl × Int) (w : World) : Prop := match c, x with
  | v9', (l3', v10') => B_session_Table_Lasts_5 N K1 Q l3' v9' v10' w

theorem T_session_Table_Lasts_5 (N : Nat) (Q : Value → World → Prop) {s : St} {w : World} (h : HeadE N 20 [.val 3, .val 9, .val 10] D_session_Table_Lasts_5 (L_session_Table_Lasts_5 N Q) s w) : Snd (cx N (fun d => memN d [5])) (cL k_session_Table_Lasts_1) (inBlockD 0 (z_session_Table_Lasts_2 N Q)) s w := by
  refine Snd.cast (c' := .loop (cL (cL k_session_Table_Lasts_1))) (by kernel_rfl) (Snd.loopC (fun (c : (List Value)) (x : Sl × Int) => match c, x with | v9', (l3', v10') => ([(.slice l3'.a l3'.n l3'.c), (.agg (List.toArray v9')), (.int .i64 v10')], [])) ?_ ?_ h)
  · intro K vs ls h
    unfold D_session_Table_Lasts_5 at h
    split at h
    · exact ⟨_, _, rfl, h⟩
    · exact h.elim
  · rintro K v9' ⟨l3', v10'⟩ w h
    exact X_session_Table_Lasts_5 h

def C_session_Table_Lasts_4 (N : Nat) (Q : Value → World → Prop) (l3' : Sl) (v9' : List Value) (v10' : Int) (w : World) : Prop :=
  LoopC N w [] (v9' : (List Value)) ((l3', v10') : Sl × Int) (L_session_Table_Lasts_5 N Q)

theorem X_session_Table_Lasts_4 {N : Nat} {Q : Value → World → Prop} {l3' : Sl} {v9' : List Value} {v10' : Int} {w : World} (h : C_session_Table_Lasts_4 N Q l3' v9' v10' w) : Snd (cx N (fun d => memN d [5])) k_session_Table_Lasts_1 (z_session_Table_Lasts_2 N Q) (mkS 20 [.val 3, .val 9, .val 10] [(.slice l3'.a l3'.n l3'.c), (.agg (List.toArray v9')), (.int .i64 v10')] []) w :=
  (Snd.cast (c' := .block 0 (cL k_session_Table_Lasts_1)) (by kernel_rfl) (Snd.block (T_session_Table_Lasts_5 N Q (mpr' (by kernel_rfl) h))))

noncomputable def H_session_Table_Lasts_4 (N : Nat) (Q : Value → World → Prop) : St → World → Prop := fun s w => grabK 20 [.val 3, .val 9, .val 10] s fun vs ls => match vs, ls with
  | [.slice l3'_a l3'_n l3'_c, .agg ⟨v9'⟩, .int .i64 v10'], [] => Reb N w s.L fun wa => C_session_Table_Lasts_4 N Q ⟨l3'_a, l3'_n, l3'_c⟩ v9' v10' wa
  | _, _ => False

theorem T_session_Table_Lasts_4 (N : Nat) (Q : Value → World → Prop) (s : St) (w : World) (h : H_session_Table_Lasts_4 N Q s w) : Snd (cx N (fun d => memN d [5])) k_session_Table_Lasts_1 (z_session_Table_Lasts_2 N Q) s w := by
  refine Snd.grab h (fun vs ls hd hloc wa hl => ?_)
  split at hd
  · exact X_session_Table_Lasts_4 (hd wa hl)
  · exact hd.elim

def C_session_Table_Lasts_2 (N : Nat) (Q : Value → World → Prop) (t0' : Option Addr) (l3' : Sl) (w : World) : Prop :=
  NilL t0' fun q10 => ∃ cs11 : List Value, cs11.length = 40 ∧ At w q10 cs11 ∧ NotIn (q10 : Addr).block [] ∧ Reb N w [] fun w12 => C_session_Table_Lasts_4 N Q l3' cs11 0 w12

theorem X_session_Table_Lasts_2 {N : Nat} {Q : Value → World → Prop} {t0' : Option Addr} {l3' : Sl} {w : World} (h : C_session_Table_Lasts_2 N Q t0' l3' w) : Snd (cx N (fun d => memN d [5])) (cR (cR (bodyOf Go.Proofs.Try.f34))) (retD (cx N (fun d => memN d [5])) Go.Proofs.Try.f34 Q) (mkS 20 [.val 0, .val 3] [(.pointer t0'), (.slice l3'.a l3'.n l3'.c)] []) w :=
  (Snd.cast (c' := .seq (cL (cR (cR (bodyOf Go.Proofs.Try.f34)))) (cR (cR (cR (bodyOf Go.Proofs.Try.f34))))) (by kernel_rfl) (Snd.seq (H_session_Table_Lasts_3 N Q) (Snd.cast (c' := .seq (cL (cL (cR (cR (bodyOf Go.Proofs.Try.f34))))) (cR (cL (cR (cR (bodyOf Go.Proofs.Try.f34)))))) (by kernel_rfl) (Snd.seq (H_session_Table_Lasts_4 N Q) (den_sound okc mixed _ _ _ _ (mpr' (by kernel_rfl) h)) (fun s w h => T_session_Table_Lasts_4 N Q s w h))) (fun s w h => T_session_Table_Lasts_3 N Q s w h)))

noncomputable def H_session_Table_Lasts_2 (N : Nat) (Q : Value → World → Prop) : St → World → Prop := fun s w => grabK 20 [.val 0, .val 3] s fun vs ls => match vs, ls with
  | [.pointer t0', .slice l3'_a l3'_n l3'_c], [] => Reb N w s.L fun wa => C_session_Table_Lasts_2 N Q t0' ⟨l3'_a, l3'_n, l3'_c⟩ wa
  | _, _ => False

theorem T_session_Table_Lasts_2 (N : Nat) (Q : Value → World → Prop) (s : St) (w : World) (h : H_session_Table_Lasts_2 N Q s w) : Snd (cx N (fun d => memN d [5])) (cR (cR (bodyOf Go.Proofs.Try.f34))) (retD (cx N (fun d => memN d [5])) Go.Proofs.Try.f34 Q) s w := by
  refine Snd.grab h (fun vs ls hd hloc wa hl => ?_)
  split at hd
  · exact X_session_Table_Lasts_2 (hd wa hl)
  · exact hd.elim

def C_session_Table_Lasts_1 (N : Nat) (Q : Value → World → Prop) (t0' : Option Addr) (w : World) : Prop :=
  Reb N w [] fun w13 => C_session_Table_Lasts_2 N Q t0' (⟨none, 0, 0⟩ : Sl) w13

theorem X_session_Table_Lasts_1 {N : Nat} {Q : Value → World → Prop} {t0' : Option Addr} {w : World} (h : C_session_Table_Lasts_1 N Q t0' w) : Snd (cx N (fun d => memN d [5])) (cR (bodyOf Go.Proofs.Try.f34)) (retD (cx N (fun d => memN d [5])) Go.Proofs.Try.f34 Q) (mkS 20 [.val 0] [(.pointer t0')] []) w :=
  (Snd.cast (c' := .seq (cL (cR (bodyOf Go.Proofs.Try.f34))) (cR (cR (bodyOf Go.Proofs.Try.f34)))) (by kernel_rfl) (Snd.seq (H_session_Table_Lasts_2 N Q) (den_sound okc mixed _ _ _ _ (mpr' (by kernel_rfl) h)) (fun s w h => T_session_Table_Lasts_2 N Q s w h)))

noncomputable def H_session_Table_Lasts_1 (N : Nat) (Q : Value → World → Prop) : St → World → Prop := fun s w => grabK 20 [.val 0] s fun vs ls => match vs, ls with
  | [.pointer t0'], [] => Reb N w s.L fun wa => C_session_Table_Lasts_1 N Q t0' wa
  | _, _ => False

theorem T_session_Table_Lasts_1 (N : Nat) (Q : Value → World → Prop) (s : St) (w : World) (h : H_session_Table_Lasts_1 N Q s w) : Snd (cx N (fun d => memN d [5])) (cR (bodyOf Go.Proofs.Try.f34)) (retD (cx N (fun d => memN d [5])) Go.Proofs.Try.f34 Q) s w := by
  refine Snd.grab h (fun vs ls hd hloc wa hl => ?_)
  split at hd
  · exact X_session_Table_Lasts_1 (hd wa hl)
  · exact hd.elim

def F_session_Table_Lasts (N : Nat) (t0 : Option Addr) (Q : Value → World → Prop) (w : World) : Prop :=
  Reb N w [] fun w14 => C_session_Table_Lasts_1 N Q t0 w14

theorem session_Table_Lasts_snd (N : Nat) (t0 : Option Addr) (Q : Value → World → Prop) (w : World) (h : F_session_Table_Lasts N t0 Q w) : Snd (cx N (fun d => memN d [5])) (bodyOf Go.Proofs.Try.f34) (retD (cx N (fun d => memN d [5])) Go.Proofs.Try.f34 Q) (entry 20 [(.pointer t0)]) w :=
  (Snd.cast (c' := .seq (cL (bodyOf Go.Proofs.Try.f34)) (cR (bodyOf Go.Proofs.Try.f34))) (by kernel_rfl) (Snd.seq (H_session_Table_Lasts_1 N Q) (den_sound okc mixed _ _ _ _ (mpr' (by kernel_rfl) h)) (fun s w h => T_session_Table_Lasts_1 N Q s w h)))

theorem session_Table_Lasts_calls (t0 : Option Addr) (Q : Value → World → Prop) (w : World) (h : F_session_Table_Lasts w.heap.size t0 Q w) : Calls PP n_session_Table_Lasts [(.pointer t0)].toArray w fun e w' => ∃ v, e = .returned v ∧ Q v w' :=
  calls_of (C := cx w.heap.size (fun d => memN d [5])) (fn := Go.Proofs.Try.f34) (c := (bodyOf Go.Proofs.Try.f34)) (by kernel_rfl) (by kernel_rfl) (Nat.le_refl _) (session_Table_Lasts_snd _ t0 Q w h)

/-! ### cellplaneref26_Table_Lasts -/
def F_cellplaneref26_Table_Lasts (N : Nat) (t0 : Option Addr) (Q : Value → World → Prop) (w : World) : Prop :=
  NewL N w [] [] t_i64_2 fun b1 w2 => NilL t0 fun q3 => RunL PP N w2 [] (Builtin.append_ #[t_sl_i64, t_sl_i64] t_sl_i64 #[(.slice (some ⟨b1, 0, none⟩) 0 0), (.slice (some q3) 8 8)]) fun r5 w6 => ∃ l4 : Sl, r5 = (.slice l4.a l4.n l4.c) ∧ Reb N w6 [] (Q (.slice l4.a l4.n l4.c))

theorem cellplaneref26_Table_Lasts_snd (N : Nat) (t0 : Option Addr) (Q : Value → World → Prop) (w : World) (h : F_cellplaneref26_Table_Lasts N t0 Q w) : Snd (cx N (fun d => memN d [])) (bodyOf Go.Proofs.Try.f35) (retD (cx N (fun d => memN d [])) Go.Proofs.Try.f35 Q) (entry 9 [(.pointer t0)]) w :=
  (den_sound okc mixed _ _ _ _ (mpr' (by kernel_rfl) h))

theorem cellplaneref26_Table_Lasts_calls (t0 : Option Addr) (Q : Value → World → Prop) (w : World) (h : F_cellplaneref26_Table_Lasts w.heap.size t0 Q w) : Calls PP n_cellplaneref26_Table_Lasts [(.pointer t0)].toArray w fun e w' => ∃ v, e = .returned v ∧ Q v w' :=
  calls_of (C := cx w.heap.size (fun d => memN d [])) (fn := Go.Proofs.Try.f35) (c := (bodyOf Go.Proofs.Try.f35)) (by kernel_rfl) (by kernel_rfl) (Nat.le_refl _) (cellplaneref26_Table_Lasts_snd _ t0 Q w h)

/-! ### cellplanemill_Tape_More -/
def F_cellplanemill_Tape_More (N : Nat) (t0 : Option Addr) (Q : Value → World → Prop) (w : World) : Prop :=
  NilL t0 fun q1 => ∃ n2 : Int, At w (addA q1 1) [(.int .i64 n2)] ∧ NotIn ((addA q1 1) : Addr).block [] ∧ NilL t0 fun q3 => ∃ l4 : Sl, At w q3 [(.slice l4.a l4.n l4.c)] ∧ NotIn (q3 : Addr).block [] ∧ Reb N w [] (Q (.bool (decide ((n2 : Int) < ((l4.n : Nat) : Int)))))

theorem cellplanemill_Tape_More_snd (N : Nat) (t0 : Option Addr) (Q : Value → World → Prop) (w : World) (h : F_cellplanemill_Tape_More N t0 Q w) : Snd (cx N (fun d => memN d [])) (bodyOf Go.Proofs.Try.f36) (retD (cx N (fun d => memN d [])) Go.Proofs.Try.f36 Q) (entry 13 [(.pointer t0)]) w :=
  (den_sound okc mixed _ _ _ _ (mpr' (by kernel_rfl) h))

theorem cellplanemill_Tape_More_calls (t0 : Option Addr) (Q : Value → World → Prop) (w : World) (h : F_cellplanemill_Tape_More w.heap.size t0 Q w) : Calls PP n_cellplanemill_Tape_More [(.pointer t0)].toArray w fun e w' => ∃ v, e = .returned v ∧ Q v w' :=
  calls_of (C := cx w.heap.size (fun d => memN d [])) (fn := Go.Proofs.Try.f36) (c := (bodyOf Go.Proofs.Try.f36)) (by kernel_rfl) (by kernel_rfl) (Nat.le_refl _) (cellplanemill_Tape_More_snd _ t0 Q w h)

/-! ### cellplanemill_Tape_Next -/
def F_cellplanemill_Tape_Next (N : Nat) (t0 : Option Addr) (n1 : Int) (Q : Value → World → Prop) (w : World) : Prop :=
  NilL t0 fun q1 => ∃ n2 : Int, At w (addA q1 1) [(.int .i64 n2)] ∧ NotIn ((addA q1 1) : Addr).block [] ∧ NilL t0 fun q3 => ∃ l4 : Sl, At w q3 [(.slice l4.a l4.n l4.c)] ∧ NotIn (q3 : Addr).block [] ∧ IfB (decide ((((l4.n : Nat) : Int) : Int) ≤ n2)) (Reb N w [] (Q (.int .i64 0))) (NilL t0 fun q5 => ∃ n6 : Int, At w (addA q5 1) [(.int .i64 n6)] ∧ NotIn ((addA q5 1) : Addr).block [] ∧ NilL t0 fun q7 => StL w [] (addA q7 1) [(.int .i64 (IntKind.i64.wrap (n6 + 1)))] fun w8 => NilL t0 fun q9 => ∃ l10 : Sl, At w8 q9 [(.slice l10.a l10.n l10.c)] ∧ NotIn (q9 : Addr).block [] ∧ NilL t0 fun q11 => ∃ n12 : Int, At w8 (addA q11 1) [(.int .i64 n12)] ∧ NotIn ((addA q11 1) : Addr).block [] ∧ IdxL l10.a l10.n (IntKind.i64.wrap (n12 - 1)) fun q13 => ∃ n14 : Int, At w8 (q13.add (((IntKind.i64.wrap (n12 - 1)) : Int).toNat * 1)) [(.int .i64 n14)] ∧ NotIn ((q13.add (((IntKind.i64.wrap (n12 - 1)) : Int).toNat * 1)) : Addr).block [] ∧ CallL PP N w8 [] n_cellplanemill_Mod [(.int .i64 n14), (.int .i64 n1)] fun r16 w17 => ∃ n15 : Int, r16 = (.int .i64 n15) ∧ Reb N w17 [] (Q (.int .i64 n15)))

theorem cellplanemill_Tape_Next_snd (N : Nat) (t0 : Option Addr) (n1 : Int) (Q : Value → World → Prop) (w : World) (h : F_cellplanemill_Tape_Next N t0 n1 Q w) : Snd (cx N (fun d => memN d [])) (bodyOf Go.Proofs.Try.f37) (retD (cx N (fun d => memN d [])) Go.Proofs.Try.f37 Q) (entry 35 [(.pointer t0), (.int .i64 n1)]) w :=
  (den_sound okc mixed _ _ _ _ (mpr' (by kernel_rfl) h))

theorem cellplanemill_Tape_Next_calls (t0 : Option Addr) (n1 : Int) (Q : Value → World → Prop) (w : World) (h : F_cellplanemill_Tape_Next w.heap.size t0 n1 Q w) : Calls PP n_cellplanemill_Tape_Next [(.pointer t0), (.int .i64 n1)].toArray w fun e w' => ∃ v, e = .returned v ∧ Q v w' :=
  calls_of (C := cx w.heap.size (fun d => memN d [])) (fn := Go.Proofs.Try.f37) (c := (bodyOf Go.Proofs.Try.f37)) (by kernel_rfl) (by kernel_rfl) (Nat.le_refl _) (cellplanemill_Tape_Next_snd _ t0 n1 Q w h)
end Go.Sh
