/- What these functions do, told by computation: a formula for each, and that its calls do what the formula says.
   Conditions: none. -/
import Derived.Test.YtcligpfkmnlhnaaBase
namespace Go.Sh
open Go
set_option linter.unusedVariables false
set_option maxRecDepth 100000

/-! ### cellplanemill_Few -/
def C_cellplanemill_Few_2 (N : Nat) (Q : Value → World → Prop) (l0' : Sl) (n1' : Int) (w : World) : Prop :=
  Reb N w [] (Q (.bool (decide ((((l0'.n : Nat) : Int) : Int) ≤ n1'))))

theorem X_cellplanemill_Few_2 {N : Nat} {Q : Value → World → Prop} {l0' : Sl} {n1' : Int} {w : World} (h : C_cellplanemill_Few_2 N Q l0' n1' w) : Snd (cx N (fun d => memN d [])) (cR (cR (bodyOf Go.Proofs.Try.f15))) (retD (cx N (fun d => memN d [])) Go.Proofs.Try.f15 Q) (mkS 28 [.val 0, .val 1] [(.slice l0'.a l0'.n l0'.c), (.int .i64 n1')] []) w :=
  (den_sound okc mixed _ _ _ _ (mpr' (by kernel_rfl) h))

noncomputable def H_cellplanemill_Few_2 (N : Nat) (Q : Value → World → Prop) : St → World → Prop := fun s w => grabK 28 [.val 0, .val 1] s fun vs ls => match vs, ls with
  | [.slice l0'_a l0'_n l0'_c, .int .i64 n1'], [] => Reb N w s.L fun wa => C_cellplanemill_Few_2 N Q ⟨l0'_a, l0'_n, l0'_c⟩ n1' wa
  | _, _ => False

theorem T_cellplanemill_Few_2 (N : Nat) (Q : Value → World → Prop) (s : St) (w : World) (h : H_cellplanemill_Few_2 N Q s w) : Snd (cx N (fun d => memN d [])) (cR (cR (bodyOf Go.Proofs.Try.f15))) (retD (cx N (fun d => memN d [])) Go.Proofs.Try.f15 Q) s w := by
  refine Snd.grab h (fun vs ls hd hloc wa hl => ?_)
  split at hd
  · exact X_cellplanemill_Few_2 (hd wa hl)
  · exact hd.elim

noncomputable def k_cellplanemill_Few_0 : Code := (cR (cL (cR (bodyOf Go.Proofs.Try.f15))))

noncomputable def z_cellplanemill_Few_1 (N : Nat) (Q : Value → World → Prop) : Cont := (thenD (H_cellplanemill_Few_2 N Q) (retD (cx N (fun d => memN d [])) Go.Proofs.Try.f15 Q))

def D_cellplanemill_Few_4 (K : (Sl × Int) → (Int) → Prop) : List Value → List LB → Prop := fun vs ls => match vs, ls with
  | [.slice l0'_a l0'_n l0'_c, .int .i64 n1', .int .i64 i5'], [] => K (⟨l0'_a, l0'_n, l0'_c⟩, n1') i5'
  | _, _ => False

def B_cellplanemill_Few_4 (N : Nat) (K1 : (Sl × Int) → (Int) → World → Prop) (Q : Value → World → Prop) (l0' : Sl) (n1' i5' : Int) (w : World) : Prop :=
  IfB (decide ((i5' : Int) < ((l0'.n : Nat) : Int))) (IfB (decide ((((l0'.n : Nat) : Int) : Int) ≤ n1')) (IdxL l0'.a l0'.n i5' fun q1 => ∃ x2 : G_api_Change, At w (q1.add ((i5' : Int).toNat * 8)) x2.cells ∧ NotIn ((q1.add ((i5' : Int).toNat * 8)) : Addr).block [] ∧ CallL PP N w [] n_cellplanemill_Short [(.agg (List.toArray x2.cells))] fun r4 w5 => ∃ b3 : Bool, r4 = (.bool b3) ∧ IfB (!b3) (Reb N w5 [] (Q (.bool false))) (Reb N w5 [] fun w6 => K1 (l0', n1') (IntKind.i64.wrap (i5' + 1)) w6)) (Reb N w [] fun w7 => C_cellplanemill_Few_2 N Q l0' n1' w7)) (Reb N w [] fun w8 => C_cellplanemill_Few_2 N Q l0' n1' w8)

theorem X_cellplanemill_Few_4 {N : Nat} {K1 : (Sl × Int) → (Int) → World → Prop} {Q : Value → World → Prop} {l0' : Sl} {n1' i5' : Int} {w : World} (h : B_cellplanemill_Few_4 N K1 Q l0' n1' i5' w) : Snd (cx N (fun d => memN d [])) (cL (cL k_cellplanemill_Few_0)) (thenD (HeadK N 28 [.val 0, .val 1, .val 5] D_cellplanemill_Few_4 K1) (inBlockD 0 (z_cellplanemill_Few_1 N Q))) (mkS 28 [.val 0, .val 1, .val 5] [(.slice l0'.a l0'.n l0'.c), (.int .i64 n1'), (.int .i64 i5')] []) w :=
  (den_sound okc mixed _ _ _ _ (mpr' (by kernel_rfl) h))

def L_cellplanemill_Few_4 (N : Nat) (Q : Value → World → Prop) (K1 : (Sl × Int) → (Int) → World → Prop) (c : Sl × Int) (x : Int) (w : World) : Prop := match c, x with
  | (l0', n1'), i5' => B_cellplanemill_Few_4 N K1 Q l0' n1' i5' w

theorem T_cellplanemill_Few_4 (N : Nat) (Q : Value → World → Prop) {s : St} {w : World} (h : HeadE N 28 [.val 0, .val 1, .val 5] D_cellplanemill_Few_4 (L_cellplanemill_Few_4 N Q) s w) : Snd (cx N (fun d => memN d [])) (cL k_cellplanemill_Few_0) (inBlockD 0 (z_cellplanemill_Few_1 N Q)) s w := by
  refine Snd.cast (c' := .loop (cL (cL k_cellplanemill_Few_0))) (by kernel_rfl) (Snd.loopC (fun (c : Sl × Int) (x : Int) => match c, x with | (l0', n1'), i5' => ([(.slice l0'.a l0'.n l0'.c), (.int .i64 n1'), (.int .i64 i5')], [])) ?_ ?_ h)
  · intro K vs ls h
    unfold D_cellplanemill_Few_4 at h
    split at h
    · exact ⟨_, _, rfl, h⟩
    · exact h.elim
  · rintro K ⟨l0', n1'⟩ i5' w h
    exact X_cellplanemill_Few_4 h

def C_cellplanemill_Few_3 (N : Nat) (Q : Value → World → Prop) (l0' : Sl) (n1' i5' : Int) (w : World) : Prop :=
  LoopC N w [] ((l0', n1') : Sl × Int) (i5' : Int) (L_cellplanemill_Few_4 N Q)

theorem X_cellplanemill_Few_3 {N : Nat} {Q : Value → World → Prop} {l0' : Sl} {n1' i5' : Int} {w : World} (h : C_cellplanemill_Few_3 N Q l0' n1' i5' w) : Snd (cx N (fun d => memN d [])) k_cellplanemill_Few_0 (z_cellplanemill_Few_1 N Q) (mkS 28 [.val 0, .val 1, .val 5] [(.slice l0'.a l0'.n l0'.c), (.int .i64 n1'), (.int .i64 i5')] []) w :=
  (Snd.cast (c' := .block 0 (cL k_cellplanemill_Few_0)) (by kernel_rfl) (Snd.block (T_cellplanemill_Few_4 N Q (mpr' (by kernel_rfl) h))))

noncomputable def H_cellplanemill_Few_3 (N : Nat) (Q : Value → World → Prop) : St → World → Prop := fun s w => grabK 28 [.val 0, .val 1, .val 5] s fun vs ls => match vs, ls with
  | [.slice l0'_a l0'_n l0'_c, .int .i64 n1', .int .i64 i5'], [] => Reb N w s.L fun wa => C_cellplanemill_Few_3 N Q ⟨l0'_a, l0'_n, l0'_c⟩ n1' i5' wa
  | _, _ => False

theorem T_cellplanemill_Few_3 (N : Nat) (Q : Value → World → Prop) (s : St) (w : World) (h : H_cellplanemill_Few_3 N Q s w) : Snd (cx N (fun d => memN d [])) k_cellplanemill_Few_0 (z_cellplanemill_Few_1 N Q) s w := by
  refine Snd.grab h (fun vs ls hd hloc wa hl => ?_)
  split at hd
  · exact X_cellplanemill_Few_3 (hd wa hl)
  · exact hd.elim

def C_cellplanemill_Few_1 (N : Nat) (Q : Value → World → Prop) (l0' : Sl) (n1' : Int) (w : World) : Prop :=
  Reb N w [] fun w9 => C_cellplanemill_Few_3 N Q l0' n1' 0 w9

theorem X_cellplanemill_Few_1 {N : Nat} {Q : Value → World → Prop} {l0' : Sl} {n1' : Int} {w : World} (h : C_cellplanemill_Few_1 N Q l0' n1' w) : Snd (cx N (fun d => memN d [])) (cR (bodyOf Go.Proofs.Try.f15)) (retD (cx N (fun d => memN d [])) Go.Proofs.Try.f15 Q) (mkS 28 [.val 0, .val 1] [(.slice l0'.a l0'.n l0'.c), (.int .i64 n1')] []) w :=
  (Snd.cast (c' := .seq (cL (cR (bodyOf Go.Proofs.Try.f15))) (cR (cR (bodyOf Go.Proofs.Try.f15)))) (by kernel_rfl) (Snd.seq (H_cellplanemill_Few_2 N Q) (Snd.cast (c' := .seq (cL (cL (cR (bodyOf Go.Proofs.Try.f15)))) (cR (cL (cR (bodyOf Go.Proofs.Try.f15))))) (by kernel_rfl) (Snd.seq (H_cellplanemill_Few_3 N Q) (den_sound okc mixed _ _ _ _ (mpr' (by kernel_rfl) h)) (fun s w h => T_cellplanemill_Few_3 N Q s w h))) (fun s w h => T_cellplanemill_Few_2 N Q s w h)))

noncomputable def H_cellplanemill_Few_1 (N : Nat) (Q : Value → World → Prop) : St → World → Prop := fun s w => grabK 28 [.val 0, .val 1] s fun vs ls => match vs, ls with
  | [.slice l0'_a l0'_n l0'_c, .int .i64 n1'], [] => Reb N w s.L fun wa => C_cellplanemill_Few_1 N Q ⟨l0'_a, l0'_n, l0'_c⟩ n1' wa
  | _, _ => False

theorem T_cellplanemill_Few_1 (N : Nat) (Q : Value → World → Prop) (s : St) (w : World) (h : H_cellplanemill_Few_1 N Q s w) : Snd (cx N (fun d => memN d [])) (cR (bodyOf Go.Proofs.Try.f15)) (retD (cx N (fun d => memN d [])) Go.Proofs.Try.f15 Q) s w := by
  refine Snd.grab h (fun vs ls hd hloc wa hl => ?_)
  split at hd
  · exact X_cellplanemill_Few_1 (hd wa hl)
  · exact hd.elim

def F_cellplanemill_Few (N : Nat) (l0 : Sl) (n1 : Int) (Q : Value → World → Prop) (w : World) : Prop :=
  Reb N w [] fun w10 => C_cellplanemill_Few_1 N Q l0 n1 w10

theorem cellplanemill_Few_snd (N : Nat) (l0 : Sl) (n1 : Int) (Q : Value → World → Prop) (w : World) (h : F_cellplanemill_Few N l0 n1 Q w) : Snd (cx N (fun d => memN d [])) (bodyOf Go.Proofs.Try.f15) (retD (cx N (fun d => memN d [])) Go.Proofs.Try.f15 Q) (entry 28 [(.slice l0.a l0.n l0.c), (.int .i64 n1)]) w :=
  (Snd.cast (c' := .seq (cL (bodyOf Go.Proofs.Try.f15)) (cR (bodyOf Go.Proofs.Try.f15))) (by kernel_rfl) (Snd.seq (H_cellplanemill_Few_1 N Q) (den_sound okc mixed _ _ _ _ (mpr' (by kernel_rfl) h)) (fun s w h => T_cellplanemill_Few_1 N Q s w h)))

theorem cellplanemill_Few_calls (l0 : Sl) (n1 : Int) (Q : Value → World → Prop) (w : World) (h : F_cellplanemill_Few w.heap.size l0 n1 Q w) : Calls PP n_cellplanemill_Few [(.slice l0.a l0.n l0.c), (.int .i64 n1)].toArray w fun e w' => ∃ v, e = .returned v ∧ Q v w' :=
  calls_of (C := cx w.heap.size (fun d => memN d [])) (fn := Go.Proofs.Try.f15) (c := (bodyOf Go.Proofs.Try.f15)) (by kernel_rfl) (by kernel_rfl) (Nat.le_refl _) (cellplanemill_Few_snd _ l0 n1 Q w h)

/-! ### session_Fold -/
noncomputable def k_session_Fold_0 : Code := (cR (cR (cR (bodyOf Go.Proofs.Try.f16))))

def C_session_Fold_3 (N : Nat) (Q : Value → World → Prop) (h0' : Sl) (t5' : Option Addr) (w : World) : Prop :=
  Reb N w [] (Q (.tuple #[(.pointer t5'), (.int .i64 ((h0'.n : Nat) : Int)), (.int .i64 0)]))

theorem X_session_Fold_3 {N : Nat} {Q : Value → World → Prop} {h0' : Sl} {t5' : Option Addr} {w : World} (h : C_session_Fold_3 N Q h0' t5' w) : Snd (cx N (fun d => memN d [7])) k_session_Fold_0 (retD (cx N (fun d => memN d [7])) Go.Proofs.Try.f16 Q) (mkS 28 [.val 0, .val 5] [(.slice h0'.a h0'.n h0'.c), (.pointer t5')] []) w :=
  (den_sound okc mixed _ _ _ _ (mpr' (by kernel_rfl) h))

noncomputable def H_session_Fold_3 (N : Nat) (Q : Value → World → Prop) : St → World → Prop := fun s w => grabK 28 [.val 0, .val 5] s fun vs ls => match vs, ls with
  | [.slice h0'_a h0'_n h0'_c, .pointer t5'], [] => Reb N w s.L fun wa => C_session_Fold_3 N Q ⟨h0'_a, h0'_n, h0'_c⟩ t5' wa
  | _, _ => False

theorem T_session_Fold_3 (N : Nat) (Q : Value → World → Prop) (s : St) (w : World) (h : H_session_Fold_3 N Q s w) : Snd (cx N (fun d => memN d [7])) k_session_Fold_0 (retD (cx N (fun d => memN d [7])) Go.Proofs.Try.f16 Q) s w := by
  refine Snd.grab h (fun vs ls hd hloc wa hl => ?_)
  split at hd
  · exact X_session_Fold_3 (hd wa hl)
  · exact hd.elim

noncomputable def k_session_Fold_1 : Code := (cR (cL (cR (cR (bodyOf Go.Proofs.Try.f16)))))

noncomputable def z_session_Fold_2 (N : Nat) (Q : Value → World → Prop) : Cont := (thenD (H_session_Fold_3 N Q) (retD (cx N (fun d => memN d [7])) Go.Proofs.Try.f16 Q))

def D_session_Fold_5 (K : (Sl × (Option Addr) × Sl × Int) → (Int) → Prop) : List Value → List LB → Prop := fun vs ls => match vs, ls with
  | [.slice h0'_a h0'_n h0'_c, .pointer t5', .slice v10'_a v10'_n v10'_c, .int .i64 v11', .int .i64 v12'], [] => K (⟨h0'_a, h0'_n, h0'_c⟩, t5', ⟨v10'_a, v10'_n, v10'_c⟩, v11') v12'
  | _, _ => False

def B_session_Fold_5 (N : Nat) (K1 : (Sl × (Option Addr) × Sl × Int) → (Int) → World → Prop) (Q : Value → World → Prop) (h0' : Sl) (t5' : Option Addr) (v10' : Sl) (v11' v12' : Int) (w : World) : Prop :=
  IfB (decide ((v12' : Int) < v11')) (IdxL v10'.a v10'.n v12' fun q1 => ∃ x2 : G_api_Change, At w (q1.add ((v12' : Int).toNat * 8)) x2.cells ∧ NotIn ((q1.add ((v12' : Int).toNat * 8)) : Addr).block [] ∧ ∀ b3 : Nat, w.heap.size ≤ b3 → CallL PP N w [⟨b3, x2.cells, t_api_Change⟩] n_session_Table_Apply [(.pointer t5'), (.agg (List.toArray x2.cells))] fun r5 w6 => ∃ n4 : Int, r5 = (.int .i64 n4) ∧ IfB (!decide ((n4 : Int) = 0)) (Reb N w6 [⟨b3, x2.cells, t_api_Change⟩] (Q (.tuple #[(.pointer none), (.int .i64 v12'), (.int .i64 n4)]))) (Reb N w6 [⟨b3, x2.cells, t_api_Change⟩] fun w7 => K1 (h0', t5', v10', v11') (IntKind.i64.wrap (v12' + 1)) w7)) (Reb N w [] fun w8 => C_session_Fold_3 N Q h0' t5' w8)

theorem X_session_Fold_5 {N : Nat} {K1 : (Sl × (Option Addr) × Sl × Int) → (Int) → World → Prop} {Q : Value → World → Prop} {h0' : Sl} {t5' : Option Addr} {v10' : Sl} {v11' v12' : Int} {w : World} (h : B_session_Fold_5 N K1 Q h0' t5' v10' v11' v12' w) : Snd (cx N (fun d => memN d [7])) (cL (cL k_session_Fold_1)) (thenD (HeadK N 28 [.val 0, .val 5, .val 10, .val 11, .val 12] D_session_Fold_5 K1) (inBlockD 0 (z_session_Fold_2 N Q))) (mkS 28 [.val 0, .val 5, .val 10, .val 11, .val 12] [(.slice h0'.a h0'.n h0'.c), (.pointer t5'), (.slice v10'.a v10'.n v10'.c), (.int .i64 v11'), (.int .i64 v12')] []) w :=
  (den_sound okc mixed _ _ _ _ (mpr' (by kernel_rfl) h))

def L_session_Fold_5 (N : Nat) (Q : Value → World → Prop) (K1 : (Sl × (Option Addr) × Sl × Int) → (Int) → World → Prop) (c : Sl × (Option Addr) × Sl × Int) (x : Int) (w : World) : Prop := match c, x with
  | (h0', t5', v10', v11'), v12' => B_session_Fold_5 N K1 Q h0' t5' v10' v11' v12' w

theorem T_session_Fold_5 (N : Nat) (Q : Value → World → Prop) {s : St} {w : World} (h : HeadE N 28 [.val 0, .val 5, .val 10, .val 11, .val 12] D_session_Fold_5 (L_session_Fold_5 N Q) s w) : Snd (cx N (fun d => memN d [7])) (cL k_session_Fold_1) (inBlockD 0 (z_session_Fold_2 N Q)) s w := by
  refine Snd.cast (c' := .loop (cL (cL k_session_Fold_1))) (by kernel_rfl) (Snd.loopC (fun (c : Sl × (Option Addr) × Sl × Int) (x : Int) => match c, x with | (h0', t5', v10', v11'), v12' => ([(.slice h0'.a h0'.n h0'.c), (.pointer t5'), (.slice v10'.a v10'.n v10'.c), (.int .i64 v11'), (.int .i64 v12')], [])) ?_ ?_ h)
  · intro K vs ls h
    unfold D_session_Fold_5 at h
    split at h
    · exact ⟨_, _, rfl, h⟩
    · exact h.elim
  · rintro K ⟨h0', t5', v10', v11'⟩ v12' w h
    exact X_session_Fold_5 h

def C_session_Fold_4 (N : Nat) (Q : Value → World → Prop) (h0' : Sl) (t5' : Option Addr) (v10' : Sl) (v11' v12' : Int) (w : World) : Prop :=
  LoopC N w [] ((h0', t5', v10', v11') : Sl × (Option Addr) × Sl × Int) (v12' : Int) (L_session_Fold_5 N Q)

theorem X_session_Fold_4 {N : Nat} {Q : Value → World → Prop} {h0' : Sl} {t5' : Option Addr} {v10' : Sl} {v11' v12' : Int} {w : World} (h : C_session_Fold_4 N Q h0' t5' v10' v11' v12' w) : Snd (cx N (fun d => memN d [7])) k_session_Fold_1 (z_session_Fold_2 N Q) (mkS 28 [.val 0, .val 5, .val 10, .val 11, .val 12] [(.slice h0'.a h0'.n h0'.c), (.pointer t5'), (.slice v10'.a v10'.n v10'.c), (.int .i64 v11'), (.int .i64 v12')] []) w :=
  (Snd.cast (c' := .block 0 (cL k_session_Fold_1)) (by kernel_rfl) (Snd.block (T_session_Fold_5 N Q (mpr' (by kernel_rfl) h))))

noncomputable def H_session_Fold_4 (N : Nat) (Q : Value → World → Prop) : St → World → Prop := fun s w => grabK 28 [.val 0, .val 5, .val 10, .val 11, .val 12] s fun vs ls => match vs, ls with
  | [.slice h0'_a h0'_n h0'_c, .pointer t5', .slice v10'_a v10'_n v10'_c, .int .i64 v11', .int .i64 v12'], [] => Reb N w s.L fun wa => C_session_Fold_4 N Q ⟨h0'_a, h0'_n, h0'_c⟩ t5' ⟨v10'_a, v10'_n, v10'_c⟩ v11' v12' wa
  | _, _ => False

theorem T_session_Fold_4 (N : Nat) (Q : Value → World → Prop) (s : St) (w : World) (h : H_session_Fold_4 N Q s w) : Snd (cx N (fun d => memN d [7])) k_session_Fold_1 (z_session_Fold_2 N Q) s w := by
  refine Snd.grab h (fun vs ls hd hloc wa hl => ?_)
  split at hd
  · exact X_session_Fold_4 (hd wa hl)
  · exact hd.elim

def C_session_Fold_2 (N : Nat) (Q : Value → World → Prop) (h0' : Sl) (t5' : Option Addr) (w : World) : Prop :=
  Reb N w [] fun w9 => C_session_Fold_4 N Q h0' t5' h0' ((h0'.n : Nat) : Int) 0 w9

theorem X_session_Fold_2 {N : Nat} {Q : Value → World → Prop} {h0' : Sl} {t5' : Option Addr} {w : World} (h : C_session_Fold_2 N Q h0' t5' w) : Snd (cx N (fun d => memN d [7])) (cR (cR (bodyOf Go.Proofs.Try.f16))) (retD (cx N (fun d => memN d [7])) Go.Proofs.Try.f16 Q) (mkS 28 [.val 0, .val 5] [(.slice h0'.a h0'.n h0'.c), (.pointer t5')] []) w :=
  (Snd.cast (c' := .seq (cL (cR (cR (bodyOf Go.Proofs.Try.f16)))) (cR (cR (cR (bodyOf Go.Proofs.Try.f16))))) (by kernel_rfl) (Snd.seq (H_session_Fold_3 N Q) (Snd.cast (c' := .seq (cL (cL (cR (cR (bodyOf Go.Proofs.Try.f16))))) (cR (cL (cR (cR (bodyOf Go.Proofs.Try.f16)))))) (by kernel_rfl) (Snd.seq (H_session_Fold_4 N Q) (den_sound okc mixed _ _ _ _ (mpr' (by kernel_rfl) h)) (fun s w h => T_session_Fold_4 N Q s w h))) (fun s w h => T_session_Fold_3 N Q s w h)))

noncomputable def H_session_Fold_2 (N : Nat) (Q : Value → World → Prop) : St → World → Prop := fun s w => grabK 28 [.val 0, .val 5] s fun vs ls => match vs, ls with
  | [.slice h0'_a h0'_n h0'_c, .pointer t5'], [] => Reb N w s.L fun wa => C_session_Fold_2 N Q ⟨h0'_a, h0'_n, h0'_c⟩ t5' wa
  | _, _ => False

theorem T_session_Fold_2 (N : Nat) (Q : Value → World → Prop) (s : St) (w : World) (h : H_session_Fold_2 N Q s w) : Snd (cx N (fun d => memN d [7])) (cR (cR (bodyOf Go.Proofs.Try.f16))) (retD (cx N (fun d => memN d [7])) Go.Proofs.Try.f16 Q) s w := by
  refine Snd.grab h (fun vs ls hd hloc wa hl => ?_)
  split at hd
  · exact X_session_Fold_2 (hd wa hl)
  · exact hd.elim

def C_session_Fold_1 (N : Nat) (Q : Value → World → Prop) (h0' : Sl) (w : World) : Prop :=
  CallL PP N w [] n_session_New [] fun r11 w12 => ∃ p10 : Option Addr, r11 = (.pointer p10) ∧ Reb N w12 [] fun w13 => C_session_Fold_2 N Q h0' p10 w13

theorem X_session_Fold_1 {N : Nat} {Q : Value → World → Prop} {h0' : Sl} {w : World} (h : C_session_Fold_1 N Q h0' w) : Snd (cx N (fun d => memN d [7])) (cR (bodyOf Go.Proofs.Try.f16)) (retD (cx N (fun d => memN d [7])) Go.Proofs.Try.f16 Q) (mkS 28 [.val 0] [(.slice h0'.a h0'.n h0'.c)] []) w :=
  (Snd.cast (c' := .seq (cL (cR (bodyOf Go.Proofs.Try.f16))) (cR (cR (bodyOf Go.Proofs.Try.f16)))) (by kernel_rfl) (Snd.seq (H_session_Fold_2 N Q) (den_sound okc mixed _ _ _ _ (mpr' (by kernel_rfl) h)) (fun s w h => T_session_Fold_2 N Q s w h)))

noncomputable def H_session_Fold_1 (N : Nat) (Q : Value → World → Prop) : St → World → Prop := fun s w => grabK 28 [.val 0] s fun vs ls => match vs, ls with
  | [.slice h0'_a h0'_n h0'_c], [] => Reb N w s.L fun wa => C_session_Fold_1 N Q ⟨h0'_a, h0'_n, h0'_c⟩ wa
  | _, _ => False

theorem T_session_Fold_1 (N : Nat) (Q : Value → World → Prop) (s : St) (w : World) (h : H_session_Fold_1 N Q s w) : Snd (cx N (fun d => memN d [7])) (cR (bodyOf Go.Proofs.Try.f16)) (retD (cx N (fun d => memN d [7])) Go.Proofs.Try.f16 Q) s w := by
  refine Snd.grab h (fun vs ls hd hloc wa hl => ?_)
  split at hd
  · exact X_session_Fold_1 (hd wa hl)
  · exact hd.elim

def F_session_Fold (N : Nat) (h0 : Sl) (Q : Value → World → Prop) (w : World) : Prop :=
  Reb N w [] fun w14 => C_session_Fold_1 N Q h0 w14

theorem session_Fold_snd (N : Nat) (h0 : Sl) (Q : Value → World → Prop) (w : World) (h : F_session_Fold N h0 Q w) : Snd (cx N (fun d => memN d [7])) (bodyOf Go.Proofs.Try.f16) (retD (cx N (fun d => memN d [7])) Go.Proofs.Try.f16 Q) (entry 28 [(.slice h0.a h0.n h0.c)]) w :=
  (Snd.cast (c' := .seq (cL (bodyOf Go.Proofs.Try.f16)) (cR (bodyOf Go.Proofs.Try.f16))) (by kernel_rfl) (Snd.seq (H_session_Fold_1 N Q) (den_sound okc mixed _ _ _ _ (mpr' (by kernel_rfl) h)) (fun s w h => T_session_Fold_1 N Q s w h)))

theorem session_Fold_calls (h0 : Sl) (Q : Value → World → Prop) (w : World) (h : F_session_Fold w.heap.size h0 Q w) : Calls PP n_session_Fold [(.slice h0.a h0.n h0.c)].toArray w fun e w' => ∃ v, e = .returned v ∧ Q v w' :=
  calls_of (C := cx w.heap.size (fun d => memN d [7])) (fn := Go.Proofs.Try.f16) (c := (bodyOf Go.Proofs.Try.f16)) (by kernel_rfl) (by kernel_rfl) (Nat.le_refl _) (session_Fold_snd _ h0 Q w h)

/-! ### session_Table_Last -/
def F_session_Table_Last (N : Nat) (t0 : Option Addr) (client1 : Int) (Q : Value → World → Prop) (w : World) : Prop :=
  IfB (decide ((client1 : Int) < 1)) (Reb N w [] (Q (.int .i64 0))) (IfB (decide ((8 : Int) < client1)) (Reb N w [] (Q (.int .i64 0))) (NilL t0 fun q1 => (0 : Int) ≤ (IntKind.i64.wrap (client1 - 1)) ∧ ((IntKind.i64.wrap (client1 - 1)) : Int) < (8 : Nat) ∧ ∃ n2 : Int, At w ((q1 : Addr).add (((IntKind.i64.wrap (client1 - 1)) : Int).toNat * 5)) [(.int .i64 n2)] ∧ NotIn (((q1 : Addr).add (((IntKind.i64.wrap (client1 - 1)) : Int).toNat * 5)) : Addr).block [] ∧ Reb N w [] (Q (.int .i64 n2))))

theorem session_Table_Last_snd (N : Nat) (t0 : Option Addr) (client1 : Int) (Q : Value → World → Prop) (w : World) (h : F_session_Table_Last N t0 client1 Q w) : Snd (cx N (fun d => memN d [])) (bodyOf Go.Proofs.Try.f17) (retD (cx N (fun d => memN d [])) Go.Proofs.Try.f17 Q) (entry 19 [(.pointer t0), (.int .i64 client1)]) w :=
  (den_sound okc mixed _ _ _ _ (mpr' (by kernel_rfl) h))

theorem session_Table_Last_calls (t0 : Option Addr) (client1 : Int) (Q : Value → World → Prop) (w : World) (h : F_session_Table_Last w.heap.size t0 client1 Q w) : Calls PP n_session_Table_Last [(.pointer t0), (.int .i64 client1)].toArray w fun e w' => ∃ v, e = .returned v ∧ Q v w' :=
  calls_of (C := cx w.heap.size (fun d => memN d [])) (fn := Go.Proofs.Try.f17) (c := (bodyOf Go.Proofs.Try.f17)) (by kernel_rfl) (by kernel_rfl) (Nat.le_refl _) (session_Table_Last_snd _ t0 client1 Q w h)

/-! ### cellplanemill_Short -/
def F_cellplanemill_Short (N : Nat) (x0 : G_api_Change) (Q : Value → World → Prop) (w : World) : Prop :=
  ∀ b1 : Nat, w.heap.size ≤ b1 → IfB (decide (((x0.Key.size : Int) : Int) ≤ 100)) (Reb N w [⟨b1, x0.cells, t_api_Change⟩] (Q (.bool (decide (((x0.Value_.size : Int) : Int) ≤ 100))))) (Reb N w [⟨b1, x0.cells, t_api_Change⟩] (Q (.bool false)))

theorem cellplanemill_Short_snd (N : Nat) (x0 : G_api_Change) (Q : Value → World → Prop) (w : World) (h : F_cellplanemill_Short N x0 Q w) : Snd (cx N (fun d => memN d [1])) (bodyOf Go.Proofs.Try.f18) (retD (cx N (fun d => memN d [1])) Go.Proofs.Try.f18 Q) (entry 13 [(.agg (List.toArray x0.cells))]) w :=
  (den_sound okc mixed _ _ _ _ (mpr' (by kernel_rfl) h))

theorem cellplanemill_Short_calls (x0 : G_api_Change) (Q : Value → World → Prop) (w : World) (h : F_cellplanemill_Short w.heap.size x0 Q w) : Calls PP n_cellplanemill_Short [(.agg (List.toArray x0.cells))].toArray w fun e w' => ∃ v, e = .returned v ∧ Q v w' :=
  calls_of (C := cx w.heap.size (fun d => memN d [1])) (fn := Go.Proofs.Try.f18) (c := (bodyOf Go.Proofs.Try.f18)) (by kernel_rfl) (by kernel_rfl) (Nat.le_refl _) (cellplanemill_Short_snd _ x0 Q w h)

/-! ### session_Same -/
def F_session_Same (N : Nat) (a0 : Option Addr) (b1 : Option Addr) (Q : Value → World → Prop) (w : World) : Prop :=
  NilL a0 fun q1 => ∃ cs2 : List Value, cs2.length = 40 ∧ At w q1 cs2 ∧ NotIn (q1 : Addr).block [] ∧ NilL b1 fun q3 => ∃ cs4 : List Value, cs4.length = 40 ∧ At w q3 cs4 ∧ NotIn (q3 : Addr).block [] ∧ ∃ b5 : Bool, (∀ wr : World, (eqSem .eql t_ar8_session_record (.agg (List.toArray cs2)) (.agg (List.toArray cs4))).run PP wr = .ok (.bool b5) wr) ∧ Reb N w [] (Q (.bool b5))

theorem session_Same_snd (N : Nat) (a0 : Option Addr) (b1 : Option Addr) (Q : Value → World → Prop) (w : World) (h : F_session_Same N a0 b1 Q w) : Snd (cx N (fun d => memN d [])) (bodyOf Go.Proofs.Try.f19) (retD (cx N (fun d => memN d [])) Go.Proofs.Try.f19 Q) (entry 14 [(.pointer a0), (.pointer b1)]) w :=
  (den_sound okc mixed _ _ _ _ (mpr' (by kernel_rfl) h))

theorem session_Same_calls (a0 : Option Addr) (b1 : Option Addr) (Q : Value → World → Prop) (w : World) (h : F_session_Same w.heap.size a0 b1 Q w) : Calls PP n_session_Same [(.pointer a0), (.pointer b1)].toArray w fun e w' => ∃ v, e = .returned v ∧ Q v w' :=
  calls_of (C := cx w.heap.size (fun d => memN d [])) (fn := Go.Proofs.Try.f19) (c := (bodyOf Go.Proofs.Try.f19)) (by kernel_rfl) (by kernel_rfl) (Nat.le_refl _) (session_Same_snd _ a0 b1 Q w h)

/-! ### cellplaneref26_Fold -/
noncomputable def k_cellplaneref26_Fold_0 : Code := (cR (cR (cR (bodyOf Go.Proofs.Try.f20))))

def C_cellplaneref26_Fold_3 (N : Nat) (Q : Value → World → Prop) (h0' : Sl) (t5' : Addr) (w : World) : Prop :=
  Reb N w [] (Q (.tuple #[(.pointer (some t5')), (.int .i64 ((h0'.n : Nat) : Int)), (.int .i64 0)]))

theorem X_cellplaneref26_Fold_3 {N : Nat} {Q : Value → World → Prop} {h0' : Sl} {t5' : Addr} {w : World} (h : C_cellplaneref26_Fold_3 N Q h0' t5' w) : Snd (cx N (fun d => memN d [7])) k_cellplaneref26_Fold_0 (retD (cx N (fun d => memN d [7])) Go.Proofs.Try.f20 Q) (mkS 29 [.val 0, .val 5] [(.slice h0'.a h0'.n h0'.c), (.pointer (some t5'))] []) w :=
  (den_sound okc mixed _ _ _ _ (mpr' (by kernel_rfl) h))

noncomputable def H_cellplaneref26_Fold_3 (N : Nat) (Q : Value → World → Prop) : St → World → Prop := fun s w => grabK 29 [.val 0, .val 5] s fun vs ls => match vs, ls with
  | [.slice h0'_a h0'_n h0'_c, .pointer (some t5')], [] => Reb N w s.L fun wa => C_cellplaneref26_Fold_3 N Q ⟨h0'_a, h0'_n, h0'_c⟩ t5' wa
  | _, _ => False

theorem T_cellplaneref26_Fold_3 (N : Nat) (Q : Value → World → Prop) (s : St) (w : World) (h : H_cellplaneref26_Fold_3 N Q s w) : Snd (cx N (fun d => memN d [7])) k_cellplaneref26_Fold_0 (retD (cx N (fun d => memN d [7])) Go.Proofs.Try.f20 Q) s w := by
  refine Snd.grab h (fun vs ls hd hloc wa hl => ?_)
  split at hd
  · exact X_cellplaneref26_Fold_3 (hd wa hl)
  · exact hd.elim

noncomputable def k_cellplaneref26_Fold_1 : Code := (cR (cL (cR (cR (bodyOf Go.Proofs.Try.f20)))))

noncomputable def z_cellplaneref26_Fold_2 (N : Nat) (Q : Value → World → Prop) : Cont := (thenD (H_cellplaneref26_Fold_3 N Q) (retD (cx N (fun d => memN d [7])) Go.Proofs.Try.f20 Q))

def D_cellplaneref26_Fold_5 (K : (Sl × Addr × Sl × Int) → (Int) → Prop) : List Value → List LB → Prop := fun vs ls => match vs, ls with
  | [.slice h0'_a h0'_n h0'_c, .pointer (some t5'), .slice v11'_a v11'_n v11'_c, .int .i64 v12', .int .i64 v13'], [] => K (⟨h0'_a, h0'_n, h0'_c⟩, t5', ⟨v11'_a, v11'_n, v11'_c⟩, v12') v13'
  | _, _ => False

def B_cellplaneref26_Fold_5 (N : Nat) (K1 : (Sl × Addr × Sl × Int) → (Int) → World → Prop) (Q : Value → World → Prop) (h0' : Sl) (t5' : Addr) (v11' : Sl) (v12' v13' : Int) (w : World) : Prop :=
  IfB (decide ((v13' : Int) < v12')) (IdxL v11'.a v11'.n v13' fun q1 => ∃ x2 : G_api_Change, At w (q1.add ((v13' : Int).toNat * 8)) x2.cells ∧ NotIn ((q1.add ((v13' : Int).toNat * 8)) : Addr).block [] ∧ ∀ b3 : Nat, w.heap.size ≤ b3 → CallL PP N w [⟨b3, x2.cells, t_api_Change⟩] n_cellplaneref26_Table_Apply [(.pointer (some t5')), (.agg (List.toArray x2.cells))] fun r5 w6 => ∃ n4 : Int, r5 = (.int .i64 n4) ∧ IfB (!decide ((n4 : Int) = 0)) (Reb N w6 [⟨b3, x2.cells, t_api_Change⟩] (Q (.tuple #[(.pointer none), (.int .i64 v13'), (.int .i64 n4)]))) (Reb N w6 [⟨b3, x2.cells, t_api_Change⟩] fun w7 => K1 (h0', t5', v11', v12') (IntKind.i64.wrap (v13' + 1)) w7)) (Reb N w [] fun w8 => C_cellplaneref26_Fold_3 N Q h0' t5' w8)

theorem X_cellplaneref26_Fold_5 {N : Nat} {K1 : (Sl × Addr × Sl × Int) → (Int) → World → Prop} {Q : Value → World → Prop} {h0' : Sl} {t5' : Addr} {v11' : Sl} {v12' v13' : Int} {w : World} (h : B_cellplaneref26_Fold_5 N K1 Q h0' t5' v11' v12' v13' w) : Snd (cx N (fun d => memN d [7])) (cL (cL k_cellplaneref26_Fold_1)) (thenD (HeadK N 29 [.val 0, .val 5, .val 11, .val 12, .val 13] D_cellplaneref26_Fold_5 K1) (inBlockD 0 (z_cellplaneref26_Fold_2 N Q))) (mkS 29 [.val 0, .val 5, .val 11, .val 12, .val 13] [(.slice h0'.a h0'.n h0'.c), (.pointer (some t5')), (.slice v11'.a v11'.n v11'.c), (.int .i64 v12'), (.int .i64 v13')] []) w :=
  (den_sound okc mixed _ _ _ _ (mpr' (by kernel_rfl) h))

def L_cellplaneref26_Fold_5 (N : Nat) (Q : Value → World → Prop) (K1 : (Sl × Addr × Sl × Int) → (Int) → World → Prop) (c : Sl × Addr × Sl × Int) (x : Int) (w : World) : Prop := match c, x with
  | (h0', t5', v11', v12'), v13' => B_cellplaneref26_Fold_5 N K1 Q h0' t5' v11' v12' v13' w

theorem T_cellplaneref26_Fold_5 (N : Nat) (Q : Value → World → Prop) {s : St} {w : World} (h : HeadE N 29 [.val 0, .val 5, .val 11, .val 12, .val 13] D_cellplaneref26_Fold_5 (L_cellplaneref26_Fold_5 N Q) s w) : Snd (cx N (fun d => memN d [7])) (cL k_cellplaneref26_Fold_1) (inBlockD 0 (z_cellplaneref26_Fold_2 N Q)) s w := by
  refine Snd.cast (c' := .loop (cL (cL k_cellplaneref26_Fold_1))) (by kernel_rfl) (Snd.loopC (fun (c : Sl × Addr × Sl × Int) (x : Int) => match c, x with | (h0', t5', v11', v12'), v13' => ([(.slice h0'.a h0'.n h0'.c), (.pointer (some t5')), (.slice v11'.a v11'.n v11'.c), (.int .i64 v12'), (.int .i64 v13')], [])) ?_ ?_ h)
  · intro K vs ls h
    unfold D_cellplaneref26_Fold_5 at h
    split at h
    · exact ⟨_, _, rfl, h⟩
    · exact h.elim
  · rintro K ⟨h0', t5', v11', v12'⟩ v13' w h
    exact X_cellplaneref26_Fold_5 h

def C_cellplaneref26_Fold_4 (N : Nat) (Q : Value → World → Prop) (h0' : Sl) (t5' : Addr) (v11' : Sl) (v12' v13' : Int) (w : World) : Prop :=
  LoopC N w [] ((h0', t5', v11', v12') : Sl × Addr × Sl × Int) (v13' : Int) (L_cellplaneref26_Fold_5 N Q)

theorem X_cellplaneref26_Fold_4 {N : Nat} {Q : Value → World → Prop} {h0' : Sl} {t5' : Addr} {v11' : Sl} {v12' v13' : Int} {w : World} (h : C_cellplaneref26_Fold_4 N Q h0' t5' v11' v12' v13' w) : Snd (cx N (fun d => memN d [7])) k_cellplaneref26_Fold_1 (z_cellplaneref26_Fold_2 N Q) (mkS 29 [.val 0, .val 5, .val 11, .val 12, .val 13] [(.slice h0'.a h0'.n h0'.c), (.pointer (some t5')), (.slice v11'.a v11'.n v11'.c), (.int .i64 v12'), (.int .i64 v13')] []) w :=
  (Snd.cast (c' := .block 0 (cL k_cellplaneref26_Fold_1)) (by kernel_rfl) (Snd.block (T_cellplaneref26_Fold_5 N Q (mpr' (by kernel_rfl) h))))

noncomputable def H_cellplaneref26_Fold_4 (N : Nat) (Q : Value → World → Prop) : St → World → Prop := fun s w => grabK 29 [.val 0, .val 5, .val 11, .val 12, .val 13] s fun vs ls => match vs, ls with
  | [.slice h0'_a h0'_n h0'_c, .pointer (some t5'), .slice v11'_a v11'_n v11'_c, .int .i64 v12', .int .i64 v13'], [] => Reb N w s.L fun wa => C_cellplaneref26_Fold_4 N Q ⟨h0'_a, h0'_n, h0'_c⟩ t5' ⟨v11'_a, v11'_n, v11'_c⟩ v12' v13' wa
  | _, _ => False

theorem T_cellplaneref26_Fold_4 (N : Nat) (Q : Value → World → Prop) (s : St) (w : World) (h : H_cellplaneref26_Fold_4 N Q s w) : Snd (cx N (fun d => memN d [7])) k_cellplaneref26_Fold_1 (z_cellplaneref26_Fold_2 N Q) s w := by
  refine Snd.grab h (fun vs ls hd hloc wa hl => ?_)
  split at hd
  · exact X_cellplaneref26_Fold_4 (hd wa hl)
  · exact hd.elim

def C_cellplaneref26_Fold_2 (N : Nat) (Q : Value → World → Prop) (h0' : Sl) (t5' : Addr) (w : World) : Prop :=
  Reb N w [] fun w9 => C_cellplaneref26_Fold_4 N Q h0' t5' h0' ((h0'.n : Nat) : Int) 0 w9

theorem X_cellplaneref26_Fold_2 {N : Nat} {Q : Value → World → Prop} {h0' : Sl} {t5' : Addr} {w : World} (h : C_cellplaneref26_Fold_2 N Q h0' t5' w) : Snd (cx N (fun d => memN d [7])) (cR (cR (bodyOf Go.Proofs.Try.f20))) (retD (cx N (fun d => memN d [7])) Go.Proofs.Try.f20 Q) (mkS 29 [.val 0, .val 5] [(.slice h0'.a h0'.n h0'.c), (.pointer (some t5'))] []) w :=
  (Snd.cast (c' := .seq (cL (cR (cR (bodyOf Go.Proofs.Try.f20)))) (cR (cR (cR (bodyOf Go.Proofs.Try.f20))))) (by kernel_rfl) (Snd.seq (H_cellplaneref26_Fold_3 N Q) (Snd.cast (c' := .seq (cL (cL (cR (cR (bodyOf Go.Proofs.Try.f20))))) (cR (cL (cR (cR (bodyOf Go.Proofs.Try.f20)))))) (by kernel_rfl) (Snd.seq (H_cellplaneref26_Fold_4 N Q) (den_sound okc mixed _ _ _ _ (mpr' (by kernel_rfl) h)) (fun s w h => T_cellplaneref26_Fold_4 N Q s w h))) (fun s w h => T_cellplaneref26_Fold_3 N Q s w h)))

noncomputable def H_cellplaneref26_Fold_2 (N : Nat) (Q : Value → World → Prop) : St → World → Prop := fun s w => grabK 29 [.val 0, .val 5] s fun vs ls => match vs, ls with
  | [.slice h0'_a h0'_n h0'_c, .pointer (some t5')], [] => Reb N w s.L fun wa => C_cellplaneref26_Fold_2 N Q ⟨h0'_a, h0'_n, h0'_c⟩ t5' wa
  | _, _ => False

theorem T_cellplaneref26_Fold_2 (N : Nat) (Q : Value → World → Prop) (s : St) (w : World) (h : H_cellplaneref26_Fold_2 N Q s w) : Snd (cx N (fun d => memN d [7])) (cR (cR (bodyOf Go.Proofs.Try.f20))) (retD (cx N (fun d => memN d [7])) Go.Proofs.Try.f20 Q) s w := by
  refine Snd.grab h (fun vs ls hd hloc wa hl => ?_)
  split at hd
  · exact X_cellplaneref26_Fold_2 (hd wa hl)
  · exact hd.elim

def C_cellplaneref26_Fold_1 (N : Nat) (Q : Value → World → Prop) (h0' : Sl) (w : World) : Prop :=
  NewL N w [] [(.int .i64 0), (.int .i64 0), (.int .i64 0), (.int .i64 0), (.int .i64 0), (.int .i64 0), (.int .i64 0), (.int .i64 0), (.int .i64 0), (.int .i64 0), (.int .i64 0), (.string ByteArray.empty), (.int .i64 0), (.int .i64 0), (.int .i64 0), (.string ByteArray.empty), (.int .i64 0), (.int .i64 0), (.int .i64 0), (.string ByteArray.empty), (.int .i64 0), (.int .i64 0), (.int .i64 0), (.string ByteArray.empty), (.int .i64 0), (.int .i64 0), (.int .i64 0), (.string ByteArray.empty), (.int .i64 0), (.int .i64 0), (.int .i64 0), (.string ByteArray.empty), (.int .i64 0), (.int .i64 0), (.int .i64 0), (.string ByteArray.empty), (.int .i64 0), (.int .i64 0), (.int .i64 0), (.string ByteArray.empty)] t_cellplaneref26_Table fun b10 w11 => Reb N w11 [] fun w12 => C_cellplaneref26_Fold_2 N Q h0' ⟨b10, 0, none⟩ w12

theorem X_cellplaneref26_Fold_1 {N : Nat} {Q : Value → World → Prop} {h0' : Sl} {w : World} (h : C_cellplaneref26_Fold_1 N Q h0' w) : Snd (cx N (fun d => memN d [7])) (cR (bodyOf Go.Proofs.Try.f20)) (retD (cx N (fun d => memN d [7])) Go.Proofs.Try.f20 Q) (mkS 29 [.val 0] [(.slice h0'.a h0'.n h0'.c)] []) w :=
  (Snd.cast (c' := .seq (cL (cR (bodyOf Go.Proofs.Try.f20))) (cR (cR (bodyOf Go.Proofs.Try.f20)))) (by kernel_rfl) (Snd.seq (H_cellplaneref26_Fold_2 N Q) (den_sound okc mixed _ _ _ _ (mpr' (by kernel_rfl) h)) (fun s w h => T_cellplaneref26_Fold_2 N Q s w h)))

noncomputable def H_cellplaneref26_Fold_1 (N : Nat) (Q : Value → World → Prop) : St → World → Prop := fun s w => grabK 29 [.val 0] s fun vs ls => match vs, ls with
  | [.slice h0'_a h0'_n h0'_c], [] => Reb N w s.L fun wa => C_cellplaneref26_Fold_1 N Q ⟨h0'_a, h0'_n, h0'_c⟩ wa
  | _, _ => False

theorem T_cellplaneref26_Fold_1 (N : Nat) (Q : Value → World → Prop) (s : St) (w : World) (h : H_cellplaneref26_Fold_1 N Q s w) : Snd (cx N (fun d => memN d [7])) (cR (bodyOf Go.Proofs.Try.f20)) (retD (cx N (fun d => memN d [7])) Go.Proofs.Try.f20 Q) s w := by
  refine Snd.grab h (fun vs ls hd hloc wa hl => ?_)
  split at hd
  · exact X_cellplaneref26_Fold_1 (hd wa hl)
  · exact hd.elim

def F_cellplaneref26_Fold (N : Nat) (h0 : Sl) (Q : Value → World → Prop) (w : World) : Prop :=
  Reb N w [] fun w13 => C_cellplaneref26_Fold_1 N Q h0 w13

theorem cellplaneref26_Fold_snd (N : Nat) (h0 : Sl) (Q : Value → World → Prop) (w : World) (h : F_cellplaneref26_Fold N h0 Q w) : Snd (cx N (fun d => memN d [7])) (bodyOf Go.Proofs.Try.f20) (retD (cx N (fun d => memN d [7])) Go.Proofs.Try.f20 Q) (entry 29 [(.slice h0.a h0.n h0.c)]) w :=
  (Snd.cast (c' := .seq (cL (bodyOf Go.Proofs.Try.f20)) (cR (bodyOf Go.Proofs.Try.f20))) (by kernel_rfl) (Snd.seq (H_cellplaneref26_Fold_1 N Q) (den_sound okc mixed _ _ _ _ (mpr' (by kernel_rfl) h)) (fun s w h => T_cellplaneref26_Fold_1 N Q s w h)))

theorem cellplaneref26_Fold_calls (h0 : Sl) (Q : Value → World → Prop) (w : World) (h : F_cellplaneref26_Fold w.heap.size h0 Q w) : Calls PP n_cellplaneref26_Fold [(.slice h0.a h0.n h0.c)].toArray w fun e w' => ∃ v, e = .returned v ∧ Q v w' :=
  calls_of (C := cx w.heap.size (fun d => memN d [7])) (fn := Go.Proofs.Try.f20) (c := (bodyOf Go.Proofs.Try.f20)) (by kernel_rfl) (by kernel_rfl) (Nat.le_refl _) (cellplaneref26_Fold_snd _ h0 Q w h)

/-! ### cellplaneref26_Table_Apply -/
def F_cellplaneref26_Table_Apply (N : Nat) (t0 : Option Addr) (x1 : G_api_Change) (Q : Value → World → Prop) (w : World) : Prop :=
  ∀ b1 : Nat, w.heap.size ≤ b1 → CallL PP N w [⟨b1, x1.cells, t_api_Change⟩] n_cellplaneref24_Valid [(.agg (List.toArray x1.cells))] fun r3 w4 => ∃ b2 : Bool, r3 = (.bool b2) ∧ IfB (!b2) (Reb N w4 [⟨b1, x1.cells, t_api_Change⟩] (Q (.int .i64 1))) (NilL t0 fun q5 => (0 : Int) ≤ (IntKind.i64.wrap (x1.Client - 1)) ∧ ((IntKind.i64.wrap (x1.Client - 1)) : Int) < (8 : Nat) ∧ ∃ n6 : Int, At w4 ((q5 : Addr).add (((IntKind.i64.wrap (x1.Client - 1)) : Int).toNat * 1)) [(.int .i64 n6)] ∧ NotIn (((q5 : Addr).add (((IntKind.i64.wrap (x1.Client - 1)) : Int).toNat * 1)) : Addr).block [⟨b1, x1.cells, t_api_Change⟩] ∧ IfB (!decide ((x1.Number : Int) = (IntKind.i64.wrap (n6 + 1)))) (Reb N w4 [⟨b1, x1.cells, t_api_Change⟩] (Q (.int .i64 32))) (NilL t0 fun q7 => (0 : Int) ≤ (IntKind.i64.wrap (x1.Client - 1)) ∧ ((IntKind.i64.wrap (x1.Client - 1)) : Int) < (8 : Nat) ∧ StL w4 [⟨b1, x1.cells, t_api_Change⟩] ((q7 : Addr).add (((IntKind.i64.wrap (x1.Client - 1)) : Int).toNat * 1)) [(.int .i64 x1.Number)] fun w8 => NilL t0 fun q9 => (0 : Int) ≤ (IntKind.i64.wrap (x1.Client - 1)) ∧ ((IntKind.i64.wrap (x1.Client - 1)) : Int) < (8 : Nat) ∧ StL w8 [⟨b1, x1.cells, t_api_Change⟩] (((addA q9 8) : Addr).add (((IntKind.i64.wrap (x1.Client - 1)) : Int).toNat * 4)) (⟨0, x1.Seq, x1.Item, ByteArray.empty⟩ : G_api_Reply).cells fun w10 => IfB (decide ((x1.Kind : Int) = 3)) (NilL t0 fun q11 => (0 : Int) ≤ (IntKind.i64.wrap (x1.Client - 1)) ∧ ((IntKind.i64.wrap (x1.Client - 1)) : Int) < (8 : Nat) ∧ StL w10 [⟨b1, x1.cells, t_api_Change⟩] (addA (((addA q11 8) : Addr).add (((IntKind.i64.wrap (x1.Client - 1)) : Int).toNat * 4)) 2) [(.int .i64 x1.Seq)] fun w12 => Reb N w12 [⟨b1, x1.cells, t_api_Change⟩] (Q (.int .i64 0))) (Reb N w10 [⟨b1, x1.cells, t_api_Change⟩] (Q (.int .i64 0)))))

theorem cellplaneref26_Table_Apply_snd (N : Nat) (t0 : Option Addr) (x1 : G_api_Change) (Q : Value → World → Prop) (w : World) (h : F_cellplaneref26_Table_Apply N t0 x1 Q w) : Snd (cx N (fun d => memN d [3])) (bodyOf Go.Proofs.Try.f21) (retD (cx N (fun d => memN d [3])) Go.Proofs.Try.f21 Q) (entry 50 [(.pointer t0), (.agg (List.toArray x1.cells))]) w :=
  (den_sound okc mixed _ _ _ _ (mpr' (by kernel_rfl) h))

theorem cellplaneref26_Table_Apply_calls (t0 : Option Addr) (x1 : G_api_Change) (Q : Value → World → Prop) (w : World) (h : F_cellplaneref26_Table_Apply w.heap.size t0 x1 Q w) : Calls PP n_cellplaneref26_Table_Apply [(.pointer t0), (.agg (List.toArray x1.cells))].toArray w fun e w' => ∃ v, e = .returned v ∧ Q v w' :=
  calls_of (C := cx w.heap.size (fun d => memN d [3])) (fn := Go.Proofs.Try.f21) (c := (bodyOf Go.Proofs.Try.f21)) (by kernel_rfl) (by kernel_rfl) (Nat.le_refl _) (cellplaneref26_Table_Apply_snd _ t0 x1 Q w h)
end Go.Sh
