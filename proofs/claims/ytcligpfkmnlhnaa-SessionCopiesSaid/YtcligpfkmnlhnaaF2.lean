/- What these functions do, told by computation: a formula for each, and that its calls do what the formula says.
   Conditions: none. -/
import Derived.Test.YtcligpfkmnlhnaaBase
namespace Go.Sh
open Go
set_option linter.unusedVariables false
set_option maxRecDepth 100000

/-! ### cellplanelaw26_SessionApplies -/
noncomputable def k_cellplanelaw26_SessionApplies_0 : Code := (cR (cR (cR (cR (bodyOf Go.Proofs.Try.f6)))))

noncomputable def k_cellplanelaw26_SessionApplies_1 : Code := (cR (cR k_cellplanelaw26_SessionApplies_0))

noncomputable def k_cellplanelaw26_SessionApplies_2 : Code := (cR (cR k_cellplanelaw26_SessionApplies_1))

def C_cellplanelaw26_SessionApplies_8 (N : Nat) (Q : Value → World → Prop) (client2' number3' : Int) (t10' w13' : Option Addr) (w : World) : Prop :=
  CallL PP N w [] n_cellplanelaw26_same [(.pointer t10'), (.pointer w13'), (.int .i64 client2'), (.int .i64 number3')] fun r2 w3 => ∃ b1 : Bool, r2 = (.bool b1) ∧ Reb N w3 [] (Q (.bool b1))

theorem X_cellplanelaw26_SessionApplies_8 {N : Nat} {Q : Value → World → Prop} {client2' number3' : Int} {t10' w13' : Option Addr} {w : World} (h : C_cellplanelaw26_SessionApplies_8 N Q client2' number3' t10' w13' w) : Snd (cx N (fun d => memN d [17])) k_cellplanelaw26_SessionApplies_2 (retD (cx N (fun d => memN d [17])) Go.Proofs.Try.f6 Q) (mkS 81 [.val 2, .val 3, .val 10, .val 13] [(.int .i64 client2'), (.int .i64 number3'), (.pointer t10'), (.pointer w13')] []) w :=
  (den_sound okc mixed _ _ _ _ (mpr' (by kernel_rfl) h))

noncomputable def H_cellplanelaw26_SessionApplies_8 (N : Nat) (Q : Value → World → Prop) : St → World → Prop := fun s w => grabK 81 [.val 2, .val 3, .val 10, .val 13] s fun vs ls => match vs, ls with
  | [.int .i64 client2', .int .i64 number3', .pointer t10', .pointer w13'], [] => Reb N w s.L fun wa => C_cellplanelaw26_SessionApplies_8 N Q client2' number3' t10' w13' wa
  | _, _ => False

theorem T_cellplanelaw26_SessionApplies_8 (N : Nat) (Q : Value → World → Prop) (s : St) (w : World) (h : H_cellplanelaw26_SessionApplies_8 N Q s w) : Snd (cx N (fun d => memN d [17])) k_cellplanelaw26_SessionApplies_2 (retD (cx N (fun d => memN d [17])) Go.Proofs.Try.f6 Q) s w := by
  refine Snd.grab h (fun vs ls hd hloc wa hl => ?_)
  split at hd
  · exact X_cellplanelaw26_SessionApplies_8 (hd wa hl)
  · exact hd.elim

noncomputable def k_cellplanelaw26_SessionApplies_3 : Code := (cR (cL (cR k_cellplanelaw26_SessionApplies_1)))

noncomputable def z_cellplanelaw26_SessionApplies_4 (N : Nat) (Q : Value → World → Prop) : Cont := (thenD (H_cellplanelaw26_SessionApplies_8 N Q) (retD (cx N (fun d => memN d [17])) Go.Proofs.Try.f6 Q))

def D_cellplanelaw26_SessionApplies_10 (K : (Int × Int × (Option Addr) × (Option Addr) × Sl × Int) → (Int) → Prop) : List Value → List LB → Prop := fun vs ls => match vs, ls with
  | [.int .i64 client2', .int .i64 number3', .pointer t10', .pointer w13', .slice v54'_a v54'_n v54'_c, .int .i64 v55', .int .i64 v56'], [] => K (client2', number3', t10', w13', ⟨v54'_a, v54'_n, v54'_c⟩, v55') v56'
  | _, _ => False

def B_cellplanelaw26_SessionApplies_10 (N : Nat) (K1 : (Int × Int × (Option Addr) × (Option Addr) × Sl × Int) → (Int) → World → Prop) (Q : Value → World → Prop) (client2' number3' : Int) (t10' w13' : Option Addr) (v54' : Sl) (v55' v56' : Int) (w : World) : Prop :=
  IfB (decide ((v56' : Int) < v55')) (IdxL v54'.a v54'.n v56' fun q4 => ∃ x5 : G_api_Change, At w (q4.add ((v56' : Int).toNat * 8)) x5.cells ∧ NotIn ((q4.add ((v56' : Int).toNat * 8)) : Addr).block [] ∧ ∀ b6 : Nat, w.heap.size ≤ b6 → CallL PP N w [⟨b6, x5.cells, t_api_Change⟩] n_session_Table_Apply [(.pointer t10'), (.agg (List.toArray x5.cells))] fun r8 w9 => ∃ n7 : Int, r8 = (.int .i64 n7) ∧ CallL PP N w9 [⟨b6, x5.cells, t_api_Change⟩] n_cellplaneref26_Table_Apply [(.pointer w13'), (.agg (List.toArray x5.cells))] fun r11 w12 => ∃ n10 : Int, r11 = (.int .i64 n10) ∧ IfB (!decide ((n7 : Int) = n10)) (Reb N w12 [⟨b6, x5.cells, t_api_Change⟩] (Q (.bool false))) (CallL PP N w12 [⟨b6, x5.cells, t_api_Change⟩] n_cellplanelaw26_same [(.pointer t10'), (.pointer w13'), (.int .i64 client2'), (.int .i64 number3')] fun r14 w15 => ∃ b13 : Bool, r14 = (.bool b13) ∧ IfB (!b13) (Reb N w15 [⟨b6, x5.cells, t_api_Change⟩] (Q (.bool false))) (Reb N w15 [⟨b6, x5.cells, t_api_Change⟩] fun w16 => K1 (client2', number3', t10', w13', v54', v55') (IntKind.i64.wrap (v56' + 1)) w16))) (Reb N w [] fun w17 => C_cellplanelaw26_SessionApplies_8 N Q client2' number3' t10' w13' w17)

theorem X_cellplanelaw26_SessionApplies_10 {N : Nat} {K1 : (Int × Int × (Option Addr) × (Option Addr) × Sl × Int) → (Int) → World → Prop} {Q : Value → World → Prop} {client2' number3' : Int} {t10' w13' : Option Addr} {v54' : Sl} {v55' v56' : Int} {w : World} (h : B_cellplanelaw26_SessionApplies_10 N K1 Q client2' number3' t10' w13' v54' v55' v56' w) : Snd (cx N (fun d => memN d [17])) (cL (cL k_cellplanelaw26_SessionApplies_3)) (thenD (HeadK N 81 [.val 2, .val 3, .val 10, .val 13, .val 54, .val 55, .val 56] D_cellplanelaw26_SessionApplies_10 K1) (inBlockD 0 (z_cellplanelaw26_SessionApplies_4 N Q))) (mkS 81 [.val 2, .val 3, .val 10, .val 13, .val 54, .val 55, .val 56] [(.int .i64 client2'), (.int .i64 number3'), (.pointer t10'), (.pointer w13'), (.slice v54'.a v54'.n v54'.c), (.int .i64 v55'), (.int .i64 v56')] []) w :=
  (den_sound okc mixed _ _ _ _ (mpr' (by kernel_rfl) h))

def L_cellplanelaw26_SessionApplies_10 (N : Nat) (Q : Value → World → Prop) (K1 : (Int × Int × (Option Addr) × (Option Addr) × Sl × Int) → (Int) → World → Prop) (c : Int × Int × (Option Addr) × (Option Addr) × Sl × Int) (x : Int) (w : World) : Prop := match c, x with
  | (client2', number3', t10', w13', v54', v55'), v56' => B_cellplanelaw26_SessionApplies_10 N K1 Q client2' number3' t10' w13' v54' v55' v56' w

theorem T_cellplanelaw26_SessionApplies_10 (N : Nat) (Q : Value → World → Prop) {s : St} {w : World} (h : HeadE N 81 [.val 2, .val 3, .val 10, .val 13, .val 54, .val 55, .val 56] D_cellplanelaw26_SessionApplies_10 (L_cellplanelaw26_SessionApplies_10 N Q) s w) : Snd (cx N (fun d => memN d [17])) (cL k_cellplanelaw26_SessionApplies_3) (inBlockD 0 (z_cellplanelaw26_SessionApplies_4 N Q)) s w := by
  refine Snd.cast (c' := .loop (cL (cL k_cellplanelaw26_SessionApplies_3))) (by kernel_rfl) (Snd.loopC (fun (c : Int × Int × (Option Addr) × (Option Addr) × Sl × Int) (x : Int) => match c, x with | (client2', number3', t10', w13', v54', v55'), v56' => ([(.int .i64 client2'), (.int .i64 number3'), (.pointer t10'), (.pointer w13'), (.slice v54'.a v54'.n v54'.c), (.int .i64 v55'), (.int .i64 v56')], [])) ?_ ?_ h)
  · intro K vs ls h
    unfold D_cellplanelaw26_SessionApplies_10 at h
    split at h
    · exact ⟨_, _, rfl, h⟩
    · exact h.elim
  · rintro K ⟨client2', number3', t10', w13', v54', v55'⟩ v56' w h
    exact X_cellplanelaw26_SessionApplies_10 h

def C_cellplanelaw26_SessionApplies_9 (N : Nat) (Q : Value → World → Prop) (client2' number3' : Int) (t10' w13' : Option Addr) (v54' : Sl) (v55' v56' : Int) (w : World) : Prop :=
  LoopC N w [] ((client2', number3', t10', w13', v54', v55') : Int × Int × (Option Addr) × (Option Addr) × Sl × Int) (v56' : Int) (L_cellplanelaw26_SessionApplies_10 N Q)

theorem X_cellplanelaw26_SessionApplies_9 {N : Nat} {Q : Value → World → Prop} {client2' number3' : Int} {t10' w13' : Option Addr} {v54' : Sl} {v55' v56' : Int} {w : World} (h : C_cellplanelaw26_SessionApplies_9 N Q client2' number3' t10' w13' v54' v55' v56' w) : Snd (cx N (fun d => memN d [17])) k_cellplanelaw26_SessionApplies_3 (z_cellplanelaw26_SessionApplies_4 N Q) (mkS 81 [.val 2, .val 3, .val 10, .val 13, .val 54, .val 55, .val 56] [(.int .i64 client2'), (.int .i64 number3'), (.pointer t10'), (.pointer w13'), (.slice v54'.a v54'.n v54'.c), (.int .i64 v55'), (.int .i64 v56')] []) w :=
  (Snd.cast (c' := .block 0 (cL k_cellplanelaw26_SessionApplies_3)) (by kernel_rfl) (Snd.block (T_cellplanelaw26_SessionApplies_10 N Q (mpr' (by kernel_rfl) h))))

noncomputable def H_cellplanelaw26_SessionApplies_9 (N : Nat) (Q : Value → World → Prop) : St → World → Prop := fun s w => grabK 81 [.val 2, .val 3, .val 10, .val 13, .val 54, .val 55, .val 56] s fun vs ls => match vs, ls with
  | [.int .i64 client2', .int .i64 number3', .pointer t10', .pointer w13', .slice v54'_a v54'_n v54'_c, .int .i64 v55', .int .i64 v56'], [] => Reb N w s.L fun wa => C_cellplanelaw26_SessionApplies_9 N Q client2' number3' t10' w13' ⟨v54'_a, v54'_n, v54'_c⟩ v55' v56' wa
  | _, _ => False

theorem T_cellplanelaw26_SessionApplies_9 (N : Nat) (Q : Value → World → Prop) (s : St) (w : World) (h : H_cellplanelaw26_SessionApplies_9 N Q s w) : Snd (cx N (fun d => memN d [17])) k_cellplanelaw26_SessionApplies_3 (z_cellplanelaw26_SessionApplies_4 N Q) s w := by
  refine Snd.grab h (fun vs ls hd hloc wa hl => ?_)
  split at hd
  · exact X_cellplanelaw26_SessionApplies_9 (hd wa hl)
  · exact hd.elim

def C_cellplanelaw26_SessionApplies_7 (N : Nat) (Q : Value → World → Prop) (raw1' : Sl) (client2' number3' : Int) (t10' w13' : Option Addr) (w : World) : Prop :=
  Reb N w [] fun w18 => C_cellplanelaw26_SessionApplies_9 N Q client2' number3' t10' w13' raw1' ((raw1'.n : Nat) : Int) 0 w18

theorem X_cellplanelaw26_SessionApplies_7 {N : Nat} {Q : Value → World → Prop} {raw1' : Sl} {client2' number3' : Int} {t10' w13' : Option Addr} {w : World} (h : C_cellplanelaw26_SessionApplies_7 N Q raw1' client2' number3' t10' w13' w) : Snd (cx N (fun d => memN d [17])) (cR k_cellplanelaw26_SessionApplies_1) (retD (cx N (fun d => memN d [17])) Go.Proofs.Try.f6 Q) (mkS 81 [.val 1, .val 2, .val 3, .val 10, .val 13] [(.slice raw1'.a raw1'.n raw1'.c), (.int .i64 client2'), (.int .i64 number3'), (.pointer t10'), (.pointer w13')] []) w :=
  (Snd.cast (c' := .seq (cL (cR k_cellplanelaw26_SessionApplies_1)) (cR (cR k_cellplanelaw26_SessionApplies_1))) (by kernel_rfl) (Snd.seq (H_cellplanelaw26_SessionApplies_8 N Q) (Snd.cast (c' := .seq (cL (cL (cR k_cellplanelaw26_SessionApplies_1))) (cR (cL (cR k_cellplanelaw26_SessionApplies_1)))) (by kernel_rfl) (Snd.seq (H_cellplanelaw26_SessionApplies_9 N Q) (den_sound okc mixed _ _ _ _ (mpr' (by kernel_rfl) h)) (fun s w h => T_cellplanelaw26_SessionApplies_9 N Q s w h))) (fun s w h => T_cellplanelaw26_SessionApplies_8 N Q s w h)))

noncomputable def H_cellplanelaw26_SessionApplies_7 (N : Nat) (Q : Value → World → Prop) : St → World → Prop := fun s w => grabK 81 [.val 1, .val 2, .val 3, .val 10, .val 13] s fun vs ls => match vs, ls with
  | [.slice raw1'_a raw1'_n raw1'_c, .int .i64 client2', .int .i64 number3', .pointer t10', .pointer w13'], [] => Reb N w s.L fun wa => C_cellplanelaw26_SessionApplies_7 N Q ⟨raw1'_a, raw1'_n, raw1'_c⟩ client2' number3' t10' w13' wa
  | _, _ => False

theorem T_cellplanelaw26_SessionApplies_7 (N : Nat) (Q : Value → World → Prop) (s : St) (w : World) (h : H_cellplanelaw26_SessionApplies_7 N Q s w) : Snd (cx N (fun d => memN d [17])) (cR k_cellplanelaw26_SessionApplies_1) (retD (cx N (fun d => memN d [17])) Go.Proofs.Try.f6 Q) s w := by
  refine Snd.grab h (fun vs ls hd hloc wa hl => ?_)
  split at hd
  · exact X_cellplanelaw26_SessionApplies_7 (hd wa hl)
  · exact hd.elim

def C_cellplanelaw26_SessionApplies_6 (N : Nat) (Q : Value → World → Prop) (raw1' : Sl) (client2' number3' : Int) (h9' : Sl) (t10' : Option Addr) (n11' e12' : Int) (w13' : Option Addr) (w : World) : Prop :=
  IfB (!decide ((e12' : Int) = 0)) (Reb N w [] (Q (.bool false))) (IfB (!decide ((n11' : Int) = ((h9'.n : Nat) : Int))) (Reb N w [] (Q (.bool false))) (IfB t10'.isNone (Reb N w [] (Q (.bool false))) (Reb N w [] fun w19 => C_cellplanelaw26_SessionApplies_7 N Q raw1' client2' number3' t10' w13' w19)))

theorem X_cellplanelaw26_SessionApplies_6 {N : Nat} {Q : Value → World → Prop} {raw1' : Sl} {client2' number3' : Int} {h9' : Sl} {t10' : Option Addr} {n11' e12' : Int} {w13' : Option Addr} {w : World} (h : C_cellplanelaw26_SessionApplies_6 N Q raw1' client2' number3' h9' t10' n11' e12' w13' w) : Snd (cx N (fun d => memN d [17])) k_cellplanelaw26_SessionApplies_1 (retD (cx N (fun d => memN d [17])) Go.Proofs.Try.f6 Q) (mkS 81 [.val 1, .val 2, .val 3, .val 9, .val 10, .val 11, .val 12, .val 13] [(.slice raw1'.a raw1'.n raw1'.c), (.int .i64 client2'), (.int .i64 number3'), (.slice h9'.a h9'.n h9'.c), (.pointer t10'), (.int .i64 n11'), (.int .i64 e12'), (.pointer w13')] []) w :=
  (Snd.cast (c' := .seq (cL k_cellplanelaw26_SessionApplies_1) (cR k_cellplanelaw26_SessionApplies_1)) (by kernel_rfl) (Snd.seq (H_cellplanelaw26_SessionApplies_7 N Q) (den_sound okc mixed _ _ _ _ (mpr' (by kernel_rfl) h)) (fun s w h => T_cellplanelaw26_SessionApplies_7 N Q s w h)))

noncomputable def H_cellplanelaw26_SessionApplies_6 (N : Nat) (Q : Value → World → Prop) : St → World → Prop := fun s w => grabK 81 [.val 1, .val 2, .val 3, .val 9, .val 10, .val 11, .val 12, .val 13] s fun vs ls => match vs, ls with
  | [.slice raw1'_a raw1'_n raw1'_c, .int .i64 client2', .int .i64 number3', .slice h9'_a h9'_n h9'_c, .pointer t10', .int .i64 n11', .int .i64 e12', .pointer w13'], [] => Reb N w s.L fun wa => C_cellplanelaw26_SessionApplies_6 N Q ⟨raw1'_a, raw1'_n, raw1'_c⟩ client2' number3' ⟨h9'_a, h9'_n, h9'_c⟩ t10' n11' e12' w13' wa
  | _, _ => False

theorem T_cellplanelaw26_SessionApplies_6 (N : Nat) (Q : Value → World → Prop) (s : St) (w : World) (h : H_cellplanelaw26_SessionApplies_6 N Q s w) : Snd (cx N (fun d => memN d [17])) k_cellplanelaw26_SessionApplies_1 (retD (cx N (fun d => memN d [17])) Go.Proofs.Try.f6 Q) s w := by
  refine Snd.grab h (fun vs ls hd hloc wa hl => ?_)
  split at hd
  · exact X_cellplanelaw26_SessionApplies_6 (hd wa hl)
  · exact hd.elim

def C_cellplanelaw26_SessionApplies_5 (N : Nat) (Q : Value → World → Prop) (raw1' : Sl) (client2' number3' : Int) (h9' : Sl) (t10' : Option Addr) (n11' e12' : Int) (w : World) : Prop :=
  CallL PP N w [] n_cellplaneref26_Fold [(.slice h9'.a h9'.n h9'.c)] fun r23 w24 => ∃ p20 : Option Addr, ∃ n21 : Int, ∃ n22 : Int, r23 = (.tuple #[(.pointer p20), (.int .i64 n21), (.int .i64 n22)]) ∧ Reb N w24 [] fun w25 => C_cellplanelaw26_SessionApplies_6 N Q raw1' client2' number3' h9' t10' n11' e12' p20 w25

theorem X_cellplanelaw26_SessionApplies_5 {N : Nat} {Q : Value → World → Prop} {raw1' : Sl} {client2' number3' : Int} {h9' : Sl} {t10' : Option Addr} {n11' e12' : Int} {w : World} (h : C_cellplanelaw26_SessionApplies_5 N Q raw1' client2' number3' h9' t10' n11' e12' w) : Snd (cx N (fun d => memN d [17])) (cR k_cellplanelaw26_SessionApplies_0) (retD (cx N (fun d => memN d [17])) Go.Proofs.Try.f6 Q) (mkS 81 [.val 1, .val 2, .val 3, .val 9, .val 10, .val 11, .val 12] [(.slice raw1'.a raw1'.n raw1'.c), (.int .i64 client2'), (.int .i64 number3'), (.slice h9'.a h9'.n h9'.c), (.pointer t10'), (.int .i64 n11'), (.int .i64 e12')] []) w :=
  (Snd.cast (c' := .seq (cL (cR k_cellplanelaw26_SessionApplies_0)) (cR (cR k_cellplanelaw26_SessionApplies_0))) (by kernel_rfl) (Snd.seq (H_cellplanelaw26_SessionApplies_6 N Q) (den_sound okc mixed _ _ _ _ (mpr' (by kernel_rfl) h)) (fun s w h => T_cellplanelaw26_SessionApplies_6 N Q s w h)))

noncomputable def H_cellplanelaw26_SessionApplies_5 (N : Nat) (Q : Value → World → Prop) : St → World → Prop := fun s w => grabK 81 [.val 1, .val 2, .val 3, .val 9, .val 10, .val 11, .val 12] s fun vs ls => match vs, ls with
  | [.slice raw1'_a raw1'_n raw1'_c, .int .i64 client2', .int .i64 number3', .slice h9'_a h9'_n h9'_c, .pointer t10', .int .i64 n11', .int .i64 e12'], [] => Reb N w s.L fun wa => C_cellplanelaw26_SessionApplies_5 N Q ⟨raw1'_a, raw1'_n, raw1'_c⟩ client2' number3' ⟨h9'_a, h9'_n, h9'_c⟩ t10' n11' e12' wa
  | _, _ => False

theorem T_cellplanelaw26_SessionApplies_5 (N : Nat) (Q : Value → World → Prop) (s : St) (w : World) (h : H_cellplanelaw26_SessionApplies_5 N Q s w) : Snd (cx N (fun d => memN d [17])) (cR k_cellplanelaw26_SessionApplies_0) (retD (cx N (fun d => memN d [17])) Go.Proofs.Try.f6 Q) s w := by
  refine Snd.grab h (fun vs ls hd hloc wa hl => ?_)
  split at hd
  · exact X_cellplanelaw26_SessionApplies_5 (hd wa hl)
  · exact hd.elim

def C_cellplanelaw26_SessionApplies_4 (N : Nat) (Q : Value → World → Prop) (raw1' : Sl) (client2' number3' : Int) (h9' : Sl) (w : World) : Prop :=
  CallL PP N w [] n_session_Fold [(.slice h9'.a h9'.n h9'.c)] fun r29 w30 => ∃ p26 : Option Addr, ∃ n27 : Int, ∃ n28 : Int, r29 = (.tuple #[(.pointer p26), (.int .i64 n27), (.int .i64 n28)]) ∧ Reb N w30 [] fun w31 => C_cellplanelaw26_SessionApplies_5 N Q raw1' client2' number3' h9' p26 n27 n28 w31

theorem X_cellplanelaw26_SessionApplies_4 {N : Nat} {Q : Value → World → Prop} {raw1' : Sl} {client2' number3' : Int} {h9' : Sl} {w : World} (h : C_cellplanelaw26_SessionApplies_4 N Q raw1' client2' number3' h9' w) : Snd (cx N (fun d => memN d [17])) k_cellplanelaw26_SessionApplies_0 (retD (cx N (fun d => memN d [17])) Go.Proofs.Try.f6 Q) (mkS 81 [.val 1, .val 2, .val 3, .val 9] [(.slice raw1'.a raw1'.n raw1'.c), (.int .i64 client2'), (.int .i64 number3'), (.slice h9'.a h9'.n h9'.c)] []) w :=
  (Snd.cast (c' := .seq (cL k_cellplanelaw26_SessionApplies_0) (cR k_cellplanelaw26_SessionApplies_0)) (by kernel_rfl) (Snd.seq (H_cellplanelaw26_SessionApplies_5 N Q) (den_sound okc mixed _ _ _ _ (mpr' (by kernel_rfl) h)) (fun s w h => T_cellplanelaw26_SessionApplies_5 N Q s w h)))

noncomputable def H_cellplanelaw26_SessionApplies_4 (N : Nat) (Q : Value → World → Prop) : St → World → Prop := fun s w => grabK 81 [.val 1, .val 2, .val 3, .val 9] s fun vs ls => match vs, ls with
  | [.slice raw1'_a raw1'_n raw1'_c, .int .i64 client2', .int .i64 number3', .slice h9'_a h9'_n h9'_c], [] => Reb N w s.L fun wa => C_cellplanelaw26_SessionApplies_4 N Q ⟨raw1'_a, raw1'_n, raw1'_c⟩ client2' number3' ⟨h9'_a, h9'_n, h9'_c⟩ wa
  | _, _ => False

theorem T_cellplanelaw26_SessionApplies_4 (N : Nat) (Q : Value → World → Prop) (s : St) (w : World) (h : H_cellplanelaw26_SessionApplies_4 N Q s w) : Snd (cx N (fun d => memN d [17])) k_cellplanelaw26_SessionApplies_0 (retD (cx N (fun d => memN d [17])) Go.Proofs.Try.f6 Q) s w := by
  refine Snd.grab h (fun vs ls hd hloc wa hl => ?_)
  split at hd
  · exact X_cellplanelaw26_SessionApplies_4 (hd wa hl)
  · exact hd.elim

def C_cellplanelaw26_SessionApplies_3 (N : Nat) (Q : Value → World → Prop) (l0' raw1' : Sl) (client2' number3' : Int) (w : World) : Prop :=
  CallL PP N w [] n_cellplanemill_History [(.slice l0'.a l0'.n l0'.c)] fun r33 w34 => ∃ l32 : Sl, r33 = (.slice l32.a l32.n l32.c) ∧ Reb N w34 [] fun w35 => C_cellplanelaw26_SessionApplies_4 N Q raw1' client2' number3' l32 w35

theorem X_cellplanelaw26_SessionApplies_3 {N : Nat} {Q : Value → World → Prop} {l0' raw1' : Sl} {client2' number3' : Int} {w : World} (h : C_cellplanelaw26_SessionApplies_3 N Q l0' raw1' client2' number3' w) : Snd (cx N (fun d => memN d [17])) (cR (cR (cR (bodyOf Go.Proofs.Try.f6)))) (retD (cx N (fun d => memN d [17])) Go.Proofs.Try.f6 Q) (mkS 81 [.val 0, .val 1, .val 2, .val 3] [(.slice l0'.a l0'.n l0'.c), (.slice raw1'.a raw1'.n raw1'.c), (.int .i64 client2'), (.int .i64 number3')] []) w :=
  (Snd.cast (c' := .seq (cL (cR (cR (cR (bodyOf Go.Proofs.Try.f6))))) (cR (cR (cR (cR (bodyOf Go.Proofs.Try.f6)))))) (by kernel_rfl) (Snd.seq (H_cellplanelaw26_SessionApplies_4 N Q) (den_sound okc mixed _ _ _ _ (mpr' (by kernel_rfl) h)) (fun s w h => T_cellplanelaw26_SessionApplies_4 N Q s w h)))

noncomputable def H_cellplanelaw26_SessionApplies_3 (N : Nat) (Q : Value → World → Prop) : St → World → Prop := fun s w => grabK 81 [.val 0, .val 1, .val 2, .val 3] s fun vs ls => match vs, ls with
  | [.slice l0'_a l0'_n l0'_c, .slice raw1'_a raw1'_n raw1'_c, .int .i64 client2', .int .i64 number3'], [] => Reb N w s.L fun wa => C_cellplanelaw26_SessionApplies_3 N Q ⟨l0'_a, l0'_n, l0'_c⟩ ⟨raw1'_a, raw1'_n, raw1'_c⟩ client2' number3' wa
  | _, _ => False

theorem T_cellplanelaw26_SessionApplies_3 (N : Nat) (Q : Value → World → Prop) (s : St) (w : World) (h : H_cellplanelaw26_SessionApplies_3 N Q s w) : Snd (cx N (fun d => memN d [17])) (cR (cR (cR (bodyOf Go.Proofs.Try.f6)))) (retD (cx N (fun d => memN d [17])) Go.Proofs.Try.f6 Q) s w := by
  refine Snd.grab h (fun vs ls hd hloc wa hl => ?_)
  split at hd
  · exact X_cellplanelaw26_SessionApplies_3 (hd wa hl)
  · exact hd.elim

def C_cellplanelaw26_SessionApplies_2 (N : Nat) (Q : Value → World → Prop) (l0' raw1' : Sl) (client2' number3' : Int) (w : World) : Prop :=
  CallL PP N w [] n_cellplanemill_Light [(.slice l0'.a l0'.n l0'.c)] fun r37 w38 => ∃ b36 : Bool, r37 = (.bool b36) ∧ IfB (!b36) (Reb N w38 [] (Q (.bool true))) (CallL PP N w38 [] n_cellplanemill_Few [(.slice raw1'.a raw1'.n raw1'.c), (.int .i64 60)] fun r40 w41 => ∃ b39 : Bool, r40 = (.bool b39) ∧ IfB (!b39) (Reb N w41 [] (Q (.bool true))) (Reb N w41 [] fun w42 => C_cellplanelaw26_SessionApplies_3 N Q l0' raw1' client2' number3' w42))

theorem X_cellplanelaw26_SessionApplies_2 {N : Nat} {Q : Value → World → Prop} {l0' raw1' : Sl} {client2' number3' : Int} {w : World} (h : C_cellplanelaw26_SessionApplies_2 N Q l0' raw1' client2' number3' w) : Snd (cx N (fun d => memN d [17])) (cR (cR (bodyOf Go.Proofs.Try.f6))) (retD (cx N (fun d => memN d [17])) Go.Proofs.Try.f6 Q) (mkS 81 [.val 0, .val 1, .val 2, .val 3] [(.slice l0'.a l0'.n l0'.c), (.slice raw1'.a raw1'.n raw1'.c), (.int .i64 client2'), (.int .i64 number3')] []) w :=
  (Snd.cast (c' := .seq (cL (cR (cR (bodyOf Go.Proofs.Try.f6)))) (cR (cR (cR (bodyOf Go.Proofs.Try.f6))))) (by kernel_rfl) (Snd.seq (H_cellplanelaw26_SessionApplies_3 N Q) (den_sound okc mixed _ _ _ _ (mpr' (by kernel_rfl) h)) (fun s w h => T_cellplanelaw26_SessionApplies_3 N Q s w h)))

noncomputable def H_cellplanelaw26_SessionApplies_2 (N : Nat) (Q : Value → World → Prop) : St → World → Prop := fun s w => grabK 81 [.val 0, .val 1, .val 2, .val 3] s fun vs ls => match vs, ls with
  | [.slice l0'_a l0'_n l0'_c, .slice raw1'_a raw1'_n raw1'_c, .int .i64 client2', .int .i64 number3'], [] => Reb N w s.L fun wa => C_cellplanelaw26_SessionApplies_2 N Q ⟨l0'_a, l0'_n, l0'_c⟩ ⟨raw1'_a, raw1'_n, raw1'_c⟩ client2' number3' wa
  | _, _ => False

theorem T_cellplanelaw26_SessionApplies_2 (N : Nat) (Q : Value → World → Prop) (s : St) (w : World) (h : H_cellplanelaw26_SessionApplies_2 N Q s w) : Snd (cx N (fun d => memN d [17])) (cR (cR (bodyOf Go.Proofs.Try.f6))) (retD (cx N (fun d => memN d [17])) Go.Proofs.Try.f6 Q) s w := by
  refine Snd.grab h (fun vs ls hd hloc wa hl => ?_)
  split at hd
  · exact X_cellplanelaw26_SessionApplies_2 (hd wa hl)
  · exact hd.elim

def C_cellplanelaw26_SessionApplies_1 (N : Nat) (Q : Value → World → Prop) (l0' raw1' : Sl) (client2' number3' : Int) (w : World) : Prop :=
  CallL PP N w [] n_cellplanelaw26_awake [] fun r44 w45 => ∃ b43 : Bool, r44 = (.bool b43) ∧ IfB (!b43) (Reb N w45 [] (Q (.bool false))) (Reb N w45 [] fun w46 => C_cellplanelaw26_SessionApplies_2 N Q l0' raw1' client2' number3' w46)

theorem X_cellplanelaw26_SessionApplies_1 {N : Nat} {Q : Value → World → Prop} {l0' raw1' : Sl} {client2' number3' : Int} {w : World} (h : C_cellplanelaw26_SessionApplies_1 N Q l0' raw1' client2' number3' w) : Snd (cx N (fun d => memN d [17])) (cR (bodyOf Go.Proofs.Try.f6)) (retD (cx N (fun d => memN d [17])) Go.Proofs.Try.f6 Q) (mkS 81 [.val 0, .val 1, .val 2, .val 3] [(.slice l0'.a l0'.n l0'.c), (.slice raw1'.a raw1'.n raw1'.c), (.int .i64 client2'), (.int .i64 number3')] []) w :=
  (Snd.cast (c' := .seq (cL (cR (bodyOf Go.Proofs.Try.f6))) (cR (cR (bodyOf Go.Proofs.Try.f6)))) (by kernel_rfl) (Snd.seq (H_cellplanelaw26_SessionApplies_2 N Q) (den_sound okc mixed _ _ _ _ (mpr' (by kernel_rfl) h)) (fun s w h => T_cellplanelaw26_SessionApplies_2 N Q s w h)))

noncomputable def H_cellplanelaw26_SessionApplies_1 (N : Nat) (Q : Value → World → Prop) : St → World → Prop := fun s w => grabK 81 [.val 0, .val 1, .val 2, .val 3] s fun vs ls => match vs, ls with
  | [.slice l0'_a l0'_n l0'_c, .slice raw1'_a raw1'_n raw1'_c, .int .i64 client2', .int .i64 number3'], [] => Reb N w s.L fun wa => C_cellplanelaw26_SessionApplies_1 N Q ⟨l0'_a, l0'_n, l0'_c⟩ ⟨raw1'_a, raw1'_n, raw1'_c⟩ client2' number3' wa
  | _, _ => False

theorem T_cellplanelaw26_SessionApplies_1 (N : Nat) (Q : Value → World → Prop) (s : St) (w : World) (h : H_cellplanelaw26_SessionApplies_1 N Q s w) : Snd (cx N (fun d => memN d [17])) (cR (bodyOf Go.Proofs.Try.f6)) (retD (cx N (fun d => memN d [17])) Go.Proofs.Try.f6 Q) s w := by
  refine Snd.grab h (fun vs ls hd hloc wa hl => ?_)
  split at hd
  · exact X_cellplanelaw26_SessionApplies_1 (hd wa hl)
  · exact hd.elim

def F_cellplanelaw26_SessionApplies (N : Nat) (l0 : Sl) (raw1 : Sl) (client2 : Int) (number3 : Int) (Q : Value → World → Prop) (w : World) : Prop :=
  Reb N w [] fun w47 => C_cellplanelaw26_SessionApplies_1 N Q l0 raw1 client2 number3 w47

theorem cellplanelaw26_SessionApplies_snd (N : Nat) (l0 : Sl) (raw1 : Sl) (client2 : Int) (number3 : Int) (Q : Value → World → Prop) (w : World) (h : F_cellplanelaw26_SessionApplies N l0 raw1 client2 number3 Q w) : Snd (cx N (fun d => memN d [17])) (bodyOf Go.Proofs.Try.f6) (retD (cx N (fun d => memN d [17])) Go.Proofs.Try.f6 Q) (entry 81 [(.slice l0.a l0.n l0.c), (.slice raw1.a raw1.n raw1.c), (.int .i64 client2), (.int .i64 number3)]) w :=
  (Snd.cast (c' := .seq (cL (bodyOf Go.Proofs.Try.f6)) (cR (bodyOf Go.Proofs.Try.f6))) (by kernel_rfl) (Snd.seq (H_cellplanelaw26_SessionApplies_1 N Q) (den_sound okc mixed _ _ _ _ (mpr' (by kernel_rfl) h)) (fun s w h => T_cellplanelaw26_SessionApplies_1 N Q s w h)))

theorem cellplanelaw26_SessionApplies_calls (l0 : Sl) (raw1 : Sl) (client2 : Int) (number3 : Int) (Q : Value → World → Prop) (w : World) (h : F_cellplanelaw26_SessionApplies w.heap.size l0 raw1 client2 number3 Q w) : Calls PP n_cellplanelaw26_SessionApplies [(.slice l0.a l0.n l0.c), (.slice raw1.a raw1.n raw1.c), (.int .i64 client2), (.int .i64 number3)].toArray w fun e w' => ∃ v, e = .returned v ∧ Q v w' :=
  calls_of (C := cx w.heap.size (fun d => memN d [17])) (fn := Go.Proofs.Try.f6) (c := (bodyOf Go.Proofs.Try.f6)) (by kernel_rfl) (by kernel_rfl) (Nat.le_refl _) (cellplanelaw26_SessionApplies_snd _ l0 raw1 client2 number3 Q w h)

/-! ### cellplanelaw26_SessionFolds -/
noncomputable def k_cellplanelaw26_SessionFolds_0 : Code := (cR (cR (cR (cR (bodyOf Go.Proofs.Try.f7)))))

noncomputable def k_cellplanelaw26_SessionFolds_1 : Code := (cR (cR k_cellplanelaw26_SessionFolds_0))

def C_cellplanelaw26_SessionFolds_7 (N : Nat) (Q : Value → World → Prop) (w : World) : Prop :=
  Reb N w [] (Q (.bool true))

theorem X_cellplanelaw26_SessionFolds_7 {N : Nat} {Q : Value → World → Prop} {w : World} (h : C_cellplanelaw26_SessionFolds_7 N Q w) : Snd (cx N (fun d => memN d [])) (cR k_cellplanelaw26_SessionFolds_1) (retD (cx N (fun d => memN d [])) Go.Proofs.Try.f7 Q) (mkS 97 [] [] []) w :=
  (den_sound okc mixed _ _ _ _ (mpr' (by kernel_rfl) h))

noncomputable def H_cellplanelaw26_SessionFolds_7 (N : Nat) (Q : Value → World → Prop) : St → World → Prop := fun s w => grabK 97 [] s fun vs ls => match vs, ls with
  | [], [] => Reb N w s.L fun wa => C_cellplanelaw26_SessionFolds_7 N Q wa
  | _, _ => False

theorem T_cellplanelaw26_SessionFolds_7 (N : Nat) (Q : Value → World → Prop) (s : St) (w : World) (h : H_cellplanelaw26_SessionFolds_7 N Q s w) : Snd (cx N (fun d => memN d [])) (cR k_cellplanelaw26_SessionFolds_1) (retD (cx N (fun d => memN d [])) Go.Proofs.Try.f7 Q) s w := by
  refine Snd.grab h (fun vs ls hd hloc wa hl => ?_)
  split at hd
  · exact X_cellplanelaw26_SessionFolds_7 (hd wa hl)
  · exact hd.elim

noncomputable def k_cellplanelaw26_SessionFolds_2 : Code := (cR (cL k_cellplanelaw26_SessionFolds_1))

noncomputable def z_cellplanelaw26_SessionFolds_3 (N : Nat) (Q : Value → World → Prop) : Cont := (thenD (H_cellplanelaw26_SessionFolds_7 N Q) (retD (cx N (fun d => memN d [])) Go.Proofs.Try.f7 Q))

def D_cellplanelaw26_SessionFolds_9 (K : (Sl × Int) → (Int) → Prop) : List Value → List LB → Prop := fun vs ls => match vs, ls with
  | [.slice v53'_a v53'_n v53'_c, .int .i64 v54', .int .i64 v55'], [] => K (⟨v53'_a, v53'_n, v53'_c⟩, v54') v55'
  | _, _ => False

def B_cellplanelaw26_SessionFolds_9 (N : Nat) (K1 : (Sl × Int) → (Int) → World → Prop) (Q : Value → World → Prop) (v53' : Sl) (v54' v55' : Int) (w : World) : Prop :=
  IfB (decide ((v55' : Int) < v54')) (IdxL v53'.a v53'.n v55' fun q1 => ∃ l2 : Sl, At w (q1.add ((v55' : Int).toNat * 1)) [(.slice l2.a l2.n l2.c)] ∧ NotIn ((q1.add ((v55' : Int).toNat * 1)) : Addr).block [] ∧ CallL PP N w [] n_session_Fold [(.slice l2.a l2.n l2.c)] fun r6 w7 => ∃ p3 : Option Addr, ∃ n4 : Int, ∃ n5 : Int, r6 = (.tuple #[(.pointer p3), (.int .i64 n4), (.int .i64 n5)]) ∧ CallL PP N w7 [] n_cellplaneref26_Fold [(.slice l2.a l2.n l2.c)] fun r11 w12 => ∃ p8 : Option Addr, ∃ n9 : Int, ∃ n10 : Int, r11 = (.tuple #[(.pointer p8), (.int .i64 n9), (.int .i64 n10)]) ∧ IfB (!decide ((n4 : Int) = n9)) (Reb N w12 [] (Q (.bool false))) (IfB (!decide ((n5 : Int) = n10)) (Reb N w12 [] (Q (.bool false))) (IfB (!(p3.isNone == p8.isNone)) (Reb N w12 [] (Q (.bool false))) (IfB (!p3.isNone) (CallL PP N w12 [] n_cellplanelaw26_same [(.pointer p3), (.pointer p8), (.int .i64 1), (.int .i64 1)] fun r14 w15 => ∃ b13 : Bool, r14 = (.bool b13) ∧ IfB (!b13) (Reb N w15 [] (Q (.bool false))) (Reb N w15 [] fun w16 => K1 (v53', v54') (IntKind.i64.wrap (v55' + 1)) w16)) (Reb N w12 [] fun w17 => K1 (v53', v54') (IntKind.i64.wrap (v55' + 1)) w17))))) (Reb N w [] fun w18 => C_cellplanelaw26_SessionFolds_7 N Q w18)

theorem X_cellplanelaw26_SessionFolds_9 {N : Nat} {K1 : (Sl × Int) → (Int) → World → Prop} {Q : Value → World → Prop} {v53' : Sl} {v54' v55' : Int} {w : World} (h : B_cellplanelaw26_SessionFolds_9 N K1 Q v53' v54' v55' w) : Snd (cx N (fun d => memN d [])) (cL (cL k_cellplanelaw26_SessionFolds_2)) (thenD (HeadK N 97 [.val 53, .val 54, .val 55] D_cellplanelaw26_SessionFolds_9 K1) (inBlockD 0 (z_cellplanelaw26_SessionFolds_3 N Q))) (mkS 97 [.val 53, .val 54, .val 55] [(.slice v53'.a v53'.n v53'.c), (.int .i64 v54'), (.int .i64 v55')] []) w :=
  (den_sound okc mixed _ _ _ _ (mpr' (by kernel_rfl) h))

def L_cellplanelaw26_SessionFolds_9 (N : Nat) (Q : Value → World → Prop) (K1 : (Sl × Int) → (Int) → World → Prop) (c : Sl × Int) (x : Int) (w : World) : Prop := match c, x with
  | (v53', v54'), v55' => B_cellplanelaw26_SessionFolds_9 N K1 Q v53' v54' v55' w

theorem T_cellplanelaw26_SessionFolds_9 (N : Nat) (Q : Value → World → Prop) {s : St} {w : World} (h : HeadE N 97 [.val 53, .val 54, .val 55] D_cellplanelaw26_SessionFolds_9 (L_cellplanelaw26_SessionFolds_9 N Q) s w) : Snd (cx N (fun d => memN d [])) (cL k_cellplanelaw26_SessionFolds_2) (inBlockD 0 (z_cellplanelaw26_SessionFolds_3 N Q)) s w := by
  refine Snd.cast (c' := .loop (cL (cL k_cellplanelaw26_SessionFolds_2))) (by kernel_rfl) (Snd.loopC (fun (c : Sl × Int) (x : Int) => match c, x with | (v53', v54'), v55' => ([(.slice v53'.a v53'.n v53'.c), (.int .i64 v54'), (.int .i64 v55')], [])) ?_ ?_ h)
  · intro K vs ls h
    unfold D_cellplanelaw26_SessionFolds_9 at h
    split at h
    · exact ⟨_, _, rfl, h⟩
    · exact h.elim
  · rintro K ⟨v53', v54'⟩ v55' w h
    exact X_cellplanelaw26_SessionFolds_9 h

def C_cellplanelaw26_SessionFolds_8 (N : Nat) (Q : Value → World → Prop) (v53' : Sl) (v54' v55' : Int) (w : World) : Prop :=
  LoopC N w [] ((v53', v54') : Sl × Int) (v55' : Int) (L_cellplanelaw26_SessionFolds_9 N Q)

theorem X_cellplanelaw26_SessionFolds_8 {N : Nat} {Q : Value → World → Prop} {v53' : Sl} {v54' v55' : Int} {w : World} (h : C_cellplanelaw26_SessionFolds_8 N Q v53' v54' v55' w) : Snd (cx N (fun d => memN d [])) k_cellplanelaw26_SessionFolds_2 (z_cellplanelaw26_SessionFolds_3 N Q) (mkS 97 [.val 53, .val 54, .val 55] [(.slice v53'.a v53'.n v53'.c), (.int .i64 v54'), (.int .i64 v55')] []) w :=
  (Snd.cast (c' := .block 0 (cL k_cellplanelaw26_SessionFolds_2)) (by kernel_rfl) (Snd.block (T_cellplanelaw26_SessionFolds_9 N Q (mpr' (by kernel_rfl) h))))

noncomputable def H_cellplanelaw26_SessionFolds_8 (N : Nat) (Q : Value → World → Prop) : St → World → Prop := fun s w => grabK 97 [.val 53, .val 54, .val 55] s fun vs ls => match vs, ls with
  | [.slice v53'_a v53'_n v53'_c, .int .i64 v54', .int .i64 v55'], [] => Reb N w s.L fun wa => C_cellplanelaw26_SessionFolds_8 N Q ⟨v53'_a, v53'_n, v53'_c⟩ v54' v55' wa
  | _, _ => False

theorem T_cellplanelaw26_SessionFolds_8 (N : Nat) (Q : Value → World → Prop) (s : St) (w : World) (h : H_cellplanelaw26_SessionFolds_8 N Q s w) : Snd (cx N (fun d => memN d [])) k_cellplanelaw26_SessionFolds_2 (z_cellplanelaw26_SessionFolds_3 N Q) s w := by
  refine Snd.grab h (fun vs ls hd hloc wa hl => ?_)
  split at hd
  · exact X_cellplanelaw26_SessionFolds_8 (hd wa hl)
  · exact hd.elim

def C_cellplanelaw26_SessionFolds_6 (N : Nat) (Q : Value → World → Prop) (lists8' : Sl) (w : World) : Prop :=
  Reb N w [] fun w19 => C_cellplanelaw26_SessionFolds_8 N Q lists8' ((lists8'.n : Nat) : Int) 0 w19

theorem X_cellplanelaw26_SessionFolds_6 {N : Nat} {Q : Value → World → Prop} {lists8' : Sl} {w : World} (h : C_cellplanelaw26_SessionFolds_6 N Q lists8' w) : Snd (cx N (fun d => memN d [])) k_cellplanelaw26_SessionFolds_1 (retD (cx N (fun d => memN d [])) Go.Proofs.Try.f7 Q) (mkS 97 [.val 8] [(.slice lists8'.a lists8'.n lists8'.c)] []) w :=
  (Snd.cast (c' := .seq (cL k_cellplanelaw26_SessionFolds_1) (cR k_cellplanelaw26_SessionFolds_1)) (by kernel_rfl) (Snd.seq (H_cellplanelaw26_SessionFolds_7 N Q) (Snd.cast (c' := .seq (cL (cL k_cellplanelaw26_SessionFolds_1)) (cR (cL k_cellplanelaw26_SessionFolds_1))) (by kernel_rfl) (Snd.seq (H_cellplanelaw26_SessionFolds_8 N Q) (den_sound okc mixed _ _ _ _ (mpr' (by kernel_rfl) h)) (fun s w h => T_cellplanelaw26_SessionFolds_8 N Q s w h))) (fun s w h => T_cellplanelaw26_SessionFolds_7 N Q s w h)))

noncomputable def H_cellplanelaw26_SessionFolds_6 (N : Nat) (Q : Value → World → Prop) : St → World → Prop := fun s w => grabK 97 [.val 8] s fun vs ls => match vs, ls with
  | [.slice lists8'_a lists8'_n lists8'_c], [] => Reb N w s.L fun wa => C_cellplanelaw26_SessionFolds_6 N Q ⟨lists8'_a, lists8'_n, lists8'_c⟩ wa
  | _, _ => False

theorem T_cellplanelaw26_SessionFolds_6 (N : Nat) (Q : Value → World → Prop) (s : St) (w : World) (h : H_cellplanelaw26_SessionFolds_6 N Q s w) : Snd (cx N (fun d => memN d [])) k_cellplanelaw26_SessionFolds_1 (retD (cx N (fun d => memN d [])) Go.Proofs.Try.f7 Q) s w := by
  refine Snd.grab h (fun vs ls hd hloc wa hl => ?_)
  split at hd
  · exact X_cellplanelaw26_SessionFolds_6 (hd wa hl)
  · exact hd.elim

def C_cellplanelaw26_SessionFolds_5 (N : Nat) (Q : Value → World → Prop) (drop2' : Int) (h7' lists8' : Sl) (w : World) : Prop :=
  IfB (decide ((0 : Int) < ((h7'.n : Nat) : Int))) (CallL PP N w [] n_cellplanemill_Mod [(.int .i64 drop2'), (.int .i64 ((h7'.n : Nat) : Int))] fun r21 w22 => ∃ n20 : Int, r21 = (.int .i64 n20) ∧ (0 : Int) ≤ n20 ∧ (n20 : Int) ≤ (h7'.c : Nat) ∧ (0 : Int) ≤ (IntKind.i64.wrap (n20 + 1)) ∧ ((IntKind.i64.wrap (n20 + 1)) : Int) ≤ (h7'.n : Nat) ∧ NewL N w22 [] ([]) t_api_Change fun b23 w24 => RunL PP N w24 [] (Builtin.append_ #[t_sl_api_Change, t_sl_api_Change] t_sl_api_Change #[(.slice (some ⟨b23, 0, none⟩) 0 0), (.slice h7'.a (Int.toNat n20) h7'.c)]) fun r26 w27 => ∃ l25 : Sl, r26 = (.slice l25.a l25.n l25.c) ∧ RunL PP N w27 [] (Builtin.append_ #[t_sl_api_Change, t_sl_api_Change] t_sl_api_Change #[(.slice l25.a l25.n l25.c), (.slice (slA h7'.a h7'.c ((IntKind.i64.wrap (n20 + 1)) : Int).toNat 8) (h7'.n - ((IntKind.i64.wrap (n20 + 1)) : Int).toNat) (h7'.c - ((IntKind.i64.wrap (n20 + 1)) : Int).toNat))]) fun r29 w30 => ∃ l28 : Sl, r29 = (.slice l28.a l28.n l28.c) ∧ NewL N w30 [] [(.slice l28.a l28.n l28.c)] t_sl_api_Change fun b31 w32 => RunL PP N w32 [] (Builtin.append_ #[t_sl_sl_api_Change, t_sl_sl_api_Change] t_sl_sl_api_Change #[(.slice lists8'.a lists8'.n lists8'.c), (.slice (some ⟨b31, 0, none⟩) 1 1)]) fun r34 w35 => ∃ l33 : Sl, r34 = (.slice l33.a l33.n l33.c) ∧ Reb N w35 [] fun w36 => C_cellplanelaw26_SessionFolds_6 N Q l33 w36) (Reb N w [] fun w37 => C_cellplanelaw26_SessionFolds_6 N Q lists8' w37)

theorem X_cellplanelaw26_SessionFolds_5 {N : Nat} {Q : Value → World → Prop} {drop2' : Int} {h7' lists8' : Sl} {w : World} (h : C_cellplanelaw26_SessionFolds_5 N Q drop2' h7' lists8' w) : Snd (cx N (fun d => memN d [])) (cR k_cellplanelaw26_SessionFolds_0) (retD (cx N (fun d => memN d [])) Go.Proofs.Try.f7 Q) (mkS 97 [.val 2, .val 7, .val 8] [(.int .i64 drop2'), (.slice h7'.a h7'.n h7'.c), (.slice lists8'.a lists8'.n lists8'.c)] []) w :=
  (Snd.cast (c' := .seq (cL (cR k_cellplanelaw26_SessionFolds_0)) (cR (cR k_cellplanelaw26_SessionFolds_0))) (by kernel_rfl) (Snd.seq (H_cellplanelaw26_SessionFolds_6 N Q) (den_sound okc mixed _ _ _ _ (mpr' (by kernel_rfl) h)) (fun s w h => T_cellplanelaw26_SessionFolds_6 N Q s w h)))

noncomputable def H_cellplanelaw26_SessionFolds_5 (N : Nat) (Q : Value → World → Prop) : St → World → Prop := fun s w => grabK 97 [.val 2, .val 7, .val 8] s fun vs ls => match vs, ls with
  | [.int .i64 drop2', .slice h7'_a h7'_n h7'_c, .slice lists8'_a lists8'_n lists8'_c], [] => Reb N w s.L fun wa => C_cellplanelaw26_SessionFolds_5 N Q drop2' ⟨h7'_a, h7'_n, h7'_c⟩ ⟨lists8'_a, lists8'_n, lists8'_c⟩ wa
  | _, _ => False

theorem T_cellplanelaw26_SessionFolds_5 (N : Nat) (Q : Value → World → Prop) (s : St) (w : World) (h : H_cellplanelaw26_SessionFolds_5 N Q s w) : Snd (cx N (fun d => memN d [])) (cR k_cellplanelaw26_SessionFolds_0) (retD (cx N (fun d => memN d [])) Go.Proofs.Try.f7 Q) s w := by
  refine Snd.grab h (fun vs ls hd hloc wa hl => ?_)
  split at hd
  · exact X_cellplanelaw26_SessionFolds_5 (hd wa hl)
  · exact hd.elim

def C_cellplanelaw26_SessionFolds_4 (N : Nat) (Q : Value → World → Prop) (raw0' : Sl) (drop2' : Int) (h7' : Sl) (w : World) : Prop :=
  NewL N w [] [(.slice raw0'.a raw0'.n raw0'.c), (.slice h7'.a h7'.n h7'.c)] t_sl_api_Change fun b38 w39 => Reb N w39 [] fun w40 => C_cellplanelaw26_SessionFolds_5 N Q drop2' h7' (⟨(some ⟨b38, 0, none⟩), 2, 2⟩ : Sl) w40

theorem X_cellplanelaw26_SessionFolds_4 {N : Nat} {Q : Value → World → Prop} {raw0' : Sl} {drop2' : Int} {h7' : Sl} {w : World} (h : C_cellplanelaw26_SessionFolds_4 N Q raw0' drop2' h7' w) : Snd (cx N (fun d => memN d [])) k_cellplanelaw26_SessionFolds_0 (retD (cx N (fun d => memN d [])) Go.Proofs.Try.f7 Q) (mkS 97 [.val 0, .val 2, .val 7] [(.slice raw0'.a raw0'.n raw0'.c), (.int .i64 drop2'), (.slice h7'.a h7'.n h7'.c)] []) w :=
  (Snd.cast (c' := .seq (cL k_cellplanelaw26_SessionFolds_0) (cR k_cellplanelaw26_SessionFolds_0)) (by kernel_rfl) (Snd.seq (H_cellplanelaw26_SessionFolds_5 N Q) (den_sound okc mixed _ _ _ _ (mpr' (by kernel_rfl) h)) (fun s w h => T_cellplanelaw26_SessionFolds_5 N Q s w h)))

noncomputable def H_cellplanelaw26_SessionFolds_4 (N : Nat) (Q : Value → World → Prop) : St → World → Prop := fun s w => grabK 97 [.val 0, .val 2, .val 7] s fun vs ls => match vs, ls with
  | [.slice raw0'_a raw0'_n raw0'_c, .int .i64 drop2', .slice h7'_a h7'_n h7'_c], [] => Reb N w s.L fun wa => C_cellplanelaw26_SessionFolds_4 N Q ⟨raw0'_a, raw0'_n, raw0'_c⟩ drop2' ⟨h7'_a, h7'_n, h7'_c⟩ wa
  | _, _ => False

theorem T_cellplanelaw26_SessionFolds_4 (N : Nat) (Q : Value → World → Prop) (s : St) (w : World) (h : H_cellplanelaw26_SessionFolds_4 N Q s w) : Snd (cx N (fun d => memN d [])) k_cellplanelaw26_SessionFolds_0 (retD (cx N (fun d => memN d [])) Go.Proofs.Try.f7 Q) s w := by
  refine Snd.grab h (fun vs ls hd hloc wa hl => ?_)
  split at hd
  · exact X_cellplanelaw26_SessionFolds_4 (hd wa hl)
  · exact hd.elim

def C_cellplanelaw26_SessionFolds_3 (N : Nat) (Q : Value → World → Prop) (raw0' l1' : Sl) (drop2' : Int) (w : World) : Prop :=
  CallL PP N w [] n_cellplanemill_History [(.slice l1'.a l1'.n l1'.c)] fun r42 w43 => ∃ l41 : Sl, r42 = (.slice l41.a l41.n l41.c) ∧ Reb N w43 [] fun w44 => C_cellplanelaw26_SessionFolds_4 N Q raw0' drop2' l41 w44

theorem X_cellplanelaw26_SessionFolds_3 {N : Nat} {Q : Value → World → Prop} {raw0' l1' : Sl} {drop2' : Int} {w : World} (h : C_cellplanelaw26_SessionFolds_3 N Q raw0' l1' drop2' w) : Snd (cx N (fun d => memN d [])) (cR (cR (cR (bodyOf Go.Proofs.Try.f7)))) (retD (cx N (fun d => memN d [])) Go.Proofs.Try.f7 Q) (mkS 97 [.val 0, .val 1, .val 2] [(.slice raw0'.a raw0'.n raw0'.c), (.slice l1'.a l1'.n l1'.c), (.int .i64 drop2')] []) w :=
  (Snd.cast (c' := .seq (cL (cR (cR (cR (bodyOf Go.Proofs.Try.f7))))) (cR (cR (cR (cR (bodyOf Go.Proofs.Try.f7)))))) (by kernel_rfl) (Snd.seq (H_cellplanelaw26_SessionFolds_4 N Q) (den_sound okc mixed _ _ _ _ (mpr' (by kernel_rfl) h)) (fun s w h => T_cellplanelaw26_SessionFolds_4 N Q s w h)))

noncomputable def H_cellplanelaw26_SessionFolds_3 (N : Nat) (Q : Value → World → Prop) : St → World → Prop := fun s w => grabK 97 [.val 0, .val 1, .val 2] s fun vs ls => match vs, ls with
  | [.slice raw0'_a raw0'_n raw0'_c, .slice l1'_a l1'_n l1'_c, .int .i64 drop2'], [] => Reb N w s.L fun wa => C_cellplanelaw26_SessionFolds_3 N Q ⟨raw0'_a, raw0'_n, raw0'_c⟩ ⟨l1'_a, l1'_n, l1'_c⟩ drop2' wa
  | _, _ => False

theorem T_cellplanelaw26_SessionFolds_3 (N : Nat) (Q : Value → World → Prop) (s : St) (w : World) (h : H_cellplanelaw26_SessionFolds_3 N Q s w) : Snd (cx N (fun d => memN d [])) (cR (cR (cR (bodyOf Go.Proofs.Try.f7)))) (retD (cx N (fun d => memN d [])) Go.Proofs.Try.f7 Q) s w := by
  refine Snd.grab h (fun vs ls hd hloc wa hl => ?_)
  split at hd
  · exact X_cellplanelaw26_SessionFolds_3 (hd wa hl)
  · exact hd.elim

def C_cellplanelaw26_SessionFolds_2 (N : Nat) (Q : Value → World → Prop) (raw0' l1' : Sl) (drop2' : Int) (w : World) : Prop :=
  CallL PP N w [] n_cellplanemill_Few [(.slice raw0'.a raw0'.n raw0'.c), (.int .i64 60)] fun r46 w47 => ∃ b45 : Bool, r46 = (.bool b45) ∧ IfB (!b45) (Reb N w47 [] (Q (.bool true))) (CallL PP N w47 [] n_cellplanemill_Light [(.slice l1'.a l1'.n l1'.c)] fun r49 w50 => ∃ b48 : Bool, r49 = (.bool b48) ∧ IfB (!b48) (Reb N w50 [] (Q (.bool true))) (Reb N w50 [] fun w51 => C_cellplanelaw26_SessionFolds_3 N Q raw0' l1' drop2' w51))

theorem X_cellplanelaw26_SessionFolds_2 {N : Nat} {Q : Value → World → Prop} {raw0' l1' : Sl} {drop2' : Int} {w : World} (h : C_cellplanelaw26_SessionFolds_2 N Q raw0' l1' drop2' w) : Snd (cx N (fun d => memN d [])) (cR (cR (bodyOf Go.Proofs.Try.f7))) (retD (cx N (fun d => memN d [])) Go.Proofs.Try.f7 Q) (mkS 97 [.val 0, .val 1, .val 2] [(.slice raw0'.a raw0'.n raw0'.c), (.slice l1'.a l1'.n l1'.c), (.int .i64 drop2')] []) w :=
  (Snd.cast (c' := .seq (cL (cR (cR (bodyOf Go.Proofs.Try.f7)))) (cR (cR (cR (bodyOf Go.Proofs.Try.f7))))) (by kernel_rfl) (Snd.seq (H_cellplanelaw26_SessionFolds_3 N Q) (den_sound okc mixed _ _ _ _ (mpr' (by kernel_rfl) h)) (fun s w h => T_cellplanelaw26_SessionFolds_3 N Q s w h)))

noncomputable def H_cellplanelaw26_SessionFolds_2 (N : Nat) (Q : Value → World → Prop) : St → World → Prop := fun s w => grabK 97 [.val 0, .val 1, .val 2] s fun vs ls => match vs, ls with
  | [.slice raw0'_a raw0'_n raw0'_c, .slice l1'_a l1'_n l1'_c, .int .i64 drop2'], [] => Reb N w s.L fun wa => C_cellplanelaw26_SessionFolds_2 N Q ⟨raw0'_a, raw0'_n, raw0'_c⟩ ⟨l1'_a, l1'_n, l1'_c⟩ drop2' wa
  | _, _ => False

theorem T_cellplanelaw26_SessionFolds_2 (N : Nat) (Q : Value → World → Prop) (s : St) (w : World) (h : H_cellplanelaw26_SessionFolds_2 N Q s w) : Snd (cx N (fun d => memN d [])) (cR (cR (bodyOf Go.Proofs.Try.f7))) (retD (cx N (fun d => memN d [])) Go.Proofs.Try.f7 Q) s w := by
  refine Snd.grab h (fun vs ls hd hloc wa hl => ?_)
  split at hd
  · exact X_cellplanelaw26_SessionFolds_2 (hd wa hl)
  · exact hd.elim

def C_cellplanelaw26_SessionFolds_1 (N : Nat) (Q : Value → World → Prop) (raw0' l1' : Sl) (drop2' : Int) (w : World) : Prop :=
  CallL PP N w [] n_cellplanelaw26_awake [] fun r53 w54 => ∃ b52 : Bool, r53 = (.bool b52) ∧ IfB (!b52) (Reb N w54 [] (Q (.bool false))) (Reb N w54 [] fun w55 => C_cellplanelaw26_SessionFolds_2 N Q raw0' l1' drop2' w55)

theorem X_cellplanelaw26_SessionFolds_1 {N : Nat} {Q : Value → World → Prop} {raw0' l1' : Sl} {drop2' : Int} {w : World} (h : C_cellplanelaw26_SessionFolds_1 N Q raw0' l1' drop2' w) : Snd (cx N (fun d => memN d [])) (cR (bodyOf Go.Proofs.Try.f7)) (retD (cx N (fun d => memN d [])) Go.Proofs.Try.f7 Q) (mkS 97 [.val 0, .val 1, .val 2] [(.slice raw0'.a raw0'.n raw0'.c), (.slice l1'.a l1'.n l1'.c), (.int .i64 drop2')] []) w :=
  (Snd.cast (c' := .seq (cL (cR (bodyOf Go.Proofs.Try.f7))) (cR (cR (bodyOf Go.Proofs.Try.f7)))) (by kernel_rfl) (Snd.seq (H_cellplanelaw26_SessionFolds_2 N Q) (den_sound okc mixed _ _ _ _ (mpr' (by kernel_rfl) h)) (fun s w h => T_cellplanelaw26_SessionFolds_2 N Q s w h)))

noncomputable def H_cellplanelaw26_SessionFolds_1 (N : Nat) (Q : Value → World → Prop) : St → World → Prop := fun s w => grabK 97 [.val 0, .val 1, .val 2] s fun vs ls => match vs, ls with
  | [.slice raw0'_a raw0'_n raw0'_c, .slice l1'_a l1'_n l1'_c, .int .i64 drop2'], [] => Reb N w s.L fun wa => C_cellplanelaw26_SessionFolds_1 N Q ⟨raw0'_a, raw0'_n, raw0'_c⟩ ⟨l1'_a, l1'_n, l1'_c⟩ drop2' wa
  | _, _ => False

theorem T_cellplanelaw26_SessionFolds_1 (N : Nat) (Q : Value → World → Prop) (s : St) (w : World) (h : H_cellplanelaw26_SessionFolds_1 N Q s w) : Snd (cx N (fun d => memN d [])) (cR (bodyOf Go.Proofs.Try.f7)) (retD (cx N (fun d => memN d [])) Go.Proofs.Try.f7 Q) s w := by
  refine Snd.grab h (fun vs ls hd hloc wa hl => ?_)
  split at hd
  · exact X_cellplanelaw26_SessionFolds_1 (hd wa hl)
  · exact hd.elim

def F_cellplanelaw26_SessionFolds (N : Nat) (raw0 : Sl) (l1 : Sl) (drop2 : Int) (Q : Value → World → Prop) (w : World) : Prop :=
  Reb N w [] fun w56 => C_cellplanelaw26_SessionFolds_1 N Q raw0 l1 drop2 w56

theorem cellplanelaw26_SessionFolds_snd (N : Nat) (raw0 : Sl) (l1 : Sl) (drop2 : Int) (Q : Value → World → Prop) (w : World) (h : F_cellplanelaw26_SessionFolds N raw0 l1 drop2 Q w) : Snd (cx N (fun d => memN d [])) (bodyOf Go.Proofs.Try.f7) (retD (cx N (fun d => memN d [])) Go.Proofs.Try.f7 Q) (entry 97 [(.slice raw0.a raw0.n raw0.c), (.slice l1.a l1.n l1.c), (.int .i64 drop2)]) w :=
  (Snd.cast (c' := .seq (cL (bodyOf Go.Proofs.Try.f7)) (cR (bodyOf Go.Proofs.Try.f7))) (by kernel_rfl) (Snd.seq (H_cellplanelaw26_SessionFolds_1 N Q) (den_sound okc mixed _ _ _ _ (mpr' (by kernel_rfl) h)) (fun s w h => T_cellplanelaw26_SessionFolds_1 N Q s w h)))

theorem cellplanelaw26_SessionFolds_calls (raw0 : Sl) (l1 : Sl) (drop2 : Int) (Q : Value → World → Prop) (w : World) (h : F_cellplanelaw26_SessionFolds w.heap.size raw0 l1 drop2 Q w) : Calls PP n_cellplanelaw26_SessionFolds [(.slice raw0.a raw0.n raw0.c), (.slice l1.a l1.n l1.c), (.int .i64 drop2)].toArray w fun e w' => ∃ v, e = .returned v ∧ Q v w' :=
  calls_of (C := cx w.heap.size (fun d => memN d [])) (fn := Go.Proofs.Try.f7) (c := (bodyOf Go.Proofs.Try.f7)) (by kernel_rfl) (by kernel_rfl) (Nat.le_refl _) (cellplanelaw26_SessionFolds_snd _ raw0 l1 drop2 Q w h)
end Go.Sh
