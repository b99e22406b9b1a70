/- What these functions do, told by computation: a formula for each, and that its calls do what the formula says.
   Conditions: none. -/
import Derived.Test.YtcligpfkmnlhnaaBase
namespace Go.Sh
open Go
set_option linter.unusedVariables false
set_option maxRecDepth 100000

/-! ### cellplanelaw26_SessionOnce -/
noncomputable def k_cellplanelaw26_SessionOnce_0 : Code := (cR (cR (cR (cR (bodyOf Go.Proofs.Try.f4)))))

def C_cellplanelaw26_SessionOnce_4 (N : Nat) (Q : Value → World → Prop) (w : World) : Prop :=
  Reb N w [] (Q (.bool true))

theorem X_cellplanelaw26_SessionOnce_4 {N : Nat} {Q : Value → World → Prop} {w : World} (h : C_cellplanelaw26_SessionOnce_4 N Q w) : Snd (cx N (fun d => memN d [12])) k_cellplanelaw26_SessionOnce_0 (retD (cx N (fun d => memN d [12])) Go.Proofs.Try.f4 Q) (mkS 84 [] [] []) w :=
  (den_sound okc mixed _ _ _ _ (mpr' (by kernel_rfl) h))

noncomputable def H_cellplanelaw26_SessionOnce_4 (N : Nat) (Q : Value → World → Prop) : St → World → Prop := fun s w => grabK 84 [] s fun vs ls => match vs, ls with
  | [], [] => Reb N w s.L fun wa => C_cellplanelaw26_SessionOnce_4 N Q wa
  | _, _ => False

theorem T_cellplanelaw26_SessionOnce_4 (N : Nat) (Q : Value → World → Prop) (s : St) (w : World) (h : H_cellplanelaw26_SessionOnce_4 N Q s w) : Snd (cx N (fun d => memN d [12])) k_cellplanelaw26_SessionOnce_0 (retD (cx N (fun d => memN d [12])) Go.Proofs.Try.f4 Q) s w := by
  refine Snd.grab h (fun vs ls hd hloc wa hl => ?_)
  split at hd
  · exact X_cellplanelaw26_SessionOnce_4 (hd wa hl)
  · exact hd.elim

noncomputable def k_cellplanelaw26_SessionOnce_1 : Code := (cR (cL (cR (cR (cR (bodyOf Go.Proofs.Try.f4))))))

noncomputable def z_cellplanelaw26_SessionOnce_2 (N : Nat) (Q : Value → World → Prop) : Cont := (thenD (H_cellplanelaw26_SessionOnce_4 N Q) (retD (cx N (fun d => memN d [12])) Go.Proofs.Try.f4 Q))

def D_cellplanelaw26_SessionOnce_6 (K : (Sl × Int) → (Int) → Prop) : List Value → List LB → Prop := fun vs ls => match vs, ls with
  | [.slice v27'_a v27'_n v27'_c, .int .i64 v28', .int .i64 v29'], [] => K (⟨v27'_a, v27'_n, v27'_c⟩, v28') v29'
  | _, _ => False

noncomputable def k_cellplanelaw26_SessionOnce_3 : Code := (cR (cL (cL k_cellplanelaw26_SessionOnce_1)))

noncomputable def z_cellplanelaw26_SessionOnce_4 (N : Nat) (K1 : (Sl × Int) → (Int) → World → Prop) (Q : Value → World → Prop) : Cont := (thenD (HeadK N 84 [.val 27, .val 28, .val 29] D_cellplanelaw26_SessionOnce_6 K1) (inBlockD 0 (z_cellplanelaw26_SessionOnce_2 N Q)))

def C_cellplanelaw26_SessionOnce_9 (N : Nat) (K1 : (Sl × Int) → (Int) → World → Prop) (Q : Value → World → Prop) (v27' : Sl) (v28' v29' : Int) (w : World) : Prop :=
  Reb N w [] fun w1 => K1 (v27', v28') (IntKind.i64.wrap (v29' + 1)) w1

theorem X_cellplanelaw26_SessionOnce_9 {N : Nat} {K1 : (Sl × Int) → (Int) → World → Prop} {Q : Value → World → Prop} {v27' : Sl} {v28' v29' : Int} {w : World} (h : C_cellplanelaw26_SessionOnce_9 N K1 Q v27' v28' v29' w) : Snd (cx N (fun d => memN d [12])) (cR (cR k_cellplanelaw26_SessionOnce_3)) (z_cellplanelaw26_SessionOnce_4 N K1 Q) (mkS 84 [.val 27, .val 28, .val 29] [(.slice v27'.a v27'.n v27'.c), (.int .i64 v28'), (.int .i64 v29')] []) w :=
  (den_sound okc mixed _ _ _ _ (mpr' (by kernel_rfl) h))

noncomputable def H_cellplanelaw26_SessionOnce_9 (N : Nat) (K1 : (Sl × Int) → (Int) → World → Prop) (Q : Value → World → Prop) : St → World → Prop := fun s w => grabK 84 [.val 27, .val 28, .val 29] s fun vs ls => match vs, ls with
  | [.slice v27'_a v27'_n v27'_c, .int .i64 v28', .int .i64 v29'], [] => Reb N w s.L fun wa => C_cellplanelaw26_SessionOnce_9 N K1 Q ⟨v27'_a, v27'_n, v27'_c⟩ v28' v29' wa
  | _, _ => False

theorem T_cellplanelaw26_SessionOnce_9 (N : Nat) (K1 : (Sl × Int) → (Int) → World → Prop) (Q : Value → World → Prop) (s : St) (w : World) (h : H_cellplanelaw26_SessionOnce_9 N K1 Q s w) : Snd (cx N (fun d => memN d [12])) (cR (cR k_cellplanelaw26_SessionOnce_3)) (z_cellplanelaw26_SessionOnce_4 N K1 Q) s w := by
  refine Snd.grab h (fun vs ls hd hloc wa hl => ?_)
  split at hd
  · exact X_cellplanelaw26_SessionOnce_9 (hd wa hl)
  · exact hd.elim

noncomputable def k_cellplanelaw26_SessionOnce_5 : Code := (cR (cL (cL (cR k_cellplanelaw26_SessionOnce_3))))

noncomputable def z_cellplanelaw26_SessionOnce_6 (N : Nat) (K1 : (Sl × Int) → (Int) → World → Prop) (Q : Value → World → Prop) : Cont := (inBlockD 1 (thenD (H_cellplanelaw26_SessionOnce_9 N K1 Q) (z_cellplanelaw26_SessionOnce_4 N K1 Q)))

noncomputable def k_cellplanelaw26_SessionOnce_7 : Code := (cR (cR (cR k_cellplanelaw26_SessionOnce_5)))

def D_cellplanelaw26_SessionOnce_16 (K : ((Option Addr) × Addr × Sl × Int × Int) → (Int) → Prop) : List Value → List LB → Prop := fun vs ls => match vs, ls with
  | [.pointer t7', .pointer (some n10'), .int .i64 c13', .slice v27'_a v27'_n v27'_c, .int .i64 v28', .int .i64 v29'], [] => K (t7', n10', ⟨v27'_a, v27'_n, v27'_c⟩, v28', v29') c13'
  | _, _ => False

noncomputable def k_cellplanelaw26_SessionOnce_8 : Code := (cL (cR (cR k_cellplanelaw26_SessionOnce_7)))

def B_cellplanelaw26_SessionOnce_16 (N : Nat) (K1 : (Sl × Int) → (Int) → World → Prop) (K2 : ((Option Addr) × Addr × Sl × Int × Int) → (Int) → World → Prop) (Q : Value → World → Prop) (t7' : Option Addr) (n10' : Addr) (c13' : Int) (v27' : Sl) (v28' v29' : Int) (w : World) : Prop :=
  IfB (decide ((c13' : Int) ≤ 8)) ((0 : Int) ≤ c13' ∧ (c13' : Int) < (9 : Nat) ∧ ∃ n2 : Int, At w ((n10' : Addr).add ((c13' : Int).toNat * 1)) [(.int .i64 n2)] ∧ NotIn (((n10' : Addr).add ((c13' : Int).toNat * 1)) : Addr).block [] ∧ CallL PP N w [] n_session_Table_Last [(.pointer t7'), (.int .i64 c13')] fun r4 w5 => ∃ n3 : Int, r4 = (.int .i64 n3) ∧ At w5 ((n10' : Addr).add ((c13' : Int).toNat * 1)) [(.int .i64 n2)] ∧ IfB (!decide ((n3 : Int) = n2)) (Reb N w5 [] (Q (.bool false))) (Reb N w5 [] fun w6 => K2 (t7', n10', v27', v28', v29') (IntKind.i64.wrap (c13' + 1)) w6)) (Reb N w [] fun w7 => C_cellplanelaw26_SessionOnce_9 N K1 Q v27' v28' v29' w7)

theorem X_cellplanelaw26_SessionOnce_16 {N : Nat} {K1 : (Sl × Int) → (Int) → World → Prop} {K2 : ((Option Addr) × Addr × Sl × Int × Int) → (Int) → World → Prop} {Q : Value → World → Prop} {t7' : Option Addr} {n10' : Addr} {c13' : Int} {v27' : Sl} {v28' v29' : Int} {w : World} (h : B_cellplanelaw26_SessionOnce_16 N K1 K2 Q t7' n10' c13' v27' v28' v29' w) : Snd (cx N (fun d => memN d [12])) (cL k_cellplanelaw26_SessionOnce_8) (thenD (HeadK N 84 [.val 7, .val 10, .val 13, .val 27, .val 28, .val 29] D_cellplanelaw26_SessionOnce_16 K2) (inBlockD 4 (z_cellplanelaw26_SessionOnce_6 N K1 Q))) (mkS 84 [.val 7, .val 10, .val 13, .val 27, .val 28, .val 29] [(.pointer t7'), (.pointer (some n10')), (.int .i64 c13'), (.slice v27'.a v27'.n v27'.c), (.int .i64 v28'), (.int .i64 v29')] []) w :=
  (den_sound okc mixed _ _ _ _ (mpr' (by kernel_rfl) h))

def L_cellplanelaw26_SessionOnce_16 (N : Nat) (K1 : (Sl × Int) → (Int) → World → Prop) (Q : Value → World → Prop) (K2 : ((Option Addr) × Addr × Sl × Int × Int) → (Int) → World → Prop) (c : (Option Addr) × Addr × Sl × Int × Int) (x : Int) (w : World) : Prop := match c, x with
  | (t7', n10', v27', v28', v29'), c13' => B_cellplanelaw26_SessionOnce_16 N K1 K2 Q t7' n10' c13' v27' v28' v29' w

theorem T_cellplanelaw26_SessionOnce_16 (N : Nat) (K1 : (Sl × Int) → (Int) → World → Prop) (Q : Value → World → Prop) {s : St} {w : World} (h : HeadE N 84 [.val 7, .val 10, .val 13, .val 27, .val 28, .val 29] D_cellplanelaw26_SessionOnce_16 (L_cellplanelaw26_SessionOnce_16 N K1 Q) s w) : Snd (cx N (fun d => memN d [12])) k_cellplanelaw26_SessionOnce_8 (inBlockD 4 (z_cellplanelaw26_SessionOnce_6 N K1 Q)) s w := by
  refine Snd.cast (c' := .loop (cL k_cellplanelaw26_SessionOnce_8)) (by kernel_rfl) (Snd.loopC (fun (c : (Option Addr) × Addr × Sl × Int × Int) (x : Int) => match c, x with | (t7', n10', v27', v28', v29'), c13' => ([(.pointer t7'), (.pointer (some n10')), (.int .i64 c13'), (.slice v27'.a v27'.n v27'.c), (.int .i64 v28'), (.int .i64 v29')], [])) ?_ ?_ h)
  · intro K vs ls h
    unfold D_cellplanelaw26_SessionOnce_16 at h
    split at h
    · exact ⟨_, _, rfl, h⟩
    · exact h.elim
  · rintro K ⟨t7', n10', v27', v28', v29'⟩ c13' w h
    exact X_cellplanelaw26_SessionOnce_16 h

def C_cellplanelaw26_SessionOnce_15 (N : Nat) (K1 : (Sl × Int) → (Int) → World → Prop) (Q : Value → World → Prop) (t7' : Option Addr) (n10' : Addr) (c13' : Int) (v27' : Sl) (v28' v29' : Int) (w : World) : Prop :=
  LoopC N w [] ((t7', n10', v27', v28', v29') : (Option Addr) × Addr × Sl × Int × Int) (c13' : Int) (L_cellplanelaw26_SessionOnce_16 N K1 Q)

theorem X_cellplanelaw26_SessionOnce_15 {N : Nat} {K1 : (Sl × Int) → (Int) → World → Prop} {Q : Value → World → Prop} {t7' : Option Addr} {n10' : Addr} {c13' : Int} {v27' : Sl} {v28' v29' : Int} {w : World} (h : C_cellplanelaw26_SessionOnce_15 N K1 Q t7' n10' c13' v27' v28' v29' w) : Snd (cx N (fun d => memN d [12])) (cR (cR k_cellplanelaw26_SessionOnce_7)) (z_cellplanelaw26_SessionOnce_6 N K1 Q) (mkS 84 [.val 7, .val 10, .val 13, .val 27, .val 28, .val 29] [(.pointer t7'), (.pointer (some n10')), (.int .i64 c13'), (.slice v27'.a v27'.n v27'.c), (.int .i64 v28'), (.int .i64 v29')] []) w :=
  (Snd.cast (c' := .block 4 (cL (cR (cR k_cellplanelaw26_SessionOnce_7)))) (by kernel_rfl) (Snd.block (T_cellplanelaw26_SessionOnce_16 N K1 Q (mpr' (by kernel_rfl) h))))

noncomputable def H_cellplanelaw26_SessionOnce_15 (N : Nat) (K1 : (Sl × Int) → (Int) → World → Prop) (Q : Value → World → Prop) : St → World → Prop := fun s w => grabK 84 [.val 7, .val 10, .val 13, .val 27, .val 28, .val 29] s fun vs ls => match vs, ls with
  | [.pointer t7', .pointer (some n10'), .int .i64 c13', .slice v27'_a v27'_n v27'_c, .int .i64 v28', .int .i64 v29'], [] => Reb N w s.L fun wa => C_cellplanelaw26_SessionOnce_15 N K1 Q t7' n10' c13' ⟨v27'_a, v27'_n, v27'_c⟩ v28' v29' wa
  | _, _ => False

theorem T_cellplanelaw26_SessionOnce_15 (N : Nat) (K1 : (Sl × Int) → (Int) → World → Prop) (Q : Value → World → Prop) (s : St) (w : World) (h : H_cellplanelaw26_SessionOnce_15 N K1 Q s w) : Snd (cx N (fun d => memN d [12])) (cR (cR k_cellplanelaw26_SessionOnce_7)) (z_cellplanelaw26_SessionOnce_6 N K1 Q) s w := by
  refine Snd.grab h (fun vs ls hd hloc wa hl => ?_)
  split at hd
  · exact X_cellplanelaw26_SessionOnce_15 (hd wa hl)
  · exact hd.elim

def C_cellplanelaw26_SessionOnce_14 (N : Nat) (K1 : (Sl × Int) → (Int) → World → Prop) (Q : Value → World → Prop) (t7' : Option Addr) (n10' : Addr) (v27' : Sl) (v28' v29' : Int) (w : World) : Prop :=
  Reb N w [] fun w8 => C_cellplanelaw26_SessionOnce_15 N K1 Q t7' n10' 1 v27' v28' v29' w8

theorem X_cellplanelaw26_SessionOnce_14 {N : Nat} {K1 : (Sl × Int) → (Int) → World → Prop} {Q : Value → World → Prop} {t7' : Option Addr} {n10' : Addr} {v27' : Sl} {v28' v29' : Int} {w : World} (h : C_cellplanelaw26_SessionOnce_14 N K1 Q t7' n10' v27' v28' v29' w) : Snd (cx N (fun d => memN d [12])) (cR k_cellplanelaw26_SessionOnce_7) (z_cellplanelaw26_SessionOnce_6 N K1 Q) (mkS 84 [.val 7, .val 10, .val 27, .val 28, .val 29] [(.pointer t7'), (.pointer (some n10')), (.slice v27'.a v27'.n v27'.c), (.int .i64 v28'), (.int .i64 v29')] []) w :=
  (Snd.cast (c' := .seq (cL (cR k_cellplanelaw26_SessionOnce_7)) (cR (cR k_cellplanelaw26_SessionOnce_7))) (by kernel_rfl) (Snd.seq (H_cellplanelaw26_SessionOnce_15 N K1 Q) (den_sound okc mixed _ _ _ _ (mpr' (by kernel_rfl) h)) (fun s w h => T_cellplanelaw26_SessionOnce_15 N K1 Q s w h)))

noncomputable def H_cellplanelaw26_SessionOnce_14 (N : Nat) (K1 : (Sl × Int) → (Int) → World → Prop) (Q : Value → World → Prop) : St → World → Prop := fun s w => grabK 84 [.val 7, .val 10, .val 27, .val 28, .val 29] s fun vs ls => match vs, ls with
  | [.pointer t7', .pointer (some n10'), .slice v27'_a v27'_n v27'_c, .int .i64 v28', .int .i64 v29'], [] => Reb N w s.L fun wa => C_cellplanelaw26_SessionOnce_14 N K1 Q t7' n10' ⟨v27'_a, v27'_n, v27'_c⟩ v28' v29' wa
  | _, _ => False

theorem T_cellplanelaw26_SessionOnce_14 (N : Nat) (K1 : (Sl × Int) → (Int) → World → Prop) (Q : Value → World → Prop) (s : St) (w : World) (h : H_cellplanelaw26_SessionOnce_14 N K1 Q s w) : Snd (cx N (fun d => memN d [12])) (cR k_cellplanelaw26_SessionOnce_7) (z_cellplanelaw26_SessionOnce_6 N K1 Q) s w := by
  refine Snd.grab h (fun vs ls hd hloc wa hl => ?_)
  split at hd
  · exact X_cellplanelaw26_SessionOnce_14 (hd wa hl)
  · exact hd.elim

noncomputable def z_cellplanelaw26_SessionOnce_9 (N : Nat) (K1 : (Sl × Int) → (Int) → World → Prop) (Q : Value → World → Prop) : Cont := (thenD (H_cellplanelaw26_SessionOnce_14 N K1 Q) (z_cellplanelaw26_SessionOnce_6 N K1 Q))

def D_cellplanelaw26_SessionOnce_18 (K : ((Option Addr) × Addr × Sl × Int × Int × Sl × Int) → (Int) → Prop) : List Value → List LB → Prop := fun vs ls => match vs, ls with
  | [.pointer t7', .pointer (some n10'), .slice v27'_a v27'_n v27'_c, .int .i64 v28', .int .i64 v29', .slice v41'_a v41'_n v41'_c, .int .i64 v42', .int .i64 v43'], [] => K (t7', n10', ⟨v27'_a, v27'_n, v27'_c⟩, v28', v29', ⟨v41'_a, v41'_n, v41'_c⟩, v42') v43'
  | _, _ => False

noncomputable def k_cellplanelaw26_SessionOnce_10 : Code := (cL (cR (cL k_cellplanelaw26_SessionOnce_7)))

def B_cellplanelaw26_SessionOnce_18 (N : Nat) (K1 : (Sl × Int) → (Int) → World → Prop) (K2 : ((Option Addr) × Addr × Sl × Int × Int × Sl × Int) → (Int) → World → Prop) (Q : Value → World → Prop) (t7' : Option Addr) (n10' : Addr) (v27' : Sl) (v28' v29' : Int) (v41' : Sl) (v42' v43' : Int) (w : World) : Prop :=
  IfB (decide ((v43' : Int) < v42')) (IdxL v41'.a v41'.n v43' fun q9 => ∃ x10 : G_api_Change, At w (q9.add ((v43' : Int).toNat * 8)) x10.cells ∧ NotIn ((q9.add ((v43' : Int).toNat * 8)) : Addr).block [] ∧ ∀ b11 : Nat, w.heap.size ≤ b11 → IfB (decide ((x10.Client : Int) < 1)) (Reb N w [⟨b11, x10.cells, t_api_Change⟩] (Q (.bool false))) (IfB (decide ((8 : Int) < x10.Client)) (Reb N w [⟨b11, x10.cells, t_api_Change⟩] (Q (.bool false))) ((0 : Int) ≤ x10.Client ∧ (x10.Client : Int) < (9 : Nat) ∧ ∃ n12 : Int, At w ((n10' : Addr).add ((x10.Client : Int).toNat * 1)) [(.int .i64 n12)] ∧ NotIn (((n10' : Addr).add ((x10.Client : Int).toNat * 1)) : Addr).block [⟨b11, x10.cells, t_api_Change⟩] ∧ IfB (!decide ((x10.Number : Int) = (IntKind.i64.wrap (n12 + 1)))) (Reb N w [⟨b11, x10.cells, t_api_Change⟩] (Q (.bool false))) ((0 : Int) ≤ x10.Client ∧ (x10.Client : Int) < (9 : Nat) ∧ ∃ n13 : Int, At w ((n10' : Addr).add ((x10.Client : Int).toNat * 1)) [(.int .i64 n13)] ∧ NotIn (((n10' : Addr).add ((x10.Client : Int).toNat * 1)) : Addr).block [⟨b11, x10.cells, t_api_Change⟩] ∧ (0 : Int) ≤ x10.Client ∧ (x10.Client : Int) < (9 : Nat) ∧ StL w [⟨b11, x10.cells, t_api_Change⟩] ((n10' : Addr).add ((x10.Client : Int).toNat * 1)) [(.int .i64 (IntKind.i64.wrap (n13 + 1)))] fun w14 => Reb N w14 [⟨b11, x10.cells, t_api_Change⟩] fun w15 => K2 (t7', n10', v27', v28', v29', v41', v42') (IntKind.i64.wrap (v43' + 1)) w15)))) (Reb N w [] fun w16 => C_cellplanelaw26_SessionOnce_14 N K1 Q t7' n10' v27' v28' v29' w16)

theorem X_cellplanelaw26_SessionOnce_18 {N : Nat} {K1 : (Sl × Int) → (Int) → World → Prop} {K2 : ((Option Addr) × Addr × Sl × Int × Int × Sl × Int) → (Int) → World → Prop} {Q : Value → World → Prop} {t7' : Option Addr} {n10' : Addr} {v27' : Sl} {v28' v29' : Int} {v41' : Sl} {v42' v43' : Int} {w : World} (h : B_cellplanelaw26_SessionOnce_18 N K1 K2 Q t7' n10' v27' v28' v29' v41' v42' v43' w) : Snd (cx N (fun d => memN d [12])) (cL k_cellplanelaw26_SessionOnce_10) (thenD (HeadK N 84 [.val 7, .val 10, .val 27, .val 28, .val 29, .val 41, .val 42, .val 43] D_cellplanelaw26_SessionOnce_18 K2) (inBlockD 2 (z_cellplanelaw26_SessionOnce_9 N K1 Q))) (mkS 84 [.val 7, .val 10, .val 27, .val 28, .val 29, .val 41, .val 42, .val 43] [(.pointer t7'), (.pointer (some n10')), (.slice v27'.a v27'.n v27'.c), (.int .i64 v28'), (.int .i64 v29'), (.slice v41'.a v41'.n v41'.c), (.int .i64 v42'), (.int .i64 v43')] []) w :=
  (den_sound okc mixed _ _ _ _ (mpr' (by kernel_rfl) h))

def L_cellplanelaw26_SessionOnce_18 (N : Nat) (K1 : (Sl × Int) → (Int) → World → Prop) (Q : Value → World → Prop) (K2 : ((Option Addr) × Addr × Sl × Int × Int × Sl × Int) → (Int) → World → Prop) (c : (Option Addr) × Addr × Sl × Int × Int × Sl × Int) (x : Int) (w : World) : Prop := match c, x with
  | (t7', n10', v27', v28', v29', v41', v42'), v43' => B_cellplanelaw26_SessionOnce_18 N K1 K2 Q t7' n10' v27' v28' v29' v41' v42' v43' w

theorem T_cellplanelaw26_SessionOnce_18 (N : Nat) (K1 : (Sl × Int) → (Int) → World → Prop) (Q : Value → World → Prop) {s : St} {w : World} (h : HeadE N 84 [.val 7, .val 10, .val 27, .val 28, .val 29, .val 41, .val 42, .val 43] D_cellplanelaw26_SessionOnce_18 (L_cellplanelaw26_SessionOnce_18 N K1 Q) s w) : Snd (cx N (fun d => memN d [12])) k_cellplanelaw26_SessionOnce_10 (inBlockD 2 (z_cellplanelaw26_SessionOnce_9 N K1 Q)) s w := by
  refine Snd.cast (c' := .loop (cL k_cellplanelaw26_SessionOnce_10)) (by kernel_rfl) (Snd.loopC (fun (c : (Option Addr) × Addr × Sl × Int × Int × Sl × Int) (x : Int) => match c, x with | (t7', n10', v27', v28', v29', v41', v42'), v43' => ([(.pointer t7'), (.pointer (some n10')), (.slice v27'.a v27'.n v27'.c), (.int .i64 v28'), (.int .i64 v29'), (.slice v41'.a v41'.n v41'.c), (.int .i64 v42'), (.int .i64 v43')], [])) ?_ ?_ h)
  · intro K vs ls h
    unfold D_cellplanelaw26_SessionOnce_18 at h
    split at h
    · exact ⟨_, _, rfl, h⟩
    · exact h.elim
  · rintro K ⟨t7', n10', v27', v28', v29', v41', v42'⟩ v43' w h
    exact X_cellplanelaw26_SessionOnce_18 h

def C_cellplanelaw26_SessionOnce_17 (N : Nat) (K1 : (Sl × Int) → (Int) → World → Prop) (Q : Value → World → Prop) (t7' : Option Addr) (n10' : Addr) (v27' : Sl) (v28' v29' : Int) (v41' : Sl) (v42' v43' : Int) (w : World) : Prop :=
  LoopC N w [] ((t7', n10', v27', v28', v29', v41', v42') : (Option Addr) × Addr × Sl × Int × Int × Sl × Int) (v43' : Int) (L_cellplanelaw26_SessionOnce_18 N K1 Q)

theorem X_cellplanelaw26_SessionOnce_17 {N : Nat} {K1 : (Sl × Int) → (Int) → World → Prop} {Q : Value → World → Prop} {t7' : Option Addr} {n10' : Addr} {v27' : Sl} {v28' v29' : Int} {v41' : Sl} {v42' v43' : Int} {w : World} (h : C_cellplanelaw26_SessionOnce_17 N K1 Q t7' n10' v27' v28' v29' v41' v42' v43' w) : Snd (cx N (fun d => memN d [12])) (cR (cL k_cellplanelaw26_SessionOnce_7)) (z_cellplanelaw26_SessionOnce_9 N K1 Q) (mkS 84 [.val 7, .val 10, .val 27, .val 28, .val 29, .val 41, .val 42, .val 43] [(.pointer t7'), (.pointer (some n10')), (.slice v27'.a v27'.n v27'.c), (.int .i64 v28'), (.int .i64 v29'), (.slice v41'.a v41'.n v41'.c), (.int .i64 v42'), (.int .i64 v43')] []) w :=
  (Snd.cast (c' := .block 2 (cL (cR (cL k_cellplanelaw26_SessionOnce_7)))) (by kernel_rfl) (Snd.block (T_cellplanelaw26_SessionOnce_18 N K1 Q (mpr' (by kernel_rfl) h))))

noncomputable def H_cellplanelaw26_SessionOnce_17 (N : Nat) (K1 : (Sl × Int) → (Int) → World → Prop) (Q : Value → World → Prop) : St → World → Prop := fun s w => grabK 84 [.val 7, .val 10, .val 27, .val 28, .val 29, .val 41, .val 42, .val 43] s fun vs ls => match vs, ls with
  | [.pointer t7', .pointer (some n10'), .slice v27'_a v27'_n v27'_c, .int .i64 v28', .int .i64 v29', .slice v41'_a v41'_n v41'_c, .int .i64 v42', .int .i64 v43'], [] => Reb N w s.L fun wa => C_cellplanelaw26_SessionOnce_17 N K1 Q t7' n10' ⟨v27'_a, v27'_n, v27'_c⟩ v28' v29' ⟨v41'_a, v41'_n, v41'_c⟩ v42' v43' wa
  | _, _ => False

theorem T_cellplanelaw26_SessionOnce_17 (N : Nat) (K1 : (Sl × Int) → (Int) → World → Prop) (Q : Value → World → Prop) (s : St) (w : World) (h : H_cellplanelaw26_SessionOnce_17 N K1 Q s w) : Snd (cx N (fun d => memN d [12])) (cR (cL k_cellplanelaw26_SessionOnce_7)) (z_cellplanelaw26_SessionOnce_9 N K1 Q) s w := by
  refine Snd.grab h (fun vs ls hd hloc wa hl => ?_)
  split at hd
  · exact X_cellplanelaw26_SessionOnce_17 (hd wa hl)
  · exact hd.elim

def C_cellplanelaw26_SessionOnce_13 (N : Nat) (K1 : (Sl × Int) → (Int) → World → Prop) (Q : Value → World → Prop) (h6' : Sl) (t7' : Option Addr) (n10' : Addr) (v27' : Sl) (v28' v29' : Int) (w : World) : Prop :=
  Reb N w [] fun w17 => C_cellplanelaw26_SessionOnce_17 N K1 Q t7' n10' v27' v28' v29' h6' ((h6'.n : Nat) : Int) 0 w17

theorem X_cellplanelaw26_SessionOnce_13 {N : Nat} {K1 : (Sl × Int) → (Int) → World → Prop} {Q : Value → World → Prop} {h6' : Sl} {t7' : Option Addr} {n10' : Addr} {v27' : Sl} {v28' v29' : Int} {w : World} (h : C_cellplanelaw26_SessionOnce_13 N K1 Q h6' t7' n10' v27' v28' v29' w) : Snd (cx N (fun d => memN d [12])) k_cellplanelaw26_SessionOnce_7 (z_cellplanelaw26_SessionOnce_6 N K1 Q) (mkS 84 [.val 6, .val 7, .val 10, .val 27, .val 28, .val 29] [(.slice h6'.a h6'.n h6'.c), (.pointer t7'), (.pointer (some n10')), (.slice v27'.a v27'.n v27'.c), (.int .i64 v28'), (.int .i64 v29')] []) w :=
  (Snd.cast (c' := .seq (cL k_cellplanelaw26_SessionOnce_7) (cR k_cellplanelaw26_SessionOnce_7)) (by kernel_rfl) (Snd.seq (H_cellplanelaw26_SessionOnce_14 N K1 Q) (Snd.cast (c' := .seq (cL (cL k_cellplanelaw26_SessionOnce_7)) (cR (cL k_cellplanelaw26_SessionOnce_7))) (by kernel_rfl) (Snd.seq (H_cellplanelaw26_SessionOnce_17 N K1 Q) (den_sound okc mixed _ _ _ _ (mpr' (by kernel_rfl) h)) (fun s w h => T_cellplanelaw26_SessionOnce_17 N K1 Q s w h))) (fun s w h => T_cellplanelaw26_SessionOnce_14 N K1 Q s w h)))

noncomputable def H_cellplanelaw26_SessionOnce_13 (N : Nat) (K1 : (Sl × Int) → (Int) → World → Prop) (Q : Value → World → Prop) : St → World → Prop := fun s w => grabK 84 [.val 6, .val 7, .val 10, .val 27, .val 28, .val 29] s fun vs ls => match vs, ls with
  | [.slice h6'_a h6'_n h6'_c, .pointer t7', .pointer (some n10'), .slice v27'_a v27'_n v27'_c, .int .i64 v28', .int .i64 v29'], [] => Reb N w s.L fun wa => C_cellplanelaw26_SessionOnce_13 N K1 Q ⟨h6'_a, h6'_n, h6'_c⟩ t7' n10' ⟨v27'_a, v27'_n, v27'_c⟩ v28' v29' wa
  | _, _ => False

theorem T_cellplanelaw26_SessionOnce_13 (N : Nat) (K1 : (Sl × Int) → (Int) → World → Prop) (Q : Value → World → Prop) (s : St) (w : World) (h : H_cellplanelaw26_SessionOnce_13 N K1 Q s w) : Snd (cx N (fun d => memN d [12])) k_cellplanelaw26_SessionOnce_7 (z_cellplanelaw26_SessionOnce_6 N K1 Q) s w := by
  refine Snd.grab h (fun vs ls hd hloc wa hl => ?_)
  split at hd
  · exact X_cellplanelaw26_SessionOnce_13 (hd wa hl)
  · exact hd.elim

def C_cellplanelaw26_SessionOnce_12 (N : Nat) (K1 : (Sl × Int) → (Int) → World → Prop) (Q : Value → World → Prop) (h6' : Sl) (t7' : Option Addr) (v27' : Sl) (v28' v29' : Int) (w : World) : Prop :=
  NewL N w [] (⟨0, 0, 0, 0, 0, 0, 0, 0, 0⟩ : G_ar9_i64).cells t_ar9_i64 fun b18 w19 => Reb N w19 [] fun w20 => C_cellplanelaw26_SessionOnce_13 N K1 Q h6' t7' ⟨b18, 0, none⟩ v27' v28' v29' w20

theorem X_cellplanelaw26_SessionOnce_12 {N : Nat} {K1 : (Sl × Int) → (Int) → World → Prop} {Q : Value → World → Prop} {h6' : Sl} {t7' : Option Addr} {v27' : Sl} {v28' v29' : Int} {w : World} (h : C_cellplanelaw26_SessionOnce_12 N K1 Q h6' t7' v27' v28' v29' w) : Snd (cx N (fun d => memN d [12])) (cR (cR k_cellplanelaw26_SessionOnce_5)) (z_cellplanelaw26_SessionOnce_6 N K1 Q) (mkS 84 [.val 6, .val 7, .val 27, .val 28, .val 29] [(.slice h6'.a h6'.n h6'.c), (.pointer t7'), (.slice v27'.a v27'.n v27'.c), (.int .i64 v28'), (.int .i64 v29')] []) w :=
  (Snd.cast (c' := .seq (cL (cR (cR k_cellplanelaw26_SessionOnce_5))) (cR (cR (cR k_cellplanelaw26_SessionOnce_5)))) (by kernel_rfl) (Snd.seq (H_cellplanelaw26_SessionOnce_13 N K1 Q) (den_sound okc mixed _ _ _ _ (mpr' (by kernel_rfl) h)) (fun s w h => T_cellplanelaw26_SessionOnce_13 N K1 Q s w h)))

noncomputable def H_cellplanelaw26_SessionOnce_12 (N : Nat) (K1 : (Sl × Int) → (Int) → World → Prop) (Q : Value → World → Prop) : St → World → Prop := fun s w => grabK 84 [.val 6, .val 7, .val 27, .val 28, .val 29] s fun vs ls => match vs, ls with
  | [.slice h6'_a h6'_n h6'_c, .pointer t7', .slice v27'_a v27'_n v27'_c, .int .i64 v28', .int .i64 v29'], [] => Reb N w s.L fun wa => C_cellplanelaw26_SessionOnce_12 N K1 Q ⟨h6'_a, h6'_n, h6'_c⟩ t7' ⟨v27'_a, v27'_n, v27'_c⟩ v28' v29' wa
  | _, _ => False

theorem T_cellplanelaw26_SessionOnce_12 (N : Nat) (K1 : (Sl × Int) → (Int) → World → Prop) (Q : Value → World → Prop) (s : St) (w : World) (h : H_cellplanelaw26_SessionOnce_12 N K1 Q s w) : Snd (cx N (fun d => memN d [12])) (cR (cR k_cellplanelaw26_SessionOnce_5)) (z_cellplanelaw26_SessionOnce_6 N K1 Q) s w := by
  refine Snd.grab h (fun vs ls hd hloc wa hl => ?_)
  split at hd
  · exact X_cellplanelaw26_SessionOnce_12 (hd wa hl)
  · exact hd.elim

def C_cellplanelaw26_SessionOnce_11 (N : Nat) (K1 : (Sl × Int) → (Int) → World → Prop) (Q : Value → World → Prop) (h6' : Sl) (t7' : Option Addr) (e9' : Int) (v27' : Sl) (v28' v29' : Int) (w : World) : Prop :=
  IfB (!decide ((e9' : Int) = 0)) (Reb N w [] fun w21 => C_cellplanelaw26_SessionOnce_9 N K1 Q v27' v28' v29' w21) (Reb N w [] fun w22 => C_cellplanelaw26_SessionOnce_12 N K1 Q h6' t7' v27' v28' v29' w22)

theorem X_cellplanelaw26_SessionOnce_11 {N : Nat} {K1 : (Sl × Int) → (Int) → World → Prop} {Q : Value → World → Prop} {h6' : Sl} {t7' : Option Addr} {e9' : Int} {v27' : Sl} {v28' v29' : Int} {w : World} (h : C_cellplanelaw26_SessionOnce_11 N K1 Q h6' t7' e9' v27' v28' v29' w) : Snd (cx N (fun d => memN d [12])) (cR k_cellplanelaw26_SessionOnce_5) (z_cellplanelaw26_SessionOnce_6 N K1 Q) (mkS 84 [.val 6, .val 7, .val 9, .val 27, .val 28, .val 29] [(.slice h6'.a h6'.n h6'.c), (.pointer t7'), (.int .i64 e9'), (.slice v27'.a v27'.n v27'.c), (.int .i64 v28'), (.int .i64 v29')] []) w :=
  (Snd.cast (c' := .seq (cL (cR k_cellplanelaw26_SessionOnce_5)) (cR (cR k_cellplanelaw26_SessionOnce_5))) (by kernel_rfl) (Snd.seq (H_cellplanelaw26_SessionOnce_12 N K1 Q) (den_sound okc mixed _ _ _ _ (mpr' (by kernel_rfl) h)) (fun s w h => T_cellplanelaw26_SessionOnce_12 N K1 Q s w h)))

noncomputable def H_cellplanelaw26_SessionOnce_11 (N : Nat) (K1 : (Sl × Int) → (Int) → World → Prop) (Q : Value → World → Prop) : St → World → Prop := fun s w => grabK 84 [.val 6, .val 7, .val 9, .val 27, .val 28, .val 29] s fun vs ls => match vs, ls with
  | [.slice h6'_a h6'_n h6'_c, .pointer t7', .int .i64 e9', .slice v27'_a v27'_n v27'_c, .int .i64 v28', .int .i64 v29'], [] => Reb N w s.L fun wa => C_cellplanelaw26_SessionOnce_11 N K1 Q ⟨h6'_a, h6'_n, h6'_c⟩ t7' e9' ⟨v27'_a, v27'_n, v27'_c⟩ v28' v29' wa
  | _, _ => False

theorem T_cellplanelaw26_SessionOnce_11 (N : Nat) (K1 : (Sl × Int) → (Int) → World → Prop) (Q : Value → World → Prop) (s : St) (w : World) (h : H_cellplanelaw26_SessionOnce_11 N K1 Q s w) : Snd (cx N (fun d => memN d [12])) (cR k_cellplanelaw26_SessionOnce_5) (z_cellplanelaw26_SessionOnce_6 N K1 Q) s w := by
  refine Snd.grab h (fun vs ls hd hloc wa hl => ?_)
  split at hd
  · exact X_cellplanelaw26_SessionOnce_11 (hd wa hl)
  · exact hd.elim

def C_cellplanelaw26_SessionOnce_10 (N : Nat) (K1 : (Sl × Int) → (Int) → World → Prop) (Q : Value → World → Prop) (h6' v27' : Sl) (v28' v29' : Int) (w : World) : Prop :=
  CallL PP N w [] n_session_Fold [(.slice h6'.a h6'.n h6'.c)] fun r26 w27 => ∃ p23 : Option Addr, ∃ n24 : Int, ∃ n25 : Int, r26 = (.tuple #[(.pointer p23), (.int .i64 n24), (.int .i64 n25)]) ∧ Reb N w27 [] fun w28 => C_cellplanelaw26_SessionOnce_11 N K1 Q h6' p23 n25 v27' v28' v29' w28

theorem X_cellplanelaw26_SessionOnce_10 {N : Nat} {K1 : (Sl × Int) → (Int) → World → Prop} {Q : Value → World → Prop} {h6' v27' : Sl} {v28' v29' : Int} {w : World} (h : C_cellplanelaw26_SessionOnce_10 N K1 Q h6' v27' v28' v29' w) : Snd (cx N (fun d => memN d [12])) k_cellplanelaw26_SessionOnce_5 (z_cellplanelaw26_SessionOnce_6 N K1 Q) (mkS 84 [.val 6, .val 27, .val 28, .val 29] [(.slice h6'.a h6'.n h6'.c), (.slice v27'.a v27'.n v27'.c), (.int .i64 v28'), (.int .i64 v29')] []) w :=
  (Snd.cast (c' := .seq (cL k_cellplanelaw26_SessionOnce_5) (cR k_cellplanelaw26_SessionOnce_5)) (by kernel_rfl) (Snd.seq (H_cellplanelaw26_SessionOnce_11 N K1 Q) (den_sound okc mixed _ _ _ _ (mpr' (by kernel_rfl) h)) (fun s w h => T_cellplanelaw26_SessionOnce_11 N K1 Q s w h)))

noncomputable def H_cellplanelaw26_SessionOnce_10 (N : Nat) (K1 : (Sl × Int) → (Int) → World → Prop) (Q : Value → World → Prop) : St → World → Prop := fun s w => grabK 84 [.val 6, .val 27, .val 28, .val 29] s fun vs ls => match vs, ls with
  | [.slice h6'_a h6'_n h6'_c, .slice v27'_a v27'_n v27'_c, .int .i64 v28', .int .i64 v29'], [] => Reb N w s.L fun wa => C_cellplanelaw26_SessionOnce_10 N K1 Q ⟨h6'_a, h6'_n, h6'_c⟩ ⟨v27'_a, v27'_n, v27'_c⟩ v28' v29' wa
  | _, _ => False

theorem T_cellplanelaw26_SessionOnce_10 (N : Nat) (K1 : (Sl × Int) → (Int) → World → Prop) (Q : Value → World → Prop) (s : St) (w : World) (h : H_cellplanelaw26_SessionOnce_10 N K1 Q s w) : Snd (cx N (fun d => memN d [12])) k_cellplanelaw26_SessionOnce_5 (z_cellplanelaw26_SessionOnce_6 N K1 Q) s w := by
  refine Snd.grab h (fun vs ls hd hloc wa hl => ?_)
  split at hd
  · exact X_cellplanelaw26_SessionOnce_10 (hd wa hl)
  · exact hd.elim

def C_cellplanelaw26_SessionOnce_8 (N : Nat) (K1 : (Sl × Int) → (Int) → World → Prop) (Q : Value → World → Prop) (v27' : Sl) (v28' v29' : Int) (w : World) : Prop :=
  IdxL v27'.a v27'.n v29' fun q29 => ∃ l30 : Sl, At w (q29.add ((v29' : Int).toNat * 1)) [(.slice l30.a l30.n l30.c)] ∧ NotIn ((q29.add ((v29' : Int).toNat * 1)) : Addr).block [] ∧ Reb N w [] fun w31 => C_cellplanelaw26_SessionOnce_10 N K1 Q l30 v27' v28' v29' w31

theorem X_cellplanelaw26_SessionOnce_8 {N : Nat} {K1 : (Sl × Int) → (Int) → World → Prop} {Q : Value → World → Prop} {v27' : Sl} {v28' v29' : Int} {w : World} (h : C_cellplanelaw26_SessionOnce_8 N K1 Q v27' v28' v29' w) : Snd (cx N (fun d => memN d [12])) (cR k_cellplanelaw26_SessionOnce_3) (z_cellplanelaw26_SessionOnce_4 N K1 Q) (mkS 84 [.val 27, .val 28, .val 29] [(.slice v27'.a v27'.n v27'.c), (.int .i64 v28'), (.int .i64 v29')] []) w :=
  (Snd.cast (c' := .seq (cL (cR k_cellplanelaw26_SessionOnce_3)) (cR (cR k_cellplanelaw26_SessionOnce_3))) (by kernel_rfl) (Snd.seq (H_cellplanelaw26_SessionOnce_9 N K1 Q) (Snd.cast (c' := .block 1 (cL (cL (cR k_cellplanelaw26_SessionOnce_3)))) (by kernel_rfl) (Snd.block (Snd.cast (c' := .seq (cL (cL (cL (cR k_cellplanelaw26_SessionOnce_3)))) (cR (cL (cL (cR k_cellplanelaw26_SessionOnce_3))))) (by kernel_rfl) (Snd.seq (H_cellplanelaw26_SessionOnce_10 N K1 Q) (den_sound okc mixed _ _ _ _ (mpr' (by kernel_rfl) h)) (fun s w h => T_cellplanelaw26_SessionOnce_10 N K1 Q s w h))))) (fun s w h => T_cellplanelaw26_SessionOnce_9 N K1 Q s w h)))

noncomputable def H_cellplanelaw26_SessionOnce_8 (N : Nat) (K1 : (Sl × Int) → (Int) → World → Prop) (Q : Value → World → Prop) : St → World → Prop := fun s w => grabK 84 [.val 27, .val 28, .val 29] s fun vs ls => match vs, ls with
  | [.slice v27'_a v27'_n v27'_c, .int .i64 v28', .int .i64 v29'], [] => Reb N w s.L fun wa => C_cellplanelaw26_SessionOnce_8 N K1 Q ⟨v27'_a, v27'_n, v27'_c⟩ v28' v29' wa
  | _, _ => False

theorem T_cellplanelaw26_SessionOnce_8 (N : Nat) (K1 : (Sl × Int) → (Int) → World → Prop) (Q : Value → World → Prop) (s : St) (w : World) (h : H_cellplanelaw26_SessionOnce_8 N K1 Q s w) : Snd (cx N (fun d => memN d [12])) (cR k_cellplanelaw26_SessionOnce_3) (z_cellplanelaw26_SessionOnce_4 N K1 Q) s w := by
  refine Snd.grab h (fun vs ls hd hloc wa hl => ?_)
  split at hd
  · exact X_cellplanelaw26_SessionOnce_8 (hd wa hl)
  · exact hd.elim

def C_cellplanelaw26_SessionOnce_7 (N : Nat) (K1 : (Sl × Int) → (Int) → World → Prop) (Q : Value → World → Prop) (v27' : Sl) (v28' v29' : Int) (v30' : Bool) (w : World) : Prop :=
  IfB v30' (Reb N w [] fun w32 => C_cellplanelaw26_SessionOnce_8 N K1 Q v27' v28' v29' w32) (Reb N w [] fun w33 => C_cellplanelaw26_SessionOnce_4 N Q w33)

theorem X_cellplanelaw26_SessionOnce_7 {N : Nat} {K1 : (Sl × Int) → (Int) → World → Prop} {Q : Value → World → Prop} {v27' : Sl} {v28' v29' : Int} {v30' : Bool} {w : World} (h : C_cellplanelaw26_SessionOnce_7 N K1 Q v27' v28' v29' v30' w) : Snd (cx N (fun d => memN d [12])) k_cellplanelaw26_SessionOnce_3 (z_cellplanelaw26_SessionOnce_4 N K1 Q) (mkS 84 [.val 27, .val 28, .val 29, .val 30] [(.slice v27'.a v27'.n v27'.c), (.int .i64 v28'), (.int .i64 v29'), (.bool v30')] []) w :=
  (Snd.cast (c' := .seq (cL k_cellplanelaw26_SessionOnce_3) (cR k_cellplanelaw26_SessionOnce_3)) (by kernel_rfl) (Snd.seq (H_cellplanelaw26_SessionOnce_8 N K1 Q) (den_sound okc mixed _ _ _ _ (mpr' (by kernel_rfl) h)) (fun s w h => T_cellplanelaw26_SessionOnce_8 N K1 Q s w h)))

noncomputable def H_cellplanelaw26_SessionOnce_7 (N : Nat) (K1 : (Sl × Int) → (Int) → World → Prop) (Q : Value → World → Prop) : St → World → Prop := fun s w => grabK 84 [.val 27, .val 28, .val 29, .val 30] s fun vs ls => match vs, ls with
  | [.slice v27'_a v27'_n v27'_c, .int .i64 v28', .int .i64 v29', .bool v30'], [] => Reb N w s.L fun wa => C_cellplanelaw26_SessionOnce_7 N K1 Q ⟨v27'_a, v27'_n, v27'_c⟩ v28' v29' v30' wa
  | _, _ => False

theorem T_cellplanelaw26_SessionOnce_7 (N : Nat) (K1 : (Sl × Int) → (Int) → World → Prop) (Q : Value → World → Prop) (s : St) (w : World) (h : H_cellplanelaw26_SessionOnce_7 N K1 Q s w) : Snd (cx N (fun d => memN d [12])) k_cellplanelaw26_SessionOnce_3 (z_cellplanelaw26_SessionOnce_4 N K1 Q) s w := by
  refine Snd.grab h (fun vs ls hd hloc wa hl => ?_)
  split at hd
  · exact X_cellplanelaw26_SessionOnce_7 (hd wa hl)
  · exact hd.elim

def B_cellplanelaw26_SessionOnce_6 (N : Nat) (K1 : (Sl × Int) → (Int) → World → Prop) (Q : Value → World → Prop) (v27' : Sl) (v28' v29' : Int) (w : World) : Prop :=
  Reb N w [] fun w34 => C_cellplanelaw26_SessionOnce_7 N K1 Q v27' v28' v29' (decide ((v29' : Int) < v28')) w34

theorem X_cellplanelaw26_SessionOnce_6 {N : Nat} {K1 : (Sl × Int) → (Int) → World → Prop} {Q : Value → World → Prop} {v27' : Sl} {v28' v29' : Int} {w : World} (h : B_cellplanelaw26_SessionOnce_6 N K1 Q v27' v28' v29' w) : Snd (cx N (fun d => memN d [12])) (cL (cL k_cellplanelaw26_SessionOnce_1)) (thenD (HeadK N 84 [.val 27, .val 28, .val 29] D_cellplanelaw26_SessionOnce_6 K1) (inBlockD 0 (z_cellplanelaw26_SessionOnce_2 N Q))) (mkS 84 [.val 27, .val 28, .val 29] [(.slice v27'.a v27'.n v27'.c), (.int .i64 v28'), (.int .i64 v29')] []) w :=
  (Snd.cast (c' := .seq (cL (cL (cL k_cellplanelaw26_SessionOnce_1))) (cR (cL (cL k_cellplanelaw26_SessionOnce_1)))) (by kernel_rfl) (Snd.seq (H_cellplanelaw26_SessionOnce_7 N K1 Q) (den_sound okc mixed _ _ _ _ (mpr' (by kernel_rfl) h)) (fun s w h => T_cellplanelaw26_SessionOnce_7 N K1 Q s w h)))

def L_cellplanelaw26_SessionOnce_6 (N : Nat) (Q : Value → World → Prop) (K1 : (Sl × Int) → (Int) → World → Prop) (c : Sl × Int) (x : Int) (w : World) : Prop := match c, x with
  | (v27', v28'), v29' => B_cellplanelaw26_SessionOnce_6 N K1 Q v27' v28' v29' w

theorem T_cellplanelaw26_SessionOnce_6 (N : Nat) (Q : Value → World → Prop) {s : St} {w : World} (h : HeadE N 84 [.val 27, .val 28, .val 29] D_cellplanelaw26_SessionOnce_6 (L_cellplanelaw26_SessionOnce_6 N Q) s w) : Snd (cx N (fun d => memN d [12])) (cL k_cellplanelaw26_SessionOnce_1) (inBlockD 0 (z_cellplanelaw26_SessionOnce_2 N Q)) s w := by
  refine Snd.cast (c' := .loop (cL (cL k_cellplanelaw26_SessionOnce_1))) (by kernel_rfl) (Snd.loopC (fun (c : Sl × Int) (x : Int) => match c, x with | (v27', v28'), v29' => ([(.slice v27'.a v27'.n v27'.c), (.int .i64 v28'), (.int .i64 v29')], [])) ?_ ?_ h)
  · intro K vs ls h
    unfold D_cellplanelaw26_SessionOnce_6 at h
    split at h
    · exact ⟨_, _, rfl, h⟩
    · exact h.elim
  · rintro K ⟨v27', v28'⟩ v29' w h
    exact X_cellplanelaw26_SessionOnce_6 h

def C_cellplanelaw26_SessionOnce_5 (N : Nat) (Q : Value → World → Prop) (v27' : Sl) (v28' v29' : Int) (w : World) : Prop :=
  LoopC N w [] ((v27', v28') : Sl × Int) (v29' : Int) (L_cellplanelaw26_SessionOnce_6 N Q)

theorem X_cellplanelaw26_SessionOnce_5 {N : Nat} {Q : Value → World → Prop} {v27' : Sl} {v28' v29' : Int} {w : World} (h : C_cellplanelaw26_SessionOnce_5 N Q v27' v28' v29' w) : Snd (cx N (fun d => memN d [12])) k_cellplanelaw26_SessionOnce_1 (z_cellplanelaw26_SessionOnce_2 N Q) (mkS 84 [.val 27, .val 28, .val 29] [(.slice v27'.a v27'.n v27'.c), (.int .i64 v28'), (.int .i64 v29')] []) w :=
  (Snd.cast (c' := .block 0 (cL k_cellplanelaw26_SessionOnce_1)) (by kernel_rfl) (Snd.block (T_cellplanelaw26_SessionOnce_6 N Q (mpr' (by kernel_rfl) h))))

noncomputable def H_cellplanelaw26_SessionOnce_5 (N : Nat) (Q : Value → World → Prop) : St → World → Prop := fun s w => grabK 84 [.val 27, .val 28, .val 29] s fun vs ls => match vs, ls with
  | [.slice v27'_a v27'_n v27'_c, .int .i64 v28', .int .i64 v29'], [] => Reb N w s.L fun wa => C_cellplanelaw26_SessionOnce_5 N Q ⟨v27'_a, v27'_n, v27'_c⟩ v28' v29' wa
  | _, _ => False

theorem T_cellplanelaw26_SessionOnce_5 (N : Nat) (Q : Value → World → Prop) (s : St) (w : World) (h : H_cellplanelaw26_SessionOnce_5 N Q s w) : Snd (cx N (fun d => memN d [12])) k_cellplanelaw26_SessionOnce_1 (z_cellplanelaw26_SessionOnce_2 N Q) s w := by
  refine Snd.grab h (fun vs ls hd hloc wa hl => ?_)
  split at hd
  · exact X_cellplanelaw26_SessionOnce_5 (hd wa hl)
  · exact hd.elim

def C_cellplanelaw26_SessionOnce_3 (N : Nat) (Q : Value → World → Prop) (raw0' l1' : Sl) (w : World) : Prop :=
  CallL PP N w [] n_cellplanemill_History [(.slice l1'.a l1'.n l1'.c)] fun r36 w37 => ∃ l35 : Sl, r36 = (.slice l35.a l35.n l35.c) ∧ NewL N w37 [] [(.slice raw0'.a raw0'.n raw0'.c), (.slice l35.a l35.n l35.c)] t_sl_api_Change fun b38 w39 => Reb N w39 [] fun w40 => C_cellplanelaw26_SessionOnce_5 N Q (⟨(some ⟨b38, 0, none⟩), 2, 2⟩ : Sl) 2 0 w40

theorem X_cellplanelaw26_SessionOnce_3 {N : Nat} {Q : Value → World → Prop} {raw0' l1' : Sl} {w : World} (h : C_cellplanelaw26_SessionOnce_3 N Q raw0' l1' w) : Snd (cx N (fun d => memN d [12])) (cR (cR (cR (bodyOf Go.Proofs.Try.f4)))) (retD (cx N (fun d => memN d [12])) Go.Proofs.Try.f4 Q) (mkS 84 [.val 0, .val 1] [(.slice raw0'.a raw0'.n raw0'.c), (.slice l1'.a l1'.n l1'.c)] []) w :=
  (Snd.cast (c' := .seq (cL (cR (cR (cR (bodyOf Go.Proofs.Try.f4))))) (cR (cR (cR (cR (bodyOf Go.Proofs.Try.f4)))))) (by kernel_rfl) (Snd.seq (H_cellplanelaw26_SessionOnce_4 N Q) (Snd.cast (c' := .seq (cL (cL (cR (cR (cR (bodyOf Go.Proofs.Try.f4)))))) (cR (cL (cR (cR (cR (bodyOf Go.Proofs.Try.f4))))))) (by kernel_rfl) (Snd.seq (H_cellplanelaw26_SessionOnce_5 N Q) (den_sound okc mixed _ _ _ _ (mpr' (by kernel_rfl) h)) (fun s w h => T_cellplanelaw26_SessionOnce_5 N Q s w h))) (fun s w h => T_cellplanelaw26_SessionOnce_4 N Q s w h)))

noncomputable def H_cellplanelaw26_SessionOnce_3 (N : Nat) (Q : Value → World → Prop) : St → World → Prop := fun s w => grabK 84 [.val 0, .val 1] s fun vs ls => match vs, ls with
  | [.slice raw0'_a raw0'_n raw0'_c, .slice l1'_a l1'_n l1'_c], [] => Reb N w s.L fun wa => C_cellplanelaw26_SessionOnce_3 N Q ⟨raw0'_a, raw0'_n, raw0'_c⟩ ⟨l1'_a, l1'_n, l1'_c⟩ wa
  | _, _ => False

theorem T_cellplanelaw26_SessionOnce_3 (N : Nat) (Q : Value → World → Prop) (s : St) (w : World) (h : H_cellplanelaw26_SessionOnce_3 N Q s w) : Snd (cx N (fun d => memN d [12])) (cR (cR (cR (bodyOf Go.Proofs.Try.f4)))) (retD (cx N (fun d => memN d [12])) Go.Proofs.Try.f4 Q) s w := by
  refine Snd.grab h (fun vs ls hd hloc wa hl => ?_)
  split at hd
  · exact X_cellplanelaw26_SessionOnce_3 (hd wa hl)
  · exact hd.elim

def C_cellplanelaw26_SessionOnce_2 (N : Nat) (Q : Value → World → Prop) (raw0' l1' : Sl) (w : World) : Prop :=
  CallL PP N w [] n_cellplanemill_Few [(.slice raw0'.a raw0'.n raw0'.c), (.int .i64 60)] fun r42 w43 => ∃ b41 : Bool, r42 = (.bool b41) ∧ IfB (!b41) (Reb N w43 [] (Q (.bool true))) (CallL PP N w43 [] n_cellplanemill_Light [(.slice l1'.a l1'.n l1'.c)] fun r45 w46 => ∃ b44 : Bool, r45 = (.bool b44) ∧ IfB (!b44) (Reb N w46 [] (Q (.bool true))) (Reb N w46 [] fun w47 => C_cellplanelaw26_SessionOnce_3 N Q raw0' l1' w47))

theorem X_cellplanelaw26_SessionOnce_2 {N : Nat} {Q : Value → World → Prop} {raw0' l1' : Sl} {w : World} (h : C_cellplanelaw26_SessionOnce_2 N Q raw0' l1' w) : Snd (cx N (fun d => memN d [12])) (cR (cR (bodyOf Go.Proofs.Try.f4))) (retD (cx N (fun d => memN d [12])) Go.Proofs.Try.f4 Q) (mkS 84 [.val 0, .val 1] [(.slice raw0'.a raw0'.n raw0'.c), (.slice l1'.a l1'.n l1'.c)] []) w :=
  (Snd.cast (c' := .seq (cL (cR (cR (bodyOf Go.Proofs.Try.f4)))) (cR (cR (cR (bodyOf Go.Proofs.Try.f4))))) (by kernel_rfl) (Snd.seq (H_cellplanelaw26_SessionOnce_3 N Q) (den_sound okc mixed _ _ _ _ (mpr' (by kernel_rfl) h)) (fun s w h => T_cellplanelaw26_SessionOnce_3 N Q s w h)))

noncomputable def H_cellplanelaw26_SessionOnce_2 (N : Nat) (Q : Value → World → Prop) : St → World → Prop := fun s w => grabK 84 [.val 0, .val 1] s fun vs ls => match vs, ls with
  | [.slice raw0'_a raw0'_n raw0'_c, .slice l1'_a l1'_n l1'_c], [] => Reb N w s.L fun wa => C_cellplanelaw26_SessionOnce_2 N Q ⟨raw0'_a, raw0'_n, raw0'_c⟩ ⟨l1'_a, l1'_n, l1'_c⟩ wa
  | _, _ => False

theorem T_cellplanelaw26_SessionOnce_2 (N : Nat) (Q : Value → World → Prop) (s : St) (w : World) (h : H_cellplanelaw26_SessionOnce_2 N Q s w) : Snd (cx N (fun d => memN d [12])) (cR (cR (bodyOf Go.Proofs.Try.f4))) (retD (cx N (fun d => memN d [12])) Go.Proofs.Try.f4 Q) s w := by
  refine Snd.grab h (fun vs ls hd hloc wa hl => ?_)
  split at hd
  · exact X_cellplanelaw26_SessionOnce_2 (hd wa hl)
  · exact hd.elim

def C_cellplanelaw26_SessionOnce_1 (N : Nat) (Q : Value → World → Prop) (raw0' l1' : Sl) (w : World) : Prop :=
  CallL PP N w [] n_cellplanelaw26_awake [] fun r49 w50 => ∃ b48 : Bool, r49 = (.bool b48) ∧ IfB (!b48) (Reb N w50 [] (Q (.bool false))) (Reb N w50 [] fun w51 => C_cellplanelaw26_SessionOnce_2 N Q raw0' l1' w51)

theorem X_cellplanelaw26_SessionOnce_1 {N : Nat} {Q : Value → World → Prop} {raw0' l1' : Sl} {w : World} (h : C_cellplanelaw26_SessionOnce_1 N Q raw0' l1' w) : Snd (cx N (fun d => memN d [12])) (cR (bodyOf Go.Proofs.Try.f4)) (retD (cx N (fun d => memN d [12])) Go.Proofs.Try.f4 Q) (mkS 84 [.val 0, .val 1] [(.slice raw0'.a raw0'.n raw0'.c), (.slice l1'.a l1'.n l1'.c)] []) w :=
  (Snd.cast (c' := .seq (cL (cR (bodyOf Go.Proofs.Try.f4))) (cR (cR (bodyOf Go.Proofs.Try.f4)))) (by kernel_rfl) (Snd.seq (H_cellplanelaw26_SessionOnce_2 N Q) (den_sound okc mixed _ _ _ _ (mpr' (by kernel_rfl) h)) (fun s w h => T_cellplanelaw26_SessionOnce_2 N Q s w h)))

noncomputable def H_cellplanelaw26_SessionOnce_1 (N : Nat) (Q : Value → World → Prop) : St → World → Prop := fun s w => grabK 84 [.val 0, .val 1] s fun vs ls => match vs, ls with
  | [.slice raw0'_a raw0'_n raw0'_c, .slice l1'_a l1'_n l1'_c], [] => Reb N w s.L fun wa => C_cellplanelaw26_SessionOnce_1 N Q ⟨raw0'_a, raw0'_n, raw0'_c⟩ ⟨l1'_a, l1'_n, l1'_c⟩ wa
  | _, _ => False

theorem T_cellplanelaw26_SessionOnce_1 (N : Nat) (Q : Value → World → Prop) (s : St) (w : World) (h : H_cellplanelaw26_SessionOnce_1 N Q s w) : Snd (cx N (fun d => memN d [12])) (cR (bodyOf Go.Proofs.Try.f4)) (retD (cx N (fun d => memN d [12])) Go.Proofs.Try.f4 Q) s w := by
  refine Snd.grab h (fun vs ls hd hloc wa hl => ?_)
  split at hd
  · exact X_cellplanelaw26_SessionOnce_1 (hd wa hl)
  · exact hd.elim

def F_cellplanelaw26_SessionOnce (N : Nat) (raw0 : Sl) (l1 : Sl) (Q : Value → World → Prop) (w : World) : Prop :=
  Reb N w [] fun w52 => C_cellplanelaw26_SessionOnce_1 N Q raw0 l1 w52

theorem cellplanelaw26_SessionOnce_snd (N : Nat) (raw0 : Sl) (l1 : Sl) (Q : Value → World → Prop) (w : World) (h : F_cellplanelaw26_SessionOnce N raw0 l1 Q w) : Snd (cx N (fun d => memN d [12])) (bodyOf Go.Proofs.Try.f4) (retD (cx N (fun d => memN d [12])) Go.Proofs.Try.f4 Q) (entry 84 [(.slice raw0.a raw0.n raw0.c), (.slice l1.a l1.n l1.c)]) w :=
  (Snd.cast (c' := .seq (cL (bodyOf Go.Proofs.Try.f4)) (cR (bodyOf Go.Proofs.Try.f4))) (by kernel_rfl) (Snd.seq (H_cellplanelaw26_SessionOnce_1 N Q) (den_sound okc mixed _ _ _ _ (mpr' (by kernel_rfl) h)) (fun s w h => T_cellplanelaw26_SessionOnce_1 N Q s w h)))

theorem cellplanelaw26_SessionOnce_calls (raw0 : Sl) (l1 : Sl) (Q : Value → World → Prop) (w : World) (h : F_cellplanelaw26_SessionOnce w.heap.size raw0 l1 Q w) : Calls PP n_cellplanelaw26_SessionOnce [(.slice raw0.a raw0.n raw0.c), (.slice l1.a l1.n l1.c)].toArray w fun e w' => ∃ v, e = .returned v ∧ Q v w' :=
  calls_of (C := cx w.heap.size (fun d => memN d [12])) (fn := Go.Proofs.Try.f4) (c := (bodyOf Go.Proofs.Try.f4)) (by kernel_rfl) (by kernel_rfl) (Nat.le_refl _) (cellplanelaw26_SessionOnce_snd _ raw0 l1 Q w h)

/-! ### cellplanelaw26_SessionApart -/
def F_cellplanelaw26_SessionApart (N : Nat) (l0 : Sl) (x1 : G_api_Change) (y2 : G_api_Change) (Q : Value → World → Prop) (w : World) : Prop :=
  ∀ b1 : Nat, w.heap.size ≤ b1 → ∀ b2 : Nat, w.heap.size ≤ b2 → CallL PP N w [⟨b1, x1.cells, t_api_Change⟩, ⟨b2, y2.cells, t_api_Change⟩] n_cellplanelaw26_awake [] fun r4 w5 => ∃ b3 : Bool, r4 = (.bool b3) ∧ IfB (!b3) (Reb N w5 [⟨b1, x1.cells, t_api_Change⟩, ⟨b2, y2.cells, t_api_Change⟩] (Q (.bool false))) (CallL PP N w5 [⟨b1, x1.cells, t_api_Change⟩, ⟨b2, y2.cells, t_api_Change⟩] n_cellplanemill_Light [(.slice l0.a l0.n l0.c)] fun r7 w8 => ∃ b6 : Bool, r7 = (.bool b6) ∧ IfB (!b6) (Reb N w8 [⟨b1, x1.cells, t_api_Change⟩, ⟨b2, y2.cells, t_api_Change⟩] (Q (.bool true))) (CallL PP N w8 [⟨b1, x1.cells, t_api_Change⟩, ⟨b2, y2.cells, t_api_Change⟩] n_cellplanemill_Short [(.agg (List.toArray x1.cells))] fun r10 w11 => ∃ b9 : Bool, r10 = (.bool b9) ∧ IfB (!b9) (Reb N w11 [⟨b1, x1.cells, t_api_Change⟩, ⟨b2, y2.cells, t_api_Change⟩] (Q (.bool true))) (CallL PP N w11 [⟨b1, x1.cells, t_api_Change⟩, ⟨b2, y2.cells, t_api_Change⟩] n_cellplanemill_Short [(.agg (List.toArray y2.cells))] fun r13 w14 => ∃ b12 : Bool, r13 = (.bool b12) ∧ IfB (!b12) (Reb N w14 [⟨b1, x1.cells, t_api_Change⟩, ⟨b2, y2.cells, t_api_Change⟩] (Q (.bool true))) (IfB (decide ((x1.Client : Int) = y2.Client)) (Reb N w14 [⟨b1, x1.cells, t_api_Change⟩, ⟨b2, y2.cells, t_api_Change⟩] (Q (.bool true))) (CallL PP N w14 [⟨b1, x1.cells, t_api_Change⟩, ⟨b2, y2.cells, t_api_Change⟩] n_cellplanemill_History [(.slice l0.a l0.n l0.c)] fun r16 w17 => ∃ l15 : Sl, r16 = (.slice l15.a l15.n l15.c) ∧ CallL PP N w17 [⟨b1, x1.cells, t_api_Change⟩, ⟨b2, y2.cells, t_api_Change⟩] n_session_Fold [(.slice l15.a l15.n l15.c)] fun r21 w22 => ∃ p18 : Option Addr, ∃ n19 : Int, ∃ n20 : Int, r21 = (.tuple #[(.pointer p18), (.int .i64 n19), (.int .i64 n20)]) ∧ CallL PP N w22 [⟨b1, x1.cells, t_api_Change⟩, ⟨b2, y2.cells, t_api_Change⟩] n_session_Fold [(.slice l15.a l15.n l15.c)] fun r26 w27 => ∃ p23 : Option Addr, ∃ n24 : Int, ∃ n25 : Int, r26 = (.tuple #[(.pointer p23), (.int .i64 n24), (.int .i64 n25)]) ∧ IfB p18.isNone (Reb N w27 [⟨b1, x1.cells, t_api_Change⟩, ⟨b2, y2.cells, t_api_Change⟩] (Q (.bool false))) (IfB p23.isNone (Reb N w27 [⟨b1, x1.cells, t_api_Change⟩, ⟨b2, y2.cells, t_api_Change⟩] (Q (.bool false))) (CallL PP N w27 [⟨b1, x1.cells, t_api_Change⟩, ⟨b2, y2.cells, t_api_Change⟩] n_session_Table_Last [(.pointer p18), (.int .i64 x1.Client)] fun r29 w30 => ∃ n28 : Int, r29 = (.int .i64 n28) ∧ CallL PP N w30 [⟨b1, x1.cells, t_api_Change⟩, ⟨b2, y2.cells, t_api_Change⟩] n_session_Table_Last [(.pointer p18), (.int .i64 y2.Client)] fun r32 w33 => ∃ n31 : Int, r32 = (.int .i64 n31) ∧ CallL PP N w33 [⟨b1, ({ x1 with Number := (IntKind.i64.wrap (n28 + 1)) } : G_api_Change).cells, t_api_Change⟩, ⟨b2, ({ y2 with Number := (IntKind.i64.wrap (n31 + 1)) } : G_api_Change).cells, t_api_Change⟩] n_session_Table_Apply [(.pointer p18), (.agg (List.toArray ({ x1 with Number := (IntKind.i64.wrap (n28 + 1)) } : G_api_Change).cells))] fun r35 w36 => ∃ n34 : Int, r35 = (.int .i64 n34) ∧ CallL PP N w36 [⟨b1, ({ x1 with Number := (IntKind.i64.wrap (n28 + 1)) } : G_api_Change).cells, t_api_Change⟩, ⟨b2, ({ y2 with Number := (IntKind.i64.wrap (n31 + 1)) } : G_api_Change).cells, t_api_Change⟩] n_session_Table_Apply [(.pointer p18), (.agg (List.toArray ({ y2 with Number := (IntKind.i64.wrap (n31 + 1)) } : G_api_Change).cells))] fun r38 w39 => ∃ n37 : Int, r38 = (.int .i64 n37) ∧ CallL PP N w39 [⟨b1, ({ x1 with Number := (IntKind.i64.wrap (n28 + 1)) } : G_api_Change).cells, t_api_Change⟩, ⟨b2, ({ y2 with Number := (IntKind.i64.wrap (n31 + 1)) } : G_api_Change).cells, t_api_Change⟩] n_session_Table_Apply [(.pointer p23), (.agg (List.toArray ({ y2 with Number := (IntKind.i64.wrap (n31 + 1)) } : G_api_Change).cells))] fun r41 w42 => ∃ n40 : Int, r41 = (.int .i64 n40) ∧ CallL PP N w42 [⟨b1, ({ x1 with Number := (IntKind.i64.wrap (n28 + 1)) } : G_api_Change).cells, t_api_Change⟩, ⟨b2, ({ y2 with Number := (IntKind.i64.wrap (n31 + 1)) } : G_api_Change).cells, t_api_Change⟩] n_session_Table_Apply [(.pointer p23), (.agg (List.toArray ({ x1 with Number := (IntKind.i64.wrap (n28 + 1)) } : G_api_Change).cells))] fun r44 w45 => ∃ n43 : Int, r44 = (.int .i64 n43) ∧ IfB (decide ((n34 : Int) = n43)) (IfB (decide ((n37 : Int) = n40)) (CallL PP N w45 [⟨b1, ({ x1 with Number := (IntKind.i64.wrap (n28 + 1)) } : G_api_Change).cells, t_api_Change⟩, ⟨b2, ({ y2 with Number := (IntKind.i64.wrap (n31 + 1)) } : G_api_Change).cells, t_api_Change⟩] n_session_Same [(.pointer p18), (.pointer p23)] fun r47 w48 => ∃ b46 : Bool, r47 = (.bool b46) ∧ Reb N w48 [⟨b1, ({ x1 with Number := (IntKind.i64.wrap (n28 + 1)) } : G_api_Change).cells, t_api_Change⟩, ⟨b2, ({ y2 with Number := (IntKind.i64.wrap (n31 + 1)) } : G_api_Change).cells, t_api_Change⟩] (Q (.bool b46))) (Reb N w45 [⟨b1, ({ x1 with Number := (IntKind.i64.wrap (n28 + 1)) } : G_api_Change).cells, t_api_Change⟩, ⟨b2, ({ y2 with Number := (IntKind.i64.wrap (n31 + 1)) } : G_api_Change).cells, t_api_Change⟩] (Q (.bool false)))) (Reb N w45 [⟨b1, ({ x1 with Number := (IntKind.i64.wrap (n28 + 1)) } : G_api_Change).cells, t_api_Change⟩, ⟨b2, ({ y2 with Number := (IntKind.i64.wrap (n31 + 1)) } : G_api_Change).cells, t_api_Change⟩] (Q (.bool false))))))))))

theorem cellplanelaw26_SessionApart_snd (N : Nat) (l0 : Sl) (x1 : G_api_Change) (y2 : G_api_Change) (Q : Value → World → Prop) (w : World) (h : F_cellplanelaw26_SessionApart N l0 x1 y2 Q w) : Snd (cx N (fun d => memN d [4, 5])) (bodyOf Go.Proofs.Try.f5) (retD (cx N (fun d => memN d [4, 5])) Go.Proofs.Try.f5 Q) (entry 97 [(.slice l0.a l0.n l0.c), (.agg (List.toArray x1.cells)), (.agg (List.toArray y2.cells))]) w :=
  (den_sound okc mixed _ _ _ _ (mpr' (by kernel_rfl) h))

theorem cellplanelaw26_SessionApart_calls (l0 : Sl) (x1 : G_api_Change) (y2 : G_api_Change) (Q : Value → World → Prop) (w : World) (h : F_cellplanelaw26_SessionApart w.heap.size l0 x1 y2 Q w) : Calls PP n_cellplanelaw26_SessionApart [(.slice l0.a l0.n l0.c), (.agg (List.toArray x1.cells)), (.agg (List.toArray y2.cells))].toArray w fun e w' => ∃ v, e = .returned v ∧ Q v w' :=
  calls_of (C := cx w.heap.size (fun d => memN d [4, 5])) (fn := Go.Proofs.Try.f5) (c := (bodyOf Go.Proofs.Try.f5)) (by kernel_rfl) (by kernel_rfl) (Nat.le_refl _) (cellplanelaw26_SessionApart_snd _ l0 x1 y2 Q w h)
end Go.Sh
