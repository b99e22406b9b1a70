/- What these functions do, told by computation: a formula for each, and that its calls do what the formula says.
   Conditions: none. -/
import Derived.Test.YtcligpfkmnlhnaaBase
namespace Go.Sh
open Go
set_option linter.unusedVariables false
set_option maxRecDepth 100000

/-! ### cellplanelaw26_SessionReplies -/
noncomputable def k_cellplanelaw26_SessionReplies_0 : Code := (cR (cR (cR (cR (bodyOf Go.Proofs.Try.f3)))))

noncomputable def k_cellplanelaw26_SessionReplies_1 : Code := (cR (cR k_cellplanelaw26_SessionReplies_0))

def C_cellplanelaw26_SessionReplies_6 (N : Nat) (Q : Value → World → Prop) (w : World) : Prop :=
  Reb N w [] (Q (.bool true))

theorem X_cellplanelaw26_SessionReplies_6 {N : Nat} {Q : Value → World → Prop} {w : World} (h : C_cellplanelaw26_SessionReplies_6 N Q w) : Snd (cx N (fun d => memN d [6, 7, 9])) k_cellplanelaw26_SessionReplies_1 (retD (cx N (fun d => memN d [6, 7, 9])) Go.Proofs.Try.f3 Q) (mkS 76 [] [] []) w :=
  (den_sound okc mixed _ _ _ _ (mpr' (by kernel_rfl) h))

noncomputable def H_cellplanelaw26_SessionReplies_6 (N : Nat) (Q : Value → World → Prop) : St → World → Prop := fun s w => grabK 76 [] s fun vs ls => match vs, ls with
  | [], [] => Reb N w s.L fun wa => C_cellplanelaw26_SessionReplies_6 N Q wa
  | _, _ => False

theorem T_cellplanelaw26_SessionReplies_6 (N : Nat) (Q : Value → World → Prop) (s : St) (w : World) (h : H_cellplanelaw26_SessionReplies_6 N Q s w) : Snd (cx N (fun d => memN d [6, 7, 9])) k_cellplanelaw26_SessionReplies_1 (retD (cx N (fun d => memN d [6, 7, 9])) Go.Proofs.Try.f3 Q) s w := by
  refine Snd.grab h (fun vs ls hd hloc wa hl => ?_)
  split at hd
  · exact X_cellplanelaw26_SessionReplies_6 (hd wa hl)
  · exact hd.elim

noncomputable def k_cellplanelaw26_SessionReplies_2 : Code := (cR (cL (cR k_cellplanelaw26_SessionReplies_0)))

noncomputable def z_cellplanelaw26_SessionReplies_3 (N : Nat) (Q : Value → World → Prop) : Cont := (thenD (H_cellplanelaw26_SessionReplies_6 N Q) (retD (cx N (fun d => memN d [6, 7, 9])) Go.Proofs.Try.f3 Q))

def D_cellplanelaw26_SessionReplies_8 (K : ((Option Addr) × Sl × Int) → (Int) → Prop) : List Value → List LB → Prop := fun vs ls => match vs, ls with
  | [.pointer t4', .slice v20'_a v20'_n v20'_c, .int .i64 v21', .int .i64 v22'], [] => K (t4', ⟨v20'_a, v20'_n, v20'_c⟩, v21') v22'
  | _, _ => False

noncomputable def k_cellplanelaw26_SessionReplies_4 : Code := (cR (cL (cL k_cellplanelaw26_SessionReplies_2)))

noncomputable def z_cellplanelaw26_SessionReplies_5 (N : Nat) (K1 : ((Option Addr) × Sl × Int) → (Int) → World → Prop) (Q : Value → World → Prop) : Cont := (thenD (HeadK N 76 [.val 4, .val 20, .val 21, .val 22] D_cellplanelaw26_SessionReplies_8 K1) (inBlockD 0 (z_cellplanelaw26_SessionReplies_3 N Q)))

noncomputable def k_cellplanelaw26_SessionReplies_6 : Code := (cR (cR k_cellplanelaw26_SessionReplies_4))

def C_cellplanelaw26_SessionReplies_11 (N : Nat) (K1 : ((Option Addr) × Sl × Int) → (Int) → World → Prop) (Q : Value → World → Prop) (t4' : Option Addr) (v20' : Sl) (v21' v22' : Int) (w : World) : Prop :=
  Reb N w [] fun w1 => K1 (t4', v20', v21') (IntKind.i64.wrap (v22' + 1)) w1

theorem X_cellplanelaw26_SessionReplies_11 {N : Nat} {K1 : ((Option Addr) × Sl × Int) → (Int) → World → Prop} {Q : Value → World → Prop} {t4' : Option Addr} {v20' : Sl} {v21' v22' : Int} {w : World} (h : C_cellplanelaw26_SessionReplies_11 N K1 Q t4' v20' v21' v22' w) : Snd (cx N (fun d => memN d [6, 7, 9])) k_cellplanelaw26_SessionReplies_6 (z_cellplanelaw26_SessionReplies_5 N K1 Q) (mkS 76 [.val 4, .val 20, .val 21, .val 22] [(.pointer t4'), (.slice v20'.a v20'.n v20'.c), (.int .i64 v21'), (.int .i64 v22')] []) w :=
  (den_sound okc mixed _ _ _ _ (mpr' (by kernel_rfl) h))

noncomputable def H_cellplanelaw26_SessionReplies_11 (N : Nat) (K1 : ((Option Addr) × Sl × Int) → (Int) → World → Prop) (Q : Value → World → Prop) : St → World → Prop := fun s w => grabK 76 [.val 4, .val 20, .val 21, .val 22] s fun vs ls => match vs, ls with
  | [.pointer t4', .slice v20'_a v20'_n v20'_c, .int .i64 v21', .int .i64 v22'], [] => Reb N w s.L fun wa => C_cellplanelaw26_SessionReplies_11 N K1 Q t4' ⟨v20'_a, v20'_n, v20'_c⟩ v21' v22' wa
  | _, _ => False

theorem T_cellplanelaw26_SessionReplies_11 (N : Nat) (K1 : ((Option Addr) × Sl × Int) → (Int) → World → Prop) (Q : Value → World → Prop) (s : St) (w : World) (h : H_cellplanelaw26_SessionReplies_11 N K1 Q s w) : Snd (cx N (fun d => memN d [6, 7, 9])) k_cellplanelaw26_SessionReplies_6 (z_cellplanelaw26_SessionReplies_5 N K1 Q) s w := by
  refine Snd.grab h (fun vs ls hd hloc wa hl => ?_)
  split at hd
  · exact X_cellplanelaw26_SessionReplies_11 (hd wa hl)
  · exact hd.elim

noncomputable def k_cellplanelaw26_SessionReplies_7 : Code := (cR (cL (cL (cR k_cellplanelaw26_SessionReplies_4))))

noncomputable def z_cellplanelaw26_SessionReplies_8 (N : Nat) (K1 : ((Option Addr) × Sl × Int) → (Int) → World → Prop) (Q : Value → World → Prop) : Cont := (inBlockD 1 (thenD (H_cellplanelaw26_SessionReplies_11 N K1 Q) (z_cellplanelaw26_SessionReplies_5 N K1 Q)))

noncomputable def k_cellplanelaw26_SessionReplies_9 : Code := (cR (cR k_cellplanelaw26_SessionReplies_7))

noncomputable def k_cellplanelaw26_SessionReplies_10 : Code := (cR (cR k_cellplanelaw26_SessionReplies_9))

def C_cellplanelaw26_SessionReplies_16 (N : Nat) (K1 : ((Option Addr) × Sl × Int) → (Int) → World → Prop) (Q : Value → World → Prop) (t4' : Option Addr) (blk6' : Nat) (x6c' : G_api_Change) (Ty6' blk9' : Nat) (r9c' : G_api_Reply) (Ty9' : Nat) (e10' item11' : Int) (v20' : Sl) (v21' v22' : Int) (w : World) : Prop :=
  IfB (!decide ((e10' : Int) = 0)) (Reb N w [⟨blk6', x6c'.cells, Ty6'⟩, ⟨blk9', r9c'.cells, Ty9'⟩] (Q (.bool false))) (IfB (!(G_api_Reply.eqb r9c' (⟨0, x6c'.Seq, item11', ByteArray.empty⟩ : G_api_Reply))) (Reb N w [⟨blk6', x6c'.cells, Ty6'⟩, ⟨blk9', r9c'.cells, Ty9'⟩] (Q (.bool false))) (Reb N w [⟨blk6', x6c'.cells, Ty6'⟩, ⟨blk9', r9c'.cells, Ty9'⟩] fun w2 => C_cellplanelaw26_SessionReplies_11 N K1 Q t4' v20' v21' v22' w2))

theorem X_cellplanelaw26_SessionReplies_16 {N : Nat} {K1 : ((Option Addr) × Sl × Int) → (Int) → World → Prop} {Q : Value → World → Prop} {t4' : Option Addr} {blk6' : Nat} {x6c' : G_api_Change} {Ty6' blk9' : Nat} {r9c' : G_api_Reply} {Ty9' : Nat} {e10' item11' : Int} {v20' : Sl} {v21' v22' : Int} {w : World} (h : C_cellplanelaw26_SessionReplies_16 N K1 Q t4' blk6' x6c' Ty6' blk9' r9c' Ty9' e10' item11' v20' v21' v22' w) : Snd (cx N (fun d => memN d [6, 7, 9])) k_cellplanelaw26_SessionReplies_10 (z_cellplanelaw26_SessionReplies_8 N K1 Q) (mkS 76 [.val 4, .loc 6, .loc 9, .val 10, .val 11, .val 20, .val 21, .val 22] [(.pointer t4'), (.int .i64 e10'), (.int .i64 item11'), (.slice v20'.a v20'.n v20'.c), (.int .i64 v21'), (.int .i64 v22')] [⟨blk6', x6c'.cells, Ty6'⟩, ⟨blk9', r9c'.cells, Ty9'⟩]) w :=
  (den_sound okc mixed _ _ _ _ (mpr' (by kernel_rfl) h))

noncomputable def H_cellplanelaw26_SessionReplies_16 (N : Nat) (K1 : ((Option Addr) × Sl × Int) → (Int) → World → Prop) (Q : Value → World → Prop) : St → World → Prop := fun s w => grabK 76 [.val 4, .loc 6, .loc 9, .val 10, .val 11, .val 20, .val 21, .val 22] s fun vs ls => match vs, ls with
  | [.pointer t4', .int .i64 e10', .int .i64 item11', .slice v20'_a v20'_n v20'_c, .int .i64 v21', .int .i64 v22'], [⟨blk6', x6c'_r, Ty6'⟩, ⟨blk9', r9c'_r, Ty9'⟩] => G_api_Change.decL x6c'_r fun x6c' => G_api_Reply.decL r9c'_r fun r9c' => Reb N w s.L fun wa => C_cellplanelaw26_SessionReplies_16 N K1 Q t4' blk6' x6c' Ty6' blk9' r9c' Ty9' e10' item11' ⟨v20'_a, v20'_n, v20'_c⟩ v21' v22' wa
  | _, _ => False

theorem T_cellplanelaw26_SessionReplies_16 (N : Nat) (K1 : ((Option Addr) × Sl × Int) → (Int) → World → Prop) (Q : Value → World → Prop) (s : St) (w : World) (h : H_cellplanelaw26_SessionReplies_16 N K1 Q s w) : Snd (cx N (fun d => memN d [6, 7, 9])) k_cellplanelaw26_SessionReplies_10 (z_cellplanelaw26_SessionReplies_8 N K1 Q) s w := by
  refine Snd.grab h (fun vs ls hd hloc wa hl => ?_)
  split at hd
  · obtain ⟨x6c', rfl, hd0⟩ := G_api_Change.decL_spec hd
    obtain ⟨r9c', rfl, hd1⟩ := G_api_Reply.decL_spec hd0
    exact X_cellplanelaw26_SessionReplies_16 (hd1 wa hl)
  · exact hd.elim

def C_cellplanelaw26_SessionReplies_15 (N : Nat) (K1 : ((Option Addr) × Sl × Int) → (Int) → World → Prop) (Q : Value → World → Prop) (t4' : Option Addr) (blk6' : Nat) (x6c' : G_api_Change) (Ty6' blk9' : Nat) (r9c' : G_api_Reply) (Ty9' : Nat) (e10' item11' : Int) (v20' : Sl) (v21' v22' : Int) (w : World) : Prop :=
  IfB (decide ((x6c'.Kind : Int) = 3)) (Reb N w [⟨blk6', x6c'.cells, Ty6'⟩, ⟨blk9', r9c'.cells, Ty9'⟩] fun w3 => C_cellplanelaw26_SessionReplies_16 N K1 Q t4' blk6' x6c' Ty6' blk9' r9c' Ty9' e10' x6c'.Seq v20' v21' v22' w3) (Reb N w [⟨blk6', x6c'.cells, Ty6'⟩, ⟨blk9', r9c'.cells, Ty9'⟩] fun w4 => C_cellplanelaw26_SessionReplies_16 N K1 Q t4' blk6' x6c' Ty6' blk9' r9c' Ty9' e10' item11' v20' v21' v22' w4)

theorem X_cellplanelaw26_SessionReplies_15 {N : Nat} {K1 : ((Option Addr) × Sl × Int) → (Int) → World → Prop} {Q : Value → World → Prop} {t4' : Option Addr} {blk6' : Nat} {x6c' : G_api_Change} {Ty6' blk9' : Nat} {r9c' : G_api_Reply} {Ty9' : Nat} {e10' item11' : Int} {v20' : Sl} {v21' v22' : Int} {w : World} (h : C_cellplanelaw26_SessionReplies_15 N K1 Q t4' blk6' x6c' Ty6' blk9' r9c' Ty9' e10' item11' v20' v21' v22' w) : Snd (cx N (fun d => memN d [6, 7, 9])) (cR k_cellplanelaw26_SessionReplies_9) (z_cellplanelaw26_SessionReplies_8 N K1 Q) (mkS 76 [.val 4, .loc 6, .loc 9, .val 10, .val 11, .val 20, .val 21, .val 22] [(.pointer t4'), (.int .i64 e10'), (.int .i64 item11'), (.slice v20'.a v20'.n v20'.c), (.int .i64 v21'), (.int .i64 v22')] [⟨blk6', x6c'.cells, Ty6'⟩, ⟨blk9', r9c'.cells, Ty9'⟩]) w :=
  (Snd.cast (c' := .seq (cL (cR k_cellplanelaw26_SessionReplies_9)) (cR (cR k_cellplanelaw26_SessionReplies_9))) (by kernel_rfl) (Snd.seq (H_cellplanelaw26_SessionReplies_16 N K1 Q) (den_sound okc mixed _ _ _ _ (mpr' (by kernel_rfl) h)) (fun s w h => T_cellplanelaw26_SessionReplies_16 N K1 Q s w h)))

noncomputable def H_cellplanelaw26_SessionReplies_15 (N : Nat) (K1 : ((Option Addr) × Sl × Int) → (Int) → World → Prop) (Q : Value → World → Prop) : St → World → Prop := fun s w => grabK 76 [.val 4, .loc 6, .loc 9, .val 10, .val 11, .val 20, .val 21, .val 22] s fun vs ls => match vs, ls with
  | [.pointer t4', .int .i64 e10', .int .i64 item11', .slice v20'_a v20'_n v20'_c, .int .i64 v21', .int .i64 v22'], [⟨blk6', x6c'_r, Ty6'⟩, ⟨blk9', r9c'_r, Ty9'⟩] => G_api_Change.decL x6c'_r fun x6c' => G_api_Reply.decL r9c'_r fun r9c' => Reb N w s.L fun wa => C_cellplanelaw26_SessionReplies_15 N K1 Q t4' blk6' x6c' Ty6' blk9' r9c' Ty9' e10' item11' ⟨v20'_a, v20'_n, v20'_c⟩ v21' v22' wa
  | _, _ => False

theorem T_cellplanelaw26_SessionReplies_15 (N : Nat) (K1 : ((Option Addr) × Sl × Int) → (Int) → World → Prop) (Q : Value → World → Prop) (s : St) (w : World) (h : H_cellplanelaw26_SessionReplies_15 N K1 Q s w) : Snd (cx N (fun d => memN d [6, 7, 9])) (cR k_cellplanelaw26_SessionReplies_9) (z_cellplanelaw26_SessionReplies_8 N K1 Q) s w := by
  refine Snd.grab h (fun vs ls hd hloc wa hl => ?_)
  split at hd
  · obtain ⟨x6c', rfl, hd0⟩ := G_api_Change.decL_spec hd
    obtain ⟨r9c', rfl, hd1⟩ := G_api_Reply.decL_spec hd0
    exact X_cellplanelaw26_SessionReplies_15 (hd1 wa hl)
  · exact hd.elim

def C_cellplanelaw26_SessionReplies_14 (N : Nat) (K1 : ((Option Addr) × Sl × Int) → (Int) → World → Prop) (Q : Value → World → Prop) (t4' : Option Addr) (blk6' : Nat) (x6c' : G_api_Change) (Ty6' blk9' : Nat) (r9c' : G_api_Reply) (Ty9' : Nat) (e10' : Int) (v20' : Sl) (v21' v22' : Int) (w : World) : Prop :=
  Reb N w [⟨blk6', x6c'.cells, Ty6'⟩, ⟨blk9', r9c'.cells, Ty9'⟩] fun w5 => C_cellplanelaw26_SessionReplies_15 N K1 Q t4' blk6' x6c' Ty6' blk9' r9c' Ty9' e10' x6c'.Item v20' v21' v22' w5

theorem X_cellplanelaw26_SessionReplies_14 {N : Nat} {K1 : ((Option Addr) × Sl × Int) → (Int) → World → Prop} {Q : Value → World → Prop} {t4' : Option Addr} {blk6' : Nat} {x6c' : G_api_Change} {Ty6' blk9' : Nat} {r9c' : G_api_Reply} {Ty9' : Nat} {e10' : Int} {v20' : Sl} {v21' v22' : Int} {w : World} (h : C_cellplanelaw26_SessionReplies_14 N K1 Q t4' blk6' x6c' Ty6' blk9' r9c' Ty9' e10' v20' v21' v22' w) : Snd (cx N (fun d => memN d [6, 7, 9])) k_cellplanelaw26_SessionReplies_9 (z_cellplanelaw26_SessionReplies_8 N K1 Q) (mkS 76 [.val 4, .loc 6, .loc 9, .val 10, .val 20, .val 21, .val 22] [(.pointer t4'), (.int .i64 e10'), (.slice v20'.a v20'.n v20'.c), (.int .i64 v21'), (.int .i64 v22')] [⟨blk6', x6c'.cells, Ty6'⟩, ⟨blk9', r9c'.cells, Ty9'⟩]) w :=
  (Snd.cast (c' := .seq (cL k_cellplanelaw26_SessionReplies_9) (cR k_cellplanelaw26_SessionReplies_9)) (by kernel_rfl) (Snd.seq (H_cellplanelaw26_SessionReplies_15 N K1 Q) (den_sound okc mixed _ _ _ _ (mpr' (by kernel_rfl) h)) (fun s w h => T_cellplanelaw26_SessionReplies_15 N K1 Q s w h)))

noncomputable def H_cellplanelaw26_SessionReplies_14 (N : Nat) (K1 : ((Option Addr) × Sl × Int) → (Int) → World → Prop) (Q : Value → World → Prop) : St → World → Prop := fun s w => grabK 76 [.val 4, .loc 6, .loc 9, .val 10, .val 20, .val 21, .val 22] s fun vs ls => match vs, ls with
  | [.pointer t4', .int .i64 e10', .slice v20'_a v20'_n v20'_c, .int .i64 v21', .int .i64 v22'], [⟨blk6', x6c'_r, Ty6'⟩, ⟨blk9', r9c'_r, Ty9'⟩] => G_api_Change.decL x6c'_r fun x6c' => G_api_Reply.decL r9c'_r fun r9c' => Reb N w s.L fun wa => C_cellplanelaw26_SessionReplies_14 N K1 Q t4' blk6' x6c' Ty6' blk9' r9c' Ty9' e10' ⟨v20'_a, v20'_n, v20'_c⟩ v21' v22' wa
  | _, _ => False

theorem T_cellplanelaw26_SessionReplies_14 (N : Nat) (K1 : ((Option Addr) × Sl × Int) → (Int) → World → Prop) (Q : Value → World → Prop) (s : St) (w : World) (h : H_cellplanelaw26_SessionReplies_14 N K1 Q s w) : Snd (cx N (fun d => memN d [6, 7, 9])) k_cellplanelaw26_SessionReplies_9 (z_cellplanelaw26_SessionReplies_8 N K1 Q) s w := by
  refine Snd.grab h (fun vs ls hd hloc wa hl => ?_)
  split at hd
  · obtain ⟨x6c', rfl, hd0⟩ := G_api_Change.decL_spec hd
    obtain ⟨r9c', rfl, hd1⟩ := G_api_Reply.decL_spec hd0
    exact X_cellplanelaw26_SessionReplies_14 (hd1 wa hl)
  · exact hd.elim

def C_cellplanelaw26_SessionReplies_13 (N : Nat) (K1 : ((Option Addr) × Sl × Int) → (Int) → World → Prop) (Q : Value → World → Prop) (t4' : Option Addr) (blk6' : Nat) (x6c' : G_api_Change) (Ty6' : Nat) (v20' : Sl) (v21' v22' : Int) (w : World) : Prop :=
  CallL PP N w [⟨blk6', x6c'.cells, Ty6'⟩] n_session_Table_Find [(.pointer t4'), (.int .i64 x6c'.Client), (.int .i64 x6c'.Number)] fun r8 w9 => ∃ x6 : G_api_Reply, ∃ n7 : Int, r8 = (.tuple #[(.agg (List.toArray x6.cells)), (.int .i64 n7)]) ∧ ∀ b10 : Nat, w9.heap.size ≤ b10 → Reb N w9 [⟨blk6', x6c'.cells, Ty6'⟩, ⟨b10, x6.cells, t_api_Reply⟩] fun w11 => C_cellplanelaw26_SessionReplies_14 N K1 Q t4' blk6' x6c' Ty6' b10 x6 t_api_Reply n7 v20' v21' v22' w11

theorem X_cellplanelaw26_SessionReplies_13 {N : Nat} {K1 : ((Option Addr) × Sl × Int) → (Int) → World → Prop} {Q : Value → World → Prop} {t4' : Option Addr} {blk6' : Nat} {x6c' : G_api_Change} {Ty6' : Nat} {v20' : Sl} {v21' v22' : Int} {w : World} (h : C_cellplanelaw26_SessionReplies_13 N K1 Q t4' blk6' x6c' Ty6' v20' v21' v22' w) : Snd (cx N (fun d => memN d [6, 7, 9])) (cR k_cellplanelaw26_SessionReplies_7) (z_cellplanelaw26_SessionReplies_8 N K1 Q) (mkS 76 [.val 4, .loc 6, .val 20, .val 21, .val 22] [(.pointer t4'), (.slice v20'.a v20'.n v20'.c), (.int .i64 v21'), (.int .i64 v22')] [⟨blk6', x6c'.cells, Ty6'⟩]) w :=
  (Snd.cast (c' := .seq (cL (cR k_cellplanelaw26_SessionReplies_7)) (cR (cR k_cellplanelaw26_SessionReplies_7))) (by kernel_rfl) (Snd.seq (H_cellplanelaw26_SessionReplies_14 N K1 Q) (den_sound okc mixed _ _ _ _ (mpr' (by kernel_rfl) h)) (fun s w h => T_cellplanelaw26_SessionReplies_14 N K1 Q s w h)))

noncomputable def H_cellplanelaw26_SessionReplies_13 (N : Nat) (K1 : ((Option Addr) × Sl × Int) → (Int) → World → Prop) (Q : Value → World → Prop) : St → World → Prop := fun s w => grabK 76 [.val 4, .loc 6, .val 20, .val 21, .val 22] s fun vs ls => match vs, ls with
  | [.pointer t4', .slice v20'_a v20'_n v20'_c, .int .i64 v21', .int .i64 v22'], [⟨blk6', x6c'_r, Ty6'⟩] => G_api_Change.decL x6c'_r fun x6c' => Reb N w s.L fun wa => C_cellplanelaw26_SessionReplies_13 N K1 Q t4' blk6' x6c' Ty6' ⟨v20'_a, v20'_n, v20'_c⟩ v21' v22' wa
  | _, _ => False

theorem T_cellplanelaw26_SessionReplies_13 (N : Nat) (K1 : ((Option Addr) × Sl × Int) → (Int) → World → Prop) (Q : Value → World → Prop) (s : St) (w : World) (h : H_cellplanelaw26_SessionReplies_13 N K1 Q s w) : Snd (cx N (fun d => memN d [6, 7, 9])) (cR k_cellplanelaw26_SessionReplies_7) (z_cellplanelaw26_SessionReplies_8 N K1 Q) s w := by
  refine Snd.grab h (fun vs ls hd hloc wa hl => ?_)
  split at hd
  · obtain ⟨x6c', rfl, hd0⟩ := G_api_Change.decL_spec hd
    exact X_cellplanelaw26_SessionReplies_13 (hd0 wa hl)
  · exact hd.elim

def C_cellplanelaw26_SessionReplies_12 (N : Nat) (K1 : ((Option Addr) × Sl × Int) → (Int) → World → Prop) (Q : Value → World → Prop) (t4' : Option Addr) (blk6' : Nat) (x6c' : G_api_Change) (Ty6' : Nat) (v20' : Sl) (v21' v22' : Int) (w : World) : Prop :=
  CallL PP N w [⟨blk6', x6c'.cells, Ty6'⟩] n_session_Table_Find [(.pointer t4'), (.int .i64 x6c'.Client), (.int .i64 x6c'.Number)] fun r14 w15 => ∃ x12 : G_api_Reply, ∃ n13 : Int, r14 = (.tuple #[(.agg (List.toArray x12.cells)), (.int .i64 n13)]) ∧ ∀ b16 : Nat, w15.heap.size ≤ b16 → IfB (!decide ((n13 : Int) = 34)) (Reb N w15 [⟨blk6', x6c'.cells, Ty6'⟩, ⟨b16, x12.cells, t_api_Reply⟩] (Q (.bool false))) (CallL PP N w15 [⟨blk6', x6c'.cells, Ty6'⟩, ⟨b16, x12.cells, t_api_Reply⟩] n_session_Table_Apply [(.pointer t4'), (.agg (List.toArray x6c'.cells))] fun r18 w19 => ∃ n17 : Int, r18 = (.int .i64 n17) ∧ IfB (!decide ((n17 : Int) = 0)) (Reb N w19 [⟨blk6', x6c'.cells, Ty6'⟩, ⟨b16, x12.cells, t_api_Reply⟩] (Q (.bool false))) (CallL PP N w19 [⟨blk6', x6c'.cells, Ty6'⟩, ⟨b16, x12.cells, t_api_Reply⟩] n_session_Table_Apply [(.pointer t4'), (.agg (List.toArray x6c'.cells))] fun r21 w22 => ∃ n20 : Int, r21 = (.int .i64 n20) ∧ IfB (!decide ((n20 : Int) = 32)) (Reb N w22 [⟨blk6', x6c'.cells, Ty6'⟩, ⟨b16, x12.cells, t_api_Reply⟩] (Q (.bool false))) (Reb N w22 [⟨blk6', x6c'.cells, Ty6'⟩, ⟨b16, x12.cells, t_api_Reply⟩] fun w23 => C_cellplanelaw26_SessionReplies_13 N K1 Q t4' blk6' x6c' Ty6' v20' v21' v22' w23)))

theorem X_cellplanelaw26_SessionReplies_12 {N : Nat} {K1 : ((Option Addr) × Sl × Int) → (Int) → World → Prop} {Q : Value → World → Prop} {t4' : Option Addr} {blk6' : Nat} {x6c' : G_api_Change} {Ty6' : Nat} {v20' : Sl} {v21' v22' : Int} {w : World} (h : C_cellplanelaw26_SessionReplies_12 N K1 Q t4' blk6' x6c' Ty6' v20' v21' v22' w) : Snd (cx N (fun d => memN d [6, 7, 9])) k_cellplanelaw26_SessionReplies_7 (z_cellplanelaw26_SessionReplies_8 N K1 Q) (mkS 76 [.val 4, .loc 6, .val 20, .val 21, .val 22] [(.pointer t4'), (.slice v20'.a v20'.n v20'.c), (.int .i64 v21'), (.int .i64 v22')] [⟨blk6', x6c'.cells, Ty6'⟩]) w :=
  (Snd.cast (c' := .seq (cL k_cellplanelaw26_SessionReplies_7) (cR k_cellplanelaw26_SessionReplies_7)) (by kernel_rfl) (Snd.seq (H_cellplanelaw26_SessionReplies_13 N K1 Q) (den_sound okc mixed _ _ _ _ (mpr' (by kernel_rfl) h)) (fun s w h => T_cellplanelaw26_SessionReplies_13 N K1 Q s w h)))

noncomputable def H_cellplanelaw26_SessionReplies_12 (N : Nat) (K1 : ((Option Addr) × Sl × Int) → (Int) → World → Prop) (Q : Value → World → Prop) : St → World → Prop := fun s w => grabK 76 [.val 4, .loc 6, .val 20, .val 21, .val 22] s fun vs ls => match vs, ls with
  | [.pointer t4', .slice v20'_a v20'_n v20'_c, .int .i64 v21', .int .i64 v22'], [⟨blk6', x6c'_r, Ty6'⟩] => G_api_Change.decL x6c'_r fun x6c' => Reb N w s.L fun wa => C_cellplanelaw26_SessionReplies_12 N K1 Q t4' blk6' x6c' Ty6' ⟨v20'_a, v20'_n, v20'_c⟩ v21' v22' wa
  | _, _ => False

theorem T_cellplanelaw26_SessionReplies_12 (N : Nat) (K1 : ((Option Addr) × Sl × Int) → (Int) → World → Prop) (Q : Value → World → Prop) (s : St) (w : World) (h : H_cellplanelaw26_SessionReplies_12 N K1 Q s w) : Snd (cx N (fun d => memN d [6, 7, 9])) k_cellplanelaw26_SessionReplies_7 (z_cellplanelaw26_SessionReplies_8 N K1 Q) s w := by
  refine Snd.grab h (fun vs ls hd hloc wa hl => ?_)
  split at hd
  · obtain ⟨x6c', rfl, hd0⟩ := G_api_Change.decL_spec hd
    exact X_cellplanelaw26_SessionReplies_12 (hd0 wa hl)
  · exact hd.elim

def C_cellplanelaw26_SessionReplies_10 (N : Nat) (K1 : ((Option Addr) × Sl × Int) → (Int) → World → Prop) (Q : Value → World → Prop) (t4' : Option Addr) (v20' : Sl) (v21' v22' : Int) (w : World) : Prop :=
  IdxL v20'.a v20'.n v22' fun q24 => ∃ x25 : G_api_Change, At w (q24.add ((v22' : Int).toNat * 8)) x25.cells ∧ NotIn ((q24.add ((v22' : Int).toNat * 8)) : Addr).block [] ∧ ∀ b26 : Nat, w.heap.size ≤ b26 → Reb N w [⟨b26, x25.cells, t_api_Change⟩] fun w27 => C_cellplanelaw26_SessionReplies_12 N K1 Q t4' b26 x25 t_api_Change v20' v21' v22' w27

theorem X_cellplanelaw26_SessionReplies_10 {N : Nat} {K1 : ((Option Addr) × Sl × Int) → (Int) → World → Prop} {Q : Value → World → Prop} {t4' : Option Addr} {v20' : Sl} {v21' v22' : Int} {w : World} (h : C_cellplanelaw26_SessionReplies_10 N K1 Q t4' v20' v21' v22' w) : Snd (cx N (fun d => memN d [6, 7, 9])) (cR k_cellplanelaw26_SessionReplies_4) (z_cellplanelaw26_SessionReplies_5 N K1 Q) (mkS 76 [.val 4, .val 20, .val 21, .val 22] [(.pointer t4'), (.slice v20'.a v20'.n v20'.c), (.int .i64 v21'), (.int .i64 v22')] []) w :=
  (Snd.cast (c' := .seq (cL (cR k_cellplanelaw26_SessionReplies_4)) (cR (cR k_cellplanelaw26_SessionReplies_4))) (by kernel_rfl) (Snd.seq (H_cellplanelaw26_SessionReplies_11 N K1 Q) (Snd.cast (c' := .block 1 (cL (cL (cR k_cellplanelaw26_SessionReplies_4)))) (by kernel_rfl) (Snd.block (Snd.cast (c' := .seq (cL (cL (cL (cR k_cellplanelaw26_SessionReplies_4)))) (cR (cL (cL (cR k_cellplanelaw26_SessionReplies_4))))) (by kernel_rfl) (Snd.seq (H_cellplanelaw26_SessionReplies_12 N K1 Q) (den_sound okc mixed _ _ _ _ (mpr' (by kernel_rfl) h)) (fun s w h => T_cellplanelaw26_SessionReplies_12 N K1 Q s w h))))) (fun s w h => T_cellplanelaw26_SessionReplies_11 N K1 Q s w h)))

noncomputable def H_cellplanelaw26_SessionReplies_10 (N : Nat) (K1 : ((Option Addr) × Sl × Int) → (Int) → World → Prop) (Q : Value → World → Prop) : St → World → Prop := fun s w => grabK 76 [.val 4, .val 20, .val 21, .val 22] s fun vs ls => match vs, ls with
  | [.pointer t4', .slice v20'_a v20'_n v20'_c, .int .i64 v21', .int .i64 v22'], [] => Reb N w s.L fun wa => C_cellplanelaw26_SessionReplies_10 N K1 Q t4' ⟨v20'_a, v20'_n, v20'_c⟩ v21' v22' wa
  | _, _ => False

theorem T_cellplanelaw26_SessionReplies_10 (N : Nat) (K1 : ((Option Addr) × Sl × Int) → (Int) → World → Prop) (Q : Value → World → Prop) (s : St) (w : World) (h : H_cellplanelaw26_SessionReplies_10 N K1 Q s w) : Snd (cx N (fun d => memN d [6, 7, 9])) (cR k_cellplanelaw26_SessionReplies_4) (z_cellplanelaw26_SessionReplies_5 N K1 Q) s w := by
  refine Snd.grab h (fun vs ls hd hloc wa hl => ?_)
  split at hd
  · exact X_cellplanelaw26_SessionReplies_10 (hd wa hl)
  · exact hd.elim

def C_cellplanelaw26_SessionReplies_9 (N : Nat) (K1 : ((Option Addr) × Sl × Int) → (Int) → World → Prop) (Q : Value → World → Prop) (t4' : Option Addr) (v20' : Sl) (v21' v22' : Int) (v23' : Bool) (w : World) : Prop :=
  IfB v23' (Reb N w [] fun w28 => C_cellplanelaw26_SessionReplies_10 N K1 Q t4' v20' v21' v22' w28) (Reb N w [] fun w29 => C_cellplanelaw26_SessionReplies_6 N Q w29)

theorem X_cellplanelaw26_SessionReplies_9 {N : Nat} {K1 : ((Option Addr) × Sl × Int) → (Int) → World → Prop} {Q : Value → World → Prop} {t4' : Option Addr} {v20' : Sl} {v21' v22' : Int} {v23' : Bool} {w : World} (h : C_cellplanelaw26_SessionReplies_9 N K1 Q t4' v20' v21' v22' v23' w) : Snd (cx N (fun d => memN d [6, 7, 9])) k_cellplanelaw26_SessionReplies_4 (z_cellplanelaw26_SessionReplies_5 N K1 Q) (mkS 76 [.val 4, .val 20, .val 21, .val 22, .val 23] [(.pointer t4'), (.slice v20'.a v20'.n v20'.c), (.int .i64 v21'), (.int .i64 v22'), (.bool v23')] []) w :=
  (Snd.cast (c' := .seq (cL k_cellplanelaw26_SessionReplies_4) (cR k_cellplanelaw26_SessionReplies_4)) (by kernel_rfl) (Snd.seq (H_cellplanelaw26_SessionReplies_10 N K1 Q) (den_sound okc mixed _ _ _ _ (mpr' (by kernel_rfl) h)) (fun s w h => T_cellplanelaw26_SessionReplies_10 N K1 Q s w h)))

noncomputable def H_cellplanelaw26_SessionReplies_9 (N : Nat) (K1 : ((Option Addr) × Sl × Int) → (Int) → World → Prop) (Q : Value → World → Prop) : St → World → Prop := fun s w => grabK 76 [.val 4, .val 20, .val 21, .val 22, .val 23] s fun vs ls => match vs, ls with
  | [.pointer t4', .slice v20'_a v20'_n v20'_c, .int .i64 v21', .int .i64 v22', .bool v23'], [] => Reb N w s.L fun wa => C_cellplanelaw26_SessionReplies_9 N K1 Q t4' ⟨v20'_a, v20'_n, v20'_c⟩ v21' v22' v23' wa
  | _, _ => False

theorem T_cellplanelaw26_SessionReplies_9 (N : Nat) (K1 : ((Option Addr) × Sl × Int) → (Int) → World → Prop) (Q : Value → World → Prop) (s : St) (w : World) (h : H_cellplanelaw26_SessionReplies_9 N K1 Q s w) : Snd (cx N (fun d => memN d [6, 7, 9])) k_cellplanelaw26_SessionReplies_4 (z_cellplanelaw26_SessionReplies_5 N K1 Q) s w := by
  refine Snd.grab h (fun vs ls hd hloc wa hl => ?_)
  split at hd
  · exact X_cellplanelaw26_SessionReplies_9 (hd wa hl)
  · exact hd.elim

def B_cellplanelaw26_SessionReplies_8 (N : Nat) (K1 : ((Option Addr) × Sl × Int) → (Int) → World → Prop) (Q : Value → World → Prop) (t4' : Option Addr) (v20' : Sl) (v21' v22' : Int) (w : World) : Prop :=
  Reb N w [] fun w30 => C_cellplanelaw26_SessionReplies_9 N K1 Q t4' v20' v21' v22' (decide ((v22' : Int) < v21')) w30

theorem X_cellplanelaw26_SessionReplies_8 {N : Nat} {K1 : ((Option Addr) × Sl × Int) → (Int) → World → Prop} {Q : Value → World → Prop} {t4' : Option Addr} {v20' : Sl} {v21' v22' : Int} {w : World} (h : B_cellplanelaw26_SessionReplies_8 N K1 Q t4' v20' v21' v22' w) : Snd (cx N (fun d => memN d [6, 7, 9])) (cL (cL k_cellplanelaw26_SessionReplies_2)) (thenD (HeadK N 76 [.val 4, .val 20, .val 21, .val 22] D_cellplanelaw26_SessionReplies_8 K1) (inBlockD 0 (z_cellplanelaw26_SessionReplies_3 N Q))) (mkS 76 [.val 4, .val 20, .val 21, .val 22] [(.pointer t4'), (.slice v20'.a v20'.n v20'.c), (.int .i64 v21'), (.int .i64 v22')] []) w :=
  (Snd.cast (c' := .seq (cL (cL (cL k_cellplanelaw26_SessionReplies_2))) (cR (cL (cL k_cellplanelaw26_SessionReplies_2)))) (by kernel_rfl) (Snd.seq (H_cellplanelaw26_SessionReplies_9 N K1 Q) (den_sound okc mixed _ _ _ _ (mpr' (by kernel_rfl) h)) (fun s w h => T_cellplanelaw26_SessionReplies_9 N K1 Q s w h)))

def L_cellplanelaw26_SessionReplies_8 (N : Nat) (Q : Value → World → Prop) (K1 : ((Option Addr) × Sl × Int) → (Int) → World → Prop) (c : (Option Addr) × Sl × Int) (x : Int) (w : World) : Prop := match c, x with
  | (t4', v20', v21'), v22' => B_cellplanelaw26_SessionReplies_8 N K1 Q t4' v20' v21' v22' w

theorem T_cellplanelaw26_SessionReplies_8 (N : Nat) (Q : Value → World → Prop) {s : St} {w : World} (h : HeadE N 76 [.val 4, .val 20, .val 21, .val 22] D_cellplanelaw26_SessionReplies_8 (L_cellplanelaw26_SessionReplies_8 N Q) s w) : Snd (cx N (fun d => memN d [6, 7, 9])) (cL k_cellplanelaw26_SessionReplies_2) (inBlockD 0 (z_cellplanelaw26_SessionReplies_3 N Q)) s w := by
  refine Snd.cast (c' := .loop (cL (cL k_cellplanelaw26_SessionReplies_2))) (by kernel_rfl) (Snd.loopC (fun (c : (Option Addr) × Sl × Int) (x : Int) => match c, x with | (t4', v20', v21'), v22' => ([(.pointer t4'), (.slice v20'.a v20'.n v20'.c), (.int .i64 v21'), (.int .i64 v22')], [])) ?_ ?_ h)
  · intro K vs ls h
    unfold D_cellplanelaw26_SessionReplies_8 at h
    split at h
    · exact ⟨_, _, rfl, h⟩
    · exact h.elim
  · rintro K ⟨t4', v20', v21'⟩ v22' w h
    exact X_cellplanelaw26_SessionReplies_8 h

def C_cellplanelaw26_SessionReplies_7 (N : Nat) (Q : Value → World → Prop) (t4' : Option Addr) (v20' : Sl) (v21' v22' : Int) (w : World) : Prop :=
  LoopC N w [] ((t4', v20', v21') : (Option Addr) × Sl × Int) (v22' : Int) (L_cellplanelaw26_SessionReplies_8 N Q)

theorem X_cellplanelaw26_SessionReplies_7 {N : Nat} {Q : Value → World → Prop} {t4' : Option Addr} {v20' : Sl} {v21' v22' : Int} {w : World} (h : C_cellplanelaw26_SessionReplies_7 N Q t4' v20' v21' v22' w) : Snd (cx N (fun d => memN d [6, 7, 9])) k_cellplanelaw26_SessionReplies_2 (z_cellplanelaw26_SessionReplies_3 N Q) (mkS 76 [.val 4, .val 20, .val 21, .val 22] [(.pointer t4'), (.slice v20'.a v20'.n v20'.c), (.int .i64 v21'), (.int .i64 v22')] []) w :=
  (Snd.cast (c' := .block 0 (cL k_cellplanelaw26_SessionReplies_2)) (by kernel_rfl) (Snd.block (T_cellplanelaw26_SessionReplies_8 N Q (mpr' (by kernel_rfl) h))))

noncomputable def H_cellplanelaw26_SessionReplies_7 (N : Nat) (Q : Value → World → Prop) : St → World → Prop := fun s w => grabK 76 [.val 4, .val 20, .val 21, .val 22] s fun vs ls => match vs, ls with
  | [.pointer t4', .slice v20'_a v20'_n v20'_c, .int .i64 v21', .int .i64 v22'], [] => Reb N w s.L fun wa => C_cellplanelaw26_SessionReplies_7 N Q t4' ⟨v20'_a, v20'_n, v20'_c⟩ v21' v22' wa
  | _, _ => False

theorem T_cellplanelaw26_SessionReplies_7 (N : Nat) (Q : Value → World → Prop) (s : St) (w : World) (h : H_cellplanelaw26_SessionReplies_7 N Q s w) : Snd (cx N (fun d => memN d [6, 7, 9])) k_cellplanelaw26_SessionReplies_2 (z_cellplanelaw26_SessionReplies_3 N Q) s w := by
  refine Snd.grab h (fun vs ls hd hloc wa hl => ?_)
  split at hd
  · exact X_cellplanelaw26_SessionReplies_7 (hd wa hl)
  · exact hd.elim

def C_cellplanelaw26_SessionReplies_5 (N : Nat) (Q : Value → World → Prop) (h3' : Sl) (t4' : Option Addr) (w : World) : Prop :=
  Reb N w [] fun w31 => C_cellplanelaw26_SessionReplies_7 N Q t4' h3' ((h3'.n : Nat) : Int) 0 w31

theorem X_cellplanelaw26_SessionReplies_5 {N : Nat} {Q : Value → World → Prop} {h3' : Sl} {t4' : Option Addr} {w : World} (h : C_cellplanelaw26_SessionReplies_5 N Q h3' t4' w) : Snd (cx N (fun d => memN d [6, 7, 9])) (cR k_cellplanelaw26_SessionReplies_0) (retD (cx N (fun d => memN d [6, 7, 9])) Go.Proofs.Try.f3 Q) (mkS 76 [.val 3, .val 4] [(.slice h3'.a h3'.n h3'.c), (.pointer t4')] []) w :=
  (Snd.cast (c' := .seq (cL (cR k_cellplanelaw26_SessionReplies_0)) (cR (cR k_cellplanelaw26_SessionReplies_0))) (by kernel_rfl) (Snd.seq (H_cellplanelaw26_SessionReplies_6 N Q) (Snd.cast (c' := .seq (cL (cL (cR k_cellplanelaw26_SessionReplies_0))) (cR (cL (cR k_cellplanelaw26_SessionReplies_0)))) (by kernel_rfl) (Snd.seq (H_cellplanelaw26_SessionReplies_7 N Q) (den_sound okc mixed _ _ _ _ (mpr' (by kernel_rfl) h)) (fun s w h => T_cellplanelaw26_SessionReplies_7 N Q s w h))) (fun s w h => T_cellplanelaw26_SessionReplies_6 N Q s w h)))

noncomputable def H_cellplanelaw26_SessionReplies_5 (N : Nat) (Q : Value → World → Prop) : St → World → Prop := fun s w => grabK 76 [.val 3, .val 4] s fun vs ls => match vs, ls with
  | [.slice h3'_a h3'_n h3'_c, .pointer t4'], [] => Reb N w s.L fun wa => C_cellplanelaw26_SessionReplies_5 N Q ⟨h3'_a, h3'_n, h3'_c⟩ t4' wa
  | _, _ => False

theorem T_cellplanelaw26_SessionReplies_5 (N : Nat) (Q : Value → World → Prop) (s : St) (w : World) (h : H_cellplanelaw26_SessionReplies_5 N Q s w) : Snd (cx N (fun d => memN d [6, 7, 9])) (cR k_cellplanelaw26_SessionReplies_0) (retD (cx N (fun d => memN d [6, 7, 9])) Go.Proofs.Try.f3 Q) s w := by
  refine Snd.grab h (fun vs ls hd hloc wa hl => ?_)
  split at hd
  · exact X_cellplanelaw26_SessionReplies_5 (hd wa hl)
  · exact hd.elim

def C_cellplanelaw26_SessionReplies_4 (N : Nat) (Q : Value → World → Prop) (h3' : Sl) (w : World) : Prop :=
  CallL PP N w [] n_session_New [] fun r33 w34 => ∃ p32 : Option Addr, r33 = (.pointer p32) ∧ Reb N w34 [] fun w35 => C_cellplanelaw26_SessionReplies_5 N Q h3' p32 w35

theorem X_cellplanelaw26_SessionReplies_4 {N : Nat} {Q : Value → World → Prop} {h3' : Sl} {w : World} (h : C_cellplanelaw26_SessionReplies_4 N Q h3' w) : Snd (cx N (fun d => memN d [6, 7, 9])) k_cellplanelaw26_SessionReplies_0 (retD (cx N (fun d => memN d [6, 7, 9])) Go.Proofs.Try.f3 Q) (mkS 76 [.val 3] [(.slice h3'.a h3'.n h3'.c)] []) w :=
  (Snd.cast (c' := .seq (cL k_cellplanelaw26_SessionReplies_0) (cR k_cellplanelaw26_SessionReplies_0)) (by kernel_rfl) (Snd.seq (H_cellplanelaw26_SessionReplies_5 N Q) (den_sound okc mixed _ _ _ _ (mpr' (by kernel_rfl) h)) (fun s w h => T_cellplanelaw26_SessionReplies_5 N Q s w h)))

noncomputable def H_cellplanelaw26_SessionReplies_4 (N : Nat) (Q : Value → World → Prop) : St → World → Prop := fun s w => grabK 76 [.val 3] s fun vs ls => match vs, ls with
  | [.slice h3'_a h3'_n h3'_c], [] => Reb N w s.L fun wa => C_cellplanelaw26_SessionReplies_4 N Q ⟨h3'_a, h3'_n, h3'_c⟩ wa
  | _, _ => False

theorem T_cellplanelaw26_SessionReplies_4 (N : Nat) (Q : Value → World → Prop) (s : St) (w : World) (h : H_cellplanelaw26_SessionReplies_4 N Q s w) : Snd (cx N (fun d => memN d [6, 7, 9])) k_cellplanelaw26_SessionReplies_0 (retD (cx N (fun d => memN d [6, 7, 9])) Go.Proofs.Try.f3 Q) s w := by
  refine Snd.grab h (fun vs ls hd hloc wa hl => ?_)
  split at hd
  · exact X_cellplanelaw26_SessionReplies_4 (hd wa hl)
  · exact hd.elim

def C_cellplanelaw26_SessionReplies_3 (N : Nat) (Q : Value → World → Prop) (l0' : Sl) (w : World) : Prop :=
  CallL PP N w [] n_cellplanemill_History [(.slice l0'.a l0'.n l0'.c)] fun r37 w38 => ∃ l36 : Sl, r37 = (.slice l36.a l36.n l36.c) ∧ Reb N w38 [] fun w39 => C_cellplanelaw26_SessionReplies_4 N Q l36 w39

theorem X_cellplanelaw26_SessionReplies_3 {N : Nat} {Q : Value → World → Prop} {l0' : Sl} {w : World} (h : C_cellplanelaw26_SessionReplies_3 N Q l0' w) : Snd (cx N (fun d => memN d [6, 7, 9])) (cR (cR (cR (bodyOf Go.Proofs.Try.f3)))) (retD (cx N (fun d => memN d [6, 7, 9])) Go.Proofs.Try.f3 Q) (mkS 76 [.val 0] [(.slice l0'.a l0'.n l0'.c)] []) w :=
  (Snd.cast (c' := .seq (cL (cR (cR (cR (bodyOf Go.Proofs.Try.f3))))) (cR (cR (cR (cR (bodyOf Go.Proofs.Try.f3)))))) (by kernel_rfl) (Snd.seq (H_cellplanelaw26_SessionReplies_4 N Q) (den_sound okc mixed _ _ _ _ (mpr' (by kernel_rfl) h)) (fun s w h => T_cellplanelaw26_SessionReplies_4 N Q s w h)))

noncomputable def H_cellplanelaw26_SessionReplies_3 (N : Nat) (Q : Value → World → Prop) : St → World → Prop := fun s w => grabK 76 [.val 0] s fun vs ls => match vs, ls with
  | [.slice l0'_a l0'_n l0'_c], [] => Reb N w s.L fun wa => C_cellplanelaw26_SessionReplies_3 N Q ⟨l0'_a, l0'_n, l0'_c⟩ wa
  | _, _ => False

theorem T_cellplanelaw26_SessionReplies_3 (N : Nat) (Q : Value → World → Prop) (s : St) (w : World) (h : H_cellplanelaw26_SessionReplies_3 N Q s w) : Snd (cx N (fun d => memN d [6, 7, 9])) (cR (cR (cR (bodyOf Go.Proofs.Try.f3)))) (retD (cx N (fun d => memN d [6, 7, 9])) Go.Proofs.Try.f3 Q) s w := by
  refine Snd.grab h (fun vs ls hd hloc wa hl => ?_)
  split at hd
  · exact X_cellplanelaw26_SessionReplies_3 (hd wa hl)
  · exact hd.elim

def C_cellplanelaw26_SessionReplies_2 (N : Nat) (Q : Value → World → Prop) (l0' : Sl) (w : World) : Prop :=
  CallL PP N w [] n_cellplanemill_Light [(.slice l0'.a l0'.n l0'.c)] fun r41 w42 => ∃ b40 : Bool, r41 = (.bool b40) ∧ IfB (!b40) (Reb N w42 [] (Q (.bool true))) (Reb N w42 [] fun w43 => C_cellplanelaw26_SessionReplies_3 N Q l0' w43)

theorem X_cellplanelaw26_SessionReplies_2 {N : Nat} {Q : Value → World → Prop} {l0' : Sl} {w : World} (h : C_cellplanelaw26_SessionReplies_2 N Q l0' w) : Snd (cx N (fun d => memN d [6, 7, 9])) (cR (cR (bodyOf Go.Proofs.Try.f3))) (retD (cx N (fun d => memN d [6, 7, 9])) Go.Proofs.Try.f3 Q) (mkS 76 [.val 0] [(.slice l0'.a l0'.n l0'.c)] []) w :=
  (Snd.cast (c' := .seq (cL (cR (cR (bodyOf Go.Proofs.Try.f3)))) (cR (cR (cR (bodyOf Go.Proofs.Try.f3))))) (by kernel_rfl) (Snd.seq (H_cellplanelaw26_SessionReplies_3 N Q) (den_sound okc mixed _ _ _ _ (mpr' (by kernel_rfl) h)) (fun s w h => T_cellplanelaw26_SessionReplies_3 N Q s w h)))

noncomputable def H_cellplanelaw26_SessionReplies_2 (N : Nat) (Q : Value → World → Prop) : St → World → Prop := fun s w => grabK 76 [.val 0] s fun vs ls => match vs, ls with
  | [.slice l0'_a l0'_n l0'_c], [] => Reb N w s.L fun wa => C_cellplanelaw26_SessionReplies_2 N Q ⟨l0'_a, l0'_n, l0'_c⟩ wa
  | _, _ => False

theorem T_cellplanelaw26_SessionReplies_2 (N : Nat) (Q : Value → World → Prop) (s : St) (w : World) (h : H_cellplanelaw26_SessionReplies_2 N Q s w) : Snd (cx N (fun d => memN d [6, 7, 9])) (cR (cR (bodyOf Go.Proofs.Try.f3))) (retD (cx N (fun d => memN d [6, 7, 9])) Go.Proofs.Try.f3 Q) s w := by
  refine Snd.grab h (fun vs ls hd hloc wa hl => ?_)
  split at hd
  · exact X_cellplanelaw26_SessionReplies_2 (hd wa hl)
  · exact hd.elim

def C_cellplanelaw26_SessionReplies_1 (N : Nat) (Q : Value → World → Prop) (l0' : Sl) (w : World) : Prop :=
  CallL PP N w [] n_cellplanelaw26_awake [] fun r45 w46 => ∃ b44 : Bool, r45 = (.bool b44) ∧ IfB (!b44) (Reb N w46 [] (Q (.bool false))) (Reb N w46 [] fun w47 => C_cellplanelaw26_SessionReplies_2 N Q l0' w47)

theorem X_cellplanelaw26_SessionReplies_1 {N : Nat} {Q : Value → World → Prop} {l0' : Sl} {w : World} (h : C_cellplanelaw26_SessionReplies_1 N Q l0' w) : Snd (cx N (fun d => memN d [6, 7, 9])) (cR (bodyOf Go.Proofs.Try.f3)) (retD (cx N (fun d => memN d [6, 7, 9])) Go.Proofs.Try.f3 Q) (mkS 76 [.val 0] [(.slice l0'.a l0'.n l0'.c)] []) w :=
  (Snd.cast (c' := .seq (cL (cR (bodyOf Go.Proofs.Try.f3))) (cR (cR (bodyOf Go.Proofs.Try.f3)))) (by kernel_rfl) (Snd.seq (H_cellplanelaw26_SessionReplies_2 N Q) (den_sound okc mixed _ _ _ _ (mpr' (by kernel_rfl) h)) (fun s w h => T_cellplanelaw26_SessionReplies_2 N Q s w h)))

noncomputable def H_cellplanelaw26_SessionReplies_1 (N : Nat) (Q : Value → World → Prop) : St → World → Prop := fun s w => grabK 76 [.val 0] s fun vs ls => match vs, ls with
  | [.slice l0'_a l0'_n l0'_c], [] => Reb N w s.L fun wa => C_cellplanelaw26_SessionReplies_1 N Q ⟨l0'_a, l0'_n, l0'_c⟩ wa
  | _, _ => False

theorem T_cellplanelaw26_SessionReplies_1 (N : Nat) (Q : Value → World → Prop) (s : St) (w : World) (h : H_cellplanelaw26_SessionReplies_1 N Q s w) : Snd (cx N (fun d => memN d [6, 7, 9])) (cR (bodyOf Go.Proofs.Try.f3)) (retD (cx N (fun d => memN d [6, 7, 9])) Go.Proofs.Try.f3 Q) s w := by
  refine Snd.grab h (fun vs ls hd hloc wa hl => ?_)
  split at hd
  · exact X_cellplanelaw26_SessionReplies_1 (hd wa hl)
  · exact hd.elim

def F_cellplanelaw26_SessionReplies (N : Nat) (l0 : Sl) (Q : Value → World → Prop) (w : World) : Prop :=
  Reb N w [] fun w48 => C_cellplanelaw26_SessionReplies_1 N Q l0 w48

theorem cellplanelaw26_SessionReplies_snd (N : Nat) (l0 : Sl) (Q : Value → World → Prop) (w : World) (h : F_cellplanelaw26_SessionReplies N l0 Q w) : Snd (cx N (fun d => memN d [6, 7, 9])) (bodyOf Go.Proofs.Try.f3) (retD (cx N (fun d => memN d [6, 7, 9])) Go.Proofs.Try.f3 Q) (entry 76 [(.slice l0.a l0.n l0.c)]) w :=
  (Snd.cast (c' := .seq (cL (bodyOf Go.Proofs.Try.f3)) (cR (bodyOf Go.Proofs.Try.f3))) (by kernel_rfl) (Snd.seq (H_cellplanelaw26_SessionReplies_1 N Q) (den_sound okc mixed _ _ _ _ (mpr' (by kernel_rfl) h)) (fun s w h => T_cellplanelaw26_SessionReplies_1 N Q s w h)))

theorem cellplanelaw26_SessionReplies_calls (l0 : Sl) (Q : Value → World → Prop) (w : World) (h : F_cellplanelaw26_SessionReplies w.heap.size l0 Q w) : Calls PP n_cellplanelaw26_SessionReplies [(.slice l0.a l0.n l0.c)].toArray w fun e w' => ∃ v, e = .returned v ∧ Q v w' :=
  calls_of (C := cx w.heap.size (fun d => memN d [6, 7, 9])) (fn := Go.Proofs.Try.f3) (c := (bodyOf Go.Proofs.Try.f3)) (by kernel_rfl) (by kernel_rfl) (Nat.le_refl _) (cellplanelaw26_SessionReplies_snd _ l0 Q w h)
end Go.Sh
