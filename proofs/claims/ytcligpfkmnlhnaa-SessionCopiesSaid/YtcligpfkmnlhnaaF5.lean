/- What these functions do, told by computation: a formula for each, and that its calls do what the formula says.
   Conditions: none. -/
import Derived.Test.YtcligpfkmnlhnaaBase
namespace Go.Sh
open Go
set_option linter.unusedVariables false
set_option maxRecDepth 100000

/-! ### cellplanelaw26_same -/
noncomputable def k_cellplanelaw26_same_0 : Code := (cR (cR (cR (bodyOf Go.Proofs.Try.f22))))

def C_cellplanelaw26_same_5 (N : Nat) (Q : Value → World → Prop) (w : World) : Prop :=
  Reb N w [] (Q (.bool true))

theorem X_cellplanelaw26_same_5 {N : Nat} {Q : Value → World → Prop} {w : World} (h : C_cellplanelaw26_same_5 N Q w) : Snd (cx N (fun d => memN d [9, 11])) (cR (cR k_cellplanelaw26_same_0)) (retD (cx N (fun d => memN d [9, 11])) Go.Proofs.Try.f22 Q) (mkS 92 [] [] []) w :=
  (den_sound okc mixed _ _ _ _ (mpr' (by kernel_rfl) h))

noncomputable def H_cellplanelaw26_same_5 (N : Nat) (Q : Value → World → Prop) : St → World → Prop := fun s w => grabK 92 [] s fun vs ls => match vs, ls with
  | [], [] => Reb N w s.L fun wa => C_cellplanelaw26_same_5 N Q wa
  | _, _ => False

theorem T_cellplanelaw26_same_5 (N : Nat) (Q : Value → World → Prop) (s : St) (w : World) (h : H_cellplanelaw26_same_5 N Q s w) : Snd (cx N (fun d => memN d [9, 11])) (cR (cR k_cellplanelaw26_same_0)) (retD (cx N (fun d => memN d [9, 11])) Go.Proofs.Try.f22 Q) s w := by
  refine Snd.grab h (fun vs ls hd hloc wa hl => ?_)
  split at hd
  · exact X_cellplanelaw26_same_5 (hd wa hl)
  · exact hd.elim

noncomputable def z_cellplanelaw26_same_1 (N : Nat) (Q : Value → World → Prop) : Cont := (thenD (H_cellplanelaw26_same_5 N Q) (retD (cx N (fun d => memN d [9, 11])) Go.Proofs.Try.f22 Q))

def D_cellplanelaw26_same_7 (K : ((Option Addr) × (Option Addr) × Nat × G_api_Reply × Nat × Nat × G_api_Reply × Nat) → (Int) → Prop) : List Value → List LB → Prop := fun vs ls => match vs, ls with
  | [.pointer t0', .pointer w1', .int .i64 c13'], [⟨blk9', a9c'_r, Ty9'⟩, ⟨blk11', b11c'_r, Ty11'⟩] => G_api_Reply.decL a9c'_r fun a9c' => G_api_Reply.decL b11c'_r fun b11c' => K (t0', w1', blk9', a9c', Ty9', blk11', b11c', Ty11') c13'
  | _, _ => False

noncomputable def k_cellplanelaw26_same_2 : Code := (cL (cR (cL (cR k_cellplanelaw26_same_0))))

noncomputable def z_cellplanelaw26_same_3 (N : Nat) (K1 : ((Option Addr) × (Option Addr) × Nat × G_api_Reply × Nat × Nat × G_api_Reply × Nat) → (Int) → World → Prop) (Q : Value → World → Prop) : Cont := (thenD (HeadK N 92 [.val 0, .val 1, .loc 9, .loc 11, .val 13] D_cellplanelaw26_same_7 K1) (inBlockD 0 (z_cellplanelaw26_same_1 N Q)))

def C_cellplanelaw26_same_9 (N : Nat) (K1 : ((Option Addr) × (Option Addr) × Nat × G_api_Reply × Nat × Nat × G_api_Reply × Nat) → (Int) → World → Prop) (Q : Value → World → Prop) (t0' w1' : Option Addr) (blk9' : Nat) (a9c' : G_api_Reply) (Ty9' blk11' : Nat) (b11c' : G_api_Reply) (Ty11' : Nat) (c13' : Int) (w : World) : Prop :=
  Reb N w [⟨blk9', a9c'.cells, Ty9'⟩, ⟨blk11', b11c'.cells, Ty11'⟩] fun w1 => K1 (t0', w1', blk9', a9c', Ty9', blk11', b11c', Ty11') (IntKind.i64.wrap (c13' + 1)) w1

theorem X_cellplanelaw26_same_9 {N : Nat} {K1 : ((Option Addr) × (Option Addr) × Nat × G_api_Reply × Nat × Nat × G_api_Reply × Nat) → (Int) → World → Prop} {Q : Value → World → Prop} {t0' w1' : Option Addr} {blk9' : Nat} {a9c' : G_api_Reply} {Ty9' blk11' : Nat} {b11c' : G_api_Reply} {Ty11' : Nat} {c13' : Int} {w : World} (h : C_cellplanelaw26_same_9 N K1 Q t0' w1' blk9' a9c' Ty9' blk11' b11c' Ty11' c13' w) : Snd (cx N (fun d => memN d [9, 11])) (cR (cR (cL k_cellplanelaw26_same_2))) (z_cellplanelaw26_same_3 N K1 Q) (mkS 92 [.val 0, .val 1, .loc 9, .loc 11, .val 13] [(.pointer t0'), (.pointer w1'), (.int .i64 c13')] [⟨blk9', a9c'.cells, Ty9'⟩, ⟨blk11', b11c'.cells, Ty11'⟩]) w :=
  (den_sound okc mixed _ _ _ _ (mpr' (by kernel_rfl) h))

noncomputable def H_cellplanelaw26_same_9 (N : Nat) (K1 : ((Option Addr) × (Option Addr) × Nat × G_api_Reply × Nat × Nat × G_api_Reply × Nat) → (Int) → World → Prop) (Q : Value → World → Prop) : St → World → Prop := fun s w => grabK 92 [.val 0, .val 1, .loc 9, .loc 11, .val 13] s fun vs ls => match vs, ls with
  | [.pointer t0', .pointer w1', .int .i64 c13'], [⟨blk9', a9c'_r, Ty9'⟩, ⟨blk11', b11c'_r, Ty11'⟩] => G_api_Reply.decL a9c'_r fun a9c' => G_api_Reply.decL b11c'_r fun b11c' => Reb N w s.L fun wa => C_cellplanelaw26_same_9 N K1 Q t0' w1' blk9' a9c' Ty9' blk11' b11c' Ty11' c13' wa
  | _, _ => False

theorem T_cellplanelaw26_same_9 (N : Nat) (K1 : ((Option Addr) × (Option Addr) × Nat × G_api_Reply × Nat × Nat × G_api_Reply × Nat) → (Int) → World → Prop) (Q : Value → World → Prop) (s : St) (w : World) (h : H_cellplanelaw26_same_9 N K1 Q s w) : Snd (cx N (fun d => memN d [9, 11])) (cR (cR (cL k_cellplanelaw26_same_2))) (z_cellplanelaw26_same_3 N K1 Q) s w := by
  refine Snd.grab h (fun vs ls hd hloc wa hl => ?_)
  split at hd
  · obtain ⟨a9c', rfl, hd0⟩ := G_api_Reply.decL_spec hd
    obtain ⟨b11c', rfl, hd1⟩ := G_api_Reply.decL_spec hd0
    exact X_cellplanelaw26_same_9 (hd1 wa hl)
  · exact hd.elim

noncomputable def k_cellplanelaw26_same_4 : Code := (cR (cL (cL (cR (cL k_cellplanelaw26_same_2)))))

noncomputable def z_cellplanelaw26_same_5 (N : Nat) (K1 : ((Option Addr) × (Option Addr) × Nat × G_api_Reply × Nat × Nat × G_api_Reply × Nat) → (Int) → World → Prop) (Q : Value → World → Prop) : Cont := (inBlockD 1 (thenD (H_cellplanelaw26_same_9 N K1 Q) (z_cellplanelaw26_same_3 N K1 Q)))

def D_cellplanelaw26_same_11 (K : ((Option Addr) × (Option Addr) × Int × Nat × Nat × Nat × Nat) → (G_api_Reply × G_api_Reply × Int) → Prop) : List Value → List LB → Prop := fun vs ls => match vs, ls with
  | [.pointer t0', .pointer w1', .int .i64 c13', .int .i64 k14'], [⟨blk9', a9c'_r, Ty9'⟩, ⟨blk11', b11c'_r, Ty11'⟩] => G_api_Reply.decL a9c'_r fun a9c' => G_api_Reply.decL b11c'_r fun b11c' => K (t0', w1', c13', blk9', Ty9', blk11', Ty11') (a9c', b11c', k14')
  | _, _ => False

def B_cellplanelaw26_same_11 (N : Nat) (K1 : ((Option Addr) × (Option Addr) × Nat × G_api_Reply × Nat × Nat × G_api_Reply × Nat) → (Int) → World → Prop) (K2 : ((Option Addr) × (Option Addr) × Int × Nat × Nat × Nat × Nat) → (G_api_Reply × G_api_Reply × Int) → World → Prop) (Q : Value → World → Prop) (t0' w1' : Option Addr) (blk9' : Nat) (a9c' : G_api_Reply) (Ty9' blk11' : Nat) (b11c' : G_api_Reply) (Ty11' : Nat) (c13' k14' : Int) (w : World) : Prop :=
  IfB (decide ((k14' : Int) ≤ 2)) (CallL PP N w [⟨blk9', a9c'.cells, Ty9'⟩, ⟨blk11', b11c'.cells, Ty11'⟩] n_cellplaneref26_Table_Last [(.pointer w1'), (.int .i64 c13')] fun r3 w4 => ∃ n2 : Int, r3 = (.int .i64 n2) ∧ CallL PP N w4 [⟨blk9', a9c'.cells, Ty9'⟩, ⟨blk11', b11c'.cells, Ty11'⟩] n_session_Table_Find [(.pointer t0'), (.int .i64 c13'), (.int .i64 (IntKind.i64.wrap (n2 + k14')))] fun r7 w8 => ∃ x5 : G_api_Reply, ∃ n6 : Int, r7 = (.tuple #[(.agg (List.toArray x5.cells)), (.int .i64 n6)]) ∧ CallL PP N w8 [⟨blk9', x5.cells, Ty9'⟩, ⟨blk11', b11c'.cells, Ty11'⟩] n_cellplaneref26_Table_Last [(.pointer w1'), (.int .i64 c13')] fun r10 w11 => ∃ n9 : Int, r10 = (.int .i64 n9) ∧ CallL PP N w11 [⟨blk9', x5.cells, Ty9'⟩, ⟨blk11', b11c'.cells, Ty11'⟩] n_cellplaneref26_Table_Find [(.pointer w1'), (.int .i64 c13'), (.int .i64 (IntKind.i64.wrap (n9 + k14')))] fun r14 w15 => ∃ x12 : G_api_Reply, ∃ n13 : Int, r14 = (.tuple #[(.agg (List.toArray x12.cells)), (.int .i64 n13)]) ∧ IfB (!(G_api_Reply.eqb x5 x12)) (Reb N w15 [⟨blk9', x5.cells, Ty9'⟩, ⟨blk11', x12.cells, Ty11'⟩] (Q (.bool false))) (IfB (!decide ((n6 : Int) = n13)) (Reb N w15 [⟨blk9', x5.cells, Ty9'⟩, ⟨blk11', x12.cells, Ty11'⟩] (Q (.bool false))) (Reb N w15 [⟨blk9', x5.cells, Ty9'⟩, ⟨blk11', x12.cells, Ty11'⟩] fun w16 => K2 (t0', w1', c13', blk9', Ty9', blk11', Ty11') (x5, x12, (IntKind.i64.wrap (k14' + 1))) w16))) (Reb N w [⟨blk9', a9c'.cells, Ty9'⟩, ⟨blk11', b11c'.cells, Ty11'⟩] fun w17 => C_cellplanelaw26_same_9 N K1 Q t0' w1' blk9' a9c' Ty9' blk11' b11c' Ty11' c13' w17)

theorem X_cellplanelaw26_same_11 {N : Nat} {K1 : ((Option Addr) × (Option Addr) × Nat × G_api_Reply × Nat × Nat × G_api_Reply × Nat) → (Int) → World → Prop} {K2 : ((Option Addr) × (Option Addr) × Int × Nat × Nat × Nat × Nat) → (G_api_Reply × G_api_Reply × Int) → World → Prop} {Q : Value → World → Prop} {t0' w1' : Option Addr} {blk9' : Nat} {a9c' : G_api_Reply} {Ty9' blk11' : Nat} {b11c' : G_api_Reply} {Ty11' : Nat} {c13' k14' : Int} {w : World} (h : B_cellplanelaw26_same_11 N K1 K2 Q t0' w1' blk9' a9c' Ty9' blk11' b11c' Ty11' c13' k14' w) : Snd (cx N (fun d => memN d [9, 11])) (cL (cL k_cellplanelaw26_same_4)) (thenD (HeadK N 92 [.val 0, .val 1, .loc 9, .loc 11, .val 13, .val 14] D_cellplanelaw26_same_11 K2) (inBlockD 2 (z_cellplanelaw26_same_5 N K1 Q))) (mkS 92 [.val 0, .val 1, .loc 9, .loc 11, .val 13, .val 14] [(.pointer t0'), (.pointer w1'), (.int .i64 c13'), (.int .i64 k14')] [⟨blk9', a9c'.cells, Ty9'⟩, ⟨blk11', b11c'.cells, Ty11'⟩]) w :=
  (den_sound okc mixed _ _ _ _ (mpr' (by kernel_rfl) h))

def L_cellplanelaw26_same_11 (N : Nat) (K1 : ((Option Addr) × (Option Addr) × Nat × G_api_Reply × Nat × Nat × G_api_Reply × Nat) → (Int) → World → Prop) (Q : Value → World → Prop) (K2 : ((Option Addr) × (Option Addr) × Int × Nat × Nat × Nat × Nat) → (G_api_Reply × G_api_Reply × Int) → World → Prop) (c : (Option Addr) × (Option Addr) × Int × Nat × Nat × Nat × Nat) (x : G_api_Reply × G_api_Reply × Int) (w : World) : Prop := match c, x with
  | (t0', w1', c13', blk9', Ty9', blk11', Ty11'), (a9c', b11c', k14') => B_cellplanelaw26_same_11 N K1 K2 Q t0' w1' blk9' a9c' Ty9' blk11' b11c' Ty11' c13' k14' w

theorem T_cellplanelaw26_same_11 (N : Nat) (K1 : ((Option Addr) × (Option Addr) × Nat × G_api_Reply × Nat × Nat × G_api_Reply × Nat) → (Int) → World → Prop) (Q : Value → World → Prop) {s : St} {w : World} (h : HeadE N 92 [.val 0, .val 1, .loc 9, .loc 11, .val 13, .val 14] D_cellplanelaw26_same_11 (L_cellplanelaw26_same_11 N K1 Q) s w) : Snd (cx N (fun d => memN d [9, 11])) (cL k_cellplanelaw26_same_4) (inBlockD 2 (z_cellplanelaw26_same_5 N K1 Q)) s w := by
  refine Snd.cast (c' := .loop (cL (cL k_cellplanelaw26_same_4))) (by kernel_rfl) (Snd.loopC (fun (c : (Option Addr) × (Option Addr) × Int × Nat × Nat × Nat × Nat) (x : G_api_Reply × G_api_Reply × Int) => match c, x with | (t0', w1', c13', blk9', Ty9', blk11', Ty11'), (a9c', b11c', k14') => ([(.pointer t0'), (.pointer w1'), (.int .i64 c13'), (.int .i64 k14')], [⟨blk9', a9c'.cells, Ty9'⟩, ⟨blk11', b11c'.cells, Ty11'⟩])) ?_ ?_ h)
  · intro K vs ls h
    unfold D_cellplanelaw26_same_11 at h
    split at h
    · obtain ⟨a9c', rfl, h0⟩ := G_api_Reply.decL_spec h
      obtain ⟨b11c', rfl, h1⟩ := G_api_Reply.decL_spec h0
      exact ⟨_, _, rfl, h1⟩
    · exact h.elim
  · rintro K ⟨t0', w1', c13', blk9', Ty9', blk11', Ty11'⟩ ⟨a9c', b11c', k14'⟩ w h
    exact X_cellplanelaw26_same_11 h

def C_cellplanelaw26_same_10 (N : Nat) (K1 : ((Option Addr) × (Option Addr) × Nat × G_api_Reply × Nat × Nat × G_api_Reply × Nat) → (Int) → World → Prop) (Q : Value → World → Prop) (t0' w1' : Option Addr) (blk9' : Nat) (a9c' : G_api_Reply) (Ty9' blk11' : Nat) (b11c' : G_api_Reply) (Ty11' : Nat) (c13' k14' : Int) (w : World) : Prop :=
  LoopC N w [⟨blk9', a9c'.cells, Ty9'⟩, ⟨blk11', b11c'.cells, Ty11'⟩] ((t0', w1', c13', blk9', Ty9', blk11', Ty11') : (Option Addr) × (Option Addr) × Int × Nat × Nat × Nat × Nat) ((a9c', b11c', k14') : G_api_Reply × G_api_Reply × Int) (L_cellplanelaw26_same_11 N K1 Q)

theorem X_cellplanelaw26_same_10 {N : Nat} {K1 : ((Option Addr) × (Option Addr) × Nat × G_api_Reply × Nat × Nat × G_api_Reply × Nat) → (Int) → World → Prop} {Q : Value → World → Prop} {t0' w1' : Option Addr} {blk9' : Nat} {a9c' : G_api_Reply} {Ty9' blk11' : Nat} {b11c' : G_api_Reply} {Ty11' : Nat} {c13' k14' : Int} {w : World} (h : C_cellplanelaw26_same_10 N K1 Q t0' w1' blk9' a9c' Ty9' blk11' b11c' Ty11' c13' k14' w) : Snd (cx N (fun d => memN d [9, 11])) k_cellplanelaw26_same_4 (z_cellplanelaw26_same_5 N K1 Q) (mkS 92 [.val 0, .val 1, .loc 9, .loc 11, .val 13, .val 14] [(.pointer t0'), (.pointer w1'), (.int .i64 c13'), (.int .i64 k14')] [⟨blk9', a9c'.cells, Ty9'⟩, ⟨blk11', b11c'.cells, Ty11'⟩]) w :=
  (Snd.cast (c' := .block 2 (cL k_cellplanelaw26_same_4)) (by kernel_rfl) (Snd.block (T_cellplanelaw26_same_11 N K1 Q (mpr' (by kernel_rfl) h))))

noncomputable def H_cellplanelaw26_same_10 (N : Nat) (K1 : ((Option Addr) × (Option Addr) × Nat × G_api_Reply × Nat × Nat × G_api_Reply × Nat) → (Int) → World → Prop) (Q : Value → World → Prop) : St → World → Prop := fun s w => grabK 92 [.val 0, .val 1, .loc 9, .loc 11, .val 13, .val 14] s fun vs ls => match vs, ls with
  | [.pointer t0', .pointer w1', .int .i64 c13', .int .i64 k14'], [⟨blk9', a9c'_r, Ty9'⟩, ⟨blk11', b11c'_r, Ty11'⟩] => G_api_Reply.decL a9c'_r fun a9c' => G_api_Reply.decL b11c'_r fun b11c' => Reb N w s.L fun wa => C_cellplanelaw26_same_10 N K1 Q t0' w1' blk9' a9c' Ty9' blk11' b11c' Ty11' c13' k14' wa
  | _, _ => False

theorem T_cellplanelaw26_same_10 (N : Nat) (K1 : ((Option Addr) × (Option Addr) × Nat × G_api_Reply × Nat × Nat × G_api_Reply × Nat) → (Int) → World → Prop) (Q : Value → World → Prop) (s : St) (w : World) (h : H_cellplanelaw26_same_10 N K1 Q s w) : Snd (cx N (fun d => memN d [9, 11])) k_cellplanelaw26_same_4 (z_cellplanelaw26_same_5 N K1 Q) s w := by
  refine Snd.grab h (fun vs ls hd hloc wa hl => ?_)
  split at hd
  · obtain ⟨a9c', rfl, hd0⟩ := G_api_Reply.decL_spec hd
    obtain ⟨b11c', rfl, hd1⟩ := G_api_Reply.decL_spec hd0
    exact X_cellplanelaw26_same_10 (hd1 wa hl)
  · exact hd.elim

def C_cellplanelaw26_same_8 (N : Nat) (K1 : ((Option Addr) × (Option Addr) × Nat × G_api_Reply × Nat × Nat × G_api_Reply × Nat) → (Int) → World → Prop) (Q : Value → World → Prop) (t0' w1' : Option Addr) (blk9' : Nat) (a9c' : G_api_Reply) (Ty9' blk11' : Nat) (b11c' : G_api_Reply) (Ty11' : Nat) (c13' : Int) (w : World) : Prop :=
  Reb N w [⟨blk9', a9c'.cells, Ty9'⟩, ⟨blk11', b11c'.cells, Ty11'⟩] fun w18 => C_cellplanelaw26_same_10 N K1 Q t0' w1' blk9' a9c' Ty9' blk11' b11c' Ty11' c13' (-1) w18

theorem X_cellplanelaw26_same_8 {N : Nat} {K1 : ((Option Addr) × (Option Addr) × Nat × G_api_Reply × Nat × Nat × G_api_Reply × Nat) → (Int) → World → Prop} {Q : Value → World → Prop} {t0' w1' : Option Addr} {blk9' : Nat} {a9c' : G_api_Reply} {Ty9' blk11' : Nat} {b11c' : G_api_Reply} {Ty11' : Nat} {c13' : Int} {w : World} (h : C_cellplanelaw26_same_8 N K1 Q t0' w1' blk9' a9c' Ty9' blk11' b11c' Ty11' c13' w) : Snd (cx N (fun d => memN d [9, 11])) (cR (cL k_cellplanelaw26_same_2)) (z_cellplanelaw26_same_3 N K1 Q) (mkS 92 [.val 0, .val 1, .loc 9, .loc 11, .val 13] [(.pointer t0'), (.pointer w1'), (.int .i64 c13')] [⟨blk9', a9c'.cells, Ty9'⟩, ⟨blk11', b11c'.cells, Ty11'⟩]) w :=
  (Snd.cast (c' := .seq (cL (cR (cL k_cellplanelaw26_same_2))) (cR (cR (cL k_cellplanelaw26_same_2)))) (by kernel_rfl) (Snd.seq (H_cellplanelaw26_same_9 N K1 Q) (Snd.cast (c' := .block 1 (cL (cL (cR (cL k_cellplanelaw26_same_2))))) (by kernel_rfl) (Snd.block (Snd.cast (c' := .seq (cL (cL (cL (cR (cL k_cellplanelaw26_same_2))))) (cR (cL (cL (cR (cL k_cellplanelaw26_same_2)))))) (by kernel_rfl) (Snd.seq (H_cellplanelaw26_same_10 N K1 Q) (den_sound okc mixed _ _ _ _ (mpr' (by kernel_rfl) h)) (fun s w h => T_cellplanelaw26_same_10 N K1 Q s w h))))) (fun s w h => T_cellplanelaw26_same_9 N K1 Q s w h)))

noncomputable def H_cellplanelaw26_same_8 (N : Nat) (K1 : ((Option Addr) × (Option Addr) × Nat × G_api_Reply × Nat × Nat × G_api_Reply × Nat) → (Int) → World → Prop) (Q : Value → World → Prop) : St → World → Prop := fun s w => grabK 92 [.val 0, .val 1, .loc 9, .loc 11, .val 13] s fun vs ls => match vs, ls with
  | [.pointer t0', .pointer w1', .int .i64 c13'], [⟨blk9', a9c'_r, Ty9'⟩, ⟨blk11', b11c'_r, Ty11'⟩] => G_api_Reply.decL a9c'_r fun a9c' => G_api_Reply.decL b11c'_r fun b11c' => Reb N w s.L fun wa => C_cellplanelaw26_same_8 N K1 Q t0' w1' blk9' a9c' Ty9' blk11' b11c' Ty11' c13' wa
  | _, _ => False

theorem T_cellplanelaw26_same_8 (N : Nat) (K1 : ((Option Addr) × (Option Addr) × Nat × G_api_Reply × Nat × Nat × G_api_Reply × Nat) → (Int) → World → Prop) (Q : Value → World → Prop) (s : St) (w : World) (h : H_cellplanelaw26_same_8 N K1 Q s w) : Snd (cx N (fun d => memN d [9, 11])) (cR (cL k_cellplanelaw26_same_2)) (z_cellplanelaw26_same_3 N K1 Q) s w := by
  refine Snd.grab h (fun vs ls hd hloc wa hl => ?_)
  split at hd
  · obtain ⟨a9c', rfl, hd0⟩ := G_api_Reply.decL_spec hd
    obtain ⟨b11c', rfl, hd1⟩ := G_api_Reply.decL_spec hd0
    exact X_cellplanelaw26_same_8 (hd1 wa hl)
  · exact hd.elim

def B_cellplanelaw26_same_7 (N : Nat) (K1 : ((Option Addr) × (Option Addr) × Nat × G_api_Reply × Nat × Nat × G_api_Reply × Nat) → (Int) → World → Prop) (Q : Value → World → Prop) (t0' w1' : Option Addr) (blk9' : Nat) (a9c' : G_api_Reply) (Ty9' blk11' : Nat) (b11c' : G_api_Reply) (Ty11' : Nat) (c13' : Int) (w : World) : Prop :=
  IfB (decide ((c13' : Int) ≤ 8)) (Reb N w [⟨blk9', a9c'.cells, Ty9'⟩, ⟨blk11', b11c'.cells, Ty11'⟩] fun w19 => C_cellplanelaw26_same_8 N K1 Q t0' w1' blk9' a9c' Ty9' blk11' b11c' Ty11' c13' w19) (Reb N w [⟨blk9', a9c'.cells, Ty9'⟩, ⟨blk11', b11c'.cells, Ty11'⟩] fun w20 => C_cellplanelaw26_same_5 N Q w20)

theorem X_cellplanelaw26_same_7 {N : Nat} {K1 : ((Option Addr) × (Option Addr) × Nat × G_api_Reply × Nat × Nat × G_api_Reply × Nat) → (Int) → World → Prop} {Q : Value → World → Prop} {t0' w1' : Option Addr} {blk9' : Nat} {a9c' : G_api_Reply} {Ty9' blk11' : Nat} {b11c' : G_api_Reply} {Ty11' : Nat} {c13' : Int} {w : World} (h : B_cellplanelaw26_same_7 N K1 Q t0' w1' blk9' a9c' Ty9' blk11' b11c' Ty11' c13' w) : Snd (cx N (fun d => memN d [9, 11])) (cL k_cellplanelaw26_same_2) (thenD (HeadK N 92 [.val 0, .val 1, .loc 9, .loc 11, .val 13] D_cellplanelaw26_same_7 K1) (inBlockD 0 (z_cellplanelaw26_same_1 N Q))) (mkS 92 [.val 0, .val 1, .loc 9, .loc 11, .val 13] [(.pointer t0'), (.pointer w1'), (.int .i64 c13')] [⟨blk9', a9c'.cells, Ty9'⟩, ⟨blk11', b11c'.cells, Ty11'⟩]) w :=
  (Snd.cast (c' := .seq (cL (cL k_cellplanelaw26_same_2)) (cR (cL k_cellplanelaw26_same_2))) (by kernel_rfl) (Snd.seq (H_cellplanelaw26_same_8 N K1 Q) (den_sound okc mixed _ _ _ _ (mpr' (by kernel_rfl) h)) (fun s w h => T_cellplanelaw26_same_8 N K1 Q s w h)))

def L_cellplanelaw26_same_7 (N : Nat) (Q : Value → World → Prop) (K1 : ((Option Addr) × (Option Addr) × Nat × G_api_Reply × Nat × Nat × G_api_Reply × Nat) → (Int) → World → Prop) (c : (Option Addr) × (Option Addr) × Nat × G_api_Reply × Nat × Nat × G_api_Reply × Nat) (x : Int) (w : World) : Prop := match c, x with
  | (t0', w1', blk9', a9c', Ty9', blk11', b11c', Ty11'), c13' => B_cellplanelaw26_same_7 N K1 Q t0' w1' blk9' a9c' Ty9' blk11' b11c' Ty11' c13' w

theorem T_cellplanelaw26_same_7 (N : Nat) (Q : Value → World → Prop) {s : St} {w : World} (h : HeadE N 92 [.val 0, .val 1, .loc 9, .loc 11, .val 13] D_cellplanelaw26_same_7 (L_cellplanelaw26_same_7 N Q) s w) : Snd (cx N (fun d => memN d [9, 11])) k_cellplanelaw26_same_2 (inBlockD 0 (z_cellplanelaw26_same_1 N Q)) s w := by
  refine Snd.cast (c' := .loop (cL k_cellplanelaw26_same_2)) (by kernel_rfl) (Snd.loopC (fun (c : (Option Addr) × (Option Addr) × Nat × G_api_Reply × Nat × Nat × G_api_Reply × Nat) (x : Int) => match c, x with | (t0', w1', blk9', a9c', Ty9', blk11', b11c', Ty11'), c13' => ([(.pointer t0'), (.pointer w1'), (.int .i64 c13')], [⟨blk9', a9c'.cells, Ty9'⟩, ⟨blk11', b11c'.cells, Ty11'⟩])) ?_ ?_ h)
  · intro K vs ls h
    unfold D_cellplanelaw26_same_7 at h
    split at h
    · obtain ⟨a9c', rfl, h0⟩ := G_api_Reply.decL_spec h
      obtain ⟨b11c', rfl, h1⟩ := G_api_Reply.decL_spec h0
      exact ⟨_, _, rfl, h1⟩
    · exact h.elim
  · rintro K ⟨t0', w1', blk9', a9c', Ty9', blk11', b11c', Ty11'⟩ c13' w h
    exact X_cellplanelaw26_same_7 h

def C_cellplanelaw26_same_6 (N : Nat) (Q : Value → World → Prop) (t0' w1' : Option Addr) (blk9' : Nat) (a9c' : G_api_Reply) (Ty9' blk11' : Nat) (b11c' : G_api_Reply) (Ty11' : Nat) (c13' : Int) (w : World) : Prop :=
  LoopC N w [⟨blk9', a9c'.cells, Ty9'⟩, ⟨blk11', b11c'.cells, Ty11'⟩] ((t0', w1', blk9', a9c', Ty9', blk11', b11c', Ty11') : (Option Addr) × (Option Addr) × Nat × G_api_Reply × Nat × Nat × G_api_Reply × Nat) (c13' : Int) (L_cellplanelaw26_same_7 N Q)

theorem X_cellplanelaw26_same_6 {N : Nat} {Q : Value → World → Prop} {t0' w1' : Option Addr} {blk9' : Nat} {a9c' : G_api_Reply} {Ty9' blk11' : Nat} {b11c' : G_api_Reply} {Ty11' : Nat} {c13' : Int} {w : World} (h : C_cellplanelaw26_same_6 N Q t0' w1' blk9' a9c' Ty9' blk11' b11c' Ty11' c13' w) : Snd (cx N (fun d => memN d [9, 11])) (cR (cL (cR k_cellplanelaw26_same_0))) (z_cellplanelaw26_same_1 N Q) (mkS 92 [.val 0, .val 1, .loc 9, .loc 11, .val 13] [(.pointer t0'), (.pointer w1'), (.int .i64 c13')] [⟨blk9', a9c'.cells, Ty9'⟩, ⟨blk11', b11c'.cells, Ty11'⟩]) w :=
  (Snd.cast (c' := .block 0 (cL (cR (cL (cR k_cellplanelaw26_same_0))))) (by kernel_rfl) (Snd.block (T_cellplanelaw26_same_7 N Q (mpr' (by kernel_rfl) h))))

noncomputable def H_cellplanelaw26_same_6 (N : Nat) (Q : Value → World → Prop) : St → World → Prop := fun s w => grabK 92 [.val 0, .val 1, .loc 9, .loc 11, .val 13] s fun vs ls => match vs, ls with
  | [.pointer t0', .pointer w1', .int .i64 c13'], [⟨blk9', a9c'_r, Ty9'⟩, ⟨blk11', b11c'_r, Ty11'⟩] => G_api_Reply.decL a9c'_r fun a9c' => G_api_Reply.decL b11c'_r fun b11c' => Reb N w s.L fun wa => C_cellplanelaw26_same_6 N Q t0' w1' blk9' a9c' Ty9' blk11' b11c' Ty11' c13' wa
  | _, _ => False

theorem T_cellplanelaw26_same_6 (N : Nat) (Q : Value → World → Prop) (s : St) (w : World) (h : H_cellplanelaw26_same_6 N Q s w) : Snd (cx N (fun d => memN d [9, 11])) (cR (cL (cR k_cellplanelaw26_same_0))) (z_cellplanelaw26_same_1 N Q) s w := by
  refine Snd.grab h (fun vs ls hd hloc wa hl => ?_)
  split at hd
  · obtain ⟨a9c', rfl, hd0⟩ := G_api_Reply.decL_spec hd
    obtain ⟨b11c', rfl, hd1⟩ := G_api_Reply.decL_spec hd0
    exact X_cellplanelaw26_same_6 (hd1 wa hl)
  · exact hd.elim

def C_cellplanelaw26_same_4 (N : Nat) (Q : Value → World → Prop) (t0' w1' : Option Addr) (blk9' : Nat) (a9c' : G_api_Reply) (Ty9' blk11' : Nat) (b11c' : G_api_Reply) (Ty11' : Nat) (w : World) : Prop :=
  Reb N w [⟨blk9', a9c'.cells, Ty9'⟩, ⟨blk11', b11c'.cells, Ty11'⟩] fun w21 => C_cellplanelaw26_same_6 N Q t0' w1' blk9' a9c' Ty9' blk11' b11c' Ty11' 1 w21

theorem X_cellplanelaw26_same_4 {N : Nat} {Q : Value → World → Prop} {t0' w1' : Option Addr} {blk9' : Nat} {a9c' : G_api_Reply} {Ty9' blk11' : Nat} {b11c' : G_api_Reply} {Ty11' : Nat} {w : World} (h : C_cellplanelaw26_same_4 N Q t0' w1' blk9' a9c' Ty9' blk11' b11c' Ty11' w) : Snd (cx N (fun d => memN d [9, 11])) (cR k_cellplanelaw26_same_0) (retD (cx N (fun d => memN d [9, 11])) Go.Proofs.Try.f22 Q) (mkS 92 [.val 0, .val 1, .loc 9, .loc 11] [(.pointer t0'), (.pointer w1')] [⟨blk9', a9c'.cells, Ty9'⟩, ⟨blk11', b11c'.cells, Ty11'⟩]) w :=
  (Snd.cast (c' := .seq (cL (cR k_cellplanelaw26_same_0)) (cR (cR k_cellplanelaw26_same_0))) (by kernel_rfl) (Snd.seq (H_cellplanelaw26_same_5 N Q) (Snd.cast (c' := .seq (cL (cL (cR k_cellplanelaw26_same_0))) (cR (cL (cR k_cellplanelaw26_same_0)))) (by kernel_rfl) (Snd.seq (H_cellplanelaw26_same_6 N Q) (den_sound okc mixed _ _ _ _ (mpr' (by kernel_rfl) h)) (fun s w h => T_cellplanelaw26_same_6 N Q s w h))) (fun s w h => T_cellplanelaw26_same_5 N Q s w h)))

noncomputable def H_cellplanelaw26_same_4 (N : Nat) (Q : Value → World → Prop) : St → World → Prop := fun s w => grabK 92 [.val 0, .val 1, .loc 9, .loc 11] s fun vs ls => match vs, ls with
  | [.pointer t0', .pointer w1'], [⟨blk9', a9c'_r, Ty9'⟩, ⟨blk11', b11c'_r, Ty11'⟩] => G_api_Reply.decL a9c'_r fun a9c' => G_api_Reply.decL b11c'_r fun b11c' => Reb N w s.L fun wa => C_cellplanelaw26_same_4 N Q t0' w1' blk9' a9c' Ty9' blk11' b11c' Ty11' wa
  | _, _ => False

theorem T_cellplanelaw26_same_4 (N : Nat) (Q : Value → World → Prop) (s : St) (w : World) (h : H_cellplanelaw26_same_4 N Q s w) : Snd (cx N (fun d => memN d [9, 11])) (cR k_cellplanelaw26_same_0) (retD (cx N (fun d => memN d [9, 11])) Go.Proofs.Try.f22 Q) s w := by
  refine Snd.grab h (fun vs ls hd hloc wa hl => ?_)
  split at hd
  · obtain ⟨a9c', rfl, hd0⟩ := G_api_Reply.decL_spec hd
    obtain ⟨b11c', rfl, hd1⟩ := G_api_Reply.decL_spec hd0
    exact X_cellplanelaw26_same_4 (hd1 wa hl)
  · exact hd.elim

def C_cellplanelaw26_same_3 (N : Nat) (Q : Value → World → Prop) (t0' w1' : Option Addr) (client2' : Int) (blk9' : Nat) (a9c' : G_api_Reply) (Ty9' : Nat) (e10' : Int) (blk11' : Nat) (b11c' : G_api_Reply) (Ty11' : Nat) (f12' : Int) (w : World) : Prop :=
  IfB (!(G_api_Reply.eqb a9c' b11c')) (Reb N w [⟨blk9', a9c'.cells, Ty9'⟩, ⟨blk11', b11c'.cells, Ty11'⟩] (Q (.bool false))) (IfB (!decide ((e10' : Int) = f12')) (Reb N w [⟨blk9', a9c'.cells, Ty9'⟩, ⟨blk11', b11c'.cells, Ty11'⟩] (Q (.bool false))) (CallL PP N w [⟨blk9', a9c'.cells, Ty9'⟩, ⟨blk11', b11c'.cells, Ty11'⟩] n_session_Table_Last [(.pointer t0'), (.int .i64 client2')] fun r23 w24 => ∃ n22 : Int, r23 = (.int .i64 n22) ∧ CallL PP N w24 [⟨blk9', a9c'.cells, Ty9'⟩, ⟨blk11', b11c'.cells, Ty11'⟩] n_cellplaneref26_Table_Last [(.pointer w1'), (.int .i64 client2')] fun r26 w27 => ∃ n25 : Int, r26 = (.int .i64 n25) ∧ IfB (!decide ((n22 : Int) = n25)) (Reb N w27 [⟨blk9', a9c'.cells, Ty9'⟩, ⟨blk11', b11c'.cells, Ty11'⟩] (Q (.bool false))) (CallL PP N w27 [⟨blk9', a9c'.cells, Ty9'⟩, ⟨blk11', b11c'.cells, Ty11'⟩] n_session_Table_Lasts [(.pointer t0')] fun r29 w30 => ∃ l28 : Sl, r29 = (.slice l28.a l28.n l28.c) ∧ CallL PP N w30 [⟨blk9', a9c'.cells, Ty9'⟩, ⟨blk11', b11c'.cells, Ty11'⟩] n_cellplaneref26_Table_Lasts [(.pointer w1')] fun r32 w33 => ∃ l31 : Sl, r32 = (.slice l31.a l31.n l31.c) ∧ CallL PP N w33 [⟨blk9', a9c'.cells, Ty9'⟩, ⟨blk11', b11c'.cells, Ty11'⟩] n_cellplaneref24_SameInts [(.slice l28.a l28.n l28.c), (.slice l31.a l31.n l31.c)] fun r35 w36 => ∃ b34 : Bool, r35 = (.bool b34) ∧ IfB (!b34) (Reb N w36 [⟨blk9', a9c'.cells, Ty9'⟩, ⟨blk11', b11c'.cells, Ty11'⟩] (Q (.bool false))) (Reb N w36 [⟨blk9', a9c'.cells, Ty9'⟩, ⟨blk11', b11c'.cells, Ty11'⟩] fun w37 => C_cellplanelaw26_same_4 N Q t0' w1' blk9' a9c' Ty9' blk11' b11c' Ty11' w37))))

theorem X_cellplanelaw26_same_3 {N : Nat} {Q : Value → World → Prop} {t0' w1' : Option Addr} {client2' : Int} {blk9' : Nat} {a9c' : G_api_Reply} {Ty9' : Nat} {e10' : Int} {blk11' : Nat} {b11c' : G_api_Reply} {Ty11' : Nat} {f12' : Int} {w : World} (h : C_cellplanelaw26_same_3 N Q t0' w1' client2' blk9' a9c' Ty9' e10' blk11' b11c' Ty11' f12' w) : Snd (cx N (fun d => memN d [9, 11])) k_cellplanelaw26_same_0 (retD (cx N (fun d => memN d [9, 11])) Go.Proofs.Try.f22 Q) (mkS 92 [.val 0, .val 1, .val 2, .loc 9, .val 10, .loc 11, .val 12] [(.pointer t0'), (.pointer w1'), (.int .i64 client2'), (.int .i64 e10'), (.int .i64 f12')] [⟨blk9', a9c'.cells, Ty9'⟩, ⟨blk11', b11c'.cells, Ty11'⟩]) w :=
  (Snd.cast (c' := .seq (cL k_cellplanelaw26_same_0) (cR k_cellplanelaw26_same_0)) (by kernel_rfl) (Snd.seq (H_cellplanelaw26_same_4 N Q) (den_sound okc mixed _ _ _ _ (mpr' (by kernel_rfl) h)) (fun s w h => T_cellplanelaw26_same_4 N Q s w h)))

noncomputable def H_cellplanelaw26_same_3 (N : Nat) (Q : Value → World → Prop) : St → World → Prop := fun s w => grabK 92 [.val 0, .val 1, .val 2, .loc 9, .val 10, .loc 11, .val 12] s fun vs ls => match vs, ls with
  | [.pointer t0', .pointer w1', .int .i64 client2', .int .i64 e10', .int .i64 f12'], [⟨blk9', a9c'_r, Ty9'⟩, ⟨blk11', b11c'_r, Ty11'⟩] => G_api_Reply.decL a9c'_r fun a9c' => G_api_Reply.decL b11c'_r fun b11c' => Reb N w s.L fun wa => C_cellplanelaw26_same_3 N Q t0' w1' client2' blk9' a9c' Ty9' e10' blk11' b11c' Ty11' f12' wa
  | _, _ => False

theorem T_cellplanelaw26_same_3 (N : Nat) (Q : Value → World → Prop) (s : St) (w : World) (h : H_cellplanelaw26_same_3 N Q s w) : Snd (cx N (fun d => memN d [9, 11])) k_cellplanelaw26_same_0 (retD (cx N (fun d => memN d [9, 11])) Go.Proofs.Try.f22 Q) s w := by
  refine Snd.grab h (fun vs ls hd hloc wa hl => ?_)
  split at hd
  · obtain ⟨a9c', rfl, hd0⟩ := G_api_Reply.decL_spec hd
    obtain ⟨b11c', rfl, hd1⟩ := G_api_Reply.decL_spec hd0
    exact X_cellplanelaw26_same_3 (hd1 wa hl)
  · exact hd.elim

def C_cellplanelaw26_same_2 (N : Nat) (Q : Value → World → Prop) (t0' w1' : Option Addr) (client2' number3' : Int) (blk9' : Nat) (a9c' : G_api_Reply) (Ty9' : Nat) (e10' : Int) (w : World) : Prop :=
  CallL PP N w [⟨blk9', a9c'.cells, Ty9'⟩] n_cellplaneref26_Table_Find [(.pointer w1'), (.int .i64 client2'), (.int .i64 number3')] fun r40 w41 => ∃ x38 : G_api_Reply, ∃ n39 : Int, r40 = (.tuple #[(.agg (List.toArray x38.cells)), (.int .i64 n39)]) ∧ ∀ b42 : Nat, w41.heap.size ≤ b42 → Reb N w41 [⟨blk9', a9c'.cells, Ty9'⟩, ⟨b42, x38.cells, t_api_Reply⟩] fun w43 => C_cellplanelaw26_same_3 N Q t0' w1' client2' blk9' a9c' Ty9' e10' b42 x38 t_api_Reply n39 w43

theorem X_cellplanelaw26_same_2 {N : Nat} {Q : Value → World → Prop} {t0' w1' : Option Addr} {client2' number3' : Int} {blk9' : Nat} {a9c' : G_api_Reply} {Ty9' : Nat} {e10' : Int} {w : World} (h : C_cellplanelaw26_same_2 N Q t0' w1' client2' number3' blk9' a9c' Ty9' e10' w) : Snd (cx N (fun d => memN d [9, 11])) (cR (cR (bodyOf Go.Proofs.Try.f22))) (retD (cx N (fun d => memN d [9, 11])) Go.Proofs.Try.f22 Q) (mkS 92 [.val 0, .val 1, .val 2, .val 3, .loc 9, .val 10] [(.pointer t0'), (.pointer w1'), (.int .i64 client2'), (.int .i64 number3'), (.int .i64 e10')] [⟨blk9', a9c'.cells, Ty9'⟩]) w :=
  (Snd.cast (c' := .seq (cL (cR (cR (bodyOf Go.Proofs.Try.f22)))) (cR (cR (cR (bodyOf Go.Proofs.Try.f22))))) (by kernel_rfl) (Snd.seq (H_cellplanelaw26_same_3 N Q) (den_sound okc mixed _ _ _ _ (mpr' (by kernel_rfl) h)) (fun s w h => T_cellplanelaw26_same_3 N Q s w h)))

noncomputable def H_cellplanelaw26_same_2 (N : Nat) (Q : Value → World → Prop) : St → World → Prop := fun s w => grabK 92 [.val 0, .val 1, .val 2, .val 3, .loc 9, .val 10] s fun vs ls => match vs, ls with
  | [.pointer t0', .pointer w1', .int .i64 client2', .int .i64 number3', .int .i64 e10'], [⟨blk9', a9c'_r, Ty9'⟩] => G_api_Reply.decL a9c'_r fun a9c' => Reb N w s.L fun wa => C_cellplanelaw26_same_2 N Q t0' w1' client2' number3' blk9' a9c' Ty9' e10' wa
  | _, _ => False

theorem T_cellplanelaw26_same_2 (N : Nat) (Q : Value → World → Prop) (s : St) (w : World) (h : H_cellplanelaw26_same_2 N Q s w) : Snd (cx N (fun d => memN d [9, 11])) (cR (cR (bodyOf Go.Proofs.Try.f22))) (retD (cx N (fun d => memN d [9, 11])) Go.Proofs.Try.f22 Q) s w := by
  refine Snd.grab h (fun vs ls hd hloc wa hl => ?_)
  split at hd
  · obtain ⟨a9c', rfl, hd0⟩ := G_api_Reply.decL_spec hd
    exact X_cellplanelaw26_same_2 (hd0 wa hl)
  · exact hd.elim

def C_cellplanelaw26_same_1 (N : Nat) (Q : Value → World → Prop) (t0' w1' : Option Addr) (client2' number3' : Int) (w : World) : Prop :=
  CallL PP N w [] n_session_Table_Find [(.pointer t0'), (.int .i64 client2'), (.int .i64 number3')] fun r46 w47 => ∃ x44 : G_api_Reply, ∃ n45 : Int, r46 = (.tuple #[(.agg (List.toArray x44.cells)), (.int .i64 n45)]) ∧ ∀ b48 : Nat, w47.heap.size ≤ b48 → Reb N w47 [⟨b48, x44.cells, t_api_Reply⟩] fun w49 => C_cellplanelaw26_same_2 N Q t0' w1' client2' number3' b48 x44 t_api_Reply n45 w49

theorem X_cellplanelaw26_same_1 {N : Nat} {Q : Value → World → Prop} {t0' w1' : Option Addr} {client2' number3' : Int} {w : World} (h : C_cellplanelaw26_same_1 N Q t0' w1' client2' number3' w) : Snd (cx N (fun d => memN d [9, 11])) (cR (bodyOf Go.Proofs.Try.f22)) (retD (cx N (fun d => memN d [9, 11])) Go.Proofs.Try.f22 Q) (mkS 92 [.val 0, .val 1, .val 2, .val 3] [(.pointer t0'), (.pointer w1'), (.int .i64 client2'), (.int .i64 number3')] []) w :=
  (Snd.cast (c' := .seq (cL (cR (bodyOf Go.Proofs.Try.f22))) (cR (cR (bodyOf Go.Proofs.Try.f22)))) (by kernel_rfl) (Snd.seq (H_cellplanelaw26_same_2 N Q) (den_sound okc mixed _ _ _ _ (mpr' (by kernel_rfl) h)) (fun s w h => T_cellplanelaw26_same_2 N Q s w h)))

noncomputable def H_cellplanelaw26_same_1 (N : Nat) (Q : Value → World → Prop) : St → World → Prop := fun s w => grabK 92 [.val 0, .val 1, .val 2, .val 3] s fun vs ls => match vs, ls with
  | [.pointer t0', .pointer w1', .int .i64 client2', .int .i64 number3'], [] => Reb N w s.L fun wa => C_cellplanelaw26_same_1 N Q t0' w1' client2' number3' wa
  | _, _ => False

theorem T_cellplanelaw26_same_1 (N : Nat) (Q : Value → World → Prop) (s : St) (w : World) (h : H_cellplanelaw26_same_1 N Q s w) : Snd (cx N (fun d => memN d [9, 11])) (cR (bodyOf Go.Proofs.Try.f22)) (retD (cx N (fun d => memN d [9, 11])) Go.Proofs.Try.f22 Q) s w := by
  refine Snd.grab h (fun vs ls hd hloc wa hl => ?_)
  split at hd
  · exact X_cellplanelaw26_same_1 (hd wa hl)
  · exact hd.elim

def F_cellplanelaw26_same (N : Nat) (t0 : Option Addr) (w1 : Option Addr) (client2 : Int) (number3 : Int) (Q : Value → World → Prop) (w : World) : Prop :=
  Reb N w [] fun w50 => C_cellplanelaw26_same_1 N Q t0 w1 client2 number3 w50

theorem cellplanelaw26_same_snd (N : Nat) (t0 : Option Addr) (w1 : Option Addr) (client2 : Int) (number3 : Int) (Q : Value → World → Prop) (w : World) (h : F_cellplanelaw26_same N t0 w1 client2 number3 Q w) : Snd (cx N (fun d => memN d [9, 11])) (bodyOf Go.Proofs.Try.f22) (retD (cx N (fun d => memN d [9, 11])) Go.Proofs.Try.f22 Q) (entry 92 [(.pointer t0), (.pointer w1), (.int .i64 client2), (.int .i64 number3)]) w :=
  (Snd.cast (c' := .seq (cL (bodyOf Go.Proofs.Try.f22)) (cR (bodyOf Go.Proofs.Try.f22))) (by kernel_rfl) (Snd.seq (H_cellplanelaw26_same_1 N Q) (den_sound okc mixed _ _ _ _ (mpr' (by kernel_rfl) h)) (fun s w h => T_cellplanelaw26_same_1 N Q s w h)))

theorem cellplanelaw26_same_calls (t0 : Option Addr) (w1 : Option Addr) (client2 : Int) (number3 : Int) (Q : Value → World → Prop) (w : World) (h : F_cellplanelaw26_same w.heap.size t0 w1 client2 number3 Q w) : Calls PP n_cellplanelaw26_same [(.pointer t0), (.pointer w1), (.int .i64 client2), (.int .i64 number3)].toArray w fun e w' => ∃ v, e = .returned v ∧ Q v w' :=
  calls_of (C := cx w.heap.size (fun d => memN d [9, 11])) (fn := Go.Proofs.Try.f22) (c := (bodyOf Go.Proofs.Try.f22)) (by kernel_rfl) (by kernel_rfl) (Nat.le_refl _) (cellplanelaw26_same_snd _ t0 w1 client2 number3 Q w h)

/-! ### cellplanemill_Mod -/
def F_cellplanemill_Mod (N : Nat) (v0 : Int) (n1 : Int) (Q : Value → World → Prop) (w : World) : Prop :=
  (n1 : Int) ≠ 0 ∧ IfB (decide (((Int.tmod v0 n1) : Int) < 0)) (Reb N w [] (Q (.int .i64 (IntKind.i64.wrap ((Int.tmod v0 n1) + n1))))) (Reb N w [] (Q (.int .i64 (Int.tmod v0 n1))))

theorem cellplanemill_Mod_snd (N : Nat) (v0 : Int) (n1 : Int) (Q : Value → World → Prop) (w : World) (h : F_cellplanemill_Mod N v0 n1 Q w) : Snd (cx N (fun d => memN d [])) (bodyOf Go.Proofs.Try.f23) (retD (cx N (fun d => memN d [])) Go.Proofs.Try.f23 Q) (entry 15 [(.int .i64 v0), (.int .i64 n1)]) w :=
  (den_sound okc mixed _ _ _ _ (mpr' (by kernel_rfl) h))

theorem cellplanemill_Mod_calls (v0 : Int) (n1 : Int) (Q : Value → World → Prop) (w : World) (h : F_cellplanemill_Mod w.heap.size v0 n1 Q w) : Calls PP n_cellplanemill_Mod [(.int .i64 v0), (.int .i64 n1)].toArray w fun e w' => ∃ v, e = .returned v ∧ Q v w' :=
  calls_of (C := cx w.heap.size (fun d => memN d [])) (fn := Go.Proofs.Try.f23) (c := (bodyOf Go.Proofs.Try.f23)) (by kernel_rfl) (by kernel_rfl) (Nat.le_refl _) (cellplanemill_Mod_snd _ v0 n1 Q w h)

/-! ### cellplaneref26_Same -/
def F_cellplaneref26_Same (N : Nat) (a0 : Option Addr) (b1 : Option Addr) (Q : Value → World → Prop) (w : World) : Prop :=
  NilL a0 fun q1 => ∃ cs2 : List Value, cs2.length = 40 ∧ At w q1 cs2 ∧ NotIn (q1 : Addr).block [] ∧ NilL b1 fun q3 => ∃ cs4 : List Value, cs4.length = 40 ∧ At w q3 cs4 ∧ NotIn (q3 : Addr).block [] ∧ ∃ b5 : Bool, (∀ wr : World, (eqSem .eql t_cellplaneref26_Table (.agg (List.toArray cs2)) (.agg (List.toArray cs4))).run PP wr = .ok (.bool b5) wr) ∧ Reb N w [] (Q (.bool b5))

theorem cellplaneref26_Same_snd (N : Nat) (a0 : Option Addr) (b1 : Option Addr) (Q : Value → World → Prop) (w : World) (h : F_cellplaneref26_Same N a0 b1 Q w) : Snd (cx N (fun d => memN d [])) (bodyOf Go.Proofs.Try.f24) (retD (cx N (fun d => memN d [])) Go.Proofs.Try.f24 Q) (entry 12 [(.pointer a0), (.pointer b1)]) w :=
  (den_sound okc mixed _ _ _ _ (mpr' (by kernel_rfl) h))

theorem cellplaneref26_Same_calls (a0 : Option Addr) (b1 : Option Addr) (Q : Value → World → Prop) (w : World) (h : F_cellplaneref26_Same w.heap.size a0 b1 Q w) : Calls PP n_cellplaneref26_Same [(.pointer a0), (.pointer b1)].toArray w fun e w' => ∃ v, e = .returned v ∧ Q v w' :=
  calls_of (C := cx w.heap.size (fun d => memN d [])) (fn := Go.Proofs.Try.f24) (c := (bodyOf Go.Proofs.Try.f24)) (by kernel_rfl) (by kernel_rfl) (Nat.le_refl _) (cellplaneref26_Same_snd _ a0 b1 Q w h)

/-! ### session_Table_Copy -/
def F_session_Table_Copy (N : Nat) (t0 : Option Addr) (Q : Value → World → Prop) (w : World) : Prop :=
  NilL t0 fun q1 => ∃ cs2 : List Value, cs2.length = 40 ∧ At w q1 cs2 ∧ NotIn (q1 : Addr).block [] ∧ NewL N w [] Z_session_Table t_session_Table fun b3 w4 => (cs2).length = 40 ∧ allOne cs2 = true ∧ StL w4 [] ⟨b3, 0, none⟩ cs2 fun w5 => Reb N w5 [] (Q (.pointer (some ⟨b3, 0, none⟩)))

theorem session_Table_Copy_snd (N : Nat) (t0 : Option Addr) (Q : Value → World → Prop) (w : World) (h : F_session_Table_Copy N t0 Q w) : Snd (cx N (fun d => memN d [])) (bodyOf Go.Proofs.Try.f25) (retD (cx N (fun d => memN d [])) Go.Proofs.Try.f25 Q) (entry 7 [(.pointer t0)]) w :=
  (den_sound okc mixed _ _ _ _ (mpr' (by kernel_rfl) h))

theorem session_Table_Copy_calls (t0 : Option Addr) (Q : Value → World → Prop) (w : World) (h : F_session_Table_Copy w.heap.size t0 Q w) : Calls PP n_session_Table_Copy [(.pointer t0)].toArray w fun e w' => ∃ v, e = .returned v ∧ Q v w' :=
  calls_of (C := cx w.heap.size (fun d => memN d [])) (fn := Go.Proofs.Try.f25) (c := (bodyOf Go.Proofs.Try.f25)) (by kernel_rfl) (by kernel_rfl) (Nat.le_refl _) (session_Table_Copy_snd _ t0 Q w h)

/-! ### cellplaneref28_New -/
def F_cellplaneref28_New (N : Nat) (cell0 : Int) (tenant1 : Int) (Q : Value → World → Prop) (w : World) : Prop :=
  NewL N w [] (⟨(⟨none, 0, 0⟩ : Sl)⟩ : G_cellplaneref24_Store).cells t_cellplaneref24_Store fun b1 w2 => NewL N w2 [] (⟨(⟨none, 0, 0⟩ : Sl), (⟨none, 0, 0⟩ : Sl), 0⟩ : G_cellplaneref25_Queue).cells t_cellplaneref25_Queue fun b3 w4 => NewL N w4 [] [(.int .i64 0), (.int .i64 0), (.int .i64 0), (.int .i64 0), (.int .i64 0), (.int .i64 0), (.int .i64 0), (.int .i64 0), (.int .i64 0), (.int .i64 0), (.int .i64 0), (.string ByteArray.empty), (.int .i64 0), (.int .i64 0), (.int .i64 0), (.string ByteArray.empty), (.int .i64 0), (.int .i64 0), (.int .i64 0), (.string ByteArray.empty), (.int .i64 0), (.int .i64 0), (.int .i64 0), (.string ByteArray.empty), (.int .i64 0), (.int .i64 0), (.int .i64 0), (.string ByteArray.empty), (.int .i64 0), (.int .i64 0), (.int .i64 0), (.string ByteArray.empty), (.int .i64 0), (.int .i64 0), (.int .i64 0), (.string ByteArray.empty), (.int .i64 0), (.int .i64 0), (.int .i64 0), (.string ByteArray.empty)] t_cellplaneref26_Table fun b5 w6 => NewL N w6 [] (⟨cell0, 0, (⟨none, 0, 0⟩ : Sl)⟩ : G_cellplaneref27_Gate).cells t_cellplaneref27_Gate fun b7 w8 => NewL N w8 [] (⟨cell0, tenant1, (⟨none, 0, 0⟩ : Sl), (some ⟨b1, 0, none⟩), (some ⟨b3, 0, none⟩), (some ⟨b5, 0, none⟩), (some ⟨b7, 0, none⟩)⟩ : G_cellplaneref28_Copy).cells t_cellplaneref28_Copy fun b9 w10 => Reb N w10 [] (Q (.pointer (some ⟨b9, 0, none⟩)))

theorem cellplaneref28_New_snd (N : Nat) (cell0 : Int) (tenant1 : Int) (Q : Value → World → Prop) (w : World) (h : F_cellplaneref28_New N cell0 tenant1 Q w) : Snd (cx N (fun d => memN d [])) (bodyOf Go.Proofs.Try.f26) (retD (cx N (fun d => memN d [])) Go.Proofs.Try.f26 Q) (entry 18 [(.int .i64 cell0), (.int .i64 tenant1)]) w :=
  (den_sound okc mixed _ _ _ _ (mpr' (by kernel_rfl) h))

theorem cellplaneref28_New_calls (cell0 : Int) (tenant1 : Int) (Q : Value → World → Prop) (w : World) (h : F_cellplaneref28_New w.heap.size cell0 tenant1 Q w) : Calls PP n_cellplaneref28_New [(.int .i64 cell0), (.int .i64 tenant1)].toArray w fun e w' => ∃ v, e = .returned v ∧ Q v w' :=
  calls_of (C := cx w.heap.size (fun d => memN d [])) (fn := Go.Proofs.Try.f26) (c := (bodyOf Go.Proofs.Try.f26)) (by kernel_rfl) (by kernel_rfl) (Nat.le_refl _) (cellplaneref28_New_snd _ cell0 tenant1 Q w h)

/-! ### cellplanemill_Grow -/
def D_cellplanemill_Grow_2 (K : ((Option Addr) × (Option Addr) × Int) → (Int × Int) → Prop) : List Value → List LB → Prop := fun vs ls => match vs, ls with
  | [.pointer t0', .pointer c1', .int .i64 epoch2', .int .i64 most3', .int .i64 i8'], [] => K (t0', c1', most3') (epoch2', i8')
  | _, _ => False

noncomputable def z_cellplanemill_Grow_0 (N : Nat) (Q : Value → World → Prop) : Cont := (inBlockD 0 (retD (cx N (fun d => memN d [])) Go.Proofs.Try.f27 Q))

noncomputable def k_cellplanemill_Grow_1 : Code := (cR (cL (cL (cR (bodyOf Go.Proofs.Try.f27)))))

noncomputable def z_cellplanemill_Grow_2 (N : Nat) (K1 : ((Option Addr) × (Option Addr) × Int) → (Int × Int) → World → Prop) (Q : Value → World → Prop) : Cont := (thenD (HeadK N 29 [.val 0, .val 1, .val 2, .val 3, .val 8] D_cellplanemill_Grow_2 K1) (z_cellplanemill_Grow_0 N Q))

def C_cellplanemill_Grow_4 (N : Nat) (K1 : ((Option Addr) × (Option Addr) × Int) → (Int × Int) → World → Prop) (Q : Value → World → Prop) (t0' c1' : Option Addr) (epoch2' most3' i8' : Int) (w : World) : Prop :=
  Reb N w [] fun w1 => K1 (t0', c1', most3') (epoch2', (IntKind.i64.wrap (i8' + 1))) w1

theorem X_cellplanemill_Grow_4 {N : Nat} {K1 : ((Option Addr) × (Option Addr) × Int) → (Int × Int) → World → Prop} {Q : Value → World → Prop} {t0' c1' : Option Addr} {epoch2' most3' i8' : Int} {w : World} (h : C_cellplanemill_Grow_4 N K1 Q t0' c1' epoch2' most3' i8' w) : Snd (cx N (fun d => memN d [])) (cR k_cellplanemill_Grow_1) (z_cellplanemill_Grow_2 N K1 Q) (mkS 29 [.val 0, .val 1, .val 2, .val 3, .val 8] [(.pointer t0'), (.pointer c1'), (.int .i64 epoch2'), (.int .i64 most3'), (.int .i64 i8')] []) w :=
  (den_sound okc mixed _ _ _ _ (mpr' (by kernel_rfl) h))

noncomputable def H_cellplanemill_Grow_4 (N : Nat) (K1 : ((Option Addr) × (Option Addr) × Int) → (Int × Int) → World → Prop) (Q : Value → World → Prop) : St → World → Prop := fun s w => grabK 29 [.val 0, .val 1, .val 2, .val 3, .val 8] s fun vs ls => match vs, ls with
  | [.pointer t0', .pointer c1', .int .i64 epoch2', .int .i64 most3', .int .i64 i8'], [] => Reb N w s.L fun wa => C_cellplanemill_Grow_4 N K1 Q t0' c1' epoch2' most3' i8' wa
  | _, _ => False

theorem T_cellplanemill_Grow_4 (N : Nat) (K1 : ((Option Addr) × (Option Addr) × Int) → (Int × Int) → World → Prop) (Q : Value → World → Prop) (s : St) (w : World) (h : H_cellplanemill_Grow_4 N K1 Q s w) : Snd (cx N (fun d => memN d [])) (cR k_cellplanemill_Grow_1) (z_cellplanemill_Grow_2 N K1 Q) s w := by
  refine Snd.grab h (fun vs ls hd hloc wa hl => ?_)
  split at hd
  · exact X_cellplanemill_Grow_4 (hd wa hl)
  · exact hd.elim

noncomputable def z_cellplanemill_Grow_3 (N : Nat) (K1 : ((Option Addr) × (Option Addr) × Int) → (Int × Int) → World → Prop) (Q : Value → World → Prop) : Cont := (inBlockD 1 (thenD (H_cellplanemill_Grow_4 N K1 Q) (z_cellplanemill_Grow_2 N K1 Q)))

def C_cellplanemill_Grow_5 (N : Nat) (K1 : ((Option Addr) × (Option Addr) × Int) → (Int × Int) → World → Prop) (Q : Value → World → Prop) (t0' c1' : Option Addr) (epoch2' most3' i8' : Int) (w : World) : Prop :=
  CallL PP N w [] n_cellplanemill_Change [(.pointer t0'), (.pointer c1'), (.int .i64 epoch2')] fun r3 w4 => ∃ x2 : G_api_Change, r3 = (.agg (List.toArray x2.cells)) ∧ CallL PP N w4 [] n_cellplaneref28_Copy_Apply [(.pointer c1'), (.agg (List.toArray x2.cells))] fun r6 w7 => ∃ n5 : Int, r6 = (.int .i64 n5) ∧ Reb N w7 [] fun w8 => C_cellplanemill_Grow_4 N K1 Q t0' c1' epoch2' most3' i8' w8

theorem X_cellplanemill_Grow_5 {N : Nat} {K1 : ((Option Addr) × (Option Addr) × Int) → (Int × Int) → World → Prop} {Q : Value → World → Prop} {t0' c1' : Option Addr} {epoch2' most3' i8' : Int} {w : World} (h : C_cellplanemill_Grow_5 N K1 Q t0' c1' epoch2' most3' i8' w) : Snd (cx N (fun d => memN d [])) (cR (cL (cL k_cellplanemill_Grow_1))) (z_cellplanemill_Grow_3 N K1 Q) (mkS 29 [.val 0, .val 1, .val 2, .val 3, .val 8] [(.pointer t0'), (.pointer c1'), (.int .i64 epoch2'), (.int .i64 most3'), (.int .i64 i8')] []) w :=
  (den_sound okc mixed _ _ _ _ (mpr' (by kernel_rfl) h))

noncomputable def H_cellplanemill_Grow_5 (N : Nat) (K1 : ((Option Addr) × (Option Addr) × Int) → (Int × Int) → World → Prop) (Q : Value → World → Prop) : St → World → Prop := fun s w => grabK 29 [.val 0, .val 1, .val 2, .val 3, .val 8] s fun vs ls => match vs, ls with
  | [.pointer t0', .pointer c1', .int .i64 epoch2', .int .i64 most3', .int .i64 i8'], [] => Reb N w s.L fun wa => C_cellplanemill_Grow_5 N K1 Q t0' c1' epoch2' most3' i8' wa
  | _, _ => False

theorem T_cellplanemill_Grow_5 (N : Nat) (K1 : ((Option Addr) × (Option Addr) × Int) → (Int × Int) → World → Prop) (Q : Value → World → Prop) (s : St) (w : World) (h : H_cellplanemill_Grow_5 N K1 Q s w) : Snd (cx N (fun d => memN d [])) (cR (cL (cL k_cellplanemill_Grow_1))) (z_cellplanemill_Grow_3 N K1 Q) s w := by
  refine Snd.grab h (fun vs ls hd hloc wa hl => ?_)
  split at hd
  · exact X_cellplanemill_Grow_5 (hd wa hl)
  · exact hd.elim

def C_cellplanemill_Grow_3 (N : Nat) (K1 : ((Option Addr) × (Option Addr) × Int) → (Int × Int) → World → Prop) (Q : Value → World → Prop) (t0' c1' : Option Addr) (epoch2' most3' i8' : Int) (w : World) : Prop :=
  CallL PP N w [] n_cellplanemill_Tape_Next [(.pointer t0'), (.int .i64 7)] fun r10 w11 => ∃ n9 : Int, r10 = (.int .i64 n9) ∧ IfB (decide ((n9 : Int) = 6)) (Reb N w11 [] fun w12 => C_cellplanemill_Grow_5 N K1 Q t0' c1' (IntKind.i64.wrap (epoch2' + 1)) most3' i8' w12) (Reb N w11 [] fun w13 => C_cellplanemill_Grow_5 N K1 Q t0' c1' epoch2' most3' i8' w13)

theorem X_cellplanemill_Grow_3 {N : Nat} {K1 : ((Option Addr) × (Option Addr) × Int) → (Int × Int) → World → Prop} {Q : Value → World → Prop} {t0' c1' : Option Addr} {epoch2' most3' i8' : Int} {w : World} (h : C_cellplanemill_Grow_3 N K1 Q t0' c1' epoch2' most3' i8' w) : Snd (cx N (fun d => memN d [])) k_cellplanemill_Grow_1 (z_cellplanemill_Grow_2 N K1 Q) (mkS 29 [.val 0, .val 1, .val 2, .val 3, .val 8] [(.pointer t0'), (.pointer c1'), (.int .i64 epoch2'), (.int .i64 most3'), (.int .i64 i8')] []) w :=
  (Snd.cast (c' := .seq (cL k_cellplanemill_Grow_1) (cR k_cellplanemill_Grow_1)) (by kernel_rfl) (Snd.seq (H_cellplanemill_Grow_4 N K1 Q) (Snd.cast (c' := .block 1 (cL (cL k_cellplanemill_Grow_1))) (by kernel_rfl) (Snd.block (Snd.cast (c' := .seq (cL (cL (cL k_cellplanemill_Grow_1))) (cR (cL (cL k_cellplanemill_Grow_1)))) (by kernel_rfl) (Snd.seq (H_cellplanemill_Grow_5 N K1 Q) (den_sound okc mixed _ _ _ _ (mpr' (by kernel_rfl) h)) (fun s w h => T_cellplanemill_Grow_5 N K1 Q s w h))))) (fun s w h => T_cellplanemill_Grow_4 N K1 Q s w h)))

noncomputable def H_cellplanemill_Grow_3 (N : Nat) (K1 : ((Option Addr) × (Option Addr) × Int) → (Int × Int) → World → Prop) (Q : Value → World → Prop) : St → World → Prop := fun s w => grabK 29 [.val 0, .val 1, .val 2, .val 3, .val 8] s fun vs ls => match vs, ls with
  | [.pointer t0', .pointer c1', .int .i64 epoch2', .int .i64 most3', .int .i64 i8'], [] => Reb N w s.L fun wa => C_cellplanemill_Grow_3 N K1 Q t0' c1' epoch2' most3' i8' wa
  | _, _ => False

theorem T_cellplanemill_Grow_3 (N : Nat) (K1 : ((Option Addr) × (Option Addr) × Int) → (Int × Int) → World → Prop) (Q : Value → World → Prop) (s : St) (w : World) (h : H_cellplanemill_Grow_3 N K1 Q s w) : Snd (cx N (fun d => memN d [])) k_cellplanemill_Grow_1 (z_cellplanemill_Grow_2 N K1 Q) s w := by
  refine Snd.grab h (fun vs ls hd hloc wa hl => ?_)
  split at hd
  · exact X_cellplanemill_Grow_3 (hd wa hl)
  · exact hd.elim

def B_cellplanemill_Grow_2 (N : Nat) (K1 : ((Option Addr) × (Option Addr) × Int) → (Int × Int) → World → Prop) (Q : Value → World → Prop) (t0' c1' : Option Addr) (epoch2' most3' i8' : Int) (w : World) : Prop :=
  IfB (decide ((i8' : Int) < most3')) (CallL PP N w [] n_cellplanemill_Tape_More [(.pointer t0')] fun r15 w16 => ∃ b14 : Bool, r15 = (.bool b14) ∧ IfB b14 (Reb N w16 [] fun w17 => C_cellplanemill_Grow_3 N K1 Q t0' c1' epoch2' most3' i8' w17) (Reb N w16 [] (Q (.tuple #[])))) (Reb N w [] (Q (.tuple #[])))

theorem X_cellplanemill_Grow_2 {N : Nat} {K1 : ((Option Addr) × (Option Addr) × Int) → (Int × Int) → World → Prop} {Q : Value → World → Prop} {t0' c1' : Option Addr} {epoch2' most3' i8' : Int} {w : World} (h : B_cellplanemill_Grow_2 N K1 Q t0' c1' epoch2' most3' i8' w) : Snd (cx N (fun d => memN d [])) (cL (cL (cR (bodyOf Go.Proofs.Try.f27)))) (thenD (HeadK N 29 [.val 0, .val 1, .val 2, .val 3, .val 8] D_cellplanemill_Grow_2 K1) (z_cellplanemill_Grow_0 N Q)) (mkS 29 [.val 0, .val 1, .val 2, .val 3, .val 8] [(.pointer t0'), (.pointer c1'), (.int .i64 epoch2'), (.int .i64 most3'), (.int .i64 i8')] []) w :=
  (Snd.cast (c' := .seq (cL (cL (cL (cR (bodyOf Go.Proofs.Try.f27))))) (cR (cL (cL (cR (bodyOf Go.Proofs.Try.f27)))))) (by kernel_rfl) (Snd.seq (H_cellplanemill_Grow_3 N K1 Q) (den_sound okc mixed _ _ _ _ (mpr' (by kernel_rfl) h)) (fun s w h => T_cellplanemill_Grow_3 N K1 Q s w h)))

def L_cellplanemill_Grow_2 (N : Nat) (Q : Value → World → Prop) (K1 : ((Option Addr) × (Option Addr) × Int) → (Int × Int) → World → Prop) (c : (Option Addr) × (Option Addr) × Int) (x : Int × Int) (w : World) : Prop := match c, x with
  | (t0', c1', most3'), (epoch2', i8') => B_cellplanemill_Grow_2 N K1 Q t0' c1' epoch2' most3' i8' w

theorem T_cellplanemill_Grow_2 (N : Nat) (Q : Value → World → Prop) {s : St} {w : World} (h : HeadE N 29 [.val 0, .val 1, .val 2, .val 3, .val 8] D_cellplanemill_Grow_2 (L_cellplanemill_Grow_2 N Q) s w) : Snd (cx N (fun d => memN d [])) (cL (cR (bodyOf Go.Proofs.Try.f27))) (z_cellplanemill_Grow_0 N Q) s w := by
  refine Snd.cast (c' := .loop (cL (cL (cR (bodyOf Go.Proofs.Try.f27))))) (by kernel_rfl) (Snd.loopC (fun (c : (Option Addr) × (Option Addr) × Int) (x : Int × Int) => match c, x with | (t0', c1', most3'), (epoch2', i8') => ([(.pointer t0'), (.pointer c1'), (.int .i64 epoch2'), (.int .i64 most3'), (.int .i64 i8')], [])) ?_ ?_ h)
  · intro K vs ls h
    unfold D_cellplanemill_Grow_2 at h
    split at h
    · exact ⟨_, _, rfl, h⟩
    · exact h.elim
  · rintro K ⟨t0', c1', most3'⟩ ⟨epoch2', i8'⟩ w h
    exact X_cellplanemill_Grow_2 h

def C_cellplanemill_Grow_1 (N : Nat) (Q : Value → World → Prop) (t0' c1' : Option Addr) (epoch2' most3' i8' : Int) (w : World) : Prop :=
  LoopC N w [] ((t0', c1', most3') : (Option Addr) × (Option Addr) × Int) ((epoch2', i8') : Int × Int) (L_cellplanemill_Grow_2 N Q)

theorem X_cellplanemill_Grow_1 {N : Nat} {Q : Value → World → Prop} {t0' c1' : Option Addr} {epoch2' most3' i8' : Int} {w : World} (h : C_cellplanemill_Grow_1 N Q t0' c1' epoch2' most3' i8' w) : Snd (cx N (fun d => memN d [])) (cR (bodyOf Go.Proofs.Try.f27)) (retD (cx N (fun d => memN d [])) Go.Proofs.Try.f27 Q) (mkS 29 [.val 0, .val 1, .val 2, .val 3, .val 8] [(.pointer t0'), (.pointer c1'), (.int .i64 epoch2'), (.int .i64 most3'), (.int .i64 i8')] []) w :=
  (Snd.cast (c' := .block 0 (cL (cR (bodyOf Go.Proofs.Try.f27)))) (by kernel_rfl) (Snd.block (T_cellplanemill_Grow_2 N Q (mpr' (by kernel_rfl) h))))

noncomputable def H_cellplanemill_Grow_1 (N : Nat) (Q : Value → World → Prop) : St → World → Prop := fun s w => grabK 29 [.val 0, .val 1, .val 2, .val 3, .val 8] s fun vs ls => match vs, ls with
  | [.pointer t0', .pointer c1', .int .i64 epoch2', .int .i64 most3', .int .i64 i8'], [] => Reb N w s.L fun wa => C_cellplanemill_Grow_1 N Q t0' c1' epoch2' most3' i8' wa
  | _, _ => False

theorem T_cellplanemill_Grow_1 (N : Nat) (Q : Value → World → Prop) (s : St) (w : World) (h : H_cellplanemill_Grow_1 N Q s w) : Snd (cx N (fun d => memN d [])) (cR (bodyOf Go.Proofs.Try.f27)) (retD (cx N (fun d => memN d [])) Go.Proofs.Try.f27 Q) s w := by
  refine Snd.grab h (fun vs ls hd hloc wa hl => ?_)
  split at hd
  · exact X_cellplanemill_Grow_1 (hd wa hl)
  · exact hd.elim

def F_cellplanemill_Grow (N : Nat) (t0 : Option Addr) (c1 : Option Addr) (epoch2 : Int) (most3 : Int) (Q : Value → World → Prop) (w : World) : Prop :=
  Reb N w [] fun w18 => C_cellplanemill_Grow_1 N Q t0 c1 epoch2 most3 0 w18

theorem cellplanemill_Grow_snd (N : Nat) (t0 : Option Addr) (c1 : Option Addr) (epoch2 : Int) (most3 : Int) (Q : Value → World → Prop) (w : World) (h : F_cellplanemill_Grow N t0 c1 epoch2 most3 Q w) : Snd (cx N (fun d => memN d [])) (bodyOf Go.Proofs.Try.f27) (retD (cx N (fun d => memN d [])) Go.Proofs.Try.f27 Q) (entry 29 [(.pointer t0), (.pointer c1), (.int .i64 epoch2), (.int .i64 most3)]) w :=
  (Snd.cast (c' := .seq (cL (bodyOf Go.Proofs.Try.f27)) (cR (bodyOf Go.Proofs.Try.f27))) (by kernel_rfl) (Snd.seq (H_cellplanemill_Grow_1 N Q) (den_sound okc mixed _ _ _ _ (mpr' (by kernel_rfl) h)) (fun s w h => T_cellplanemill_Grow_1 N Q s w h)))

theorem cellplanemill_Grow_calls (t0 : Option Addr) (c1 : Option Addr) (epoch2 : Int) (most3 : Int) (Q : Value → World → Prop) (w : World) (h : F_cellplanemill_Grow w.heap.size t0 c1 epoch2 most3 Q w) : Calls PP n_cellplanemill_Grow [(.pointer t0), (.pointer c1), (.int .i64 epoch2), (.int .i64 most3)].toArray w fun e w' => ∃ v, e = .returned v ∧ Q v w' :=
  calls_of (C := cx w.heap.size (fun d => memN d [])) (fn := Go.Proofs.Try.f27) (c := (bodyOf Go.Proofs.Try.f27)) (by kernel_rfl) (by kernel_rfl) (Nat.le_refl _) (cellplanemill_Grow_snd _ t0 c1 epoch2 most3 Q w h)

/-! ### cellplanemill_New -/
def F_cellplanemill_New (N : Nat) (l0 : Sl) (Q : Value → World → Prop) (w : World) : Prop :=
  NewL N w [] (⟨l0, 0⟩ : G_cellplanemill_Tape).cells t_cellplanemill_Tape fun b1 w2 => Reb N w2 [] (Q (.pointer (some ⟨b1, 0, none⟩)))

theorem cellplanemill_New_snd (N : Nat) (l0 : Sl) (Q : Value → World → Prop) (w : World) (h : F_cellplanemill_New N l0 Q w) : Snd (cx N (fun d => memN d [])) (bodyOf Go.Proofs.Try.f28) (retD (cx N (fun d => memN d [])) Go.Proofs.Try.f28 Q) (entry 6 [(.slice l0.a l0.n l0.c)]) w :=
  (den_sound okc mixed _ _ _ _ (mpr' (by kernel_rfl) h))

theorem cellplanemill_New_calls (l0 : Sl) (Q : Value → World → Prop) (w : World) (h : F_cellplanemill_New w.heap.size l0 Q w) : Calls PP n_cellplanemill_New [(.slice l0.a l0.n l0.c)].toArray w fun e w' => ∃ v, e = .returned v ∧ Q v w' :=
  calls_of (C := cx w.heap.size (fun d => memN d [])) (fn := Go.Proofs.Try.f28) (c := (bodyOf Go.Proofs.Try.f28)) (by kernel_rfl) (by kernel_rfl) (Nat.le_refl _) (cellplanemill_New_snd _ l0 Q w h)

/-! ### store_Valid -/
def F_store_Valid (N : Nat) (x0 : G_api_Change) (Q : Value → World → Prop) (w : World) : Prop :=
  ∀ b1 : Nat, w.heap.size ≤ b1 → IfB (decide ((x0.Epoch : Int) < 1)) (Reb N w [⟨b1, x0.cells, t_api_Change⟩] (Q (.bool false))) (IfB (decide ((1048576 : Int) < x0.Epoch)) (Reb N w [⟨b1, x0.cells, t_api_Change⟩] (Q (.bool false))) (IfB (decide ((x0.Seq : Int) < 1)) (Reb N w [⟨b1, x0.cells, t_api_Change⟩] (Q (.bool false))) (IfB (decide ((4096 : Int) < x0.Seq)) (Reb N w [⟨b1, x0.cells, t_api_Change⟩] (Q (.bool false))) (IfB (decide ((x0.Client : Int) < 1)) (Reb N w [⟨b1, x0.cells, t_api_Change⟩] (Q (.bool false))) (IfB (decide ((8 : Int) < x0.Client)) (Reb N w [⟨b1, x0.cells, t_api_Change⟩] (Q (.bool false))) (IfB (decide ((x0.Number : Int) < 1)) (Reb N w [⟨b1, x0.cells, t_api_Change⟩] (Q (.bool false))) (IfB (decide ((1048576 : Int) < x0.Number)) (Reb N w [⟨b1, x0.cells, t_api_Change⟩] (Q (.bool false))) (IfB (decide ((x0.Kind : Int) = 1)) (CallL PP N w [⟨b1, x0.cells, t_api_Change⟩] n_store_isKey [(.string x0.Key)] fun r3 w4 => ∃ b2 : Bool, r3 = (.bool b2) ∧ IfB b2 (CallL PP N w4 [⟨b1, x0.cells, t_api_Change⟩] n_store_isValue [(.string x0.Value_)] fun r6 w7 => ∃ b5 : Bool, r6 = (.bool b5) ∧ IfB b5 (Reb N w7 [⟨b1, x0.cells, t_api_Change⟩] (Q (.bool (decide ((x0.Item : Int) = 0))))) (Reb N w7 [⟨b1, x0.cells, t_api_Change⟩] (Q (.bool false)))) (Reb N w4 [⟨b1, x0.cells, t_api_Change⟩] (Q (.bool false)))) (IfB (decide ((x0.Kind : Int) = 2)) (CallL PP N w [⟨b1, x0.cells, t_api_Change⟩] n_store_isKey [(.string x0.Key)] fun r9 w10 => ∃ b8 : Bool, r9 = (.bool b8) ∧ IfB b8 (IfB (strEq x0.Value_ { data := #[] }) (Reb N w10 [⟨b1, x0.cells, t_api_Change⟩] (Q (.bool (decide ((x0.Item : Int) = 0))))) (Reb N w10 [⟨b1, x0.cells, t_api_Change⟩] (Q (.bool false)))) (Reb N w10 [⟨b1, x0.cells, t_api_Change⟩] (Q (.bool false)))) (IfB (decide ((x0.Kind : Int) = 3)) (IfB (strEq x0.Key { data := #[] }) (CallL PP N w [⟨b1, x0.cells, t_api_Change⟩] n_store_isValue [(.string x0.Value_)] fun r12 w13 => ∃ b11 : Bool, r12 = (.bool b11) ∧ IfB b11 (Reb N w13 [⟨b1, x0.cells, t_api_Change⟩] (Q (.bool (decide ((x0.Item : Int) = 0))))) (Reb N w13 [⟨b1, x0.cells, t_api_Change⟩] (Q (.bool false)))) (Reb N w [⟨b1, x0.cells, t_api_Change⟩] (Q (.bool false)))) (IfB (decide ((x0.Kind : Int) = 4)) (IfB (strEq x0.Key { data := #[] }) (IfB (strEq x0.Value_ { data := #[] }) (IfB (decide ((1 : Int) ≤ x0.Item)) (Reb N w [⟨b1, x0.cells, t_api_Change⟩] (Q (.bool (decide ((x0.Item : Int) < x0.Seq))))) (Reb N w [⟨b1, x0.cells, t_api_Change⟩] (Q (.bool false)))) (Reb N w [⟨b1, x0.cells, t_api_Change⟩] (Q (.bool false)))) (Reb N w [⟨b1, x0.cells, t_api_Change⟩] (Q (.bool false)))) (Reb N w [⟨b1, x0.cells, t_api_Change⟩] (Q (.bool false))))))))))))))

theorem store_Valid_snd (N : Nat) (x0 : G_api_Change) (Q : Value → World → Prop) (w : World) (h : F_store_Valid N x0 Q w) : Snd (cx N (fun d => memN d [1])) (bodyOf Go.Proofs.Try.f29) (retD (cx N (fun d => memN d [1])) Go.Proofs.Try.f29 Q) (entry 110 [(.agg (List.toArray x0.cells))]) w :=
  (den_sound okc mixed _ _ _ _ (mpr' (by kernel_rfl) h))

theorem store_Valid_calls (x0 : G_api_Change) (Q : Value → World → Prop) (w : World) (h : F_store_Valid w.heap.size x0 Q w) : Calls PP n_store_Valid [(.agg (List.toArray x0.cells))].toArray w fun e w' => ∃ v, e = .returned v ∧ Q v w' :=
  calls_of (C := cx w.heap.size (fun d => memN d [1])) (fn := Go.Proofs.Try.f29) (c := (bodyOf Go.Proofs.Try.f29)) (by kernel_rfl) (by kernel_rfl) (Nat.le_refl _) (store_Valid_snd _ x0 Q w h)
end Go.Sh
