/- What these functions do, told by computation: a formula for each, and that its calls do what the formula says.
   Conditions: none. -/
import Derived.Test.YtcligpfkmnlhnaaBase
namespace Go.Sh
open Go
set_option linter.unusedVariables false
set_option maxRecDepth 100000

/-! ### cellplanelaw26_sameR -/
noncomputable def k_cellplanelaw26_sameR_0 : Code := (cR (cR (cR (bodyOf Go.Proofs.Try.f22))))

def C_cellplanelaw26_sameR_5 (N : Nat) (Q : Value → World → Prop) (w : World) : Prop :=
  Reb N w [] (Q (.bool true))

theorem X_cellplanelaw26_sameR_5 {N : Nat} {Q : Value → World → Prop} {w : World} (h : C_cellplanelaw26_sameR_5 N Q w) : Snd (cx N (fun d => memN d [9, 11])) (cR (cR k_cellplanelaw26_sameR_0)) (retD (cx N (fun d => memN d [9, 11])) Go.Proofs.Try.f22 Q) (mkS 92 [] [] []) w :=
  (den_sound okc mixed _ _ _ _ (mpr' (by kernel_rfl) h))

noncomputable def H_cellplanelaw26_sameR_5 (N : Nat) (Q : Value → World → Prop) : St → World → Prop := fun s w => grabK 92 [] s fun vs ls => match vs, ls with
  | [], [] => Reb N w s.L fun wa => C_cellplanelaw26_sameR_5 N Q wa
  | _, _ => False

theorem T_cellplanelaw26_sameR_5 (N : Nat) (Q : Value → World → Prop) (s : St) (w : World) (h : H_cellplanelaw26_sameR_5 N Q s w) : Snd (cx N (fun d => memN d [9, 11])) (cR (cR k_cellplanelaw26_sameR_0)) (retD (cx N (fun d => memN d [9, 11])) Go.Proofs.Try.f22 Q) s w := by
  refine Snd.grab h (fun vs ls hd hloc wa hl => ?_)
  split at hd
  · exact X_cellplanelaw26_sameR_5 (hd wa hl)
  · exact hd.elim

noncomputable def z_cellplanelaw26_sameR_1 (N : Nat) (Q : Value → World → Prop) : Cont := (thenD (H_cellplanelaw26_sameR_5 N Q) (retD (cx N (fun d => memN d [9, 11])) Go.Proofs.Try.f22 Q))

def D_cellplanelaw26_sameR_7 (K : ((Option Addr) × (Option Addr) × Nat × Nat × Nat × Nat) → (G_api_Reply × G_api_Reply × Int) → Prop) : List Value → List LB → Prop := fun vs ls => match vs, ls with
  | [.pointer t0', .pointer w1', .int .i64 c13'], [⟨blk9', a9c'_r, Ty9'⟩, ⟨blk11', b11c'_r, Ty11'⟩] => G_api_Reply.decL a9c'_r fun a9c' => G_api_Reply.decL b11c'_r fun b11c' => K (t0', w1', blk9', Ty9', blk11', Ty11') (a9c', b11c', c13')
  | _, _ => False

noncomputable def k_cellplanelaw26_sameR_2 : Code := (cL (cR (cL (cR k_cellplanelaw26_sameR_0))))

noncomputable def z_cellplanelaw26_sameR_3 (N : Nat) (K1 : ((Option Addr) × (Option Addr) × Nat × Nat × Nat × Nat) → (G_api_Reply × G_api_Reply × Int) → World → Prop) (Q : Value → World → Prop) : Cont := (thenD (HeadK N 92 [.val 0, .val 1, .loc 9, .loc 11, .val 13] D_cellplanelaw26_sameR_7 K1) (inBlockD 0 (z_cellplanelaw26_sameR_1 N Q)))

def C_cellplanelaw26_sameR_9 (N : Nat) (K1 : ((Option Addr) × (Option Addr) × Nat × Nat × Nat × Nat) → (G_api_Reply × G_api_Reply × Int) → World → Prop) (Q : Value → World → Prop) (t0' w1' : Option Addr) (blk9' : Nat) (a9c' : G_api_Reply) (Ty9' blk11' : Nat) (b11c' : G_api_Reply) (Ty11' : Nat) (c13' : Int) (w : World) : Prop :=
  Reb N w [⟨blk9', a9c'.cells, Ty9'⟩, ⟨blk11', b11c'.cells, Ty11'⟩] fun w1 => K1 (t0', w1', blk9', Ty9', blk11', Ty11') (a9c', b11c', (IntKind.i64.wrap (c13' + 1))) w1

theorem X_cellplanelaw26_sameR_9 {N : Nat} {K1 : ((Option Addr) × (Option Addr) × Nat × Nat × Nat × Nat) → (G_api_Reply × G_api_Reply × Int) → World → Prop} {Q : Value → World → Prop} {t0' w1' : Option Addr} {blk9' : Nat} {a9c' : G_api_Reply} {Ty9' blk11' : Nat} {b11c' : G_api_Reply} {Ty11' : Nat} {c13' : Int} {w : World} (h : C_cellplanelaw26_sameR_9 N K1 Q t0' w1' blk9' a9c' Ty9' blk11' b11c' Ty11' c13' w) : Snd (cx N (fun d => memN d [9, 11])) (cR (cR (cL k_cellplanelaw26_sameR_2))) (z_cellplanelaw26_sameR_3 N K1 Q) (mkS 92 [.val 0, .val 1, .loc 9, .loc 11, .val 13] [(.pointer t0'), (.pointer w1'), (.int .i64 c13')] [⟨blk9', a9c'.cells, Ty9'⟩, ⟨blk11', b11c'.cells, Ty11'⟩]) w :=
  (den_sound okc mixed _ _ _ _ (mpr' (by kernel_rfl) h))

noncomputable def H_cellplanelaw26_sameR_9 (N : Nat) (K1 : ((Option Addr) × (Option Addr) × Nat × Nat × Nat × Nat) → (G_api_Reply × G_api_Reply × Int) → World → Prop) (Q : Value → World → Prop) : St → World → Prop := fun s w => grabK 92 [.val 0, .val 1, .loc 9, .loc 11, .val 13] s fun vs ls => match vs, ls with
  | [.pointer t0', .pointer w1', .int .i64 c13'], [⟨blk9', a9c'_r, Ty9'⟩, ⟨blk11', b11c'_r, Ty11'⟩] => G_api_Reply.decL a9c'_r fun a9c' => G_api_Reply.decL b11c'_r fun b11c' => Reb N w s.L fun wa => C_cellplanelaw26_sameR_9 N K1 Q t0' w1' blk9' a9c' Ty9' blk11' b11c' Ty11' c13' wa
  | _, _ => False

theorem T_cellplanelaw26_sameR_9 (N : Nat) (K1 : ((Option Addr) × (Option Addr) × Nat × Nat × Nat × Nat) → (G_api_Reply × G_api_Reply × Int) → World → Prop) (Q : Value → World → Prop) (s : St) (w : World) (h : H_cellplanelaw26_sameR_9 N K1 Q s w) : Snd (cx N (fun d => memN d [9, 11])) (cR (cR (cL k_cellplanelaw26_sameR_2))) (z_cellplanelaw26_sameR_3 N K1 Q) s w := by
  refine Snd.grab h (fun vs ls hd hloc wa hl => ?_)
  split at hd
  · obtain ⟨a9c', rfl, hd0⟩ := G_api_Reply.decL_spec hd
    obtain ⟨b11c', rfl, hd1⟩ := G_api_Reply.decL_spec hd0
    exact X_cellplanelaw26_sameR_9 (hd1 wa hl)
  · exact hd.elim

noncomputable def k_cellplanelaw26_sameR_4 : Code := (cR (cL (cL (cR (cL k_cellplanelaw26_sameR_2)))))

noncomputable def z_cellplanelaw26_sameR_5 (N : Nat) (K1 : ((Option Addr) × (Option Addr) × Nat × Nat × Nat × Nat) → (G_api_Reply × G_api_Reply × Int) → World → Prop) (Q : Value → World → Prop) : Cont := (inBlockD 1 (thenD (H_cellplanelaw26_sameR_9 N K1 Q) (z_cellplanelaw26_sameR_3 N K1 Q)))

def D_cellplanelaw26_sameR_11 (K : ((Option Addr) × (Option Addr) × Int × Nat × Nat × Nat × Nat) → (G_api_Reply × G_api_Reply × Int) → Prop) : List Value → List LB → Prop := fun vs ls => match vs, ls with
  | [.pointer t0', .pointer w1', .int .i64 c13', .int .i64 k14'], [⟨blk9', a9c'_r, Ty9'⟩, ⟨blk11', b11c'_r, Ty11'⟩] => G_api_Reply.decL a9c'_r fun a9c' => G_api_Reply.decL b11c'_r fun b11c' => K (t0', w1', c13', blk9', Ty9', blk11', Ty11') (a9c', b11c', k14')
  | _, _ => False

def B_cellplanelaw26_sameR_11 (N : Nat) (K1 : ((Option Addr) × (Option Addr) × Nat × Nat × Nat × Nat) → (G_api_Reply × G_api_Reply × Int) → World → Prop) (K2 : ((Option Addr) × (Option Addr) × Int × Nat × Nat × Nat × Nat) → (G_api_Reply × G_api_Reply × Int) → World → Prop) (Q : Value → World → Prop) (t0' w1' : Option Addr) (blk9' : Nat) (a9c' : G_api_Reply) (Ty9' blk11' : Nat) (b11c' : G_api_Reply) (Ty11' : Nat) (c13' k14' : Int) (w : World) : Prop :=
  IfB (decide ((k14' : Int) ≤ 2)) (CallL PP N w [⟨blk9', a9c'.cells, Ty9'⟩, ⟨blk11', b11c'.cells, Ty11'⟩] n_cellplaneref26_Table_Last [(.pointer w1'), (.int .i64 c13')] fun r3 w4 => ∃ n2 : Int, r3 = (.int .i64 n2) ∧ CallL PP N w4 [⟨blk9', a9c'.cells, Ty9'⟩, ⟨blk11', b11c'.cells, Ty11'⟩] n_session_Table_Find [(.pointer t0'), (.int .i64 c13'), (.int .i64 (IntKind.i64.wrap (n2 + k14')))] fun r7 w8 => ∃ x5 : G_api_Reply, ∃ n6 : Int, r7 = (.tuple #[(.agg (List.toArray x5.cells)), (.int .i64 n6)]) ∧ CallL PP N w8 [⟨blk9', x5.cells, Ty9'⟩, ⟨blk11', b11c'.cells, Ty11'⟩] n_cellplaneref26_Table_Last [(.pointer w1'), (.int .i64 c13')] fun r10 w11 => ∃ n9 : Int, r10 = (.int .i64 n9) ∧ CallL PP N w11 [⟨blk9', x5.cells, Ty9'⟩, ⟨blk11', b11c'.cells, Ty11'⟩] n_cellplaneref26_Table_Find [(.pointer w1'), (.int .i64 c13'), (.int .i64 (IntKind.i64.wrap (n9 + k14')))] fun r14 w15 => ∃ x12 : G_api_Reply, ∃ n13 : Int, r14 = (.tuple #[(.agg (List.toArray x12.cells)), (.int .i64 n13)]) ∧ IfB (!(G_api_Reply.eqb x5 x12)) (Reb N w15 [⟨blk9', x5.cells, Ty9'⟩, ⟨blk11', x12.cells, Ty11'⟩] (Q (.bool false))) (IfB (!decide ((n6 : Int) = n13)) (Reb N w15 [⟨blk9', x5.cells, Ty9'⟩, ⟨blk11', x12.cells, Ty11'⟩] (Q (.bool false))) (Reb N w15 [⟨blk9', x5.cells, Ty9'⟩, ⟨blk11', x12.cells, Ty11'⟩] fun w16 => K2 (t0', w1', c13', blk9', Ty9', blk11', Ty11') (x5, x12, (IntKind.i64.wrap (k14' + 1))) w16))) (Reb N w [⟨blk9', a9c'.cells, Ty9'⟩, ⟨blk11', b11c'.cells, Ty11'⟩] fun w17 => C_cellplanelaw26_sameR_9 N K1 Q t0' w1' blk9' a9c' Ty9' blk11' b11c' Ty11' c13' w17)

theorem X_cellplanelaw26_sameR_11 {N : Nat} {K1 : ((Option Addr) × (Option Addr) × Nat × Nat × Nat × Nat) → (G_api_Reply × G_api_Reply × Int) → World → Prop} {K2 : ((Option Addr) × (Option Addr) × Int × Nat × Nat × Nat × Nat) → (G_api_Reply × G_api_Reply × Int) → World → Prop} {Q : Value → World → Prop} {t0' w1' : Option Addr} {blk9' : Nat} {a9c' : G_api_Reply} {Ty9' blk11' : Nat} {b11c' : G_api_Reply} {Ty11' : Nat} {c13' k14' : Int} {w : World} (h : B_cellplanelaw26_sameR_11 N K1 K2 Q t0' w1' blk9' a9c' Ty9' blk11' b11c' Ty11' c13' k14' w) : Snd (cx N (fun d => memN d [9, 11])) (cL (cL k_cellplanelaw26_sameR_4)) (thenD (HeadK N 92 [.val 0, .val 1, .loc 9, .loc 11, .val 13, .val 14] D_cellplanelaw26_sameR_11 K2) (inBlockD 2 (z_cellplanelaw26_sameR_5 N K1 Q))) (mkS 92 [.val 0, .val 1, .loc 9, .loc 11, .val 13, .val 14] [(.pointer t0'), (.pointer w1'), (.int .i64 c13'), (.int .i64 k14')] [⟨blk9', a9c'.cells, Ty9'⟩, ⟨blk11', b11c'.cells, Ty11'⟩]) w :=
  (den_sound okc mixed _ _ _ _ (mpr' (by kernel_rfl) h))

def L_cellplanelaw26_sameR_11 (N : Nat) (K1 : ((Option Addr) × (Option Addr) × Nat × Nat × Nat × Nat) → (G_api_Reply × G_api_Reply × Int) → World → Prop) (Q : Value → World → Prop) (K2 : ((Option Addr) × (Option Addr) × Int × Nat × Nat × Nat × Nat) → (G_api_Reply × G_api_Reply × Int) → World → Prop) (c : (Option Addr) × (Option Addr) × Int × Nat × Nat × Nat × Nat) (x : G_api_Reply × G_api_Reply × Int) (w : World) : Prop := match c, x with
  | (t0', w1', c13', blk9', Ty9', blk11', Ty11'), (a9c', b11c', k14') => B_cellplanelaw26_sameR_11 N K1 K2 Q t0' w1' blk9' a9c' Ty9' blk11' b11c' Ty11' c13' k14' w

theorem T_cellplanelaw26_sameR_11 (N : Nat) (K1 : ((Option Addr) × (Option Addr) × Nat × Nat × Nat × Nat) → (G_api_Reply × G_api_Reply × Int) → World → Prop) (Q : Value → World → Prop) {s : St} {w : World} (h : HeadE N 92 [.val 0, .val 1, .loc 9, .loc 11, .val 13, .val 14] D_cellplanelaw26_sameR_11 (L_cellplanelaw26_sameR_11 N K1 Q) s w) : Snd (cx N (fun d => memN d [9, 11])) (cL k_cellplanelaw26_sameR_4) (inBlockD 2 (z_cellplanelaw26_sameR_5 N K1 Q)) s w := by
  refine Snd.cast (c' := .loop (cL (cL k_cellplanelaw26_sameR_4))) (by kernel_rfl) (Snd.loopC (fun (c : (Option Addr) × (Option Addr) × Int × Nat × Nat × Nat × Nat) (x : G_api_Reply × G_api_Reply × Int) => match c, x with | (t0', w1', c13', blk9', Ty9', blk11', Ty11'), (a9c', b11c', k14') => ([(.pointer t0'), (.pointer w1'), (.int .i64 c13'), (.int .i64 k14')], [⟨blk9', a9c'.cells, Ty9'⟩, ⟨blk11', b11c'.cells, Ty11'⟩])) ?_ ?_ h)
  · intro K vs ls h
    unfold D_cellplanelaw26_sameR_11 at h
    split at h
    · obtain ⟨a9c', rfl, h0⟩ := G_api_Reply.decL_spec h
      obtain ⟨b11c', rfl, h1⟩ := G_api_Reply.decL_spec h0
      exact ⟨_, _, rfl, h1⟩
    · exact h.elim
  · rintro K ⟨t0', w1', c13', blk9', Ty9', blk11', Ty11'⟩ ⟨a9c', b11c', k14'⟩ w h
    exact X_cellplanelaw26_sameR_11 h

def C_cellplanelaw26_sameR_10 (N : Nat) (K1 : ((Option Addr) × (Option Addr) × Nat × Nat × Nat × Nat) → (G_api_Reply × G_api_Reply × Int) → World → Prop) (Q : Value → World → Prop) (t0' w1' : Option Addr) (blk9' : Nat) (a9c' : G_api_Reply) (Ty9' blk11' : Nat) (b11c' : G_api_Reply) (Ty11' : Nat) (c13' k14' : Int) (w : World) : Prop :=
  LoopC N w [⟨blk9', a9c'.cells, Ty9'⟩, ⟨blk11', b11c'.cells, Ty11'⟩] ((t0', w1', c13', blk9', Ty9', blk11', Ty11') : (Option Addr) × (Option Addr) × Int × Nat × Nat × Nat × Nat) ((a9c', b11c', k14') : G_api_Reply × G_api_Reply × Int) (L_cellplanelaw26_sameR_11 N K1 Q)

theorem X_cellplanelaw26_sameR_10 {N : Nat} {K1 : ((Option Addr) × (Option Addr) × Nat × Nat × Nat × Nat) → (G_api_Reply × G_api_Reply × Int) → World → Prop} {Q : Value → World → Prop} {t0' w1' : Option Addr} {blk9' : Nat} {a9c' : G_api_Reply} {Ty9' blk11' : Nat} {b11c' : G_api_Reply} {Ty11' : Nat} {c13' k14' : Int} {w : World} (h : C_cellplanelaw26_sameR_10 N K1 Q t0' w1' blk9' a9c' Ty9' blk11' b11c' Ty11' c13' k14' w) : Snd (cx N (fun d => memN d [9, 11])) k_cellplanelaw26_sameR_4 (z_cellplanelaw26_sameR_5 N K1 Q) (mkS 92 [.val 0, .val 1, .loc 9, .loc 11, .val 13, .val 14] [(.pointer t0'), (.pointer w1'), (.int .i64 c13'), (.int .i64 k14')] [⟨blk9', a9c'.cells, Ty9'⟩, ⟨blk11', b11c'.cells, Ty11'⟩]) w :=
  (Snd.cast (c' := .block 2 (cL k_cellplanelaw26_sameR_4)) (by kernel_rfl) (Snd.block (T_cellplanelaw26_sameR_11 N K1 Q (mpr' (by kernel_rfl) h))))

noncomputable def H_cellplanelaw26_sameR_10 (N : Nat) (K1 : ((Option Addr) × (Option Addr) × Nat × Nat × Nat × Nat) → (G_api_Reply × G_api_Reply × Int) → World → Prop) (Q : Value → World → Prop) : St → World → Prop := fun s w => grabK 92 [.val 0, .val 1, .loc 9, .loc 11, .val 13, .val 14] s fun vs ls => match vs, ls with
  | [.pointer t0', .pointer w1', .int .i64 c13', .int .i64 k14'], [⟨blk9', a9c'_r, Ty9'⟩, ⟨blk11', b11c'_r, Ty11'⟩] => G_api_Reply.decL a9c'_r fun a9c' => G_api_Reply.decL b11c'_r fun b11c' => Reb N w s.L fun wa => C_cellplanelaw26_sameR_10 N K1 Q t0' w1' blk9' a9c' Ty9' blk11' b11c' Ty11' c13' k14' wa
  | _, _ => False

theorem T_cellplanelaw26_sameR_10 (N : Nat) (K1 : ((Option Addr) × (Option Addr) × Nat × Nat × Nat × Nat) → (G_api_Reply × G_api_Reply × Int) → World → Prop) (Q : Value → World → Prop) (s : St) (w : World) (h : H_cellplanelaw26_sameR_10 N K1 Q s w) : Snd (cx N (fun d => memN d [9, 11])) k_cellplanelaw26_sameR_4 (z_cellplanelaw26_sameR_5 N K1 Q) s w := by
  refine Snd.grab h (fun vs ls hd hloc wa hl => ?_)
  split at hd
  · obtain ⟨a9c', rfl, hd0⟩ := G_api_Reply.decL_spec hd
    obtain ⟨b11c', rfl, hd1⟩ := G_api_Reply.decL_spec hd0
    exact X_cellplanelaw26_sameR_10 (hd1 wa hl)
  · exact hd.elim

def C_cellplanelaw26_sameR_8 (N : Nat) (K1 : ((Option Addr) × (Option Addr) × Nat × Nat × Nat × Nat) → (G_api_Reply × G_api_Reply × Int) → World → Prop) (Q : Value → World → Prop) (t0' w1' : Option Addr) (blk9' : Nat) (a9c' : G_api_Reply) (Ty9' blk11' : Nat) (b11c' : G_api_Reply) (Ty11' : Nat) (c13' : Int) (w : World) : Prop :=
  Reb N w [⟨blk9', a9c'.cells, Ty9'⟩, ⟨blk11', b11c'.cells, Ty11'⟩] fun w18 => C_cellplanelaw26_sameR_10 N K1 Q t0' w1' blk9' a9c' Ty9' blk11' b11c' Ty11' c13' (-1) w18

theorem X_cellplanelaw26_sameR_8 {N : Nat} {K1 : ((Option Addr) × (Option Addr) × Nat × Nat × Nat × Nat) → (G_api_Reply × G_api_Reply × Int) → World → Prop} {Q : Value → World → Prop} {t0' w1' : Option Addr} {blk9' : Nat} {a9c' : G_api_Reply} {Ty9' blk11' : Nat} {b11c' : G_api_Reply} {Ty11' : Nat} {c13' : Int} {w : World} (h : C_cellplanelaw26_sameR_8 N K1 Q t0' w1' blk9' a9c' Ty9' blk11' b11c' Ty11' c13' w) : Snd (cx N (fun d => memN d [9, 11])) (cR (cL k_cellplanelaw26_sameR_2)) (z_cellplanelaw26_sameR_3 N K1 Q) (mkS 92 [.val 0, .val 1, .loc 9, .loc 11, .val 13] [(.pointer t0'), (.pointer w1'), (.int .i64 c13')] [⟨blk9', a9c'.cells, Ty9'⟩, ⟨blk11', b11c'.cells, Ty11'⟩]) w :=
  (Snd.cast (c' := .seq (cL (cR (cL k_cellplanelaw26_sameR_2))) (cR (cR (cL k_cellplanelaw26_sameR_2)))) (by kernel_rfl) (Snd.seq (H_cellplanelaw26_sameR_9 N K1 Q) (Snd.cast (c' := .block 1 (cL (cL (cR (cL k_cellplanelaw26_sameR_2))))) (by kernel_rfl) (Snd.block (Snd.cast (c' := .seq (cL (cL (cL (cR (cL k_cellplanelaw26_sameR_2))))) (cR (cL (cL (cR (cL k_cellplanelaw26_sameR_2)))))) (by kernel_rfl) (Snd.seq (H_cellplanelaw26_sameR_10 N K1 Q) (den_sound okc mixed _ _ _ _ (mpr' (by kernel_rfl) h)) (fun s w h => T_cellplanelaw26_sameR_10 N K1 Q s w h))))) (fun s w h => T_cellplanelaw26_sameR_9 N K1 Q s w h)))

noncomputable def H_cellplanelaw26_sameR_8 (N : Nat) (K1 : ((Option Addr) × (Option Addr) × Nat × Nat × Nat × Nat) → (G_api_Reply × G_api_Reply × Int) → World → Prop) (Q : Value → World → Prop) : St → World → Prop := fun s w => grabK 92 [.val 0, .val 1, .loc 9, .loc 11, .val 13] s fun vs ls => match vs, ls with
  | [.pointer t0', .pointer w1', .int .i64 c13'], [⟨blk9', a9c'_r, Ty9'⟩, ⟨blk11', b11c'_r, Ty11'⟩] => G_api_Reply.decL a9c'_r fun a9c' => G_api_Reply.decL b11c'_r fun b11c' => Reb N w s.L fun wa => C_cellplanelaw26_sameR_8 N K1 Q t0' w1' blk9' a9c' Ty9' blk11' b11c' Ty11' c13' wa
  | _, _ => False

theorem T_cellplanelaw26_sameR_8 (N : Nat) (K1 : ((Option Addr) × (Option Addr) × Nat × Nat × Nat × Nat) → (G_api_Reply × G_api_Reply × Int) → World → Prop) (Q : Value → World → Prop) (s : St) (w : World) (h : H_cellplanelaw26_sameR_8 N K1 Q s w) : Snd (cx N (fun d => memN d [9, 11])) (cR (cL k_cellplanelaw26_sameR_2)) (z_cellplanelaw26_sameR_3 N K1 Q) s w := by
  refine Snd.grab h (fun vs ls hd hloc wa hl => ?_)
  split at hd
  · obtain ⟨a9c', rfl, hd0⟩ := G_api_Reply.decL_spec hd
    obtain ⟨b11c', rfl, hd1⟩ := G_api_Reply.decL_spec hd0
    exact X_cellplanelaw26_sameR_8 (hd1 wa hl)
  · exact hd.elim

def B_cellplanelaw26_sameR_7 (N : Nat) (K1 : ((Option Addr) × (Option Addr) × Nat × Nat × Nat × Nat) → (G_api_Reply × G_api_Reply × Int) → World → Prop) (Q : Value → World → Prop) (t0' w1' : Option Addr) (blk9' : Nat) (a9c' : G_api_Reply) (Ty9' blk11' : Nat) (b11c' : G_api_Reply) (Ty11' : Nat) (c13' : Int) (w : World) : Prop :=
  IfB (decide ((c13' : Int) ≤ 8)) (Reb N w [⟨blk9', a9c'.cells, Ty9'⟩, ⟨blk11', b11c'.cells, Ty11'⟩] fun w19 => C_cellplanelaw26_sameR_8 N K1 Q t0' w1' blk9' a9c' Ty9' blk11' b11c' Ty11' c13' w19) (Reb N w [⟨blk9', a9c'.cells, Ty9'⟩, ⟨blk11', b11c'.cells, Ty11'⟩] fun w20 => C_cellplanelaw26_sameR_5 N Q w20)

theorem X_cellplanelaw26_sameR_7 {N : Nat} {K1 : ((Option Addr) × (Option Addr) × Nat × Nat × Nat × Nat) → (G_api_Reply × G_api_Reply × Int) → World → Prop} {Q : Value → World → Prop} {t0' w1' : Option Addr} {blk9' : Nat} {a9c' : G_api_Reply} {Ty9' blk11' : Nat} {b11c' : G_api_Reply} {Ty11' : Nat} {c13' : Int} {w : World} (h : B_cellplanelaw26_sameR_7 N K1 Q t0' w1' blk9' a9c' Ty9' blk11' b11c' Ty11' c13' w) : Snd (cx N (fun d => memN d [9, 11])) (cL k_cellplanelaw26_sameR_2) (thenD (HeadK N 92 [.val 0, .val 1, .loc 9, .loc 11, .val 13] D_cellplanelaw26_sameR_7 K1) (inBlockD 0 (z_cellplanelaw26_sameR_1 N Q))) (mkS 92 [.val 0, .val 1, .loc 9, .loc 11, .val 13] [(.pointer t0'), (.pointer w1'), (.int .i64 c13')] [⟨blk9', a9c'.cells, Ty9'⟩, ⟨blk11', b11c'.cells, Ty11'⟩]) w :=
  (Snd.cast (c' := .seq (cL (cL k_cellplanelaw26_sameR_2)) (cR (cL k_cellplanelaw26_sameR_2))) (by kernel_rfl) (Snd.seq (H_cellplanelaw26_sameR_8 N K1 Q) (den_sound okc mixed _ _ _ _ (mpr' (by kernel_rfl) h)) (fun s w h => T_cellplanelaw26_sameR_8 N K1 Q s w h)))

def L_cellplanelaw26_sameR_7 (N : Nat) (Q : Value → World → Prop) (K1 : ((Option Addr) × (Option Addr) × Nat × Nat × Nat × Nat) → (G_api_Reply × G_api_Reply × Int) → World → Prop) (c : (Option Addr) × (Option Addr) × Nat × Nat × Nat × Nat) (x : G_api_Reply × G_api_Reply × Int) (w : World) : Prop := match c, x with
  | (t0', w1', blk9', Ty9', blk11', Ty11'), (a9c', b11c', c13') => B_cellplanelaw26_sameR_7 N K1 Q t0' w1' blk9' a9c' Ty9' blk11' b11c' Ty11' c13' w

theorem T_cellplanelaw26_sameR_7 (N : Nat) (Q : Value → World → Prop) {s : St} {w : World} (h : HeadE N 92 [.val 0, .val 1, .loc 9, .loc 11, .val 13] D_cellplanelaw26_sameR_7 (L_cellplanelaw26_sameR_7 N Q) s w) : Snd (cx N (fun d => memN d [9, 11])) k_cellplanelaw26_sameR_2 (inBlockD 0 (z_cellplanelaw26_sameR_1 N Q)) s w := by
  refine Snd.cast (c' := .loop (cL k_cellplanelaw26_sameR_2)) (by kernel_rfl) (Snd.loopC (fun (c : (Option Addr) × (Option Addr) × Nat × Nat × Nat × Nat) (x : G_api_Reply × G_api_Reply × Int) => match c, x with | (t0', w1', blk9', Ty9', blk11', Ty11'), (a9c', b11c', c13') => ([(.pointer t0'), (.pointer w1'), (.int .i64 c13')], [⟨blk9', a9c'.cells, Ty9'⟩, ⟨blk11', b11c'.cells, Ty11'⟩])) ?_ ?_ h)
  · intro K vs ls h
    unfold D_cellplanelaw26_sameR_7 at h
    split at h
    · obtain ⟨a9c', rfl, h0⟩ := G_api_Reply.decL_spec h
      obtain ⟨b11c', rfl, h1⟩ := G_api_Reply.decL_spec h0
      exact ⟨_, _, rfl, h1⟩
    · exact h.elim
  · rintro K ⟨t0', w1', blk9', Ty9', blk11', Ty11'⟩ ⟨a9c', b11c', c13'⟩ w h
    exact X_cellplanelaw26_sameR_7 h

def C_cellplanelaw26_sameR_6 (N : Nat) (Q : Value → World → Prop) (t0' w1' : Option Addr) (blk9' : Nat) (a9c' : G_api_Reply) (Ty9' blk11' : Nat) (b11c' : G_api_Reply) (Ty11' : Nat) (c13' : Int) (w : World) : Prop :=
  LoopC N w [⟨blk9', a9c'.cells, Ty9'⟩, ⟨blk11', b11c'.cells, Ty11'⟩] ((t0', w1', blk9', Ty9', blk11', Ty11') : (Option Addr) × (Option Addr) × Nat × Nat × Nat × Nat) ((a9c', b11c', c13') : G_api_Reply × G_api_Reply × Int) (L_cellplanelaw26_sameR_7 N Q)

theorem X_cellplanelaw26_sameR_6 {N : Nat} {Q : Value → World → Prop} {t0' w1' : Option Addr} {blk9' : Nat} {a9c' : G_api_Reply} {Ty9' blk11' : Nat} {b11c' : G_api_Reply} {Ty11' : Nat} {c13' : Int} {w : World} (h : C_cellplanelaw26_sameR_6 N Q t0' w1' blk9' a9c' Ty9' blk11' b11c' Ty11' c13' w) : Snd (cx N (fun d => memN d [9, 11])) (cR (cL (cR k_cellplanelaw26_sameR_0))) (z_cellplanelaw26_sameR_1 N Q) (mkS 92 [.val 0, .val 1, .loc 9, .loc 11, .val 13] [(.pointer t0'), (.pointer w1'), (.int .i64 c13')] [⟨blk9', a9c'.cells, Ty9'⟩, ⟨blk11', b11c'.cells, Ty11'⟩]) w :=
  (Snd.cast (c' := .block 0 (cL (cR (cL (cR k_cellplanelaw26_sameR_0))))) (by kernel_rfl) (Snd.block (T_cellplanelaw26_sameR_7 N Q (mpr' (by kernel_rfl) h))))

noncomputable def H_cellplanelaw26_sameR_6 (N : Nat) (Q : Value → World → Prop) : St → World → Prop := fun s w => grabK 92 [.val 0, .val 1, .loc 9, .loc 11, .val 13] s fun vs ls => match vs, ls with
  | [.pointer t0', .pointer w1', .int .i64 c13'], [⟨blk9', a9c'_r, Ty9'⟩, ⟨blk11', b11c'_r, Ty11'⟩] => G_api_Reply.decL a9c'_r fun a9c' => G_api_Reply.decL b11c'_r fun b11c' => Reb N w s.L fun wa => C_cellplanelaw26_sameR_6 N Q t0' w1' blk9' a9c' Ty9' blk11' b11c' Ty11' c13' wa
  | _, _ => False

theorem T_cellplanelaw26_sameR_6 (N : Nat) (Q : Value → World → Prop) (s : St) (w : World) (h : H_cellplanelaw26_sameR_6 N Q s w) : Snd (cx N (fun d => memN d [9, 11])) (cR (cL (cR k_cellplanelaw26_sameR_0))) (z_cellplanelaw26_sameR_1 N Q) s w := by
  refine Snd.grab h (fun vs ls hd hloc wa hl => ?_)
  split at hd
  · obtain ⟨a9c', rfl, hd0⟩ := G_api_Reply.decL_spec hd
    obtain ⟨b11c', rfl, hd1⟩ := G_api_Reply.decL_spec hd0
    exact X_cellplanelaw26_sameR_6 (hd1 wa hl)
  · exact hd.elim

def C_cellplanelaw26_sameR_4 (N : Nat) (Q : Value → World → Prop) (t0' w1' : Option Addr) (blk9' : Nat) (a9c' : G_api_Reply) (Ty9' blk11' : Nat) (b11c' : G_api_Reply) (Ty11' : Nat) (w : World) : Prop :=
  Reb N w [⟨blk9', a9c'.cells, Ty9'⟩, ⟨blk11', b11c'.cells, Ty11'⟩] fun w21 => C_cellplanelaw26_sameR_6 N Q t0' w1' blk9' a9c' Ty9' blk11' b11c' Ty11' 1 w21

theorem X_cellplanelaw26_sameR_4 {N : Nat} {Q : Value → World → Prop} {t0' w1' : Option Addr} {blk9' : Nat} {a9c' : G_api_Reply} {Ty9' blk11' : Nat} {b11c' : G_api_Reply} {Ty11' : Nat} {w : World} (h : C_cellplanelaw26_sameR_4 N Q t0' w1' blk9' a9c' Ty9' blk11' b11c' Ty11' w) : Snd (cx N (fun d => memN d [9, 11])) (cR k_cellplanelaw26_sameR_0) (retD (cx N (fun d => memN d [9, 11])) Go.Proofs.Try.f22 Q) (mkS 92 [.val 0, .val 1, .loc 9, .loc 11] [(.pointer t0'), (.pointer w1')] [⟨blk9', a9c'.cells, Ty9'⟩, ⟨blk11', b11c'.cells, Ty11'⟩]) w :=
  (Snd.cast (c' := .seq (cL (cR k_cellplanelaw26_sameR_0)) (cR (cR k_cellplanelaw26_sameR_0))) (by kernel_rfl) (Snd.seq (H_cellplanelaw26_sameR_5 N Q) (Snd.cast (c' := .seq (cL (cL (cR k_cellplanelaw26_sameR_0))) (cR (cL (cR k_cellplanelaw26_sameR_0)))) (by kernel_rfl) (Snd.seq (H_cellplanelaw26_sameR_6 N Q) (den_sound okc mixed _ _ _ _ (mpr' (by kernel_rfl) h)) (fun s w h => T_cellplanelaw26_sameR_6 N Q s w h))) (fun s w h => T_cellplanelaw26_sameR_5 N Q s w h)))

noncomputable def H_cellplanelaw26_sameR_4 (N : Nat) (Q : Value → World → Prop) : St → World → Prop := fun s w => grabK 92 [.val 0, .val 1, .loc 9, .loc 11] s fun vs ls => match vs, ls with
  | [.pointer t0', .pointer w1'], [⟨blk9', a9c'_r, Ty9'⟩, ⟨blk11', b11c'_r, Ty11'⟩] => G_api_Reply.decL a9c'_r fun a9c' => G_api_Reply.decL b11c'_r fun b11c' => Reb N w s.L fun wa => C_cellplanelaw26_sameR_4 N Q t0' w1' blk9' a9c' Ty9' blk11' b11c' Ty11' wa
  | _, _ => False

theorem T_cellplanelaw26_sameR_4 (N : Nat) (Q : Value → World → Prop) (s : St) (w : World) (h : H_cellplanelaw26_sameR_4 N Q s w) : Snd (cx N (fun d => memN d [9, 11])) (cR k_cellplanelaw26_sameR_0) (retD (cx N (fun d => memN d [9, 11])) Go.Proofs.Try.f22 Q) s w := by
  refine Snd.grab h (fun vs ls hd hloc wa hl => ?_)
  split at hd
  · obtain ⟨a9c', rfl, hd0⟩ := G_api_Reply.decL_spec hd
    obtain ⟨b11c', rfl, hd1⟩ := G_api_Reply.decL_spec hd0
    exact X_cellplanelaw26_sameR_4 (hd1 wa hl)
  · exact hd.elim

def C_cellplanelaw26_sameR_3 (N : Nat) (Q : Value → World → Prop) (t0' w1' : Option Addr) (client2' : Int) (blk9' : Nat) (a9c' : G_api_Reply) (Ty9' : Nat) (e10' : Int) (blk11' : Nat) (b11c' : G_api_Reply) (Ty11' : Nat) (f12' : Int) (w : World) : Prop :=
  IfB (!(G_api_Reply.eqb a9c' b11c')) (Reb N w [⟨blk9', a9c'.cells, Ty9'⟩, ⟨blk11', b11c'.cells, Ty11'⟩] (Q (.bool false))) (IfB (!decide ((e10' : Int) = f12')) (Reb N w [⟨blk9', a9c'.cells, Ty9'⟩, ⟨blk11', b11c'.cells, Ty11'⟩] (Q (.bool false))) (CallL PP N w [⟨blk9', a9c'.cells, Ty9'⟩, ⟨blk11', b11c'.cells, Ty11'⟩] n_session_Table_Last [(.pointer t0'), (.int .i64 client2')] fun r23 w24 => ∃ n22 : Int, r23 = (.int .i64 n22) ∧ CallL PP N w24 [⟨blk9', a9c'.cells, Ty9'⟩, ⟨blk11', b11c'.cells, Ty11'⟩] n_cellplaneref26_Table_Last [(.pointer w1'), (.int .i64 client2')] fun r26 w27 => ∃ n25 : Int, r26 = (.int .i64 n25) ∧ IfB (!decide ((n22 : Int) = n25)) (Reb N w27 [⟨blk9', a9c'.cells, Ty9'⟩, ⟨blk11', b11c'.cells, Ty11'⟩] (Q (.bool false))) (CallL PP N w27 [⟨blk9', a9c'.cells, Ty9'⟩, ⟨blk11', b11c'.cells, Ty11'⟩] n_session_Table_Lasts [(.pointer t0')] fun r29 w30 => ∃ l28 : Sl, r29 = (.slice l28.a l28.n l28.c) ∧ CallL PP N w30 [⟨blk9', a9c'.cells, Ty9'⟩, ⟨blk11', b11c'.cells, Ty11'⟩] n_cellplaneref26_Table_Lasts [(.pointer w1')] fun r32 w33 => ∃ l31 : Sl, r32 = (.slice l31.a l31.n l31.c) ∧ CallL PP N w33 [⟨blk9', a9c'.cells, Ty9'⟩, ⟨blk11', b11c'.cells, Ty11'⟩] n_cellplaneref24_SameInts [(.slice l28.a l28.n l28.c), (.slice l31.a l31.n l31.c)] fun r35 w36 => ∃ b34 : Bool, r35 = (.bool b34) ∧ IfB (!b34) (Reb N w36 [⟨blk9', a9c'.cells, Ty9'⟩, ⟨blk11', b11c'.cells, Ty11'⟩] (Q (.bool false))) (Reb N w36 [⟨blk9', a9c'.cells, Ty9'⟩, ⟨blk11', b11c'.cells, Ty11'⟩] fun w37 => C_cellplanelaw26_sameR_4 N Q t0' w1' blk9' a9c' Ty9' blk11' b11c' Ty11' w37))))

theorem X_cellplanelaw26_sameR_3 {N : Nat} {Q : Value → World → Prop} {t0' w1' : Option Addr} {client2' : Int} {blk9' : Nat} {a9c' : G_api_Reply} {Ty9' : Nat} {e10' : Int} {blk11' : Nat} {b11c' : G_api_Reply} {Ty11' : Nat} {f12' : Int} {w : World} (h : C_cellplanelaw26_sameR_3 N Q t0' w1' client2' blk9' a9c' Ty9' e10' blk11' b11c' Ty11' f12' w) : Snd (cx N (fun d => memN d [9, 11])) k_cellplanelaw26_sameR_0 (retD (cx N (fun d => memN d [9, 11])) Go.Proofs.Try.f22 Q) (mkS 92 [.val 0, .val 1, .val 2, .loc 9, .val 10, .loc 11, .val 12] [(.pointer t0'), (.pointer w1'), (.int .i64 client2'), (.int .i64 e10'), (.int .i64 f12')] [⟨blk9', a9c'.cells, Ty9'⟩, ⟨blk11', b11c'.cells, Ty11'⟩]) w :=
  (Snd.cast (c' := .seq (cL k_cellplanelaw26_sameR_0) (cR k_cellplanelaw26_sameR_0)) (by kernel_rfl) (Snd.seq (H_cellplanelaw26_sameR_4 N Q) (den_sound okc mixed _ _ _ _ (mpr' (by kernel_rfl) h)) (fun s w h => T_cellplanelaw26_sameR_4 N Q s w h)))

noncomputable def H_cellplanelaw26_sameR_3 (N : Nat) (Q : Value → World → Prop) : St → World → Prop := fun s w => grabK 92 [.val 0, .val 1, .val 2, .loc 9, .val 10, .loc 11, .val 12] s fun vs ls => match vs, ls with
  | [.pointer t0', .pointer w1', .int .i64 client2', .int .i64 e10', .int .i64 f12'], [⟨blk9', a9c'_r, Ty9'⟩, ⟨blk11', b11c'_r, Ty11'⟩] => G_api_Reply.decL a9c'_r fun a9c' => G_api_Reply.decL b11c'_r fun b11c' => Reb N w s.L fun wa => C_cellplanelaw26_sameR_3 N Q t0' w1' client2' blk9' a9c' Ty9' e10' blk11' b11c' Ty11' f12' wa
  | _, _ => False

theorem T_cellplanelaw26_sameR_3 (N : Nat) (Q : Value → World → Prop) (s : St) (w : World) (h : H_cellplanelaw26_sameR_3 N Q s w) : Snd (cx N (fun d => memN d [9, 11])) k_cellplanelaw26_sameR_0 (retD (cx N (fun d => memN d [9, 11])) Go.Proofs.Try.f22 Q) s w := by
  refine Snd.grab h (fun vs ls hd hloc wa hl => ?_)
  split at hd
  · obtain ⟨a9c', rfl, hd0⟩ := G_api_Reply.decL_spec hd
    obtain ⟨b11c', rfl, hd1⟩ := G_api_Reply.decL_spec hd0
    exact X_cellplanelaw26_sameR_3 (hd1 wa hl)
  · exact hd.elim

def C_cellplanelaw26_sameR_2 (N : Nat) (Q : Value → World → Prop) (t0' w1' : Option Addr) (client2' number3' : Int) (blk9' : Nat) (a9c' : G_api_Reply) (Ty9' : Nat) (e10' : Int) (w : World) : Prop :=
  CallL PP N w [⟨blk9', a9c'.cells, Ty9'⟩] n_cellplaneref26_Table_Find [(.pointer w1'), (.int .i64 client2'), (.int .i64 number3')] fun r40 w41 => ∃ x38 : G_api_Reply, ∃ n39 : Int, r40 = (.tuple #[(.agg (List.toArray x38.cells)), (.int .i64 n39)]) ∧ ∀ b42 : Nat, w41.heap.size ≤ b42 → Reb N w41 [⟨blk9', a9c'.cells, Ty9'⟩, ⟨b42, x38.cells, t_api_Reply⟩] fun w43 => C_cellplanelaw26_sameR_3 N Q t0' w1' client2' blk9' a9c' Ty9' e10' b42 x38 t_api_Reply n39 w43

theorem X_cellplanelaw26_sameR_2 {N : Nat} {Q : Value → World → Prop} {t0' w1' : Option Addr} {client2' number3' : Int} {blk9' : Nat} {a9c' : G_api_Reply} {Ty9' : Nat} {e10' : Int} {w : World} (h : C_cellplanelaw26_sameR_2 N Q t0' w1' client2' number3' blk9' a9c' Ty9' e10' w) : Snd (cx N (fun d => memN d [9, 11])) (cR (cR (bodyOf Go.Proofs.Try.f22))) (retD (cx N (fun d => memN d [9, 11])) Go.Proofs.Try.f22 Q) (mkS 92 [.val 0, .val 1, .val 2, .val 3, .loc 9, .val 10] [(.pointer t0'), (.pointer w1'), (.int .i64 client2'), (.int .i64 number3'), (.int .i64 e10')] [⟨blk9', a9c'.cells, Ty9'⟩]) w :=
  (Snd.cast (c' := .seq (cL (cR (cR (bodyOf Go.Proofs.Try.f22)))) (cR (cR (cR (bodyOf Go.Proofs.Try.f22))))) (by kernel_rfl) (Snd.seq (H_cellplanelaw26_sameR_3 N Q) (den_sound okc mixed _ _ _ _ (mpr' (by kernel_rfl) h)) (fun s w h => T_cellplanelaw26_sameR_3 N Q s w h)))

noncomputable def H_cellplanelaw26_sameR_2 (N : Nat) (Q : Value → World → Prop) : St → World → Prop := fun s w => grabK 92 [.val 0, .val 1, .val 2, .val 3, .loc 9, .val 10] s fun vs ls => match vs, ls with
  | [.pointer t0', .pointer w1', .int .i64 client2', .int .i64 number3', .int .i64 e10'], [⟨blk9', a9c'_r, Ty9'⟩] => G_api_Reply.decL a9c'_r fun a9c' => Reb N w s.L fun wa => C_cellplanelaw26_sameR_2 N Q t0' w1' client2' number3' blk9' a9c' Ty9' e10' wa
  | _, _ => False

theorem T_cellplanelaw26_sameR_2 (N : Nat) (Q : Value → World → Prop) (s : St) (w : World) (h : H_cellplanelaw26_sameR_2 N Q s w) : Snd (cx N (fun d => memN d [9, 11])) (cR (cR (bodyOf Go.Proofs.Try.f22))) (retD (cx N (fun d => memN d [9, 11])) Go.Proofs.Try.f22 Q) s w := by
  refine Snd.grab h (fun vs ls hd hloc wa hl => ?_)
  split at hd
  · obtain ⟨a9c', rfl, hd0⟩ := G_api_Reply.decL_spec hd
    exact X_cellplanelaw26_sameR_2 (hd0 wa hl)
  · exact hd.elim

def C_cellplanelaw26_sameR_1 (N : Nat) (Q : Value → World → Prop) (t0' w1' : Option Addr) (client2' number3' : Int) (w : World) : Prop :=
  CallL PP N w [] n_session_Table_Find [(.pointer t0'), (.int .i64 client2'), (.int .i64 number3')] fun r46 w47 => ∃ x44 : G_api_Reply, ∃ n45 : Int, r46 = (.tuple #[(.agg (List.toArray x44.cells)), (.int .i64 n45)]) ∧ ∀ b48 : Nat, w47.heap.size ≤ b48 → Reb N w47 [⟨b48, x44.cells, t_api_Reply⟩] fun w49 => C_cellplanelaw26_sameR_2 N Q t0' w1' client2' number3' b48 x44 t_api_Reply n45 w49

theorem X_cellplanelaw26_sameR_1 {N : Nat} {Q : Value → World → Prop} {t0' w1' : Option Addr} {client2' number3' : Int} {w : World} (h : C_cellplanelaw26_sameR_1 N Q t0' w1' client2' number3' w) : Snd (cx N (fun d => memN d [9, 11])) (cR (bodyOf Go.Proofs.Try.f22)) (retD (cx N (fun d => memN d [9, 11])) Go.Proofs.Try.f22 Q) (mkS 92 [.val 0, .val 1, .val 2, .val 3] [(.pointer t0'), (.pointer w1'), (.int .i64 client2'), (.int .i64 number3')] []) w :=
  (Snd.cast (c' := .seq (cL (cR (bodyOf Go.Proofs.Try.f22))) (cR (cR (bodyOf Go.Proofs.Try.f22)))) (by kernel_rfl) (Snd.seq (H_cellplanelaw26_sameR_2 N Q) (den_sound okc mixed _ _ _ _ (mpr' (by kernel_rfl) h)) (fun s w h => T_cellplanelaw26_sameR_2 N Q s w h)))

noncomputable def H_cellplanelaw26_sameR_1 (N : Nat) (Q : Value → World → Prop) : St → World → Prop := fun s w => grabK 92 [.val 0, .val 1, .val 2, .val 3] s fun vs ls => match vs, ls with
  | [.pointer t0', .pointer w1', .int .i64 client2', .int .i64 number3'], [] => Reb N w s.L fun wa => C_cellplanelaw26_sameR_1 N Q t0' w1' client2' number3' wa
  | _, _ => False

theorem T_cellplanelaw26_sameR_1 (N : Nat) (Q : Value → World → Prop) (s : St) (w : World) (h : H_cellplanelaw26_sameR_1 N Q s w) : Snd (cx N (fun d => memN d [9, 11])) (cR (bodyOf Go.Proofs.Try.f22)) (retD (cx N (fun d => memN d [9, 11])) Go.Proofs.Try.f22 Q) s w := by
  refine Snd.grab h (fun vs ls hd hloc wa hl => ?_)
  split at hd
  · exact X_cellplanelaw26_sameR_1 (hd wa hl)
  · exact hd.elim

def F_cellplanelaw26_sameR (N : Nat) (t0 : Option Addr) (w1 : Option Addr) (client2 : Int) (number3 : Int) (Q : Value → World → Prop) (w : World) : Prop :=
  Reb N w [] fun w50 => C_cellplanelaw26_sameR_1 N Q t0 w1 client2 number3 w50

theorem cellplanelaw26_sameR_snd (N : Nat) (t0 : Option Addr) (w1 : Option Addr) (client2 : Int) (number3 : Int) (Q : Value → World → Prop) (w : World) (h : F_cellplanelaw26_sameR N t0 w1 client2 number3 Q w) : Snd (cx N (fun d => memN d [9, 11])) (bodyOf Go.Proofs.Try.f22) (retD (cx N (fun d => memN d [9, 11])) Go.Proofs.Try.f22 Q) (entry 92 [(.pointer t0), (.pointer w1), (.int .i64 client2), (.int .i64 number3)]) w :=
  (Snd.cast (c' := .seq (cL (bodyOf Go.Proofs.Try.f22)) (cR (bodyOf Go.Proofs.Try.f22))) (by kernel_rfl) (Snd.seq (H_cellplanelaw26_sameR_1 N Q) (den_sound okc mixed _ _ _ _ (mpr' (by kernel_rfl) h)) (fun s w h => T_cellplanelaw26_sameR_1 N Q s w h)))

theorem cellplanelaw26_sameR_calls (t0 : Option Addr) (w1 : Option Addr) (client2 : Int) (number3 : Int) (Q : Value → World → Prop) (w : World) (h : F_cellplanelaw26_sameR w.heap.size t0 w1 client2 number3 Q w) : Calls PP n_cellplanelaw26_same [(.pointer t0), (.pointer w1), (.int .i64 client2), (.int .i64 number3)].toArray w fun e w' => ∃ v, e = .returned v ∧ Q v w' :=
  calls_of (C := cx w.heap.size (fun d => memN d [9, 11])) (fn := Go.Proofs.Try.f22) (c := (bodyOf Go.Proofs.Try.f22)) (by kernel_rfl) (by kernel_rfl) (Nat.le_refl _) (cellplanelaw26_sameR_snd _ t0 w1 client2 number3 Q w h)


end Go.Sh
