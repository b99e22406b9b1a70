/- What these functions do, told by computation: a formula for each, and that its calls do what the formula says.
   Conditions: none. -/
import Derived.Test.YtcligpfkmnlhnaaBase
namespace Go.Sh
open Go
set_option linter.unusedVariables false
set_option maxRecDepth 100000

/-! ### cellplaneref24_Store_Apply -/
noncomputable def k_cellplaneref24_Store_Apply_0 : Code := (cR (cR (cR (bodyOf Go.Proofs.Try.f47))))

def C_cellplaneref24_Store_Apply_4 (N : Nat) (Q : Value → World → Prop) (w : World) : Prop :=
  Reb N w [] (Q (.int .i64 0))

theorem X_cellplaneref24_Store_Apply_4 {N : Nat} {Q : Value → World → Prop} {w : World} (h : C_cellplaneref24_Store_Apply_4 N Q w) : Snd (cx N (fun d => memN d [3])) (cR k_cellplaneref24_Store_Apply_0) (retD (cx N (fun d => memN d [3])) Go.Proofs.Try.f47 Q) (mkS 108 [] [] []) w :=
  (den_sound okc mixed _ _ _ _ (mpr' (by kernel_rfl) h))

noncomputable def H_cellplaneref24_Store_Apply_4 (N : Nat) (Q : Value → World → Prop) : St → World → Prop := fun s w => grabK 108 [] s fun vs ls => match vs, ls with
  | [], [] => Reb N w s.L fun wa => C_cellplaneref24_Store_Apply_4 N Q wa
  | _, _ => False

theorem T_cellplaneref24_Store_Apply_4 (N : Nat) (Q : Value → World → Prop) (s : St) (w : World) (h : H_cellplaneref24_Store_Apply_4 N Q s w) : Snd (cx N (fun d => memN d [3])) (cR k_cellplaneref24_Store_Apply_0) (retD (cx N (fun d => memN d [3])) Go.Proofs.Try.f47 Q) s w := by
  refine Snd.grab h (fun vs ls hd hloc wa hl => ?_)
  split at hd
  · exact X_cellplaneref24_Store_Apply_4 (hd wa hl)
  · exact hd.elim

noncomputable def k_cellplaneref24_Store_Apply_1 : Code := (cR (cL (cL k_cellplaneref24_Store_Apply_0)))

noncomputable def z_cellplaneref24_Store_Apply_2 (N : Nat) (Q : Value → World → Prop) : Cont := (inBlockD 0 (thenD (H_cellplaneref24_Store_Apply_4 N Q) (retD (cx N (fun d => memN d [3])) Go.Proofs.Try.f47 Q)))

def C_cellplaneref24_Store_Apply_5 (N : Nat) (Q : Value → World → Prop) (s0' : Option Addr) (blk3' : Nat) (x3c' : G_api_Change) (Ty3' : Nat) (i5' : Int) (ok6' v17' : Bool) (w : World) : Prop :=
  IfB v17' (NewL N w [⟨blk3', x3c'.cells, Ty3'⟩] ([]) t_cellplaneref24_Cell fun b1 w2 => NilL s0' fun q3 => ∃ l4 : Sl, At w2 q3 [(.slice l4.a l4.n l4.c)] ∧ NotIn (q3 : Addr).block [⟨blk3', x3c'.cells, Ty3'⟩] ∧ RunL PP N w2 [⟨blk3', x3c'.cells, Ty3'⟩] (Builtin.append_ #[t_sl_cellplaneref24_Cell, t_sl_cellplaneref24_Cell] t_sl_cellplaneref24_Cell #[(.slice (some ⟨b1, 0, none⟩) 0 0), (.slice l4.a l4.n l4.c)]) fun r6 w7 => ∃ l5 : Sl, r6 = (.slice l5.a l5.n l5.c) ∧ NilL s0' fun q8 => StL w7 [⟨blk3', x3c'.cells, Ty3'⟩] q8 [(.slice l5.a l5.n l5.c)] fun w9 => NilL s0' fun q10 => ∃ l11 : Sl, At w9 q10 [(.slice l11.a l11.n l11.c)] ∧ NotIn (q10 : Addr).block [⟨blk3', x3c'.cells, Ty3'⟩] ∧ IdxL l11.a l11.n i5' fun q12 => StL w9 [⟨blk3', x3c'.cells, Ty3'⟩] (q12.add ((i5' : Int).toNat * 3)) (⟨x3c'.Key, x3c'.Value_, x3c'.Seq⟩ : G_cellplaneref24_Cell).cells fun w13 => Reb N w13 [⟨blk3', x3c'.cells, Ty3'⟩] fun w14 => C_cellplaneref24_Store_Apply_4 N Q w14) (IfB (decide ((x3c'.Kind : Int) = 1)) (NilL s0' fun q15 => ∃ l16 : Sl, At w q15 [(.slice l16.a l16.n l16.c)] ∧ NotIn (q15 : Addr).block [⟨blk3', x3c'.cells, Ty3'⟩] ∧ IfB (decide ((32 : Int) ≤ ((l16.n : Nat) : Int))) (Reb N w [⟨blk3', x3c'.cells, Ty3'⟩] (Q (.int .i64 33))) (NilL s0' fun q17 => ∃ l18 : Sl, At w q17 [(.slice l18.a l18.n l18.c)] ∧ NotIn (q17 : Addr).block [⟨blk3', x3c'.cells, Ty3'⟩] ∧ (0 : Int) ≤ i5' ∧ (i5' : Int) ≤ (l18.c : Nat) ∧ NilL s0' fun q19 => ∃ l20 : Sl, At w q19 [(.slice l20.a l20.n l20.c)] ∧ NotIn (q19 : Addr).block [⟨blk3', x3c'.cells, Ty3'⟩] ∧ (0 : Int) ≤ i5' ∧ (i5' : Int) ≤ (l20.n : Nat) ∧ (NewL N w [⟨blk3', x3c'.cells, Ty3'⟩] ([]) t_cellplaneref24_Cell fun b21 w22 => (RunL PP N w22 [⟨blk3', x3c'.cells, Ty3'⟩] (Builtin.append_ #[t_sl_cellplaneref24_Cell, t_sl_cellplaneref24_Cell] t_sl_cellplaneref24_Cell #[(.slice (some ⟨b21, 0, none⟩) 0 0), (.slice l18.a (Int.toNat i5') l18.c)]) fun r24 w25 => ∃ l23 : Sl, r24 = (.slice l23.a l23.n l23.c) ∧ At w25 q19 [(.slice l20.a l20.n l20.c)] ∧ NewL N w25 [⟨blk3', x3c'.cells, Ty3'⟩] (⟨x3c'.Key, x3c'.Value_, x3c'.Seq⟩ : G_cellplaneref24_Cell).cells t_cellplaneref24_Cell fun b26 w27 => RunL PP N w27 [⟨blk3', x3c'.cells, Ty3'⟩] (Builtin.append_ #[t_sl_cellplaneref24_Cell, t_sl_cellplaneref24_Cell] t_sl_cellplaneref24_Cell #[(.slice l23.a l23.n l23.c), (.slice (some ⟨b26, 0, none⟩) 1 1)]) fun r29 w30 => ∃ l28 : Sl, r29 = (.slice l28.a l28.n l28.c) ∧ At w30 q19 [(.slice l20.a l20.n l20.c)] ∧ RunL PP N w30 [⟨blk3', x3c'.cells, Ty3'⟩] (Builtin.append_ #[t_sl_cellplaneref24_Cell, t_sl_cellplaneref24_Cell] t_sl_cellplaneref24_Cell #[(.slice l28.a l28.n l28.c), (.slice (slA l20.a l20.c (i5' : Int).toNat 3) (l20.n - (i5' : Int).toNat) (l20.c - (i5' : Int).toNat))]) fun r32 w33 => ∃ l31 : Sl, r32 = (.slice l31.a l31.n l31.c) ∧ NilL s0' fun q34 => StL w33 [⟨blk3', x3c'.cells, Ty3'⟩] q34 [(.slice l31.a l31.n l31.c)] fun w35 => Reb N w35 [⟨blk3', x3c'.cells, Ty3'⟩] fun w36 => C_cellplaneref24_Store_Apply_4 N Q w36) ∧ (NewL N w22 [⟨blk3', x3c'.cells, Ty3'⟩] (⟨x3c'.Key, x3c'.Value_, x3c'.Seq⟩ : G_cellplaneref24_Cell).cells t_cellplaneref24_Cell fun b37 w38 => RunL PP N w38 [⟨blk3', x3c'.cells, Ty3'⟩] (Builtin.append_ #[t_sl_cellplaneref24_Cell, t_sl_cellplaneref24_Cell] t_sl_cellplaneref24_Cell #[(.slice (some ⟨b21, 0, none⟩) 0 0), (.slice l18.a (Int.toNat i5') l18.c)]) fun r40 w41 => ∃ l39 : Sl, r40 = (.slice l39.a l39.n l39.c) ∧ At w41 q19 [(.slice l20.a l20.n l20.c)] ∧ RunL PP N w41 [⟨blk3', x3c'.cells, Ty3'⟩] (Builtin.append_ #[t_sl_cellplaneref24_Cell, t_sl_cellplaneref24_Cell] t_sl_cellplaneref24_Cell #[(.slice l39.a l39.n l39.c), (.slice (some ⟨b37, 0, none⟩) 1 1)]) fun r43 w44 => ∃ l42 : Sl, r43 = (.slice l42.a l42.n l42.c) ∧ At w44 q19 [(.slice l20.a l20.n l20.c)] ∧ RunL PP N w44 [⟨blk3', x3c'.cells, Ty3'⟩] (Builtin.append_ #[t_sl_cellplaneref24_Cell, t_sl_cellplaneref24_Cell] t_sl_cellplaneref24_Cell #[(.slice l42.a l42.n l42.c), (.slice (slA l20.a l20.c (i5' : Int).toNat 3) (l20.n - (i5' : Int).toNat) (l20.c - (i5' : Int).toNat))]) fun r46 w47 => ∃ l45 : Sl, r46 = (.slice l45.a l45.n l45.c) ∧ NilL s0' fun q48 => StL w47 [⟨blk3', x3c'.cells, Ty3'⟩] q48 [(.slice l45.a l45.n l45.c)] fun w49 => Reb N w49 [⟨blk3', x3c'.cells, Ty3'⟩] fun w50 => C_cellplaneref24_Store_Apply_4 N Q w50)) ∧ (NewL N w [⟨blk3', x3c'.cells, Ty3'⟩] (⟨x3c'.Key, x3c'.Value_, x3c'.Seq⟩ : G_cellplaneref24_Cell).cells t_cellplaneref24_Cell fun b51 w52 => NewL N w52 [⟨blk3', x3c'.cells, Ty3'⟩] ([]) t_cellplaneref24_Cell fun b53 w54 => RunL PP N w54 [⟨blk3', x3c'.cells, Ty3'⟩] (Builtin.append_ #[t_sl_cellplaneref24_Cell, t_sl_cellplaneref24_Cell] t_sl_cellplaneref24_Cell #[(.slice (some ⟨b53, 0, none⟩) 0 0), (.slice l18.a (Int.toNat i5') l18.c)]) fun r56 w57 => ∃ l55 : Sl, r56 = (.slice l55.a l55.n l55.c) ∧ At w57 q19 [(.slice l20.a l20.n l20.c)] ∧ RunL PP N w57 [⟨blk3', x3c'.cells, Ty3'⟩] (Builtin.append_ #[t_sl_cellplaneref24_Cell, t_sl_cellplaneref24_Cell] t_sl_cellplaneref24_Cell #[(.slice l55.a l55.n l55.c), (.slice (some ⟨b51, 0, none⟩) 1 1)]) fun r59 w60 => ∃ l58 : Sl, r59 = (.slice l58.a l58.n l58.c) ∧ At w60 q19 [(.slice l20.a l20.n l20.c)] ∧ RunL PP N w60 [⟨blk3', x3c'.cells, Ty3'⟩] (Builtin.append_ #[t_sl_cellplaneref24_Cell, t_sl_cellplaneref24_Cell] t_sl_cellplaneref24_Cell #[(.slice l58.a l58.n l58.c), (.slice (slA l20.a l20.c (i5' : Int).toNat 3) (l20.n - (i5' : Int).toNat) (l20.c - (i5' : Int).toNat))]) fun r62 w63 => ∃ l61 : Sl, r62 = (.slice l61.a l61.n l61.c) ∧ NilL s0' fun q64 => StL w63 [⟨blk3', x3c'.cells, Ty3'⟩] q64 [(.slice l61.a l61.n l61.c)] fun w65 => Reb N w65 [⟨blk3', x3c'.cells, Ty3'⟩] fun w66 => C_cellplaneref24_Store_Apply_4 N Q w66))) (IfB (decide ((x3c'.Kind : Int) = 2)) (IfB (!ok6') (Reb N w [⟨blk3', x3c'.cells, Ty3'⟩] (Q (.int .i64 34))) (NilL s0' fun q67 => ∃ l68 : Sl, At w q67 [(.slice l68.a l68.n l68.c)] ∧ NotIn (q67 : Addr).block [⟨blk3', x3c'.cells, Ty3'⟩] ∧ (0 : Int) ≤ i5' ∧ (i5' : Int) ≤ (l68.c : Nat) ∧ NilL s0' fun q69 => ∃ l70 : Sl, At w q69 [(.slice l70.a l70.n l70.c)] ∧ NotIn (q69 : Addr).block [⟨blk3', x3c'.cells, Ty3'⟩] ∧ (0 : Int) ≤ (IntKind.i64.wrap (i5' + 1)) ∧ ((IntKind.i64.wrap (i5' + 1)) : Int) ≤ (l70.n : Nat) ∧ NewL N w [⟨blk3', x3c'.cells, Ty3'⟩] ([]) t_cellplaneref24_Cell fun b71 w72 => RunL PP N w72 [⟨blk3', x3c'.cells, Ty3'⟩] (Builtin.append_ #[t_sl_cellplaneref24_Cell, t_sl_cellplaneref24_Cell] t_sl_cellplaneref24_Cell #[(.slice (some ⟨b71, 0, none⟩) 0 0), (.slice l68.a (Int.toNat i5') l68.c)]) fun r74 w75 => ∃ l73 : Sl, r74 = (.slice l73.a l73.n l73.c) ∧ At w75 q69 [(.slice l70.a l70.n l70.c)] ∧ RunL PP N w75 [⟨blk3', x3c'.cells, Ty3'⟩] (Builtin.append_ #[t_sl_cellplaneref24_Cell, t_sl_cellplaneref24_Cell] t_sl_cellplaneref24_Cell #[(.slice l73.a l73.n l73.c), (.slice (slA l70.a l70.c ((IntKind.i64.wrap (i5' + 1)) : Int).toNat 3) (l70.n - ((IntKind.i64.wrap (i5' + 1)) : Int).toNat) (l70.c - ((IntKind.i64.wrap (i5' + 1)) : Int).toNat))]) fun r77 w78 => ∃ l76 : Sl, r77 = (.slice l76.a l76.n l76.c) ∧ NilL s0' fun q79 => StL w78 [⟨blk3', x3c'.cells, Ty3'⟩] q79 [(.slice l76.a l76.n l76.c)] fun w80 => Reb N w80 [⟨blk3', x3c'.cells, Ty3'⟩] fun w81 => C_cellplaneref24_Store_Apply_4 N Q w81)) (Reb N w [⟨blk3', x3c'.cells, Ty3'⟩] fun w82 => C_cellplaneref24_Store_Apply_4 N Q w82)))

theorem X_cellplaneref24_Store_Apply_5 {N : Nat} {Q : Value → World → Prop} {s0' : Option Addr} {blk3' : Nat} {x3c' : G_api_Change} {Ty3' : Nat} {i5' : Int} {ok6' v17' : Bool} {w : World} (h : C_cellplaneref24_Store_Apply_5 N Q s0' blk3' x3c' Ty3' i5' ok6' v17' w) : Snd (cx N (fun d => memN d [3])) k_cellplaneref24_Store_Apply_1 (z_cellplaneref24_Store_Apply_2 N Q) (mkS 108 [.val 0, .loc 3, .val 5, .val 6, .val 17] [(.pointer s0'), (.int .i64 i5'), (.bool ok6'), (.bool v17')] [⟨blk3', x3c'.cells, Ty3'⟩]) w :=
  (den_sound okc mixed _ _ _ _ (mpr' (by kernel_rfl) h))

noncomputable def H_cellplaneref24_Store_Apply_5 (N : Nat) (Q : Value → World → Prop) : St → World → Prop := fun s w => grabK 108 [.val 0, .loc 3, .val 5, .val 6, .val 17] s fun vs ls => match vs, ls with
  | [.pointer s0', .int .i64 i5', .bool ok6', .bool v17'], [⟨blk3', x3c'_r, Ty3'⟩] => G_api_Change.decL x3c'_r fun x3c' => Reb N w s.L fun wa => C_cellplaneref24_Store_Apply_5 N Q s0' blk3' x3c' Ty3' i5' ok6' v17' wa
  | _, _ => False

theorem T_cellplaneref24_Store_Apply_5 (N : Nat) (Q : Value → World → Prop) (s : St) (w : World) (h : H_cellplaneref24_Store_Apply_5 N Q s w) : Snd (cx N (fun d => memN d [3])) k_cellplaneref24_Store_Apply_1 (z_cellplaneref24_Store_Apply_2 N Q) s w := by
  refine Snd.grab h (fun vs ls hd hloc wa hl => ?_)
  split at hd
  · obtain ⟨x3c', rfl, hd0⟩ := G_api_Change.decL_spec hd
    exact X_cellplaneref24_Store_Apply_5 (hd0 wa hl)
  · exact hd.elim

def C_cellplaneref24_Store_Apply_3 (N : Nat) (Q : Value → World → Prop) (s0' : Option Addr) (blk3' : Nat) (x3c' : G_api_Change) (Ty3' : Nat) (i5' : Int) (ok6' : Bool) (w : World) : Prop :=
  IfB (decide ((x3c'.Kind : Int) = 1)) (Reb N w [⟨blk3', x3c'.cells, Ty3'⟩] fun w83 => C_cellplaneref24_Store_Apply_5 N Q s0' blk3' x3c' Ty3' i5' ok6' ok6' w83) (Reb N w [⟨blk3', x3c'.cells, Ty3'⟩] fun w84 => C_cellplaneref24_Store_Apply_5 N Q s0' blk3' x3c' Ty3' i5' ok6' false w84)

theorem X_cellplaneref24_Store_Apply_3 {N : Nat} {Q : Value → World → Prop} {s0' : Option Addr} {blk3' : Nat} {x3c' : G_api_Change} {Ty3' : Nat} {i5' : Int} {ok6' : Bool} {w : World} (h : C_cellplaneref24_Store_Apply_3 N Q s0' blk3' x3c' Ty3' i5' ok6' w) : Snd (cx N (fun d => memN d [3])) k_cellplaneref24_Store_Apply_0 (retD (cx N (fun d => memN d [3])) Go.Proofs.Try.f47 Q) (mkS 108 [.val 0, .loc 3, .val 5, .val 6] [(.pointer s0'), (.int .i64 i5'), (.bool ok6')] [⟨blk3', x3c'.cells, Ty3'⟩]) w :=
  (Snd.cast (c' := .seq (cL k_cellplaneref24_Store_Apply_0) (cR k_cellplaneref24_Store_Apply_0)) (by kernel_rfl) (Snd.seq (H_cellplaneref24_Store_Apply_4 N Q) (Snd.cast (c' := .block 0 (cL (cL k_cellplaneref24_Store_Apply_0))) (by kernel_rfl) (Snd.block (Snd.cast (c' := .seq (cL (cL (cL k_cellplaneref24_Store_Apply_0))) (cR (cL (cL k_cellplaneref24_Store_Apply_0)))) (by kernel_rfl) (Snd.seq (H_cellplaneref24_Store_Apply_5 N Q) (den_sound okc mixed _ _ _ _ (mpr' (by kernel_rfl) h)) (fun s w h => T_cellplaneref24_Store_Apply_5 N Q s w h))))) (fun s w h => T_cellplaneref24_Store_Apply_4 N Q s w h)))

noncomputable def H_cellplaneref24_Store_Apply_3 (N : Nat) (Q : Value → World → Prop) : St → World → Prop := fun s w => grabK 108 [.val 0, .loc 3, .val 5, .val 6] s fun vs ls => match vs, ls with
  | [.pointer s0', .int .i64 i5', .bool ok6'], [⟨blk3', x3c'_r, Ty3'⟩] => G_api_Change.decL x3c'_r fun x3c' => Reb N w s.L fun wa => C_cellplaneref24_Store_Apply_3 N Q s0' blk3' x3c' Ty3' i5' ok6' wa
  | _, _ => False

theorem T_cellplaneref24_Store_Apply_3 (N : Nat) (Q : Value → World → Prop) (s : St) (w : World) (h : H_cellplaneref24_Store_Apply_3 N Q s w) : Snd (cx N (fun d => memN d [3])) k_cellplaneref24_Store_Apply_0 (retD (cx N (fun d => memN d [3])) Go.Proofs.Try.f47 Q) s w := by
  refine Snd.grab h (fun vs ls hd hloc wa hl => ?_)
  split at hd
  · obtain ⟨x3c', rfl, hd0⟩ := G_api_Change.decL_spec hd
    exact X_cellplaneref24_Store_Apply_3 (hd0 wa hl)
  · exact hd.elim

def C_cellplaneref24_Store_Apply_2 (N : Nat) (Q : Value → World → Prop) (s0' : Option Addr) (blk3' : Nat) (x3c' : G_api_Change) (Ty3' : Nat) (w : World) : Prop :=
  CallL PP N w [⟨blk3', x3c'.cells, Ty3'⟩] n_cellplaneref24_Store_find [(.pointer s0'), (.string x3c'.Key)] fun r87 w88 => ∃ n85 : Int, ∃ b86 : Bool, r87 = (.tuple #[(.int .i64 n85), (.bool b86)]) ∧ Reb N w88 [⟨blk3', x3c'.cells, Ty3'⟩] fun w89 => C_cellplaneref24_Store_Apply_3 N Q s0' blk3' x3c' Ty3' n85 b86 w89

theorem X_cellplaneref24_Store_Apply_2 {N : Nat} {Q : Value → World → Prop} {s0' : Option Addr} {blk3' : Nat} {x3c' : G_api_Change} {Ty3' : Nat} {w : World} (h : C_cellplaneref24_Store_Apply_2 N Q s0' blk3' x3c' Ty3' w) : Snd (cx N (fun d => memN d [3])) (cR (cR (bodyOf Go.Proofs.Try.f47))) (retD (cx N (fun d => memN d [3])) Go.Proofs.Try.f47 Q) (mkS 108 [.val 0, .loc 3] [(.pointer s0')] [⟨blk3', x3c'.cells, Ty3'⟩]) w :=
  (Snd.cast (c' := .seq (cL (cR (cR (bodyOf Go.Proofs.Try.f47)))) (cR (cR (cR (bodyOf Go.Proofs.Try.f47))))) (by kernel_rfl) (Snd.seq (H_cellplaneref24_Store_Apply_3 N Q) (den_sound okc mixed _ _ _ _ (mpr' (by kernel_rfl) h)) (fun s w h => T_cellplaneref24_Store_Apply_3 N Q s w h)))

noncomputable def H_cellplaneref24_Store_Apply_2 (N : Nat) (Q : Value → World → Prop) : St → World → Prop := fun s w => grabK 108 [.val 0, .loc 3] s fun vs ls => match vs, ls with
  | [.pointer s0'], [⟨blk3', x3c'_r, Ty3'⟩] => G_api_Change.decL x3c'_r fun x3c' => Reb N w s.L fun wa => C_cellplaneref24_Store_Apply_2 N Q s0' blk3' x3c' Ty3' wa
  | _, _ => False

theorem T_cellplaneref24_Store_Apply_2 (N : Nat) (Q : Value → World → Prop) (s : St) (w : World) (h : H_cellplaneref24_Store_Apply_2 N Q s w) : Snd (cx N (fun d => memN d [3])) (cR (cR (bodyOf Go.Proofs.Try.f47))) (retD (cx N (fun d => memN d [3])) Go.Proofs.Try.f47 Q) s w := by
  refine Snd.grab h (fun vs ls hd hloc wa hl => ?_)
  split at hd
  · obtain ⟨x3c', rfl, hd0⟩ := G_api_Change.decL_spec hd
    exact X_cellplaneref24_Store_Apply_2 (hd0 wa hl)
  · exact hd.elim

def C_cellplaneref24_Store_Apply_1 (N : Nat) (Q : Value → World → Prop) (s0' : Option Addr) (blk3' : Nat) (x3c' : G_api_Change) (Ty3' : Nat) (w : World) : Prop :=
  CallL PP N w [⟨blk3', x3c'.cells, Ty3'⟩] n_cellplaneref24_Valid [(.agg (List.toArray x3c'.cells))] fun r91 w92 => ∃ b90 : Bool, r91 = (.bool b90) ∧ IfB (!b90) (Reb N w92 [⟨blk3', x3c'.cells, Ty3'⟩] (Q (.int .i64 1))) (Reb N w92 [⟨blk3', x3c'.cells, Ty3'⟩] fun w93 => C_cellplaneref24_Store_Apply_2 N Q s0' blk3' x3c' Ty3' w93)

theorem X_cellplaneref24_Store_Apply_1 {N : Nat} {Q : Value → World → Prop} {s0' : Option Addr} {blk3' : Nat} {x3c' : G_api_Change} {Ty3' : Nat} {w : World} (h : C_cellplaneref24_Store_Apply_1 N Q s0' blk3' x3c' Ty3' w) : Snd (cx N (fun d => memN d [3])) (cR (bodyOf Go.Proofs.Try.f47)) (retD (cx N (fun d => memN d [3])) Go.Proofs.Try.f47 Q) (mkS 108 [.val 0, .loc 3] [(.pointer s0')] [⟨blk3', x3c'.cells, Ty3'⟩]) w :=
  (Snd.cast (c' := .seq (cL (cR (bodyOf Go.Proofs.Try.f47))) (cR (cR (bodyOf Go.Proofs.Try.f47)))) (by kernel_rfl) (Snd.seq (H_cellplaneref24_Store_Apply_2 N Q) (den_sound okc mixed _ _ _ _ (mpr' (by kernel_rfl) h)) (fun s w h => T_cellplaneref24_Store_Apply_2 N Q s w h)))

noncomputable def H_cellplaneref24_Store_Apply_1 (N : Nat) (Q : Value → World → Prop) : St → World → Prop := fun s w => grabK 108 [.val 0, .loc 3] s fun vs ls => match vs, ls with
  | [.pointer s0'], [⟨blk3', x3c'_r, Ty3'⟩] => G_api_Change.decL x3c'_r fun x3c' => Reb N w s.L fun wa => C_cellplaneref24_Store_Apply_1 N Q s0' blk3' x3c' Ty3' wa
  | _, _ => False

theorem T_cellplaneref24_Store_Apply_1 (N : Nat) (Q : Value → World → Prop) (s : St) (w : World) (h : H_cellplaneref24_Store_Apply_1 N Q s w) : Snd (cx N (fun d => memN d [3])) (cR (bodyOf Go.Proofs.Try.f47)) (retD (cx N (fun d => memN d [3])) Go.Proofs.Try.f47 Q) s w := by
  refine Snd.grab h (fun vs ls hd hloc wa hl => ?_)
  split at hd
  · obtain ⟨x3c', rfl, hd0⟩ := G_api_Change.decL_spec hd
    exact X_cellplaneref24_Store_Apply_1 (hd0 wa hl)
  · exact hd.elim

def F_cellplaneref24_Store_Apply (N : Nat) (s0 : Option Addr) (x1 : G_api_Change) (Q : Value → World → Prop) (w : World) : Prop :=
  ∀ b94 : Nat, w.heap.size ≤ b94 → Reb N w [⟨b94, x1.cells, t_api_Change⟩] fun w95 => C_cellplaneref24_Store_Apply_1 N Q s0 b94 x1 t_api_Change w95

theorem cellplaneref24_Store_Apply_snd (N : Nat) (s0 : Option Addr) (x1 : G_api_Change) (Q : Value → World → Prop) (w : World) (h : F_cellplaneref24_Store_Apply N s0 x1 Q w) : Snd (cx N (fun d => memN d [3])) (bodyOf Go.Proofs.Try.f47) (retD (cx N (fun d => memN d [3])) Go.Proofs.Try.f47 Q) (entry 108 [(.pointer s0), (.agg (List.toArray x1.cells))]) w :=
  (Snd.cast (c' := .seq (cL (bodyOf Go.Proofs.Try.f47)) (cR (bodyOf Go.Proofs.Try.f47))) (by kernel_rfl) (Snd.seq (H_cellplaneref24_Store_Apply_1 N Q) (den_sound okc mixed _ _ _ _ (mpr' (by kernel_rfl) h)) (fun s w h => T_cellplaneref24_Store_Apply_1 N Q s w h)))

theorem cellplaneref24_Store_Apply_calls (s0 : Option Addr) (x1 : G_api_Change) (Q : Value → World → Prop) (w : World) (h : F_cellplaneref24_Store_Apply w.heap.size s0 x1 Q w) : Calls PP n_cellplaneref24_Store_Apply [(.pointer s0), (.agg (List.toArray x1.cells))].toArray w fun e w' => ∃ v, e = .returned v ∧ Q v w' :=
  calls_of (C := cx w.heap.size (fun d => memN d [3])) (fn := Go.Proofs.Try.f47) (c := (bodyOf Go.Proofs.Try.f47)) (by kernel_rfl) (by kernel_rfl) (Nat.le_refl _) (cellplaneref24_Store_Apply_snd _ s0 x1 Q w h)

/-! ### cellplaneref25_Queue_Apply -/
noncomputable def k_cellplaneref25_Queue_Apply_0 : Code := (cR (cR (cR (bodyOf Go.Proofs.Try.f48))))

def C_cellplaneref25_Queue_Apply_3 (N : Nat) (Q : Value → World → Prop) (w : World) : Prop :=
  Reb N w [] (Q (.int .i64 0))

theorem X_cellplaneref25_Queue_Apply_3 {N : Nat} {Q : Value → World → Prop} {w : World} (h : C_cellplaneref25_Queue_Apply_3 N Q w) : Snd (cx N (fun d => memN d [3])) k_cellplaneref25_Queue_Apply_0 (retD (cx N (fun d => memN d [3])) Go.Proofs.Try.f48 Q) (mkS 78 [] [] []) w :=
  (den_sound okc mixed _ _ _ _ (mpr' (by kernel_rfl) h))

noncomputable def H_cellplaneref25_Queue_Apply_3 (N : Nat) (Q : Value → World → Prop) : St → World → Prop := fun s w => grabK 78 [] s fun vs ls => match vs, ls with
  | [], [] => Reb N w s.L fun wa => C_cellplaneref25_Queue_Apply_3 N Q wa
  | _, _ => False

theorem T_cellplaneref25_Queue_Apply_3 (N : Nat) (Q : Value → World → Prop) (s : St) (w : World) (h : H_cellplaneref25_Queue_Apply_3 N Q s w) : Snd (cx N (fun d => memN d [3])) k_cellplaneref25_Queue_Apply_0 (retD (cx N (fun d => memN d [3])) Go.Proofs.Try.f48 Q) s w := by
  refine Snd.grab h (fun vs ls hd hloc wa hl => ?_)
  split at hd
  · exact X_cellplaneref25_Queue_Apply_3 (hd wa hl)
  · exact hd.elim

noncomputable def k_cellplaneref25_Queue_Apply_1 : Code := (cR (cL (cR (cR (bodyOf Go.Proofs.Try.f48)))))

noncomputable def z_cellplaneref25_Queue_Apply_2 (N : Nat) (Q : Value → World → Prop) : Cont := (thenD (H_cellplaneref25_Queue_Apply_3 N Q) (retD (cx N (fun d => memN d [3])) Go.Proofs.Try.f48 Q))

noncomputable def k_cellplaneref25_Queue_Apply_3 : Code := (cR (cL (cR (cL k_cellplaneref25_Queue_Apply_1))))

def C_cellplaneref25_Queue_Apply_8 (N : Nat) (Q : Value → World → Prop) (q0' : Option Addr) (blk3' : Nat) (x3c' : G_api_Change) (Ty3' : Nat) (w : World) : Prop :=
  NilL q0' fun q1 => StL w [⟨blk3', x3c'.cells, Ty3'⟩] (addA q1 2) [(.int .i64 x3c'.Seq)] fun w2 => Reb N w2 [⟨blk3', x3c'.cells, Ty3'⟩] fun w3 => C_cellplaneref25_Queue_Apply_3 N Q w3

theorem X_cellplaneref25_Queue_Apply_8 {N : Nat} {Q : Value → World → Prop} {q0' : Option Addr} {blk3' : Nat} {x3c' : G_api_Change} {Ty3' : Nat} {w : World} (h : C_cellplaneref25_Queue_Apply_8 N Q q0' blk3' x3c' Ty3' w) : Snd (cx N (fun d => memN d [3])) (cR (cR k_cellplaneref25_Queue_Apply_3)) (inBlockD 0 (z_cellplaneref25_Queue_Apply_2 N Q)) (mkS 78 [.val 0, .loc 3] [(.pointer q0')] [⟨blk3', x3c'.cells, Ty3'⟩]) w :=
  (den_sound okc mixed _ _ _ _ (mpr' (by kernel_rfl) h))

noncomputable def H_cellplaneref25_Queue_Apply_8 (N : Nat) (Q : Value → World → Prop) : St → World → Prop := fun s w => grabK 78 [.val 0, .loc 3] s fun vs ls => match vs, ls with
  | [.pointer q0'], [⟨blk3', x3c'_r, Ty3'⟩] => G_api_Change.decL x3c'_r fun x3c' => Reb N w s.L fun wa => C_cellplaneref25_Queue_Apply_8 N Q q0' blk3' x3c' Ty3' wa
  | _, _ => False

theorem T_cellplaneref25_Queue_Apply_8 (N : Nat) (Q : Value → World → Prop) (s : St) (w : World) (h : H_cellplaneref25_Queue_Apply_8 N Q s w) : Snd (cx N (fun d => memN d [3])) (cR (cR k_cellplaneref25_Queue_Apply_3)) (inBlockD 0 (z_cellplaneref25_Queue_Apply_2 N Q)) s w := by
  refine Snd.grab h (fun vs ls hd hloc wa hl => ?_)
  split at hd
  · obtain ⟨x3c', rfl, hd0⟩ := G_api_Change.decL_spec hd
    exact X_cellplaneref25_Queue_Apply_8 (hd0 wa hl)
  · exact hd.elim

def C_cellplaneref25_Queue_Apply_7 (N : Nat) (Q : Value → World → Prop) (q0' : Option Addr) (blk3' : Nat) (x3c' : G_api_Change) (Ty3' : Nat) (w : World) : Prop :=
  NilL q0' fun q4 => ∃ l5 : Sl, At w q4 [(.slice l5.a l5.n l5.c)] ∧ NotIn (q4 : Addr).block [⟨blk3', x3c'.cells, Ty3'⟩] ∧ (NewL N w [⟨blk3', x3c'.cells, Ty3'⟩] ([]) t_api_Item fun b6 w7 => (RunL PP N w7 [⟨blk3', x3c'.cells, Ty3'⟩] (Builtin.append_ #[t_sl_api_Item, t_sl_api_Item] t_sl_api_Item #[(.slice (some ⟨b6, 0, none⟩) 0 0), (.slice l5.a l5.n l5.c)]) fun r9 w10 => ∃ l8 : Sl, r9 = (.slice l8.a l8.n l8.c) ∧ NewL N w10 [⟨blk3', x3c'.cells, Ty3'⟩] (⟨x3c'.Seq, x3c'.Value_⟩ : G_api_Item).cells t_api_Item fun b11 w12 => RunL PP N w12 [⟨blk3', x3c'.cells, Ty3'⟩] (Builtin.append_ #[t_sl_api_Item, t_sl_api_Item] t_sl_api_Item #[(.slice l8.a l8.n l8.c), (.slice (some ⟨b11, 0, none⟩) 1 1)]) fun r14 w15 => ∃ l13 : Sl, r14 = (.slice l13.a l13.n l13.c) ∧ NilL q0' fun q16 => StL w15 [⟨blk3', x3c'.cells, Ty3'⟩] q16 [(.slice l13.a l13.n l13.c)] fun w17 => Reb N w17 [⟨blk3', x3c'.cells, Ty3'⟩] fun w18 => C_cellplaneref25_Queue_Apply_8 N Q q0' blk3' x3c' Ty3' w18) ∧ (NewL N w7 [⟨blk3', x3c'.cells, Ty3'⟩] (⟨x3c'.Seq, x3c'.Value_⟩ : G_api_Item).cells t_api_Item fun b19 w20 => RunL PP N w20 [⟨blk3', x3c'.cells, Ty3'⟩] (Builtin.append_ #[t_sl_api_Item, t_sl_api_Item] t_sl_api_Item #[(.slice (some ⟨b6, 0, none⟩) 0 0), (.slice l5.a l5.n l5.c)]) fun r22 w23 => ∃ l21 : Sl, r22 = (.slice l21.a l21.n l21.c) ∧ RunL PP N w23 [⟨blk3', x3c'.cells, Ty3'⟩] (Builtin.append_ #[t_sl_api_Item, t_sl_api_Item] t_sl_api_Item #[(.slice l21.a l21.n l21.c), (.slice (some ⟨b19, 0, none⟩) 1 1)]) fun r25 w26 => ∃ l24 : Sl, r25 = (.slice l24.a l24.n l24.c) ∧ NilL q0' fun q27 => StL w26 [⟨blk3', x3c'.cells, Ty3'⟩] q27 [(.slice l24.a l24.n l24.c)] fun w28 => Reb N w28 [⟨blk3', x3c'.cells, Ty3'⟩] fun w29 => C_cellplaneref25_Queue_Apply_8 N Q q0' blk3' x3c' Ty3' w29)) ∧ (NewL N w [⟨blk3', x3c'.cells, Ty3'⟩] (⟨x3c'.Seq, x3c'.Value_⟩ : G_api_Item).cells t_api_Item fun b30 w31 => NewL N w31 [⟨blk3', x3c'.cells, Ty3'⟩] ([]) t_api_Item fun b32 w33 => RunL PP N w33 [⟨blk3', x3c'.cells, Ty3'⟩] (Builtin.append_ #[t_sl_api_Item, t_sl_api_Item] t_sl_api_Item #[(.slice (some ⟨b32, 0, none⟩) 0 0), (.slice l5.a l5.n l5.c)]) fun r35 w36 => ∃ l34 : Sl, r35 = (.slice l34.a l34.n l34.c) ∧ RunL PP N w36 [⟨blk3', x3c'.cells, Ty3'⟩] (Builtin.append_ #[t_sl_api_Item, t_sl_api_Item] t_sl_api_Item #[(.slice l34.a l34.n l34.c), (.slice (some ⟨b30, 0, none⟩) 1 1)]) fun r38 w39 => ∃ l37 : Sl, r38 = (.slice l37.a l37.n l37.c) ∧ NilL q0' fun q40 => StL w39 [⟨blk3', x3c'.cells, Ty3'⟩] q40 [(.slice l37.a l37.n l37.c)] fun w41 => Reb N w41 [⟨blk3', x3c'.cells, Ty3'⟩] fun w42 => C_cellplaneref25_Queue_Apply_8 N Q q0' blk3' x3c' Ty3' w42)

theorem X_cellplaneref25_Queue_Apply_7 {N : Nat} {Q : Value → World → Prop} {q0' : Option Addr} {blk3' : Nat} {x3c' : G_api_Change} {Ty3' : Nat} {w : World} (h : C_cellplaneref25_Queue_Apply_7 N Q q0' blk3' x3c' Ty3' w) : Snd (cx N (fun d => memN d [3])) (cR k_cellplaneref25_Queue_Apply_3) (inBlockD 0 (z_cellplaneref25_Queue_Apply_2 N Q)) (mkS 78 [.val 0, .loc 3] [(.pointer q0')] [⟨blk3', x3c'.cells, Ty3'⟩]) w :=
  (Snd.cast (c' := .seq (cL (cR k_cellplaneref25_Queue_Apply_3)) (cR (cR k_cellplaneref25_Queue_Apply_3))) (by kernel_rfl) (Snd.seq (H_cellplaneref25_Queue_Apply_8 N Q) (den_sound okc mixed _ _ _ _ (mpr' (by kernel_rfl) h)) (fun s w h => T_cellplaneref25_Queue_Apply_8 N Q s w h)))

noncomputable def H_cellplaneref25_Queue_Apply_7 (N : Nat) (Q : Value → World → Prop) : St → World → Prop := fun s w => grabK 78 [.val 0, .loc 3] s fun vs ls => match vs, ls with
  | [.pointer q0'], [⟨blk3', x3c'_r, Ty3'⟩] => G_api_Change.decL x3c'_r fun x3c' => Reb N w s.L fun wa => C_cellplaneref25_Queue_Apply_7 N Q q0' blk3' x3c' Ty3' wa
  | _, _ => False

theorem T_cellplaneref25_Queue_Apply_7 (N : Nat) (Q : Value → World → Prop) (s : St) (w : World) (h : H_cellplaneref25_Queue_Apply_7 N Q s w) : Snd (cx N (fun d => memN d [3])) (cR k_cellplaneref25_Queue_Apply_3) (inBlockD 0 (z_cellplaneref25_Queue_Apply_2 N Q)) s w := by
  refine Snd.grab h (fun vs ls hd hloc wa hl => ?_)
  split at hd
  · obtain ⟨x3c', rfl, hd0⟩ := G_api_Change.decL_spec hd
    exact X_cellplaneref25_Queue_Apply_7 (hd0 wa hl)
  · exact hd.elim

def C_cellplaneref25_Queue_Apply_6 (N : Nat) (Q : Value → World → Prop) (q0' : Option Addr) (blk3' : Nat) (x3c' : G_api_Change) (Ty3' : Nat) (w : World) : Prop :=
  NilL q0' fun q43 => ∃ l44 : Sl, At w q43 [(.slice l44.a l44.n l44.c)] ∧ NotIn (q43 : Addr).block [⟨blk3', x3c'.cells, Ty3'⟩] ∧ IfB (decide ((16 : Int) ≤ ((l44.n : Nat) : Int))) (Reb N w [⟨blk3', x3c'.cells, Ty3'⟩] (Q (.int .i64 33))) (Reb N w [⟨blk3', x3c'.cells, Ty3'⟩] fun w45 => C_cellplaneref25_Queue_Apply_7 N Q q0' blk3' x3c' Ty3' w45)

theorem X_cellplaneref25_Queue_Apply_6 {N : Nat} {Q : Value → World → Prop} {q0' : Option Addr} {blk3' : Nat} {x3c' : G_api_Change} {Ty3' : Nat} {w : World} (h : C_cellplaneref25_Queue_Apply_6 N Q q0' blk3' x3c' Ty3' w) : Snd (cx N (fun d => memN d [3])) k_cellplaneref25_Queue_Apply_3 (inBlockD 0 (z_cellplaneref25_Queue_Apply_2 N Q)) (mkS 78 [.val 0, .loc 3] [(.pointer q0')] [⟨blk3', x3c'.cells, Ty3'⟩]) w :=
  (Snd.cast (c' := .seq (cL k_cellplaneref25_Queue_Apply_3) (cR k_cellplaneref25_Queue_Apply_3)) (by kernel_rfl) (Snd.seq (H_cellplaneref25_Queue_Apply_7 N Q) (den_sound okc mixed _ _ _ _ (mpr' (by kernel_rfl) h)) (fun s w h => T_cellplaneref25_Queue_Apply_7 N Q s w h)))

noncomputable def H_cellplaneref25_Queue_Apply_6 (N : Nat) (Q : Value → World → Prop) : St → World → Prop := fun s w => grabK 78 [.val 0, .loc 3] s fun vs ls => match vs, ls with
  | [.pointer q0'], [⟨blk3', x3c'_r, Ty3'⟩] => G_api_Change.decL x3c'_r fun x3c' => Reb N w s.L fun wa => C_cellplaneref25_Queue_Apply_6 N Q q0' blk3' x3c' Ty3' wa
  | _, _ => False

theorem T_cellplaneref25_Queue_Apply_6 (N : Nat) (Q : Value → World → Prop) (s : St) (w : World) (h : H_cellplaneref25_Queue_Apply_6 N Q s w) : Snd (cx N (fun d => memN d [3])) k_cellplaneref25_Queue_Apply_3 (inBlockD 0 (z_cellplaneref25_Queue_Apply_2 N Q)) s w := by
  refine Snd.grab h (fun vs ls hd hloc wa hl => ?_)
  split at hd
  · obtain ⟨x3c', rfl, hd0⟩ := G_api_Change.decL_spec hd
    exact X_cellplaneref25_Queue_Apply_6 (hd0 wa hl)
  · exact hd.elim

def C_cellplaneref25_Queue_Apply_5 (N : Nat) (Q : Value → World → Prop) (q0' : Option Addr) (blk3' : Nat) (x3c' : G_api_Change) (Ty3' : Nat) (v10' : Int) (v11' : Bool) (w : World) : Prop :=
  IfB v11' (NilL q0' fun q46 => ∃ n47 : Int, At w (addA q46 2) [(.int .i64 n47)] ∧ NotIn ((addA q46 2) : Addr).block [⟨blk3', x3c'.cells, Ty3'⟩] ∧ IfB (decide ((x3c'.Seq : Int) ≤ n47)) (Reb N w [⟨blk3', x3c'.cells, Ty3'⟩] (Q (.int .i64 36))) (Reb N w [⟨blk3', x3c'.cells, Ty3'⟩] fun w48 => C_cellplaneref25_Queue_Apply_6 N Q q0' blk3' x3c' Ty3' w48)) (IfB (decide ((v10' : Int) = 4)) (CallL PP N w [⟨blk3', x3c'.cells, Ty3'⟩] n_cellplaneref25_Queue_at [(.pointer q0'), (.int .i64 x3c'.Item)] fun r50 w51 => ∃ n49 : Int, r50 = (.int .i64 n49) ∧ IfB (decide ((n49 : Int) < 0)) (Reb N w51 [⟨blk3', x3c'.cells, Ty3'⟩] (Q (.int .i64 34))) (NilL q0' fun q52 => ∃ l53 : Sl, At w51 q52 [(.slice l53.a l53.n l53.c)] ∧ NotIn (q52 : Addr).block [⟨blk3', x3c'.cells, Ty3'⟩] ∧ (0 : Int) ≤ n49 ∧ (n49 : Int) ≤ (l53.c : Nat) ∧ NilL q0' fun q54 => ∃ l55 : Sl, At w51 q54 [(.slice l55.a l55.n l55.c)] ∧ NotIn (q54 : Addr).block [⟨blk3', x3c'.cells, Ty3'⟩] ∧ (0 : Int) ≤ (IntKind.i64.wrap (n49 + 1)) ∧ ((IntKind.i64.wrap (n49 + 1)) : Int) ≤ (l55.n : Nat) ∧ NewL N w51 [⟨blk3', x3c'.cells, Ty3'⟩] ([]) t_api_Item fun b56 w57 => RunL PP N w57 [⟨blk3', x3c'.cells, Ty3'⟩] (Builtin.append_ #[t_sl_api_Item, t_sl_api_Item] t_sl_api_Item #[(.slice (some ⟨b56, 0, none⟩) 0 0), (.slice l53.a (Int.toNat n49) l53.c)]) fun r59 w60 => ∃ l58 : Sl, r59 = (.slice l58.a l58.n l58.c) ∧ At w60 q54 [(.slice l55.a l55.n l55.c)] ∧ RunL PP N w60 [⟨blk3', x3c'.cells, Ty3'⟩] (Builtin.append_ #[t_sl_api_Item, t_sl_api_Item] t_sl_api_Item #[(.slice l58.a l58.n l58.c), (.slice (slA l55.a l55.c ((IntKind.i64.wrap (n49 + 1)) : Int).toNat 2) (l55.n - ((IntKind.i64.wrap (n49 + 1)) : Int).toNat) (l55.c - ((IntKind.i64.wrap (n49 + 1)) : Int).toNat))]) fun r62 w63 => ∃ l61 : Sl, r62 = (.slice l61.a l61.n l61.c) ∧ NilL q0' fun q64 => StL w63 [⟨blk3', x3c'.cells, Ty3'⟩] q64 [(.slice l61.a l61.n l61.c)] fun w65 => CallL PP N w65 [⟨blk3', x3c'.cells, Ty3'⟩] n_cellplaneref25_Queue_drop [(.pointer q0'), (.int .i64 x3c'.Item)] fun r66 w67 => r66 = (.tuple #[]) ∧ Reb N w67 [⟨blk3', x3c'.cells, Ty3'⟩] fun w68 => C_cellplaneref25_Queue_Apply_3 N Q w68)) (Reb N w [⟨blk3', x3c'.cells, Ty3'⟩] fun w69 => C_cellplaneref25_Queue_Apply_3 N Q w69))

theorem X_cellplaneref25_Queue_Apply_5 {N : Nat} {Q : Value → World → Prop} {q0' : Option Addr} {blk3' : Nat} {x3c' : G_api_Change} {Ty3' : Nat} {v10' : Int} {v11' : Bool} {w : World} (h : C_cellplaneref25_Queue_Apply_5 N Q q0' blk3' x3c' Ty3' v10' v11' w) : Snd (cx N (fun d => memN d [3])) (cR (cL k_cellplaneref25_Queue_Apply_1)) (inBlockD 0 (z_cellplaneref25_Queue_Apply_2 N Q)) (mkS 78 [.val 0, .loc 3, .val 10, .val 11] [(.pointer q0'), (.int .i64 v10'), (.bool v11')] [⟨blk3', x3c'.cells, Ty3'⟩]) w :=
  (Snd.cast (c' := .cond (.tmp 11) (cL (cR (cL k_cellplaneref25_Queue_Apply_1))) (cR (cR (cL k_cellplaneref25_Queue_Apply_1)))) (by kernel_rfl) (Snd.cond (t := v11') (by kernel_rfl) (by kernel_rfl) (fun ht => (fun h => (Snd.cast (c' := .seq (cL (cL (cR (cL k_cellplaneref25_Queue_Apply_1)))) (cR (cL (cR (cL k_cellplaneref25_Queue_Apply_1))))) (by kernel_rfl) (Snd.seq (H_cellplaneref25_Queue_Apply_6 N Q) (den_sound okc mixed _ _ _ _ (mpr' (by kernel_rfl) h)) (fun s w h => T_cellplaneref25_Queue_Apply_6 N Q s w h)))) (ifb_t h ht)) (fun ht => (fun h => (den_sound okc mixed _ _ _ _ (mpr' (by kernel_rfl) h))) (ifb_f h ht))))

noncomputable def H_cellplaneref25_Queue_Apply_5 (N : Nat) (Q : Value → World → Prop) : St → World → Prop := fun s w => grabK 78 [.val 0, .loc 3, .val 10, .val 11] s fun vs ls => match vs, ls with
  | [.pointer q0', .int .i64 v10', .bool v11'], [⟨blk3', x3c'_r, Ty3'⟩] => G_api_Change.decL x3c'_r fun x3c' => Reb N w s.L fun wa => C_cellplaneref25_Queue_Apply_5 N Q q0' blk3' x3c' Ty3' v10' v11' wa
  | _, _ => False

theorem T_cellplaneref25_Queue_Apply_5 (N : Nat) (Q : Value → World → Prop) (s : St) (w : World) (h : H_cellplaneref25_Queue_Apply_5 N Q s w) : Snd (cx N (fun d => memN d [3])) (cR (cL k_cellplaneref25_Queue_Apply_1)) (inBlockD 0 (z_cellplaneref25_Queue_Apply_2 N Q)) s w := by
  refine Snd.grab h (fun vs ls hd hloc wa hl => ?_)
  split at hd
  · obtain ⟨x3c', rfl, hd0⟩ := G_api_Change.decL_spec hd
    exact X_cellplaneref25_Queue_Apply_5 (hd0 wa hl)
  · exact hd.elim

def C_cellplaneref25_Queue_Apply_4 (N : Nat) (Q : Value → World → Prop) (q0' : Option Addr) (blk3' : Nat) (x3c' : G_api_Change) (Ty3' : Nat) (v10' : Int) (w : World) : Prop :=
  Reb N w [⟨blk3', x3c'.cells, Ty3'⟩] fun w70 => C_cellplaneref25_Queue_Apply_5 N Q q0' blk3' x3c' Ty3' v10' (decide ((v10' : Int) = 3)) w70

theorem X_cellplaneref25_Queue_Apply_4 {N : Nat} {Q : Value → World → Prop} {q0' : Option Addr} {blk3' : Nat} {x3c' : G_api_Change} {Ty3' : Nat} {v10' : Int} {w : World} (h : C_cellplaneref25_Queue_Apply_4 N Q q0' blk3' x3c' Ty3' v10' w) : Snd (cx N (fun d => memN d [3])) k_cellplaneref25_Queue_Apply_1 (z_cellplaneref25_Queue_Apply_2 N Q) (mkS 78 [.val 0, .loc 3, .val 10] [(.pointer q0'), (.int .i64 v10')] [⟨blk3', x3c'.cells, Ty3'⟩]) w :=
  (Snd.cast (c' := .block 0 (cL k_cellplaneref25_Queue_Apply_1)) (by kernel_rfl) (Snd.block (Snd.cast (c' := .seq (cL (cL k_cellplaneref25_Queue_Apply_1)) (cR (cL k_cellplaneref25_Queue_Apply_1))) (by kernel_rfl) (Snd.seq (H_cellplaneref25_Queue_Apply_5 N Q) (den_sound okc mixed _ _ _ _ (mpr' (by kernel_rfl) h)) (fun s w h => T_cellplaneref25_Queue_Apply_5 N Q s w h)))))

noncomputable def H_cellplaneref25_Queue_Apply_4 (N : Nat) (Q : Value → World → Prop) : St → World → Prop := fun s w => grabK 78 [.val 0, .loc 3, .val 10] s fun vs ls => match vs, ls with
  | [.pointer q0', .int .i64 v10'], [⟨blk3', x3c'_r, Ty3'⟩] => G_api_Change.decL x3c'_r fun x3c' => Reb N w s.L fun wa => C_cellplaneref25_Queue_Apply_4 N Q q0' blk3' x3c' Ty3' v10' wa
  | _, _ => False

theorem T_cellplaneref25_Queue_Apply_4 (N : Nat) (Q : Value → World → Prop) (s : St) (w : World) (h : H_cellplaneref25_Queue_Apply_4 N Q s w) : Snd (cx N (fun d => memN d [3])) k_cellplaneref25_Queue_Apply_1 (z_cellplaneref25_Queue_Apply_2 N Q) s w := by
  refine Snd.grab h (fun vs ls hd hloc wa hl => ?_)
  split at hd
  · obtain ⟨x3c', rfl, hd0⟩ := G_api_Change.decL_spec hd
    exact X_cellplaneref25_Queue_Apply_4 (hd0 wa hl)
  · exact hd.elim

def C_cellplaneref25_Queue_Apply_2 (N : Nat) (Q : Value → World → Prop) (q0' : Option Addr) (blk3' : Nat) (x3c' : G_api_Change) (Ty3' : Nat) (w : World) : Prop :=
  Reb N w [⟨blk3', x3c'.cells, Ty3'⟩] fun w71 => C_cellplaneref25_Queue_Apply_4 N Q q0' blk3' x3c' Ty3' x3c'.Kind w71

theorem X_cellplaneref25_Queue_Apply_2 {N : Nat} {Q : Value → World → Prop} {q0' : Option Addr} {blk3' : Nat} {x3c' : G_api_Change} {Ty3' : Nat} {w : World} (h : C_cellplaneref25_Queue_Apply_2 N Q q0' blk3' x3c' Ty3' w) : Snd (cx N (fun d => memN d [3])) (cR (cR (bodyOf Go.Proofs.Try.f48))) (retD (cx N (fun d => memN d [3])) Go.Proofs.Try.f48 Q) (mkS 78 [.val 0, .loc 3] [(.pointer q0')] [⟨blk3', x3c'.cells, Ty3'⟩]) w :=
  (Snd.cast (c' := .seq (cL (cR (cR (bodyOf Go.Proofs.Try.f48)))) (cR (cR (cR (bodyOf Go.Proofs.Try.f48))))) (by kernel_rfl) (Snd.seq (H_cellplaneref25_Queue_Apply_3 N Q) (Snd.cast (c' := .seq (cL (cL (cR (cR (bodyOf Go.Proofs.Try.f48))))) (cR (cL (cR (cR (bodyOf Go.Proofs.Try.f48)))))) (by kernel_rfl) (Snd.seq (H_cellplaneref25_Queue_Apply_4 N Q) (den_sound okc mixed _ _ _ _ (mpr' (by kernel_rfl) h)) (fun s w h => T_cellplaneref25_Queue_Apply_4 N Q s w h))) (fun s w h => T_cellplaneref25_Queue_Apply_3 N Q s w h)))

noncomputable def H_cellplaneref25_Queue_Apply_2 (N : Nat) (Q : Value → World → Prop) : St → World → Prop := fun s w => grabK 78 [.val 0, .loc 3] s fun vs ls => match vs, ls with
  | [.pointer q0'], [⟨blk3', x3c'_r, Ty3'⟩] => G_api_Change.decL x3c'_r fun x3c' => Reb N w s.L fun wa => C_cellplaneref25_Queue_Apply_2 N Q q0' blk3' x3c' Ty3' wa
  | _, _ => False

theorem T_cellplaneref25_Queue_Apply_2 (N : Nat) (Q : Value → World → Prop) (s : St) (w : World) (h : H_cellplaneref25_Queue_Apply_2 N Q s w) : Snd (cx N (fun d => memN d [3])) (cR (cR (bodyOf Go.Proofs.Try.f48))) (retD (cx N (fun d => memN d [3])) Go.Proofs.Try.f48 Q) s w := by
  refine Snd.grab h (fun vs ls hd hloc wa hl => ?_)
  split at hd
  · obtain ⟨x3c', rfl, hd0⟩ := G_api_Change.decL_spec hd
    exact X_cellplaneref25_Queue_Apply_2 (hd0 wa hl)
  · exact hd.elim

def C_cellplaneref25_Queue_Apply_1 (N : Nat) (Q : Value → World → Prop) (q0' : Option Addr) (blk3' : Nat) (x3c' : G_api_Change) (Ty3' : Nat) (w : World) : Prop :=
  CallL PP N w [⟨blk3', x3c'.cells, Ty3'⟩] n_cellplaneref24_Valid [(.agg (List.toArray x3c'.cells))] fun r73 w74 => ∃ b72 : Bool, r73 = (.bool b72) ∧ IfB (!b72) (Reb N w74 [⟨blk3', x3c'.cells, Ty3'⟩] (Q (.int .i64 1))) (Reb N w74 [⟨blk3', x3c'.cells, Ty3'⟩] fun w75 => C_cellplaneref25_Queue_Apply_2 N Q q0' blk3' x3c' Ty3' w75)

theorem X_cellplaneref25_Queue_Apply_1 {N : Nat} {Q : Value → World → Prop} {q0' : Option Addr} {blk3' : Nat} {x3c' : G_api_Change} {Ty3' : Nat} {w : World} (h : C_cellplaneref25_Queue_Apply_1 N Q q0' blk3' x3c' Ty3' w) : Snd (cx N (fun d => memN d [3])) (cR (bodyOf Go.Proofs.Try.f48)) (retD (cx N (fun d => memN d [3])) Go.Proofs.Try.f48 Q) (mkS 78 [.val 0, .loc 3] [(.pointer q0')] [⟨blk3', x3c'.cells, Ty3'⟩]) w :=
  (Snd.cast (c' := .seq (cL (cR (bodyOf Go.Proofs.Try.f48))) (cR (cR (bodyOf Go.Proofs.Try.f48)))) (by kernel_rfl) (Snd.seq (H_cellplaneref25_Queue_Apply_2 N Q) (den_sound okc mixed _ _ _ _ (mpr' (by kernel_rfl) h)) (fun s w h => T_cellplaneref25_Queue_Apply_2 N Q s w h)))

noncomputable def H_cellplaneref25_Queue_Apply_1 (N : Nat) (Q : Value → World → Prop) : St → World → Prop := fun s w => grabK 78 [.val 0, .loc 3] s fun vs ls => match vs, ls with
  | [.pointer q0'], [⟨blk3', x3c'_r, Ty3'⟩] => G_api_Change.decL x3c'_r fun x3c' => Reb N w s.L fun wa => C_cellplaneref25_Queue_Apply_1 N Q q0' blk3' x3c' Ty3' wa
  | _, _ => False

theorem T_cellplaneref25_Queue_Apply_1 (N : Nat) (Q : Value → World → Prop) (s : St) (w : World) (h : H_cellplaneref25_Queue_Apply_1 N Q s w) : Snd (cx N (fun d => memN d [3])) (cR (bodyOf Go.Proofs.Try.f48)) (retD (cx N (fun d => memN d [3])) Go.Proofs.Try.f48 Q) s w := by
  refine Snd.grab h (fun vs ls hd hloc wa hl => ?_)
  split at hd
  · obtain ⟨x3c', rfl, hd0⟩ := G_api_Change.decL_spec hd
    exact X_cellplaneref25_Queue_Apply_1 (hd0 wa hl)
  · exact hd.elim

def F_cellplaneref25_Queue_Apply (N : Nat) (q0 : Option Addr) (x1 : G_api_Change) (Q : Value → World → Prop) (w : World) : Prop :=
  ∀ b76 : Nat, w.heap.size ≤ b76 → Reb N w [⟨b76, x1.cells, t_api_Change⟩] fun w77 => C_cellplaneref25_Queue_Apply_1 N Q q0 b76 x1 t_api_Change w77

theorem cellplaneref25_Queue_Apply_snd (N : Nat) (q0 : Option Addr) (x1 : G_api_Change) (Q : Value → World → Prop) (w : World) (h : F_cellplaneref25_Queue_Apply N q0 x1 Q w) : Snd (cx N (fun d => memN d [3])) (bodyOf Go.Proofs.Try.f48) (retD (cx N (fun d => memN d [3])) Go.Proofs.Try.f48 Q) (entry 78 [(.pointer q0), (.agg (List.toArray x1.cells))]) w :=
  (Snd.cast (c' := .seq (cL (bodyOf Go.Proofs.Try.f48)) (cR (bodyOf Go.Proofs.Try.f48))) (by kernel_rfl) (Snd.seq (H_cellplaneref25_Queue_Apply_1 N Q) (den_sound okc mixed _ _ _ _ (mpr' (by kernel_rfl) h)) (fun s w h => T_cellplaneref25_Queue_Apply_1 N Q s w h)))

theorem cellplaneref25_Queue_Apply_calls (q0 : Option Addr) (x1 : G_api_Change) (Q : Value → World → Prop) (w : World) (h : F_cellplaneref25_Queue_Apply w.heap.size q0 x1 Q w) : Calls PP n_cellplaneref25_Queue_Apply [(.pointer q0), (.agg (List.toArray x1.cells))].toArray w fun e w' => ∃ v, e = .returned v ∧ Q v w' :=
  calls_of (C := cx w.heap.size (fun d => memN d [3])) (fn := Go.Proofs.Try.f48) (c := (bodyOf Go.Proofs.Try.f48)) (by kernel_rfl) (by kernel_rfl) (Nat.le_refl _) (cellplaneref25_Queue_Apply_snd _ q0 x1 Q w h)

/-! ### cellplanemill_Tape_Range -/
def F_cellplanemill_Tape_Range (N : Nat) (t0 : Option Addr) (low1 : Int) (high2 : Int) (Q : Value → World → Prop) (w : World) : Prop :=
  CallL PP N w [] n_cellplanemill_Tape_Next [(.pointer t0), (.int .i64 (IntKind.i64.wrap ((IntKind.i64.wrap (high2 - low1)) + 1)))] fun r2 w3 => ∃ n1 : Int, r2 = (.int .i64 n1) ∧ Reb N w3 [] (Q (.int .i64 (IntKind.i64.wrap (low1 + n1))))

theorem cellplanemill_Tape_Range_snd (N : Nat) (t0 : Option Addr) (low1 : Int) (high2 : Int) (Q : Value → World → Prop) (w : World) (h : F_cellplanemill_Tape_Range N t0 low1 high2 Q w) : Snd (cx N (fun d => memN d [])) (bodyOf Go.Proofs.Try.f49) (retD (cx N (fun d => memN d [])) Go.Proofs.Try.f49 Q) (entry 15 [(.pointer t0), (.int .i64 low1), (.int .i64 high2)]) w :=
  (den_sound okc mixed _ _ _ _ (mpr' (by kernel_rfl) h))

theorem cellplanemill_Tape_Range_calls (t0 : Option Addr) (low1 : Int) (high2 : Int) (Q : Value → World → Prop) (w : World) (h : F_cellplanemill_Tape_Range w.heap.size t0 low1 high2 Q w) : Calls PP n_cellplanemill_Tape_Range [(.pointer t0), (.int .i64 low1), (.int .i64 high2)].toArray w fun e w' => ∃ v, e = .returned v ∧ Q v w' :=
  calls_of (C := cx w.heap.size (fun d => memN d [])) (fn := Go.Proofs.Try.f49) (c := (bodyOf Go.Proofs.Try.f49)) (by kernel_rfl) (by kernel_rfl) (Nat.le_refl _) (cellplanemill_Tape_Range_snd _ t0 low1 high2 Q w h)

/-! ### cellplanemill_Tape_Text -/
noncomputable def k_cellplanemill_Tape_Text_0 : Code := (cR (cR (cR (bodyOf Go.Proofs.Try.f50))))

def C_cellplanemill_Tape_Text_5 (N : Nat) (Q : Value → World → Prop) (b8' : Sl) (w : World) : Prop :=
  RunL PP N w [] (convert t_sl_u8 t_string (.slice b8'.a b8'.n b8'.c)) fun r2 w3 => ∃ s1 : ByteArray, r2 = (.string s1) ∧ Reb N w3 [] (Q (.string s1))

theorem X_cellplanemill_Tape_Text_5 {N : Nat} {Q : Value → World → Prop} {b8' : Sl} {w : World} (h : C_cellplanemill_Tape_Text_5 N Q b8' w) : Snd (cx N (fun d => memN d [])) (cR (cR k_cellplanemill_Tape_Text_0)) (retD (cx N (fun d => memN d [])) Go.Proofs.Try.f50 Q) (mkS 38 [.val 8] [(.slice b8'.a b8'.n b8'.c)] []) w :=
  (den_sound okc mixed _ _ _ _ (mpr' (by kernel_rfl) h))

noncomputable def H_cellplanemill_Tape_Text_5 (N : Nat) (Q : Value → World → Prop) : St → World → Prop := fun s w => grabK 38 [.val 8] s fun vs ls => match vs, ls with
  | [.slice b8'_a b8'_n b8'_c], [] => Reb N w s.L fun wa => C_cellplanemill_Tape_Text_5 N Q ⟨b8'_a, b8'_n, b8'_c⟩ wa
  | _, _ => False

theorem T_cellplanemill_Tape_Text_5 (N : Nat) (Q : Value → World → Prop) (s : St) (w : World) (h : H_cellplanemill_Tape_Text_5 N Q s w) : Snd (cx N (fun d => memN d [])) (cR (cR k_cellplanemill_Tape_Text_0)) (retD (cx N (fun d => memN d [])) Go.Proofs.Try.f50 Q) s w := by
  refine Snd.grab h (fun vs ls hd hloc wa hl => ?_)
  split at hd
  · exact X_cellplanemill_Tape_Text_5 (hd wa hl)
  · exact hd.elim

noncomputable def k_cellplanemill_Tape_Text_1 : Code := (cR (cL (cR k_cellplanemill_Tape_Text_0)))

noncomputable def z_cellplanemill_Tape_Text_2 (N : Nat) (Q : Value → World → Prop) : Cont := (thenD (H_cellplanemill_Tape_Text_5 N Q) (retD (cx N (fun d => memN d [])) Go.Proofs.Try.f50 Q))

def D_cellplanemill_Tape_Text_7 (K : ((Option Addr) × Sl × Int) → (Int) → Prop) : List Value → List LB → Prop := fun vs ls => match vs, ls with
  | [.pointer t0', .slice b8'_a b8'_n b8'_c, .int .i64 v24', .int .i64 v25'], [] => K (t0', ⟨b8'_a, b8'_n, b8'_c⟩, v24') v25'
  | _, _ => False

def B_cellplanemill_Tape_Text_7 (N : Nat) (K1 : ((Option Addr) × Sl × Int) → (Int) → World → Prop) (Q : Value → World → Prop) (t0' : Option Addr) (b8' : Sl) (v24' v25' : Int) (w : World) : Prop :=
  IfB (decide ((v25' : Int) < v24')) (CallL PP N w [] n_cellplanemill_Tape_Next [(.pointer t0'), (.int .i64 4)] fun r5 w6 => ∃ n4 : Int, r5 = (.int .i64 n4) ∧ IdxL b8'.a b8'.n v25' fun q7 => StL w6 [] (q7.add ((v25' : Int).toNat * 1)) [(.int .u8 (IntKind.u8.wrap (97 + (IntKind.u8.wrap n4))))] fun w8 => Reb N w8 [] fun w9 => K1 (t0', b8', v24') (IntKind.i64.wrap (v25' + 1)) w9) (Reb N w [] fun w10 => C_cellplanemill_Tape_Text_5 N Q b8' w10)

theorem X_cellplanemill_Tape_Text_7 {N : Nat} {K1 : ((Option Addr) × Sl × Int) → (Int) → World → Prop} {Q : Value → World → Prop} {t0' : Option Addr} {b8' : Sl} {v24' v25' : Int} {w : World} (h : B_cellplanemill_Tape_Text_7 N K1 Q t0' b8' v24' v25' w) : Snd (cx N (fun d => memN d [])) (cL (cL k_cellplanemill_Tape_Text_1)) (thenD (HeadK N 38 [.val 0, .val 8, .val 24, .val 25] D_cellplanemill_Tape_Text_7 K1) (inBlockD 0 (z_cellplanemill_Tape_Text_2 N Q))) (mkS 38 [.val 0, .val 8, .val 24, .val 25] [(.pointer t0'), (.slice b8'.a b8'.n b8'.c), (.int .i64 v24'), (.int .i64 v25')] []) w :=
  (den_sound okc mixed _ _ _ _ (mpr' (by kernel_rfl) h))

def L_cellplanemill_Tape_Text_7 (N : Nat) (Q : Value → World → Prop) (K1 : ((Option Addr) × Sl × Int) → (Int) → World → Prop) (c : (Option Addr) × Sl × Int) (x : Int) (w : World) : Prop := match c, x with
  | (t0', b8', v24'), v25' => B_cellplanemill_Tape_Text_7 N K1 Q t0' b8' v24' v25' w

theorem T_cellplanemill_Tape_Text_7 (N : Nat) (Q : Value → World → Prop) {s : St} {w : World} (h : HeadE N 38 [.val 0, .val 8, .val 24, .val 25] D_cellplanemill_Tape_Text_7 (L_cellplanemill_Tape_Text_7 N Q) s w) : Snd (cx N (fun d => memN d [])) (cL k_cellplanemill_Tape_Text_1) (inBlockD 0 (z_cellplanemill_Tape_Text_2 N Q)) s w := by
  refine Snd.cast (c' := .loop (cL (cL k_cellplanemill_Tape_Text_1))) (by kernel_rfl) (Snd.loopC (fun (c : (Option Addr) × Sl × Int) (x : Int) => match c, x with | (t0', b8', v24'), v25' => ([(.pointer t0'), (.slice b8'.a b8'.n b8'.c), (.int .i64 v24'), (.int .i64 v25')], [])) ?_ ?_ h)
  · intro K vs ls h
    unfold D_cellplanemill_Tape_Text_7 at h
    split at h
    · exact ⟨_, _, rfl, h⟩
    · exact h.elim
  · rintro K ⟨t0', b8', v24'⟩ v25' w h
    exact X_cellplanemill_Tape_Text_7 h

def C_cellplanemill_Tape_Text_6 (N : Nat) (Q : Value → World → Prop) (t0' : Option Addr) (b8' : Sl) (v24' v25' : Int) (w : World) : Prop :=
  LoopC N w [] ((t0', b8', v24') : (Option Addr) × Sl × Int) (v25' : Int) (L_cellplanemill_Tape_Text_7 N Q)

theorem X_cellplanemill_Tape_Text_6 {N : Nat} {Q : Value → World → Prop} {t0' : Option Addr} {b8' : Sl} {v24' v25' : Int} {w : World} (h : C_cellplanemill_Tape_Text_6 N Q t0' b8' v24' v25' w) : Snd (cx N (fun d => memN d [])) k_cellplanemill_Tape_Text_1 (z_cellplanemill_Tape_Text_2 N Q) (mkS 38 [.val 0, .val 8, .val 24, .val 25] [(.pointer t0'), (.slice b8'.a b8'.n b8'.c), (.int .i64 v24'), (.int .i64 v25')] []) w :=
  (Snd.cast (c' := .block 0 (cL k_cellplanemill_Tape_Text_1)) (by kernel_rfl) (Snd.block (T_cellplanemill_Tape_Text_7 N Q (mpr' (by kernel_rfl) h))))

noncomputable def H_cellplanemill_Tape_Text_6 (N : Nat) (Q : Value → World → Prop) : St → World → Prop := fun s w => grabK 38 [.val 0, .val 8, .val 24, .val 25] s fun vs ls => match vs, ls with
  | [.pointer t0', .slice b8'_a b8'_n b8'_c, .int .i64 v24', .int .i64 v25'], [] => Reb N w s.L fun wa => C_cellplanemill_Tape_Text_6 N Q t0' ⟨b8'_a, b8'_n, b8'_c⟩ v24' v25' wa
  | _, _ => False

theorem T_cellplanemill_Tape_Text_6 (N : Nat) (Q : Value → World → Prop) (s : St) (w : World) (h : H_cellplanemill_Tape_Text_6 N Q s w) : Snd (cx N (fun d => memN d [])) k_cellplanemill_Tape_Text_1 (z_cellplanemill_Tape_Text_2 N Q) s w := by
  refine Snd.grab h (fun vs ls hd hloc wa hl => ?_)
  split at hd
  · exact X_cellplanemill_Tape_Text_6 (hd wa hl)
  · exact hd.elim

def C_cellplanemill_Tape_Text_4 (N : Nat) (Q : Value → World → Prop) (t0' : Option Addr) (b8' : Sl) (w : World) : Prop :=
  Reb N w [] fun w11 => C_cellplanemill_Tape_Text_6 N Q t0' b8' ((b8'.n : Nat) : Int) 0 w11

theorem X_cellplanemill_Tape_Text_4 {N : Nat} {Q : Value → World → Prop} {t0' : Option Addr} {b8' : Sl} {w : World} (h : C_cellplanemill_Tape_Text_4 N Q t0' b8' w) : Snd (cx N (fun d => memN d [])) (cR k_cellplanemill_Tape_Text_0) (retD (cx N (fun d => memN d [])) Go.Proofs.Try.f50 Q) (mkS 38 [.val 0, .val 8] [(.pointer t0'), (.slice b8'.a b8'.n b8'.c)] []) w :=
  (Snd.cast (c' := .seq (cL (cR k_cellplanemill_Tape_Text_0)) (cR (cR k_cellplanemill_Tape_Text_0))) (by kernel_rfl) (Snd.seq (H_cellplanemill_Tape_Text_5 N Q) (Snd.cast (c' := .seq (cL (cL (cR k_cellplanemill_Tape_Text_0))) (cR (cL (cR k_cellplanemill_Tape_Text_0)))) (by kernel_rfl) (Snd.seq (H_cellplanemill_Tape_Text_6 N Q) (den_sound okc mixed _ _ _ _ (mpr' (by kernel_rfl) h)) (fun s w h => T_cellplanemill_Tape_Text_6 N Q s w h))) (fun s w h => T_cellplanemill_Tape_Text_5 N Q s w h)))

noncomputable def H_cellplanemill_Tape_Text_4 (N : Nat) (Q : Value → World → Prop) : St → World → Prop := fun s w => grabK 38 [.val 0, .val 8] s fun vs ls => match vs, ls with
  | [.pointer t0', .slice b8'_a b8'_n b8'_c], [] => Reb N w s.L fun wa => C_cellplanemill_Tape_Text_4 N Q t0' ⟨b8'_a, b8'_n, b8'_c⟩ wa
  | _, _ => False

theorem T_cellplanemill_Tape_Text_4 (N : Nat) (Q : Value → World → Prop) (s : St) (w : World) (h : H_cellplanemill_Tape_Text_4 N Q s w) : Snd (cx N (fun d => memN d [])) (cR k_cellplanemill_Tape_Text_0) (retD (cx N (fun d => memN d [])) Go.Proofs.Try.f50 Q) s w := by
  refine Snd.grab h (fun vs ls hd hloc wa hl => ?_)
  split at hd
  · exact X_cellplanemill_Tape_Text_4 (hd wa hl)
  · exact hd.elim

def C_cellplanemill_Tape_Text_3 (N : Nat) (Q : Value → World → Prop) (t0' : Option Addr) (k7' : Int) (w : World) : Prop :=
  RunL PP N w [] (Instr.makeSlice t_sl_u8 (.int .i64 k7') (.int .i64 k7')) fun r13 w14 => ∃ l12 : Sl, r13 = (.slice l12.a l12.n l12.c) ∧ Reb N w14 [] fun w15 => C_cellplanemill_Tape_Text_4 N Q t0' l12 w15

theorem X_cellplanemill_Tape_Text_3 {N : Nat} {Q : Value → World → Prop} {t0' : Option Addr} {k7' : Int} {w : World} (h : C_cellplanemill_Tape_Text_3 N Q t0' k7' w) : Snd (cx N (fun d => memN d [])) k_cellplanemill_Tape_Text_0 (retD (cx N (fun d => memN d [])) Go.Proofs.Try.f50 Q) (mkS 38 [.val 0, .val 7] [(.pointer t0'), (.int .i64 k7')] []) w :=
  (Snd.cast (c' := .seq (cL k_cellplanemill_Tape_Text_0) (cR k_cellplanemill_Tape_Text_0)) (by kernel_rfl) (Snd.seq (H_cellplanemill_Tape_Text_4 N Q) (den_sound okc mixed _ _ _ _ (mpr' (by kernel_rfl) h)) (fun s w h => T_cellplanemill_Tape_Text_4 N Q s w h)))

noncomputable def H_cellplanemill_Tape_Text_3 (N : Nat) (Q : Value → World → Prop) : St → World → Prop := fun s w => grabK 38 [.val 0, .val 7] s fun vs ls => match vs, ls with
  | [.pointer t0', .int .i64 k7'], [] => Reb N w s.L fun wa => C_cellplanemill_Tape_Text_3 N Q t0' k7' wa
  | _, _ => False

theorem T_cellplanemill_Tape_Text_3 (N : Nat) (Q : Value → World → Prop) (s : St) (w : World) (h : H_cellplanemill_Tape_Text_3 N Q s w) : Snd (cx N (fun d => memN d [])) k_cellplanemill_Tape_Text_0 (retD (cx N (fun d => memN d [])) Go.Proofs.Try.f50 Q) s w := by
  refine Snd.grab h (fun vs ls hd hloc wa hl => ?_)
  split at hd
  · exact X_cellplanemill_Tape_Text_3 (hd wa hl)
  · exact hd.elim

def C_cellplanemill_Tape_Text_2 (N : Nat) (Q : Value → World → Prop) (t0' : Option Addr) (n2' k7' : Int) (w : World) : Prop :=
  CallL PP N w [] n_cellplanemill_Tape_Next [(.pointer t0'), (.int .i64 9)] fun r17 w18 => ∃ n16 : Int, r17 = (.int .i64 n16) ∧ IfB (decide ((n16 : Int) = 8)) (Reb N w18 [] fun w19 => C_cellplanemill_Tape_Text_3 N Q t0' n2' w19) (Reb N w18 [] fun w20 => C_cellplanemill_Tape_Text_3 N Q t0' k7' w20)

theorem X_cellplanemill_Tape_Text_2 {N : Nat} {Q : Value → World → Prop} {t0' : Option Addr} {n2' k7' : Int} {w : World} (h : C_cellplanemill_Tape_Text_2 N Q t0' n2' k7' w) : Snd (cx N (fun d => memN d [])) (cR (cR (bodyOf Go.Proofs.Try.f50))) (retD (cx N (fun d => memN d [])) Go.Proofs.Try.f50 Q) (mkS 38 [.val 0, .val 2, .val 7] [(.pointer t0'), (.int .i64 n2'), (.int .i64 k7')] []) w :=
  (Snd.cast (c' := .seq (cL (cR (cR (bodyOf Go.Proofs.Try.f50)))) (cR (cR (cR (bodyOf Go.Proofs.Try.f50))))) (by kernel_rfl) (Snd.seq (H_cellplanemill_Tape_Text_3 N Q) (den_sound okc mixed _ _ _ _ (mpr' (by kernel_rfl) h)) (fun s w h => T_cellplanemill_Tape_Text_3 N Q s w h)))

noncomputable def H_cellplanemill_Tape_Text_2 (N : Nat) (Q : Value → World → Prop) : St → World → Prop := fun s w => grabK 38 [.val 0, .val 2, .val 7] s fun vs ls => match vs, ls with
  | [.pointer t0', .int .i64 n2', .int .i64 k7'], [] => Reb N w s.L fun wa => C_cellplanemill_Tape_Text_2 N Q t0' n2' k7' wa
  | _, _ => False

theorem T_cellplanemill_Tape_Text_2 (N : Nat) (Q : Value → World → Prop) (s : St) (w : World) (h : H_cellplanemill_Tape_Text_2 N Q s w) : Snd (cx N (fun d => memN d [])) (cR (cR (bodyOf Go.Proofs.Try.f50))) (retD (cx N (fun d => memN d [])) Go.Proofs.Try.f50 Q) s w := by
  refine Snd.grab h (fun vs ls hd hloc wa hl => ?_)
  split at hd
  · exact X_cellplanemill_Tape_Text_2 (hd wa hl)
  · exact hd.elim

def C_cellplanemill_Tape_Text_1 (N : Nat) (Q : Value → World → Prop) (t0' : Option Addr) (low1' n2' : Int) (w : World) : Prop :=
  CallL PP N w [] n_cellplanemill_Tape_Range [(.pointer t0'), (.int .i64 low1'), (.int .i64 (if (IntKind.i64.wrap (low1' + 2)) < n2' then (IntKind.i64.wrap (low1' + 2)) else n2'))] fun r22 w23 => ∃ n21 : Int, r22 = (.int .i64 n21) ∧ Reb N w23 [] fun w24 => C_cellplanemill_Tape_Text_2 N Q t0' n2' n21 w24

theorem X_cellplanemill_Tape_Text_1 {N : Nat} {Q : Value → World → Prop} {t0' : Option Addr} {low1' n2' : Int} {w : World} (h : C_cellplanemill_Tape_Text_1 N Q t0' low1' n2' w) : Snd (cx N (fun d => memN d [])) (cR (bodyOf Go.Proofs.Try.f50)) (retD (cx N (fun d => memN d [])) Go.Proofs.Try.f50 Q) (mkS 38 [.val 0, .val 1, .val 2] [(.pointer t0'), (.int .i64 low1'), (.int .i64 n2')] []) w :=
  (Snd.cast (c' := .seq (cL (cR (bodyOf Go.Proofs.Try.f50))) (cR (cR (bodyOf Go.Proofs.Try.f50)))) (by kernel_rfl) (Snd.seq (H_cellplanemill_Tape_Text_2 N Q) (den_sound okc mixed _ _ _ _ (mpr' (by kernel_rfl) h)) (fun s w h => T_cellplanemill_Tape_Text_2 N Q s w h)))

noncomputable def H_cellplanemill_Tape_Text_1 (N : Nat) (Q : Value → World → Prop) : St → World → Prop := fun s w => grabK 38 [.val 0, .val 1, .val 2] s fun vs ls => match vs, ls with
  | [.pointer t0', .int .i64 low1', .int .i64 n2'], [] => Reb N w s.L fun wa => C_cellplanemill_Tape_Text_1 N Q t0' low1' n2' wa
  | _, _ => False

theorem T_cellplanemill_Tape_Text_1 (N : Nat) (Q : Value → World → Prop) (s : St) (w : World) (h : H_cellplanemill_Tape_Text_1 N Q s w) : Snd (cx N (fun d => memN d [])) (cR (bodyOf Go.Proofs.Try.f50)) (retD (cx N (fun d => memN d [])) Go.Proofs.Try.f50 Q) s w := by
  refine Snd.grab h (fun vs ls hd hloc wa hl => ?_)
  split at hd
  · exact X_cellplanemill_Tape_Text_1 (hd wa hl)
  · exact hd.elim

def F_cellplanemill_Tape_Text (N : Nat) (t0 : Option Addr) (low1 : Int) (n2 : Int) (Q : Value → World → Prop) (w : World) : Prop :=
  Reb N w [] fun w25 => C_cellplanemill_Tape_Text_1 N Q t0 low1 n2 w25

theorem cellplanemill_Tape_Text_snd (N : Nat) (t0 : Option Addr) (low1 : Int) (n2 : Int) (Q : Value → World → Prop) (w : World) (h : F_cellplanemill_Tape_Text N t0 low1 n2 Q w) : Snd (cx N (fun d => memN d [])) (bodyOf Go.Proofs.Try.f50) (retD (cx N (fun d => memN d [])) Go.Proofs.Try.f50 Q) (entry 38 [(.pointer t0), (.int .i64 low1), (.int .i64 n2)]) w :=
  (Snd.cast (c' := .seq (cL (bodyOf Go.Proofs.Try.f50)) (cR (bodyOf Go.Proofs.Try.f50))) (by kernel_rfl) (Snd.seq (H_cellplanemill_Tape_Text_1 N Q) (den_sound okc mixed _ _ _ _ (mpr' (by kernel_rfl) h)) (fun s w h => T_cellplanemill_Tape_Text_1 N Q s w h)))

theorem cellplanemill_Tape_Text_calls (t0 : Option Addr) (low1 : Int) (n2 : Int) (Q : Value → World → Prop) (w : World) (h : F_cellplanemill_Tape_Text w.heap.size t0 low1 n2 Q w) : Calls PP n_cellplanemill_Tape_Text [(.pointer t0), (.int .i64 low1), (.int .i64 n2)].toArray w fun e w' => ∃ v, e = .returned v ∧ Q v w' :=
  calls_of (C := cx w.heap.size (fun d => memN d [])) (fn := Go.Proofs.Try.f50) (c := (bodyOf Go.Proofs.Try.f50)) (by kernel_rfl) (by kernel_rfl) (Nat.le_refl _) (cellplanemill_Tape_Text_snd _ t0 low1 n2 Q w h)
end Go.Sh
