/- What these functions do, told by computation: a formula for each, and that its calls do what the formula says.
   Conditions: none. -/
import Derived.Test.YtcligpfkmnlhnaaDoorBase
namespace Go.Sh
open Go
set_option linter.unusedVariables false
set_option maxRecDepth 100000

/-! ### cellplaneref06_places -/
noncomputable def k_cellplaneref06_places_0 : Code := (cR (cR (cR (bodyOf Go.Proofs.Tryd.f49))))

def C_cellplaneref06_places_4 (N : Nat) (Q : Value → World → Prop) (w : World) : Prop :=
  Reb N w [] (Q (.bool true))

theorem X_cellplaneref06_places_4 {N : Nat} {Q : Value → World → Prop} {w : World} (h : C_cellplaneref06_places_4 N Q w) : Snd (cx N (fun d => memN d [4])) (cR k_cellplaneref06_places_0) (retD (cx N (fun d => memN d [4])) Go.Proofs.Tryd.f49 Q) (mkS 105 [] [] []) w :=
  (den_sound okc mixed _ _ _ _ (mpr' (by kernel_rfl) h))

noncomputable def H_cellplaneref06_places_4 (N : Nat) (Q : Value → World → Prop) : St → World → Prop := fun s w => grabK 105 [] s fun vs ls => match vs, ls with
  | [], [] => Reb N w s.L fun wa => C_cellplaneref06_places_4 N Q wa
  | _, _ => False

theorem T_cellplaneref06_places_4 (N : Nat) (Q : Value → World → Prop) (s : St) (w : World) (h : H_cellplaneref06_places_4 N Q s w) : Snd (cx N (fun d => memN d [4])) (cR k_cellplaneref06_places_0) (retD (cx N (fun d => memN d [4])) Go.Proofs.Tryd.f49 Q) s w := by
  refine Snd.grab h (fun vs ls hd hloc wa hl => ?_)
  split at hd
  · exact X_cellplaneref06_places_4 (hd wa hl)
  · exact hd.elim

noncomputable def z_cellplaneref06_places_1 (N : Nat) (Q : Value → World → Prop) : Cont := (inBlockD 0 (thenD (H_cellplaneref06_places_4 N Q) (retD (cx N (fun d => memN d [4])) Go.Proofs.Tryd.f49 Q)))

noncomputable def k_cellplaneref06_places_2 : Code := (cR (cR (cR (cL (cL k_cellplaneref06_places_0)))))

def C_cellplaneref06_places_6 (N : Nat) (Q : Value → World → Prop) (v64' : Bool) (w : World) : Prop :=
  IfB v64' (Reb N w [] (Q (.bool false))) (Reb N w [] fun w1 => C_cellplaneref06_places_4 N Q w1)

theorem X_cellplaneref06_places_6 {N : Nat} {Q : Value → World → Prop} {v64' : Bool} {w : World} (h : C_cellplaneref06_places_6 N Q v64' w) : Snd (cx N (fun d => memN d [4])) k_cellplaneref06_places_2 (z_cellplaneref06_places_1 N Q) (mkS 105 [.val 64] [(.bool v64')] []) w :=
  (den_sound okc mixed _ _ _ _ (mpr' (by kernel_rfl) h))

noncomputable def H_cellplaneref06_places_6 (N : Nat) (Q : Value → World → Prop) : St → World → Prop := fun s w => grabK 105 [.val 64] s fun vs ls => match vs, ls with
  | [.bool v64'], [] => Reb N w s.L fun wa => C_cellplaneref06_places_6 N Q v64' wa
  | _, _ => False

theorem T_cellplaneref06_places_6 (N : Nat) (Q : Value → World → Prop) (s : St) (w : World) (h : H_cellplaneref06_places_6 N Q s w) : Snd (cx N (fun d => memN d [4])) k_cellplaneref06_places_2 (z_cellplaneref06_places_1 N Q) s w := by
  refine Snd.grab h (fun vs ls hd hloc wa hl => ?_)
  split at hd
  · exact X_cellplaneref06_places_6 (hd wa hl)
  · exact hd.elim

noncomputable def k_cellplaneref06_places_3 : Code := (cR (cL (cR (cR (cL (cL k_cellplaneref06_places_0))))))

noncomputable def z_cellplaneref06_places_4 (N : Nat) (Q : Value → World → Prop) : Cont := (thenD (H_cellplaneref06_places_6 N Q) (z_cellplaneref06_places_1 N Q))

def C_cellplaneref06_places_8 (N : Nat) (Q : Value → World → Prop) (blk4' : Nat) (e4c' : G_api_Entry) (Ty4' : Nat) (k9' : Int) (v64' : Bool) (w : World) : Prop :=
  IfB v64' (Reb N w [⟨blk4', e4c'.cells, Ty4'⟩] fun w3 => C_cellplaneref06_places_6 N Q v64' w3) (CallL PP N w [⟨blk4', e4c'.cells, Ty4'⟩] n_cellplaneref06_has [(.int .i64 k9'), (.int .u8 111)] fun r5 w6 => ∃ b4 : Bool, r5 = (.bool b4) ∧ IfB (!b4) (CallL PP N w6 [⟨blk4', e4c'.cells, Ty4'⟩] n_cellplaneref06_has [(.int .i64 k9'), (.int .u8 114)] fun r8 w9 => ∃ b7 : Bool, r8 = (.bool b7) ∧ IfB (!b7) (Reb N w9 [⟨blk4', e4c'.cells, Ty4'⟩] fun w10 => C_cellplaneref06_places_6 N Q (!decide ((e4c'.Other : Int) = (-1))) w10) (Reb N w9 [⟨blk4', e4c'.cells, Ty4'⟩] fun w11 => C_cellplaneref06_places_6 N Q false w11)) (Reb N w6 [⟨blk4', e4c'.cells, Ty4'⟩] fun w12 => C_cellplaneref06_places_6 N Q false w12))

theorem X_cellplaneref06_places_8 {N : Nat} {Q : Value → World → Prop} {blk4' : Nat} {e4c' : G_api_Entry} {Ty4' : Nat} {k9' : Int} {v64' : Bool} {w : World} (h : C_cellplaneref06_places_8 N Q blk4' e4c' Ty4' k9' v64' w) : Snd (cx N (fun d => memN d [4])) (cR (cR k_cellplaneref06_places_3)) (z_cellplaneref06_places_4 N Q) (mkS 105 [.loc 4, .val 9, .val 64] [(.int .i64 k9'), (.bool v64')] [⟨blk4', e4c'.cells, Ty4'⟩]) w :=
  (den_sound okc mixed _ _ _ _ (mpr' (by kernel_rfl) h))

noncomputable def H_cellplaneref06_places_8 (N : Nat) (Q : Value → World → Prop) : St → World → Prop := fun s w => grabK 105 [.loc 4, .val 9, .val 64] s fun vs ls => match vs, ls with
  | [.int .i64 k9', .bool v64'], [⟨blk4', e4c'_r, Ty4'⟩] => G_api_Entry.decL e4c'_r fun e4c' => Reb N w s.L fun wa => C_cellplaneref06_places_8 N Q blk4' e4c' Ty4' k9' v64' wa
  | _, _ => False

theorem T_cellplaneref06_places_8 (N : Nat) (Q : Value → World → Prop) (s : St) (w : World) (h : H_cellplaneref06_places_8 N Q s w) : Snd (cx N (fun d => memN d [4])) (cR (cR k_cellplaneref06_places_3)) (z_cellplaneref06_places_4 N Q) s w := by
  refine Snd.grab h (fun vs ls hd hloc wa hl => ?_)
  split at hd
  · obtain ⟨e4c', rfl, hd0⟩ := G_api_Entry.decL_spec hd
    exact X_cellplaneref06_places_8 (hd0 wa hl)
  · exact hd.elim

def C_cellplaneref06_places_7 (N : Nat) (Q : Value → World → Prop) (regions3' : Int) (blk4' : Nat) (e4c' : G_api_Entry) (Ty4' : Nat) (k9' : Int) (v64' : Bool) (w : World) : Prop :=
  IfB v64' (Reb N w [⟨blk4', e4c'.cells, Ty4'⟩] fun w2 => C_cellplaneref06_places_6 N Q v64' w2) (CallL PP N w [⟨blk4', e4c'.cells, Ty4'⟩] n_cellplaneref06_has [(.int .i64 k9'), (.int .u8 114)] fun r14 w15 => ∃ b13 : Bool, r14 = (.bool b13) ∧ IfB b13 (CallL PP N w15 [⟨blk4', e4c'.cells, Ty4'⟩] n_cellplaneref06_in [(.int .i64 e4c'.Other), (.int .i64 0), (.int .i64 (IntKind.i64.wrap (regions3' - 1)))] fun r17 w18 => ∃ b16 : Bool, r17 = (.bool b16) ∧ Reb N w18 [⟨blk4', e4c'.cells, Ty4'⟩] fun w19 => C_cellplaneref06_places_8 N Q blk4' e4c' Ty4' k9' (!b16) w19) (Reb N w15 [⟨blk4', e4c'.cells, Ty4'⟩] fun w20 => C_cellplaneref06_places_8 N Q blk4' e4c' Ty4' k9' false w20))

theorem X_cellplaneref06_places_7 {N : Nat} {Q : Value → World → Prop} {regions3' : Int} {blk4' : Nat} {e4c' : G_api_Entry} {Ty4' : Nat} {k9' : Int} {v64' : Bool} {w : World} (h : C_cellplaneref06_places_7 N Q regions3' blk4' e4c' Ty4' k9' v64' w) : Snd (cx N (fun d => memN d [4])) k_cellplaneref06_places_3 (z_cellplaneref06_places_4 N Q) (mkS 105 [.val 3, .loc 4, .val 9, .val 64] [(.int .i64 regions3'), (.int .i64 k9'), (.bool v64')] [⟨blk4', e4c'.cells, Ty4'⟩]) w :=
  (Snd.cast (c' := .cond (.tmp 64) (cL k_cellplaneref06_places_3) (cR k_cellplaneref06_places_3)) (by kernel_rfl) (Snd.cond (t := v64') (by kernel_rfl) (by kernel_rfl) (fun ht => (fun h => (den_sound okc mixed _ _ _ _ (mpr' (by kernel_rfl) h))) (ifb_t h ht)) (fun ht => (fun h => (Snd.cast (c' := .seq (cL (cR k_cellplaneref06_places_3)) (cR (cR k_cellplaneref06_places_3))) (by kernel_rfl) (Snd.seq (H_cellplaneref06_places_8 N Q) (den_sound okc mixed _ _ _ _ (mpr' (by kernel_rfl) h)) (fun s w h => T_cellplaneref06_places_8 N Q s w h)))) (ifb_f h ht))))

noncomputable def H_cellplaneref06_places_7 (N : Nat) (Q : Value → World → Prop) : St → World → Prop := fun s w => grabK 105 [.val 3, .loc 4, .val 9, .val 64] s fun vs ls => match vs, ls with
  | [.int .i64 regions3', .int .i64 k9', .bool v64'], [⟨blk4', e4c'_r, Ty4'⟩] => G_api_Entry.decL e4c'_r fun e4c' => Reb N w s.L fun wa => C_cellplaneref06_places_7 N Q regions3' blk4' e4c' Ty4' k9' v64' wa
  | _, _ => False

theorem T_cellplaneref06_places_7 (N : Nat) (Q : Value → World → Prop) (s : St) (w : World) (h : H_cellplaneref06_places_7 N Q s w) : Snd (cx N (fun d => memN d [4])) k_cellplaneref06_places_3 (z_cellplaneref06_places_4 N Q) s w := by
  refine Snd.grab h (fun vs ls hd hloc wa hl => ?_)
  split at hd
  · obtain ⟨e4c', rfl, hd0⟩ := G_api_Entry.decL_spec hd
    exact X_cellplaneref06_places_7 (hd0 wa hl)
  · exact hd.elim

def C_cellplaneref06_places_5 (N : Nat) (Q : Value → World → Prop) (cells2' regions3' : Int) (blk4' : Nat) (e4c' : G_api_Entry) (Ty4' : Nat) (k9' : Int) (v30' : Bool) (w : World) : Prop :=
  IfB v30' (Reb N w [⟨blk4', e4c'.cells, Ty4'⟩] (Q (.bool false))) (CallL PP N w [⟨blk4', e4c'.cells, Ty4'⟩] n_cellplaneref06_has [(.int .i64 k9'), (.int .u8 111)] fun r22 w23 => ∃ b21 : Bool, r22 = (.bool b21) ∧ IfB b21 (CallL PP N w23 [⟨blk4', e4c'.cells, Ty4'⟩] n_cellplaneref06_in [(.int .i64 e4c'.Other), (.int .i64 (-1)), (.int .i64 (IntKind.i64.wrap (cells2' - 1)))] fun r25 w26 => ∃ b24 : Bool, r25 = (.bool b24) ∧ IfB (!b24) (Reb N w26 [⟨blk4', e4c'.cells, Ty4'⟩] fun w27 => C_cellplaneref06_places_7 N Q regions3' blk4' e4c' Ty4' k9' true w27) (Reb N w26 [⟨blk4', e4c'.cells, Ty4'⟩] fun w28 => C_cellplaneref06_places_7 N Q regions3' blk4' e4c' Ty4' k9' (decide ((e4c'.Other : Int) = e4c'.Cell)) w28)) (Reb N w23 [⟨blk4', e4c'.cells, Ty4'⟩] fun w29 => C_cellplaneref06_places_7 N Q regions3' blk4' e4c' Ty4' k9' false w29))

theorem X_cellplaneref06_places_5 {N : Nat} {Q : Value → World → Prop} {cells2' regions3' : Int} {blk4' : Nat} {e4c' : G_api_Entry} {Ty4' : Nat} {k9' : Int} {v30' : Bool} {w : World} (h : C_cellplaneref06_places_5 N Q cells2' regions3' blk4' e4c' Ty4' k9' v30' w) : Snd (cx N (fun d => memN d [4])) (cR (cL (cL k_cellplaneref06_places_0))) (z_cellplaneref06_places_1 N Q) (mkS 105 [.val 2, .val 3, .loc 4, .val 9, .val 30] [(.int .i64 cells2'), (.int .i64 regions3'), (.int .i64 k9'), (.bool v30')] [⟨blk4', e4c'.cells, Ty4'⟩]) w :=
  (Snd.cast (c' := .cond (.tmp 30) (cL (cR (cL (cL k_cellplaneref06_places_0)))) (cR (cR (cL (cL k_cellplaneref06_places_0))))) (by kernel_rfl) (Snd.cond (t := v30') (by kernel_rfl) (by kernel_rfl) (fun ht => (fun h => (den_sound okc mixed _ _ _ _ (mpr' (by kernel_rfl) h))) (ifb_t h ht)) (fun ht => (fun h => (Snd.cast (c' := .seq (cL (cR (cR (cL (cL k_cellplaneref06_places_0))))) (cR (cR (cR (cL (cL k_cellplaneref06_places_0)))))) (by kernel_rfl) (Snd.seq (H_cellplaneref06_places_6 N Q) (Snd.cast (c' := .seq (cL (cL (cR (cR (cL (cL k_cellplaneref06_places_0)))))) (cR (cL (cR (cR (cL (cL k_cellplaneref06_places_0))))))) (by kernel_rfl) (Snd.seq (H_cellplaneref06_places_7 N Q) (den_sound okc mixed _ _ _ _ (mpr' (by kernel_rfl) h)) (fun s w h => T_cellplaneref06_places_7 N Q s w h))) (fun s w h => T_cellplaneref06_places_6 N Q s w h)))) (ifb_f h ht))))

noncomputable def H_cellplaneref06_places_5 (N : Nat) (Q : Value → World → Prop) : St → World → Prop := fun s w => grabK 105 [.val 2, .val 3, .loc 4, .val 9, .val 30] s fun vs ls => match vs, ls with
  | [.int .i64 cells2', .int .i64 regions3', .int .i64 k9', .bool v30'], [⟨blk4', e4c'_r, Ty4'⟩] => G_api_Entry.decL e4c'_r fun e4c' => Reb N w s.L fun wa => C_cellplaneref06_places_5 N Q cells2' regions3' blk4' e4c' Ty4' k9' v30' wa
  | _, _ => False

theorem T_cellplaneref06_places_5 (N : Nat) (Q : Value → World → Prop) (s : St) (w : World) (h : H_cellplaneref06_places_5 N Q s w) : Snd (cx N (fun d => memN d [4])) (cR (cL (cL k_cellplaneref06_places_0))) (z_cellplaneref06_places_1 N Q) s w := by
  refine Snd.grab h (fun vs ls hd hloc wa hl => ?_)
  split at hd
  · obtain ⟨e4c', rfl, hd0⟩ := G_api_Entry.decL_spec hd
    exact X_cellplaneref06_places_5 (hd0 wa hl)
  · exact hd.elim

noncomputable def k_cellplaneref06_places_5 : Code := (cR (cL (cL (cL k_cellplaneref06_places_0))))

noncomputable def z_cellplaneref06_places_6 (N : Nat) (Q : Value → World → Prop) : Cont := (thenD (H_cellplaneref06_places_5 N Q) (inBlockD 0 (thenD (H_cellplaneref06_places_4 N Q) (retD (cx N (fun d => memN d [4])) Go.Proofs.Tryd.f49 Q))))

def C_cellplaneref06_places_10 (N : Nat) (Q : Value → World → Prop) (cells2' regions3' : Int) (blk4' : Nat) (e4c' : G_api_Entry) (Ty4' : Nat) (k9' : Int) (v30' : Bool) (w : World) : Prop :=
  IfB v30' (Reb N w [⟨blk4', e4c'.cells, Ty4'⟩] fun w31 => C_cellplaneref06_places_5 N Q cells2' regions3' blk4' e4c' Ty4' k9' v30' w31) (CallL PP N w [⟨blk4', e4c'.cells, Ty4'⟩] n_cellplaneref06_has [(.int .i64 k9'), (.int .u8 99)] fun r33 w34 => ∃ b32 : Bool, r33 = (.bool b32) ∧ IfB (!b32) (CallL PP N w34 [⟨blk4', e4c'.cells, Ty4'⟩] n_cellplaneref06_has [(.int .i64 k9'), (.int .u8 67)] fun r36 w37 => ∃ b35 : Bool, r36 = (.bool b35) ∧ IfB (!b35) (Reb N w37 [⟨blk4', e4c'.cells, Ty4'⟩] fun w38 => C_cellplaneref06_places_5 N Q cells2' regions3' blk4' e4c' Ty4' k9' (!decide ((e4c'.Cell : Int) = (-1))) w38) (Reb N w37 [⟨blk4', e4c'.cells, Ty4'⟩] fun w39 => C_cellplaneref06_places_5 N Q cells2' regions3' blk4' e4c' Ty4' k9' false w39)) (Reb N w34 [⟨blk4', e4c'.cells, Ty4'⟩] fun w40 => C_cellplaneref06_places_5 N Q cells2' regions3' blk4' e4c' Ty4' k9' false w40))

theorem X_cellplaneref06_places_10 {N : Nat} {Q : Value → World → Prop} {cells2' regions3' : Int} {blk4' : Nat} {e4c' : G_api_Entry} {Ty4' : Nat} {k9' : Int} {v30' : Bool} {w : World} (h : C_cellplaneref06_places_10 N Q cells2' regions3' blk4' e4c' Ty4' k9' v30' w) : Snd (cx N (fun d => memN d [4])) (cR (cR k_cellplaneref06_places_5)) (z_cellplaneref06_places_6 N Q) (mkS 105 [.val 2, .val 3, .loc 4, .val 9, .val 30] [(.int .i64 cells2'), (.int .i64 regions3'), (.int .i64 k9'), (.bool v30')] [⟨blk4', e4c'.cells, Ty4'⟩]) w :=
  (den_sound okc mixed _ _ _ _ (mpr' (by kernel_rfl) h))

noncomputable def H_cellplaneref06_places_10 (N : Nat) (Q : Value → World → Prop) : St → World → Prop := fun s w => grabK 105 [.val 2, .val 3, .loc 4, .val 9, .val 30] s fun vs ls => match vs, ls with
  | [.int .i64 cells2', .int .i64 regions3', .int .i64 k9', .bool v30'], [⟨blk4', e4c'_r, Ty4'⟩] => G_api_Entry.decL e4c'_r fun e4c' => Reb N w s.L fun wa => C_cellplaneref06_places_10 N Q cells2' regions3' blk4' e4c' Ty4' k9' v30' wa
  | _, _ => False

theorem T_cellplaneref06_places_10 (N : Nat) (Q : Value → World → Prop) (s : St) (w : World) (h : H_cellplaneref06_places_10 N Q s w) : Snd (cx N (fun d => memN d [4])) (cR (cR k_cellplaneref06_places_5)) (z_cellplaneref06_places_6 N Q) s w := by
  refine Snd.grab h (fun vs ls hd hloc wa hl => ?_)
  split at hd
  · obtain ⟨e4c', rfl, hd0⟩ := G_api_Entry.decL_spec hd
    exact X_cellplaneref06_places_10 (hd0 wa hl)
  · exact hd.elim

def C_cellplaneref06_places_9 (N : Nat) (Q : Value → World → Prop) (cells2' regions3' : Int) (blk4' : Nat) (e4c' : G_api_Entry) (Ty4' : Nat) (k9' : Int) (v30' : Bool) (w : World) : Prop :=
  IfB v30' (Reb N w [⟨blk4', e4c'.cells, Ty4'⟩] fun w30 => C_cellplaneref06_places_5 N Q cells2' regions3' blk4' e4c' Ty4' k9' v30' w30) (CallL PP N w [⟨blk4', e4c'.cells, Ty4'⟩] n_cellplaneref06_has [(.int .i64 k9'), (.int .u8 67)] fun r42 w43 => ∃ b41 : Bool, r42 = (.bool b41) ∧ IfB b41 (CallL PP N w43 [⟨blk4', e4c'.cells, Ty4'⟩] n_cellplaneref06_in [(.int .i64 e4c'.Cell), (.int .i64 (-1)), (.int .i64 (IntKind.i64.wrap (cells2' - 1)))] fun r45 w46 => ∃ b44 : Bool, r45 = (.bool b44) ∧ Reb N w46 [⟨blk4', e4c'.cells, Ty4'⟩] fun w47 => C_cellplaneref06_places_10 N Q cells2' regions3' blk4' e4c' Ty4' k9' (!b44) w47) (Reb N w43 [⟨blk4', e4c'.cells, Ty4'⟩] fun w48 => C_cellplaneref06_places_10 N Q cells2' regions3' blk4' e4c' Ty4' k9' false w48))

theorem X_cellplaneref06_places_9 {N : Nat} {Q : Value → World → Prop} {cells2' regions3' : Int} {blk4' : Nat} {e4c' : G_api_Entry} {Ty4' : Nat} {k9' : Int} {v30' : Bool} {w : World} (h : C_cellplaneref06_places_9 N Q cells2' regions3' blk4' e4c' Ty4' k9' v30' w) : Snd (cx N (fun d => memN d [4])) k_cellplaneref06_places_5 (z_cellplaneref06_places_6 N Q) (mkS 105 [.val 2, .val 3, .loc 4, .val 9, .val 30] [(.int .i64 cells2'), (.int .i64 regions3'), (.int .i64 k9'), (.bool v30')] [⟨blk4', e4c'.cells, Ty4'⟩]) w :=
  (Snd.cast (c' := .cond (.tmp 30) (cL k_cellplaneref06_places_5) (cR k_cellplaneref06_places_5)) (by kernel_rfl) (Snd.cond (t := v30') (by kernel_rfl) (by kernel_rfl) (fun ht => (fun h => (den_sound okc mixed _ _ _ _ (mpr' (by kernel_rfl) h))) (ifb_t h ht)) (fun ht => (fun h => (Snd.cast (c' := .seq (cL (cR k_cellplaneref06_places_5)) (cR (cR k_cellplaneref06_places_5))) (by kernel_rfl) (Snd.seq (H_cellplaneref06_places_10 N Q) (den_sound okc mixed _ _ _ _ (mpr' (by kernel_rfl) h)) (fun s w h => T_cellplaneref06_places_10 N Q s w h)))) (ifb_f h ht))))

noncomputable def H_cellplaneref06_places_9 (N : Nat) (Q : Value → World → Prop) : St → World → Prop := fun s w => grabK 105 [.val 2, .val 3, .loc 4, .val 9, .val 30] s fun vs ls => match vs, ls with
  | [.int .i64 cells2', .int .i64 regions3', .int .i64 k9', .bool v30'], [⟨blk4', e4c'_r, Ty4'⟩] => G_api_Entry.decL e4c'_r fun e4c' => Reb N w s.L fun wa => C_cellplaneref06_places_9 N Q cells2' regions3' blk4' e4c' Ty4' k9' v30' wa
  | _, _ => False

theorem T_cellplaneref06_places_9 (N : Nat) (Q : Value → World → Prop) (s : St) (w : World) (h : H_cellplaneref06_places_9 N Q s w) : Snd (cx N (fun d => memN d [4])) k_cellplaneref06_places_5 (z_cellplaneref06_places_6 N Q) s w := by
  refine Snd.grab h (fun vs ls hd hloc wa hl => ?_)
  split at hd
  · obtain ⟨e4c', rfl, hd0⟩ := G_api_Entry.decL_spec hd
    exact X_cellplaneref06_places_9 (hd0 wa hl)
  · exact hd.elim

def C_cellplaneref06_places_3 (N : Nat) (Q : Value → World → Prop) (cells2' regions3' : Int) (blk4' : Nat) (e4c' : G_api_Entry) (Ty4' : Nat) (k9' : Int) (w : World) : Prop :=
  CallL PP N w [⟨blk4', e4c'.cells, Ty4'⟩] n_cellplaneref06_has [(.int .i64 k9'), (.int .u8 99)] fun r50 w51 => ∃ b49 : Bool, r50 = (.bool b49) ∧ IfB b49 (CallL PP N w51 [⟨blk4', e4c'.cells, Ty4'⟩] n_cellplaneref06_in [(.int .i64 e4c'.Cell), (.int .i64 0), (.int .i64 (IntKind.i64.wrap (cells2' - 1)))] fun r53 w54 => ∃ b52 : Bool, r53 = (.bool b52) ∧ Reb N w54 [⟨blk4', e4c'.cells, Ty4'⟩] fun w55 => C_cellplaneref06_places_9 N Q cells2' regions3' blk4' e4c' Ty4' k9' (!b52) w55) (Reb N w51 [⟨blk4', e4c'.cells, Ty4'⟩] fun w56 => C_cellplaneref06_places_9 N Q cells2' regions3' blk4' e4c' Ty4' k9' false w56)

theorem X_cellplaneref06_places_3 {N : Nat} {Q : Value → World → Prop} {cells2' regions3' : Int} {blk4' : Nat} {e4c' : G_api_Entry} {Ty4' : Nat} {k9' : Int} {w : World} (h : C_cellplaneref06_places_3 N Q cells2' regions3' blk4' e4c' Ty4' k9' w) : Snd (cx N (fun d => memN d [4])) k_cellplaneref06_places_0 (retD (cx N (fun d => memN d [4])) Go.Proofs.Tryd.f49 Q) (mkS 105 [.val 2, .val 3, .loc 4, .val 9] [(.int .i64 cells2'), (.int .i64 regions3'), (.int .i64 k9')] [⟨blk4', e4c'.cells, Ty4'⟩]) w :=
  (Snd.cast (c' := .seq (cL k_cellplaneref06_places_0) (cR k_cellplaneref06_places_0)) (by kernel_rfl) (Snd.seq (H_cellplaneref06_places_4 N Q) (Snd.cast (c' := .block 0 (cL (cL k_cellplaneref06_places_0))) (by kernel_rfl) (Snd.block (Snd.cast (c' := .seq (cL (cL (cL k_cellplaneref06_places_0))) (cR (cL (cL k_cellplaneref06_places_0)))) (by kernel_rfl) (Snd.seq (H_cellplaneref06_places_5 N Q) (Snd.cast (c' := .seq (cL (cL (cL (cL k_cellplaneref06_places_0)))) (cR (cL (cL (cL k_cellplaneref06_places_0))))) (by kernel_rfl) (Snd.seq (H_cellplaneref06_places_9 N Q) (den_sound okc mixed _ _ _ _ (mpr' (by kernel_rfl) h)) (fun s w h => T_cellplaneref06_places_9 N Q s w h))) (fun s w h => T_cellplaneref06_places_5 N Q s w h))))) (fun s w h => T_cellplaneref06_places_4 N Q s w h)))

noncomputable def H_cellplaneref06_places_3 (N : Nat) (Q : Value → World → Prop) : St → World → Prop := fun s w => grabK 105 [.val 2, .val 3, .loc 4, .val 9] s fun vs ls => match vs, ls with
  | [.int .i64 cells2', .int .i64 regions3', .int .i64 k9'], [⟨blk4', e4c'_r, Ty4'⟩] => G_api_Entry.decL e4c'_r fun e4c' => Reb N w s.L fun wa => C_cellplaneref06_places_3 N Q cells2' regions3' blk4' e4c' Ty4' k9' wa
  | _, _ => False

theorem T_cellplaneref06_places_3 (N : Nat) (Q : Value → World → Prop) (s : St) (w : World) (h : H_cellplaneref06_places_3 N Q s w) : Snd (cx N (fun d => memN d [4])) k_cellplaneref06_places_0 (retD (cx N (fun d => memN d [4])) Go.Proofs.Tryd.f49 Q) s w := by
  refine Snd.grab h (fun vs ls hd hloc wa hl => ?_)
  split at hd
  · obtain ⟨e4c', rfl, hd0⟩ := G_api_Entry.decL_spec hd
    exact X_cellplaneref06_places_3 (hd0 wa hl)
  · exact hd.elim

def C_cellplaneref06_places_2 (N : Nat) (Q : Value → World → Prop) (tenants1' cells2' regions3' : Int) (blk4' : Nat) (e4c' : G_api_Entry) (Ty4' : Nat) (k9' : Int) (w : World) : Prop :=
  CallL PP N w [⟨blk4', e4c'.cells, Ty4'⟩] n_cellplaneref06_has [(.int .i64 k9'), (.int .u8 116)] fun r58 w59 => ∃ b57 : Bool, r58 = (.bool b57) ∧ IfB (!(b57 == (!decide ((e4c'.Tenant : Int) = (-1))))) (Reb N w59 [⟨blk4', e4c'.cells, Ty4'⟩] (Q (.bool false))) (CallL PP N w59 [⟨blk4', e4c'.cells, Ty4'⟩] n_cellplaneref06_has [(.int .i64 k9'), (.int .u8 116)] fun r61 w62 => ∃ b60 : Bool, r61 = (.bool b60) ∧ IfB b60 (CallL PP N w62 [⟨blk4', e4c'.cells, Ty4'⟩] n_cellplaneref06_in [(.int .i64 e4c'.Tenant), (.int .i64 0), (.int .i64 (IntKind.i64.wrap (tenants1' - 1)))] fun r64 w65 => ∃ b63 : Bool, r64 = (.bool b63) ∧ IfB (!b63) (Reb N w65 [⟨blk4', e4c'.cells, Ty4'⟩] (Q (.bool false))) (Reb N w65 [⟨blk4', e4c'.cells, Ty4'⟩] fun w66 => C_cellplaneref06_places_3 N Q cells2' regions3' blk4' e4c' Ty4' k9' w66)) (Reb N w62 [⟨blk4', e4c'.cells, Ty4'⟩] fun w67 => C_cellplaneref06_places_3 N Q cells2' regions3' blk4' e4c' Ty4' k9' w67))

theorem X_cellplaneref06_places_2 {N : Nat} {Q : Value → World → Prop} {tenants1' cells2' regions3' : Int} {blk4' : Nat} {e4c' : G_api_Entry} {Ty4' : Nat} {k9' : Int} {w : World} (h : C_cellplaneref06_places_2 N Q tenants1' cells2' regions3' blk4' e4c' Ty4' k9' w) : Snd (cx N (fun d => memN d [4])) (cR (cR (bodyOf Go.Proofs.Tryd.f49))) (retD (cx N (fun d => memN d [4])) Go.Proofs.Tryd.f49 Q) (mkS 105 [.val 1, .val 2, .val 3, .loc 4, .val 9] [(.int .i64 tenants1'), (.int .i64 cells2'), (.int .i64 regions3'), (.int .i64 k9')] [⟨blk4', e4c'.cells, Ty4'⟩]) w :=
  (Snd.cast (c' := .seq (cL (cR (cR (bodyOf Go.Proofs.Tryd.f49)))) (cR (cR (cR (bodyOf Go.Proofs.Tryd.f49))))) (by kernel_rfl) (Snd.seq (H_cellplaneref06_places_3 N Q) (den_sound okc mixed _ _ _ _ (mpr' (by kernel_rfl) h)) (fun s w h => T_cellplaneref06_places_3 N Q s w h)))

noncomputable def H_cellplaneref06_places_2 (N : Nat) (Q : Value → World → Prop) : St → World → Prop := fun s w => grabK 105 [.val 1, .val 2, .val 3, .loc 4, .val 9] s fun vs ls => match vs, ls with
  | [.int .i64 tenants1', .int .i64 cells2', .int .i64 regions3', .int .i64 k9'], [⟨blk4', e4c'_r, Ty4'⟩] => G_api_Entry.decL e4c'_r fun e4c' => Reb N w s.L fun wa => C_cellplaneref06_places_2 N Q tenants1' cells2' regions3' blk4' e4c' Ty4' k9' wa
  | _, _ => False

theorem T_cellplaneref06_places_2 (N : Nat) (Q : Value → World → Prop) (s : St) (w : World) (h : H_cellplaneref06_places_2 N Q s w) : Snd (cx N (fun d => memN d [4])) (cR (cR (bodyOf Go.Proofs.Tryd.f49))) (retD (cx N (fun d => memN d [4])) Go.Proofs.Tryd.f49 Q) s w := by
  refine Snd.grab h (fun vs ls hd hloc wa hl => ?_)
  split at hd
  · obtain ⟨e4c', rfl, hd0⟩ := G_api_Entry.decL_spec hd
    exact X_cellplaneref06_places_2 (hd0 wa hl)
  · exact hd.elim

def C_cellplaneref06_places_1 (N : Nat) (Q : Value → World → Prop) (tenants1' cells2' regions3' : Int) (blk4' : Nat) (e4c' : G_api_Entry) (Ty4' : Nat) (w : World) : Prop :=
  Reb N w [⟨blk4', e4c'.cells, Ty4'⟩] fun w68 => C_cellplaneref06_places_2 N Q tenants1' cells2' regions3' blk4' e4c' Ty4' e4c'.Kind w68

theorem X_cellplaneref06_places_1 {N : Nat} {Q : Value → World → Prop} {tenants1' cells2' regions3' : Int} {blk4' : Nat} {e4c' : G_api_Entry} {Ty4' : Nat} {w : World} (h : C_cellplaneref06_places_1 N Q tenants1' cells2' regions3' blk4' e4c' Ty4' w) : Snd (cx N (fun d => memN d [4])) (cR (bodyOf Go.Proofs.Tryd.f49)) (retD (cx N (fun d => memN d [4])) Go.Proofs.Tryd.f49 Q) (mkS 105 [.val 1, .val 2, .val 3, .loc 4] [(.int .i64 tenants1'), (.int .i64 cells2'), (.int .i64 regions3')] [⟨blk4', e4c'.cells, Ty4'⟩]) w :=
  (Snd.cast (c' := .seq (cL (cR (bodyOf Go.Proofs.Tryd.f49))) (cR (cR (bodyOf Go.Proofs.Tryd.f49)))) (by kernel_rfl) (Snd.seq (H_cellplaneref06_places_2 N Q) (den_sound okc mixed _ _ _ _ (mpr' (by kernel_rfl) h)) (fun s w h => T_cellplaneref06_places_2 N Q s w h)))

noncomputable def H_cellplaneref06_places_1 (N : Nat) (Q : Value → World → Prop) : St → World → Prop := fun s w => grabK 105 [.val 1, .val 2, .val 3, .loc 4] s fun vs ls => match vs, ls with
  | [.int .i64 tenants1', .int .i64 cells2', .int .i64 regions3'], [⟨blk4', e4c'_r, Ty4'⟩] => G_api_Entry.decL e4c'_r fun e4c' => Reb N w s.L fun wa => C_cellplaneref06_places_1 N Q tenants1' cells2' regions3' blk4' e4c' Ty4' wa
  | _, _ => False

theorem T_cellplaneref06_places_1 (N : Nat) (Q : Value → World → Prop) (s : St) (w : World) (h : H_cellplaneref06_places_1 N Q s w) : Snd (cx N (fun d => memN d [4])) (cR (bodyOf Go.Proofs.Tryd.f49)) (retD (cx N (fun d => memN d [4])) Go.Proofs.Tryd.f49 Q) s w := by
  refine Snd.grab h (fun vs ls hd hloc wa hl => ?_)
  split at hd
  · obtain ⟨e4c', rfl, hd0⟩ := G_api_Entry.decL_spec hd
    exact X_cellplaneref06_places_1 (hd0 wa hl)
  · exact hd.elim

def F_cellplaneref06_places (N : Nat) (e0 : G_api_Entry) (tenants1 : Int) (cells2 : Int) (regions3 : Int) (Q : Value → World → Prop) (w : World) : Prop :=
  ∀ b69 : Nat, w.heap.size ≤ b69 → Reb N w [⟨b69, e0.cells, t_api_Entry⟩] fun w70 => C_cellplaneref06_places_1 N Q tenants1 cells2 regions3 b69 e0 t_api_Entry w70

theorem cellplaneref06_places_snd (N : Nat) (e0 : G_api_Entry) (tenants1 : Int) (cells2 : Int) (regions3 : Int) (Q : Value → World → Prop) (w : World) (h : F_cellplaneref06_places N e0 tenants1 cells2 regions3 Q w) : Snd (cx N (fun d => memN d [4])) (bodyOf Go.Proofs.Tryd.f49) (retD (cx N (fun d => memN d [4])) Go.Proofs.Tryd.f49 Q) (entry 105 [(.agg (List.toArray e0.cells)), (.int .i64 tenants1), (.int .i64 cells2), (.int .i64 regions3)]) w :=
  (Snd.cast (c' := .seq (cL (bodyOf Go.Proofs.Tryd.f49)) (cR (bodyOf Go.Proofs.Tryd.f49))) (by kernel_rfl) (Snd.seq (H_cellplaneref06_places_1 N Q) (den_sound okc mixed _ _ _ _ (mpr' (by kernel_rfl) h)) (fun s w h => T_cellplaneref06_places_1 N Q s w h)))

theorem cellplaneref06_places_calls (e0 : G_api_Entry) (tenants1 : Int) (cells2 : Int) (regions3 : Int) (Q : Value → World → Prop) (w : World) (h : F_cellplaneref06_places w.heap.size e0 tenants1 cells2 regions3 Q w) : Calls PP n_cellplaneref06_places [(.agg (List.toArray e0.cells)), (.int .i64 tenants1), (.int .i64 cells2), (.int .i64 regions3)].toArray w fun e w' => ∃ v, e = .returned v ∧ Q v w' :=
  calls_of (C := cx w.heap.size (fun d => memN d [4])) (fn := Go.Proofs.Tryd.f49) (c := (bodyOf Go.Proofs.Tryd.f49)) (by kernel_rfl) (by kernel_rfl) (Nat.le_refl _) (cellplaneref06_places_snd _ e0 tenants1 cells2 regions3 Q w h)

/-! ### cellplaneref06_numbers -/
noncomputable def k_cellplaneref06_numbers_0 : Code := (cR (cR (cR (bodyOf Go.Proofs.Tryd.f50))))

def C_cellplaneref06_numbers_3 (N : Nat) (Q : Value → World → Prop) (blk2' : Nat) (e2c' : G_api_Entry) (Ty2' : Nat) (w : World) : Prop :=
  Reb N w [⟨blk2', e2c'.cells, Ty2'⟩] (Q (.bool (decide ((e2c'.N : Int) = 0))))

theorem X_cellplaneref06_numbers_3 {N : Nat} {Q : Value → World → Prop} {blk2' : Nat} {e2c' : G_api_Entry} {Ty2' : Nat} {w : World} (h : C_cellplaneref06_numbers_3 N Q blk2' e2c' Ty2' w) : Snd (cx N (fun d => memN d [2])) k_cellplaneref06_numbers_0 (retD (cx N (fun d => memN d [2])) Go.Proofs.Tryd.f50 Q) (mkS 82 [.loc 2] [] [⟨blk2', e2c'.cells, Ty2'⟩]) w :=
  (den_sound okc mixed _ _ _ _ (mpr' (by kernel_rfl) h))

noncomputable def H_cellplaneref06_numbers_3 (N : Nat) (Q : Value → World → Prop) : St → World → Prop := fun s w => grabK 82 [.loc 2] s fun vs ls => match vs, ls with
  | [], [⟨blk2', e2c'_r, Ty2'⟩] => G_api_Entry.decL e2c'_r fun e2c' => Reb N w s.L fun wa => C_cellplaneref06_numbers_3 N Q blk2' e2c' Ty2' wa
  | _, _ => False

theorem T_cellplaneref06_numbers_3 (N : Nat) (Q : Value → World → Prop) (s : St) (w : World) (h : H_cellplaneref06_numbers_3 N Q s w) : Snd (cx N (fun d => memN d [2])) k_cellplaneref06_numbers_0 (retD (cx N (fun d => memN d [2])) Go.Proofs.Tryd.f50 Q) s w := by
  refine Snd.grab h (fun vs ls hd hloc wa hl => ?_)
  split at hd
  · obtain ⟨e2c', rfl, hd0⟩ := G_api_Entry.decL_spec hd
    exact X_cellplaneref06_numbers_3 (hd0 wa hl)
  · exact hd.elim

noncomputable def k_cellplaneref06_numbers_1 : Code := (cR (cL (cL (cR (cR (bodyOf Go.Proofs.Tryd.f50))))))

noncomputable def z_cellplaneref06_numbers_2 (N : Nat) (Q : Value → World → Prop) : Cont := (inBlockD 0 (thenD (H_cellplaneref06_numbers_3 N Q) (retD (cx N (fun d => memN d [2])) Go.Proofs.Tryd.f50 Q)))

def C_cellplaneref06_numbers_5 (N : Nat) (Q : Value → World → Prop) (versions1' : Int) (blk2' : Nat) (e2c' : G_api_Entry) (Ty2' : Nat) (k5' : Int) (v25' : Bool) (w : World) : Prop :=
  IfB v25' (Reb N w [⟨blk2', e2c'.cells, Ty2'⟩] (Q (.bool false))) (CallL PP N w [⟨blk2', e2c'.cells, Ty2'⟩] n_cellplaneref06_has [(.int .i64 k5'), (.int .u8 118)] fun r2 w3 => ∃ b1 : Bool, r2 = (.bool b1) ∧ IfB b1 (CallL PP N w3 [⟨blk2', e2c'.cells, Ty2'⟩] n_cellplaneref06_in [(.int .i64 e2c'.N), (.int .i64 0), (.int .i64 (IntKind.i64.wrap (versions1' - 1)))] fun r5 w6 => ∃ b4 : Bool, r5 = (.bool b4) ∧ Reb N w6 [⟨blk2', e2c'.cells, Ty2'⟩] (Q (.bool b4))) (CallL PP N w3 [⟨blk2', e2c'.cells, Ty2'⟩] n_cellplaneref06_has [(.int .i64 k5'), (.int .u8 98)] fun r8 w9 => ∃ b7 : Bool, r8 = (.bool b7) ∧ IfB b7 (CallL PP N w9 [⟨blk2', e2c'.cells, Ty2'⟩] n_cellplaneref06_in [(.int .i64 e2c'.N), (.int .i64 0), (.int .i64 1)] fun r11 w12 => ∃ b10 : Bool, r11 = (.bool b10) ∧ Reb N w12 [⟨blk2', e2c'.cells, Ty2'⟩] (Q (.bool b10))) (CallL PP N w9 [⟨blk2', e2c'.cells, Ty2'⟩] n_cellplaneref06_has [(.int .i64 k5'), (.int .u8 109)] fun r14 w15 => ∃ b13 : Bool, r14 = (.bool b13) ∧ IfB b13 (CallL PP N w15 [⟨blk2', e2c'.cells, Ty2'⟩] n_cellplaneref06_in [(.int .i64 e2c'.N), (.int .i64 1), (.int .i64 3)] fun r17 w18 => ∃ b16 : Bool, r17 = (.bool b16) ∧ Reb N w18 [⟨blk2', e2c'.cells, Ty2'⟩] (Q (.bool b16))) (CallL PP N w15 [⟨blk2', e2c'.cells, Ty2'⟩] n_cellplaneref06_has [(.int .i64 k5'), (.int .u8 110)] fun r20 w21 => ∃ b19 : Bool, r20 = (.bool b19) ∧ IfB b19 (CallL PP N w21 [⟨blk2', e2c'.cells, Ty2'⟩] n_cellplaneref06_in [(.int .i64 e2c'.N), (.int .i64 0), (.int .i64 1073741824)] fun r23 w24 => ∃ b22 : Bool, r23 = (.bool b22) ∧ Reb N w24 [⟨blk2', e2c'.cells, Ty2'⟩] (Q (.bool b22))) (Reb N w21 [⟨blk2', e2c'.cells, Ty2'⟩] fun w25 => C_cellplaneref06_numbers_3 N Q blk2' e2c' Ty2' w25)))))

theorem X_cellplaneref06_numbers_5 {N : Nat} {Q : Value → World → Prop} {versions1' : Int} {blk2' : Nat} {e2c' : G_api_Entry} {Ty2' : Nat} {k5' : Int} {v25' : Bool} {w : World} (h : C_cellplaneref06_numbers_5 N Q versions1' blk2' e2c' Ty2' k5' v25' w) : Snd (cx N (fun d => memN d [2])) (cR (cR k_cellplaneref06_numbers_1)) (z_cellplaneref06_numbers_2 N Q) (mkS 82 [.val 1, .loc 2, .val 5, .val 25] [(.int .i64 versions1'), (.int .i64 k5'), (.bool v25')] [⟨blk2', e2c'.cells, Ty2'⟩]) w :=
  (den_sound okc mixed _ _ _ _ (mpr' (by kernel_rfl) h))

noncomputable def H_cellplaneref06_numbers_5 (N : Nat) (Q : Value → World → Prop) : St → World → Prop := fun s w => grabK 82 [.val 1, .loc 2, .val 5, .val 25] s fun vs ls => match vs, ls with
  | [.int .i64 versions1', .int .i64 k5', .bool v25'], [⟨blk2', e2c'_r, Ty2'⟩] => G_api_Entry.decL e2c'_r fun e2c' => Reb N w s.L fun wa => C_cellplaneref06_numbers_5 N Q versions1' blk2' e2c' Ty2' k5' v25' wa
  | _, _ => False

theorem T_cellplaneref06_numbers_5 (N : Nat) (Q : Value → World → Prop) (s : St) (w : World) (h : H_cellplaneref06_numbers_5 N Q s w) : Snd (cx N (fun d => memN d [2])) (cR (cR k_cellplaneref06_numbers_1)) (z_cellplaneref06_numbers_2 N Q) s w := by
  refine Snd.grab h (fun vs ls hd hloc wa hl => ?_)
  split at hd
  · obtain ⟨e2c', rfl, hd0⟩ := G_api_Entry.decL_spec hd
    exact X_cellplaneref06_numbers_5 (hd0 wa hl)
  · exact hd.elim

noncomputable def k_cellplaneref06_numbers_3 : Code := (cR (cL (cR k_cellplaneref06_numbers_1)))

noncomputable def z_cellplaneref06_numbers_4 (N : Nat) (Q : Value → World → Prop) : Cont := (thenD (H_cellplaneref06_numbers_5 N Q) (z_cellplaneref06_numbers_2 N Q))

def C_cellplaneref06_numbers_6 (N : Nat) (Q : Value → World → Prop) (versions1' : Int) (blk2' : Nat) (e2c' : G_api_Entry) (Ty2' : Nat) (k5' : Int) (v25' : Bool) (w : World) : Prop :=
  IfB v25' (Reb N w [⟨blk2', e2c'.cells, Ty2'⟩] fun w26 => C_cellplaneref06_numbers_5 N Q versions1' blk2' e2c' Ty2' k5' v25' w26) (CallL PP N w [⟨blk2', e2c'.cells, Ty2'⟩] n_cellplaneref06_has [(.int .i64 k5'), (.int .u8 119)] fun r28 w29 => ∃ b27 : Bool, r28 = (.bool b27) ∧ IfB (!b27) (IfB (!decide ((e2c'.From : Int) = 0)) (Reb N w29 [⟨blk2', e2c'.cells, Ty2'⟩] fun w30 => C_cellplaneref06_numbers_5 N Q versions1' blk2' e2c' Ty2' k5' true w30) (Reb N w29 [⟨blk2', e2c'.cells, Ty2'⟩] fun w31 => C_cellplaneref06_numbers_5 N Q versions1' blk2' e2c' Ty2' k5' (!decide ((e2c'.Until : Int) = 0)) w31)) (Reb N w29 [⟨blk2', e2c'.cells, Ty2'⟩] fun w32 => C_cellplaneref06_numbers_5 N Q versions1' blk2' e2c' Ty2' k5' false w32))

theorem X_cellplaneref06_numbers_6 {N : Nat} {Q : Value → World → Prop} {versions1' : Int} {blk2' : Nat} {e2c' : G_api_Entry} {Ty2' : Nat} {k5' : Int} {v25' : Bool} {w : World} (h : C_cellplaneref06_numbers_6 N Q versions1' blk2' e2c' Ty2' k5' v25' w) : Snd (cx N (fun d => memN d [2])) k_cellplaneref06_numbers_3 (z_cellplaneref06_numbers_4 N Q) (mkS 82 [.val 1, .loc 2, .val 5, .val 25] [(.int .i64 versions1'), (.int .i64 k5'), (.bool v25')] [⟨blk2', e2c'.cells, Ty2'⟩]) w :=
  (den_sound okc mixed _ _ _ _ (mpr' (by kernel_rfl) h))

noncomputable def H_cellplaneref06_numbers_6 (N : Nat) (Q : Value → World → Prop) : St → World → Prop := fun s w => grabK 82 [.val 1, .loc 2, .val 5, .val 25] s fun vs ls => match vs, ls with
  | [.int .i64 versions1', .int .i64 k5', .bool v25'], [⟨blk2', e2c'_r, Ty2'⟩] => G_api_Entry.decL e2c'_r fun e2c' => Reb N w s.L fun wa => C_cellplaneref06_numbers_6 N Q versions1' blk2' e2c' Ty2' k5' v25' wa
  | _, _ => False

theorem T_cellplaneref06_numbers_6 (N : Nat) (Q : Value → World → Prop) (s : St) (w : World) (h : H_cellplaneref06_numbers_6 N Q s w) : Snd (cx N (fun d => memN d [2])) k_cellplaneref06_numbers_3 (z_cellplaneref06_numbers_4 N Q) s w := by
  refine Snd.grab h (fun vs ls hd hloc wa hl => ?_)
  split at hd
  · obtain ⟨e2c', rfl, hd0⟩ := G_api_Entry.decL_spec hd
    exact X_cellplaneref06_numbers_6 (hd0 wa hl)
  · exact hd.elim

def C_cellplaneref06_numbers_4 (N : Nat) (Q : Value → World → Prop) (versions1' : Int) (blk2' : Nat) (e2c' : G_api_Entry) (Ty2' : Nat) (k5' : Int) (v8' : Bool) (w : World) : Prop :=
  IfB v8' (Reb N w [⟨blk2', e2c'.cells, Ty2'⟩] (Q (.bool false))) (CallL PP N w [⟨blk2', e2c'.cells, Ty2'⟩] n_cellplaneref06_has [(.int .i64 k5'), (.int .u8 119)] fun r34 w35 => ∃ b33 : Bool, r34 = (.bool b33) ∧ IfB b33 (CallL PP N w35 [⟨blk2', e2c'.cells, Ty2'⟩] n_cellplaneref06_in [(.int .i64 e2c'.From), (.int .i64 0), (.int .i64 1073741824)] fun r37 w38 => ∃ b36 : Bool, r37 = (.bool b36) ∧ IfB (!b36) (Reb N w38 [⟨blk2', e2c'.cells, Ty2'⟩] fun w39 => C_cellplaneref06_numbers_6 N Q versions1' blk2' e2c' Ty2' k5' true w39) (CallL PP N w38 [⟨blk2', e2c'.cells, Ty2'⟩] n_cellplaneref06_in [(.int .i64 e2c'.Until), (.int .i64 0), (.int .i64 1073741824)] fun r41 w42 => ∃ b40 : Bool, r41 = (.bool b40) ∧ Reb N w42 [⟨blk2', e2c'.cells, Ty2'⟩] fun w43 => C_cellplaneref06_numbers_6 N Q versions1' blk2' e2c' Ty2' k5' (!b40) w43)) (Reb N w35 [⟨blk2', e2c'.cells, Ty2'⟩] fun w44 => C_cellplaneref06_numbers_6 N Q versions1' blk2' e2c' Ty2' k5' false w44))

theorem X_cellplaneref06_numbers_4 {N : Nat} {Q : Value → World → Prop} {versions1' : Int} {blk2' : Nat} {e2c' : G_api_Entry} {Ty2' : Nat} {k5' : Int} {v8' : Bool} {w : World} (h : C_cellplaneref06_numbers_4 N Q versions1' blk2' e2c' Ty2' k5' v8' w) : Snd (cx N (fun d => memN d [2])) k_cellplaneref06_numbers_1 (z_cellplaneref06_numbers_2 N Q) (mkS 82 [.val 1, .loc 2, .val 5, .val 8] [(.int .i64 versions1'), (.int .i64 k5'), (.bool v8')] [⟨blk2', e2c'.cells, Ty2'⟩]) w :=
  (Snd.cast (c' := .cond (.tmp 8) (cL k_cellplaneref06_numbers_1) (cR k_cellplaneref06_numbers_1)) (by kernel_rfl) (Snd.cond (t := v8') (by kernel_rfl) (by kernel_rfl) (fun ht => (fun h => (den_sound okc mixed _ _ _ _ (mpr' (by kernel_rfl) h))) (ifb_t h ht)) (fun ht => (fun h => (Snd.cast (c' := .seq (cL (cR k_cellplaneref06_numbers_1)) (cR (cR k_cellplaneref06_numbers_1))) (by kernel_rfl) (Snd.seq (H_cellplaneref06_numbers_5 N Q) (Snd.cast (c' := .seq (cL (cL (cR k_cellplaneref06_numbers_1))) (cR (cL (cR k_cellplaneref06_numbers_1)))) (by kernel_rfl) (Snd.seq (H_cellplaneref06_numbers_6 N Q) (den_sound okc mixed _ _ _ _ (mpr' (by kernel_rfl) h)) (fun s w h => T_cellplaneref06_numbers_6 N Q s w h))) (fun s w h => T_cellplaneref06_numbers_5 N Q s w h)))) (ifb_f h ht))))

noncomputable def H_cellplaneref06_numbers_4 (N : Nat) (Q : Value → World → Prop) : St → World → Prop := fun s w => grabK 82 [.val 1, .loc 2, .val 5, .val 8] s fun vs ls => match vs, ls with
  | [.int .i64 versions1', .int .i64 k5', .bool v8'], [⟨blk2', e2c'_r, Ty2'⟩] => G_api_Entry.decL e2c'_r fun e2c' => Reb N w s.L fun wa => C_cellplaneref06_numbers_4 N Q versions1' blk2' e2c' Ty2' k5' v8' wa
  | _, _ => False

theorem T_cellplaneref06_numbers_4 (N : Nat) (Q : Value → World → Prop) (s : St) (w : World) (h : H_cellplaneref06_numbers_4 N Q s w) : Snd (cx N (fun d => memN d [2])) k_cellplaneref06_numbers_1 (z_cellplaneref06_numbers_2 N Q) s w := by
  refine Snd.grab h (fun vs ls hd hloc wa hl => ?_)
  split at hd
  · obtain ⟨e2c', rfl, hd0⟩ := G_api_Entry.decL_spec hd
    exact X_cellplaneref06_numbers_4 (hd0 wa hl)
  · exact hd.elim

noncomputable def k_cellplaneref06_numbers_5 : Code := (cR (cL (cL (cL (cR (cR (bodyOf Go.Proofs.Tryd.f50)))))))

noncomputable def z_cellplaneref06_numbers_6 (N : Nat) (Q : Value → World → Prop) : Cont := (thenD (H_cellplaneref06_numbers_4 N Q) (inBlockD 0 (thenD (H_cellplaneref06_numbers_3 N Q) (retD (cx N (fun d => memN d [2])) Go.Proofs.Tryd.f50 Q))))

def C_cellplaneref06_numbers_7 (N : Nat) (Q : Value → World → Prop) (versions1' : Int) (blk2' : Nat) (e2c' : G_api_Entry) (Ty2' : Nat) (k5' : Int) (v8' : Bool) (w : World) : Prop :=
  IfB v8' (Reb N w [⟨blk2', e2c'.cells, Ty2'⟩] fun w45 => C_cellplaneref06_numbers_4 N Q versions1' blk2' e2c' Ty2' k5' v8' w45) (CallL PP N w [⟨blk2', e2c'.cells, Ty2'⟩] n_cellplaneref06_has [(.int .i64 k5'), (.int .u8 101)] fun r47 w48 => ∃ b46 : Bool, r47 = (.bool b46) ∧ IfB (!b46) (Reb N w48 [⟨blk2', e2c'.cells, Ty2'⟩] fun w49 => C_cellplaneref06_numbers_4 N Q versions1' blk2' e2c' Ty2' k5' (!decide ((e2c'.Epoch : Int) = 0)) w49) (Reb N w48 [⟨blk2', e2c'.cells, Ty2'⟩] fun w50 => C_cellplaneref06_numbers_4 N Q versions1' blk2' e2c' Ty2' k5' false w50))

theorem X_cellplaneref06_numbers_7 {N : Nat} {Q : Value → World → Prop} {versions1' : Int} {blk2' : Nat} {e2c' : G_api_Entry} {Ty2' : Nat} {k5' : Int} {v8' : Bool} {w : World} (h : C_cellplaneref06_numbers_7 N Q versions1' blk2' e2c' Ty2' k5' v8' w) : Snd (cx N (fun d => memN d [2])) k_cellplaneref06_numbers_5 (z_cellplaneref06_numbers_6 N Q) (mkS 82 [.val 1, .loc 2, .val 5, .val 8] [(.int .i64 versions1'), (.int .i64 k5'), (.bool v8')] [⟨blk2', e2c'.cells, Ty2'⟩]) w :=
  (den_sound okc mixed _ _ _ _ (mpr' (by kernel_rfl) h))

noncomputable def H_cellplaneref06_numbers_7 (N : Nat) (Q : Value → World → Prop) : St → World → Prop := fun s w => grabK 82 [.val 1, .loc 2, .val 5, .val 8] s fun vs ls => match vs, ls with
  | [.int .i64 versions1', .int .i64 k5', .bool v8'], [⟨blk2', e2c'_r, Ty2'⟩] => G_api_Entry.decL e2c'_r fun e2c' => Reb N w s.L fun wa => C_cellplaneref06_numbers_7 N Q versions1' blk2' e2c' Ty2' k5' v8' wa
  | _, _ => False

theorem T_cellplaneref06_numbers_7 (N : Nat) (Q : Value → World → Prop) (s : St) (w : World) (h : H_cellplaneref06_numbers_7 N Q s w) : Snd (cx N (fun d => memN d [2])) k_cellplaneref06_numbers_5 (z_cellplaneref06_numbers_6 N Q) s w := by
  refine Snd.grab h (fun vs ls hd hloc wa hl => ?_)
  split at hd
  · obtain ⟨e2c', rfl, hd0⟩ := G_api_Entry.decL_spec hd
    exact X_cellplaneref06_numbers_7 (hd0 wa hl)
  · exact hd.elim

def C_cellplaneref06_numbers_2 (N : Nat) (Q : Value → World → Prop) (versions1' : Int) (blk2' : Nat) (e2c' : G_api_Entry) (Ty2' : Nat) (k5' : Int) (w : World) : Prop :=
  CallL PP N w [⟨blk2', e2c'.cells, Ty2'⟩] n_cellplaneref06_has [(.int .i64 k5'), (.int .u8 101)] fun r52 w53 => ∃ b51 : Bool, r52 = (.bool b51) ∧ IfB b51 (CallL PP N w53 [⟨blk2', e2c'.cells, Ty2'⟩] n_cellplaneref06_in [(.int .i64 e2c'.Epoch), (.int .i64 1), (.int .i64 1048576)] fun r55 w56 => ∃ b54 : Bool, r55 = (.bool b54) ∧ Reb N w56 [⟨blk2', e2c'.cells, Ty2'⟩] fun w57 => C_cellplaneref06_numbers_7 N Q versions1' blk2' e2c' Ty2' k5' (!b54) w57) (Reb N w53 [⟨blk2', e2c'.cells, Ty2'⟩] fun w58 => C_cellplaneref06_numbers_7 N Q versions1' blk2' e2c' Ty2' k5' false w58)

theorem X_cellplaneref06_numbers_2 {N : Nat} {Q : Value → World → Prop} {versions1' : Int} {blk2' : Nat} {e2c' : G_api_Entry} {Ty2' : Nat} {k5' : Int} {w : World} (h : C_cellplaneref06_numbers_2 N Q versions1' blk2' e2c' Ty2' k5' w) : Snd (cx N (fun d => memN d [2])) (cR (cR (bodyOf Go.Proofs.Tryd.f50))) (retD (cx N (fun d => memN d [2])) Go.Proofs.Tryd.f50 Q) (mkS 82 [.val 1, .loc 2, .val 5] [(.int .i64 versions1'), (.int .i64 k5')] [⟨blk2', e2c'.cells, Ty2'⟩]) w :=
  (Snd.cast (c' := .seq (cL (cR (cR (bodyOf Go.Proofs.Tryd.f50)))) (cR (cR (cR (bodyOf Go.Proofs.Tryd.f50))))) (by kernel_rfl) (Snd.seq (H_cellplaneref06_numbers_3 N Q) (Snd.cast (c' := .block 0 (cL (cL (cR (cR (bodyOf Go.Proofs.Tryd.f50)))))) (by kernel_rfl) (Snd.block (Snd.cast (c' := .seq (cL (cL (cL (cR (cR (bodyOf Go.Proofs.Tryd.f50)))))) (cR (cL (cL (cR (cR (bodyOf Go.Proofs.Tryd.f50))))))) (by kernel_rfl) (Snd.seq (H_cellplaneref06_numbers_4 N Q) (Snd.cast (c' := .seq (cL (cL (cL (cL (cR (cR (bodyOf Go.Proofs.Tryd.f50))))))) (cR (cL (cL (cL (cR (cR (bodyOf Go.Proofs.Tryd.f50)))))))) (by kernel_rfl) (Snd.seq (H_cellplaneref06_numbers_7 N Q) (den_sound okc mixed _ _ _ _ (mpr' (by kernel_rfl) h)) (fun s w h => T_cellplaneref06_numbers_7 N Q s w h))) (fun s w h => T_cellplaneref06_numbers_4 N Q s w h))))) (fun s w h => T_cellplaneref06_numbers_3 N Q s w h)))

noncomputable def H_cellplaneref06_numbers_2 (N : Nat) (Q : Value → World → Prop) : St → World → Prop := fun s w => grabK 82 [.val 1, .loc 2, .val 5] s fun vs ls => match vs, ls with
  | [.int .i64 versions1', .int .i64 k5'], [⟨blk2', e2c'_r, Ty2'⟩] => G_api_Entry.decL e2c'_r fun e2c' => Reb N w s.L fun wa => C_cellplaneref06_numbers_2 N Q versions1' blk2' e2c' Ty2' k5' wa
  | _, _ => False

theorem T_cellplaneref06_numbers_2 (N : Nat) (Q : Value → World → Prop) (s : St) (w : World) (h : H_cellplaneref06_numbers_2 N Q s w) : Snd (cx N (fun d => memN d [2])) (cR (cR (bodyOf Go.Proofs.Tryd.f50))) (retD (cx N (fun d => memN d [2])) Go.Proofs.Tryd.f50 Q) s w := by
  refine Snd.grab h (fun vs ls hd hloc wa hl => ?_)
  split at hd
  · obtain ⟨e2c', rfl, hd0⟩ := G_api_Entry.decL_spec hd
    exact X_cellplaneref06_numbers_2 (hd0 wa hl)
  · exact hd.elim

def C_cellplaneref06_numbers_1 (N : Nat) (Q : Value → World → Prop) (versions1' : Int) (blk2' : Nat) (e2c' : G_api_Entry) (Ty2' : Nat) (w : World) : Prop :=
  Reb N w [⟨blk2', e2c'.cells, Ty2'⟩] fun w59 => C_cellplaneref06_numbers_2 N Q versions1' blk2' e2c' Ty2' e2c'.Kind w59

theorem X_cellplaneref06_numbers_1 {N : Nat} {Q : Value → World → Prop} {versions1' : Int} {blk2' : Nat} {e2c' : G_api_Entry} {Ty2' : Nat} {w : World} (h : C_cellplaneref06_numbers_1 N Q versions1' blk2' e2c' Ty2' w) : Snd (cx N (fun d => memN d [2])) (cR (bodyOf Go.Proofs.Tryd.f50)) (retD (cx N (fun d => memN d [2])) Go.Proofs.Tryd.f50 Q) (mkS 82 [.val 1, .loc 2] [(.int .i64 versions1')] [⟨blk2', e2c'.cells, Ty2'⟩]) w :=
  (Snd.cast (c' := .seq (cL (cR (bodyOf Go.Proofs.Tryd.f50))) (cR (cR (bodyOf Go.Proofs.Tryd.f50)))) (by kernel_rfl) (Snd.seq (H_cellplaneref06_numbers_2 N Q) (den_sound okc mixed _ _ _ _ (mpr' (by kernel_rfl) h)) (fun s w h => T_cellplaneref06_numbers_2 N Q s w h)))

noncomputable def H_cellplaneref06_numbers_1 (N : Nat) (Q : Value → World → Prop) : St → World → Prop := fun s w => grabK 82 [.val 1, .loc 2] s fun vs ls => match vs, ls with
  | [.int .i64 versions1'], [⟨blk2', e2c'_r, Ty2'⟩] => G_api_Entry.decL e2c'_r fun e2c' => Reb N w s.L fun wa => C_cellplaneref06_numbers_1 N Q versions1' blk2' e2c' Ty2' wa
  | _, _ => False

theorem T_cellplaneref06_numbers_1 (N : Nat) (Q : Value → World → Prop) (s : St) (w : World) (h : H_cellplaneref06_numbers_1 N Q s w) : Snd (cx N (fun d => memN d [2])) (cR (bodyOf Go.Proofs.Tryd.f50)) (retD (cx N (fun d => memN d [2])) Go.Proofs.Tryd.f50 Q) s w := by
  refine Snd.grab h (fun vs ls hd hloc wa hl => ?_)
  split at hd
  · obtain ⟨e2c', rfl, hd0⟩ := G_api_Entry.decL_spec hd
    exact X_cellplaneref06_numbers_1 (hd0 wa hl)
  · exact hd.elim

def F_cellplaneref06_numbers (N : Nat) (e0 : G_api_Entry) (versions1 : Int) (Q : Value → World → Prop) (w : World) : Prop :=
  ∀ b60 : Nat, w.heap.size ≤ b60 → Reb N w [⟨b60, e0.cells, t_api_Entry⟩] fun w61 => C_cellplaneref06_numbers_1 N Q versions1 b60 e0 t_api_Entry w61

theorem cellplaneref06_numbers_snd (N : Nat) (e0 : G_api_Entry) (versions1 : Int) (Q : Value → World → Prop) (w : World) (h : F_cellplaneref06_numbers N e0 versions1 Q w) : Snd (cx N (fun d => memN d [2])) (bodyOf Go.Proofs.Tryd.f50) (retD (cx N (fun d => memN d [2])) Go.Proofs.Tryd.f50 Q) (entry 82 [(.agg (List.toArray e0.cells)), (.int .i64 versions1)]) w :=
  (Snd.cast (c' := .seq (cL (bodyOf Go.Proofs.Tryd.f50)) (cR (bodyOf Go.Proofs.Tryd.f50))) (by kernel_rfl) (Snd.seq (H_cellplaneref06_numbers_1 N Q) (den_sound okc mixed _ _ _ _ (mpr' (by kernel_rfl) h)) (fun s w h => T_cellplaneref06_numbers_1 N Q s w h)))

theorem cellplaneref06_numbers_calls (e0 : G_api_Entry) (versions1 : Int) (Q : Value → World → Prop) (w : World) (h : F_cellplaneref06_numbers w.heap.size e0 versions1 Q w) : Calls PP n_cellplaneref06_numbers [(.agg (List.toArray e0.cells)), (.int .i64 versions1)].toArray w fun e w' => ∃ v, e = .returned v ∧ Q v w' :=
  calls_of (C := cx w.heap.size (fun d => memN d [2])) (fn := Go.Proofs.Tryd.f50) (c := (bodyOf Go.Proofs.Tryd.f50)) (by kernel_rfl) (by kernel_rfl) (Nat.le_refl _) (cellplaneref06_numbers_snd _ e0 versions1 Q w h)

/-! ### cellplaneref06_in -/
def F_cellplaneref06_in (N : Nat) (n0 : Int) (low1 : Int) (high2 : Int) (Q : Value → World → Prop) (w : World) : Prop :=
  IfB (decide ((low1 : Int) ≤ n0)) (Reb N w [] (Q (.bool (decide ((n0 : Int) ≤ high2))))) (Reb N w [] (Q (.bool false)))

theorem cellplaneref06_in_snd (N : Nat) (n0 : Int) (low1 : Int) (high2 : Int) (Q : Value → World → Prop) (w : World) (h : F_cellplaneref06_in N n0 low1 high2 Q w) : Snd (cx N (fun d => memN d [])) (bodyOf Go.Proofs.Tryd.f48) (retD (cx N (fun d => memN d [])) Go.Proofs.Tryd.f48 Q) (entry 15 [(.int .i64 n0), (.int .i64 low1), (.int .i64 high2)]) w :=
  (den_sound okc mixed _ _ _ _ (mpr' (by kernel_rfl) h))

theorem cellplaneref06_in_calls (n0 : Int) (low1 : Int) (high2 : Int) (Q : Value → World → Prop) (w : World) (h : F_cellplaneref06_in w.heap.size n0 low1 high2 Q w) : Calls PP n_cellplaneref06_in [(.int .i64 n0), (.int .i64 low1), (.int .i64 high2)].toArray w fun e w' => ∃ v, e = .returned v ∧ Q v w' :=
  calls_of (C := cx w.heap.size (fun d => memN d [])) (fn := Go.Proofs.Tryd.f48) (c := (bodyOf Go.Proofs.Tryd.f48)) (by kernel_rfl) (by kernel_rfl) (Nat.le_refl _) (cellplaneref06_in_snd _ n0 low1 high2 Q w h)
end Go.Sh
