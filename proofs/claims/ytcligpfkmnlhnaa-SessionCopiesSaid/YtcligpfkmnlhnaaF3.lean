/- What these functions do, told by computation: a formula for each, and that its calls do what the formula says.
   Conditions: none. -/
import Derived.Test.YtcligpfkmnlhnaaBase
namespace Go.Sh
open Go
set_option linter.unusedVariables false
set_option maxRecDepth 100000

/-! ### cellplanelaw26_SessionCopies -/
noncomputable def k_cellplanelaw26_SessionCopies_0 : Code := (cR (cR (cR (cR (bodyOf Go.Proofs.Try.f8)))))

noncomputable def k_cellplanelaw26_SessionCopies_1 : Code := (cR (cR k_cellplanelaw26_SessionCopies_0))

noncomputable def k_cellplanelaw26_SessionCopies_2 : Code := (cR (cR k_cellplanelaw26_SessionCopies_1))

def C_cellplanelaw26_SessionCopies_9 (N : Nat) (Q : Value → World → Prop) (blk5' : Nat) (x5c' : G_api_Change) (Ty5' : Nat) (a7' v13' c19' : Option Addr) (u20' : Addr) (w : World) : Prop :=
  IfB c19'.isNone (Reb N w [⟨blk5', x5c'.cells, Ty5'⟩] (Q (.bool false))) (CallL PP N w [⟨blk5', x5c'.cells, Ty5'⟩] n_session_Same [(.pointer a7'), (.pointer c19')] fun r2 w3 => ∃ b1 : Bool, r2 = (.bool b1) ∧ IfB (!b1) (Reb N w3 [⟨blk5', x5c'.cells, Ty5'⟩] (Q (.bool false))) (CallL PP N w3 [⟨blk5', x5c'.cells, Ty5'⟩] n_session_Table_Apply [(.pointer c19'), (.agg (List.toArray x5c'.cells))] fun r5 w6 => ∃ n4 : Int, r5 = (.int .i64 n4) ∧ CallL PP N w6 [⟨blk5', x5c'.cells, Ty5'⟩] n_cellplaneref26_Table_Apply [(.pointer (some u20')), (.agg (List.toArray x5c'.cells))] fun r8 w9 => ∃ n7 : Int, r8 = (.int .i64 n7) ∧ IfB (!decide ((n4 : Int) = n7)) (Reb N w9 [⟨blk5', x5c'.cells, Ty5'⟩] (Q (.bool false))) (CallL PP N w9 [⟨blk5', x5c'.cells, Ty5'⟩] n_session_Same [(.pointer a7'), (.pointer c19')] fun r11 w12 => ∃ b10 : Bool, r11 = (.bool b10) ∧ CallL PP N w12 [⟨blk5', x5c'.cells, Ty5'⟩] n_cellplaneref26_Same [(.pointer v13'), (.pointer (some u20'))] fun r14 w15 => ∃ b13 : Bool, r14 = (.bool b13) ∧ IfB (b10 == b13) (CallL PP N w15 [⟨blk5', x5c'.cells, Ty5'⟩] n_cellplanelaw26_same [(.pointer a7'), (.pointer v13'), (.int .i64 x5c'.Client), (.int .i64 x5c'.Number)] fun r17 w18 => ∃ b16 : Bool, r17 = (.bool b16) ∧ IfB b16 (CallL PP N w18 [⟨blk5', x5c'.cells, Ty5'⟩] n_cellplanelaw26_same [(.pointer c19'), (.pointer (some u20')), (.int .i64 x5c'.Client), (.int .i64 x5c'.Number)] fun r20 w21 => ∃ b19 : Bool, r20 = (.bool b19) ∧ Reb N w21 [⟨blk5', x5c'.cells, Ty5'⟩] (Q (.bool b19))) (Reb N w18 [⟨blk5', x5c'.cells, Ty5'⟩] (Q (.bool false)))) (Reb N w15 [⟨blk5', x5c'.cells, Ty5'⟩] (Q (.bool false))))))

theorem X_cellplanelaw26_SessionCopies_9 {N : Nat} {Q : Value → World → Prop} {blk5' : Nat} {x5c' : G_api_Change} {Ty5' : Nat} {a7' v13' c19' : Option Addr} {u20' : Addr} {w : World} (h : C_cellplanelaw26_SessionCopies_9 N Q blk5' x5c' Ty5' a7' v13' c19' u20' w) : Snd (cx N (fun d => memN d [5])) (cR k_cellplanelaw26_SessionCopies_2) (retD (cx N (fun d => memN d [5])) Go.Proofs.Try.f8 Q) (mkS 123 [.loc 5, .val 7, .val 13, .val 19, .val 20] [(.pointer a7'), (.pointer v13'), (.pointer c19'), (.pointer (some u20'))] [⟨blk5', x5c'.cells, Ty5'⟩]) w :=
  (den_sound okc mixed _ _ _ _ (mpr' (by kernel_rfl) h))

noncomputable def H_cellplanelaw26_SessionCopies_9 (N : Nat) (Q : Value → World → Prop) : St → World → Prop := fun s w => grabK 123 [.loc 5, .val 7, .val 13, .val 19, .val 20] s fun vs ls => match vs, ls with
  | [.pointer a7', .pointer v13', .pointer c19', .pointer (some u20')], [⟨blk5', x5c'_r, Ty5'⟩] => G_api_Change.decL x5c'_r fun x5c' => Reb N w s.L fun wa => C_cellplanelaw26_SessionCopies_9 N Q blk5' x5c' Ty5' a7' v13' c19' u20' wa
  | _, _ => False

theorem T_cellplanelaw26_SessionCopies_9 (N : Nat) (Q : Value → World → Prop) (s : St) (w : World) (h : H_cellplanelaw26_SessionCopies_9 N Q s w) : Snd (cx N (fun d => memN d [5])) (cR k_cellplanelaw26_SessionCopies_2) (retD (cx N (fun d => memN d [5])) Go.Proofs.Try.f8 Q) s w := by
  refine Snd.grab h (fun vs ls hd hloc wa hl => ?_)
  split at hd
  · obtain ⟨x5c', rfl, hd0⟩ := G_api_Change.decL_spec hd
    exact X_cellplanelaw26_SessionCopies_9 (hd0 wa hl)
  · exact hd.elim

def C_cellplanelaw26_SessionCopies_8 (N : Nat) (Q : Value → World → Prop) (blk5' : Nat) (x5c' : G_api_Change) (Ty5' : Nat) (a7' v13' : Option Addr) (w : World) : Prop :=
  NilL v13' fun q22 => ∃ cs23 : List Value, cs23.length = 40 ∧ At w q22 cs23 ∧ NotIn (q22 : Addr).block [⟨blk5', x5c'.cells, Ty5'⟩] ∧ (CallL PP N w [⟨blk5', x5c'.cells, Ty5'⟩] n_session_Table_Copy [(.pointer a7')] fun r25 w26 => ∃ p24 : Option Addr, r25 = (.pointer p24) ∧ At w26 q22 cs23 ∧ NewL N w26 [⟨blk5', x5c'.cells, Ty5'⟩] Z_cellplaneref26_Table t_cellplaneref26_Table fun b27 w28 => (cs23).length = 40 ∧ allOne cs23 = true ∧ StL w28 [⟨blk5', x5c'.cells, Ty5'⟩] ⟨b27, 0, none⟩ cs23 fun w29 => Reb N w29 [⟨blk5', x5c'.cells, Ty5'⟩] fun w30 => C_cellplanelaw26_SessionCopies_9 N Q blk5' x5c' Ty5' a7' v13' p24 ⟨b27, 0, none⟩ w30) ∧ (NewL N w [⟨blk5', x5c'.cells, Ty5'⟩] Z_cellplaneref26_Table t_cellplaneref26_Table fun b31 w32 => CallL PP N w32 [⟨blk5', x5c'.cells, Ty5'⟩] n_session_Table_Copy [(.pointer a7')] fun r34 w35 => ∃ p33 : Option Addr, r34 = (.pointer p33) ∧ At w35 q22 cs23 ∧ (cs23).length = 40 ∧ allOne cs23 = true ∧ StL w35 [⟨blk5', x5c'.cells, Ty5'⟩] ⟨b31, 0, none⟩ cs23 fun w36 => Reb N w36 [⟨blk5', x5c'.cells, Ty5'⟩] fun w37 => C_cellplanelaw26_SessionCopies_9 N Q blk5' x5c' Ty5' a7' v13' p33 ⟨b31, 0, none⟩ w37)

theorem X_cellplanelaw26_SessionCopies_8 {N : Nat} {Q : Value → World → Prop} {blk5' : Nat} {x5c' : G_api_Change} {Ty5' : Nat} {a7' v13' : Option Addr} {w : World} (h : C_cellplanelaw26_SessionCopies_8 N Q blk5' x5c' Ty5' a7' v13' w) : Snd (cx N (fun d => memN d [5])) k_cellplanelaw26_SessionCopies_2 (retD (cx N (fun d => memN d [5])) Go.Proofs.Try.f8 Q) (mkS 123 [.loc 5, .val 7, .val 13] [(.pointer a7'), (.pointer v13')] [⟨blk5', x5c'.cells, Ty5'⟩]) w :=
  (Snd.cast (c' := .seq (cL k_cellplanelaw26_SessionCopies_2) (cR k_cellplanelaw26_SessionCopies_2)) (by kernel_rfl) (Snd.seq (H_cellplanelaw26_SessionCopies_9 N Q) (den_sound okc mixed _ _ _ _ (mpr' (by kernel_rfl) h)) (fun s w h => T_cellplanelaw26_SessionCopies_9 N Q s w h)))

noncomputable def H_cellplanelaw26_SessionCopies_8 (N : Nat) (Q : Value → World → Prop) : St → World → Prop := fun s w => grabK 123 [.loc 5, .val 7, .val 13] s fun vs ls => match vs, ls with
  | [.pointer a7', .pointer v13'], [⟨blk5', x5c'_r, Ty5'⟩] => G_api_Change.decL x5c'_r fun x5c' => Reb N w s.L fun wa => C_cellplanelaw26_SessionCopies_8 N Q blk5' x5c' Ty5' a7' v13' wa
  | _, _ => False

theorem T_cellplanelaw26_SessionCopies_8 (N : Nat) (Q : Value → World → Prop) (s : St) (w : World) (h : H_cellplanelaw26_SessionCopies_8 N Q s w) : Snd (cx N (fun d => memN d [5])) k_cellplanelaw26_SessionCopies_2 (retD (cx N (fun d => memN d [5])) Go.Proofs.Try.f8 Q) s w := by
  refine Snd.grab h (fun vs ls hd hloc wa hl => ?_)
  split at hd
  · obtain ⟨x5c', rfl, hd0⟩ := G_api_Change.decL_spec hd
    exact X_cellplanelaw26_SessionCopies_8 (hd0 wa hl)
  · exact hd.elim

def C_cellplanelaw26_SessionCopies_7 (N : Nat) (Q : Value → World → Prop) (blk5' : Nat) (x5c' : G_api_Change) (Ty5' : Nat) (a7' b10' v13' w16' : Option Addr) (w : World) : Prop :=
  IfB a7'.isNone (Reb N w [⟨blk5', x5c'.cells, Ty5'⟩] (Q (.bool false))) (IfB b10'.isNone (Reb N w [⟨blk5', x5c'.cells, Ty5'⟩] (Q (.bool false))) (CallL PP N w [⟨blk5', x5c'.cells, Ty5'⟩] n_session_Same [(.pointer a7'), (.pointer b10')] fun r39 w40 => ∃ b38 : Bool, r39 = (.bool b38) ∧ CallL PP N w40 [⟨blk5', x5c'.cells, Ty5'⟩] n_cellplaneref26_Same [(.pointer v13'), (.pointer w16')] fun r42 w43 => ∃ b41 : Bool, r42 = (.bool b41) ∧ IfB (!(b38 == b41)) (Reb N w43 [⟨blk5', x5c'.cells, Ty5'⟩] (Q (.bool false))) (Reb N w43 [⟨blk5', x5c'.cells, Ty5'⟩] fun w44 => C_cellplanelaw26_SessionCopies_8 N Q blk5' x5c' Ty5' a7' v13' w44)))

theorem X_cellplanelaw26_SessionCopies_7 {N : Nat} {Q : Value → World → Prop} {blk5' : Nat} {x5c' : G_api_Change} {Ty5' : Nat} {a7' b10' v13' w16' : Option Addr} {w : World} (h : C_cellplanelaw26_SessionCopies_7 N Q blk5' x5c' Ty5' a7' b10' v13' w16' w) : Snd (cx N (fun d => memN d [5])) (cR k_cellplanelaw26_SessionCopies_1) (retD (cx N (fun d => memN d [5])) Go.Proofs.Try.f8 Q) (mkS 123 [.loc 5, .val 7, .val 10, .val 13, .val 16] [(.pointer a7'), (.pointer b10'), (.pointer v13'), (.pointer w16')] [⟨blk5', x5c'.cells, Ty5'⟩]) w :=
  (Snd.cast (c' := .seq (cL (cR k_cellplanelaw26_SessionCopies_1)) (cR (cR k_cellplanelaw26_SessionCopies_1))) (by kernel_rfl) (Snd.seq (H_cellplanelaw26_SessionCopies_8 N Q) (den_sound okc mixed _ _ _ _ (mpr' (by kernel_rfl) h)) (fun s w h => T_cellplanelaw26_SessionCopies_8 N Q s w h)))

noncomputable def H_cellplanelaw26_SessionCopies_7 (N : Nat) (Q : Value → World → Prop) : St → World → Prop := fun s w => grabK 123 [.loc 5, .val 7, .val 10, .val 13, .val 16] s fun vs ls => match vs, ls with
  | [.pointer a7', .pointer b10', .pointer v13', .pointer w16'], [⟨blk5', x5c'_r, Ty5'⟩] => G_api_Change.decL x5c'_r fun x5c' => Reb N w s.L fun wa => C_cellplanelaw26_SessionCopies_7 N Q blk5' x5c' Ty5' a7' b10' v13' w16' wa
  | _, _ => False

theorem T_cellplanelaw26_SessionCopies_7 (N : Nat) (Q : Value → World → Prop) (s : St) (w : World) (h : H_cellplanelaw26_SessionCopies_7 N Q s w) : Snd (cx N (fun d => memN d [5])) (cR k_cellplanelaw26_SessionCopies_1) (retD (cx N (fun d => memN d [5])) Go.Proofs.Try.f8 Q) s w := by
  refine Snd.grab h (fun vs ls hd hloc wa hl => ?_)
  split at hd
  · obtain ⟨x5c', rfl, hd0⟩ := G_api_Change.decL_spec hd
    exact X_cellplanelaw26_SessionCopies_7 (hd0 wa hl)
  · exact hd.elim

def C_cellplanelaw26_SessionCopies_6 (N : Nat) (Q : Value → World → Prop) (m1' : Sl) (blk5' : Nat) (x5c' : G_api_Change) (Ty5' : Nat) (a7' b10' v13' : Option Addr) (w : World) : Prop :=
  CallL PP N w [⟨blk5', x5c'.cells, Ty5'⟩] n_cellplanemill_History [(.slice m1'.a m1'.n m1'.c)] fun r46 w47 => ∃ l45 : Sl, r46 = (.slice l45.a l45.n l45.c) ∧ CallL PP N w47 [⟨blk5', x5c'.cells, Ty5'⟩] n_cellplaneref26_Fold [(.slice l45.a l45.n l45.c)] fun r51 w52 => ∃ p48 : Option Addr, ∃ n49 : Int, ∃ n50 : Int, r51 = (.tuple #[(.pointer p48), (.int .i64 n49), (.int .i64 n50)]) ∧ Reb N w52 [⟨blk5', x5c'.cells, Ty5'⟩] fun w53 => C_cellplanelaw26_SessionCopies_7 N Q blk5' x5c' Ty5' a7' b10' v13' p48 w53

theorem X_cellplanelaw26_SessionCopies_6 {N : Nat} {Q : Value → World → Prop} {m1' : Sl} {blk5' : Nat} {x5c' : G_api_Change} {Ty5' : Nat} {a7' b10' v13' : Option Addr} {w : World} (h : C_cellplanelaw26_SessionCopies_6 N Q m1' blk5' x5c' Ty5' a7' b10' v13' w) : Snd (cx N (fun d => memN d [5])) k_cellplanelaw26_SessionCopies_1 (retD (cx N (fun d => memN d [5])) Go.Proofs.Try.f8 Q) (mkS 123 [.val 1, .loc 5, .val 7, .val 10, .val 13] [(.slice m1'.a m1'.n m1'.c), (.pointer a7'), (.pointer b10'), (.pointer v13')] [⟨blk5', x5c'.cells, Ty5'⟩]) w :=
  (Snd.cast (c' := .seq (cL k_cellplanelaw26_SessionCopies_1) (cR k_cellplanelaw26_SessionCopies_1)) (by kernel_rfl) (Snd.seq (H_cellplanelaw26_SessionCopies_7 N Q) (den_sound okc mixed _ _ _ _ (mpr' (by kernel_rfl) h)) (fun s w h => T_cellplanelaw26_SessionCopies_7 N Q s w h)))

noncomputable def H_cellplanelaw26_SessionCopies_6 (N : Nat) (Q : Value → World → Prop) : St → World → Prop := fun s w => grabK 123 [.val 1, .loc 5, .val 7, .val 10, .val 13] s fun vs ls => match vs, ls with
  | [.slice m1'_a m1'_n m1'_c, .pointer a7', .pointer b10', .pointer v13'], [⟨blk5', x5c'_r, Ty5'⟩] => G_api_Change.decL x5c'_r fun x5c' => Reb N w s.L fun wa => C_cellplanelaw26_SessionCopies_6 N Q ⟨m1'_a, m1'_n, m1'_c⟩ blk5' x5c' Ty5' a7' b10' v13' wa
  | _, _ => False

theorem T_cellplanelaw26_SessionCopies_6 (N : Nat) (Q : Value → World → Prop) (s : St) (w : World) (h : H_cellplanelaw26_SessionCopies_6 N Q s w) : Snd (cx N (fun d => memN d [5])) k_cellplanelaw26_SessionCopies_1 (retD (cx N (fun d => memN d [5])) Go.Proofs.Try.f8 Q) s w := by
  refine Snd.grab h (fun vs ls hd hloc wa hl => ?_)
  split at hd
  · obtain ⟨x5c', rfl, hd0⟩ := G_api_Change.decL_spec hd
    exact X_cellplanelaw26_SessionCopies_6 (hd0 wa hl)
  · exact hd.elim

def C_cellplanelaw26_SessionCopies_5 (N : Nat) (Q : Value → World → Prop) (l0' m1' : Sl) (blk5' : Nat) (x5c' : G_api_Change) (Ty5' : Nat) (a7' b10' : Option Addr) (w : World) : Prop :=
  CallL PP N w [⟨blk5', x5c'.cells, Ty5'⟩] n_cellplanemill_History [(.slice l0'.a l0'.n l0'.c)] fun r55 w56 => ∃ l54 : Sl, r55 = (.slice l54.a l54.n l54.c) ∧ CallL PP N w56 [⟨blk5', x5c'.cells, Ty5'⟩] n_cellplaneref26_Fold [(.slice l54.a l54.n l54.c)] fun r60 w61 => ∃ p57 : Option Addr, ∃ n58 : Int, ∃ n59 : Int, r60 = (.tuple #[(.pointer p57), (.int .i64 n58), (.int .i64 n59)]) ∧ Reb N w61 [⟨blk5', x5c'.cells, Ty5'⟩] fun w62 => C_cellplanelaw26_SessionCopies_6 N Q m1' blk5' x5c' Ty5' a7' b10' p57 w62

theorem X_cellplanelaw26_SessionCopies_5 {N : Nat} {Q : Value → World → Prop} {l0' m1' : Sl} {blk5' : Nat} {x5c' : G_api_Change} {Ty5' : Nat} {a7' b10' : Option Addr} {w : World} (h : C_cellplanelaw26_SessionCopies_5 N Q l0' m1' blk5' x5c' Ty5' a7' b10' w) : Snd (cx N (fun d => memN d [5])) (cR k_cellplanelaw26_SessionCopies_0) (retD (cx N (fun d => memN d [5])) Go.Proofs.Try.f8 Q) (mkS 123 [.val 0, .val 1, .loc 5, .val 7, .val 10] [(.slice l0'.a l0'.n l0'.c), (.slice m1'.a m1'.n m1'.c), (.pointer a7'), (.pointer b10')] [⟨blk5', x5c'.cells, Ty5'⟩]) w :=
  (Snd.cast (c' := .seq (cL (cR k_cellplanelaw26_SessionCopies_0)) (cR (cR k_cellplanelaw26_SessionCopies_0))) (by kernel_rfl) (Snd.seq (H_cellplanelaw26_SessionCopies_6 N Q) (den_sound okc mixed _ _ _ _ (mpr' (by kernel_rfl) h)) (fun s w h => T_cellplanelaw26_SessionCopies_6 N Q s w h)))

noncomputable def H_cellplanelaw26_SessionCopies_5 (N : Nat) (Q : Value → World → Prop) : St → World → Prop := fun s w => grabK 123 [.val 0, .val 1, .loc 5, .val 7, .val 10] s fun vs ls => match vs, ls with
  | [.slice l0'_a l0'_n l0'_c, .slice m1'_a m1'_n m1'_c, .pointer a7', .pointer b10'], [⟨blk5', x5c'_r, Ty5'⟩] => G_api_Change.decL x5c'_r fun x5c' => Reb N w s.L fun wa => C_cellplanelaw26_SessionCopies_5 N Q ⟨l0'_a, l0'_n, l0'_c⟩ ⟨m1'_a, m1'_n, m1'_c⟩ blk5' x5c' Ty5' a7' b10' wa
  | _, _ => False

theorem T_cellplanelaw26_SessionCopies_5 (N : Nat) (Q : Value → World → Prop) (s : St) (w : World) (h : H_cellplanelaw26_SessionCopies_5 N Q s w) : Snd (cx N (fun d => memN d [5])) (cR k_cellplanelaw26_SessionCopies_0) (retD (cx N (fun d => memN d [5])) Go.Proofs.Try.f8 Q) s w := by
  refine Snd.grab h (fun vs ls hd hloc wa hl => ?_)
  split at hd
  · obtain ⟨x5c', rfl, hd0⟩ := G_api_Change.decL_spec hd
    exact X_cellplanelaw26_SessionCopies_5 (hd0 wa hl)
  · exact hd.elim

def C_cellplanelaw26_SessionCopies_4 (N : Nat) (Q : Value → World → Prop) (l0' m1' : Sl) (blk5' : Nat) (x5c' : G_api_Change) (Ty5' : Nat) (a7' : Option Addr) (w : World) : Prop :=
  CallL PP N w [⟨blk5', x5c'.cells, Ty5'⟩] n_cellplanemill_History [(.slice m1'.a m1'.n m1'.c)] fun r64 w65 => ∃ l63 : Sl, r64 = (.slice l63.a l63.n l63.c) ∧ CallL PP N w65 [⟨blk5', x5c'.cells, Ty5'⟩] n_session_Fold [(.slice l63.a l63.n l63.c)] fun r69 w70 => ∃ p66 : Option Addr, ∃ n67 : Int, ∃ n68 : Int, r69 = (.tuple #[(.pointer p66), (.int .i64 n67), (.int .i64 n68)]) ∧ Reb N w70 [⟨blk5', x5c'.cells, Ty5'⟩] fun w71 => C_cellplanelaw26_SessionCopies_5 N Q l0' m1' blk5' x5c' Ty5' a7' p66 w71

theorem X_cellplanelaw26_SessionCopies_4 {N : Nat} {Q : Value → World → Prop} {l0' m1' : Sl} {blk5' : Nat} {x5c' : G_api_Change} {Ty5' : Nat} {a7' : Option Addr} {w : World} (h : C_cellplanelaw26_SessionCopies_4 N Q l0' m1' blk5' x5c' Ty5' a7' w) : Snd (cx N (fun d => memN d [5])) k_cellplanelaw26_SessionCopies_0 (retD (cx N (fun d => memN d [5])) Go.Proofs.Try.f8 Q) (mkS 123 [.val 0, .val 1, .loc 5, .val 7] [(.slice l0'.a l0'.n l0'.c), (.slice m1'.a m1'.n m1'.c), (.pointer a7')] [⟨blk5', x5c'.cells, Ty5'⟩]) w :=
  (Snd.cast (c' := .seq (cL k_cellplanelaw26_SessionCopies_0) (cR k_cellplanelaw26_SessionCopies_0)) (by kernel_rfl) (Snd.seq (H_cellplanelaw26_SessionCopies_5 N Q) (den_sound okc mixed _ _ _ _ (mpr' (by kernel_rfl) h)) (fun s w h => T_cellplanelaw26_SessionCopies_5 N Q s w h)))

noncomputable def H_cellplanelaw26_SessionCopies_4 (N : Nat) (Q : Value → World → Prop) : St → World → Prop := fun s w => grabK 123 [.val 0, .val 1, .loc 5, .val 7] s fun vs ls => match vs, ls with
  | [.slice l0'_a l0'_n l0'_c, .slice m1'_a m1'_n m1'_c, .pointer a7'], [⟨blk5', x5c'_r, Ty5'⟩] => G_api_Change.decL x5c'_r fun x5c' => Reb N w s.L fun wa => C_cellplanelaw26_SessionCopies_4 N Q ⟨l0'_a, l0'_n, l0'_c⟩ ⟨m1'_a, m1'_n, m1'_c⟩ blk5' x5c' Ty5' a7' wa
  | _, _ => False

theorem T_cellplanelaw26_SessionCopies_4 (N : Nat) (Q : Value → World → Prop) (s : St) (w : World) (h : H_cellplanelaw26_SessionCopies_4 N Q s w) : Snd (cx N (fun d => memN d [5])) k_cellplanelaw26_SessionCopies_0 (retD (cx N (fun d => memN d [5])) Go.Proofs.Try.f8 Q) s w := by
  refine Snd.grab h (fun vs ls hd hloc wa hl => ?_)
  split at hd
  · obtain ⟨x5c', rfl, hd0⟩ := G_api_Change.decL_spec hd
    exact X_cellplanelaw26_SessionCopies_4 (hd0 wa hl)
  · exact hd.elim

def C_cellplanelaw26_SessionCopies_3 (N : Nat) (Q : Value → World → Prop) (l0' m1' : Sl) (blk5' : Nat) (x5c' : G_api_Change) (Ty5' : Nat) (w : World) : Prop :=
  CallL PP N w [⟨blk5', x5c'.cells, Ty5'⟩] n_cellplanemill_History [(.slice l0'.a l0'.n l0'.c)] fun r73 w74 => ∃ l72 : Sl, r73 = (.slice l72.a l72.n l72.c) ∧ CallL PP N w74 [⟨blk5', x5c'.cells, Ty5'⟩] n_session_Fold [(.slice l72.a l72.n l72.c)] fun r78 w79 => ∃ p75 : Option Addr, ∃ n76 : Int, ∃ n77 : Int, r78 = (.tuple #[(.pointer p75), (.int .i64 n76), (.int .i64 n77)]) ∧ Reb N w79 [⟨blk5', x5c'.cells, Ty5'⟩] fun w80 => C_cellplanelaw26_SessionCopies_4 N Q l0' m1' blk5' x5c' Ty5' p75 w80

theorem X_cellplanelaw26_SessionCopies_3 {N : Nat} {Q : Value → World → Prop} {l0' m1' : Sl} {blk5' : Nat} {x5c' : G_api_Change} {Ty5' : Nat} {w : World} (h : C_cellplanelaw26_SessionCopies_3 N Q l0' m1' blk5' x5c' Ty5' w) : Snd (cx N (fun d => memN d [5])) (cR (cR (cR (bodyOf Go.Proofs.Try.f8)))) (retD (cx N (fun d => memN d [5])) Go.Proofs.Try.f8 Q) (mkS 123 [.val 0, .val 1, .loc 5] [(.slice l0'.a l0'.n l0'.c), (.slice m1'.a m1'.n m1'.c)] [⟨blk5', x5c'.cells, Ty5'⟩]) w :=
  (Snd.cast (c' := .seq (cL (cR (cR (cR (bodyOf Go.Proofs.Try.f8))))) (cR (cR (cR (cR (bodyOf Go.Proofs.Try.f8)))))) (by kernel_rfl) (Snd.seq (H_cellplanelaw26_SessionCopies_4 N Q) (den_sound okc mixed _ _ _ _ (mpr' (by kernel_rfl) h)) (fun s w h => T_cellplanelaw26_SessionCopies_4 N Q s w h)))

noncomputable def H_cellplanelaw26_SessionCopies_3 (N : Nat) (Q : Value → World → Prop) : St → World → Prop := fun s w => grabK 123 [.val 0, .val 1, .loc 5] s fun vs ls => match vs, ls with
  | [.slice l0'_a l0'_n l0'_c, .slice m1'_a m1'_n m1'_c], [⟨blk5', x5c'_r, Ty5'⟩] => G_api_Change.decL x5c'_r fun x5c' => Reb N w s.L fun wa => C_cellplanelaw26_SessionCopies_3 N Q ⟨l0'_a, l0'_n, l0'_c⟩ ⟨m1'_a, m1'_n, m1'_c⟩ blk5' x5c' Ty5' wa
  | _, _ => False

theorem T_cellplanelaw26_SessionCopies_3 (N : Nat) (Q : Value → World → Prop) (s : St) (w : World) (h : H_cellplanelaw26_SessionCopies_3 N Q s w) : Snd (cx N (fun d => memN d [5])) (cR (cR (cR (bodyOf Go.Proofs.Try.f8)))) (retD (cx N (fun d => memN d [5])) Go.Proofs.Try.f8 Q) s w := by
  refine Snd.grab h (fun vs ls hd hloc wa hl => ?_)
  split at hd
  · obtain ⟨x5c', rfl, hd0⟩ := G_api_Change.decL_spec hd
    exact X_cellplanelaw26_SessionCopies_3 (hd0 wa hl)
  · exact hd.elim

def C_cellplanelaw26_SessionCopies_2 (N : Nat) (Q : Value → World → Prop) (l0' m1' : Sl) (blk5' : Nat) (x5c' : G_api_Change) (Ty5' : Nat) (w : World) : Prop :=
  CallL PP N w [⟨blk5', x5c'.cells, Ty5'⟩] n_cellplanemill_Light [(.slice l0'.a l0'.n l0'.c)] fun r82 w83 => ∃ b81 : Bool, r82 = (.bool b81) ∧ IfB (!b81) (Reb N w83 [⟨blk5', x5c'.cells, Ty5'⟩] (Q (.bool true))) (CallL PP N w83 [⟨blk5', x5c'.cells, Ty5'⟩] n_cellplanemill_Light [(.slice m1'.a m1'.n m1'.c)] fun r85 w86 => ∃ b84 : Bool, r85 = (.bool b84) ∧ IfB (!b84) (Reb N w86 [⟨blk5', x5c'.cells, Ty5'⟩] (Q (.bool true))) (CallL PP N w86 [⟨blk5', x5c'.cells, Ty5'⟩] n_cellplanemill_Short [(.agg (List.toArray x5c'.cells))] fun r88 w89 => ∃ b87 : Bool, r88 = (.bool b87) ∧ IfB (!b87) (Reb N w89 [⟨blk5', x5c'.cells, Ty5'⟩] (Q (.bool true))) (Reb N w89 [⟨blk5', x5c'.cells, Ty5'⟩] fun w90 => C_cellplanelaw26_SessionCopies_3 N Q l0' m1' blk5' x5c' Ty5' w90)))

theorem X_cellplanelaw26_SessionCopies_2 {N : Nat} {Q : Value → World → Prop} {l0' m1' : Sl} {blk5' : Nat} {x5c' : G_api_Change} {Ty5' : Nat} {w : World} (h : C_cellplanelaw26_SessionCopies_2 N Q l0' m1' blk5' x5c' Ty5' w) : Snd (cx N (fun d => memN d [5])) (cR (cR (bodyOf Go.Proofs.Try.f8))) (retD (cx N (fun d => memN d [5])) Go.Proofs.Try.f8 Q) (mkS 123 [.val 0, .val 1, .loc 5] [(.slice l0'.a l0'.n l0'.c), (.slice m1'.a m1'.n m1'.c)] [⟨blk5', x5c'.cells, Ty5'⟩]) w :=
  (Snd.cast (c' := .seq (cL (cR (cR (bodyOf Go.Proofs.Try.f8)))) (cR (cR (cR (bodyOf Go.Proofs.Try.f8))))) (by kernel_rfl) (Snd.seq (H_cellplanelaw26_SessionCopies_3 N Q) (den_sound okc mixed _ _ _ _ (mpr' (by kernel_rfl) h)) (fun s w h => T_cellplanelaw26_SessionCopies_3 N Q s w h)))

noncomputable def H_cellplanelaw26_SessionCopies_2 (N : Nat) (Q : Value → World → Prop) : St → World → Prop := fun s w => grabK 123 [.val 0, .val 1, .loc 5] s fun vs ls => match vs, ls with
  | [.slice l0'_a l0'_n l0'_c, .slice m1'_a m1'_n m1'_c], [⟨blk5', x5c'_r, Ty5'⟩] => G_api_Change.decL x5c'_r fun x5c' => Reb N w s.L fun wa => C_cellplanelaw26_SessionCopies_2 N Q ⟨l0'_a, l0'_n, l0'_c⟩ ⟨m1'_a, m1'_n, m1'_c⟩ blk5' x5c' Ty5' wa
  | _, _ => False

theorem T_cellplanelaw26_SessionCopies_2 (N : Nat) (Q : Value → World → Prop) (s : St) (w : World) (h : H_cellplanelaw26_SessionCopies_2 N Q s w) : Snd (cx N (fun d => memN d [5])) (cR (cR (bodyOf Go.Proofs.Try.f8))) (retD (cx N (fun d => memN d [5])) Go.Proofs.Try.f8 Q) s w := by
  refine Snd.grab h (fun vs ls hd hloc wa hl => ?_)
  split at hd
  · obtain ⟨x5c', rfl, hd0⟩ := G_api_Change.decL_spec hd
    exact X_cellplanelaw26_SessionCopies_2 (hd0 wa hl)
  · exact hd.elim

def C_cellplanelaw26_SessionCopies_1 (N : Nat) (Q : Value → World → Prop) (l0' m1' : Sl) (blk5' : Nat) (x5c' : G_api_Change) (Ty5' : Nat) (w : World) : Prop :=
  CallL PP N w [⟨blk5', x5c'.cells, Ty5'⟩] n_cellplanelaw26_awake [] fun r92 w93 => ∃ b91 : Bool, r92 = (.bool b91) ∧ IfB (!b91) (Reb N w93 [⟨blk5', x5c'.cells, Ty5'⟩] (Q (.bool false))) (Reb N w93 [⟨blk5', x5c'.cells, Ty5'⟩] fun w94 => C_cellplanelaw26_SessionCopies_2 N Q l0' m1' blk5' x5c' Ty5' w94)

theorem X_cellplanelaw26_SessionCopies_1 {N : Nat} {Q : Value → World → Prop} {l0' m1' : Sl} {blk5' : Nat} {x5c' : G_api_Change} {Ty5' : Nat} {w : World} (h : C_cellplanelaw26_SessionCopies_1 N Q l0' m1' blk5' x5c' Ty5' w) : Snd (cx N (fun d => memN d [5])) (cR (bodyOf Go.Proofs.Try.f8)) (retD (cx N (fun d => memN d [5])) Go.Proofs.Try.f8 Q) (mkS 123 [.val 0, .val 1, .loc 5] [(.slice l0'.a l0'.n l0'.c), (.slice m1'.a m1'.n m1'.c)] [⟨blk5', x5c'.cells, Ty5'⟩]) w :=
  (Snd.cast (c' := .seq (cL (cR (bodyOf Go.Proofs.Try.f8))) (cR (cR (bodyOf Go.Proofs.Try.f8)))) (by kernel_rfl) (Snd.seq (H_cellplanelaw26_SessionCopies_2 N Q) (den_sound okc mixed _ _ _ _ (mpr' (by kernel_rfl) h)) (fun s w h => T_cellplanelaw26_SessionCopies_2 N Q s w h)))

noncomputable def H_cellplanelaw26_SessionCopies_1 (N : Nat) (Q : Value → World → Prop) : St → World → Prop := fun s w => grabK 123 [.val 0, .val 1, .loc 5] s fun vs ls => match vs, ls with
  | [.slice l0'_a l0'_n l0'_c, .slice m1'_a m1'_n m1'_c], [⟨blk5', x5c'_r, Ty5'⟩] => G_api_Change.decL x5c'_r fun x5c' => Reb N w s.L fun wa => C_cellplanelaw26_SessionCopies_1 N Q ⟨l0'_a, l0'_n, l0'_c⟩ ⟨m1'_a, m1'_n, m1'_c⟩ blk5' x5c' Ty5' wa
  | _, _ => False

theorem T_cellplanelaw26_SessionCopies_1 (N : Nat) (Q : Value → World → Prop) (s : St) (w : World) (h : H_cellplanelaw26_SessionCopies_1 N Q s w) : Snd (cx N (fun d => memN d [5])) (cR (bodyOf Go.Proofs.Try.f8)) (retD (cx N (fun d => memN d [5])) Go.Proofs.Try.f8 Q) s w := by
  refine Snd.grab h (fun vs ls hd hloc wa hl => ?_)
  split at hd
  · obtain ⟨x5c', rfl, hd0⟩ := G_api_Change.decL_spec hd
    exact X_cellplanelaw26_SessionCopies_1 (hd0 wa hl)
  · exact hd.elim

def F_cellplanelaw26_SessionCopies (N : Nat) (l0 : Sl) (m1 : Sl) (x2 : G_api_Change) (Q : Value → World → Prop) (w : World) : Prop :=
  ∀ b95 : Nat, w.heap.size ≤ b95 → Reb N w [⟨b95, x2.cells, t_api_Change⟩] fun w96 => C_cellplanelaw26_SessionCopies_1 N Q l0 m1 b95 x2 t_api_Change w96

theorem cellplanelaw26_SessionCopies_snd (N : Nat) (l0 : Sl) (m1 : Sl) (x2 : G_api_Change) (Q : Value → World → Prop) (w : World) (h : F_cellplanelaw26_SessionCopies N l0 m1 x2 Q w) : Snd (cx N (fun d => memN d [5])) (bodyOf Go.Proofs.Try.f8) (retD (cx N (fun d => memN d [5])) Go.Proofs.Try.f8 Q) (entry 123 [(.slice l0.a l0.n l0.c), (.slice m1.a m1.n m1.c), (.agg (List.toArray x2.cells))]) w :=
  (Snd.cast (c' := .seq (cL (bodyOf Go.Proofs.Try.f8)) (cR (bodyOf Go.Proofs.Try.f8))) (by kernel_rfl) (Snd.seq (H_cellplanelaw26_SessionCopies_1 N Q) (den_sound okc mixed _ _ _ _ (mpr' (by kernel_rfl) h)) (fun s w h => T_cellplanelaw26_SessionCopies_1 N Q s w h)))

theorem cellplanelaw26_SessionCopies_calls (l0 : Sl) (m1 : Sl) (x2 : G_api_Change) (Q : Value → World → Prop) (w : World) (h : F_cellplanelaw26_SessionCopies w.heap.size l0 m1 x2 Q w) : Calls PP n_cellplanelaw26_SessionCopies [(.slice l0.a l0.n l0.c), (.slice m1.a m1.n m1.c), (.agg (List.toArray x2.cells))].toArray w fun e w' => ∃ v, e = .returned v ∧ Q v w' :=
  calls_of (C := cx w.heap.size (fun d => memN d [5])) (fn := Go.Proofs.Try.f8) (c := (bodyOf Go.Proofs.Try.f8)) (by kernel_rfl) (by kernel_rfl) (Nat.le_refl _) (cellplanelaw26_SessionCopies_snd _ l0 m1 x2 Q w h)

/-! ### cellplanelaw26_awake -/
def F_cellplanelaw26_awake (N : Nat)  (Q : Value → World → Prop) (w : World) : Prop :=
  CallL PP N w [] n_session_New [] fun r2 w3 => ∃ p1 : Option Addr, r2 = (.pointer p1) ∧ CallL PP N w3 [] n_session_Table_Find [(.pointer p1), (.int .i64 1), (.int .i64 1)] fun r6 w7 => ∃ x4 : G_api_Reply, ∃ n5 : Int, r6 = (.tuple #[(.agg (List.toArray x4.cells)), (.int .i64 n5)]) ∧ ∀ b8 : Nat, w7.heap.size ≤ b8 → CallL PP N w7 [⟨b8, x4.cells, t_api_Reply⟩] n_session_Table_Apply [(.pointer p1), (.agg (List.toArray (⟨1, 4, 3, 1, 1, 0, ByteArray.empty, ByteArray.empty⟩ : G_api_Change).cells))] fun r10 w11 => ∃ n9 : Int, r10 = (.int .i64 n9) ∧ CallL PP N w11 [⟨b8, x4.cells, t_api_Reply⟩] n_session_Table_Find [(.pointer p1), (.int .i64 1), (.int .i64 1)] fun r14 w15 => ∃ x12 : G_api_Reply, ∃ n13 : Int, r14 = (.tuple #[(.agg (List.toArray x12.cells)), (.int .i64 n13)]) ∧ ∀ b16 : Nat, w15.heap.size ≤ b16 → CallL PP N w15 [⟨b8, x4.cells, t_api_Reply⟩, ⟨b16, x12.cells, t_api_Reply⟩] n_session_Table_Find [(.pointer p1), (.int .i64 1), (.int .i64 2)] fun r19 w20 => ∃ x17 : G_api_Reply, ∃ n18 : Int, r19 = (.tuple #[(.agg (List.toArray x17.cells)), (.int .i64 n18)]) ∧ ∀ b21 : Nat, w20.heap.size ≤ b21 → CallL PP N w20 [⟨b8, x4.cells, t_api_Reply⟩, ⟨b16, x12.cells, t_api_Reply⟩, ⟨b21, x17.cells, t_api_Reply⟩] n_session_Table_Find [(.pointer p1), (.int .i64 1), (.int .i64 3)] fun r24 w25 => ∃ x22 : G_api_Reply, ∃ n23 : Int, r24 = (.tuple #[(.agg (List.toArray x22.cells)), (.int .i64 n23)]) ∧ ∀ b26 : Nat, w25.heap.size ≤ b26 → CallL PP N w25 [⟨b8, x4.cells, t_api_Reply⟩, ⟨b16, x12.cells, t_api_Reply⟩, ⟨b21, x17.cells, t_api_Reply⟩, ⟨b26, x22.cells, t_api_Reply⟩] n_session_Table_Find [(.pointer p1), (.int .i64 9), (.int .i64 1)] fun r29 w30 => ∃ x27 : G_api_Reply, ∃ n28 : Int, r29 = (.tuple #[(.agg (List.toArray x27.cells)), (.int .i64 n28)]) ∧ ∀ b31 : Nat, w30.heap.size ≤ b31 → IfB (decide ((n5 : Int) = 34)) (IfB (decide ((n9 : Int) = 0)) (IfB (G_api_Reply.eqb x12 (⟨0, 4, 4, ByteArray.empty⟩ : G_api_Reply)) (IfB (decide ((n13 : Int) = 0)) (IfB (decide ((n18 : Int) = 34)) (IfB (decide ((n23 : Int) = 32)) (Reb N w30 [⟨b8, x4.cells, t_api_Reply⟩, ⟨b16, x12.cells, t_api_Reply⟩, ⟨b21, x17.cells, t_api_Reply⟩, ⟨b26, x22.cells, t_api_Reply⟩, ⟨b31, x27.cells, t_api_Reply⟩] (Q (.bool (decide ((n28 : Int) = 1))))) (Reb N w30 [⟨b8, x4.cells, t_api_Reply⟩, ⟨b16, x12.cells, t_api_Reply⟩, ⟨b21, x17.cells, t_api_Reply⟩, ⟨b26, x22.cells, t_api_Reply⟩, ⟨b31, x27.cells, t_api_Reply⟩] (Q (.bool false)))) (Reb N w30 [⟨b8, x4.cells, t_api_Reply⟩, ⟨b16, x12.cells, t_api_Reply⟩, ⟨b21, x17.cells, t_api_Reply⟩, ⟨b26, x22.cells, t_api_Reply⟩, ⟨b31, x27.cells, t_api_Reply⟩] (Q (.bool false)))) (Reb N w30 [⟨b8, x4.cells, t_api_Reply⟩, ⟨b16, x12.cells, t_api_Reply⟩, ⟨b21, x17.cells, t_api_Reply⟩, ⟨b26, x22.cells, t_api_Reply⟩, ⟨b31, x27.cells, t_api_Reply⟩] (Q (.bool false)))) (Reb N w30 [⟨b8, x4.cells, t_api_Reply⟩, ⟨b16, x12.cells, t_api_Reply⟩, ⟨b21, x17.cells, t_api_Reply⟩, ⟨b26, x22.cells, t_api_Reply⟩, ⟨b31, x27.cells, t_api_Reply⟩] (Q (.bool false)))) (Reb N w30 [⟨b8, x4.cells, t_api_Reply⟩, ⟨b16, x12.cells, t_api_Reply⟩, ⟨b21, x17.cells, t_api_Reply⟩, ⟨b26, x22.cells, t_api_Reply⟩, ⟨b31, x27.cells, t_api_Reply⟩] (Q (.bool false)))) (Reb N w30 [⟨b8, x4.cells, t_api_Reply⟩, ⟨b16, x12.cells, t_api_Reply⟩, ⟨b21, x17.cells, t_api_Reply⟩, ⟨b26, x22.cells, t_api_Reply⟩, ⟨b31, x27.cells, t_api_Reply⟩] (Q (.bool false)))

theorem cellplanelaw26_awake_snd (N : Nat)  (Q : Value → World → Prop) (w : World) (h : F_cellplanelaw26_awake N  Q w) : Snd (cx N (fun d => memN d [2, 5, 7, 9, 11])) (bodyOf Go.Proofs.Try.f9) (retD (cx N (fun d => memN d [2, 5, 7, 9, 11])) Go.Proofs.Try.f9 Q) (entry 69 []) w :=
  (den_sound okc mixed _ _ _ _ (mpr' (by kernel_rfl) h))

theorem cellplanelaw26_awake_calls  (Q : Value → World → Prop) (w : World) (h : F_cellplanelaw26_awake w.heap.size  Q w) : Calls PP n_cellplanelaw26_awake [].toArray w fun e w' => ∃ v, e = .returned v ∧ Q v w' :=
  calls_of (C := cx w.heap.size (fun d => memN d [2, 5, 7, 9, 11])) (fn := Go.Proofs.Try.f9) (c := (bodyOf Go.Proofs.Try.f9)) (by kernel_rfl) (by kernel_rfl) (Nat.le_refl _) (cellplanelaw26_awake_snd _  Q w h)

/-! ### cellplanemill_Light -/
def F_cellplanemill_Light (N : Nat) (l0 : Sl) (Q : Value → World → Prop) (w : World) : Prop :=
  Reb N w [] (Q (.bool (decide ((((l0.n : Nat) : Int) : Int) ≤ 150))))

theorem cellplanemill_Light_snd (N : Nat) (l0 : Sl) (Q : Value → World → Prop) (w : World) (h : F_cellplanemill_Light N l0 Q w) : Snd (cx N (fun d => memN d [])) (bodyOf Go.Proofs.Try.f10) (retD (cx N (fun d => memN d [])) Go.Proofs.Try.f10 Q) (entry 6 [(.slice l0.a l0.n l0.c)]) w :=
  (den_sound okc mixed _ _ _ _ (mpr' (by kernel_rfl) h))

theorem cellplanemill_Light_calls (l0 : Sl) (Q : Value → World → Prop) (w : World) (h : F_cellplanemill_Light w.heap.size l0 Q w) : Calls PP n_cellplanemill_Light [(.slice l0.a l0.n l0.c)].toArray w fun e w' => ∃ v, e = .returned v ∧ Q v w' :=
  calls_of (C := cx w.heap.size (fun d => memN d [])) (fn := Go.Proofs.Try.f10) (c := (bodyOf Go.Proofs.Try.f10)) (by kernel_rfl) (by kernel_rfl) (Nat.le_refl _) (cellplanemill_Light_snd _ l0 Q w h)

/-! ### cellplanemill_History -/
def F_cellplanemill_History (N : Nat) (l0 : Sl) (Q : Value → World → Prop) (w : World) : Prop :=
  CallL PP N w [] n_cellplaneref28_New [(.int .i64 0), (.int .i64 0)] fun r2 w3 => ∃ p1 : Option Addr, r2 = (.pointer p1) ∧ CallL PP N w3 [] n_cellplanemill_New [(.slice l0.a l0.n l0.c)] fun r5 w6 => ∃ p4 : Option Addr, r5 = (.pointer p4) ∧ CallL PP N w6 [] n_cellplanemill_Grow [(.pointer p4), (.pointer p1), (.int .i64 1), (.int .i64 60)] fun r7 w8 => r7 = (.tuple #[]) ∧ NilL p1 fun q9 => ∃ l10 : Sl, At w8 (addA q9 2) [(.slice l10.a l10.n l10.c)] ∧ NotIn ((addA q9 2) : Addr).block [] ∧ Reb N w8 [] (Q (.slice l10.a l10.n l10.c))

theorem cellplanemill_History_snd (N : Nat) (l0 : Sl) (Q : Value → World → Prop) (w : World) (h : F_cellplanemill_History N l0 Q w) : Snd (cx N (fun d => memN d [])) (bodyOf Go.Proofs.Try.f11) (retD (cx N (fun d => memN d [])) Go.Proofs.Try.f11 Q) (entry 13 [(.slice l0.a l0.n l0.c)]) w :=
  (den_sound okc mixed _ _ _ _ (mpr' (by kernel_rfl) h))

theorem cellplanemill_History_calls (l0 : Sl) (Q : Value → World → Prop) (w : World) (h : F_cellplanemill_History w.heap.size l0 Q w) : Calls PP n_cellplanemill_History [(.slice l0.a l0.n l0.c)].toArray w fun e w' => ∃ v, e = .returned v ∧ Q v w' :=
  calls_of (C := cx w.heap.size (fun d => memN d [])) (fn := Go.Proofs.Try.f11) (c := (bodyOf Go.Proofs.Try.f11)) (by kernel_rfl) (by kernel_rfl) (Nat.le_refl _) (cellplanemill_History_snd _ l0 Q w h)

/-! ### session_New -/
def F_session_New (N : Nat)  (Q : Value → World → Prop) (w : World) : Prop :=
  NewL N w [] [(.int .i64 0), (.int .i64 0), (.int .i64 0), (.int .i64 0), (.string ByteArray.empty), (.int .i64 0), (.int .i64 0), (.int .i64 0), (.int .i64 0), (.string ByteArray.empty), (.int .i64 0), (.int .i64 0), (.int .i64 0), (.int .i64 0), (.string ByteArray.empty), (.int .i64 0), (.int .i64 0), (.int .i64 0), (.int .i64 0), (.string ByteArray.empty), (.int .i64 0), (.int .i64 0), (.int .i64 0), (.int .i64 0), (.string ByteArray.empty), (.int .i64 0), (.int .i64 0), (.int .i64 0), (.int .i64 0), (.string ByteArray.empty), (.int .i64 0), (.int .i64 0), (.int .i64 0), (.int .i64 0), (.string ByteArray.empty), (.int .i64 0), (.int .i64 0), (.int .i64 0), (.int .i64 0), (.string ByteArray.empty)] t_session_Table fun b1 w2 => Reb N w2 [] (Q (.pointer (some ⟨b1, 0, none⟩)))

theorem session_New_snd (N : Nat)  (Q : Value → World → Prop) (w : World) (h : F_session_New N  Q w) : Snd (cx N (fun d => memN d [])) (bodyOf Go.Proofs.Try.f12) (retD (cx N (fun d => memN d [])) Go.Proofs.Try.f12 Q) (entry 3 []) w :=
  (den_sound okc mixed _ _ _ _ (mpr' (by kernel_rfl) h))

theorem session_New_calls  (Q : Value → World → Prop) (w : World) (h : F_session_New w.heap.size  Q w) : Calls PP n_session_New [].toArray w fun e w' => ∃ v, e = .returned v ∧ Q v w' :=
  calls_of (C := cx w.heap.size (fun d => memN d [])) (fn := Go.Proofs.Try.f12) (c := (bodyOf Go.Proofs.Try.f12)) (by kernel_rfl) (by kernel_rfl) (Nat.le_refl _) (session_New_snd _  Q w h)

/-! ### session_Table_Find -/
def F_session_Table_Find (N : Nat) (t0 : Option Addr) (client1 : Int) (number2 : Int) (Q : Value → World → Prop) (w : World) : Prop :=
  ∀ b1 : Nat, w.heap.size ≤ b1 → IfB (decide ((client1 : Int) < 1)) (Reb N w [⟨b1, (⟨0, 0, 0, ByteArray.empty⟩ : G_api_Reply).cells, t_api_Reply⟩] (Q (.tuple #[(.agg (List.toArray (⟨0, 0, 0, ByteArray.empty⟩ : G_api_Reply).cells)), (.int .i64 1)]))) (IfB (decide ((8 : Int) < client1)) (Reb N w [⟨b1, (⟨0, 0, 0, ByteArray.empty⟩ : G_api_Reply).cells, t_api_Reply⟩] (Q (.tuple #[(.agg (List.toArray (⟨0, 0, 0, ByteArray.empty⟩ : G_api_Reply).cells)), (.int .i64 1)]))) (IfB (decide ((number2 : Int) < 1)) (Reb N w [⟨b1, (⟨0, 0, 0, ByteArray.empty⟩ : G_api_Reply).cells, t_api_Reply⟩] (Q (.tuple #[(.agg (List.toArray (⟨0, 0, 0, ByteArray.empty⟩ : G_api_Reply).cells)), (.int .i64 1)]))) (IfB (decide ((1048576 : Int) < number2)) (Reb N w [⟨b1, (⟨0, 0, 0, ByteArray.empty⟩ : G_api_Reply).cells, t_api_Reply⟩] (Q (.tuple #[(.agg (List.toArray (⟨0, 0, 0, ByteArray.empty⟩ : G_api_Reply).cells)), (.int .i64 1)]))) (NilL t0 fun q2 => (0 : Int) ≤ (IntKind.i64.wrap (client1 - 1)) ∧ ((IntKind.i64.wrap (client1 - 1)) : Int) < (8 : Nat) ∧ ∃ x3 : G_session_record, At w ((q2 : Addr).add (((IntKind.i64.wrap (client1 - 1)) : Int).toNat * 5)) x3.cells ∧ NotIn (((q2 : Addr).add (((IntKind.i64.wrap (client1 - 1)) : Int).toNat * 5)) : Addr).block [⟨b1, (⟨0, 0, 0, ByteArray.empty⟩ : G_api_Reply).cells, t_api_Reply⟩] ∧ ∀ b4 : Nat, w.heap.size ≤ b4 → IfB (decide ((number2 : Int) = (IntKind.i64.wrap (x3.number + 1)))) (Reb N w [⟨b1, (⟨0, 0, 0, ByteArray.empty⟩ : G_api_Reply).cells, t_api_Reply⟩, ⟨b4, x3.cells, t_session_record⟩] (Q (.tuple #[(.agg (List.toArray (⟨0, 0, 0, ByteArray.empty⟩ : G_api_Reply).cells)), (.int .i64 34)]))) (IfB (decide ((number2 : Int) = x3.number)) (Reb N w [⟨b1, x3.reply.cells, t_api_Reply⟩, ⟨b4, x3.cells, t_session_record⟩] (Q (.tuple #[(.agg (List.toArray x3.reply.cells)), (.int .i64 0)]))) (Reb N w [⟨b1, (⟨0, 0, 0, ByteArray.empty⟩ : G_api_Reply).cells, t_api_Reply⟩, ⟨b4, x3.cells, t_session_record⟩] (Q (.tuple #[(.agg (List.toArray (⟨0, 0, 0, ByteArray.empty⟩ : G_api_Reply).cells)), (.int .i64 32)]))))))))

theorem session_Table_Find_snd (N : Nat) (t0 : Option Addr) (client1 : Int) (number2 : Int) (Q : Value → World → Prop) (w : World) (h : F_session_Table_Find N t0 client1 number2 Q w) : Snd (cx N (fun d => memN d [6, 8])) (bodyOf Go.Proofs.Try.f13) (retD (cx N (fun d => memN d [6, 8])) Go.Proofs.Try.f13 Q) (entry 45 [(.pointer t0), (.int .i64 client1), (.int .i64 number2)]) w :=
  (den_sound okc mixed _ _ _ _ (mpr' (by kernel_rfl) h))

theorem session_Table_Find_calls (t0 : Option Addr) (client1 : Int) (number2 : Int) (Q : Value → World → Prop) (w : World) (h : F_session_Table_Find w.heap.size t0 client1 number2 Q w) : Calls PP n_session_Table_Find [(.pointer t0), (.int .i64 client1), (.int .i64 number2)].toArray w fun e w' => ∃ v, e = .returned v ∧ Q v w' :=
  calls_of (C := cx w.heap.size (fun d => memN d [6, 8])) (fn := Go.Proofs.Try.f13) (c := (bodyOf Go.Proofs.Try.f13)) (by kernel_rfl) (by kernel_rfl) (Nat.le_refl _) (session_Table_Find_snd _ t0 client1 number2 Q w h)

/-! ### session_Table_Apply -/
noncomputable def k_session_Table_Apply_0 : Code := (cR (cR (cR (bodyOf Go.Proofs.Try.f14))))

def C_session_Table_Apply_6 (N : Nat) (Q : Value → World → Prop) (blk3' : Nat) (x3c' : G_api_Change) (Ty3' : Nat) (r5' : Addr) (blk6' : Nat) (reply6c' : G_api_Reply) (Ty6' : Nat) (w : World) : Prop :=
  StL w [⟨blk3', x3c'.cells, Ty3'⟩, ⟨blk6', reply6c'.cells, Ty6'⟩] r5' (⟨x3c'.Number, reply6c'⟩ : G_session_record).cells fun w1 => Reb N w1 [⟨blk3', x3c'.cells, Ty3'⟩, ⟨blk6', reply6c'.cells, Ty6'⟩] (Q (.int .i64 0))

theorem X_session_Table_Apply_6 {N : Nat} {Q : Value → World → Prop} {blk3' : Nat} {x3c' : G_api_Change} {Ty3' : Nat} {r5' : Addr} {blk6' : Nat} {reply6c' : G_api_Reply} {Ty6' : Nat} {w : World} (h : C_session_Table_Apply_6 N Q blk3' x3c' Ty3' r5' blk6' reply6c' Ty6' w) : Snd (cx N (fun d => memN d [3, 6])) (cR (cR (cR k_session_Table_Apply_0))) (retD (cx N (fun d => memN d [3, 6])) Go.Proofs.Try.f14 Q) (mkS 46 [.loc 3, .val 5, .loc 6] [(.pointer (some r5'))] [⟨blk3', x3c'.cells, Ty3'⟩, ⟨blk6', reply6c'.cells, Ty6'⟩]) w :=
  (den_sound okc mixed _ _ _ _ (mpr' (by kernel_rfl) h))

noncomputable def H_session_Table_Apply_6 (N : Nat) (Q : Value → World → Prop) : St → World → Prop := fun s w => grabK 46 [.loc 3, .val 5, .loc 6] s fun vs ls => match vs, ls with
  | [.pointer (some r5')], [⟨blk3', x3c'_r, Ty3'⟩, ⟨blk6', reply6c'_r, Ty6'⟩] => G_api_Change.decL x3c'_r fun x3c' => G_api_Reply.decL reply6c'_r fun reply6c' => Reb N w s.L fun wa => C_session_Table_Apply_6 N Q blk3' x3c' Ty3' r5' blk6' reply6c' Ty6' wa
  | _, _ => False

theorem T_session_Table_Apply_6 (N : Nat) (Q : Value → World → Prop) (s : St) (w : World) (h : H_session_Table_Apply_6 N Q s w) : Snd (cx N (fun d => memN d [3, 6])) (cR (cR (cR k_session_Table_Apply_0))) (retD (cx N (fun d => memN d [3, 6])) Go.Proofs.Try.f14 Q) s w := by
  refine Snd.grab h (fun vs ls hd hloc wa hl => ?_)
  split at hd
  · obtain ⟨x3c', rfl, hd0⟩ := G_api_Change.decL_spec hd
    obtain ⟨reply6c', rfl, hd1⟩ := G_api_Reply.decL_spec hd0
    exact X_session_Table_Apply_6 (hd1 wa hl)
  · exact hd.elim

def C_session_Table_Apply_5 (N : Nat) (Q : Value → World → Prop) (blk3' : Nat) (x3c' : G_api_Change) (Ty3' : Nat) (r5' : Addr) (blk6' : Nat) (reply6c' : G_api_Reply) (Ty6' : Nat) (w : World) : Prop :=
  IfB (decide ((x3c'.Kind : Int) = 3)) (Reb N w [⟨blk3', x3c'.cells, Ty3'⟩, ⟨blk6', ({ reply6c' with Item := x3c'.Seq } : G_api_Reply).cells, Ty6'⟩] fun w2 => C_session_Table_Apply_6 N Q blk3' x3c' Ty3' r5' blk6' ({ reply6c' with Item := x3c'.Seq } : G_api_Reply) Ty6' w2) (IfB (decide ((x3c'.Kind : Int) = 4)) (Reb N w [⟨blk3', x3c'.cells, Ty3'⟩, ⟨blk6', ({ reply6c' with Item := x3c'.Item } : G_api_Reply).cells, Ty6'⟩] fun w3 => C_session_Table_Apply_6 N Q blk3' x3c' Ty3' r5' blk6' ({ reply6c' with Item := x3c'.Item } : G_api_Reply) Ty6' w3) (Reb N w [⟨blk3', x3c'.cells, Ty3'⟩, ⟨blk6', reply6c'.cells, Ty6'⟩] fun w4 => C_session_Table_Apply_6 N Q blk3' x3c' Ty3' r5' blk6' reply6c' Ty6' w4))

theorem X_session_Table_Apply_5 {N : Nat} {Q : Value → World → Prop} {blk3' : Nat} {x3c' : G_api_Change} {Ty3' : Nat} {r5' : Addr} {blk6' : Nat} {reply6c' : G_api_Reply} {Ty6' : Nat} {w : World} (h : C_session_Table_Apply_5 N Q blk3' x3c' Ty3' r5' blk6' reply6c' Ty6' w) : Snd (cx N (fun d => memN d [3, 6])) (cR (cR k_session_Table_Apply_0)) (retD (cx N (fun d => memN d [3, 6])) Go.Proofs.Try.f14 Q) (mkS 46 [.loc 3, .val 5, .loc 6] [(.pointer (some r5'))] [⟨blk3', x3c'.cells, Ty3'⟩, ⟨blk6', reply6c'.cells, Ty6'⟩]) w :=
  (Snd.cast (c' := .seq (cL (cR (cR k_session_Table_Apply_0))) (cR (cR (cR k_session_Table_Apply_0)))) (by kernel_rfl) (Snd.seq (H_session_Table_Apply_6 N Q) (den_sound okc mixed _ _ _ _ (mpr' (by kernel_rfl) h)) (fun s w h => T_session_Table_Apply_6 N Q s w h)))

noncomputable def H_session_Table_Apply_5 (N : Nat) (Q : Value → World → Prop) : St → World → Prop := fun s w => grabK 46 [.loc 3, .val 5, .loc 6] s fun vs ls => match vs, ls with
  | [.pointer (some r5')], [⟨blk3', x3c'_r, Ty3'⟩, ⟨blk6', reply6c'_r, Ty6'⟩] => G_api_Change.decL x3c'_r fun x3c' => G_api_Reply.decL reply6c'_r fun reply6c' => Reb N w s.L fun wa => C_session_Table_Apply_5 N Q blk3' x3c' Ty3' r5' blk6' reply6c' Ty6' wa
  | _, _ => False

theorem T_session_Table_Apply_5 (N : Nat) (Q : Value → World → Prop) (s : St) (w : World) (h : H_session_Table_Apply_5 N Q s w) : Snd (cx N (fun d => memN d [3, 6])) (cR (cR k_session_Table_Apply_0)) (retD (cx N (fun d => memN d [3, 6])) Go.Proofs.Try.f14 Q) s w := by
  refine Snd.grab h (fun vs ls hd hloc wa hl => ?_)
  split at hd
  · obtain ⟨x3c', rfl, hd0⟩ := G_api_Change.decL_spec hd
    obtain ⟨reply6c', rfl, hd1⟩ := G_api_Reply.decL_spec hd0
    exact X_session_Table_Apply_5 (hd1 wa hl)
  · exact hd.elim

def C_session_Table_Apply_4 (N : Nat) (Q : Value → World → Prop) (blk3' : Nat) (x3c' : G_api_Change) (Ty3' : Nat) (r5' : Addr) (w : World) : Prop :=
  ∀ b5 : Nat, w.heap.size ≤ b5 → Reb N w [⟨blk3', x3c'.cells, Ty3'⟩, ⟨b5, (⟨0, x3c'.Seq, 0, ByteArray.empty⟩ : G_api_Reply).cells, t_api_Reply⟩] fun w6 => C_session_Table_Apply_5 N Q blk3' x3c' Ty3' r5' b5 (⟨0, x3c'.Seq, 0, ByteArray.empty⟩ : G_api_Reply) t_api_Reply w6

theorem X_session_Table_Apply_4 {N : Nat} {Q : Value → World → Prop} {blk3' : Nat} {x3c' : G_api_Change} {Ty3' : Nat} {r5' : Addr} {w : World} (h : C_session_Table_Apply_4 N Q blk3' x3c' Ty3' r5' w) : Snd (cx N (fun d => memN d [3, 6])) (cR k_session_Table_Apply_0) (retD (cx N (fun d => memN d [3, 6])) Go.Proofs.Try.f14 Q) (mkS 46 [.loc 3, .val 5] [(.pointer (some r5'))] [⟨blk3', x3c'.cells, Ty3'⟩]) w :=
  (Snd.cast (c' := .seq (cL (cR k_session_Table_Apply_0)) (cR (cR k_session_Table_Apply_0))) (by kernel_rfl) (Snd.seq (H_session_Table_Apply_5 N Q) (den_sound okc mixed _ _ _ _ (mpr' (by kernel_rfl) h)) (fun s w h => T_session_Table_Apply_5 N Q s w h)))

noncomputable def H_session_Table_Apply_4 (N : Nat) (Q : Value → World → Prop) : St → World → Prop := fun s w => grabK 46 [.loc 3, .val 5] s fun vs ls => match vs, ls with
  | [.pointer (some r5')], [⟨blk3', x3c'_r, Ty3'⟩] => G_api_Change.decL x3c'_r fun x3c' => Reb N w s.L fun wa => C_session_Table_Apply_4 N Q blk3' x3c' Ty3' r5' wa
  | _, _ => False

theorem T_session_Table_Apply_4 (N : Nat) (Q : Value → World → Prop) (s : St) (w : World) (h : H_session_Table_Apply_4 N Q s w) : Snd (cx N (fun d => memN d [3, 6])) (cR k_session_Table_Apply_0) (retD (cx N (fun d => memN d [3, 6])) Go.Proofs.Try.f14 Q) s w := by
  refine Snd.grab h (fun vs ls hd hloc wa hl => ?_)
  split at hd
  · obtain ⟨x3c', rfl, hd0⟩ := G_api_Change.decL_spec hd
    exact X_session_Table_Apply_4 (hd0 wa hl)
  · exact hd.elim

def C_session_Table_Apply_3 (N : Nat) (Q : Value → World → Prop) (blk3' : Nat) (x3c' : G_api_Change) (Ty3' : Nat) (r5' : Addr) (w : World) : Prop :=
  ∃ n7 : Int, At w r5' [(.int .i64 n7)] ∧ NotIn (r5' : Addr).block [⟨blk3', x3c'.cells, Ty3'⟩] ∧ IfB (!decide ((x3c'.Number : Int) = (IntKind.i64.wrap (n7 + 1)))) (Reb N w [⟨blk3', x3c'.cells, Ty3'⟩] (Q (.int .i64 32))) (Reb N w [⟨blk3', x3c'.cells, Ty3'⟩] fun w8 => C_session_Table_Apply_4 N Q blk3' x3c' Ty3' r5' w8)

theorem X_session_Table_Apply_3 {N : Nat} {Q : Value → World → Prop} {blk3' : Nat} {x3c' : G_api_Change} {Ty3' : Nat} {r5' : Addr} {w : World} (h : C_session_Table_Apply_3 N Q blk3' x3c' Ty3' r5' w) : Snd (cx N (fun d => memN d [3, 6])) k_session_Table_Apply_0 (retD (cx N (fun d => memN d [3, 6])) Go.Proofs.Try.f14 Q) (mkS 46 [.loc 3, .val 5] [(.pointer (some r5'))] [⟨blk3', x3c'.cells, Ty3'⟩]) w :=
  (Snd.cast (c' := .seq (cL k_session_Table_Apply_0) (cR k_session_Table_Apply_0)) (by kernel_rfl) (Snd.seq (H_session_Table_Apply_4 N Q) (den_sound okc mixed _ _ _ _ (mpr' (by kernel_rfl) h)) (fun s w h => T_session_Table_Apply_4 N Q s w h)))

noncomputable def H_session_Table_Apply_3 (N : Nat) (Q : Value → World → Prop) : St → World → Prop := fun s w => grabK 46 [.loc 3, .val 5] s fun vs ls => match vs, ls with
  | [.pointer (some r5')], [⟨blk3', x3c'_r, Ty3'⟩] => G_api_Change.decL x3c'_r fun x3c' => Reb N w s.L fun wa => C_session_Table_Apply_3 N Q blk3' x3c' Ty3' r5' wa
  | _, _ => False

theorem T_session_Table_Apply_3 (N : Nat) (Q : Value → World → Prop) (s : St) (w : World) (h : H_session_Table_Apply_3 N Q s w) : Snd (cx N (fun d => memN d [3, 6])) k_session_Table_Apply_0 (retD (cx N (fun d => memN d [3, 6])) Go.Proofs.Try.f14 Q) s w := by
  refine Snd.grab h (fun vs ls hd hloc wa hl => ?_)
  split at hd
  · obtain ⟨x3c', rfl, hd0⟩ := G_api_Change.decL_spec hd
    exact X_session_Table_Apply_3 (hd0 wa hl)
  · exact hd.elim

def C_session_Table_Apply_2 (N : Nat) (Q : Value → World → Prop) (t0' : Option Addr) (blk3' : Nat) (x3c' : G_api_Change) (Ty3' : Nat) (w : World) : Prop :=
  NilL t0' fun q9 => (0 : Int) ≤ (IntKind.i64.wrap (x3c'.Client - 1)) ∧ ((IntKind.i64.wrap (x3c'.Client - 1)) : Int) < (8 : Nat) ∧ Reb N w [⟨blk3', x3c'.cells, Ty3'⟩] fun w10 => C_session_Table_Apply_3 N Q blk3' x3c' Ty3' ((q9 : Addr).add (((IntKind.i64.wrap (x3c'.Client - 1)) : Int).toNat * 5)) w10

theorem X_session_Table_Apply_2 {N : Nat} {Q : Value → World → Prop} {t0' : Option Addr} {blk3' : Nat} {x3c' : G_api_Change} {Ty3' : Nat} {w : World} (h : C_session_Table_Apply_2 N Q t0' blk3' x3c' Ty3' w) : Snd (cx N (fun d => memN d [3, 6])) (cR (cR (bodyOf Go.Proofs.Try.f14))) (retD (cx N (fun d => memN d [3, 6])) Go.Proofs.Try.f14 Q) (mkS 46 [.val 0, .loc 3] [(.pointer t0')] [⟨blk3', x3c'.cells, Ty3'⟩]) w :=
  (Snd.cast (c' := .seq (cL (cR (cR (bodyOf Go.Proofs.Try.f14)))) (cR (cR (cR (bodyOf Go.Proofs.Try.f14))))) (by kernel_rfl) (Snd.seq (H_session_Table_Apply_3 N Q) (den_sound okc mixed _ _ _ _ (mpr' (by kernel_rfl) h)) (fun s w h => T_session_Table_Apply_3 N Q s w h)))

noncomputable def H_session_Table_Apply_2 (N : Nat) (Q : Value → World → Prop) : St → World → Prop := fun s w => grabK 46 [.val 0, .loc 3] s fun vs ls => match vs, ls with
  | [.pointer t0'], [⟨blk3', x3c'_r, Ty3'⟩] => G_api_Change.decL x3c'_r fun x3c' => Reb N w s.L fun wa => C_session_Table_Apply_2 N Q t0' blk3' x3c' Ty3' wa
  | _, _ => False

theorem T_session_Table_Apply_2 (N : Nat) (Q : Value → World → Prop) (s : St) (w : World) (h : H_session_Table_Apply_2 N Q s w) : Snd (cx N (fun d => memN d [3, 6])) (cR (cR (bodyOf Go.Proofs.Try.f14))) (retD (cx N (fun d => memN d [3, 6])) Go.Proofs.Try.f14 Q) s w := by
  refine Snd.grab h (fun vs ls hd hloc wa hl => ?_)
  split at hd
  · obtain ⟨x3c', rfl, hd0⟩ := G_api_Change.decL_spec hd
    exact X_session_Table_Apply_2 (hd0 wa hl)
  · exact hd.elim

def C_session_Table_Apply_1 (N : Nat) (Q : Value → World → Prop) (t0' : Option Addr) (blk3' : Nat) (x3c' : G_api_Change) (Ty3' : Nat) (w : World) : Prop :=
  CallL PP N w [⟨blk3', x3c'.cells, Ty3'⟩] n_store_Valid [(.agg (List.toArray x3c'.cells))] fun r12 w13 => ∃ b11 : Bool, r12 = (.bool b11) ∧ IfB (!b11) (Reb N w13 [⟨blk3', x3c'.cells, Ty3'⟩] (Q (.int .i64 1))) (Reb N w13 [⟨blk3', x3c'.cells, Ty3'⟩] fun w14 => C_session_Table_Apply_2 N Q t0' blk3' x3c' Ty3' w14)

theorem X_session_Table_Apply_1 {N : Nat} {Q : Value → World → Prop} {t0' : Option Addr} {blk3' : Nat} {x3c' : G_api_Change} {Ty3' : Nat} {w : World} (h : C_session_Table_Apply_1 N Q t0' blk3' x3c' Ty3' w) : Snd (cx N (fun d => memN d [3, 6])) (cR (bodyOf Go.Proofs.Try.f14)) (retD (cx N (fun d => memN d [3, 6])) Go.Proofs.Try.f14 Q) (mkS 46 [.val 0, .loc 3] [(.pointer t0')] [⟨blk3', x3c'.cells, Ty3'⟩]) w :=
  (Snd.cast (c' := .seq (cL (cR (bodyOf Go.Proofs.Try.f14))) (cR (cR (bodyOf Go.Proofs.Try.f14)))) (by kernel_rfl) (Snd.seq (H_session_Table_Apply_2 N Q) (den_sound okc mixed _ _ _ _ (mpr' (by kernel_rfl) h)) (fun s w h => T_session_Table_Apply_2 N Q s w h)))

noncomputable def H_session_Table_Apply_1 (N : Nat) (Q : Value → World → Prop) : St → World → Prop := fun s w => grabK 46 [.val 0, .loc 3] s fun vs ls => match vs, ls with
  | [.pointer t0'], [⟨blk3', x3c'_r, Ty3'⟩] => G_api_Change.decL x3c'_r fun x3c' => Reb N w s.L fun wa => C_session_Table_Apply_1 N Q t0' blk3' x3c' Ty3' wa
  | _, _ => False

theorem T_session_Table_Apply_1 (N : Nat) (Q : Value → World → Prop) (s : St) (w : World) (h : H_session_Table_Apply_1 N Q s w) : Snd (cx N (fun d => memN d [3, 6])) (cR (bodyOf Go.Proofs.Try.f14)) (retD (cx N (fun d => memN d [3, 6])) Go.Proofs.Try.f14 Q) s w := by
  refine Snd.grab h (fun vs ls hd hloc wa hl => ?_)
  split at hd
  · obtain ⟨x3c', rfl, hd0⟩ := G_api_Change.decL_spec hd
    exact X_session_Table_Apply_1 (hd0 wa hl)
  · exact hd.elim

def F_session_Table_Apply (N : Nat) (t0 : Option Addr) (x1 : G_api_Change) (Q : Value → World → Prop) (w : World) : Prop :=
  ∀ b15 : Nat, w.heap.size ≤ b15 → Reb N w [⟨b15, x1.cells, t_api_Change⟩] fun w16 => C_session_Table_Apply_1 N Q t0 b15 x1 t_api_Change w16

theorem session_Table_Apply_snd (N : Nat) (t0 : Option Addr) (x1 : G_api_Change) (Q : Value → World → Prop) (w : World) (h : F_session_Table_Apply N t0 x1 Q w) : Snd (cx N (fun d => memN d [3, 6])) (bodyOf Go.Proofs.Try.f14) (retD (cx N (fun d => memN d [3, 6])) Go.Proofs.Try.f14 Q) (entry 46 [(.pointer t0), (.agg (List.toArray x1.cells))]) w :=
  (Snd.cast (c' := .seq (cL (bodyOf Go.Proofs.Try.f14)) (cR (bodyOf Go.Proofs.Try.f14))) (by kernel_rfl) (Snd.seq (H_session_Table_Apply_1 N Q) (den_sound okc mixed _ _ _ _ (mpr' (by kernel_rfl) h)) (fun s w h => T_session_Table_Apply_1 N Q s w h)))

theorem session_Table_Apply_calls (t0 : Option Addr) (x1 : G_api_Change) (Q : Value → World → Prop) (w : World) (h : F_session_Table_Apply w.heap.size t0 x1 Q w) : Calls PP n_session_Table_Apply [(.pointer t0), (.agg (List.toArray x1.cells))].toArray w fun e w' => ∃ v, e = .returned v ∧ Q v w' :=
  calls_of (C := cx w.heap.size (fun d => memN d [3, 6])) (fn := Go.Proofs.Try.f14) (c := (bodyOf Go.Proofs.Try.f14)) (by kernel_rfl) (by kernel_rfl) (Nat.le_refl _) (session_Table_Apply_snd _ t0 x1 Q w h)
end Go.Sh
