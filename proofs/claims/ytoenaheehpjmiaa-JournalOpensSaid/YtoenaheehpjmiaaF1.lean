/- What these functions do, told by computation: a formula for each, and that its calls do what the formula says.
   Conditions: none. -/
import Derived.Test.YtoenaheehpjmiaaBase
namespace Go.Sh
open Go Go.Proofs
set_option linter.unusedVariables false
set_option maxRecDepth 100000

/-! ### entry_fits -/
noncomputable def k_entry_fits_0 : Code := (cR (cR (cR (cR (cR (bodyOf Try.f157))))))

def C_entry_fits_9 (N : Nat) (Q : VP) (e2' plain5' ok6' : Addr) (w : World) : Prop :=
  ∃ b1 : Bool, At w ok6' [(.bool b1)] ∧ NotIn (ok6' : Addr).block [] ∧ IfB b1 (∃ x2 : G_api_Entry, At w e2' x2.cells ∧ NotIn (e2' : Addr).block [] ∧ ∃ x3 : G_api_Entry, At w plain5' x3.cells ∧ NotIn (plain5' : Addr).block [] ∧ Reb N w [] (Q (.bool (G_api_Entry.eqb x2 x3)))) (Reb N w [] (Q (.bool false)))

noncomputable def H_entry_fits_9 (N : Nat) (Q : VP) : St → World → Prop := HG N 179 [.v 2 .p, .v 5 .p, .v 6 .p] (C_entry_fits_9 N Q)

theorem T_entry_fits_9 (N : Nat) (Q : VP) (s : St) (w : World) (h : H_entry_fits_9 N Q s w) : Snd (cy N []) (cR (cR (cR (cR k_entry_fits_0)))) (retD (cy N []) Try.f157 Q) s w :=
  Snd.HG h fun _ _ _ _ h => dsm h

noncomputable def k_entry_fits_1 : Code := (cR (cL (cR (cL (cR (cR (cR k_entry_fits_0)))))))

noncomputable def z_entry_fits_2 (N : Nat) (Q : VP) : Cont := (inBlockD 0 (thenD (H_entry_fits_9 N Q) (retD (cy N []) Try.f157 Q)))

noncomputable def k_entry_fits_3 : Code := (cR (cR (cR (cR (cR (cR k_entry_fits_1))))))

noncomputable def k_entry_fits_4 : Code := (cR (cR (cR (cR (cR (cR k_entry_fits_3))))))

noncomputable def k_entry_fits_5 : Code := (cR (cR (cR (cR (cR (cR k_entry_fits_4))))))

def C_entry_fits_22 (N : Nat) (Q : VP) (e2' plain5' ok6' n9_0 n9_1 n9_2 : Addr) (v25' : Int) (v166' : Bool) (w : World) : Prop :=
  IfB v166' (Reb N w [] fun w127 => C_entry_fits_9 N Q e2' plain5' ok6' w127) (IfB (decide ((v25' : Int) = 16)) (CallL PP N w [] n_entry_fits_3 [(.int .i64 0), (.int .i64 1073741824), (.pointer (some n9_0)), (.pointer (some n9_1)), (.pointer (some n9_2))] fun r128 w129 => r128 = (.tuple #[]) ∧ Reb N w129 [] fun w130 => C_entry_fits_9 N Q e2' plain5' ok6' w130) (Reb N w [] (Q (.bool false))))

theorem X_entry_fits_22 {N : Nat} {Q : VP} {e2' plain5' ok6' n9_0 n9_1 n9_2 : Addr} {v25' : Int} {v166' : Bool} {w : World} (h : C_entry_fits_22 N Q e2' plain5' ok6' n9_0 n9_1 n9_2 v25' v166' w) : Snd (cy N []) (cR (cR (cR (cR k_entry_fits_5)))) (z_entry_fits_2 N Q) (mkS 179 [.val 2, .val 5, .val 6, .val 9, .val 25, .val 166] [(.pointer (some e2')), (.pointer (some plain5')), (.pointer (some ok6')), (.func (.func n_entry_fits_3) #[] #[(.pointer (some n9_0)), (.pointer (some n9_1)), (.pointer (some n9_2))]), (.int .i64 v25'), (.bool v166')] []) w :=
  (dsm h)

noncomputable def H_entry_fits_22 (N : Nat) (Q : VP) : St → World → Prop := fun s w => grabK 179 [.val 2, .val 5, .val 6, .val 9, .val 25, .val 166] s fun vs ls => match vs, ls with
  | [.pointer (some e2'), .pointer (some plain5'), .pointer (some ok6'), .func (.func 169) ⟨[]⟩ ⟨[.pointer (some n9_0), .pointer (some n9_1), .pointer (some n9_2)]⟩, .int .i64 v25', .bool v166'], [] => Reb N w s.L fun wa => C_entry_fits_22 N Q e2' plain5' ok6' n9_0 n9_1 n9_2 v25' v166' wa
  | _, _ => False

theorem T_entry_fits_22 (N : Nat) (Q : VP) (s : St) (w : World) (h : H_entry_fits_22 N Q s w) : Snd (cy N []) (cR (cR (cR (cR k_entry_fits_5)))) (z_entry_fits_2 N Q) s w := by
  refine Snd.grab h (fun vs ls hd hloc wa hl => ?_)
  split at hd
  · exact X_entry_fits_22 (hd wa hl)
  · exact hd.elim

def C_entry_fits_21 (N : Nat) (Q : VP) (e2' z3' plain5' ok6' n9_0 n9_1 n9_2 : Addr) (v25' : Int) (v151' : Bool) (w : World) : Prop :=
  IfB v151' (∃ n110 : Int, At w (addA e2' 4) [(.int .i64 n110)] ∧ NotIn ((addA e2' 4) : Addr).block [] ∧ ∃ b111 : Bool, At w ok6' [(.bool b111)] ∧ NotIn (ok6' : Addr).block [] ∧ IfB b111 (∃ n112 : Int, At w (addA e2' 4) [(.int .i64 n112)] ∧ NotIn ((addA e2' 4) : Addr).block [] ∧ ∃ n113 : Int, At w (addA z3' 2) [(.int .i64 n113)] ∧ NotIn ((addA z3' 2) : Addr).block [] ∧ CallL PP N w [] n_entry_index [(.int .i64 n112), (.int .i64 n113)] fun r115 w116 => ∃ b114 : Bool, r115 = (.bool b114) ∧ At w116 (addA e2' 4) [(.int .i64 n110)] ∧ StL w116 [] (addA plain5' 4) [(.int .i64 n110)] fun w117 => StL w117 [] ok6' [(.bool b114)] fun w118 => CallL PP N w118 [] n_entry_fits_3 [(.int .i64 0), (.int .i64 1), (.pointer (some n9_0)), (.pointer (some n9_1)), (.pointer (some n9_2))] fun r119 w120 => r119 = (.tuple #[]) ∧ Reb N w120 [] fun w121 => C_entry_fits_9 N Q e2' plain5' ok6' w121) (StL w [] (addA plain5' 4) [(.int .i64 n110)] fun w122 => StL w122 [] ok6' [(.bool false)] fun w123 => CallL PP N w123 [] n_entry_fits_3 [(.int .i64 0), (.int .i64 1), (.pointer (some n9_0)), (.pointer (some n9_1)), (.pointer (some n9_2))] fun r124 w125 => r124 = (.tuple #[]) ∧ Reb N w125 [] fun w126 => C_entry_fits_9 N Q e2' plain5' ok6' w126)) (IfB (decide ((v25' : Int) = 14)) (Reb N w [] fun w131 => C_entry_fits_22 N Q e2' plain5' ok6' n9_0 n9_1 n9_2 v25' (decide ((v25' : Int) = 14)) w131) (Reb N w [] fun w132 => C_entry_fits_22 N Q e2' plain5' ok6' n9_0 n9_1 n9_2 v25' (decide ((v25' : Int) = 15)) w132))

theorem X_entry_fits_21 {N : Nat} {Q : VP} {e2' z3' plain5' ok6' n9_0 n9_1 n9_2 : Addr} {v25' : Int} {v151' : Bool} {w : World} (h : C_entry_fits_21 N Q e2' z3' plain5' ok6' n9_0 n9_1 n9_2 v25' v151' w) : Snd (cy N []) (cR (cR k_entry_fits_5)) (z_entry_fits_2 N Q) (mkS 179 [.val 2, .val 3, .val 5, .val 6, .val 9, .val 25, .val 151] [(.pointer (some e2')), (.pointer (some z3')), (.pointer (some plain5')), (.pointer (some ok6')), (.func (.func n_entry_fits_3) #[] #[(.pointer (some n9_0)), (.pointer (some n9_1)), (.pointer (some n9_2))]), (.int .i64 v25'), (.bool v151')] []) w :=
  (Snd.cast (c' := .cond (.tmp 151) (cL (cR (cR k_entry_fits_5))) (cR (cR (cR k_entry_fits_5)))) (by kernel_rfl) (Snd.cond (t := v151') (by kernel_rfl) (by kernel_rfl) (fun ht => (fun h => (dsm h)) (ifb_t h ht)) (fun ht => (fun h => (sq (H_entry_fits_22 N Q) (dsm h) (T_entry_fits_22 N Q))) (ifb_f h ht))))

noncomputable def H_entry_fits_21 (N : Nat) (Q : VP) : St → World → Prop := fun s w => grabK 179 [.val 2, .val 3, .val 5, .val 6, .val 9, .val 25, .val 151] s fun vs ls => match vs, ls with
  | [.pointer (some e2'), .pointer (some z3'), .pointer (some plain5'), .pointer (some ok6'), .func (.func 169) ⟨[]⟩ ⟨[.pointer (some n9_0), .pointer (some n9_1), .pointer (some n9_2)]⟩, .int .i64 v25', .bool v151'], [] => Reb N w s.L fun wa => C_entry_fits_21 N Q e2' z3' plain5' ok6' n9_0 n9_1 n9_2 v25' v151' wa
  | _, _ => False

theorem T_entry_fits_21 (N : Nat) (Q : VP) (s : St) (w : World) (h : H_entry_fits_21 N Q s w) : Snd (cy N []) (cR (cR k_entry_fits_5)) (z_entry_fits_2 N Q) s w := by
  refine Snd.grab h (fun vs ls hd hloc wa hl => ?_)
  split at hd
  · exact X_entry_fits_21 (hd wa hl)
  · exact hd.elim

def C_entry_fits_20 (N : Nat) (Q : VP) (e2' z3' plain5' ok6' n9_0 n9_1 n9_2 : Addr) (v25' : Int) (v144' : Bool) (w : World) : Prop :=
  IfB v144' (∃ n106 : Int, At w (addA z3' 3) [(.int .i64 n106)] ∧ NotIn ((addA z3' 3) : Addr).block [] ∧ CallL PP N w [] n_entry_fits_3 [(.int .i64 0), (.int .i64 (IntKind.i64.wrap (n106 - 1))), (.pointer (some n9_0)), (.pointer (some n9_1)), (.pointer (some n9_2))] fun r107 w108 => r107 = (.tuple #[]) ∧ Reb N w108 [] fun w109 => C_entry_fits_9 N Q e2' plain5' ok6' w109) (Reb N w [] fun w133 => C_entry_fits_21 N Q e2' z3' plain5' ok6' n9_0 n9_1 n9_2 v25' (decide ((v25' : Int) = 13)) w133)

theorem X_entry_fits_20 {N : Nat} {Q : VP} {e2' z3' plain5' ok6' n9_0 n9_1 n9_2 : Addr} {v25' : Int} {v144' : Bool} {w : World} (h : C_entry_fits_20 N Q e2' z3' plain5' ok6' n9_0 n9_1 n9_2 v25' v144' w) : Snd (cy N []) k_entry_fits_5 (z_entry_fits_2 N Q) (mkS 179 [.val 2, .val 3, .val 5, .val 6, .val 9, .val 25, .val 144] [(.pointer (some e2')), (.pointer (some z3')), (.pointer (some plain5')), (.pointer (some ok6')), (.func (.func n_entry_fits_3) #[] #[(.pointer (some n9_0)), (.pointer (some n9_1)), (.pointer (some n9_2))]), (.int .i64 v25'), (.bool v144')] []) w :=
  (Snd.cast (c' := .cond (.tmp 144) (cL k_entry_fits_5) (cR k_entry_fits_5)) (by kernel_rfl) (Snd.cond (t := v144') (by kernel_rfl) (by kernel_rfl) (fun ht => (fun h => (dsm h)) (ifb_t h ht)) (fun ht => (fun h => (sq (H_entry_fits_21 N Q) (dsm h) (T_entry_fits_21 N Q))) (ifb_f h ht))))

noncomputable def H_entry_fits_20 (N : Nat) (Q : VP) : St → World → Prop := fun s w => grabK 179 [.val 2, .val 3, .val 5, .val 6, .val 9, .val 25, .val 144] s fun vs ls => match vs, ls with
  | [.pointer (some e2'), .pointer (some z3'), .pointer (some plain5'), .pointer (some ok6'), .func (.func 169) ⟨[]⟩ ⟨[.pointer (some n9_0), .pointer (some n9_1), .pointer (some n9_2)]⟩, .int .i64 v25', .bool v144'], [] => Reb N w s.L fun wa => C_entry_fits_20 N Q e2' z3' plain5' ok6' n9_0 n9_1 n9_2 v25' v144' wa
  | _, _ => False

theorem T_entry_fits_20 (N : Nat) (Q : VP) (s : St) (w : World) (h : H_entry_fits_20 N Q s w) : Snd (cy N []) k_entry_fits_5 (z_entry_fits_2 N Q) s w := by
  refine Snd.grab h (fun vs ls hd hloc wa hl => ?_)
  split at hd
  · exact X_entry_fits_20 (hd wa hl)
  · exact hd.elim

def C_entry_fits_19 (N : Nat) (Q : VP) (e2' z3' plain5' ok6' cell8_0 cell8_1 cell8_2 cell8_3 n9_0 n9_1 n9_2 : Addr) (v25' : Int) (v134' : Bool) (w : World) : Prop :=
  IfB v134' (CallL PP N w [] n_entry_fits_2 [(.pointer (some cell8_0)), (.pointer (some cell8_1)), (.pointer (some cell8_2)), (.pointer (some cell8_3))] fun r100 w101 => r100 = (.tuple #[]) ∧ ∃ n102 : Int, At w101 (addA z3' 3) [(.int .i64 n102)] ∧ NotIn ((addA z3' 3) : Addr).block [] ∧ CallL PP N w101 [] n_entry_fits_3 [(.int .i64 0), (.int .i64 (IntKind.i64.wrap (n102 - 1))), (.pointer (some n9_0)), (.pointer (some n9_1)), (.pointer (some n9_2))] fun r103 w104 => r103 = (.tuple #[]) ∧ Reb N w104 [] fun w105 => C_entry_fits_9 N Q e2' plain5' ok6' w105) (Reb N w [] fun w134 => C_entry_fits_20 N Q e2' z3' plain5' ok6' n9_0 n9_1 n9_2 v25' (decide ((v25' : Int) = 12)) w134)

theorem X_entry_fits_19 {N : Nat} {Q : VP} {e2' z3' plain5' ok6' cell8_0 cell8_1 cell8_2 cell8_3 n9_0 n9_1 n9_2 : Addr} {v25' : Int} {v134' : Bool} {w : World} (h : C_entry_fits_19 N Q e2' z3' plain5' ok6' cell8_0 cell8_1 cell8_2 cell8_3 n9_0 n9_1 n9_2 v25' v134' w) : Snd (cy N []) (cR (cR (cR (cR k_entry_fits_4)))) (z_entry_fits_2 N Q) (mkS 179 [.val 2, .val 3, .val 5, .val 6, .val 8, .val 9, .val 25, .val 134] [(.pointer (some e2')), (.pointer (some z3')), (.pointer (some plain5')), (.pointer (some ok6')), (.func (.func n_entry_fits_2) #[] #[(.pointer (some cell8_0)), (.pointer (some cell8_1)), (.pointer (some cell8_2)), (.pointer (some cell8_3))]), (.func (.func n_entry_fits_3) #[] #[(.pointer (some n9_0)), (.pointer (some n9_1)), (.pointer (some n9_2))]), (.int .i64 v25'), (.bool v134')] []) w :=
  (Snd.cast (c' := .cond (.tmp 134) (cL (cR (cR (cR (cR k_entry_fits_4))))) (cR (cR (cR (cR (cR k_entry_fits_4)))))) (by kernel_rfl) (Snd.cond (t := v134') (by kernel_rfl) (by kernel_rfl) (fun ht => (fun h => (dsm h)) (ifb_t h ht)) (fun ht => (fun h => (sq (H_entry_fits_20 N Q) (dsm h) (T_entry_fits_20 N Q))) (ifb_f h ht))))

noncomputable def H_entry_fits_19 (N : Nat) (Q : VP) : St → World → Prop := fun s w => grabK 179 [.val 2, .val 3, .val 5, .val 6, .val 8, .val 9, .val 25, .val 134] s fun vs ls => match vs, ls with
  | [.pointer (some e2'), .pointer (some z3'), .pointer (some plain5'), .pointer (some ok6'), .func (.func 168) ⟨[]⟩ ⟨[.pointer (some cell8_0), .pointer (some cell8_1), .pointer (some cell8_2), .pointer (some cell8_3)]⟩, .func (.func 169) ⟨[]⟩ ⟨[.pointer (some n9_0), .pointer (some n9_1), .pointer (some n9_2)]⟩, .int .i64 v25', .bool v134'], [] => Reb N w s.L fun wa => C_entry_fits_19 N Q e2' z3' plain5' ok6' cell8_0 cell8_1 cell8_2 cell8_3 n9_0 n9_1 n9_2 v25' v134' wa
  | _, _ => False

theorem T_entry_fits_19 (N : Nat) (Q : VP) (s : St) (w : World) (h : H_entry_fits_19 N Q s w) : Snd (cy N []) (cR (cR (cR (cR k_entry_fits_4)))) (z_entry_fits_2 N Q) s w := by
  refine Snd.grab h (fun vs ls hd hloc wa hl => ?_)
  split at hd
  · exact X_entry_fits_19 (hd wa hl)
  · exact hd.elim

def C_entry_fits_18 (N : Nat) (Q : VP) (e2' z3' plain5' ok6' cell8_0 cell8_1 cell8_2 cell8_3 n9_0 n9_1 n9_2 : Addr) (v25' : Int) (v128' : Bool) (w : World) : Prop :=
  IfB v128' (CallL PP N w [] n_entry_fits_2 [(.pointer (some cell8_0)), (.pointer (some cell8_1)), (.pointer (some cell8_2)), (.pointer (some cell8_3))] fun r95 w96 => r95 = (.tuple #[]) ∧ CallL PP N w96 [] n_entry_fits_3 [(.int .i64 1), (.int .i64 3), (.pointer (some n9_0)), (.pointer (some n9_1)), (.pointer (some n9_2))] fun r97 w98 => r97 = (.tuple #[]) ∧ Reb N w98 [] fun w99 => C_entry_fits_9 N Q e2' plain5' ok6' w99) (IfB (decide ((v25' : Int) = 10)) (Reb N w [] fun w135 => C_entry_fits_19 N Q e2' z3' plain5' ok6' cell8_0 cell8_1 cell8_2 cell8_3 n9_0 n9_1 n9_2 v25' (decide ((v25' : Int) = 10)) w135) (Reb N w [] fun w136 => C_entry_fits_19 N Q e2' z3' plain5' ok6' cell8_0 cell8_1 cell8_2 cell8_3 n9_0 n9_1 n9_2 v25' (decide ((v25' : Int) = 11)) w136))

theorem X_entry_fits_18 {N : Nat} {Q : VP} {e2' z3' plain5' ok6' cell8_0 cell8_1 cell8_2 cell8_3 n9_0 n9_1 n9_2 : Addr} {v25' : Int} {v128' : Bool} {w : World} (h : C_entry_fits_18 N Q e2' z3' plain5' ok6' cell8_0 cell8_1 cell8_2 cell8_3 n9_0 n9_1 n9_2 v25' v128' w) : Snd (cy N []) (cR (cR k_entry_fits_4)) (z_entry_fits_2 N Q) (mkS 179 [.val 2, .val 3, .val 5, .val 6, .val 8, .val 9, .val 25, .val 128] [(.pointer (some e2')), (.pointer (some z3')), (.pointer (some plain5')), (.pointer (some ok6')), (.func (.func n_entry_fits_2) #[] #[(.pointer (some cell8_0)), (.pointer (some cell8_1)), (.pointer (some cell8_2)), (.pointer (some cell8_3))]), (.func (.func n_entry_fits_3) #[] #[(.pointer (some n9_0)), (.pointer (some n9_1)), (.pointer (some n9_2))]), (.int .i64 v25'), (.bool v128')] []) w :=
  (Snd.cast (c' := .cond (.tmp 128) (cL (cR (cR k_entry_fits_4))) (cR (cR (cR k_entry_fits_4)))) (by kernel_rfl) (Snd.cond (t := v128') (by kernel_rfl) (by kernel_rfl) (fun ht => (fun h => (dsm h)) (ifb_t h ht)) (fun ht => (fun h => (sq (H_entry_fits_19 N Q) (dsm h) (T_entry_fits_19 N Q))) (ifb_f h ht))))

noncomputable def H_entry_fits_18 (N : Nat) (Q : VP) : St → World → Prop := fun s w => grabK 179 [.val 2, .val 3, .val 5, .val 6, .val 8, .val 9, .val 25, .val 128] s fun vs ls => match vs, ls with
  | [.pointer (some e2'), .pointer (some z3'), .pointer (some plain5'), .pointer (some ok6'), .func (.func 168) ⟨[]⟩ ⟨[.pointer (some cell8_0), .pointer (some cell8_1), .pointer (some cell8_2), .pointer (some cell8_3)]⟩, .func (.func 169) ⟨[]⟩ ⟨[.pointer (some n9_0), .pointer (some n9_1), .pointer (some n9_2)]⟩, .int .i64 v25', .bool v128'], [] => Reb N w s.L fun wa => C_entry_fits_18 N Q e2' z3' plain5' ok6' cell8_0 cell8_1 cell8_2 cell8_3 n9_0 n9_1 n9_2 v25' v128' wa
  | _, _ => False

theorem T_entry_fits_18 (N : Nat) (Q : VP) (s : St) (w : World) (h : H_entry_fits_18 N Q s w) : Snd (cy N []) (cR (cR k_entry_fits_4)) (z_entry_fits_2 N Q) s w := by
  refine Snd.grab h (fun vs ls hd hloc wa hl => ?_)
  split at hd
  · exact X_entry_fits_18 (hd wa hl)
  · exact hd.elim

def C_entry_fits_17 (N : Nat) (Q : VP) (e2' z3' plain5' ok6' tenant7_0 tenant7_1 tenant7_2 tenant7_3 cell8_0 cell8_1 cell8_2 cell8_3 n9_0 n9_1 n9_2 : Addr) (v25' : Int) (v122' : Bool) (w : World) : Prop :=
  IfB v122' (CallL PP N w [] n_entry_fits_1 [(.pointer (some tenant7_0)), (.pointer (some tenant7_1)), (.pointer (some tenant7_2)), (.pointer (some tenant7_3))] fun r90 w91 => r90 = (.tuple #[]) ∧ CallL PP N w91 [] n_entry_fits_3 [(.int .i64 0), (.int .i64 1), (.pointer (some n9_0)), (.pointer (some n9_1)), (.pointer (some n9_2))] fun r92 w93 => r92 = (.tuple #[]) ∧ Reb N w93 [] fun w94 => C_entry_fits_9 N Q e2' plain5' ok6' w94) (Reb N w [] fun w137 => C_entry_fits_18 N Q e2' z3' plain5' ok6' cell8_0 cell8_1 cell8_2 cell8_3 n9_0 n9_1 n9_2 v25' (decide ((v25' : Int) = 9)) w137)

theorem X_entry_fits_17 {N : Nat} {Q : VP} {e2' z3' plain5' ok6' tenant7_0 tenant7_1 tenant7_2 tenant7_3 cell8_0 cell8_1 cell8_2 cell8_3 n9_0 n9_1 n9_2 : Addr} {v25' : Int} {v122' : Bool} {w : World} (h : C_entry_fits_17 N Q e2' z3' plain5' ok6' tenant7_0 tenant7_1 tenant7_2 tenant7_3 cell8_0 cell8_1 cell8_2 cell8_3 n9_0 n9_1 n9_2 v25' v122' w) : Snd (cy N []) k_entry_fits_4 (z_entry_fits_2 N Q) (mkS 179 [.val 2, .val 3, .val 5, .val 6, .val 7, .val 8, .val 9, .val 25, .val 122] [(.pointer (some e2')), (.pointer (some z3')), (.pointer (some plain5')), (.pointer (some ok6')), (.func (.func n_entry_fits_1) #[] #[(.pointer (some tenant7_0)), (.pointer (some tenant7_1)), (.pointer (some tenant7_2)), (.pointer (some tenant7_3))]), (.func (.func n_entry_fits_2) #[] #[(.pointer (some cell8_0)), (.pointer (some cell8_1)), (.pointer (some cell8_2)), (.pointer (some cell8_3))]), (.func (.func n_entry_fits_3) #[] #[(.pointer (some n9_0)), (.pointer (some n9_1)), (.pointer (some n9_2))]), (.int .i64 v25'), (.bool v122')] []) w :=
  (Snd.cast (c' := .cond (.tmp 122) (cL k_entry_fits_4) (cR k_entry_fits_4)) (by kernel_rfl) (Snd.cond (t := v122') (by kernel_rfl) (by kernel_rfl) (fun ht => (fun h => (dsm h)) (ifb_t h ht)) (fun ht => (fun h => (sq (H_entry_fits_18 N Q) (dsm h) (T_entry_fits_18 N Q))) (ifb_f h ht))))

noncomputable def H_entry_fits_17 (N : Nat) (Q : VP) : St → World → Prop := fun s w => grabK 179 [.val 2, .val 3, .val 5, .val 6, .val 7, .val 8, .val 9, .val 25, .val 122] s fun vs ls => match vs, ls with
  | [.pointer (some e2'), .pointer (some z3'), .pointer (some plain5'), .pointer (some ok6'), .func (.func 166) ⟨[]⟩ ⟨[.pointer (some tenant7_0), .pointer (some tenant7_1), .pointer (some tenant7_2), .pointer (some tenant7_3)]⟩, .func (.func 168) ⟨[]⟩ ⟨[.pointer (some cell8_0), .pointer (some cell8_1), .pointer (some cell8_2), .pointer (some cell8_3)]⟩, .func (.func 169) ⟨[]⟩ ⟨[.pointer (some n9_0), .pointer (some n9_1), .pointer (some n9_2)]⟩, .int .i64 v25', .bool v122'], [] => Reb N w s.L fun wa => C_entry_fits_17 N Q e2' z3' plain5' ok6' tenant7_0 tenant7_1 tenant7_2 tenant7_3 cell8_0 cell8_1 cell8_2 cell8_3 n9_0 n9_1 n9_2 v25' v122' wa
  | _, _ => False

theorem T_entry_fits_17 (N : Nat) (Q : VP) (s : St) (w : World) (h : H_entry_fits_17 N Q s w) : Snd (cy N []) k_entry_fits_4 (z_entry_fits_2 N Q) s w := by
  refine Snd.grab h (fun vs ls hd hloc wa hl => ?_)
  split at hd
  · exact X_entry_fits_17 (hd wa hl)
  · exact hd.elim

def C_entry_fits_16 (N : Nat) (Q : VP) (e2' z3' plain5' ok6' tenant7_0 tenant7_1 tenant7_2 tenant7_3 cell8_0 cell8_1 cell8_2 cell8_3 n9_0 n9_1 n9_2 : Addr) (v25' : Int) (v118' : Bool) (w : World) : Prop :=
  IfB v118' (CallL PP N w [] n_entry_fits_1 [(.pointer (some tenant7_0)), (.pointer (some tenant7_1)), (.pointer (some tenant7_2)), (.pointer (some tenant7_3))] fun r87 w88 => r87 = (.tuple #[]) ∧ Reb N w88 [] fun w89 => C_entry_fits_9 N Q e2' plain5' ok6' w89) (Reb N w [] fun w138 => C_entry_fits_17 N Q e2' z3' plain5' ok6' tenant7_0 tenant7_1 tenant7_2 tenant7_3 cell8_0 cell8_1 cell8_2 cell8_3 n9_0 n9_1 n9_2 v25' (decide ((v25' : Int) = 8)) w138)

theorem X_entry_fits_16 {N : Nat} {Q : VP} {e2' z3' plain5' ok6' tenant7_0 tenant7_1 tenant7_2 tenant7_3 cell8_0 cell8_1 cell8_2 cell8_3 n9_0 n9_1 n9_2 : Addr} {v25' : Int} {v118' : Bool} {w : World} (h : C_entry_fits_16 N Q e2' z3' plain5' ok6' tenant7_0 tenant7_1 tenant7_2 tenant7_3 cell8_0 cell8_1 cell8_2 cell8_3 n9_0 n9_1 n9_2 v25' v118' w) : Snd (cy N []) (cR (cR (cR (cR k_entry_fits_3)))) (z_entry_fits_2 N Q) (mkS 179 [.val 2, .val 3, .val 5, .val 6, .val 7, .val 8, .val 9, .val 25, .val 118] [(.pointer (some e2')), (.pointer (some z3')), (.pointer (some plain5')), (.pointer (some ok6')), (.func (.func n_entry_fits_1) #[] #[(.pointer (some tenant7_0)), (.pointer (some tenant7_1)), (.pointer (some tenant7_2)), (.pointer (some tenant7_3))]), (.func (.func n_entry_fits_2) #[] #[(.pointer (some cell8_0)), (.pointer (some cell8_1)), (.pointer (some cell8_2)), (.pointer (some cell8_3))]), (.func (.func n_entry_fits_3) #[] #[(.pointer (some n9_0)), (.pointer (some n9_1)), (.pointer (some n9_2))]), (.int .i64 v25'), (.bool v118')] []) w :=
  (Snd.cast (c' := .cond (.tmp 118) (cL (cR (cR (cR (cR k_entry_fits_3))))) (cR (cR (cR (cR (cR k_entry_fits_3)))))) (by kernel_rfl) (Snd.cond (t := v118') (by kernel_rfl) (by kernel_rfl) (fun ht => (fun h => (dsm h)) (ifb_t h ht)) (fun ht => (fun h => (sq (H_entry_fits_17 N Q) (dsm h) (T_entry_fits_17 N Q))) (ifb_f h ht))))

noncomputable def H_entry_fits_16 (N : Nat) (Q : VP) : St → World → Prop := fun s w => grabK 179 [.val 2, .val 3, .val 5, .val 6, .val 7, .val 8, .val 9, .val 25, .val 118] s fun vs ls => match vs, ls with
  | [.pointer (some e2'), .pointer (some z3'), .pointer (some plain5'), .pointer (some ok6'), .func (.func 166) ⟨[]⟩ ⟨[.pointer (some tenant7_0), .pointer (some tenant7_1), .pointer (some tenant7_2), .pointer (some tenant7_3)]⟩, .func (.func 168) ⟨[]⟩ ⟨[.pointer (some cell8_0), .pointer (some cell8_1), .pointer (some cell8_2), .pointer (some cell8_3)]⟩, .func (.func 169) ⟨[]⟩ ⟨[.pointer (some n9_0), .pointer (some n9_1), .pointer (some n9_2)]⟩, .int .i64 v25', .bool v118'], [] => Reb N w s.L fun wa => C_entry_fits_16 N Q e2' z3' plain5' ok6' tenant7_0 tenant7_1 tenant7_2 tenant7_3 cell8_0 cell8_1 cell8_2 cell8_3 n9_0 n9_1 n9_2 v25' v118' wa
  | _, _ => False

theorem T_entry_fits_16 (N : Nat) (Q : VP) (s : St) (w : World) (h : H_entry_fits_16 N Q s w) : Snd (cy N []) (cR (cR (cR (cR k_entry_fits_3)))) (z_entry_fits_2 N Q) s w := by
  refine Snd.grab h (fun vs ls hd hloc wa hl => ?_)
  split at hd
  · exact X_entry_fits_16 (hd wa hl)
  · exact hd.elim

def C_entry_fits_15 (N : Nat) (Q : VP) (e2' z3' plain5' ok6' tenant7_0 tenant7_1 tenant7_2 tenant7_3 cell8_0 cell8_1 cell8_2 cell8_3 n9_0 n9_1 n9_2 : Addr) (v25' : Int) (v111' : Bool) (w : World) : Prop :=
  IfB v111' (CallL PP N w [] n_entry_fits_1 [(.pointer (some tenant7_0)), (.pointer (some tenant7_1)), (.pointer (some tenant7_2)), (.pointer (some tenant7_3))] fun r82 w83 => r82 = (.tuple #[]) ∧ CallL PP N w83 [] n_entry_fits_2 [(.pointer (some cell8_0)), (.pointer (some cell8_1)), (.pointer (some cell8_2)), (.pointer (some cell8_3))] fun r84 w85 => r84 = (.tuple #[]) ∧ Reb N w85 [] fun w86 => C_entry_fits_9 N Q e2' plain5' ok6' w86) (Reb N w [] fun w139 => C_entry_fits_16 N Q e2' z3' plain5' ok6' tenant7_0 tenant7_1 tenant7_2 tenant7_3 cell8_0 cell8_1 cell8_2 cell8_3 n9_0 n9_1 n9_2 v25' (decide ((v25' : Int) = 7)) w139)

theorem X_entry_fits_15 {N : Nat} {Q : VP} {e2' z3' plain5' ok6' tenant7_0 tenant7_1 tenant7_2 tenant7_3 cell8_0 cell8_1 cell8_2 cell8_3 n9_0 n9_1 n9_2 : Addr} {v25' : Int} {v111' : Bool} {w : World} (h : C_entry_fits_15 N Q e2' z3' plain5' ok6' tenant7_0 tenant7_1 tenant7_2 tenant7_3 cell8_0 cell8_1 cell8_2 cell8_3 n9_0 n9_1 n9_2 v25' v111' w) : Snd (cy N []) (cR (cR k_entry_fits_3)) (z_entry_fits_2 N Q) (mkS 179 [.val 2, .val 3, .val 5, .val 6, .val 7, .val 8, .val 9, .val 25, .val 111] [(.pointer (some e2')), (.pointer (some z3')), (.pointer (some plain5')), (.pointer (some ok6')), (.func (.func n_entry_fits_1) #[] #[(.pointer (some tenant7_0)), (.pointer (some tenant7_1)), (.pointer (some tenant7_2)), (.pointer (some tenant7_3))]), (.func (.func n_entry_fits_2) #[] #[(.pointer (some cell8_0)), (.pointer (some cell8_1)), (.pointer (some cell8_2)), (.pointer (some cell8_3))]), (.func (.func n_entry_fits_3) #[] #[(.pointer (some n9_0)), (.pointer (some n9_1)), (.pointer (some n9_2))]), (.int .i64 v25'), (.bool v111')] []) w :=
  (Snd.cast (c' := .cond (.tmp 111) (cL (cR (cR k_entry_fits_3))) (cR (cR (cR k_entry_fits_3)))) (by kernel_rfl) (Snd.cond (t := v111') (by kernel_rfl) (by kernel_rfl) (fun ht => (fun h => (dsm h)) (ifb_t h ht)) (fun ht => (fun h => (sq (H_entry_fits_16 N Q) (dsm h) (T_entry_fits_16 N Q))) (ifb_f h ht))))

noncomputable def H_entry_fits_15 (N : Nat) (Q : VP) : St → World → Prop := fun s w => grabK 179 [.val 2, .val 3, .val 5, .val 6, .val 7, .val 8, .val 9, .val 25, .val 111] s fun vs ls => match vs, ls with
  | [.pointer (some e2'), .pointer (some z3'), .pointer (some plain5'), .pointer (some ok6'), .func (.func 166) ⟨[]⟩ ⟨[.pointer (some tenant7_0), .pointer (some tenant7_1), .pointer (some tenant7_2), .pointer (some tenant7_3)]⟩, .func (.func 168) ⟨[]⟩ ⟨[.pointer (some cell8_0), .pointer (some cell8_1), .pointer (some cell8_2), .pointer (some cell8_3)]⟩, .func (.func 169) ⟨[]⟩ ⟨[.pointer (some n9_0), .pointer (some n9_1), .pointer (some n9_2)]⟩, .int .i64 v25', .bool v111'], [] => Reb N w s.L fun wa => C_entry_fits_15 N Q e2' z3' plain5' ok6' tenant7_0 tenant7_1 tenant7_2 tenant7_3 cell8_0 cell8_1 cell8_2 cell8_3 n9_0 n9_1 n9_2 v25' v111' wa
  | _, _ => False

theorem T_entry_fits_15 (N : Nat) (Q : VP) (s : St) (w : World) (h : H_entry_fits_15 N Q s w) : Snd (cy N []) (cR (cR k_entry_fits_3)) (z_entry_fits_2 N Q) s w := by
  refine Snd.grab h (fun vs ls hd hloc wa hl => ?_)
  split at hd
  · exact X_entry_fits_15 (hd wa hl)
  · exact hd.elim

def C_entry_fits_14 (N : Nat) (Q : VP) (e2' z3' plain5' ok6' tenant7_0 tenant7_1 tenant7_2 tenant7_3 cell8_0 cell8_1 cell8_2 cell8_3 n9_0 n9_1 n9_2 : Addr) (v25' : Int) (v91' : Bool) (w : World) : Prop :=
  IfB v91' (CallL PP N w [] n_entry_fits_1 [(.pointer (some tenant7_0)), (.pointer (some tenant7_1)), (.pointer (some tenant7_2)), (.pointer (some tenant7_3))] fun r63 w64 => r63 = (.tuple #[]) ∧ ∃ n65 : Int, At w64 (addA e2' 3) [(.int .i64 n65)] ∧ NotIn ((addA e2' 3) : Addr).block [] ∧ ∃ b66 : Bool, At w64 ok6' [(.bool b66)] ∧ NotIn (ok6' : Addr).block [] ∧ IfB b66 (∃ n67 : Int, At w64 (addA e2' 3) [(.int .i64 n67)] ∧ NotIn ((addA e2' 3) : Addr).block [] ∧ IfB (decide ((n67 : Int) = (-1))) (StL w64 [] (addA plain5' 3) [(.int .i64 n65)] fun w68 => StL w68 [] ok6' [(.bool true)] fun w69 => Reb N w69 [] fun w70 => C_entry_fits_9 N Q e2' plain5' ok6' w70) (∃ n71 : Int, At w64 (addA e2' 3) [(.int .i64 n71)] ∧ NotIn ((addA e2' 3) : Addr).block [] ∧ ∃ n72 : Int, At w64 (addA z3' 1) [(.int .i64 n72)] ∧ NotIn ((addA z3' 1) : Addr).block [] ∧ CallL PP N w64 [] n_entry_index [(.int .i64 n71), (.int .i64 n72)] fun r74 w75 => ∃ b73 : Bool, r74 = (.bool b73) ∧ At w75 (addA e2' 3) [(.int .i64 n65)] ∧ StL w75 [] (addA plain5' 3) [(.int .i64 n65)] fun w76 => StL w76 [] ok6' [(.bool b73)] fun w77 => Reb N w77 [] fun w78 => C_entry_fits_9 N Q e2' plain5' ok6' w78)) (StL w64 [] (addA plain5' 3) [(.int .i64 n65)] fun w79 => StL w79 [] ok6' [(.bool false)] fun w80 => Reb N w80 [] fun w81 => C_entry_fits_9 N Q e2' plain5' ok6' w81)) (IfB (decide ((v25' : Int) = 5)) (Reb N w [] fun w140 => C_entry_fits_15 N Q e2' z3' plain5' ok6' tenant7_0 tenant7_1 tenant7_2 tenant7_3 cell8_0 cell8_1 cell8_2 cell8_3 n9_0 n9_1 n9_2 v25' (decide ((v25' : Int) = 5)) w140) (Reb N w [] fun w141 => C_entry_fits_15 N Q e2' z3' plain5' ok6' tenant7_0 tenant7_1 tenant7_2 tenant7_3 cell8_0 cell8_1 cell8_2 cell8_3 n9_0 n9_1 n9_2 v25' (decide ((v25' : Int) = 6)) w141))

theorem X_entry_fits_14 {N : Nat} {Q : VP} {e2' z3' plain5' ok6' tenant7_0 tenant7_1 tenant7_2 tenant7_3 cell8_0 cell8_1 cell8_2 cell8_3 n9_0 n9_1 n9_2 : Addr} {v25' : Int} {v91' : Bool} {w : World} (h : C_entry_fits_14 N Q e2' z3' plain5' ok6' tenant7_0 tenant7_1 tenant7_2 tenant7_3 cell8_0 cell8_1 cell8_2 cell8_3 n9_0 n9_1 n9_2 v25' v91' w) : Snd (cy N []) k_entry_fits_3 (z_entry_fits_2 N Q) (mkS 179 [.val 2, .val 3, .val 5, .val 6, .val 7, .val 8, .val 9, .val 25, .val 91] [(.pointer (some e2')), (.pointer (some z3')), (.pointer (some plain5')), (.pointer (some ok6')), (.func (.func n_entry_fits_1) #[] #[(.pointer (some tenant7_0)), (.pointer (some tenant7_1)), (.pointer (some tenant7_2)), (.pointer (some tenant7_3))]), (.func (.func n_entry_fits_2) #[] #[(.pointer (some cell8_0)), (.pointer (some cell8_1)), (.pointer (some cell8_2)), (.pointer (some cell8_3))]), (.func (.func n_entry_fits_3) #[] #[(.pointer (some n9_0)), (.pointer (some n9_1)), (.pointer (some n9_2))]), (.int .i64 v25'), (.bool v91')] []) w :=
  (Snd.cast (c' := .cond (.tmp 91) (cL k_entry_fits_3) (cR k_entry_fits_3)) (by kernel_rfl) (Snd.cond (t := v91') (by kernel_rfl) (by kernel_rfl) (fun ht => (fun h => (dsm h)) (ifb_t h ht)) (fun ht => (fun h => (sq (H_entry_fits_15 N Q) (dsm h) (T_entry_fits_15 N Q))) (ifb_f h ht))))

noncomputable def H_entry_fits_14 (N : Nat) (Q : VP) : St → World → Prop := fun s w => grabK 179 [.val 2, .val 3, .val 5, .val 6, .val 7, .val 8, .val 9, .val 25, .val 91] s fun vs ls => match vs, ls with
  | [.pointer (some e2'), .pointer (some z3'), .pointer (some plain5'), .pointer (some ok6'), .func (.func 166) ⟨[]⟩ ⟨[.pointer (some tenant7_0), .pointer (some tenant7_1), .pointer (some tenant7_2), .pointer (some tenant7_3)]⟩, .func (.func 168) ⟨[]⟩ ⟨[.pointer (some cell8_0), .pointer (some cell8_1), .pointer (some cell8_2), .pointer (some cell8_3)]⟩, .func (.func 169) ⟨[]⟩ ⟨[.pointer (some n9_0), .pointer (some n9_1), .pointer (some n9_2)]⟩, .int .i64 v25', .bool v91'], [] => Reb N w s.L fun wa => C_entry_fits_14 N Q e2' z3' plain5' ok6' tenant7_0 tenant7_1 tenant7_2 tenant7_3 cell8_0 cell8_1 cell8_2 cell8_3 n9_0 n9_1 n9_2 v25' v91' wa
  | _, _ => False

theorem T_entry_fits_14 (N : Nat) (Q : VP) (s : St) (w : World) (h : H_entry_fits_14 N Q s w) : Snd (cy N []) k_entry_fits_3 (z_entry_fits_2 N Q) s w := by
  refine Snd.grab h (fun vs ls hd hloc wa hl => ?_)
  split at hd
  · exact X_entry_fits_14 (hd wa hl)
  · exact hd.elim

def C_entry_fits_13 (N : Nat) (Q : VP) (e2' z3' plain5' ok6' tenant7_0 tenant7_1 tenant7_2 tenant7_3 cell8_0 cell8_1 cell8_2 cell8_3 n9_0 n9_1 n9_2 epoch10_0 epoch10_1 epoch10_2 : Addr) (v25' : Int) (v85' : Bool) (w : World) : Prop :=
  IfB v85' (CallL PP N w [] n_entry_fits_1 [(.pointer (some tenant7_0)), (.pointer (some tenant7_1)), (.pointer (some tenant7_2)), (.pointer (some tenant7_3))] fun r58 w59 => r58 = (.tuple #[]) ∧ CallL PP N w59 [] n_entry_fits_4 [(.pointer (some epoch10_0)), (.pointer (some epoch10_1)), (.pointer (some epoch10_2))] fun r60 w61 => r60 = (.tuple #[]) ∧ Reb N w61 [] fun w62 => C_entry_fits_9 N Q e2' plain5' ok6' w62) (Reb N w [] fun w142 => C_entry_fits_14 N Q e2' z3' plain5' ok6' tenant7_0 tenant7_1 tenant7_2 tenant7_3 cell8_0 cell8_1 cell8_2 cell8_3 n9_0 n9_1 n9_2 v25' (decide ((v25' : Int) = 4)) w142)

theorem X_entry_fits_13 {N : Nat} {Q : VP} {e2' z3' plain5' ok6' tenant7_0 tenant7_1 tenant7_2 tenant7_3 cell8_0 cell8_1 cell8_2 cell8_3 n9_0 n9_1 n9_2 epoch10_0 epoch10_1 epoch10_2 : Addr} {v25' : Int} {v85' : Bool} {w : World} (h : C_entry_fits_13 N Q e2' z3' plain5' ok6' tenant7_0 tenant7_1 tenant7_2 tenant7_3 cell8_0 cell8_1 cell8_2 cell8_3 n9_0 n9_1 n9_2 epoch10_0 epoch10_1 epoch10_2 v25' v85' w) : Snd (cy N []) (cR (cR (cR (cR k_entry_fits_1)))) (z_entry_fits_2 N Q) (mkS 179 [.val 2, .val 3, .val 5, .val 6, .val 7, .val 8, .val 9, .val 10, .val 25, .val 85] [(.pointer (some e2')), (.pointer (some z3')), (.pointer (some plain5')), (.pointer (some ok6')), (.func (.func n_entry_fits_1) #[] #[(.pointer (some tenant7_0)), (.pointer (some tenant7_1)), (.pointer (some tenant7_2)), (.pointer (some tenant7_3))]), (.func (.func n_entry_fits_2) #[] #[(.pointer (some cell8_0)), (.pointer (some cell8_1)), (.pointer (some cell8_2)), (.pointer (some cell8_3))]), (.func (.func n_entry_fits_3) #[] #[(.pointer (some n9_0)), (.pointer (some n9_1)), (.pointer (some n9_2))]), (.func (.func n_entry_fits_4) #[] #[(.pointer (some epoch10_0)), (.pointer (some epoch10_1)), (.pointer (some epoch10_2))]), (.int .i64 v25'), (.bool v85')] []) w :=
  (Snd.cast (c' := .cond (.tmp 85) (cL (cR (cR (cR (cR k_entry_fits_1))))) (cR (cR (cR (cR (cR k_entry_fits_1)))))) (by kernel_rfl) (Snd.cond (t := v85') (by kernel_rfl) (by kernel_rfl) (fun ht => (fun h => (dsm h)) (ifb_t h ht)) (fun ht => (fun h => (sq (H_entry_fits_14 N Q) (dsm h) (T_entry_fits_14 N Q))) (ifb_f h ht))))

noncomputable def H_entry_fits_13 (N : Nat) (Q : VP) : St → World → Prop := fun s w => grabK 179 [.val 2, .val 3, .val 5, .val 6, .val 7, .val 8, .val 9, .val 10, .val 25, .val 85] s fun vs ls => match vs, ls with
  | [.pointer (some e2'), .pointer (some z3'), .pointer (some plain5'), .pointer (some ok6'), .func (.func 166) ⟨[]⟩ ⟨[.pointer (some tenant7_0), .pointer (some tenant7_1), .pointer (some tenant7_2), .pointer (some tenant7_3)]⟩, .func (.func 168) ⟨[]⟩ ⟨[.pointer (some cell8_0), .pointer (some cell8_1), .pointer (some cell8_2), .pointer (some cell8_3)]⟩, .func (.func 169) ⟨[]⟩ ⟨[.pointer (some n9_0), .pointer (some n9_1), .pointer (some n9_2)]⟩, .func (.func 170) ⟨[]⟩ ⟨[.pointer (some epoch10_0), .pointer (some epoch10_1), .pointer (some epoch10_2)]⟩, .int .i64 v25', .bool v85'], [] => Reb N w s.L fun wa => C_entry_fits_13 N Q e2' z3' plain5' ok6' tenant7_0 tenant7_1 tenant7_2 tenant7_3 cell8_0 cell8_1 cell8_2 cell8_3 n9_0 n9_1 n9_2 epoch10_0 epoch10_1 epoch10_2 v25' v85' wa
  | _, _ => False

theorem T_entry_fits_13 (N : Nat) (Q : VP) (s : St) (w : World) (h : H_entry_fits_13 N Q s w) : Snd (cy N []) (cR (cR (cR (cR k_entry_fits_1)))) (z_entry_fits_2 N Q) s w := by
  refine Snd.grab h (fun vs ls hd hloc wa hl => ?_)
  split at hd
  · exact X_entry_fits_13 (hd wa hl)
  · exact hd.elim

def C_entry_fits_12 (N : Nat) (Q : VP) (e2' z3' plain5' ok6' tenant7_0 tenant7_1 tenant7_2 tenant7_3 cell8_0 cell8_1 cell8_2 cell8_3 n9_0 n9_1 n9_2 epoch10_0 epoch10_1 epoch10_2 : Addr) (v25' : Int) (v55' : Bool) (w : World) : Prop :=
  IfB v55' (CallL PP N w [] n_entry_fits_1 [(.pointer (some tenant7_0)), (.pointer (some tenant7_1)), (.pointer (some tenant7_2)), (.pointer (some tenant7_3))] fun r30 w31 => r30 = (.tuple #[]) ∧ CallL PP N w31 [] n_entry_fits_2 [(.pointer (some cell8_0)), (.pointer (some cell8_1)), (.pointer (some cell8_2)), (.pointer (some cell8_3))] fun r32 w33 => r32 = (.tuple #[]) ∧ CallL PP N w33 [] n_entry_fits_4 [(.pointer (some epoch10_0)), (.pointer (some epoch10_1)), (.pointer (some epoch10_2))] fun r34 w35 => r34 = (.tuple #[]) ∧ ∃ n36 : Int, At w35 (addA z3' 3) [(.int .i64 n36)] ∧ NotIn ((addA z3' 3) : Addr).block [] ∧ CallL PP N w35 [] n_entry_fits_3 [(.int .i64 0), (.int .i64 (IntKind.i64.wrap (n36 - 1))), (.pointer (some n9_0)), (.pointer (some n9_1)), (.pointer (some n9_2))] fun r37 w38 => r37 = (.tuple #[]) ∧ ∃ n39 : Int, At w38 (addA e2' 6) [(.int .i64 n39)] ∧ NotIn ((addA e2' 6) : Addr).block [] ∧ ∃ n40 : Int, At w38 (addA e2' 7) [(.int .i64 n40)] ∧ NotIn ((addA e2' 7) : Addr).block [] ∧ StL w38 [] (addA plain5' 6) [(.int .i64 n39)] fun w41 => At w41 (addA e2' 7) [(.int .i64 n40)] ∧ StL w41 [] (addA plain5' 7) [(.int .i64 n40)] fun w42 => ∃ b43 : Bool, At w42 ok6' [(.bool b43)] ∧ NotIn (ok6' : Addr).block [] ∧ IfB b43 (∃ n44 : Int, At w42 (addA e2' 6) [(.int .i64 n44)] ∧ NotIn ((addA e2' 6) : Addr).block [] ∧ CallL PP N w42 [] n_entry_between [(.int .i64 n44), (.int .i64 0), (.int .i64 1073741824)] fun r46 w47 => ∃ b45 : Bool, r46 = (.bool b45) ∧ IfB b45 (∃ n48 : Int, At w47 (addA e2' 7) [(.int .i64 n48)] ∧ NotIn ((addA e2' 7) : Addr).block [] ∧ CallL PP N w47 [] n_entry_between [(.int .i64 n48), (.int .i64 0), (.int .i64 1073741824)] fun r50 w51 => ∃ b49 : Bool, r50 = (.bool b49) ∧ StL w51 [] ok6' [(.bool b49)] fun w52 => Reb N w52 [] fun w53 => C_entry_fits_9 N Q e2' plain5' ok6' w53) (StL w47 [] ok6' [(.bool false)] fun w54 => Reb N w54 [] fun w55 => C_entry_fits_9 N Q e2' plain5' ok6' w55)) (StL w42 [] ok6' [(.bool false)] fun w56 => Reb N w56 [] fun w57 => C_entry_fits_9 N Q e2' plain5' ok6' w57)) (Reb N w [] fun w143 => C_entry_fits_13 N Q e2' z3' plain5' ok6' tenant7_0 tenant7_1 tenant7_2 tenant7_3 cell8_0 cell8_1 cell8_2 cell8_3 n9_0 n9_1 n9_2 epoch10_0 epoch10_1 epoch10_2 v25' (decide ((v25' : Int) = 3)) w143)

theorem X_entry_fits_12 {N : Nat} {Q : VP} {e2' z3' plain5' ok6' tenant7_0 tenant7_1 tenant7_2 tenant7_3 cell8_0 cell8_1 cell8_2 cell8_3 n9_0 n9_1 n9_2 epoch10_0 epoch10_1 epoch10_2 : Addr} {v25' : Int} {v55' : Bool} {w : World} (h : C_entry_fits_12 N Q e2' z3' plain5' ok6' tenant7_0 tenant7_1 tenant7_2 tenant7_3 cell8_0 cell8_1 cell8_2 cell8_3 n9_0 n9_1 n9_2 epoch10_0 epoch10_1 epoch10_2 v25' v55' w) : Snd (cy N []) (cR (cR k_entry_fits_1)) (z_entry_fits_2 N Q) (mkS 179 [.val 2, .val 3, .val 5, .val 6, .val 7, .val 8, .val 9, .val 10, .val 25, .val 55] [(.pointer (some e2')), (.pointer (some z3')), (.pointer (some plain5')), (.pointer (some ok6')), (.func (.func n_entry_fits_1) #[] #[(.pointer (some tenant7_0)), (.pointer (some tenant7_1)), (.pointer (some tenant7_2)), (.pointer (some tenant7_3))]), (.func (.func n_entry_fits_2) #[] #[(.pointer (some cell8_0)), (.pointer (some cell8_1)), (.pointer (some cell8_2)), (.pointer (some cell8_3))]), (.func (.func n_entry_fits_3) #[] #[(.pointer (some n9_0)), (.pointer (some n9_1)), (.pointer (some n9_2))]), (.func (.func n_entry_fits_4) #[] #[(.pointer (some epoch10_0)), (.pointer (some epoch10_1)), (.pointer (some epoch10_2))]), (.int .i64 v25'), (.bool v55')] []) w :=
  (Snd.cast (c' := .cond (.tmp 55) (cL (cR (cR k_entry_fits_1))) (cR (cR (cR k_entry_fits_1)))) (by kernel_rfl) (Snd.cond (t := v55') (by kernel_rfl) (by kernel_rfl) (fun ht => (fun h => (dsm h)) (ifb_t h ht)) (fun ht => (fun h => (sq (H_entry_fits_13 N Q) (dsm h) (T_entry_fits_13 N Q))) (ifb_f h ht))))

noncomputable def H_entry_fits_12 (N : Nat) (Q : VP) : St → World → Prop := fun s w => grabK 179 [.val 2, .val 3, .val 5, .val 6, .val 7, .val 8, .val 9, .val 10, .val 25, .val 55] s fun vs ls => match vs, ls with
  | [.pointer (some e2'), .pointer (some z3'), .pointer (some plain5'), .pointer (some ok6'), .func (.func 166) ⟨[]⟩ ⟨[.pointer (some tenant7_0), .pointer (some tenant7_1), .pointer (some tenant7_2), .pointer (some tenant7_3)]⟩, .func (.func 168) ⟨[]⟩ ⟨[.pointer (some cell8_0), .pointer (some cell8_1), .pointer (some cell8_2), .pointer (some cell8_3)]⟩, .func (.func 169) ⟨[]⟩ ⟨[.pointer (some n9_0), .pointer (some n9_1), .pointer (some n9_2)]⟩, .func (.func 170) ⟨[]⟩ ⟨[.pointer (some epoch10_0), .pointer (some epoch10_1), .pointer (some epoch10_2)]⟩, .int .i64 v25', .bool v55'], [] => Reb N w s.L fun wa => C_entry_fits_12 N Q e2' z3' plain5' ok6' tenant7_0 tenant7_1 tenant7_2 tenant7_3 cell8_0 cell8_1 cell8_2 cell8_3 n9_0 n9_1 n9_2 epoch10_0 epoch10_1 epoch10_2 v25' v55' wa
  | _, _ => False

theorem T_entry_fits_12 (N : Nat) (Q : VP) (s : St) (w : World) (h : H_entry_fits_12 N Q s w) : Snd (cy N []) (cR (cR k_entry_fits_1)) (z_entry_fits_2 N Q) s w := by
  refine Snd.grab h (fun vs ls hd hloc wa hl => ?_)
  split at hd
  · exact X_entry_fits_12 (hd wa hl)
  · exact hd.elim

def C_entry_fits_11 (N : Nat) (Q : VP) (e2' z3' plain5' ok6' tenant7_0 tenant7_1 tenant7_2 tenant7_3 cell8_0 cell8_1 cell8_2 cell8_3 n9_0 n9_1 n9_2 epoch10_0 epoch10_1 epoch10_2 : Addr) (v25' : Int) (v26' : Bool) (w : World) : Prop :=
  IfB v26' (CallL PP N w [] n_entry_fits_1 [(.pointer (some tenant7_0)), (.pointer (some tenant7_1)), (.pointer (some tenant7_2)), (.pointer (some tenant7_3))] fun r4 w5 => r4 = (.tuple #[]) ∧ CallL PP N w5 [] n_entry_fits_2 [(.pointer (some cell8_0)), (.pointer (some cell8_1)), (.pointer (some cell8_2)), (.pointer (some cell8_3))] fun r6 w7 => r6 = (.tuple #[]) ∧ ∃ n8 : Int, At w7 (addA e2' 4) [(.int .i64 n8)] ∧ NotIn ((addA e2' 4) : Addr).block [] ∧ ∃ b9 : Bool, At w7 ok6' [(.bool b9)] ∧ NotIn (ok6' : Addr).block [] ∧ IfB b9 (∃ n10 : Int, At w7 (addA e2' 4) [(.int .i64 n10)] ∧ NotIn ((addA e2' 4) : Addr).block [] ∧ ∃ n11 : Int, At w7 (addA e2' 3) [(.int .i64 n11)] ∧ NotIn ((addA e2' 3) : Addr).block [] ∧ IfB (!decide ((n10 : Int) = n11)) (∃ n12 : Int, At w7 (addA e2' 4) [(.int .i64 n12)] ∧ NotIn ((addA e2' 4) : Addr).block [] ∧ IfB (decide ((n12 : Int) = (-1))) (StL w7 [] (addA plain5' 4) [(.int .i64 n8)] fun w13 => StL w13 [] ok6' [(.bool true)] fun w14 => Reb N w14 [] fun w15 => C_entry_fits_9 N Q e2' plain5' ok6' w15) (∃ n16 : Int, At w7 (addA e2' 4) [(.int .i64 n16)] ∧ NotIn ((addA e2' 4) : Addr).block [] ∧ ∃ n17 : Int, At w7 (addA z3' 1) [(.int .i64 n17)] ∧ NotIn ((addA z3' 1) : Addr).block [] ∧ CallL PP N w7 [] n_entry_index [(.int .i64 n16), (.int .i64 n17)] fun r19 w20 => ∃ b18 : Bool, r19 = (.bool b18) ∧ At w20 (addA e2' 4) [(.int .i64 n8)] ∧ StL w20 [] (addA plain5' 4) [(.int .i64 n8)] fun w21 => StL w21 [] ok6' [(.bool b18)] fun w22 => Reb N w22 [] fun w23 => C_entry_fits_9 N Q e2' plain5' ok6' w23)) (StL w7 [] (addA plain5' 4) [(.int .i64 n8)] fun w24 => StL w24 [] ok6' [(.bool false)] fun w25 => Reb N w25 [] fun w26 => C_entry_fits_9 N Q e2' plain5' ok6' w26)) (StL w7 [] (addA plain5' 4) [(.int .i64 n8)] fun w27 => StL w27 [] ok6' [(.bool false)] fun w28 => Reb N w28 [] fun w29 => C_entry_fits_9 N Q e2' plain5' ok6' w29)) (Reb N w [] fun w144 => C_entry_fits_12 N Q e2' z3' plain5' ok6' tenant7_0 tenant7_1 tenant7_2 tenant7_3 cell8_0 cell8_1 cell8_2 cell8_3 n9_0 n9_1 n9_2 epoch10_0 epoch10_1 epoch10_2 v25' (decide ((v25' : Int) = 2)) w144)

theorem X_entry_fits_11 {N : Nat} {Q : VP} {e2' z3' plain5' ok6' tenant7_0 tenant7_1 tenant7_2 tenant7_3 cell8_0 cell8_1 cell8_2 cell8_3 n9_0 n9_1 n9_2 epoch10_0 epoch10_1 epoch10_2 : Addr} {v25' : Int} {v26' : Bool} {w : World} (h : C_entry_fits_11 N Q e2' z3' plain5' ok6' tenant7_0 tenant7_1 tenant7_2 tenant7_3 cell8_0 cell8_1 cell8_2 cell8_3 n9_0 n9_1 n9_2 epoch10_0 epoch10_1 epoch10_2 v25' v26' w) : Snd (cy N []) k_entry_fits_1 (z_entry_fits_2 N Q) (mkS 179 [.val 2, .val 3, .val 5, .val 6, .val 7, .val 8, .val 9, .val 10, .val 25, .val 26] [(.pointer (some e2')), (.pointer (some z3')), (.pointer (some plain5')), (.pointer (some ok6')), (.func (.func n_entry_fits_1) #[] #[(.pointer (some tenant7_0)), (.pointer (some tenant7_1)), (.pointer (some tenant7_2)), (.pointer (some tenant7_3))]), (.func (.func n_entry_fits_2) #[] #[(.pointer (some cell8_0)), (.pointer (some cell8_1)), (.pointer (some cell8_2)), (.pointer (some cell8_3))]), (.func (.func n_entry_fits_3) #[] #[(.pointer (some n9_0)), (.pointer (some n9_1)), (.pointer (some n9_2))]), (.func (.func n_entry_fits_4) #[] #[(.pointer (some epoch10_0)), (.pointer (some epoch10_1)), (.pointer (some epoch10_2))]), (.int .i64 v25'), (.bool v26')] []) w :=
  (Snd.cast (c' := .cond (.tmp 26) (cL k_entry_fits_1) (cR k_entry_fits_1)) (by kernel_rfl) (Snd.cond (t := v26') (by kernel_rfl) (by kernel_rfl) (fun ht => (fun h => (dsm h)) (ifb_t h ht)) (fun ht => (fun h => (sq (H_entry_fits_12 N Q) (dsm h) (T_entry_fits_12 N Q))) (ifb_f h ht))))

noncomputable def H_entry_fits_11 (N : Nat) (Q : VP) : St → World → Prop := fun s w => grabK 179 [.val 2, .val 3, .val 5, .val 6, .val 7, .val 8, .val 9, .val 10, .val 25, .val 26] s fun vs ls => match vs, ls with
  | [.pointer (some e2'), .pointer (some z3'), .pointer (some plain5'), .pointer (some ok6'), .func (.func 166) ⟨[]⟩ ⟨[.pointer (some tenant7_0), .pointer (some tenant7_1), .pointer (some tenant7_2), .pointer (some tenant7_3)]⟩, .func (.func 168) ⟨[]⟩ ⟨[.pointer (some cell8_0), .pointer (some cell8_1), .pointer (some cell8_2), .pointer (some cell8_3)]⟩, .func (.func 169) ⟨[]⟩ ⟨[.pointer (some n9_0), .pointer (some n9_1), .pointer (some n9_2)]⟩, .func (.func 170) ⟨[]⟩ ⟨[.pointer (some epoch10_0), .pointer (some epoch10_1), .pointer (some epoch10_2)]⟩, .int .i64 v25', .bool v26'], [] => Reb N w s.L fun wa => C_entry_fits_11 N Q e2' z3' plain5' ok6' tenant7_0 tenant7_1 tenant7_2 tenant7_3 cell8_0 cell8_1 cell8_2 cell8_3 n9_0 n9_1 n9_2 epoch10_0 epoch10_1 epoch10_2 v25' v26' wa
  | _, _ => False

theorem T_entry_fits_11 (N : Nat) (Q : VP) (s : St) (w : World) (h : H_entry_fits_11 N Q s w) : Snd (cy N []) k_entry_fits_1 (z_entry_fits_2 N Q) s w := by
  refine Snd.grab h (fun vs ls hd hloc wa hl => ?_)
  split at hd
  · exact X_entry_fits_11 (hd wa hl)
  · exact hd.elim

def C_entry_fits_10 (N : Nat) (Q : VP) (e2' z3' plain5' ok6' tenant7_0 tenant7_1 tenant7_2 tenant7_3 cell8_0 cell8_1 cell8_2 cell8_3 n9_0 n9_1 n9_2 epoch10_0 epoch10_1 epoch10_2 : Addr) (v25' : Int) (w : World) : Prop :=
  Reb N w [] fun w145 => C_entry_fits_11 N Q e2' z3' plain5' ok6' tenant7_0 tenant7_1 tenant7_2 tenant7_3 cell8_0 cell8_1 cell8_2 cell8_3 n9_0 n9_1 n9_2 epoch10_0 epoch10_1 epoch10_2 v25' (decide ((v25' : Int) = 1)) w145

theorem X_entry_fits_10 {N : Nat} {Q : VP} {e2' z3' plain5' ok6' tenant7_0 tenant7_1 tenant7_2 tenant7_3 cell8_0 cell8_1 cell8_2 cell8_3 n9_0 n9_1 n9_2 epoch10_0 epoch10_1 epoch10_2 : Addr} {v25' : Int} {w : World} (h : C_entry_fits_10 N Q e2' z3' plain5' ok6' tenant7_0 tenant7_1 tenant7_2 tenant7_3 cell8_0 cell8_1 cell8_2 cell8_3 n9_0 n9_1 n9_2 epoch10_0 epoch10_1 epoch10_2 v25' w) : Snd (cy N []) (cR (cL (cR (cR (cR k_entry_fits_0))))) (thenD (H_entry_fits_9 N Q) (retD (cy N []) Try.f157 Q)) (mkS 179 [.val 2, .val 3, .val 5, .val 6, .val 7, .val 8, .val 9, .val 10, .val 25] [(.pointer (some e2')), (.pointer (some z3')), (.pointer (some plain5')), (.pointer (some ok6')), (.func (.func n_entry_fits_1) #[] #[(.pointer (some tenant7_0)), (.pointer (some tenant7_1)), (.pointer (some tenant7_2)), (.pointer (some tenant7_3))]), (.func (.func n_entry_fits_2) #[] #[(.pointer (some cell8_0)), (.pointer (some cell8_1)), (.pointer (some cell8_2)), (.pointer (some cell8_3))]), (.func (.func n_entry_fits_3) #[] #[(.pointer (some n9_0)), (.pointer (some n9_1)), (.pointer (some n9_2))]), (.func (.func n_entry_fits_4) #[] #[(.pointer (some epoch10_0)), (.pointer (some epoch10_1)), (.pointer (some epoch10_2))]), (.int .i64 v25')] []) w :=
  (bk 0 (sq (H_entry_fits_11 N Q) (dsm h) (T_entry_fits_11 N Q)))

noncomputable def H_entry_fits_10 (N : Nat) (Q : VP) : St → World → Prop := fun s w => grabK 179 [.val 2, .val 3, .val 5, .val 6, .val 7, .val 8, .val 9, .val 10, .val 25] s fun vs ls => match vs, ls with
  | [.pointer (some e2'), .pointer (some z3'), .pointer (some plain5'), .pointer (some ok6'), .func (.func 166) ⟨[]⟩ ⟨[.pointer (some tenant7_0), .pointer (some tenant7_1), .pointer (some tenant7_2), .pointer (some tenant7_3)]⟩, .func (.func 168) ⟨[]⟩ ⟨[.pointer (some cell8_0), .pointer (some cell8_1), .pointer (some cell8_2), .pointer (some cell8_3)]⟩, .func (.func 169) ⟨[]⟩ ⟨[.pointer (some n9_0), .pointer (some n9_1), .pointer (some n9_2)]⟩, .func (.func 170) ⟨[]⟩ ⟨[.pointer (some epoch10_0), .pointer (some epoch10_1), .pointer (some epoch10_2)]⟩, .int .i64 v25'], [] => Reb N w s.L fun wa => C_entry_fits_10 N Q e2' z3' plain5' ok6' tenant7_0 tenant7_1 tenant7_2 tenant7_3 cell8_0 cell8_1 cell8_2 cell8_3 n9_0 n9_1 n9_2 epoch10_0 epoch10_1 epoch10_2 v25' wa
  | _, _ => False

theorem T_entry_fits_10 (N : Nat) (Q : VP) (s : St) (w : World) (h : H_entry_fits_10 N Q s w) : Snd (cy N []) (cR (cL (cR (cR (cR k_entry_fits_0))))) (thenD (H_entry_fits_9 N Q) (retD (cy N []) Try.f157 Q)) s w := by
  refine Snd.grab h (fun vs ls hd hloc wa hl => ?_)
  split at hd
  · exact X_entry_fits_10 (hd wa hl)
  · exact hd.elim

def C_entry_fits_8 (N : Nat) (Q : VP) (e2' z3' plain5' ok6' tenant7_0 tenant7_1 tenant7_2 tenant7_3 cell8_0 cell8_1 cell8_2 cell8_3 n9_0 n9_1 n9_2 epoch10_0 epoch10_1 epoch10_2 : Addr) (w : World) : Prop :=
  ∃ n146 : Int, At w e2' [(.int .i64 n146)] ∧ NotIn (e2' : Addr).block [] ∧ Reb N w [] fun w147 => C_entry_fits_10 N Q e2' z3' plain5' ok6' tenant7_0 tenant7_1 tenant7_2 tenant7_3 cell8_0 cell8_1 cell8_2 cell8_3 n9_0 n9_1 n9_2 epoch10_0 epoch10_1 epoch10_2 n146 w147

theorem X_entry_fits_8 {N : Nat} {Q : VP} {e2' z3' plain5' ok6' tenant7_0 tenant7_1 tenant7_2 tenant7_3 cell8_0 cell8_1 cell8_2 cell8_3 n9_0 n9_1 n9_2 epoch10_0 epoch10_1 epoch10_2 : Addr} {w : World} (h : C_entry_fits_8 N Q e2' z3' plain5' ok6' tenant7_0 tenant7_1 tenant7_2 tenant7_3 cell8_0 cell8_1 cell8_2 cell8_3 n9_0 n9_1 n9_2 epoch10_0 epoch10_1 epoch10_2 w) : Snd (cy N []) (cR (cR (cR k_entry_fits_0))) (retD (cy N []) Try.f157 Q) (mkS 179 [.val 2, .val 3, .val 5, .val 6, .val 7, .val 8, .val 9, .val 10] [(.pointer (some e2')), (.pointer (some z3')), (.pointer (some plain5')), (.pointer (some ok6')), (.func (.func n_entry_fits_1) #[] #[(.pointer (some tenant7_0)), (.pointer (some tenant7_1)), (.pointer (some tenant7_2)), (.pointer (some tenant7_3))]), (.func (.func n_entry_fits_2) #[] #[(.pointer (some cell8_0)), (.pointer (some cell8_1)), (.pointer (some cell8_2)), (.pointer (some cell8_3))]), (.func (.func n_entry_fits_3) #[] #[(.pointer (some n9_0)), (.pointer (some n9_1)), (.pointer (some n9_2))]), (.func (.func n_entry_fits_4) #[] #[(.pointer (some epoch10_0)), (.pointer (some epoch10_1)), (.pointer (some epoch10_2))])] []) w :=
  (sq (H_entry_fits_9 N Q) (sq (H_entry_fits_10 N Q) (dsm h) (T_entry_fits_10 N Q)) (T_entry_fits_9 N Q))

noncomputable def H_entry_fits_8 (N : Nat) (Q : VP) : St → World → Prop := fun s w => grabK 179 [.val 2, .val 3, .val 5, .val 6, .val 7, .val 8, .val 9, .val 10] s fun vs ls => match vs, ls with
  | [.pointer (some e2'), .pointer (some z3'), .pointer (some plain5'), .pointer (some ok6'), .func (.func 166) ⟨[]⟩ ⟨[.pointer (some tenant7_0), .pointer (some tenant7_1), .pointer (some tenant7_2), .pointer (some tenant7_3)]⟩, .func (.func 168) ⟨[]⟩ ⟨[.pointer (some cell8_0), .pointer (some cell8_1), .pointer (some cell8_2), .pointer (some cell8_3)]⟩, .func (.func 169) ⟨[]⟩ ⟨[.pointer (some n9_0), .pointer (some n9_1), .pointer (some n9_2)]⟩, .func (.func 170) ⟨[]⟩ ⟨[.pointer (some epoch10_0), .pointer (some epoch10_1), .pointer (some epoch10_2)]⟩], [] => Reb N w s.L fun wa => C_entry_fits_8 N Q e2' z3' plain5' ok6' tenant7_0 tenant7_1 tenant7_2 tenant7_3 cell8_0 cell8_1 cell8_2 cell8_3 n9_0 n9_1 n9_2 epoch10_0 epoch10_1 epoch10_2 wa
  | _, _ => False

theorem T_entry_fits_8 (N : Nat) (Q : VP) (s : St) (w : World) (h : H_entry_fits_8 N Q s w) : Snd (cy N []) (cR (cR (cR k_entry_fits_0))) (retD (cy N []) Try.f157 Q) s w := by
  refine Snd.grab h (fun vs ls hd hloc wa hl => ?_)
  split at hd
  · exact X_entry_fits_8 (hd wa hl)
  · exact hd.elim

def C_entry_fits_7 (N : Nat) (Q : VP) (e2' z3' plain5' ok6' tenant7_0 tenant7_1 tenant7_2 tenant7_3 cell8_0 cell8_1 cell8_2 cell8_3 n9_0 n9_1 n9_2 : Addr) (w : World) : Prop :=
  Reb N w [] fun w148 => C_entry_fits_8 N Q e2' z3' plain5' ok6' tenant7_0 tenant7_1 tenant7_2 tenant7_3 cell8_0 cell8_1 cell8_2 cell8_3 n9_0 n9_1 n9_2 e2' ok6' plain5' w148

theorem X_entry_fits_7 {N : Nat} {Q : VP} {e2' z3' plain5' ok6' tenant7_0 tenant7_1 tenant7_2 tenant7_3 cell8_0 cell8_1 cell8_2 cell8_3 n9_0 n9_1 n9_2 : Addr} {w : World} (h : C_entry_fits_7 N Q e2' z3' plain5' ok6' tenant7_0 tenant7_1 tenant7_2 tenant7_3 cell8_0 cell8_1 cell8_2 cell8_3 n9_0 n9_1 n9_2 w) : Snd (cy N []) (cR (cR k_entry_fits_0)) (retD (cy N []) Try.f157 Q) (mkS 179 [.val 2, .val 3, .val 5, .val 6, .val 7, .val 8, .val 9] [(.pointer (some e2')), (.pointer (some z3')), (.pointer (some plain5')), (.pointer (some ok6')), (.func (.func n_entry_fits_1) #[] #[(.pointer (some tenant7_0)), (.pointer (some tenant7_1)), (.pointer (some tenant7_2)), (.pointer (some tenant7_3))]), (.func (.func n_entry_fits_2) #[] #[(.pointer (some cell8_0)), (.pointer (some cell8_1)), (.pointer (some cell8_2)), (.pointer (some cell8_3))]), (.func (.func n_entry_fits_3) #[] #[(.pointer (some n9_0)), (.pointer (some n9_1)), (.pointer (some n9_2))])] []) w :=
  (sq (H_entry_fits_8 N Q) (dsm h) (T_entry_fits_8 N Q))

noncomputable def H_entry_fits_7 (N : Nat) (Q : VP) : St → World → Prop := fun s w => grabK 179 [.val 2, .val 3, .val 5, .val 6, .val 7, .val 8, .val 9] s fun vs ls => match vs, ls with
  | [.pointer (some e2'), .pointer (some z3'), .pointer (some plain5'), .pointer (some ok6'), .func (.func 166) ⟨[]⟩ ⟨[.pointer (some tenant7_0), .pointer (some tenant7_1), .pointer (some tenant7_2), .pointer (some tenant7_3)]⟩, .func (.func 168) ⟨[]⟩ ⟨[.pointer (some cell8_0), .pointer (some cell8_1), .pointer (some cell8_2), .pointer (some cell8_3)]⟩, .func (.func 169) ⟨[]⟩ ⟨[.pointer (some n9_0), .pointer (some n9_1), .pointer (some n9_2)]⟩], [] => Reb N w s.L fun wa => C_entry_fits_7 N Q e2' z3' plain5' ok6' tenant7_0 tenant7_1 tenant7_2 tenant7_3 cell8_0 cell8_1 cell8_2 cell8_3 n9_0 n9_1 n9_2 wa
  | _, _ => False

theorem T_entry_fits_7 (N : Nat) (Q : VP) (s : St) (w : World) (h : H_entry_fits_7 N Q s w) : Snd (cy N []) (cR (cR k_entry_fits_0)) (retD (cy N []) Try.f157 Q) s w := by
  refine Snd.grab h (fun vs ls hd hloc wa hl => ?_)
  split at hd
  · exact X_entry_fits_7 (hd wa hl)
  · exact hd.elim

def C_entry_fits_6 (N : Nat) (Q : VP) (e2' z3' plain5' ok6' tenant7_0 tenant7_1 tenant7_2 tenant7_3 cell8_0 cell8_1 cell8_2 cell8_3 : Addr) (w : World) : Prop :=
  Reb N w [] fun w149 => C_entry_fits_7 N Q e2' z3' plain5' ok6' tenant7_0 tenant7_1 tenant7_2 tenant7_3 cell8_0 cell8_1 cell8_2 cell8_3 e2' ok6' plain5' w149

theorem X_entry_fits_6 {N : Nat} {Q : VP} {e2' z3' plain5' ok6' tenant7_0 tenant7_1 tenant7_2 tenant7_3 cell8_0 cell8_1 cell8_2 cell8_3 : Addr} {w : World} (h : C_entry_fits_6 N Q e2' z3' plain5' ok6' tenant7_0 tenant7_1 tenant7_2 tenant7_3 cell8_0 cell8_1 cell8_2 cell8_3 w) : Snd (cy N []) (cR k_entry_fits_0) (retD (cy N []) Try.f157 Q) (mkS 179 [.val 2, .val 3, .val 5, .val 6, .val 7, .val 8] [(.pointer (some e2')), (.pointer (some z3')), (.pointer (some plain5')), (.pointer (some ok6')), (.func (.func n_entry_fits_1) #[] #[(.pointer (some tenant7_0)), (.pointer (some tenant7_1)), (.pointer (some tenant7_2)), (.pointer (some tenant7_3))]), (.func (.func n_entry_fits_2) #[] #[(.pointer (some cell8_0)), (.pointer (some cell8_1)), (.pointer (some cell8_2)), (.pointer (some cell8_3))])] []) w :=
  (sq (H_entry_fits_7 N Q) (dsm h) (T_entry_fits_7 N Q))

noncomputable def H_entry_fits_6 (N : Nat) (Q : VP) : St → World → Prop := fun s w => grabK 179 [.val 2, .val 3, .val 5, .val 6, .val 7, .val 8] s fun vs ls => match vs, ls with
  | [.pointer (some e2'), .pointer (some z3'), .pointer (some plain5'), .pointer (some ok6'), .func (.func 166) ⟨[]⟩ ⟨[.pointer (some tenant7_0), .pointer (some tenant7_1), .pointer (some tenant7_2), .pointer (some tenant7_3)]⟩, .func (.func 168) ⟨[]⟩ ⟨[.pointer (some cell8_0), .pointer (some cell8_1), .pointer (some cell8_2), .pointer (some cell8_3)]⟩], [] => Reb N w s.L fun wa => C_entry_fits_6 N Q e2' z3' plain5' ok6' tenant7_0 tenant7_1 tenant7_2 tenant7_3 cell8_0 cell8_1 cell8_2 cell8_3 wa
  | _, _ => False

theorem T_entry_fits_6 (N : Nat) (Q : VP) (s : St) (w : World) (h : H_entry_fits_6 N Q s w) : Snd (cy N []) (cR k_entry_fits_0) (retD (cy N []) Try.f157 Q) s w := by
  refine Snd.grab h (fun vs ls hd hloc wa hl => ?_)
  split at hd
  · exact X_entry_fits_6 (hd wa hl)
  · exact hd.elim

def C_entry_fits_5 (N : Nat) (Q : VP) (e2' z3' plain5' ok6' tenant7_0 tenant7_1 tenant7_2 tenant7_3 : Addr) (w : World) : Prop :=
  Reb N w [] fun w150 => C_entry_fits_6 N Q e2' z3' plain5' ok6' tenant7_0 tenant7_1 tenant7_2 tenant7_3 e2' ok6' z3' plain5' w150

theorem X_entry_fits_5 {N : Nat} {Q : VP} {e2' z3' plain5' ok6' tenant7_0 tenant7_1 tenant7_2 tenant7_3 : Addr} {w : World} (h : C_entry_fits_5 N Q e2' z3' plain5' ok6' tenant7_0 tenant7_1 tenant7_2 tenant7_3 w) : Snd (cy N []) k_entry_fits_0 (retD (cy N []) Try.f157 Q) (mkS 179 [.val 2, .val 3, .val 5, .val 6, .val 7] [(.pointer (some e2')), (.pointer (some z3')), (.pointer (some plain5')), (.pointer (some ok6')), (.func (.func n_entry_fits_1) #[] #[(.pointer (some tenant7_0)), (.pointer (some tenant7_1)), (.pointer (some tenant7_2)), (.pointer (some tenant7_3))])] []) w :=
  (sq (H_entry_fits_6 N Q) (dsm h) (T_entry_fits_6 N Q))

noncomputable def H_entry_fits_5 (N : Nat) (Q : VP) : St → World → Prop := fun s w => grabK 179 [.val 2, .val 3, .val 5, .val 6, .val 7] s fun vs ls => match vs, ls with
  | [.pointer (some e2'), .pointer (some z3'), .pointer (some plain5'), .pointer (some ok6'), .func (.func 166) ⟨[]⟩ ⟨[.pointer (some tenant7_0), .pointer (some tenant7_1), .pointer (some tenant7_2), .pointer (some tenant7_3)]⟩], [] => Reb N w s.L fun wa => C_entry_fits_5 N Q e2' z3' plain5' ok6' tenant7_0 tenant7_1 tenant7_2 tenant7_3 wa
  | _, _ => False

theorem T_entry_fits_5 (N : Nat) (Q : VP) (s : St) (w : World) (h : H_entry_fits_5 N Q s w) : Snd (cy N []) k_entry_fits_0 (retD (cy N []) Try.f157 Q) s w := by
  refine Snd.grab h (fun vs ls hd hloc wa hl => ?_)
  split at hd
  · exact X_entry_fits_5 (hd wa hl)
  · exact hd.elim

def C_entry_fits_4 (N : Nat) (Q : VP) (e2' z3' plain5' ok6' : Addr) (w : World) : Prop :=
  Reb N w [] fun w151 => C_entry_fits_5 N Q e2' z3' plain5' ok6' e2' ok6' z3' plain5' w151

noncomputable def H_entry_fits_4 (N : Nat) (Q : VP) : St → World → Prop := HG N 179 [.v 2 .p, .v 3 .p, .v 5 .p, .v 6 .p] (C_entry_fits_4 N Q)

theorem T_entry_fits_4 (N : Nat) (Q : VP) (s : St) (w : World) (h : H_entry_fits_4 N Q s w) : Snd (cy N []) (cR (cR (cR (cR (bodyOf Try.f157))))) (retD (cy N []) Try.f157 Q) s w :=
  Snd.HG h fun e2' z3' plain5' ok6' w h => (sq (H_entry_fits_5 N Q) (dsm h) (T_entry_fits_5 N Q))

def C_entry_fits_3 (N : Nat) (Q : VP) (e2' z3' plain5' : Addr) (w : World) : Prop :=
  NewL N w [] [(.bool false)] t_bool fun b152 w153 => StL w153 [] ⟨b152, 0, none⟩ [(.bool true)] fun w154 => Reb N w154 [] fun w155 => C_entry_fits_4 N Q e2' z3' plain5' ⟨b152, 0, none⟩ w155

noncomputable def H_entry_fits_3 (N : Nat) (Q : VP) : St → World → Prop := HG N 179 [.v 2 .p, .v 3 .p, .v 5 .p] (C_entry_fits_3 N Q)

theorem T_entry_fits_3 (N : Nat) (Q : VP) (s : St) (w : World) (h : H_entry_fits_3 N Q s w) : Snd (cy N []) (cR (cR (cR (bodyOf Try.f157)))) (retD (cy N []) Try.f157 Q) s w :=
  Snd.HG h fun e2' z3' plain5' w h => (sq (H_entry_fits_4 N Q) (dsm h) (T_entry_fits_4 N Q))

def C_entry_fits_2 (N : Nat) (Q : VP) (e2' z3' plain5' : Addr) (w : World) : Prop :=
  ∃ n156 : Int, At w (addA e2' 1) [(.int .i64 n156)] ∧ NotIn ((addA e2' 1) : Addr).block [] ∧ CallL PP N w [] n_entry_between [(.int .i64 n156), (.int .i64 0), (.int .i64 1073741824)] fun r158 w159 => ∃ b157 : Bool, r158 = (.bool b157) ∧ IfB (!b157) (Reb N w159 [] (Q (.bool false))) (Reb N w159 [] fun w160 => C_entry_fits_3 N Q e2' z3' plain5' w160)

noncomputable def H_entry_fits_2 (N : Nat) (Q : VP) : St → World → Prop := HG N 179 [.v 2 .p, .v 3 .p, .v 5 .p] (C_entry_fits_2 N Q)

theorem T_entry_fits_2 (N : Nat) (Q : VP) (s : St) (w : World) (h : H_entry_fits_2 N Q s w) : Snd (cy N []) (cR (cR (bodyOf Try.f157))) (retD (cy N []) Try.f157 Q) s w :=
  Snd.HG h fun e2' z3' plain5' w h => (sq (H_entry_fits_3 N Q) (dsm h) (T_entry_fits_3 N Q))

def C_entry_fits_1 (N : Nat) (Q : VP) (e2' z3' : Addr) (w : World) : Prop :=
  ∃ n161 : Int, At w e2' [(.int .i64 n161)] ∧ NotIn (e2' : Addr).block [] ∧ ∃ n162 : Int, At w (addA e2' 1) [(.int .i64 n162)] ∧ NotIn ((addA e2' 1) : Addr).block [] ∧ NewL N w [] (⟨0, 0, 0, 0, 0, 0, 0, 0, 0⟩ : G_api_Entry).cells t_api_Entry fun b163 w164 => StL w164 [] ⟨b163, 0, none⟩ (⟨n161, n162, (-1), (-1), (-1), 0, 0, 0, 0⟩ : G_api_Entry).cells fun w165 => Reb N w165 [] fun w166 => C_entry_fits_2 N Q e2' z3' ⟨b163, 0, none⟩ w166

noncomputable def H_entry_fits_1 (N : Nat) (Q : VP) : St → World → Prop := HG N 179 [.v 2 .p, .v 3 .p] (C_entry_fits_1 N Q)

theorem T_entry_fits_1 (N : Nat) (Q : VP) (s : St) (w : World) (h : H_entry_fits_1 N Q s w) : Snd (cy N []) (cR (bodyOf Try.f157)) (retD (cy N []) Try.f157 Q) s w :=
  Snd.HG h fun e2' z3' w h => (sq (H_entry_fits_2 N Q) (dsm h) (T_entry_fits_2 N Q))

def F_entry_fits (N : Nat) (e0 : G_api_Entry) (z1 : G_entry_sizes) (Q : VP) (w : World) : Prop :=
  NewL N w [] e0.cells t_api_Entry fun b167 w168 => NewL N w168 [] z1.cells t_entry_sizes fun b169 w170 => Reb N w170 [] fun w171 => C_entry_fits_1 N Q ⟨b167, 0, none⟩ ⟨b169, 0, none⟩ w171

theorem entry_fits_snd (N : Nat) (e0 : G_api_Entry) (z1 : G_entry_sizes) (Q : VP) (w : World) (h : F_entry_fits N e0 z1 Q w) : Snd (cy N []) (bodyOf Try.f157) (retD (cy N []) Try.f157 Q) (entry 179 [(.agg (List.toArray e0.cells)), (.agg (List.toArray z1.cells))]) w :=
  (sq (H_entry_fits_1 N Q) (dsm h) (T_entry_fits_1 N Q))

theorem entry_fits_calls (e0 : G_api_Entry) (z1 : G_entry_sizes) (Q : VP) (w : World) (h : F_entry_fits w.heap.size e0 z1 Q w) : Calls PP n_entry_fits [(.agg (List.toArray e0.cells)), (.agg (List.toArray z1.cells))].toArray w fun e w' => ∃ v, e = .returned v ∧ Q v w' :=
  calls_of (C := cy w.heap.size []) (fn := Try.f157) (c := (bodyOf Try.f157)) (by kernel_rfl) (by kernel_rfl) (Nat.le_refl _) (entry_fits_snd _ e0 z1 Q w h)
end Go.Sh
