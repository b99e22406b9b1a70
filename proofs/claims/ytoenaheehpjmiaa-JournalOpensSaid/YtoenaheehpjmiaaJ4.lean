/- What these functions do, told by computation: a formula for each, and that its calls do what the formula says.
   Conditions: none. -/
import Derived.Test.YtoenaheehpjmiaaBase
namespace Go.Sh
open Go Go.Proofs
set_option linter.unusedVariables false
set_option maxRecDepth 100000

/-! ### cellplanelaw08_JournalVotes -/
def C_cellplanelaw08_JournalVotes_4 (N : Nat) (Q : VP) (w : World) : Prop :=
  Reb N w [] (Q (.bool true))

noncomputable def H_cellplanelaw08_JournalVotes_4 (N : Nat) (Q : VP) : St → World → Prop := HG N 122 [] (C_cellplanelaw08_JournalVotes_4 N Q)

theorem T_cellplanelaw08_JournalVotes_4 (N : Nat) (Q : VP) (s : St) (w : World) (h : H_cellplanelaw08_JournalVotes_4 N Q s w) : Snd (cy N []) (cR (cR (cR (cR (bodyOf Try.f5))))) (retD (cy N []) Try.f5 Q) s w :=
  Snd.HG h fun _ h => dsm h

noncomputable def z_cellplanelaw08_JournalVotes_0 (N : Nat) (Q : VP) : Cont := (thenD (H_cellplanelaw08_JournalVotes_4 N Q) (retD (cy N []) Try.f5 Q))

def D_cellplanelaw08_JournalVotes_6 (K : (Sl × (Option Addr)) → (Int) → Prop) : List Value → List LB → Prop := fun vs ls => match vs, ls with
  | [.slice l0'_a l0'_n l0'_c, .pointer j3', .int .i64 i4'], [] => K (⟨l0'_a, l0'_n, l0'_c⟩, j3') i4'
  | _, _ => False

noncomputable def k_cellplanelaw08_JournalVotes_1 : Code := (cL (cR (cL (cR (cR (cR (bodyOf Try.f5)))))))

noncomputable def k_cellplanelaw08_JournalVotes_2 : Code := (cR (cL k_cellplanelaw08_JournalVotes_1))

noncomputable def z_cellplanelaw08_JournalVotes_3 (N : Nat) (K1 : (Sl × (Option Addr)) → (Int) → World → Prop) (Q : VP) : Cont := (thenD (HeadK N 122 [.val 0, .val 3, .val 4] D_cellplanelaw08_JournalVotes_6 K1) (inBlockD 0 (z_cellplanelaw08_JournalVotes_0 N Q)))

def C_cellplanelaw08_JournalVotes_8 (N : Nat) (K1 : (Sl × (Option Addr)) → (Int) → World → Prop) (Q : VP) (l0' : Sl) (j3' : Option Addr) (i4' : Int) (w : World) : Prop :=
  Reb N w [] fun w1 => K1 (l0', j3') (IntKind.i64.wrap (i4' + 1)) w1

noncomputable def H_cellplanelaw08_JournalVotes_8 (N : Nat) (K1 : (Sl × (Option Addr)) → (Int) → World → Prop) (Q : VP) : St → World → Prop := HG N 122 [.v 0 .l, .v 3 .o, .v 4 (.i .i64)] (C_cellplanelaw08_JournalVotes_8 N K1 Q)

theorem T_cellplanelaw08_JournalVotes_8 (N : Nat) (K1 : (Sl × (Option Addr)) → (Int) → World → Prop) (Q : VP) (s : St) (w : World) (h : H_cellplanelaw08_JournalVotes_8 N K1 Q s w) : Snd (cy N []) (cR k_cellplanelaw08_JournalVotes_2) (z_cellplanelaw08_JournalVotes_3 N K1 Q) s w :=
  Snd.HG h fun _ _ _ _ h => dsm h

noncomputable def k_cellplanelaw08_JournalVotes_4 : Code := (cR (cL (cL k_cellplanelaw08_JournalVotes_2)))

noncomputable def z_cellplanelaw08_JournalVotes_5 (N : Nat) (K1 : (Sl × (Option Addr)) → (Int) → World → Prop) (Q : VP) : Cont := (inBlockD 1 (thenD (H_cellplanelaw08_JournalVotes_8 N K1 Q) (z_cellplanelaw08_JournalVotes_3 N K1 Q)))

noncomputable def k_cellplanelaw08_JournalVotes_6 : Code := (cR (cR k_cellplanelaw08_JournalVotes_4))

noncomputable def k_cellplanelaw08_JournalVotes_7 : Code := (cR (cR k_cellplanelaw08_JournalVotes_6))

def C_cellplanelaw08_JournalVotes_14 (N : Nat) (K1 : (Sl × (Option Addr)) → (Int) → World → Prop) (Q : VP) (l0' : Sl) (j3' : Option Addr) (i4' term5' vote6' : Int) (w : World) : Prop :=
  CallL PP N w [] n_journal_Journal_Term [(.pointer j3')] fun r3 w4 => ∃ n2 : Int, r3 = (.int .i64 n2) ∧ IfB (!decide ((n2 : Int) = term5')) (Reb N w4 [] (Q (.bool false))) (CallL PP N w4 [] n_journal_Journal_Vote [(.pointer j3')] fun r6 w7 => ∃ n5 : Int, r6 = (.int .i64 n5) ∧ IfB (!decide ((n5 : Int) = vote6')) (Reb N w7 [] (Q (.bool false))) (Reb N w7 [] fun w8 => C_cellplanelaw08_JournalVotes_8 N K1 Q l0' j3' i4' w8))

noncomputable def H_cellplanelaw08_JournalVotes_14 (N : Nat) (K1 : (Sl × (Option Addr)) → (Int) → World → Prop) (Q : VP) : St → World → Prop := HG N 122 [.v 0 .l, .v 3 .o, .v 4 (.i .i64), .v 5 (.i .i64), .v 6 (.i .i64)] (C_cellplanelaw08_JournalVotes_14 N K1 Q)

theorem T_cellplanelaw08_JournalVotes_14 (N : Nat) (K1 : (Sl × (Option Addr)) → (Int) → World → Prop) (Q : VP) (s : St) (w : World) (h : H_cellplanelaw08_JournalVotes_14 N K1 Q s w) : Snd (cy N []) (cR k_cellplanelaw08_JournalVotes_7) (z_cellplanelaw08_JournalVotes_5 N K1 Q) s w :=
  Snd.HG h fun _ _ _ _ _ _ h => dsm h

def C_cellplanelaw08_JournalVotes_13 (N : Nat) (K1 : (Sl × (Option Addr)) → (Int) → World → Prop) (Q : VP) (l0' : Sl) (j3' : Option Addr) (i4' term5' vote6' : Int) (w : World) : Prop :=
  IdxL l0'.a l0'.n i4' fun q9 => ∃ n10 : Int, At w (q9.add ((i4' : Int).toNat * 3)) [(.int .i64 n10)] ∧ NotIn ((q9.add ((i4' : Int).toNat * 3)) : Addr).block [] ∧ (3 : Int) ≠ 0 ∧ IfB (decide (((Int.tmod n10 3) : Int) = 0)) (IdxL l0'.a l0'.n i4' fun q11 => ∃ n12 : Int, At w (q11.add ((i4' : Int).toNat * 3)) [(.int .i64 n12)] ∧ NotIn ((q11.add ((i4' : Int).toNat * 3)) : Addr).block [] ∧ CallL PP N w [] n_journal_Journal_Crash [(.pointer j3'), (.int .i64 n12)] fun r13 w14 => r13 = (.tuple #[]) ∧ Reb N w14 [] fun w15 => C_cellplanelaw08_JournalVotes_14 N K1 Q l0' j3' i4' term5' vote6' w15) (Reb N w [] fun w16 => C_cellplanelaw08_JournalVotes_14 N K1 Q l0' j3' i4' term5' vote6' w16)

noncomputable def H_cellplanelaw08_JournalVotes_13 (N : Nat) (K1 : (Sl × (Option Addr)) → (Int) → World → Prop) (Q : VP) : St → World → Prop := HG N 122 [.v 0 .l, .v 3 .o, .v 4 (.i .i64), .v 5 (.i .i64), .v 6 (.i .i64)] (C_cellplanelaw08_JournalVotes_13 N K1 Q)

theorem T_cellplanelaw08_JournalVotes_13 (N : Nat) (K1 : (Sl × (Option Addr)) → (Int) → World → Prop) (Q : VP) (s : St) (w : World) (h : H_cellplanelaw08_JournalVotes_13 N K1 Q s w) : Snd (cy N []) k_cellplanelaw08_JournalVotes_7 (z_cellplanelaw08_JournalVotes_5 N K1 Q) s w :=
  Snd.HG h fun l0' j3' i4' term5' vote6' w h => (sq (H_cellplanelaw08_JournalVotes_14 N K1 Q) (dsm h) (T_cellplanelaw08_JournalVotes_14 N K1 Q))

def C_cellplanelaw08_JournalVotes_12 (N : Nat) (K1 : (Sl × (Option Addr)) → (Int) → World → Prop) (Q : VP) (l0' : Sl) (j3' : Option Addr) (i4' : Int) (w : World) : Prop :=
  CallL PP N w [] n_journal_Journal_Term [(.pointer j3')] fun r18 w19 => ∃ n17 : Int, r18 = (.int .i64 n17) ∧ CallL PP N w19 [] n_journal_Journal_Vote [(.pointer j3')] fun r21 w22 => ∃ n20 : Int, r21 = (.int .i64 n20) ∧ Reb N w22 [] fun w23 => C_cellplanelaw08_JournalVotes_13 N K1 Q l0' j3' i4' n17 n20 w23

noncomputable def H_cellplanelaw08_JournalVotes_12 (N : Nat) (K1 : (Sl × (Option Addr)) → (Int) → World → Prop) (Q : VP) : St → World → Prop := HG N 122 [.v 0 .l, .v 3 .o, .v 4 (.i .i64)] (C_cellplanelaw08_JournalVotes_12 N K1 Q)

theorem T_cellplanelaw08_JournalVotes_12 (N : Nat) (K1 : (Sl × (Option Addr)) → (Int) → World → Prop) (Q : VP) (s : St) (w : World) (h : H_cellplanelaw08_JournalVotes_12 N K1 Q s w) : Snd (cy N []) (cR k_cellplanelaw08_JournalVotes_6) (z_cellplanelaw08_JournalVotes_5 N K1 Q) s w :=
  Snd.HG h fun l0' j3' i4' w h => (sq (H_cellplanelaw08_JournalVotes_13 N K1 Q) (dsm h) (T_cellplanelaw08_JournalVotes_13 N K1 Q))

def C_cellplanelaw08_JournalVotes_11 (N : Nat) (K1 : (Sl × (Option Addr)) → (Int) → World → Prop) (Q : VP) (l0' : Sl) (j3' : Option Addr) (i4' : Int) (w : World) : Prop :=
  NilL j3' fun q24 => ∃ p25 : Option Addr, At w q24 [(.pointer p25)] ∧ NotIn (q24 : Addr).block [] ∧ CallL PP N w [] n_disk_Disk_Sync [(.pointer p25)] fun r26 w27 => r26 = (.tuple #[]) ∧ Reb N w27 [] fun w28 => C_cellplanelaw08_JournalVotes_12 N K1 Q l0' j3' i4' w28

noncomputable def H_cellplanelaw08_JournalVotes_11 (N : Nat) (K1 : (Sl × (Option Addr)) → (Int) → World → Prop) (Q : VP) : St → World → Prop := HG N 122 [.v 0 .l, .v 3 .o, .v 4 (.i .i64)] (C_cellplanelaw08_JournalVotes_11 N K1 Q)

theorem T_cellplanelaw08_JournalVotes_11 (N : Nat) (K1 : (Sl × (Option Addr)) → (Int) → World → Prop) (Q : VP) (s : St) (w : World) (h : H_cellplanelaw08_JournalVotes_11 N K1 Q s w) : Snd (cy N []) k_cellplanelaw08_JournalVotes_6 (z_cellplanelaw08_JournalVotes_5 N K1 Q) s w :=
  Snd.HG h fun l0' j3' i4' w h => (sq (H_cellplanelaw08_JournalVotes_12 N K1 Q) (dsm h) (T_cellplanelaw08_JournalVotes_12 N K1 Q))

def C_cellplanelaw08_JournalVotes_10 (N : Nat) (K1 : (Sl × (Option Addr)) → (Int) → World → Prop) (Q : VP) (l0' : Sl) (j3' : Option Addr) (i4' term5' vote6' e7' : Int) (w : World) : Prop :=
  CallL PP N w [] n_journal_Journal_Term [(.pointer j3')] fun r30 w31 => ∃ n29 : Int, r30 = (.int .i64 n29) ∧ IfB (decide ((n29 : Int) < term5')) (Reb N w31 [] (Q (.bool false))) (CallL PP N w31 [] n_journal_Journal_Term [(.pointer j3')] fun r33 w34 => ∃ n32 : Int, r33 = (.int .i64 n32) ∧ IfB (decide ((n32 : Int) = term5')) (IfB (!decide ((vote6' : Int) = (-1))) (CallL PP N w34 [] n_journal_Journal_Vote [(.pointer j3')] fun r36 w37 => ∃ n35 : Int, r36 = (.int .i64 n35) ∧ IfB (!decide ((n35 : Int) = vote6')) (Reb N w37 [] (Q (.bool false))) (IfB (!decide ((e7' : Int) = 0)) (CallL PP N w37 [] n_journal_Journal_Term [(.pointer j3')] fun r39 w40 => ∃ n38 : Int, r39 = (.int .i64 n38) ∧ IfB (!decide ((n38 : Int) = term5')) (Reb N w40 [] (Q (.bool false))) (CallL PP N w40 [] n_journal_Journal_Vote [(.pointer j3')] fun r42 w43 => ∃ n41 : Int, r42 = (.int .i64 n41) ∧ IfB (!decide ((n41 : Int) = vote6')) (Reb N w43 [] (Q (.bool false))) (Reb N w43 [] fun w44 => C_cellplanelaw08_JournalVotes_11 N K1 Q l0' j3' i4' w44))) (Reb N w37 [] fun w45 => C_cellplanelaw08_JournalVotes_11 N K1 Q l0' j3' i4' w45))) (IfB (!decide ((e7' : Int) = 0)) (CallL PP N w34 [] n_journal_Journal_Term [(.pointer j3')] fun r47 w48 => ∃ n46 : Int, r47 = (.int .i64 n46) ∧ IfB (!decide ((n46 : Int) = term5')) (Reb N w48 [] (Q (.bool false))) (CallL PP N w48 [] n_journal_Journal_Vote [(.pointer j3')] fun r50 w51 => ∃ n49 : Int, r50 = (.int .i64 n49) ∧ IfB (!decide ((n49 : Int) = vote6')) (Reb N w51 [] (Q (.bool false))) (Reb N w51 [] fun w52 => C_cellplanelaw08_JournalVotes_11 N K1 Q l0' j3' i4' w52))) (Reb N w34 [] fun w53 => C_cellplanelaw08_JournalVotes_11 N K1 Q l0' j3' i4' w53))) (IfB (!decide ((e7' : Int) = 0)) (CallL PP N w34 [] n_journal_Journal_Term [(.pointer j3')] fun r55 w56 => ∃ n54 : Int, r55 = (.int .i64 n54) ∧ IfB (!decide ((n54 : Int) = term5')) (Reb N w56 [] (Q (.bool false))) (CallL PP N w56 [] n_journal_Journal_Vote [(.pointer j3')] fun r58 w59 => ∃ n57 : Int, r58 = (.int .i64 n57) ∧ IfB (!decide ((n57 : Int) = vote6')) (Reb N w59 [] (Q (.bool false))) (Reb N w59 [] fun w60 => C_cellplanelaw08_JournalVotes_11 N K1 Q l0' j3' i4' w60))) (Reb N w34 [] fun w61 => C_cellplanelaw08_JournalVotes_11 N K1 Q l0' j3' i4' w61)))

noncomputable def H_cellplanelaw08_JournalVotes_10 (N : Nat) (K1 : (Sl × (Option Addr)) → (Int) → World → Prop) (Q : VP) : St → World → Prop := HG N 122 [.v 0 .l, .v 3 .o, .v 4 (.i .i64), .v 5 (.i .i64), .v 6 (.i .i64), .v 7 (.i .i64)] (C_cellplanelaw08_JournalVotes_10 N K1 Q)

theorem T_cellplanelaw08_JournalVotes_10 (N : Nat) (K1 : (Sl × (Option Addr)) → (Int) → World → Prop) (Q : VP) (s : St) (w : World) (h : H_cellplanelaw08_JournalVotes_10 N K1 Q s w) : Snd (cy N []) (cR k_cellplanelaw08_JournalVotes_4) (z_cellplanelaw08_JournalVotes_5 N K1 Q) s w :=
  Snd.HG h fun l0' j3' i4' term5' vote6' e7' w h => (sq (H_cellplanelaw08_JournalVotes_11 N K1 Q) (dsm h) (T_cellplanelaw08_JournalVotes_11 N K1 Q))

def C_cellplanelaw08_JournalVotes_9 (N : Nat) (K1 : (Sl × (Option Addr)) → (Int) → World → Prop) (Q : VP) (l0' : Sl) (j3' : Option Addr) (i4' term5' vote6' : Int) (w : World) : Prop :=
  IdxL l0'.a l0'.n i4' fun q62 => ∃ n63 : Int, At w (addA (q62.add ((i4' : Int).toNat * 3)) 1) [(.int .i64 n63)] ∧ NotIn ((addA (q62.add ((i4' : Int).toNat * 3)) 1) : Addr).block [] ∧ IdxL l0'.a l0'.n i4' fun q64 => ∃ n65 : Int, At w (addA (q64.add ((i4' : Int).toNat * 3)) 2) [(.int .i64 n65)] ∧ NotIn ((addA (q64.add ((i4' : Int).toNat * 3)) 2) : Addr).block [] ∧ CallL PP N w [] n_cellplanemake_Between [(.int .i64 n63), (.int .i64 (IntKind.i64.wrap (term5' - 1))), (.int .i64 (IntKind.i64.wrap (term5' + 1)))] fun r67 w68 => ∃ n66 : Int, r67 = (.int .i64 n66) ∧ At w68 (addA (q64.add ((i4' : Int).toNat * 3)) 2) [(.int .i64 n65)] ∧ CallL PP N w68 [] n_cellplanemake_Between [(.int .i64 n65), (.int .i64 (-1)), (.int .i64 2)] fun r70 w71 => ∃ n69 : Int, r70 = (.int .i64 n69) ∧ CallL PP N w71 [] n_journal_Journal_SetTerm [(.pointer j3'), (.int .i64 n66), (.int .i64 n69)] fun r73 w74 => ∃ n72 : Int, r73 = (.int .i64 n72) ∧ Reb N w74 [] fun w75 => C_cellplanelaw08_JournalVotes_10 N K1 Q l0' j3' i4' term5' vote6' n72 w75

noncomputable def H_cellplanelaw08_JournalVotes_9 (N : Nat) (K1 : (Sl × (Option Addr)) → (Int) → World → Prop) (Q : VP) : St → World → Prop := HG N 122 [.v 0 .l, .v 3 .o, .v 4 (.i .i64), .v 5 (.i .i64), .v 6 (.i .i64)] (C_cellplanelaw08_JournalVotes_9 N K1 Q)

theorem T_cellplanelaw08_JournalVotes_9 (N : Nat) (K1 : (Sl × (Option Addr)) → (Int) → World → Prop) (Q : VP) (s : St) (w : World) (h : H_cellplanelaw08_JournalVotes_9 N K1 Q s w) : Snd (cy N []) k_cellplanelaw08_JournalVotes_4 (z_cellplanelaw08_JournalVotes_5 N K1 Q) s w :=
  Snd.HG h fun l0' j3' i4' term5' vote6' w h => (sq (H_cellplanelaw08_JournalVotes_10 N K1 Q) (dsm h) (T_cellplanelaw08_JournalVotes_10 N K1 Q))

def C_cellplanelaw08_JournalVotes_7 (N : Nat) (K1 : (Sl × (Option Addr)) → (Int) → World → Prop) (Q : VP) (l0' : Sl) (j3' : Option Addr) (i4' : Int) (w : World) : Prop :=
  CallL PP N w [] n_journal_Journal_Term [(.pointer j3')] fun r77 w78 => ∃ n76 : Int, r77 = (.int .i64 n76) ∧ CallL PP N w78 [] n_journal_Journal_Vote [(.pointer j3')] fun r80 w81 => ∃ n79 : Int, r80 = (.int .i64 n79) ∧ Reb N w81 [] fun w82 => C_cellplanelaw08_JournalVotes_9 N K1 Q l0' j3' i4' n76 n79 w82

noncomputable def H_cellplanelaw08_JournalVotes_7 (N : Nat) (K1 : (Sl × (Option Addr)) → (Int) → World → Prop) (Q : VP) : St → World → Prop := HG N 122 [.v 0 .l, .v 3 .o, .v 4 (.i .i64)] (C_cellplanelaw08_JournalVotes_7 N K1 Q)

theorem T_cellplanelaw08_JournalVotes_7 (N : Nat) (K1 : (Sl × (Option Addr)) → (Int) → World → Prop) (Q : VP) (s : St) (w : World) (h : H_cellplanelaw08_JournalVotes_7 N K1 Q s w) : Snd (cy N []) k_cellplanelaw08_JournalVotes_2 (z_cellplanelaw08_JournalVotes_3 N K1 Q) s w :=
  Snd.HG h fun l0' j3' i4' w h => (sq (H_cellplanelaw08_JournalVotes_8 N K1 Q) (bk 1 (sq (H_cellplanelaw08_JournalVotes_9 N K1 Q) (dsm h) (T_cellplanelaw08_JournalVotes_9 N K1 Q))) (T_cellplanelaw08_JournalVotes_8 N K1 Q))

def B_cellplanelaw08_JournalVotes_6 (N : Nat) (K1 : (Sl × (Option Addr)) → (Int) → World → Prop) (Q : VP) (l0' : Sl) (j3' : Option Addr) (i4' : Int) (w : World) : Prop :=
  IfB (decide ((i4' : Int) < ((l0'.n : Nat) : Int))) (Reb N w [] fun w83 => C_cellplanelaw08_JournalVotes_7 N K1 Q l0' j3' i4' w83) (Reb N w [] fun w84 => C_cellplanelaw08_JournalVotes_4 N Q w84)

theorem X_cellplanelaw08_JournalVotes_6 {N : Nat} {K1 : (Sl × (Option Addr)) → (Int) → World → Prop} {Q : VP} {l0' : Sl} {j3' : Option Addr} {i4' : Int} {w : World} (h : B_cellplanelaw08_JournalVotes_6 N K1 Q l0' j3' i4' w) : Snd (cy N []) (cL k_cellplanelaw08_JournalVotes_1) (thenD (HeadK N 122 [.val 0, .val 3, .val 4] D_cellplanelaw08_JournalVotes_6 K1) (inBlockD 0 (z_cellplanelaw08_JournalVotes_0 N Q))) (mkS 122 [.val 0, .val 3, .val 4] [(.slice l0'.a l0'.n l0'.c), (.pointer j3'), (.int .i64 i4')] []) w :=
  (sq (H_cellplanelaw08_JournalVotes_7 N K1 Q) (dsm h) (T_cellplanelaw08_JournalVotes_7 N K1 Q))

def L_cellplanelaw08_JournalVotes_6 (N : Nat) (Q : VP) (K1 : (Sl × (Option Addr)) → (Int) → World → Prop) (c : Sl × (Option Addr)) (x : Int) (w : World) : Prop := match c, x with
  | (l0', j3'), i4' => B_cellplanelaw08_JournalVotes_6 N K1 Q l0' j3' i4' w

theorem T_cellplanelaw08_JournalVotes_6 (N : Nat) (Q : VP) {s : St} {w : World} (h : HeadE N 122 [.val 0, .val 3, .val 4] D_cellplanelaw08_JournalVotes_6 (L_cellplanelaw08_JournalVotes_6 N Q) s w) : Snd (cy N []) k_cellplanelaw08_JournalVotes_1 (inBlockD 0 (z_cellplanelaw08_JournalVotes_0 N Q)) s w := by
  refine Snd.cast (c' := .loop (cL k_cellplanelaw08_JournalVotes_1)) (by kernel_rfl) (Snd.loopC (fun (c : Sl × (Option Addr)) (x : Int) => match c, x with | (l0', j3'), i4' => ([(.slice l0'.a l0'.n l0'.c), (.pointer j3'), (.int .i64 i4')], [])) ?_ ?_ h)
  · intro K vs ls h
    unfold D_cellplanelaw08_JournalVotes_6 at h
    split at h
    · exact ⟨_, _, rfl, h⟩
    · exact h.elim
  · rintro K ⟨l0', j3'⟩ i4' w h
    exact X_cellplanelaw08_JournalVotes_6 h

def C_cellplanelaw08_JournalVotes_5 (N : Nat) (Q : VP) (l0' : Sl) (j3' : Option Addr) (i4' : Int) (w : World) : Prop :=
  LoopC N w [] ((l0', j3') : Sl × (Option Addr)) (i4' : Int) (L_cellplanelaw08_JournalVotes_6 N Q)

noncomputable def H_cellplanelaw08_JournalVotes_5 (N : Nat) (Q : VP) : St → World → Prop := HG N 122 [.v 0 .l, .v 3 .o, .v 4 (.i .i64)] (C_cellplanelaw08_JournalVotes_5 N Q)

theorem T_cellplanelaw08_JournalVotes_5 (N : Nat) (Q : VP) (s : St) (w : World) (h : H_cellplanelaw08_JournalVotes_5 N Q s w) : Snd (cy N []) (cR (cL (cR (cR (cR (bodyOf Try.f5)))))) (z_cellplanelaw08_JournalVotes_0 N Q) s w :=
  Snd.HG h fun l0' j3' i4' w h => (bk 0 (T_cellplanelaw08_JournalVotes_6 N Q (mpr' (by kernel_rfl) h)))

def C_cellplanelaw08_JournalVotes_3 (N : Nat) (Q : VP) (l0' : Sl) (j3' : Option Addr) (w : World) : Prop :=
  Reb N w [] fun w85 => C_cellplanelaw08_JournalVotes_5 N Q l0' j3' 0 w85

noncomputable def H_cellplanelaw08_JournalVotes_3 (N : Nat) (Q : VP) : St → World → Prop := HG N 122 [.v 0 .l, .v 3 .o] (C_cellplanelaw08_JournalVotes_3 N Q)

theorem T_cellplanelaw08_JournalVotes_3 (N : Nat) (Q : VP) (s : St) (w : World) (h : H_cellplanelaw08_JournalVotes_3 N Q s w) : Snd (cy N []) (cR (cR (cR (bodyOf Try.f5)))) (retD (cy N []) Try.f5 Q) s w :=
  Snd.HG h fun l0' j3' w h => (sq (H_cellplanelaw08_JournalVotes_4 N Q) (sq (H_cellplanelaw08_JournalVotes_5 N Q) (dsm h) (T_cellplanelaw08_JournalVotes_5 N Q)) (T_cellplanelaw08_JournalVotes_4 N Q))

noncomputable def z_cellplanelaw08_JournalVotes_8 (N : Nat) (Q : VP) : Cont := (thenD (H_cellplanelaw08_JournalVotes_3 N Q) (retD (cy N []) Try.f5 Q))

def C_cellplanelaw08_JournalVotes_15 (N : Nat) (Q : VP) (l0' : Sl) (j3' : Option Addr) (v19' : Bool) (w : World) : Prop :=
  IfB v19' (CallL PP N w [] n_cellplanelaw08_awake [] fun r87 w88 => ∃ b86 : Bool, r87 = (.bool b86) ∧ IfB b86 (Reb N w88 [] (Q (.bool (!j3'.isNone)))) (Reb N w88 [] (Q (.bool false)))) (Reb N w [] fun w89 => C_cellplanelaw08_JournalVotes_3 N Q l0' j3' w89)

noncomputable def H_cellplanelaw08_JournalVotes_15 (N : Nat) (Q : VP) : St → World → Prop := HG N 122 [.v 0 .l, .v 3 .o, .v 19 .b] (C_cellplanelaw08_JournalVotes_15 N Q)

theorem T_cellplanelaw08_JournalVotes_15 (N : Nat) (Q : VP) (s : St) (w : World) (h : H_cellplanelaw08_JournalVotes_15 N Q s w) : Snd (cy N []) (cR (cL (cR (cR (bodyOf Try.f5))))) (z_cellplanelaw08_JournalVotes_8 N Q) s w :=
  Snd.HG h fun _ _ _ _ h => dsm h

def C_cellplanelaw08_JournalVotes_2 (N : Nat) (Q : VP) (l0' : Sl) (j3' : Option Addr) (w : World) : Prop :=
  CallL PP N w [] n_cellplanelaw08_awake [] fun r91 w92 => ∃ b90 : Bool, r91 = (.bool b90) ∧ IfB (!b90) (Reb N w92 [] fun w93 => C_cellplanelaw08_JournalVotes_15 N Q l0' j3' true w93) (IfB (decide ((50 : Int) < ((l0'.n : Nat) : Int))) (Reb N w92 [] fun w94 => C_cellplanelaw08_JournalVotes_15 N Q l0' j3' true w94) (Reb N w92 [] fun w95 => C_cellplanelaw08_JournalVotes_15 N Q l0' j3' j3'.isNone w95))

noncomputable def H_cellplanelaw08_JournalVotes_2 (N : Nat) (Q : VP) : St → World → Prop := HG N 122 [.v 0 .l, .v 3 .o] (C_cellplanelaw08_JournalVotes_2 N Q)

theorem T_cellplanelaw08_JournalVotes_2 (N : Nat) (Q : VP) (s : St) (w : World) (h : H_cellplanelaw08_JournalVotes_2 N Q s w) : Snd (cy N []) (cR (cR (bodyOf Try.f5))) (retD (cy N []) Try.f5 Q) s w :=
  Snd.HG h fun l0' j3' w h => (sq (H_cellplanelaw08_JournalVotes_3 N Q) (sq (H_cellplanelaw08_JournalVotes_15 N Q) (dsm h) (T_cellplanelaw08_JournalVotes_15 N Q)) (T_cellplanelaw08_JournalVotes_3 N Q))

def C_cellplanelaw08_JournalVotes_1 (N : Nat) (Q : VP) (l0' : Sl) (w : World) : Prop :=
  CallL PP N w [] n_journal_New [] fun r97 w98 => ∃ p96 : Option Addr, r97 = (.pointer p96) ∧ Reb N w98 [] fun w99 => C_cellplanelaw08_JournalVotes_2 N Q l0' p96 w99

noncomputable def H_cellplanelaw08_JournalVotes_1 (N : Nat) (Q : VP) : St → World → Prop := HG N 122 [.v 0 .l] (C_cellplanelaw08_JournalVotes_1 N Q)

theorem T_cellplanelaw08_JournalVotes_1 (N : Nat) (Q : VP) (s : St) (w : World) (h : H_cellplanelaw08_JournalVotes_1 N Q s w) : Snd (cy N []) (cR (bodyOf Try.f5)) (retD (cy N []) Try.f5 Q) s w :=
  Snd.HG h fun l0' w h => (sq (H_cellplanelaw08_JournalVotes_2 N Q) (dsm h) (T_cellplanelaw08_JournalVotes_2 N Q))

def F_cellplanelaw08_JournalVotes (N : Nat) (l0 : Sl) (Q : VP) (w : World) : Prop :=
  Reb N w [] fun w100 => C_cellplanelaw08_JournalVotes_1 N Q l0 w100

theorem cellplanelaw08_JournalVotes_snd (N : Nat) (l0 : Sl) (Q : VP) (w : World) (h : F_cellplanelaw08_JournalVotes N l0 Q w) : Snd (cy N []) (bodyOf Try.f5) (retD (cy N []) Try.f5 Q) (entry 122 [(.slice l0.a l0.n l0.c)]) w :=
  (sq (H_cellplanelaw08_JournalVotes_1 N Q) (dsm h) (T_cellplanelaw08_JournalVotes_1 N Q))

theorem cellplanelaw08_JournalVotes_calls (l0 : Sl) (Q : VP) (w : World) (h : F_cellplanelaw08_JournalVotes w.heap.size l0 Q w) : Calls PP n_cellplanelaw08_JournalVotes [(.slice l0.a l0.n l0.c)].toArray w fun e w' => ∃ v, e = .returned v ∧ Q v w' :=
  calls_of (C := cy w.heap.size []) (fn := Try.f5) (c := (bodyOf Try.f5)) (by kernel_rfl) (by kernel_rfl) (Nat.le_refl _) (cellplanelaw08_JournalVotes_snd _ l0 Q w h)

/-! ### cellplanelaw08_JournalOrder -/
def C_cellplanelaw08_JournalOrder_4 (N : Nat) (Q : VP) (w : World) : Prop :=
  Reb N w [] (Q (.bool true))

noncomputable def H_cellplanelaw08_JournalOrder_4 (N : Nat) (Q : VP) : St → World → Prop := HG N 114 [] (C_cellplanelaw08_JournalOrder_4 N Q)

theorem T_cellplanelaw08_JournalOrder_4 (N : Nat) (Q : VP) (s : St) (w : World) (h : H_cellplanelaw08_JournalOrder_4 N Q s w) : Snd (cy N [8]) (cR (cR (cR (cR (bodyOf Try.f6))))) (retD (cy N [8]) Try.f6 Q) s w :=
  Snd.HG h fun _ h => dsm h

noncomputable def z_cellplanelaw08_JournalOrder_0 (N : Nat) (Q : VP) : Cont := (thenD (H_cellplanelaw08_JournalOrder_4 N Q) (retD (cy N [8]) Try.f6 Q))

def D_cellplanelaw08_JournalOrder_6 (K : (Sl × (Option Addr)) → (Int) → Prop) : List Value → List LB → Prop := fun vs ls => match vs, ls with
  | [.slice l0'_a l0'_n l0'_c, .pointer j3', .int .i64 i4'], [] => K (⟨l0'_a, l0'_n, l0'_c⟩, j3') i4'
  | _, _ => False

noncomputable def k_cellplanelaw08_JournalOrder_1 : Code := (cL (cR (cL (cR (cR (cR (bodyOf Try.f6)))))))

noncomputable def k_cellplanelaw08_JournalOrder_2 : Code := (cR (cL k_cellplanelaw08_JournalOrder_1))

noncomputable def z_cellplanelaw08_JournalOrder_3 (N : Nat) (K1 : (Sl × (Option Addr)) → (Int) → World → Prop) (Q : VP) : Cont := (thenD (HeadK N 114 [.val 0, .val 3, .val 4] D_cellplanelaw08_JournalOrder_6 K1) (inBlockD 0 (z_cellplanelaw08_JournalOrder_0 N Q)))

def C_cellplanelaw08_JournalOrder_8 (N : Nat) (K1 : (Sl × (Option Addr)) → (Int) → World → Prop) (Q : VP) (l0' : Sl) (j3' : Option Addr) (i4' : Int) (w : World) : Prop :=
  Reb N w [] fun w1 => K1 (l0', j3') (IntKind.i64.wrap (i4' + 1)) w1

noncomputable def H_cellplanelaw08_JournalOrder_8 (N : Nat) (K1 : (Sl × (Option Addr)) → (Int) → World → Prop) (Q : VP) : St → World → Prop := HG N 114 [.v 0 .l, .v 3 .o, .v 4 (.i .i64)] (C_cellplanelaw08_JournalOrder_8 N K1 Q)

theorem T_cellplanelaw08_JournalOrder_8 (N : Nat) (K1 : (Sl × (Option Addr)) → (Int) → World → Prop) (Q : VP) (s : St) (w : World) (h : H_cellplanelaw08_JournalOrder_8 N K1 Q s w) : Snd (cy N [8]) (cR k_cellplanelaw08_JournalOrder_2) (z_cellplanelaw08_JournalOrder_3 N K1 Q) s w :=
  Snd.HG h fun _ _ _ _ h => dsm h

noncomputable def k_cellplanelaw08_JournalOrder_4 : Code := (cR (cL (cL k_cellplanelaw08_JournalOrder_2)))

noncomputable def z_cellplanelaw08_JournalOrder_5 (N : Nat) (K1 : (Sl × (Option Addr)) → (Int) → World → Prop) (Q : VP) : Cont := (inBlockD 1 (thenD (H_cellplanelaw08_JournalOrder_8 N K1 Q) (z_cellplanelaw08_JournalOrder_3 N K1 Q)))

noncomputable def k_cellplanelaw08_JournalOrder_6 : Code := (cR (cR k_cellplanelaw08_JournalOrder_4))

noncomputable def k_cellplanelaw08_JournalOrder_7 : Code := (cR (cR k_cellplanelaw08_JournalOrder_6))

def D_cellplanelaw08_JournalOrder_14 (K : (Sl × (Option Addr) × Int) → (Int) → Prop) : List Value → List LB → Prop := fun vs ls => match vs, ls with
  | [.slice l0'_a l0'_n l0'_c, .pointer j3', .int .i64 i4', .int .i64 k7'], [] => K (⟨l0'_a, l0'_n, l0'_c⟩, j3', i4') k7'
  | _, _ => False

noncomputable def k_cellplanelaw08_JournalOrder_8 : Code := (cR (cL (cL k_cellplanelaw08_JournalOrder_7)))

noncomputable def z_cellplanelaw08_JournalOrder_9 (N : Nat) (K1 : (Sl × (Option Addr)) → (Int) → World → Prop) (K2 : (Sl × (Option Addr) × Int) → (Int) → World → Prop) (Q : VP) : Cont := (thenD (HeadK N 114 [.val 0, .val 3, .val 4, .val 7] D_cellplanelaw08_JournalOrder_14 K2) (inBlockD 2 (z_cellplanelaw08_JournalOrder_5 N K1 Q)))

def C_cellplanelaw08_JournalOrder_16 (N : Nat) (K1 : (Sl × (Option Addr)) → (Int) → World → Prop) (K2 : (Sl × (Option Addr) × Int) → (Int) → World → Prop) (Q : VP) (l0' : Sl) (j3' : Option Addr) (i4' k7' : Int) (w : World) : Prop :=
  Reb N w [] fun w2 => K2 (l0', j3', i4') (IntKind.i64.wrap (k7' + 1)) w2

noncomputable def H_cellplanelaw08_JournalOrder_16 (N : Nat) (K1 : (Sl × (Option Addr)) → (Int) → World → Prop) (K2 : (Sl × (Option Addr) × Int) → (Int) → World → Prop) (Q : VP) : St → World → Prop := HG N 114 [.v 0 .l, .v 3 .o, .v 4 (.i .i64), .v 7 (.i .i64)] (C_cellplanelaw08_JournalOrder_16 N K1 K2 Q)

theorem T_cellplanelaw08_JournalOrder_16 (N : Nat) (K1 : (Sl × (Option Addr)) → (Int) → World → Prop) (K2 : (Sl × (Option Addr) × Int) → (Int) → World → Prop) (Q : VP) (s : St) (w : World) (h : H_cellplanelaw08_JournalOrder_16 N K1 K2 Q s w) : Snd (cy N [8]) (cR k_cellplanelaw08_JournalOrder_8) (z_cellplanelaw08_JournalOrder_9 N K1 K2 Q) s w :=
  Snd.HG h fun _ _ _ _ _ h => dsm h

noncomputable def k_cellplanelaw08_JournalOrder_10 : Code := (cR (cL (cL k_cellplanelaw08_JournalOrder_8)))

noncomputable def z_cellplanelaw08_JournalOrder_11 (N : Nat) (K1 : (Sl × (Option Addr)) → (Int) → World → Prop) (K2 : (Sl × (Option Addr) × Int) → (Int) → World → Prop) (Q : VP) : Cont := (inBlockD 3 (thenD (H_cellplanelaw08_JournalOrder_16 N K1 K2 Q) (z_cellplanelaw08_JournalOrder_9 N K1 K2 Q)))

def C_cellplanelaw08_JournalOrder_17 (N : Nat) (K1 : (Sl × (Option Addr)) → (Int) → World → Prop) (K2 : (Sl × (Option Addr) × Int) → (Int) → World → Prop) (Q : VP) (l0' : Sl) (j3' : Option Addr) (i4' k7' : Int) (w : World) : Prop :=
  CallL PP N w [] n_journal_Journal_At [(.pointer j3'), (.int .i64 k7')] fun r5 w6 => ∃ x3 : G_api_Logged, ∃ b4 : Bool, r5 = (.tuple #[(.agg (List.toArray x3.cells)), (.bool b4)]) ∧ ∀ b7 : Nat, w6.heap.size ≤ b7 → CallL PP N w6 [⟨b7, x3.cells, t_api_Logged⟩] n_cellplaneref06_Shape [(.agg (List.toArray x3.Entry.cells))] fun r9 w10 => ∃ b8 : Bool, r9 = (.bool b8) ∧ IfB (!b8) (Reb N w10 [⟨b7, x3.cells, t_api_Logged⟩] (Q (.bool false))) (Reb N w10 [⟨b7, x3.cells, t_api_Logged⟩] fun w11 => C_cellplanelaw08_JournalOrder_16 N K1 K2 Q l0' j3' i4' k7' w11)

noncomputable def H_cellplanelaw08_JournalOrder_17 (N : Nat) (K1 : (Sl × (Option Addr)) → (Int) → World → Prop) (K2 : (Sl × (Option Addr) × Int) → (Int) → World → Prop) (Q : VP) : St → World → Prop := HG N 114 [.v 0 .l, .v 3 .o, .v 4 (.i .i64), .v 7 (.i .i64)] (C_cellplanelaw08_JournalOrder_17 N K1 K2 Q)

theorem T_cellplanelaw08_JournalOrder_17 (N : Nat) (K1 : (Sl × (Option Addr)) → (Int) → World → Prop) (K2 : (Sl × (Option Addr) × Int) → (Int) → World → Prop) (Q : VP) (s : St) (w : World) (h : H_cellplanelaw08_JournalOrder_17 N K1 K2 Q s w) : Snd (cy N [8]) k_cellplanelaw08_JournalOrder_10 (z_cellplanelaw08_JournalOrder_11 N K1 K2 Q) s w :=
  Snd.HG h fun _ _ _ _ _ h => dsm h

def C_cellplanelaw08_JournalOrder_15 (N : Nat) (K1 : (Sl × (Option Addr)) → (Int) → World → Prop) (K2 : (Sl × (Option Addr) × Int) → (Int) → World → Prop) (Q : VP) (l0' : Sl) (j3' : Option Addr) (i4' k7' : Int) (w : World) : Prop :=
  CallL PP N w [] n_journal_Journal_TermAt [(.pointer j3'), (.int .i64 k7')] fun r13 w14 => ∃ n12 : Int, r13 = (.int .i64 n12) ∧ IfB (decide ((n12 : Int) < 1)) (Reb N w14 [] (Q (.bool false))) (CallL PP N w14 [] n_journal_Journal_TermAt [(.pointer j3'), (.int .i64 k7')] fun r16 w17 => ∃ n15 : Int, r16 = (.int .i64 n15) ∧ CallL PP N w17 [] n_journal_Journal_Term [(.pointer j3')] fun r19 w20 => ∃ n18 : Int, r19 = (.int .i64 n18) ∧ IfB (decide ((n18 : Int) < n15)) (Reb N w20 [] (Q (.bool false))) (IfB (decide ((0 : Int) < k7')) (CallL PP N w20 [] n_journal_Journal_TermAt [(.pointer j3'), (.int .i64 (IntKind.i64.wrap (k7' - 1)))] fun r22 w23 => ∃ n21 : Int, r22 = (.int .i64 n21) ∧ CallL PP N w23 [] n_journal_Journal_TermAt [(.pointer j3'), (.int .i64 k7')] fun r25 w26 => ∃ n24 : Int, r25 = (.int .i64 n24) ∧ IfB (decide ((n24 : Int) < n21)) (Reb N w26 [] (Q (.bool false))) (Reb N w26 [] fun w27 => C_cellplanelaw08_JournalOrder_17 N K1 K2 Q l0' j3' i4' k7' w27)) (Reb N w20 [] fun w28 => C_cellplanelaw08_JournalOrder_17 N K1 K2 Q l0' j3' i4' k7' w28)))

noncomputable def H_cellplanelaw08_JournalOrder_15 (N : Nat) (K1 : (Sl × (Option Addr)) → (Int) → World → Prop) (K2 : (Sl × (Option Addr) × Int) → (Int) → World → Prop) (Q : VP) : St → World → Prop := HG N 114 [.v 0 .l, .v 3 .o, .v 4 (.i .i64), .v 7 (.i .i64)] (C_cellplanelaw08_JournalOrder_15 N K1 K2 Q)

theorem T_cellplanelaw08_JournalOrder_15 (N : Nat) (K1 : (Sl × (Option Addr)) → (Int) → World → Prop) (K2 : (Sl × (Option Addr) × Int) → (Int) → World → Prop) (Q : VP) (s : St) (w : World) (h : H_cellplanelaw08_JournalOrder_15 N K1 K2 Q s w) : Snd (cy N [8]) k_cellplanelaw08_JournalOrder_8 (z_cellplanelaw08_JournalOrder_9 N K1 K2 Q) s w :=
  Snd.HG h fun l0' j3' i4' k7' w h => (sq (H_cellplanelaw08_JournalOrder_16 N K1 K2 Q) (bk 3 (sq (H_cellplanelaw08_JournalOrder_17 N K1 K2 Q) (dsm h) (T_cellplanelaw08_JournalOrder_17 N K1 K2 Q))) (T_cellplanelaw08_JournalOrder_16 N K1 K2 Q))

def B_cellplanelaw08_JournalOrder_14 (N : Nat) (K1 : (Sl × (Option Addr)) → (Int) → World → Prop) (K2 : (Sl × (Option Addr) × Int) → (Int) → World → Prop) (Q : VP) (l0' : Sl) (j3' : Option Addr) (i4' k7' : Int) (w : World) : Prop :=
  CallL PP N w [] n_journal_Journal_Len [(.pointer j3')] fun r30 w31 => ∃ n29 : Int, r30 = (.int .i64 n29) ∧ IfB (decide ((k7' : Int) < n29)) (Reb N w31 [] fun w32 => C_cellplanelaw08_JournalOrder_15 N K1 K2 Q l0' j3' i4' k7' w32) (Reb N w31 [] fun w33 => C_cellplanelaw08_JournalOrder_8 N K1 Q l0' j3' i4' w33)

theorem X_cellplanelaw08_JournalOrder_14 {N : Nat} {K1 : (Sl × (Option Addr)) → (Int) → World → Prop} {K2 : (Sl × (Option Addr) × Int) → (Int) → World → Prop} {Q : VP} {l0' : Sl} {j3' : Option Addr} {i4' k7' : Int} {w : World} (h : B_cellplanelaw08_JournalOrder_14 N K1 K2 Q l0' j3' i4' k7' w) : Snd (cy N [8]) (cL (cL k_cellplanelaw08_JournalOrder_7)) (thenD (HeadK N 114 [.val 0, .val 3, .val 4, .val 7] D_cellplanelaw08_JournalOrder_14 K2) (inBlockD 2 (z_cellplanelaw08_JournalOrder_5 N K1 Q))) (mkS 114 [.val 0, .val 3, .val 4, .val 7] [(.slice l0'.a l0'.n l0'.c), (.pointer j3'), (.int .i64 i4'), (.int .i64 k7')] []) w :=
  (sq (H_cellplanelaw08_JournalOrder_15 N K1 K2 Q) (dsm h) (T_cellplanelaw08_JournalOrder_15 N K1 K2 Q))

def L_cellplanelaw08_JournalOrder_14 (N : Nat) (K1 : (Sl × (Option Addr)) → (Int) → World → Prop) (Q : VP) (K2 : (Sl × (Option Addr) × Int) → (Int) → World → Prop) (c : Sl × (Option Addr) × Int) (x : Int) (w : World) : Prop := match c, x with
  | (l0', j3', i4'), k7' => B_cellplanelaw08_JournalOrder_14 N K1 K2 Q l0' j3' i4' k7' w

theorem T_cellplanelaw08_JournalOrder_14 (N : Nat) (K1 : (Sl × (Option Addr)) → (Int) → World → Prop) (Q : VP) {s : St} {w : World} (h : HeadE N 114 [.val 0, .val 3, .val 4, .val 7] D_cellplanelaw08_JournalOrder_14 (L_cellplanelaw08_JournalOrder_14 N K1 Q) s w) : Snd (cy N [8]) (cL k_cellplanelaw08_JournalOrder_7) (inBlockD 2 (z_cellplanelaw08_JournalOrder_5 N K1 Q)) s w := by
  refine Snd.cast (c' := .loop (cL (cL k_cellplanelaw08_JournalOrder_7))) (by kernel_rfl) (Snd.loopC (fun (c : Sl × (Option Addr) × Int) (x : Int) => match c, x with | (l0', j3', i4'), k7' => ([(.slice l0'.a l0'.n l0'.c), (.pointer j3'), (.int .i64 i4'), (.int .i64 k7')], [])) ?_ ?_ h)
  · intro K vs ls h
    unfold D_cellplanelaw08_JournalOrder_14 at h
    split at h
    · exact ⟨_, _, rfl, h⟩
    · exact h.elim
  · rintro K ⟨l0', j3', i4'⟩ k7' w h
    exact X_cellplanelaw08_JournalOrder_14 h

def C_cellplanelaw08_JournalOrder_13 (N : Nat) (K1 : (Sl × (Option Addr)) → (Int) → World → Prop) (Q : VP) (l0' : Sl) (j3' : Option Addr) (i4' k7' : Int) (w : World) : Prop :=
  LoopC N w [] ((l0', j3', i4') : Sl × (Option Addr) × Int) (k7' : Int) (L_cellplanelaw08_JournalOrder_14 N K1 Q)

noncomputable def H_cellplanelaw08_JournalOrder_13 (N : Nat) (K1 : (Sl × (Option Addr)) → (Int) → World → Prop) (Q : VP) : St → World → Prop := HG N 114 [.v 0 .l, .v 3 .o, .v 4 (.i .i64), .v 7 (.i .i64)] (C_cellplanelaw08_JournalOrder_13 N K1 Q)

theorem T_cellplanelaw08_JournalOrder_13 (N : Nat) (K1 : (Sl × (Option Addr)) → (Int) → World → Prop) (Q : VP) (s : St) (w : World) (h : H_cellplanelaw08_JournalOrder_13 N K1 Q s w) : Snd (cy N [8]) k_cellplanelaw08_JournalOrder_7 (z_cellplanelaw08_JournalOrder_5 N K1 Q) s w :=
  Snd.HG h fun l0' j3' i4' k7' w h => (bk 2 (T_cellplanelaw08_JournalOrder_14 N K1 Q (mpr' (by kernel_rfl) h)))

def C_cellplanelaw08_JournalOrder_12 (N : Nat) (K1 : (Sl × (Option Addr)) → (Int) → World → Prop) (Q : VP) (l0' : Sl) (j3' : Option Addr) (i4' : Int) (w : World) : Prop :=
  Reb N w [] fun w34 => C_cellplanelaw08_JournalOrder_13 N K1 Q l0' j3' i4' 0 w34

noncomputable def H_cellplanelaw08_JournalOrder_12 (N : Nat) (K1 : (Sl × (Option Addr)) → (Int) → World → Prop) (Q : VP) : St → World → Prop := HG N 114 [.v 0 .l, .v 3 .o, .v 4 (.i .i64)] (C_cellplanelaw08_JournalOrder_12 N K1 Q)

theorem T_cellplanelaw08_JournalOrder_12 (N : Nat) (K1 : (Sl × (Option Addr)) → (Int) → World → Prop) (Q : VP) (s : St) (w : World) (h : H_cellplanelaw08_JournalOrder_12 N K1 Q s w) : Snd (cy N [8]) (cR k_cellplanelaw08_JournalOrder_6) (z_cellplanelaw08_JournalOrder_5 N K1 Q) s w :=
  Snd.HG h fun l0' j3' i4' w h => (sq (H_cellplanelaw08_JournalOrder_13 N K1 Q) (dsm h) (T_cellplanelaw08_JournalOrder_13 N K1 Q))

def C_cellplanelaw08_JournalOrder_11 (N : Nat) (K1 : (Sl × (Option Addr)) → (Int) → World → Prop) (Q : VP) (l0' : Sl) (j3' : Option Addr) (i4' n5' e6' : Int) (w : World) : Prop :=
  CallL PP N w [] n_journal_Journal_Len [(.pointer j3')] fun r36 w37 => ∃ n35 : Int, r36 = (.int .i64 n35) ∧ IfB (!((decide ((e6' : Int) = 0)) == (decide ((n35 : Int) = (IntKind.i64.wrap (n5' + 1)))))) (Reb N w37 [] (Q (.bool false))) (Reb N w37 [] fun w38 => C_cellplanelaw08_JournalOrder_12 N K1 Q l0' j3' i4' w38)

noncomputable def H_cellplanelaw08_JournalOrder_11 (N : Nat) (K1 : (Sl × (Option Addr)) → (Int) → World → Prop) (Q : VP) : St → World → Prop := HG N 114 [.v 0 .l, .v 3 .o, .v 4 (.i .i64), .v 5 (.i .i64), .v 6 (.i .i64)] (C_cellplanelaw08_JournalOrder_11 N K1 Q)

theorem T_cellplanelaw08_JournalOrder_11 (N : Nat) (K1 : (Sl × (Option Addr)) → (Int) → World → Prop) (Q : VP) (s : St) (w : World) (h : H_cellplanelaw08_JournalOrder_11 N K1 Q s w) : Snd (cy N [8]) k_cellplanelaw08_JournalOrder_6 (z_cellplanelaw08_JournalOrder_5 N K1 Q) s w :=
  Snd.HG h fun l0' j3' i4' n5' e6' w h => (sq (H_cellplanelaw08_JournalOrder_12 N K1 Q) (dsm h) (T_cellplanelaw08_JournalOrder_12 N K1 Q))

def C_cellplanelaw08_JournalOrder_10 (N : Nat) (K1 : (Sl × (Option Addr)) → (Int) → World → Prop) (Q : VP) (l0' : Sl) (j3' : Option Addr) (i4' n5' : Int) (w : World) : Prop :=
  IdxL l0'.a l0'.n i4' fun q39 => ∃ n40 : Int, At w (addA (q39.add ((i4' : Int).toNat * 3)) 2) [(.int .i64 n40)] ∧ NotIn ((addA (q39.add ((i4' : Int).toNat * 3)) 2) : Addr).block [] ∧ CallL PP N w [] n_journal_Journal_Term [(.pointer j3')] fun r42 w43 => ∃ n41 : Int, r42 = (.int .i64 n41) ∧ At w43 (addA (q39.add ((i4' : Int).toNat * 3)) 2) [(.int .i64 n40)] ∧ CallL PP N w43 [] n_journal_Journal_Term [(.pointer j3')] fun r45 w46 => ∃ n44 : Int, r45 = (.int .i64 n44) ∧ At w46 (addA (q39.add ((i4' : Int).toNat * 3)) 2) [(.int .i64 n40)] ∧ CallL PP N w46 [] n_cellplanemake_Between [(.int .i64 n40), (.int .i64 (IntKind.i64.wrap (n41 - 2))), (.int .i64 (IntKind.i64.wrap (n44 + 1)))] fun r48 w49 => ∃ n47 : Int, r48 = (.int .i64 n47) ∧ CallL PP N w49 [] n_cellplanelaw08_note [(.int .i64 i4')] fun r51 w52 => ∃ x50 : G_api_Entry, r51 = (.agg (List.toArray x50.cells)) ∧ CallL PP N w52 [] n_journal_Journal_Append [(.pointer j3'), (.int .i64 n47), (.agg (List.toArray x50.cells))] fun r54 w55 => ∃ n53 : Int, r54 = (.int .i64 n53) ∧ Reb N w55 [] fun w56 => C_cellplanelaw08_JournalOrder_11 N K1 Q l0' j3' i4' n5' n53 w56

noncomputable def H_cellplanelaw08_JournalOrder_10 (N : Nat) (K1 : (Sl × (Option Addr)) → (Int) → World → Prop) (Q : VP) : St → World → Prop := HG N 114 [.v 0 .l, .v 3 .o, .v 4 (.i .i64), .v 5 (.i .i64)] (C_cellplanelaw08_JournalOrder_10 N K1 Q)

theorem T_cellplanelaw08_JournalOrder_10 (N : Nat) (K1 : (Sl × (Option Addr)) → (Int) → World → Prop) (Q : VP) (s : St) (w : World) (h : H_cellplanelaw08_JournalOrder_10 N K1 Q s w) : Snd (cy N [8]) (cR k_cellplanelaw08_JournalOrder_4) (z_cellplanelaw08_JournalOrder_5 N K1 Q) s w :=
  Snd.HG h fun l0' j3' i4' n5' w h => (sq (H_cellplanelaw08_JournalOrder_11 N K1 Q) (dsm h) (T_cellplanelaw08_JournalOrder_11 N K1 Q))

def C_cellplanelaw08_JournalOrder_9 (N : Nat) (K1 : (Sl × (Option Addr)) → (Int) → World → Prop) (Q : VP) (l0' : Sl) (j3' : Option Addr) (i4' : Int) (w : World) : Prop :=
  CallL PP N w [] n_journal_Journal_Len [(.pointer j3')] fun r58 w59 => ∃ n57 : Int, r58 = (.int .i64 n57) ∧ Reb N w59 [] fun w60 => C_cellplanelaw08_JournalOrder_10 N K1 Q l0' j3' i4' n57 w60

noncomputable def H_cellplanelaw08_JournalOrder_9 (N : Nat) (K1 : (Sl × (Option Addr)) → (Int) → World → Prop) (Q : VP) : St → World → Prop := HG N 114 [.v 0 .l, .v 3 .o, .v 4 (.i .i64)] (C_cellplanelaw08_JournalOrder_9 N K1 Q)

theorem T_cellplanelaw08_JournalOrder_9 (N : Nat) (K1 : (Sl × (Option Addr)) → (Int) → World → Prop) (Q : VP) (s : St) (w : World) (h : H_cellplanelaw08_JournalOrder_9 N K1 Q s w) : Snd (cy N [8]) k_cellplanelaw08_JournalOrder_4 (z_cellplanelaw08_JournalOrder_5 N K1 Q) s w :=
  Snd.HG h fun l0' j3' i4' w h => (sq (H_cellplanelaw08_JournalOrder_10 N K1 Q) (dsm h) (T_cellplanelaw08_JournalOrder_10 N K1 Q))

def C_cellplanelaw08_JournalOrder_7 (N : Nat) (K1 : (Sl × (Option Addr)) → (Int) → World → Prop) (Q : VP) (l0' : Sl) (j3' : Option Addr) (i4' : Int) (w : World) : Prop :=
  IdxL l0'.a l0'.n i4' fun q61 => ∃ n62 : Int, At w (addA (q61.add ((i4' : Int).toNat * 3)) 1) [(.int .i64 n62)] ∧ NotIn ((addA (q61.add ((i4' : Int).toNat * 3)) 1) : Addr).block [] ∧ CallL PP N w [] n_journal_Journal_Term [(.pointer j3')] fun r64 w65 => ∃ n63 : Int, r64 = (.int .i64 n63) ∧ At w65 (addA (q61.add ((i4' : Int).toNat * 3)) 1) [(.int .i64 n62)] ∧ CallL PP N w65 [] n_journal_Journal_Term [(.pointer j3')] fun r67 w68 => ∃ n66 : Int, r67 = (.int .i64 n66) ∧ At w68 (addA (q61.add ((i4' : Int).toNat * 3)) 1) [(.int .i64 n62)] ∧ CallL PP N w68 [] n_cellplanemake_Between [(.int .i64 n62), (.int .i64 n63), (.int .i64 (IntKind.i64.wrap (n66 + 2)))] fun r70 w71 => ∃ n69 : Int, r70 = (.int .i64 n69) ∧ CallL PP N w71 [] n_journal_Journal_SetTerm [(.pointer j3'), (.int .i64 n69), (.int .i64 (-1))] fun r73 w74 => ∃ n72 : Int, r73 = (.int .i64 n72) ∧ Reb N w74 [] fun w75 => C_cellplanelaw08_JournalOrder_9 N K1 Q l0' j3' i4' w75

noncomputable def H_cellplanelaw08_JournalOrder_7 (N : Nat) (K1 : (Sl × (Option Addr)) → (Int) → World → Prop) (Q : VP) : St → World → Prop := HG N 114 [.v 0 .l, .v 3 .o, .v 4 (.i .i64)] (C_cellplanelaw08_JournalOrder_7 N K1 Q)

theorem T_cellplanelaw08_JournalOrder_7 (N : Nat) (K1 : (Sl × (Option Addr)) → (Int) → World → Prop) (Q : VP) (s : St) (w : World) (h : H_cellplanelaw08_JournalOrder_7 N K1 Q s w) : Snd (cy N [8]) k_cellplanelaw08_JournalOrder_2 (z_cellplanelaw08_JournalOrder_3 N K1 Q) s w :=
  Snd.HG h fun l0' j3' i4' w h => (sq (H_cellplanelaw08_JournalOrder_8 N K1 Q) (bk 1 (sq (H_cellplanelaw08_JournalOrder_9 N K1 Q) (dsm h) (T_cellplanelaw08_JournalOrder_9 N K1 Q))) (T_cellplanelaw08_JournalOrder_8 N K1 Q))

def B_cellplanelaw08_JournalOrder_6 (N : Nat) (K1 : (Sl × (Option Addr)) → (Int) → World → Prop) (Q : VP) (l0' : Sl) (j3' : Option Addr) (i4' : Int) (w : World) : Prop :=
  IfB (decide ((i4' : Int) < ((l0'.n : Nat) : Int))) (Reb N w [] fun w76 => C_cellplanelaw08_JournalOrder_7 N K1 Q l0' j3' i4' w76) (Reb N w [] fun w77 => C_cellplanelaw08_JournalOrder_4 N Q w77)

theorem X_cellplanelaw08_JournalOrder_6 {N : Nat} {K1 : (Sl × (Option Addr)) → (Int) → World → Prop} {Q : VP} {l0' : Sl} {j3' : Option Addr} {i4' : Int} {w : World} (h : B_cellplanelaw08_JournalOrder_6 N K1 Q l0' j3' i4' w) : Snd (cy N [8]) (cL k_cellplanelaw08_JournalOrder_1) (thenD (HeadK N 114 [.val 0, .val 3, .val 4] D_cellplanelaw08_JournalOrder_6 K1) (inBlockD 0 (z_cellplanelaw08_JournalOrder_0 N Q))) (mkS 114 [.val 0, .val 3, .val 4] [(.slice l0'.a l0'.n l0'.c), (.pointer j3'), (.int .i64 i4')] []) w :=
  (sq (H_cellplanelaw08_JournalOrder_7 N K1 Q) (dsm h) (T_cellplanelaw08_JournalOrder_7 N K1 Q))

def L_cellplanelaw08_JournalOrder_6 (N : Nat) (Q : VP) (K1 : (Sl × (Option Addr)) → (Int) → World → Prop) (c : Sl × (Option Addr)) (x : Int) (w : World) : Prop := match c, x with
  | (l0', j3'), i4' => B_cellplanelaw08_JournalOrder_6 N K1 Q l0' j3' i4' w

theorem T_cellplanelaw08_JournalOrder_6 (N : Nat) (Q : VP) {s : St} {w : World} (h : HeadE N 114 [.val 0, .val 3, .val 4] D_cellplanelaw08_JournalOrder_6 (L_cellplanelaw08_JournalOrder_6 N Q) s w) : Snd (cy N [8]) k_cellplanelaw08_JournalOrder_1 (inBlockD 0 (z_cellplanelaw08_JournalOrder_0 N Q)) s w := by
  refine Snd.cast (c' := .loop (cL k_cellplanelaw08_JournalOrder_1)) (by kernel_rfl) (Snd.loopC (fun (c : Sl × (Option Addr)) (x : Int) => match c, x with | (l0', j3'), i4' => ([(.slice l0'.a l0'.n l0'.c), (.pointer j3'), (.int .i64 i4')], [])) ?_ ?_ h)
  · intro K vs ls h
    unfold D_cellplanelaw08_JournalOrder_6 at h
    split at h
    · exact ⟨_, _, rfl, h⟩
    · exact h.elim
  · rintro K ⟨l0', j3'⟩ i4' w h
    exact X_cellplanelaw08_JournalOrder_6 h

def C_cellplanelaw08_JournalOrder_5 (N : Nat) (Q : VP) (l0' : Sl) (j3' : Option Addr) (i4' : Int) (w : World) : Prop :=
  LoopC N w [] ((l0', j3') : Sl × (Option Addr)) (i4' : Int) (L_cellplanelaw08_JournalOrder_6 N Q)

noncomputable def H_cellplanelaw08_JournalOrder_5 (N : Nat) (Q : VP) : St → World → Prop := HG N 114 [.v 0 .l, .v 3 .o, .v 4 (.i .i64)] (C_cellplanelaw08_JournalOrder_5 N Q)

theorem T_cellplanelaw08_JournalOrder_5 (N : Nat) (Q : VP) (s : St) (w : World) (h : H_cellplanelaw08_JournalOrder_5 N Q s w) : Snd (cy N [8]) (cR (cL (cR (cR (cR (bodyOf Try.f6)))))) (z_cellplanelaw08_JournalOrder_0 N Q) s w :=
  Snd.HG h fun l0' j3' i4' w h => (bk 0 (T_cellplanelaw08_JournalOrder_6 N Q (mpr' (by kernel_rfl) h)))

def C_cellplanelaw08_JournalOrder_3 (N : Nat) (Q : VP) (l0' : Sl) (j3' : Option Addr) (w : World) : Prop :=
  Reb N w [] fun w78 => C_cellplanelaw08_JournalOrder_5 N Q l0' j3' 0 w78

noncomputable def H_cellplanelaw08_JournalOrder_3 (N : Nat) (Q : VP) : St → World → Prop := HG N 114 [.v 0 .l, .v 3 .o] (C_cellplanelaw08_JournalOrder_3 N Q)

theorem T_cellplanelaw08_JournalOrder_3 (N : Nat) (Q : VP) (s : St) (w : World) (h : H_cellplanelaw08_JournalOrder_3 N Q s w) : Snd (cy N [8]) (cR (cR (cR (bodyOf Try.f6)))) (retD (cy N [8]) Try.f6 Q) s w :=
  Snd.HG h fun l0' j3' w h => (sq (H_cellplanelaw08_JournalOrder_4 N Q) (sq (H_cellplanelaw08_JournalOrder_5 N Q) (dsm h) (T_cellplanelaw08_JournalOrder_5 N Q)) (T_cellplanelaw08_JournalOrder_4 N Q))

noncomputable def z_cellplanelaw08_JournalOrder_12 (N : Nat) (Q : VP) : Cont := (thenD (H_cellplanelaw08_JournalOrder_3 N Q) (retD (cy N [8]) Try.f6 Q))

def C_cellplanelaw08_JournalOrder_18 (N : Nat) (Q : VP) (l0' : Sl) (j3' : Option Addr) (v21' : Bool) (w : World) : Prop :=
  IfB v21' (CallL PP N w [] n_cellplanelaw08_awake [] fun r80 w81 => ∃ b79 : Bool, r80 = (.bool b79) ∧ IfB b79 (Reb N w81 [] (Q (.bool (!j3'.isNone)))) (Reb N w81 [] (Q (.bool false)))) (Reb N w [] fun w82 => C_cellplanelaw08_JournalOrder_3 N Q l0' j3' w82)

noncomputable def H_cellplanelaw08_JournalOrder_18 (N : Nat) (Q : VP) : St → World → Prop := HG N 114 [.v 0 .l, .v 3 .o, .v 21 .b] (C_cellplanelaw08_JournalOrder_18 N Q)

theorem T_cellplanelaw08_JournalOrder_18 (N : Nat) (Q : VP) (s : St) (w : World) (h : H_cellplanelaw08_JournalOrder_18 N Q s w) : Snd (cy N [8]) (cR (cL (cR (cR (bodyOf Try.f6))))) (z_cellplanelaw08_JournalOrder_12 N Q) s w :=
  Snd.HG h fun _ _ _ _ h => dsm h

def C_cellplanelaw08_JournalOrder_2 (N : Nat) (Q : VP) (l0' : Sl) (j3' : Option Addr) (w : World) : Prop :=
  CallL PP N w [] n_cellplanelaw08_awake [] fun r84 w85 => ∃ b83 : Bool, r84 = (.bool b83) ∧ IfB (!b83) (Reb N w85 [] fun w86 => C_cellplanelaw08_JournalOrder_18 N Q l0' j3' true w86) (IfB (decide ((50 : Int) < ((l0'.n : Nat) : Int))) (Reb N w85 [] fun w87 => C_cellplanelaw08_JournalOrder_18 N Q l0' j3' true w87) (Reb N w85 [] fun w88 => C_cellplanelaw08_JournalOrder_18 N Q l0' j3' j3'.isNone w88))

noncomputable def H_cellplanelaw08_JournalOrder_2 (N : Nat) (Q : VP) : St → World → Prop := HG N 114 [.v 0 .l, .v 3 .o] (C_cellplanelaw08_JournalOrder_2 N Q)

theorem T_cellplanelaw08_JournalOrder_2 (N : Nat) (Q : VP) (s : St) (w : World) (h : H_cellplanelaw08_JournalOrder_2 N Q s w) : Snd (cy N [8]) (cR (cR (bodyOf Try.f6))) (retD (cy N [8]) Try.f6 Q) s w :=
  Snd.HG h fun l0' j3' w h => (sq (H_cellplanelaw08_JournalOrder_3 N Q) (sq (H_cellplanelaw08_JournalOrder_18 N Q) (dsm h) (T_cellplanelaw08_JournalOrder_18 N Q)) (T_cellplanelaw08_JournalOrder_3 N Q))

def C_cellplanelaw08_JournalOrder_1 (N : Nat) (Q : VP) (l0' : Sl) (w : World) : Prop :=
  CallL PP N w [] n_journal_New [] fun r90 w91 => ∃ p89 : Option Addr, r90 = (.pointer p89) ∧ Reb N w91 [] fun w92 => C_cellplanelaw08_JournalOrder_2 N Q l0' p89 w92

noncomputable def H_cellplanelaw08_JournalOrder_1 (N : Nat) (Q : VP) : St → World → Prop := HG N 114 [.v 0 .l] (C_cellplanelaw08_JournalOrder_1 N Q)

theorem T_cellplanelaw08_JournalOrder_1 (N : Nat) (Q : VP) (s : St) (w : World) (h : H_cellplanelaw08_JournalOrder_1 N Q s w) : Snd (cy N [8]) (cR (bodyOf Try.f6)) (retD (cy N [8]) Try.f6 Q) s w :=
  Snd.HG h fun l0' w h => (sq (H_cellplanelaw08_JournalOrder_2 N Q) (dsm h) (T_cellplanelaw08_JournalOrder_2 N Q))

def F_cellplanelaw08_JournalOrder (N : Nat) (l0 : Sl) (Q : VP) (w : World) : Prop :=
  Reb N w [] fun w93 => C_cellplanelaw08_JournalOrder_1 N Q l0 w93

theorem cellplanelaw08_JournalOrder_snd (N : Nat) (l0 : Sl) (Q : VP) (w : World) (h : F_cellplanelaw08_JournalOrder N l0 Q w) : Snd (cy N [8]) (bodyOf Try.f6) (retD (cy N [8]) Try.f6 Q) (entry 114 [(.slice l0.a l0.n l0.c)]) w :=
  (sq (H_cellplanelaw08_JournalOrder_1 N Q) (dsm h) (T_cellplanelaw08_JournalOrder_1 N Q))

theorem cellplanelaw08_JournalOrder_calls (l0 : Sl) (Q : VP) (w : World) (h : F_cellplanelaw08_JournalOrder w.heap.size l0 Q w) : Calls PP n_cellplanelaw08_JournalOrder [(.slice l0.a l0.n l0.c)].toArray w fun e w' => ∃ v, e = .returned v ∧ Q v w' :=
  calls_of (C := cy w.heap.size [8]) (fn := Try.f6) (c := (bodyOf Try.f6)) (by kernel_rfl) (by kernel_rfl) (Nat.le_refl _) (cellplanelaw08_JournalOrder_snd _ l0 Q w h)

/-! ### cellplanelaw08_JournalPlays -/
def C_cellplanelaw08_JournalPlays_4 (N : Nat) (Q : VP) (w : World) : Prop :=
  Reb N w [] (Q (.bool true))

noncomputable def H_cellplanelaw08_JournalPlays_4 (N : Nat) (Q : VP) : St → World → Prop := HG N 38 [] (C_cellplanelaw08_JournalPlays_4 N Q)

theorem T_cellplanelaw08_JournalPlays_4 (N : Nat) (Q : VP) (s : St) (w : World) (h : H_cellplanelaw08_JournalPlays_4 N Q s w) : Snd (cy N []) (cR (cR (cR (cR (bodyOf Try.f7))))) (retD (cy N []) Try.f7 Q) s w :=
  Snd.HG h fun _ h => dsm h

noncomputable def z_cellplanelaw08_JournalPlays_0 (N : Nat) (Q : VP) : Cont := (thenD (H_cellplanelaw08_JournalPlays_4 N Q) (retD (cy N []) Try.f7 Q))

def D_cellplanelaw08_JournalPlays_6 (K : (Sl × (Option Addr) × (Option Addr)) → (Int) → Prop) : List Value → List LB → Prop := fun vs ls => match vs, ls with
  | [.slice l0'_a l0'_n l0'_c, .pointer j3', .pointer r4', .int .i64 i5'], [] => K (⟨l0'_a, l0'_n, l0'_c⟩, j3', r4') i5'
  | _, _ => False

noncomputable def k_cellplanelaw08_JournalPlays_1 : Code := (cL (cR (cL (cR (cR (cR (bodyOf Try.f7)))))))

def B_cellplanelaw08_JournalPlays_6 (N : Nat) (K1 : (Sl × (Option Addr) × (Option Addr)) → (Int) → World → Prop) (Q : VP) (l0' : Sl) (j3' r4' : Option Addr) (i5' : Int) (w : World) : Prop :=
  IfB (decide ((i5' : Int) < ((l0'.n : Nat) : Int))) (IdxL l0'.a l0'.n i5' fun q1 => ∃ x2 : G_cellplanelaw08_Act, At w (q1.add ((i5' : Int).toNat * 3)) x2.cells ∧ NotIn ((q1.add ((i5' : Int).toNat * 3)) : Addr).block [] ∧ CallL PP N w [] n_cellplanelaw08_both [(.pointer j3'), (.pointer r4'), (.agg (List.toArray x2.cells))] fun r4 w5 => ∃ b3 : Bool, r4 = (.bool b3) ∧ IfB (!b3) (Reb N w5 [] (Q (.bool false))) (Reb N w5 [] fun w6 => K1 (l0', j3', r4') (IntKind.i64.wrap (i5' + 1)) w6)) (Reb N w [] fun w7 => C_cellplanelaw08_JournalPlays_4 N Q w7)

theorem X_cellplanelaw08_JournalPlays_6 {N : Nat} {K1 : (Sl × (Option Addr) × (Option Addr)) → (Int) → World → Prop} {Q : VP} {l0' : Sl} {j3' r4' : Option Addr} {i5' : Int} {w : World} (h : B_cellplanelaw08_JournalPlays_6 N K1 Q l0' j3' r4' i5' w) : Snd (cy N []) (cL k_cellplanelaw08_JournalPlays_1) (thenD (HeadK N 38 [.val 0, .val 3, .val 4, .val 5] D_cellplanelaw08_JournalPlays_6 K1) (inBlockD 0 (z_cellplanelaw08_JournalPlays_0 N Q))) (mkS 38 [.val 0, .val 3, .val 4, .val 5] [(.slice l0'.a l0'.n l0'.c), (.pointer j3'), (.pointer r4'), (.int .i64 i5')] []) w :=
  (dsm h)

def L_cellplanelaw08_JournalPlays_6 (N : Nat) (Q : VP) (K1 : (Sl × (Option Addr) × (Option Addr)) → (Int) → World → Prop) (c : Sl × (Option Addr) × (Option Addr)) (x : Int) (w : World) : Prop := match c, x with
  | (l0', j3', r4'), i5' => B_cellplanelaw08_JournalPlays_6 N K1 Q l0' j3' r4' i5' w

theorem T_cellplanelaw08_JournalPlays_6 (N : Nat) (Q : VP) {s : St} {w : World} (h : HeadE N 38 [.val 0, .val 3, .val 4, .val 5] D_cellplanelaw08_JournalPlays_6 (L_cellplanelaw08_JournalPlays_6 N Q) s w) : Snd (cy N []) k_cellplanelaw08_JournalPlays_1 (inBlockD 0 (z_cellplanelaw08_JournalPlays_0 N Q)) s w := by
  refine Snd.cast (c' := .loop (cL k_cellplanelaw08_JournalPlays_1)) (by kernel_rfl) (Snd.loopC (fun (c : Sl × (Option Addr) × (Option Addr)) (x : Int) => match c, x with | (l0', j3', r4'), i5' => ([(.slice l0'.a l0'.n l0'.c), (.pointer j3'), (.pointer r4'), (.int .i64 i5')], [])) ?_ ?_ h)
  · intro K vs ls h
    unfold D_cellplanelaw08_JournalPlays_6 at h
    split at h
    · exact ⟨_, _, rfl, h⟩
    · exact h.elim
  · rintro K ⟨l0', j3', r4'⟩ i5' w h
    exact X_cellplanelaw08_JournalPlays_6 h

def C_cellplanelaw08_JournalPlays_5 (N : Nat) (Q : VP) (l0' : Sl) (j3' r4' : Option Addr) (i5' : Int) (w : World) : Prop :=
  LoopC N w [] ((l0', j3', r4') : Sl × (Option Addr) × (Option Addr)) (i5' : Int) (L_cellplanelaw08_JournalPlays_6 N Q)

noncomputable def H_cellplanelaw08_JournalPlays_5 (N : Nat) (Q : VP) : St → World → Prop := HG N 38 [.v 0 .l, .v 3 .o, .v 4 .o, .v 5 (.i .i64)] (C_cellplanelaw08_JournalPlays_5 N Q)

theorem T_cellplanelaw08_JournalPlays_5 (N : Nat) (Q : VP) (s : St) (w : World) (h : H_cellplanelaw08_JournalPlays_5 N Q s w) : Snd (cy N []) (cR (cL (cR (cR (cR (bodyOf Try.f7)))))) (z_cellplanelaw08_JournalPlays_0 N Q) s w :=
  Snd.HG h fun l0' j3' r4' i5' w h => (bk 0 (T_cellplanelaw08_JournalPlays_6 N Q (mpr' (by kernel_rfl) h)))

def C_cellplanelaw08_JournalPlays_3 (N : Nat) (Q : VP) (l0' : Sl) (j3' r4' : Option Addr) (w : World) : Prop :=
  Reb N w [] fun w8 => C_cellplanelaw08_JournalPlays_5 N Q l0' j3' r4' 0 w8

noncomputable def H_cellplanelaw08_JournalPlays_3 (N : Nat) (Q : VP) : St → World → Prop := HG N 38 [.v 0 .l, .v 3 .o, .v 4 .o] (C_cellplanelaw08_JournalPlays_3 N Q)

theorem T_cellplanelaw08_JournalPlays_3 (N : Nat) (Q : VP) (s : St) (w : World) (h : H_cellplanelaw08_JournalPlays_3 N Q s w) : Snd (cy N []) (cR (cR (cR (bodyOf Try.f7)))) (retD (cy N []) Try.f7 Q) s w :=
  Snd.HG h fun l0' j3' r4' w h => (sq (H_cellplanelaw08_JournalPlays_4 N Q) (sq (H_cellplanelaw08_JournalPlays_5 N Q) (dsm h) (T_cellplanelaw08_JournalPlays_5 N Q)) (T_cellplanelaw08_JournalPlays_4 N Q))

noncomputable def z_cellplanelaw08_JournalPlays_2 (N : Nat) (Q : VP) : Cont := (thenD (H_cellplanelaw08_JournalPlays_3 N Q) (retD (cy N []) Try.f7 Q))

def C_cellplanelaw08_JournalPlays_7 (N : Nat) (Q : VP) (l0' : Sl) (j3' r4' : Option Addr) (v18' : Bool) (w : World) : Prop :=
  IfB v18' (CallL PP N w [] n_cellplanelaw08_awake [] fun r10 w11 => ∃ b9 : Bool, r10 = (.bool b9) ∧ IfB b9 (Reb N w11 [] (Q (.bool (!j3'.isNone)))) (Reb N w11 [] (Q (.bool false)))) (Reb N w [] fun w12 => C_cellplanelaw08_JournalPlays_3 N Q l0' j3' r4' w12)

noncomputable def H_cellplanelaw08_JournalPlays_7 (N : Nat) (Q : VP) : St → World → Prop := HG N 38 [.v 0 .l, .v 3 .o, .v 4 .o, .v 18 .b] (C_cellplanelaw08_JournalPlays_7 N Q)

theorem T_cellplanelaw08_JournalPlays_7 (N : Nat) (Q : VP) (s : St) (w : World) (h : H_cellplanelaw08_JournalPlays_7 N Q s w) : Snd (cy N []) (cR (cL (cR (cR (bodyOf Try.f7))))) (z_cellplanelaw08_JournalPlays_2 N Q) s w :=
  Snd.HG h fun _ _ _ _ _ h => dsm h

def C_cellplanelaw08_JournalPlays_2 (N : Nat) (Q : VP) (l0' : Sl) (j3' r4' : Option Addr) (w : World) : Prop :=
  CallL PP N w [] n_cellplanelaw08_awake [] fun r14 w15 => ∃ b13 : Bool, r14 = (.bool b13) ∧ IfB (!b13) (Reb N w15 [] fun w16 => C_cellplanelaw08_JournalPlays_7 N Q l0' j3' r4' true w16) (IfB (decide ((50 : Int) < ((l0'.n : Nat) : Int))) (Reb N w15 [] fun w17 => C_cellplanelaw08_JournalPlays_7 N Q l0' j3' r4' true w17) (Reb N w15 [] fun w18 => C_cellplanelaw08_JournalPlays_7 N Q l0' j3' r4' j3'.isNone w18))

noncomputable def H_cellplanelaw08_JournalPlays_2 (N : Nat) (Q : VP) : St → World → Prop := HG N 38 [.v 0 .l, .v 3 .o, .v 4 .o] (C_cellplanelaw08_JournalPlays_2 N Q)

theorem T_cellplanelaw08_JournalPlays_2 (N : Nat) (Q : VP) (s : St) (w : World) (h : H_cellplanelaw08_JournalPlays_2 N Q s w) : Snd (cy N []) (cR (cR (bodyOf Try.f7))) (retD (cy N []) Try.f7 Q) s w :=
  Snd.HG h fun l0' j3' r4' w h => (sq (H_cellplanelaw08_JournalPlays_3 N Q) (sq (H_cellplanelaw08_JournalPlays_7 N Q) (dsm h) (T_cellplanelaw08_JournalPlays_7 N Q)) (T_cellplanelaw08_JournalPlays_3 N Q))

def C_cellplanelaw08_JournalPlays_1 (N : Nat) (Q : VP) (l0' : Sl) (w : World) : Prop :=
  CallL PP N w [] n_journal_New [] fun r20 w21 => ∃ p19 : Option Addr, r20 = (.pointer p19) ∧ CallL PP N w21 [] n_cellplaneref08_New [] fun r23 w24 => ∃ p22 : Option Addr, r23 = (.pointer p22) ∧ Reb N w24 [] fun w25 => C_cellplanelaw08_JournalPlays_2 N Q l0' p19 p22 w25

noncomputable def H_cellplanelaw08_JournalPlays_1 (N : Nat) (Q : VP) : St → World → Prop := HG N 38 [.v 0 .l] (C_cellplanelaw08_JournalPlays_1 N Q)

theorem T_cellplanelaw08_JournalPlays_1 (N : Nat) (Q : VP) (s : St) (w : World) (h : H_cellplanelaw08_JournalPlays_1 N Q s w) : Snd (cy N []) (cR (bodyOf Try.f7)) (retD (cy N []) Try.f7 Q) s w :=
  Snd.HG h fun l0' w h => (sq (H_cellplanelaw08_JournalPlays_2 N Q) (dsm h) (T_cellplanelaw08_JournalPlays_2 N Q))

def F_cellplanelaw08_JournalPlays (N : Nat) (l0 : Sl) (Q : VP) (w : World) : Prop :=
  Reb N w [] fun w26 => C_cellplanelaw08_JournalPlays_1 N Q l0 w26

theorem cellplanelaw08_JournalPlays_snd (N : Nat) (l0 : Sl) (Q : VP) (w : World) (h : F_cellplanelaw08_JournalPlays N l0 Q w) : Snd (cy N []) (bodyOf Try.f7) (retD (cy N []) Try.f7 Q) (entry 38 [(.slice l0.a l0.n l0.c)]) w :=
  (sq (H_cellplanelaw08_JournalPlays_1 N Q) (dsm h) (T_cellplanelaw08_JournalPlays_1 N Q))

theorem cellplanelaw08_JournalPlays_calls (l0 : Sl) (Q : VP) (w : World) (h : F_cellplanelaw08_JournalPlays w.heap.size l0 Q w) : Calls PP n_cellplanelaw08_JournalPlays [(.slice l0.a l0.n l0.c)].toArray w fun e w' => ∃ v, e = .returned v ∧ Q v w' :=
  calls_of (C := cy w.heap.size []) (fn := Try.f7) (c := (bodyOf Try.f7)) (by kernel_rfl) (by kernel_rfl) (Nat.le_refl _) (cellplanelaw08_JournalPlays_snd _ l0 Q w h)
end Go.Sh
