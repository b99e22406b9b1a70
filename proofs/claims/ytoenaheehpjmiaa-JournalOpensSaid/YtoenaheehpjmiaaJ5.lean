/- What these functions do, told by computation: a formula for each, and that its calls do what the formula says.
   Conditions: none. -/
import Derived.Test.YtoenaheehpjmiaaBase
namespace Go.Sh
open Go Go.Proofs
set_option linter.unusedVariables false
set_option maxRecDepth 100000

/-! ### cellplanelaw08_JournalOpens -/
noncomputable def k_cellplanelaw08_JournalOpens_0 : Code := (cR (cR (cR (cR (cR (cR (bodyOf Try.f8)))))))

noncomputable def k_cellplanelaw08_JournalOpens_1 : Code := (cR (cR k_cellplanelaw08_JournalOpens_0))

def C_cellplanelaw08_JournalOpens_9 (N : Nat) (Q : VP) (w : World) : Prop :=
  CallL PP N w [] n_cellplanelaw08_awake [] fun r2 w3 => ∃ b1 : Bool, r2 = (.bool b1) ∧ Reb N w3 [] (Q (.bool b1))

noncomputable def H_cellplanelaw08_JournalOpens_9 (N : Nat) (Q : VP) : St → World → Prop := HG N 155 [] (C_cellplanelaw08_JournalOpens_9 N Q)

theorem T_cellplanelaw08_JournalOpens_9 (N : Nat) (Q : VP) (s : St) (w : World) (h : H_cellplanelaw08_JournalOpens_9 N Q s w) : Snd (cy N []) (cR k_cellplanelaw08_JournalOpens_1) (retD (cy N []) Try.f8 Q) s w :=
  Snd.HG h fun _ h => dsm h

noncomputable def k_cellplanelaw08_JournalOpens_2 : Code := (cR (cL k_cellplanelaw08_JournalOpens_1))

noncomputable def z_cellplanelaw08_JournalOpens_3 (N : Nat) (Q : VP) : Cont := (thenD (H_cellplanelaw08_JournalOpens_9 N Q) (retD (cy N []) Try.f8 Q))

def D_cellplanelaw08_JournalOpens_11 (K : (Sl) → (Int) → Prop) : List Value → List LB → Prop := fun vs ls => match vs, ls with
  | [.slice x13'_a x13'_n x13'_c, .int .i64 i14'], [] => K ⟨x13'_a, x13'_n, x13'_c⟩ i14'
  | _, _ => False

def B_cellplanelaw08_JournalOpens_11 (N : Nat) (K1 : (Sl) → (Int) → World → Prop) (Q : VP) (x13' : Sl) (i14' : Int) (w : World) : Prop :=
  IfB (decide ((i14' : Int) < ((x13'.n : Nat) : Int))) (IdxL x13'.a x13'.n i14' fun q4 => ∃ l5 : Sl, At w (q4.add ((i14' : Int).toNat * 1)) [(.slice l5.a l5.n l5.c)] ∧ NotIn ((q4.add ((i14' : Int).toNat * 1)) : Addr).block [] ∧ CallL PP N w [] n_journal_Open [(.slice l5.a l5.n l5.c)] fun r7 w8 => ∃ p6 : Option Addr, r7 = (.pointer p6) ∧ IfB p6.isNone (Reb N w8 [] (Q (.bool false))) (IdxL x13'.a x13'.n i14' fun q9 => ∃ l10 : Sl, At w8 (q9.add ((i14' : Int).toNat * 1)) [(.slice l10.a l10.n l10.c)] ∧ NotIn ((q9.add ((i14' : Int).toNat * 1)) : Addr).block [] ∧ CallL PP N w8 [] n_cellplaneref08_Open [(.slice l10.a l10.n l10.c)] fun r12 w13 => ∃ p11 : Option Addr, r12 = (.pointer p11) ∧ CallL PP N w13 [] n_cellplanelaw08_same [(.pointer p6), (.pointer p11)] fun r15 w16 => ∃ b14 : Bool, r15 = (.bool b14) ∧ IfB (!b14) (Reb N w16 [] (Q (.bool false))) (Reb N w16 [] fun w17 => K1 x13' (IntKind.i64.wrap (i14' + 1)) w17))) (Reb N w [] fun w18 => C_cellplanelaw08_JournalOpens_9 N Q w18)

theorem X_cellplanelaw08_JournalOpens_11 {N : Nat} {K1 : (Sl) → (Int) → World → Prop} {Q : VP} {x13' : Sl} {i14' : Int} {w : World} (h : B_cellplanelaw08_JournalOpens_11 N K1 Q x13' i14' w) : Snd (cy N []) (cL (cL k_cellplanelaw08_JournalOpens_2)) (thenD (HeadK N 155 [.val 13, .val 14] D_cellplanelaw08_JournalOpens_11 K1) (inBlockD 3 (z_cellplanelaw08_JournalOpens_3 N Q))) (mkS 155 [.val 13, .val 14] [(.slice x13'.a x13'.n x13'.c), (.int .i64 i14')] []) w :=
  (dsm h)

def L_cellplanelaw08_JournalOpens_11 (N : Nat) (Q : VP) (K1 : (Sl) → (Int) → World → Prop) (c : Sl) (x : Int) (w : World) : Prop := match c, x with
  | x13', i14' => B_cellplanelaw08_JournalOpens_11 N K1 Q x13' i14' w

theorem T_cellplanelaw08_JournalOpens_11 (N : Nat) (Q : VP) {s : St} {w : World} (h : HeadE N 155 [.val 13, .val 14] D_cellplanelaw08_JournalOpens_11 (L_cellplanelaw08_JournalOpens_11 N Q) s w) : Snd (cy N []) (cL k_cellplanelaw08_JournalOpens_2) (inBlockD 3 (z_cellplanelaw08_JournalOpens_3 N Q)) s w := by
  refine Snd.cast (c' := .loop (cL (cL k_cellplanelaw08_JournalOpens_2))) (by kernel_rfl) (Snd.loopC (fun (c : Sl) (x : Int) => match c, x with | x13', i14' => ([(.slice x13'.a x13'.n x13'.c), (.int .i64 i14')], [])) ?_ ?_ h)
  · intro K vs ls h
    unfold D_cellplanelaw08_JournalOpens_11 at h
    split at h
    · exact ⟨_, _, rfl, h⟩
    · exact h.elim
  · rintro K x13' i14' w h
    exact X_cellplanelaw08_JournalOpens_11 h

def C_cellplanelaw08_JournalOpens_10 (N : Nat) (Q : VP) (x13' : Sl) (i14' : Int) (w : World) : Prop :=
  LoopC N w [] (x13' : Sl) (i14' : Int) (L_cellplanelaw08_JournalOpens_11 N Q)

noncomputable def H_cellplanelaw08_JournalOpens_10 (N : Nat) (Q : VP) : St → World → Prop := HG N 155 [.v 13 .l, .v 14 (.i .i64)] (C_cellplanelaw08_JournalOpens_10 N Q)

theorem T_cellplanelaw08_JournalOpens_10 (N : Nat) (Q : VP) (s : St) (w : World) (h : H_cellplanelaw08_JournalOpens_10 N Q s w) : Snd (cy N []) k_cellplanelaw08_JournalOpens_2 (z_cellplanelaw08_JournalOpens_3 N Q) s w :=
  Snd.HG h fun x13' i14' w h => (bk 3 (T_cellplanelaw08_JournalOpens_11 N Q (mpr' (by kernel_rfl) h)))

def C_cellplanelaw08_JournalOpens_8 (N : Nat) (Q : VP) (x13' : Sl) (w : World) : Prop :=
  Reb N w [] fun w19 => C_cellplanelaw08_JournalOpens_10 N Q x13' 0 w19

noncomputable def H_cellplanelaw08_JournalOpens_8 (N : Nat) (Q : VP) : St → World → Prop := HG N 155 [.v 13 .l] (C_cellplanelaw08_JournalOpens_8 N Q)

theorem T_cellplanelaw08_JournalOpens_8 (N : Nat) (Q : VP) (s : St) (w : World) (h : H_cellplanelaw08_JournalOpens_8 N Q s w) : Snd (cy N []) k_cellplanelaw08_JournalOpens_1 (retD (cy N []) Try.f8 Q) s w :=
  Snd.HG h fun x13' w h => (sq (H_cellplanelaw08_JournalOpens_9 N Q) (sq (H_cellplanelaw08_JournalOpens_10 N Q) (dsm h) (T_cellplanelaw08_JournalOpens_10 N Q)) (T_cellplanelaw08_JournalOpens_9 N Q))

def C_cellplanelaw08_JournalOpens_7 (N : Nat) (Q : VP) (raw1' : Sl) (r9' : Option Addr) (b11' : Sl) (k12' : Int) (w : World) : Prop :=
  NilL r9' fun q20 => ∃ p21 : Option Addr, At w q20 [(.pointer p21)] ∧ NotIn (q20 : Addr).block [] ∧ NilL p21 fun q22 => ∃ l23 : Sl, At w q22 [(.slice l23.a l23.n l23.c)] ∧ NotIn (q22 : Addr).block [] ∧ NilL r9' fun q24 => ∃ p25 : Option Addr, At w q24 [(.pointer p25)] ∧ NotIn (q24 : Addr).block [] ∧ NilL p25 fun q26 => ∃ l27 : Sl, At w q26 [(.slice l27.a l27.n l27.c)] ∧ NotIn (q26 : Addr).block [] ∧ (0 : Int) ≤ k12' ∧ (k12' : Int) ≤ (l27.c : Nat) ∧ NilL r9' fun q28 => ∃ p29 : Option Addr, At w q28 [(.pointer p29)] ∧ NotIn (q28 : Addr).block [] ∧ NilL p29 fun q30 => ∃ l31 : Sl, At w q30 [(.slice l31.a l31.n l31.c)] ∧ NotIn (q30 : Addr).block [] ∧ NewL N w [] [] t_u8 fun b32 w33 => RunL PP N w33 [] (Builtin.append_ #[t_sl_u8, t_sl_u8] t_sl_u8 #[(.slice (some ⟨b32, 0, none⟩) 0 0), (.slice l31.a l31.n l31.c)]) fun r35 w36 => ∃ l34 : Sl, r35 = (.slice l34.a l34.n l34.c) ∧ At w36 q26 [(.slice l27.a l27.n l27.c)] ∧ At w36 q24 [(.pointer p25)] ∧ At w36 q22 [(.slice l23.a l23.n l23.c)] ∧ At w36 q20 [(.pointer p21)] ∧ RunL PP N w36 [] (Builtin.append_ #[t_sl_u8, t_sl_u8] t_sl_u8 #[(.slice l34.a l34.n l34.c), (.slice raw1'.a raw1'.n raw1'.c)]) fun r38 w39 => ∃ l37 : Sl, r38 = (.slice l37.a l37.n l37.c) ∧ At w39 q26 [(.slice l27.a l27.n l27.c)] ∧ At w39 q24 [(.pointer p25)] ∧ At w39 q22 [(.slice l23.a l23.n l23.c)] ∧ At w39 q20 [(.pointer p21)] ∧ NewL N w39 [] [(.slice raw1'.a raw1'.n raw1'.c), (.slice l23.a l23.n l23.c), (.slice b11'.a b11'.n b11'.c), (.slice l27.a (Int.toNat k12') l27.c), (.slice l37.a l37.n l37.c)] t_sl_u8 fun b40 w41 => Reb N w41 [] fun w42 => C_cellplanelaw08_JournalOpens_8 N Q (⟨(some ⟨b40, 0, none⟩), 5, 5⟩ : Sl) w42

noncomputable def H_cellplanelaw08_JournalOpens_7 (N : Nat) (Q : VP) : St → World → Prop := HG N 155 [.v 1 .l, .v 9 .o, .v 11 .l, .v 12 (.i .i64)] (C_cellplanelaw08_JournalOpens_7 N Q)

theorem T_cellplanelaw08_JournalOpens_7 (N : Nat) (Q : VP) (s : St) (w : World) (h : H_cellplanelaw08_JournalOpens_7 N Q s w) : Snd (cy N []) (cR k_cellplanelaw08_JournalOpens_0) (retD (cy N []) Try.f8 Q) s w :=
  Snd.HG h fun raw1' r9' b11' k12' w h => (sq (H_cellplanelaw08_JournalOpens_8 N Q) (dsm h) (T_cellplanelaw08_JournalOpens_8 N Q))

def C_cellplanelaw08_JournalOpens_6 (N : Nat) (Q : VP) (raw1' : Sl) (at2' by3' : Int) (r9' : Option Addr) (b11' : Sl) (k12' : Int) (w : World) : Prop :=
  IfB (decide ((0 : Int) < ((b11'.n : Nat) : Int))) (CallL PP N w [] n_cellplanemake_Mod [(.int .i64 at2'), (.int .i64 ((b11'.n : Nat) : Int))] fun r44 w45 => ∃ n43 : Int, r44 = (.int .i64 n43) ∧ IdxL b11'.a b11'.n n43 fun q46 => StL w45 [] (q46.add ((n43 : Int).toNat * 1)) [(.int .u8 by3')] fun w47 => Reb N w47 [] fun w48 => C_cellplanelaw08_JournalOpens_7 N Q raw1' r9' b11' n43 w48) (Reb N w [] fun w49 => C_cellplanelaw08_JournalOpens_7 N Q raw1' r9' b11' k12' w49)

noncomputable def H_cellplanelaw08_JournalOpens_6 (N : Nat) (Q : VP) : St → World → Prop := HG N 155 [.v 1 .l, .v 2 (.i .i64), .v 3 (.i .u8), .v 9 .o, .v 11 .l, .v 12 (.i .i64)] (C_cellplanelaw08_JournalOpens_6 N Q)

theorem T_cellplanelaw08_JournalOpens_6 (N : Nat) (Q : VP) (s : St) (w : World) (h : H_cellplanelaw08_JournalOpens_6 N Q s w) : Snd (cy N []) k_cellplanelaw08_JournalOpens_0 (retD (cy N []) Try.f8 Q) s w :=
  Snd.HG h fun raw1' at2' by3' r9' b11' k12' w h => (sq (H_cellplanelaw08_JournalOpens_7 N Q) (dsm h) (T_cellplanelaw08_JournalOpens_7 N Q))

def C_cellplanelaw08_JournalOpens_5 (N : Nat) (Q : VP) (raw1' : Sl) (at2' by3' : Int) (r9' : Option Addr) (b11' : Sl) (w : World) : Prop :=
  Reb N w [] fun w50 => C_cellplanelaw08_JournalOpens_6 N Q raw1' at2' by3' r9' b11' 0 w50

noncomputable def H_cellplanelaw08_JournalOpens_5 (N : Nat) (Q : VP) : St → World → Prop := HG N 155 [.v 1 .l, .v 2 (.i .i64), .v 3 (.i .u8), .v 9 .o, .v 11 .l] (C_cellplanelaw08_JournalOpens_5 N Q)

theorem T_cellplanelaw08_JournalOpens_5 (N : Nat) (Q : VP) (s : St) (w : World) (h : H_cellplanelaw08_JournalOpens_5 N Q s w) : Snd (cy N []) (cR (cR (cR (cR (cR (bodyOf Try.f8)))))) (retD (cy N []) Try.f8 Q) s w :=
  Snd.HG h fun raw1' at2' by3' r9' b11' w h => (sq (H_cellplanelaw08_JournalOpens_6 N Q) (dsm h) (T_cellplanelaw08_JournalOpens_6 N Q))

def C_cellplanelaw08_JournalOpens_4 (N : Nat) (Q : VP) (raw1' : Sl) (at2' by3' : Int) (r9' : Option Addr) (w : World) : Prop :=
  NewL N w [] [] t_u8 fun b51 w52 => NilL r9' fun q53 => ∃ p54 : Option Addr, At w52 q53 [(.pointer p54)] ∧ NotIn (q53 : Addr).block [] ∧ NilL p54 fun q55 => ∃ l56 : Sl, At w52 q55 [(.slice l56.a l56.n l56.c)] ∧ NotIn (q55 : Addr).block [] ∧ RunL PP N w52 [] (Builtin.append_ #[t_sl_u8, t_sl_u8] t_sl_u8 #[(.slice (some ⟨b51, 0, none⟩) 0 0), (.slice l56.a l56.n l56.c)]) fun r58 w59 => ∃ l57 : Sl, r58 = (.slice l57.a l57.n l57.c) ∧ Reb N w59 [] fun w60 => C_cellplanelaw08_JournalOpens_5 N Q raw1' at2' by3' r9' l57 w60

noncomputable def H_cellplanelaw08_JournalOpens_4 (N : Nat) (Q : VP) : St → World → Prop := HG N 155 [.v 1 .l, .v 2 (.i .i64), .v 3 (.i .u8), .v 9 .o] (C_cellplanelaw08_JournalOpens_4 N Q)

theorem T_cellplanelaw08_JournalOpens_4 (N : Nat) (Q : VP) (s : St) (w : World) (h : H_cellplanelaw08_JournalOpens_4 N Q s w) : Snd (cy N []) (cR (cR (cR (cR (bodyOf Try.f8))))) (retD (cy N []) Try.f8 Q) s w :=
  Snd.HG h fun raw1' at2' by3' r9' w h => (sq (H_cellplanelaw08_JournalOpens_5 N Q) (dsm h) (T_cellplanelaw08_JournalOpens_5 N Q))

noncomputable def z_cellplanelaw08_JournalOpens_4 (N : Nat) (Q : VP) : Cont := (thenD (H_cellplanelaw08_JournalOpens_4 N Q) (retD (cy N []) Try.f8 Q))

def D_cellplanelaw08_JournalOpens_13 (K : (Sl × Sl × Int × Int × (Option Addr)) → (Int) → Prop) : List Value → List LB → Prop := fun vs ls => match vs, ls with
  | [.slice l0'_a l0'_n l0'_c, .slice raw1'_a raw1'_n raw1'_c, .int .i64 at2', .int .u8 by3', .pointer r9', .int .i64 i10'], [] => K (⟨l0'_a, l0'_n, l0'_c⟩, ⟨raw1'_a, raw1'_n, raw1'_c⟩, at2', by3', r9') i10'
  | _, _ => False

noncomputable def k_cellplanelaw08_JournalOpens_5 : Code := (cL (cR (cL (cR (cR (cR (bodyOf Try.f8)))))))

def B_cellplanelaw08_JournalOpens_13 (N : Nat) (K1 : (Sl × Sl × Int × Int × (Option Addr)) → (Int) → World → Prop) (Q : VP) (l0' raw1' : Sl) (at2' by3' : Int) (r9' : Option Addr) (i10' : Int) (w : World) : Prop :=
  IfB (decide ((i10' : Int) < ((l0'.n : Nat) : Int))) (IdxL l0'.a l0'.n i10' fun q61 => ∃ n62 : Int, At w (q61.add ((i10' : Int).toNat * 3)) [(.int .i64 n62)] ∧ NotIn ((q61.add ((i10' : Int).toNat * 3)) : Addr).block [] ∧ CallL PP N w [] n_cellplanemake_Mod [(.int .i64 n62), (.int .i64 3)] fun r64 w65 => ∃ n63 : Int, r64 = (.int .i64 n63) ∧ IfB (decide ((n63 : Int) = 0)) (NilL r9' fun q66 => ∃ n67 : Int, At w65 (addA q66 1) [(.int .i64 n67)] ∧ NotIn ((addA q66 1) : Addr).block [] ∧ IdxL l0'.a l0'.n i10' fun q68 => ∃ n69 : Int, At w65 (addA (q68.add ((i10' : Int).toNat * 3)) 1) [(.int .i64 n69)] ∧ NotIn ((addA (q68.add ((i10' : Int).toNat * 3)) 1) : Addr).block [] ∧ CallL PP N w65 [] n_cellplanemake_Between [(.int .i64 n69), (.int .i64 (-1)), (.int .i64 4)] fun r71 w72 => ∃ n70 : Int, r71 = (.int .i64 n70) ∧ At w72 (addA q66 1) [(.int .i64 n67)] ∧ CallL PP N w72 [] n_cellplaneref08_Journal_SetTerm [(.pointer r9'), (.int .i64 (IntKind.i64.wrap (n67 + 1))), (.int .i64 n70)] fun r74 w75 => ∃ n73 : Int, r74 = (.int .i64 n73) ∧ Reb N w75 [] fun w76 => K1 (l0', raw1', at2', by3', r9') (IntKind.i64.wrap (i10' + 1)) w76) (IfB (decide ((n63 : Int) = 1)) (NilL r9' fun q77 => ∃ n78 : Int, At w65 (addA q77 1) [(.int .i64 n78)] ∧ NotIn ((addA q77 1) : Addr).block [] ∧ IdxL l0'.a l0'.n i10' fun q79 => ∃ n80 : Int, At w65 (addA (q79.add ((i10' : Int).toNat * 3)) 2) [(.int .i64 n80)] ∧ NotIn ((addA (q79.add ((i10' : Int).toNat * 3)) 2) : Addr).block [] ∧ CallL PP N w65 [] n_cellplanelaw08_note [(.int .i64 n80)] fun r82 w83 => ∃ x81 : G_api_Entry, r82 = (.agg (List.toArray x81.cells)) ∧ At w83 (addA q77 1) [(.int .i64 n78)] ∧ CallL PP N w83 [] n_cellplaneref08_Journal_Append [(.pointer r9'), (.int .i64 n78), (.agg (List.toArray x81.cells))] fun r85 w86 => ∃ n84 : Int, r85 = (.int .i64 n84) ∧ Reb N w86 [] fun w87 => K1 (l0', raw1', at2', by3', r9') (IntKind.i64.wrap (i10' + 1)) w87) (IdxL l0'.a l0'.n i10' fun q88 => ∃ n89 : Int, At w65 (addA (q88.add ((i10' : Int).toNat * 3)) 1) [(.int .i64 n89)] ∧ NotIn ((addA (q88.add ((i10' : Int).toNat * 3)) 1) : Addr).block [] ∧ NilL r9' fun q90 => ∃ l91 : Sl, At w65 (addA q90 3) [(.slice l91.a l91.n l91.c)] ∧ NotIn ((addA q90 3) : Addr).block [] ∧ CallL PP N w65 [] n_cellplanemake_Mod [(.int .i64 n89), (.int .i64 (IntKind.i64.wrap (((l91.n : Nat) : Int) + 1)))] fun r93 w94 => ∃ n92 : Int, r93 = (.int .i64 n92) ∧ CallL PP N w94 [] n_cellplaneref08_Journal_Cut [(.pointer r9'), (.int .i64 n92)] fun r96 w97 => ∃ n95 : Int, r96 = (.int .i64 n95) ∧ Reb N w97 [] fun w98 => K1 (l0', raw1', at2', by3', r9') (IntKind.i64.wrap (i10' + 1)) w98))) (Reb N w [] fun w99 => C_cellplanelaw08_JournalOpens_4 N Q raw1' at2' by3' r9' w99)

theorem X_cellplanelaw08_JournalOpens_13 {N : Nat} {K1 : (Sl × Sl × Int × Int × (Option Addr)) → (Int) → World → Prop} {Q : VP} {l0' raw1' : Sl} {at2' by3' : Int} {r9' : Option Addr} {i10' : Int} {w : World} (h : B_cellplanelaw08_JournalOpens_13 N K1 Q l0' raw1' at2' by3' r9' i10' w) : Snd (cy N []) (cL k_cellplanelaw08_JournalOpens_5) (thenD (HeadK N 155 [.val 0, .val 1, .val 2, .val 3, .val 9, .val 10] D_cellplanelaw08_JournalOpens_13 K1) (inBlockD 0 (z_cellplanelaw08_JournalOpens_4 N Q))) (mkS 155 [.val 0, .val 1, .val 2, .val 3, .val 9, .val 10] [(.slice l0'.a l0'.n l0'.c), (.slice raw1'.a raw1'.n raw1'.c), (.int .i64 at2'), (.int .u8 by3'), (.pointer r9'), (.int .i64 i10')] []) w :=
  (dsm h)

def L_cellplanelaw08_JournalOpens_13 (N : Nat) (Q : VP) (K1 : (Sl × Sl × Int × Int × (Option Addr)) → (Int) → World → Prop) (c : Sl × Sl × Int × Int × (Option Addr)) (x : Int) (w : World) : Prop := match c, x with
  | (l0', raw1', at2', by3', r9'), i10' => B_cellplanelaw08_JournalOpens_13 N K1 Q l0' raw1' at2' by3' r9' i10' w

theorem T_cellplanelaw08_JournalOpens_13 (N : Nat) (Q : VP) {s : St} {w : World} (h : HeadE N 155 [.val 0, .val 1, .val 2, .val 3, .val 9, .val 10] D_cellplanelaw08_JournalOpens_13 (L_cellplanelaw08_JournalOpens_13 N Q) s w) : Snd (cy N []) k_cellplanelaw08_JournalOpens_5 (inBlockD 0 (z_cellplanelaw08_JournalOpens_4 N Q)) s w := by
  refine Snd.cast (c' := .loop (cL k_cellplanelaw08_JournalOpens_5)) (by kernel_rfl) (Snd.loopC (fun (c : Sl × Sl × Int × Int × (Option Addr)) (x : Int) => match c, x with | (l0', raw1', at2', by3', r9'), i10' => ([(.slice l0'.a l0'.n l0'.c), (.slice raw1'.a raw1'.n raw1'.c), (.int .i64 at2'), (.int .u8 by3'), (.pointer r9'), (.int .i64 i10')], [])) ?_ ?_ h)
  · intro K vs ls h
    unfold D_cellplanelaw08_JournalOpens_13 at h
    split at h
    · exact ⟨_, _, rfl, h⟩
    · exact h.elim
  · rintro K ⟨l0', raw1', at2', by3', r9'⟩ i10' w h
    exact X_cellplanelaw08_JournalOpens_13 h

def C_cellplanelaw08_JournalOpens_12 (N : Nat) (Q : VP) (l0' raw1' : Sl) (at2' by3' : Int) (r9' : Option Addr) (i10' : Int) (w : World) : Prop :=
  LoopC N w [] ((l0', raw1', at2', by3', r9') : Sl × Sl × Int × Int × (Option Addr)) (i10' : Int) (L_cellplanelaw08_JournalOpens_13 N Q)

noncomputable def H_cellplanelaw08_JournalOpens_12 (N : Nat) (Q : VP) : St → World → Prop := HG N 155 [.v 0 .l, .v 1 .l, .v 2 (.i .i64), .v 3 (.i .u8), .v 9 .o, .v 10 (.i .i64)] (C_cellplanelaw08_JournalOpens_12 N Q)

theorem T_cellplanelaw08_JournalOpens_12 (N : Nat) (Q : VP) (s : St) (w : World) (h : H_cellplanelaw08_JournalOpens_12 N Q s w) : Snd (cy N []) (cR (cL (cR (cR (cR (bodyOf Try.f8)))))) (z_cellplanelaw08_JournalOpens_4 N Q) s w :=
  Snd.HG h fun l0' raw1' at2' by3' r9' i10' w h => (bk 0 (T_cellplanelaw08_JournalOpens_13 N Q (mpr' (by kernel_rfl) h)))

def C_cellplanelaw08_JournalOpens_3 (N : Nat) (Q : VP) (l0' raw1' : Sl) (at2' by3' : Int) (r9' : Option Addr) (w : World) : Prop :=
  Reb N w [] fun w100 => C_cellplanelaw08_JournalOpens_12 N Q l0' raw1' at2' by3' r9' 0 w100

noncomputable def H_cellplanelaw08_JournalOpens_3 (N : Nat) (Q : VP) : St → World → Prop := HG N 155 [.v 0 .l, .v 1 .l, .v 2 (.i .i64), .v 3 (.i .u8), .v 9 .o] (C_cellplanelaw08_JournalOpens_3 N Q)

theorem T_cellplanelaw08_JournalOpens_3 (N : Nat) (Q : VP) (s : St) (w : World) (h : H_cellplanelaw08_JournalOpens_3 N Q s w) : Snd (cy N []) (cR (cR (cR (bodyOf Try.f8)))) (retD (cy N []) Try.f8 Q) s w :=
  Snd.HG h fun l0' raw1' at2' by3' r9' w h => (sq (H_cellplanelaw08_JournalOpens_4 N Q) (sq (H_cellplanelaw08_JournalOpens_12 N Q) (dsm h) (T_cellplanelaw08_JournalOpens_12 N Q)) (T_cellplanelaw08_JournalOpens_4 N Q))

def C_cellplanelaw08_JournalOpens_2 (N : Nat) (Q : VP) (l0' raw1' : Sl) (at2' by3' : Int) (r9' : Option Addr) (w : World) : Prop :=
  IfB (decide ((50 : Int) < ((l0'.n : Nat) : Int))) (CallL PP N w [] n_cellplanelaw08_awake [] fun r102 w103 => ∃ b101 : Bool, r102 = (.bool b101) ∧ Reb N w103 [] (Q (.bool b101))) (IfB (decide ((300 : Int) < ((raw1'.n : Nat) : Int))) (CallL PP N w [] n_cellplanelaw08_awake [] fun r105 w106 => ∃ b104 : Bool, r105 = (.bool b104) ∧ Reb N w106 [] (Q (.bool b104))) (Reb N w [] fun w107 => C_cellplanelaw08_JournalOpens_3 N Q l0' raw1' at2' by3' r9' w107))

noncomputable def H_cellplanelaw08_JournalOpens_2 (N : Nat) (Q : VP) : St → World → Prop := HG N 155 [.v 0 .l, .v 1 .l, .v 2 (.i .i64), .v 3 (.i .u8), .v 9 .o] (C_cellplanelaw08_JournalOpens_2 N Q)

theorem T_cellplanelaw08_JournalOpens_2 (N : Nat) (Q : VP) (s : St) (w : World) (h : H_cellplanelaw08_JournalOpens_2 N Q s w) : Snd (cy N []) (cR (cR (bodyOf Try.f8))) (retD (cy N []) Try.f8 Q) s w :=
  Snd.HG h fun l0' raw1' at2' by3' r9' w h => (sq (H_cellplanelaw08_JournalOpens_3 N Q) (dsm h) (T_cellplanelaw08_JournalOpens_3 N Q))

def C_cellplanelaw08_JournalOpens_1 (N : Nat) (Q : VP) (l0' raw1' : Sl) (at2' by3' : Int) (w : World) : Prop :=
  CallL PP N w [] n_cellplaneref08_New [] fun r109 w110 => ∃ p108 : Option Addr, r109 = (.pointer p108) ∧ Reb N w110 [] fun w111 => C_cellplanelaw08_JournalOpens_2 N Q l0' raw1' at2' by3' p108 w111

noncomputable def H_cellplanelaw08_JournalOpens_1 (N : Nat) (Q : VP) : St → World → Prop := HG N 155 [.v 0 .l, .v 1 .l, .v 2 (.i .i64), .v 3 (.i .u8)] (C_cellplanelaw08_JournalOpens_1 N Q)

theorem T_cellplanelaw08_JournalOpens_1 (N : Nat) (Q : VP) (s : St) (w : World) (h : H_cellplanelaw08_JournalOpens_1 N Q s w) : Snd (cy N []) (cR (bodyOf Try.f8)) (retD (cy N []) Try.f8 Q) s w :=
  Snd.HG h fun l0' raw1' at2' by3' w h => (sq (H_cellplanelaw08_JournalOpens_2 N Q) (dsm h) (T_cellplanelaw08_JournalOpens_2 N Q))

def F_cellplanelaw08_JournalOpens (N : Nat) (l0 : Sl) (raw1 : Sl) (at2 : Int) (by3 : Int) (Q : VP) (w : World) : Prop :=
  Reb N w [] fun w112 => C_cellplanelaw08_JournalOpens_1 N Q l0 raw1 at2 by3 w112

theorem cellplanelaw08_JournalOpens_snd (N : Nat) (l0 : Sl) (raw1 : Sl) (at2 : Int) (by3 : Int) (Q : VP) (w : World) (h : F_cellplanelaw08_JournalOpens N l0 raw1 at2 by3 Q w) : Snd (cy N []) (bodyOf Try.f8) (retD (cy N []) Try.f8 Q) (entry 155 [(.slice l0.a l0.n l0.c), (.slice raw1.a raw1.n raw1.c), (.int .i64 at2), (.int .u8 by3)]) w :=
  (sq (H_cellplanelaw08_JournalOpens_1 N Q) (dsm h) (T_cellplanelaw08_JournalOpens_1 N Q))

theorem cellplanelaw08_JournalOpens_calls (l0 : Sl) (raw1 : Sl) (at2 : Int) (by3 : Int) (Q : VP) (w : World) (h : F_cellplanelaw08_JournalOpens w.heap.size l0 raw1 at2 by3 Q w) : Calls PP n_cellplanelaw08_JournalOpens [(.slice l0.a l0.n l0.c), (.slice raw1.a raw1.n raw1.c), (.int .i64 at2), (.int .u8 by3)].toArray w fun e w' => ∃ v, e = .returned v ∧ Q v w' :=
  calls_of (C := cy w.heap.size []) (fn := Try.f8) (c := (bodyOf Try.f8)) (by kernel_rfl) (by kernel_rfl) (Nat.le_refl _) (cellplanelaw08_JournalOpens_snd _ l0 raw1 at2 by3 Q w h)

/-! ### cellplanelaw08_JournalReopens -/
noncomputable def k_cellplanelaw08_JournalReopens_0 : Code := (cR (cR (cR (cR (cR (cR (bodyOf Try.f9)))))))

noncomputable def k_cellplanelaw08_JournalReopens_1 : Code := (cR (cR k_cellplanelaw08_JournalReopens_0))

def C_cellplanelaw08_JournalReopens_8 (N : Nat) (Q : VP) (w : World) : Prop :=
  Reb N w [] (Q (.bool true))

noncomputable def H_cellplanelaw08_JournalReopens_8 (N : Nat) (Q : VP) : St → World → Prop := HG N 99 [] (C_cellplanelaw08_JournalReopens_8 N Q)

theorem T_cellplanelaw08_JournalReopens_8 (N : Nat) (Q : VP) (s : St) (w : World) (h : H_cellplanelaw08_JournalReopens_8 N Q s w) : Snd (cy N [11]) k_cellplanelaw08_JournalReopens_1 (retD (cy N [11]) Try.f9 Q) s w :=
  Snd.HG h fun _ h => dsm h

noncomputable def k_cellplanelaw08_JournalReopens_2 : Code := (cR (cL (cR k_cellplanelaw08_JournalReopens_0)))

noncomputable def z_cellplanelaw08_JournalReopens_3 (N : Nat) (Q : VP) : Cont := (thenD (H_cellplanelaw08_JournalReopens_8 N Q) (retD (cy N [11]) Try.f9 Q))

def D_cellplanelaw08_JournalReopens_10 (K : (Sl × Int × (Option Addr)) → (Int) → Prop) : List Value → List LB → Prop := fun vs ls => match vs, ls with
  | [.slice out6'_a out6'_n out6'_c, .int .i64 k8', .pointer i9', .int .i64 n10'], [] => K (⟨out6'_a, out6'_n, out6'_c⟩, k8', i9') n10'
  | _, _ => False

def B_cellplanelaw08_JournalReopens_10 (N : Nat) (K1 : (Sl × Int × (Option Addr)) → (Int) → World → Prop) (Q : VP) (out6' : Sl) (k8' : Int) (i9' : Option Addr) (n10' : Int) (w : World) : Prop :=
  IfB (decide ((n10' : Int) < k8')) (CallL PP N w [] n_journal_Journal_At [(.pointer i9'), (.int .i64 n10')] fun r3 w4 => ∃ x1 : G_api_Logged, ∃ b2 : Bool, r3 = (.tuple #[(.agg (List.toArray x1.cells)), (.bool b2)]) ∧ ∀ b5 : Nat, w4.heap.size ≤ b5 → IdxL out6'.a out6'.n n10' fun q6 => ∃ x7 : G_api_Logged, At w4 (q6.add ((n10' : Int).toNat * 10)) x7.cells ∧ NotIn ((q6.add ((n10' : Int).toNat * 10)) : Addr).block [⟨b5, x1.cells, t_api_Logged⟩] ∧ IfB (!(G_api_Logged.eqb x1 x7)) (Reb N w4 [⟨b5, x1.cells, t_api_Logged⟩] (Q (.bool false))) (Reb N w4 [⟨b5, x1.cells, t_api_Logged⟩] fun w8 => K1 (out6', k8', i9') (IntKind.i64.wrap (n10' + 1)) w8)) (Reb N w [] fun w9 => C_cellplanelaw08_JournalReopens_8 N Q w9)

theorem X_cellplanelaw08_JournalReopens_10 {N : Nat} {K1 : (Sl × Int × (Option Addr)) → (Int) → World → Prop} {Q : VP} {out6' : Sl} {k8' : Int} {i9' : Option Addr} {n10' : Int} {w : World} (h : B_cellplanelaw08_JournalReopens_10 N K1 Q out6' k8' i9' n10' w) : Snd (cy N [11]) (cL (cL k_cellplanelaw08_JournalReopens_2)) (thenD (HeadK N 99 [.val 6, .val 8, .val 9, .val 10] D_cellplanelaw08_JournalReopens_10 K1) (inBlockD 0 (z_cellplanelaw08_JournalReopens_3 N Q))) (mkS 99 [.val 6, .val 8, .val 9, .val 10] [(.slice out6'.a out6'.n out6'.c), (.int .i64 k8'), (.pointer i9'), (.int .i64 n10')] []) w :=
  (dsm h)

def L_cellplanelaw08_JournalReopens_10 (N : Nat) (Q : VP) (K1 : (Sl × Int × (Option Addr)) → (Int) → World → Prop) (c : Sl × Int × (Option Addr)) (x : Int) (w : World) : Prop := match c, x with
  | (out6', k8', i9'), n10' => B_cellplanelaw08_JournalReopens_10 N K1 Q out6' k8' i9' n10' w

theorem T_cellplanelaw08_JournalReopens_10 (N : Nat) (Q : VP) {s : St} {w : World} (h : HeadE N 99 [.val 6, .val 8, .val 9, .val 10] D_cellplanelaw08_JournalReopens_10 (L_cellplanelaw08_JournalReopens_10 N Q) s w) : Snd (cy N [11]) (cL k_cellplanelaw08_JournalReopens_2) (inBlockD 0 (z_cellplanelaw08_JournalReopens_3 N Q)) s w := by
  refine Snd.cast (c' := .loop (cL (cL k_cellplanelaw08_JournalReopens_2))) (by kernel_rfl) (Snd.loopC (fun (c : Sl × Int × (Option Addr)) (x : Int) => match c, x with | (out6', k8', i9'), n10' => ([(.slice out6'.a out6'.n out6'.c), (.int .i64 k8'), (.pointer i9'), (.int .i64 n10')], [])) ?_ ?_ h)
  · intro K vs ls h
    unfold D_cellplanelaw08_JournalReopens_10 at h
    split at h
    · exact ⟨_, _, rfl, h⟩
    · exact h.elim
  · rintro K ⟨out6', k8', i9'⟩ n10' w h
    exact X_cellplanelaw08_JournalReopens_10 h

def C_cellplanelaw08_JournalReopens_9 (N : Nat) (Q : VP) (out6' : Sl) (k8' : Int) (i9' : Option Addr) (n10' : Int) (w : World) : Prop :=
  LoopC N w [] ((out6', k8', i9') : Sl × Int × (Option Addr)) (n10' : Int) (L_cellplanelaw08_JournalReopens_10 N Q)

noncomputable def H_cellplanelaw08_JournalReopens_9 (N : Nat) (Q : VP) : St → World → Prop := HG N 99 [.v 6 .l, .v 8 (.i .i64), .v 9 .o, .v 10 (.i .i64)] (C_cellplanelaw08_JournalReopens_9 N Q)

theorem T_cellplanelaw08_JournalReopens_9 (N : Nat) (Q : VP) (s : St) (w : World) (h : H_cellplanelaw08_JournalReopens_9 N Q s w) : Snd (cy N [11]) k_cellplanelaw08_JournalReopens_2 (z_cellplanelaw08_JournalReopens_3 N Q) s w :=
  Snd.HG h fun out6' k8' i9' n10' w h => (bk 0 (T_cellplanelaw08_JournalReopens_10 N Q (mpr' (by kernel_rfl) h)))

def C_cellplanelaw08_JournalReopens_7 (N : Nat) (Q : VP) (out6' : Sl) (k8' : Int) (i9' : Option Addr) (w : World) : Prop :=
  Reb N w [] fun w10 => C_cellplanelaw08_JournalReopens_9 N Q out6' k8' i9' 0 w10

noncomputable def H_cellplanelaw08_JournalReopens_7 (N : Nat) (Q : VP) : St → World → Prop := HG N 99 [.v 6 .l, .v 8 (.i .i64), .v 9 .o] (C_cellplanelaw08_JournalReopens_7 N Q)

theorem T_cellplanelaw08_JournalReopens_7 (N : Nat) (Q : VP) (s : St) (w : World) (h : H_cellplanelaw08_JournalReopens_7 N Q s w) : Snd (cy N [11]) (cR k_cellplanelaw08_JournalReopens_0) (retD (cy N [11]) Try.f9 Q) s w :=
  Snd.HG h fun out6' k8' i9' w h => (sq (H_cellplanelaw08_JournalReopens_8 N Q) (sq (H_cellplanelaw08_JournalReopens_9 N Q) (dsm h) (T_cellplanelaw08_JournalReopens_9 N Q)) (T_cellplanelaw08_JournalReopens_8 N Q))

def C_cellplanelaw08_JournalReopens_6 (N : Nat) (Q : VP) (j5' : Option Addr) (out6' : Sl) (k8' : Int) (i9' : Option Addr) (w : World) : Prop :=
  CallL PP N w [] n_cellplanelaw08_awake [] fun r12 w13 => ∃ b11 : Bool, r12 = (.bool b11) ∧ IfB (!b11) (Reb N w13 [] (Q (.bool false))) (IfB i9'.isNone (Reb N w13 [] (Q (.bool false))) (CallL PP N w13 [] n_journal_Journal_Term [(.pointer i9')] fun r15 w16 => ∃ n14 : Int, r15 = (.int .i64 n14) ∧ CallL PP N w16 [] n_journal_Journal_Term [(.pointer j5')] fun r18 w19 => ∃ n17 : Int, r18 = (.int .i64 n17) ∧ IfB (!decide ((n14 : Int) = n17)) (Reb N w19 [] (Q (.bool false))) (CallL PP N w19 [] n_journal_Journal_Vote [(.pointer i9')] fun r21 w22 => ∃ n20 : Int, r21 = (.int .i64 n20) ∧ CallL PP N w22 [] n_journal_Journal_Vote [(.pointer j5')] fun r24 w25 => ∃ n23 : Int, r24 = (.int .i64 n23) ∧ IfB (!decide ((n20 : Int) = n23)) (Reb N w25 [] (Q (.bool false))) (CallL PP N w25 [] n_journal_Journal_Len [(.pointer i9')] fun r27 w28 => ∃ n26 : Int, r27 = (.int .i64 n26) ∧ IfB (!decide ((n26 : Int) = k8')) (Reb N w28 [] (Q (.bool false))) (CallL PP N w28 [] n_journal_Journal_Len [(.pointer j5')] fun r30 w31 => ∃ n29 : Int, r30 = (.int .i64 n29) ∧ IfB (!decide ((n29 : Int) = k8')) (Reb N w31 [] (Q (.bool false))) (NilL i9' fun q32 => ∃ p33 : Option Addr, At w31 q32 [(.pointer p33)] ∧ NotIn (q32 : Addr).block [] ∧ NilL j5' fun q34 => ∃ p35 : Option Addr, At w31 q34 [(.pointer p35)] ∧ NotIn (q34 : Addr).block [] ∧ CallL PP N w31 [] n_disk_Disk_Bytes [(.pointer p33)] fun r37 w38 => ∃ l36 : Sl, r37 = (.slice l36.a l36.n l36.c) ∧ At w38 q34 [(.pointer p35)] ∧ CallL PP N w38 [] n_disk_Disk_Bytes [(.pointer p35)] fun r40 w41 => ∃ l39 : Sl, r40 = (.slice l39.a l39.n l39.c) ∧ CallL PP N w41 [] n_cellplaneref01_SameBytes [(.slice l36.a l36.n l36.c), (.slice l39.a l39.n l39.c)] fun r43 w44 => ∃ b42 : Bool, r43 = (.bool b42) ∧ IfB (!b42) (Reb N w44 [] (Q (.bool false))) (Reb N w44 [] fun w45 => C_cellplanelaw08_JournalReopens_7 N Q out6' k8' i9' w45)))))))

noncomputable def H_cellplanelaw08_JournalReopens_6 (N : Nat) (Q : VP) : St → World → Prop := HG N 99 [.v 5 .o, .v 6 .l, .v 8 (.i .i64), .v 9 .o] (C_cellplanelaw08_JournalReopens_6 N Q)

theorem T_cellplanelaw08_JournalReopens_6 (N : Nat) (Q : VP) (s : St) (w : World) (h : H_cellplanelaw08_JournalReopens_6 N Q s w) : Snd (cy N [11]) k_cellplanelaw08_JournalReopens_0 (retD (cy N [11]) Try.f9 Q) s w :=
  Snd.HG h fun j5' out6' k8' i9' w h => (sq (H_cellplanelaw08_JournalReopens_7 N Q) (dsm h) (T_cellplanelaw08_JournalReopens_7 N Q))

def C_cellplanelaw08_JournalReopens_5 (N : Nat) (Q : VP) (j5' : Option Addr) (out6' : Sl) (k8' : Int) (w : World) : Prop :=
  NilL j5' fun q46 => ∃ p47 : Option Addr, At w q46 [(.pointer p47)] ∧ NotIn (q46 : Addr).block [] ∧ CallL PP N w [] n_disk_Disk_Bytes [(.pointer p47)] fun r49 w50 => ∃ l48 : Sl, r49 = (.slice l48.a l48.n l48.c) ∧ CallL PP N w50 [] n_journal_Open [(.slice l48.a l48.n l48.c)] fun r52 w53 => ∃ p51 : Option Addr, r52 = (.pointer p51) ∧ Reb N w53 [] fun w54 => C_cellplanelaw08_JournalReopens_6 N Q j5' out6' k8' p51 w54

noncomputable def H_cellplanelaw08_JournalReopens_5 (N : Nat) (Q : VP) : St → World → Prop := HG N 99 [.v 5 .o, .v 6 .l, .v 8 (.i .i64)] (C_cellplanelaw08_JournalReopens_5 N Q)

theorem T_cellplanelaw08_JournalReopens_5 (N : Nat) (Q : VP) (s : St) (w : World) (h : H_cellplanelaw08_JournalReopens_5 N Q s w) : Snd (cy N [11]) (cR (cR (cR (cR (cR (bodyOf Try.f9)))))) (retD (cy N [11]) Try.f9 Q) s w :=
  Snd.HG h fun j5' out6' k8' w h => (sq (H_cellplanelaw08_JournalReopens_6 N Q) (dsm h) (T_cellplanelaw08_JournalReopens_6 N Q))

def C_cellplanelaw08_JournalReopens_4 (N : Nat) (Q : VP) (j5' : Option Addr) (out6' : Sl) (k8' : Int) (w : World) : Prop :=
  CallL PP N w [] n_journal_Journal_Cut [(.pointer j5'), (.int .i64 k8')] fun r56 w57 => ∃ n55 : Int, r56 = (.int .i64 n55) ∧ IfB (!decide ((n55 : Int) = 0)) (Reb N w57 [] (Q (.bool false))) (Reb N w57 [] fun w58 => C_cellplanelaw08_JournalReopens_5 N Q j5' out6' k8' w58)

noncomputable def H_cellplanelaw08_JournalReopens_4 (N : Nat) (Q : VP) : St → World → Prop := HG N 99 [.v 5 .o, .v 6 .l, .v 8 (.i .i64)] (C_cellplanelaw08_JournalReopens_4 N Q)

theorem T_cellplanelaw08_JournalReopens_4 (N : Nat) (Q : VP) (s : St) (w : World) (h : H_cellplanelaw08_JournalReopens_4 N Q s w) : Snd (cy N [11]) (cR (cR (cR (cR (bodyOf Try.f9))))) (retD (cy N [11]) Try.f9 Q) s w :=
  Snd.HG h fun j5' out6' k8' w h => (sq (H_cellplanelaw08_JournalReopens_5 N Q) (dsm h) (T_cellplanelaw08_JournalReopens_5 N Q))

def C_cellplanelaw08_JournalReopens_3 (N : Nat) (Q : VP) (cut1' : Int) (j5' : Option Addr) (out6' : Sl) (w : World) : Prop :=
  CallL PP N w [] n_cellplanemake_Mod [(.int .i64 cut1'), (.int .i64 (IntKind.i64.wrap (((out6'.n : Nat) : Int) + 1)))] fun r60 w61 => ∃ n59 : Int, r60 = (.int .i64 n59) ∧ Reb N w61 [] fun w62 => C_cellplanelaw08_JournalReopens_4 N Q j5' out6' n59 w62

noncomputable def H_cellplanelaw08_JournalReopens_3 (N : Nat) (Q : VP) : St → World → Prop := HG N 99 [.v 1 (.i .i64), .v 5 .o, .v 6 .l] (C_cellplanelaw08_JournalReopens_3 N Q)

theorem T_cellplanelaw08_JournalReopens_3 (N : Nat) (Q : VP) (s : St) (w : World) (h : H_cellplanelaw08_JournalReopens_3 N Q s w) : Snd (cy N [11]) (cR (cR (cR (bodyOf Try.f9)))) (retD (cy N [11]) Try.f9 Q) s w :=
  Snd.HG h fun cut1' j5' out6' w h => (sq (H_cellplanelaw08_JournalReopens_4 N Q) (dsm h) (T_cellplanelaw08_JournalReopens_4 N Q))

def C_cellplanelaw08_JournalReopens_2 (N : Nat) (Q : VP) (cut1' : Int) (j5' : Option Addr) (out6' : Sl) (w : World) : Prop :=
  IfB j5'.isNone (Reb N w [] (Q (.bool false))) (Reb N w [] fun w63 => C_cellplanelaw08_JournalReopens_3 N Q cut1' j5' out6' w63)

noncomputable def H_cellplanelaw08_JournalReopens_2 (N : Nat) (Q : VP) : St → World → Prop := HG N 99 [.v 1 (.i .i64), .v 5 .o, .v 6 .l] (C_cellplanelaw08_JournalReopens_2 N Q)

theorem T_cellplanelaw08_JournalReopens_2 (N : Nat) (Q : VP) (s : St) (w : World) (h : H_cellplanelaw08_JournalReopens_2 N Q s w) : Snd (cy N [11]) (cR (cR (bodyOf Try.f9))) (retD (cy N [11]) Try.f9 Q) s w :=
  Snd.HG h fun cut1' j5' out6' w h => (sq (H_cellplanelaw08_JournalReopens_3 N Q) (dsm h) (T_cellplanelaw08_JournalReopens_3 N Q))

def C_cellplanelaw08_JournalReopens_1 (N : Nat) (Q : VP) (l0' : Sl) (cut1' : Int) (w : World) : Prop :=
  CallL PP N w [] n_cellplanelaw08_grown [(.slice l0'.a l0'.n l0'.c), (.int .i64 0)] fun r67 w68 => ∃ p64 : Option Addr, ∃ l65 : Sl, ∃ n66 : Int, r67 = (.tuple #[(.pointer p64), (.slice l65.a l65.n l65.c), (.int .i64 n66)]) ∧ Reb N w68 [] fun w69 => C_cellplanelaw08_JournalReopens_2 N Q cut1' p64 l65 w69

noncomputable def H_cellplanelaw08_JournalReopens_1 (N : Nat) (Q : VP) : St → World → Prop := HG N 99 [.v 0 .l, .v 1 (.i .i64)] (C_cellplanelaw08_JournalReopens_1 N Q)

theorem T_cellplanelaw08_JournalReopens_1 (N : Nat) (Q : VP) (s : St) (w : World) (h : H_cellplanelaw08_JournalReopens_1 N Q s w) : Snd (cy N [11]) (cR (bodyOf Try.f9)) (retD (cy N [11]) Try.f9 Q) s w :=
  Snd.HG h fun l0' cut1' w h => (sq (H_cellplanelaw08_JournalReopens_2 N Q) (dsm h) (T_cellplanelaw08_JournalReopens_2 N Q))

def F_cellplanelaw08_JournalReopens (N : Nat) (l0 : Sl) (cut1 : Int) (Q : VP) (w : World) : Prop :=
  Reb N w [] fun w70 => C_cellplanelaw08_JournalReopens_1 N Q l0 cut1 w70

theorem cellplanelaw08_JournalReopens_snd (N : Nat) (l0 : Sl) (cut1 : Int) (Q : VP) (w : World) (h : F_cellplanelaw08_JournalReopens N l0 cut1 Q w) : Snd (cy N [11]) (bodyOf Try.f9) (retD (cy N [11]) Try.f9 Q) (entry 99 [(.slice l0.a l0.n l0.c), (.int .i64 cut1)]) w :=
  (sq (H_cellplanelaw08_JournalReopens_1 N Q) (dsm h) (T_cellplanelaw08_JournalReopens_1 N Q))

theorem cellplanelaw08_JournalReopens_calls (l0 : Sl) (cut1 : Int) (Q : VP) (w : World) (h : F_cellplanelaw08_JournalReopens w.heap.size l0 cut1 Q w) : Calls PP n_cellplanelaw08_JournalReopens [(.slice l0.a l0.n l0.c), (.int .i64 cut1)].toArray w fun e w' => ∃ v, e = .returned v ∧ Q v w' :=
  calls_of (C := cy w.heap.size [11]) (fn := Try.f9) (c := (bodyOf Try.f9)) (by kernel_rfl) (by kernel_rfl) (Nat.le_refl _) (cellplanelaw08_JournalReopens_snd _ l0 cut1 Q w h)

/-! ### cellplanelaw08_JournalCopies -/
noncomputable def k_cellplanelaw08_JournalCopies_0 : Code := (cR (cR (cR (cR (cR (bodyOf Try.f10))))))

noncomputable def k_cellplanelaw08_JournalCopies_1 : Code := (cR (cR k_cellplanelaw08_JournalCopies_0))

def C_cellplanelaw08_JournalCopies_7 (N : Nat) (Q : VP) (j5' : Option Addr) (out6' was8' : Sl) (w : World) : Prop :=
  CallL PP N w [] n_cellplanelaw08_awake [] fun r2 w3 => ∃ b1 : Bool, r2 = (.bool b1) ∧ IfB b1 (CallL PP N w3 [] n_journal_Journal_Len [(.pointer j5')] fun r5 w6 => ∃ n4 : Int, r5 = (.int .i64 n4) ∧ IfB (decide ((n4 : Int) = ((out6'.n : Nat) : Int))) (CallL PP N w6 [] n_journal_Journal_Term [(.pointer j5')] fun r8 w9 => ∃ n7 : Int, r8 = (.int .i64 n7) ∧ IfB (decide ((n7 : Int) = 1)) (NilL j5' fun q10 => ∃ p11 : Option Addr, At w9 q10 [(.pointer p11)] ∧ NotIn (q10 : Addr).block [] ∧ CallL PP N w9 [] n_disk_Disk_Bytes [(.pointer p11)] fun r13 w14 => ∃ l12 : Sl, r13 = (.slice l12.a l12.n l12.c) ∧ CallL PP N w14 [] n_cellplaneref01_SameBytes [(.slice l12.a l12.n l12.c), (.slice was8'.a was8'.n was8'.c)] fun r16 w17 => ∃ b15 : Bool, r16 = (.bool b15) ∧ Reb N w17 [] (Q (.bool b15))) (Reb N w9 [] (Q (.bool false)))) (Reb N w6 [] (Q (.bool false)))) (Reb N w3 [] (Q (.bool false)))

noncomputable def H_cellplanelaw08_JournalCopies_7 (N : Nat) (Q : VP) : St → World → Prop := HG N 105 [.v 5 .o, .v 6 .l, .v 8 .l] (C_cellplanelaw08_JournalCopies_7 N Q)

theorem T_cellplanelaw08_JournalCopies_7 (N : Nat) (Q : VP) (s : St) (w : World) (h : H_cellplanelaw08_JournalCopies_7 N Q s w) : Snd (cy N []) k_cellplanelaw08_JournalCopies_1 (retD (cy N []) Try.f10 Q) s w :=
  Snd.HG h fun _ _ _ _ h => dsm h

noncomputable def k_cellplanelaw08_JournalCopies_2 : Code := (cR (cL (cR k_cellplanelaw08_JournalCopies_0)))

noncomputable def z_cellplanelaw08_JournalCopies_3 (N : Nat) (Q : VP) : Cont := (thenD (H_cellplanelaw08_JournalCopies_7 N Q) (retD (cy N []) Try.f10 Q))

def D_cellplanelaw08_JournalCopies_9 (K : (Sl × (Option Addr) × Sl × Sl × (Option Addr)) → (Int) → Prop) : List Value → List LB → Prop := fun vs ls => match vs, ls with
  | [.slice more1'_a more1'_n more1'_c, .pointer j5', .slice out6'_a out6'_n out6'_c, .slice was8'_a was8'_n was8'_c, .pointer i9', .int .i64 k10'], [] => K (⟨more1'_a, more1'_n, more1'_c⟩, j5', ⟨out6'_a, out6'_n, out6'_c⟩, ⟨was8'_a, was8'_n, was8'_c⟩, i9') k10'
  | _, _ => False

def B_cellplanelaw08_JournalCopies_9 (N : Nat) (K1 : (Sl × (Option Addr) × Sl × Sl × (Option Addr)) → (Int) → World → Prop) (Q : VP) (more1' : Sl) (j5' : Option Addr) (out6' was8' : Sl) (i9' : Option Addr) (k10' : Int) (w : World) : Prop :=
  IfB (decide ((k10' : Int) < ((more1'.n : Nat) : Int))) (IdxL more1'.a more1'.n k10' fun q18 => ∃ n19 : Int, At w (addA (q18.add ((k10' : Int).toNat * 3)) 1) [(.int .i64 n19)] ∧ NotIn ((addA (q18.add ((k10' : Int).toNat * 3)) 1) : Addr).block [] ∧ CallL PP N w [] n_cellplanemake_Mod [(.int .i64 n19), (.int .i64 4)] fun r21 w22 => ∃ n20 : Int, r21 = (.int .i64 n20) ∧ CallL PP N w22 [] n_journal_Journal_SetTerm [(.pointer i9'), (.int .i64 (IntKind.i64.wrap (k10' + 1))), (.int .i64 n20)] fun r24 w25 => ∃ n23 : Int, r24 = (.int .i64 n23) ∧ IdxL more1'.a more1'.n k10' fun q26 => ∃ n27 : Int, At w25 (addA (q26.add ((k10' : Int).toNat * 3)) 2) [(.int .i64 n27)] ∧ NotIn ((addA (q26.add ((k10' : Int).toNat * 3)) 2) : Addr).block [] ∧ CallL PP N w25 [] n_cellplanelaw08_note [(.int .i64 n27)] fun r29 w30 => ∃ x28 : G_api_Entry, r29 = (.agg (List.toArray x28.cells)) ∧ CallL PP N w30 [] n_journal_Journal_Append [(.pointer i9'), (.int .i64 (IntKind.i64.wrap (k10' + 1))), (.agg (List.toArray x28.cells))] fun r32 w33 => ∃ n31 : Int, r32 = (.int .i64 n31) ∧ IdxL more1'.a more1'.n k10' fun q34 => ∃ n35 : Int, At w33 (addA (q34.add ((k10' : Int).toNat * 3)) 1) [(.int .i64 n35)] ∧ NotIn ((addA (q34.add ((k10' : Int).toNat * 3)) 1) : Addr).block [] ∧ CallL PP N w33 [] n_journal_Journal_Len [(.pointer i9')] fun r37 w38 => ∃ n36 : Int, r37 = (.int .i64 n36) ∧ At w38 (addA (q34.add ((k10' : Int).toNat * 3)) 1) [(.int .i64 n35)] ∧ CallL PP N w38 [] n_cellplanemake_Mod [(.int .i64 n35), (.int .i64 (IntKind.i64.wrap (n36 + 1)))] fun r40 w41 => ∃ n39 : Int, r40 = (.int .i64 n39) ∧ CallL PP N w41 [] n_journal_Journal_Cut [(.pointer i9'), (.int .i64 n39)] fun r43 w44 => ∃ n42 : Int, r43 = (.int .i64 n42) ∧ IdxL more1'.a more1'.n k10' fun q45 => ∃ n46 : Int, At w44 (addA (q45.add ((k10' : Int).toNat * 3)) 2) [(.int .i64 n46)] ∧ NotIn ((addA (q45.add ((k10' : Int).toNat * 3)) 2) : Addr).block [] ∧ CallL PP N w44 [] n_cellplanemake_Mod [(.int .i64 n46), (.int .i64 100)] fun r48 w49 => ∃ n47 : Int, r48 = (.int .i64 n47) ∧ CallL PP N w49 [] n_journal_Journal_Crash [(.pointer i9'), (.int .i64 n47)] fun r50 w51 => r50 = (.tuple #[]) ∧ Reb N w51 [] fun w52 => K1 (more1', j5', out6', was8', i9') (IntKind.i64.wrap (k10' + 1)) w52) (Reb N w [] fun w53 => C_cellplanelaw08_JournalCopies_7 N Q j5' out6' was8' w53)

theorem X_cellplanelaw08_JournalCopies_9 {N : Nat} {K1 : (Sl × (Option Addr) × Sl × Sl × (Option Addr)) → (Int) → World → Prop} {Q : VP} {more1' : Sl} {j5' : Option Addr} {out6' was8' : Sl} {i9' : Option Addr} {k10' : Int} {w : World} (h : B_cellplanelaw08_JournalCopies_9 N K1 Q more1' j5' out6' was8' i9' k10' w) : Snd (cy N []) (cL (cL k_cellplanelaw08_JournalCopies_2)) (thenD (HeadK N 105 [.val 1, .val 5, .val 6, .val 8, .val 9, .val 10] D_cellplanelaw08_JournalCopies_9 K1) (inBlockD 0 (z_cellplanelaw08_JournalCopies_3 N Q))) (mkS 105 [.val 1, .val 5, .val 6, .val 8, .val 9, .val 10] [(.slice more1'.a more1'.n more1'.c), (.pointer j5'), (.slice out6'.a out6'.n out6'.c), (.slice was8'.a was8'.n was8'.c), (.pointer i9'), (.int .i64 k10')] []) w :=
  (dsm h)

def L_cellplanelaw08_JournalCopies_9 (N : Nat) (Q : VP) (K1 : (Sl × (Option Addr) × Sl × Sl × (Option Addr)) → (Int) → World → Prop) (c : Sl × (Option Addr) × Sl × Sl × (Option Addr)) (x : Int) (w : World) : Prop := match c, x with
  | (more1', j5', out6', was8', i9'), k10' => B_cellplanelaw08_JournalCopies_9 N K1 Q more1' j5' out6' was8' i9' k10' w

theorem T_cellplanelaw08_JournalCopies_9 (N : Nat) (Q : VP) {s : St} {w : World} (h : HeadE N 105 [.val 1, .val 5, .val 6, .val 8, .val 9, .val 10] D_cellplanelaw08_JournalCopies_9 (L_cellplanelaw08_JournalCopies_9 N Q) s w) : Snd (cy N []) (cL k_cellplanelaw08_JournalCopies_2) (inBlockD 0 (z_cellplanelaw08_JournalCopies_3 N Q)) s w := by
  refine Snd.cast (c' := .loop (cL (cL k_cellplanelaw08_JournalCopies_2))) (by kernel_rfl) (Snd.loopC (fun (c : Sl × (Option Addr) × Sl × Sl × (Option Addr)) (x : Int) => match c, x with | (more1', j5', out6', was8', i9'), k10' => ([(.slice more1'.a more1'.n more1'.c), (.pointer j5'), (.slice out6'.a out6'.n out6'.c), (.slice was8'.a was8'.n was8'.c), (.pointer i9'), (.int .i64 k10')], [])) ?_ ?_ h)
  · intro K vs ls h
    unfold D_cellplanelaw08_JournalCopies_9 at h
    split at h
    · exact ⟨_, _, rfl, h⟩
    · exact h.elim
  · rintro K ⟨more1', j5', out6', was8', i9'⟩ k10' w h
    exact X_cellplanelaw08_JournalCopies_9 h

def C_cellplanelaw08_JournalCopies_8 (N : Nat) (Q : VP) (more1' : Sl) (j5' : Option Addr) (out6' was8' : Sl) (i9' : Option Addr) (k10' : Int) (w : World) : Prop :=
  LoopC N w [] ((more1', j5', out6', was8', i9') : Sl × (Option Addr) × Sl × Sl × (Option Addr)) (k10' : Int) (L_cellplanelaw08_JournalCopies_9 N Q)

noncomputable def H_cellplanelaw08_JournalCopies_8 (N : Nat) (Q : VP) : St → World → Prop := HG N 105 [.v 1 .l, .v 5 .o, .v 6 .l, .v 8 .l, .v 9 .o, .v 10 (.i .i64)] (C_cellplanelaw08_JournalCopies_8 N Q)

theorem T_cellplanelaw08_JournalCopies_8 (N : Nat) (Q : VP) (s : St) (w : World) (h : H_cellplanelaw08_JournalCopies_8 N Q s w) : Snd (cy N []) k_cellplanelaw08_JournalCopies_2 (z_cellplanelaw08_JournalCopies_3 N Q) s w :=
  Snd.HG h fun more1' j5' out6' was8' i9' k10' w h => (bk 0 (T_cellplanelaw08_JournalCopies_9 N Q (mpr' (by kernel_rfl) h)))

def C_cellplanelaw08_JournalCopies_6 (N : Nat) (Q : VP) (more1' : Sl) (j5' : Option Addr) (out6' was8' : Sl) (i9' : Option Addr) (w : World) : Prop :=
  Reb N w [] fun w54 => C_cellplanelaw08_JournalCopies_8 N Q more1' j5' out6' was8' i9' 0 w54

noncomputable def H_cellplanelaw08_JournalCopies_6 (N : Nat) (Q : VP) : St → World → Prop := HG N 105 [.v 1 .l, .v 5 .o, .v 6 .l, .v 8 .l, .v 9 .o] (C_cellplanelaw08_JournalCopies_6 N Q)

theorem T_cellplanelaw08_JournalCopies_6 (N : Nat) (Q : VP) (s : St) (w : World) (h : H_cellplanelaw08_JournalCopies_6 N Q s w) : Snd (cy N []) (cR k_cellplanelaw08_JournalCopies_0) (retD (cy N []) Try.f10 Q) s w :=
  Snd.HG h fun more1' j5' out6' was8' i9' w h => (sq (H_cellplanelaw08_JournalCopies_7 N Q) (sq (H_cellplanelaw08_JournalCopies_8 N Q) (dsm h) (T_cellplanelaw08_JournalCopies_8 N Q)) (T_cellplanelaw08_JournalCopies_7 N Q))

def C_cellplanelaw08_JournalCopies_5 (N : Nat) (Q : VP) (more1' : Sl) (j5' : Option Addr) (out6' was8' : Sl) (i9' : Option Addr) (w : World) : Prop :=
  IfB i9'.isNone (Reb N w [] (Q (.bool false))) (Reb N w [] fun w55 => C_cellplanelaw08_JournalCopies_6 N Q more1' j5' out6' was8' i9' w55)

noncomputable def H_cellplanelaw08_JournalCopies_5 (N : Nat) (Q : VP) : St → World → Prop := HG N 105 [.v 1 .l, .v 5 .o, .v 6 .l, .v 8 .l, .v 9 .o] (C_cellplanelaw08_JournalCopies_5 N Q)

theorem T_cellplanelaw08_JournalCopies_5 (N : Nat) (Q : VP) (s : St) (w : World) (h : H_cellplanelaw08_JournalCopies_5 N Q s w) : Snd (cy N []) k_cellplanelaw08_JournalCopies_0 (retD (cy N []) Try.f10 Q) s w :=
  Snd.HG h fun more1' j5' out6' was8' i9' w h => (sq (H_cellplanelaw08_JournalCopies_6 N Q) (dsm h) (T_cellplanelaw08_JournalCopies_6 N Q))

def C_cellplanelaw08_JournalCopies_4 (N : Nat) (Q : VP) (more1' : Sl) (j5' : Option Addr) (out6' was8' : Sl) (w : World) : Prop :=
  CallL PP N w [] n_journal_Journal_Copy [(.pointer j5')] fun r57 w58 => ∃ p56 : Option Addr, r57 = (.pointer p56) ∧ Reb N w58 [] fun w59 => C_cellplanelaw08_JournalCopies_5 N Q more1' j5' out6' was8' p56 w59

noncomputable def H_cellplanelaw08_JournalCopies_4 (N : Nat) (Q : VP) : St → World → Prop := HG N 105 [.v 1 .l, .v 5 .o, .v 6 .l, .v 8 .l] (C_cellplanelaw08_JournalCopies_4 N Q)

theorem T_cellplanelaw08_JournalCopies_4 (N : Nat) (Q : VP) (s : St) (w : World) (h : H_cellplanelaw08_JournalCopies_4 N Q s w) : Snd (cy N []) (cR (cR (cR (cR (bodyOf Try.f10))))) (retD (cy N []) Try.f10 Q) s w :=
  Snd.HG h fun more1' j5' out6' was8' w h => (sq (H_cellplanelaw08_JournalCopies_5 N Q) (dsm h) (T_cellplanelaw08_JournalCopies_5 N Q))

def C_cellplanelaw08_JournalCopies_3 (N : Nat) (Q : VP) (more1' : Sl) (j5' : Option Addr) (out6' : Sl) (w : World) : Prop :=
  NilL j5' fun q60 => ∃ p61 : Option Addr, At w q60 [(.pointer p61)] ∧ NotIn (q60 : Addr).block [] ∧ CallL PP N w [] n_disk_Disk_Bytes [(.pointer p61)] fun r63 w64 => ∃ l62 : Sl, r63 = (.slice l62.a l62.n l62.c) ∧ Reb N w64 [] fun w65 => C_cellplanelaw08_JournalCopies_4 N Q more1' j5' out6' l62 w65

noncomputable def H_cellplanelaw08_JournalCopies_3 (N : Nat) (Q : VP) : St → World → Prop := HG N 105 [.v 1 .l, .v 5 .o, .v 6 .l] (C_cellplanelaw08_JournalCopies_3 N Q)

theorem T_cellplanelaw08_JournalCopies_3 (N : Nat) (Q : VP) (s : St) (w : World) (h : H_cellplanelaw08_JournalCopies_3 N Q s w) : Snd (cy N []) (cR (cR (cR (bodyOf Try.f10)))) (retD (cy N []) Try.f10 Q) s w :=
  Snd.HG h fun more1' j5' out6' w h => (sq (H_cellplanelaw08_JournalCopies_4 N Q) (dsm h) (T_cellplanelaw08_JournalCopies_4 N Q))

noncomputable def z_cellplanelaw08_JournalCopies_4 (N : Nat) (Q : VP) : Cont := (thenD (H_cellplanelaw08_JournalCopies_3 N Q) (retD (cy N []) Try.f10 Q))

def C_cellplanelaw08_JournalCopies_10 (N : Nat) (Q : VP) (more1' : Sl) (j5' : Option Addr) (out6' : Sl) (v23' : Bool) (w : World) : Prop :=
  IfB v23' (CallL PP N w [] n_cellplanelaw08_awake [] fun r67 w68 => ∃ b66 : Bool, r67 = (.bool b66) ∧ IfB b66 (Reb N w68 [] (Q (.bool (!j5'.isNone)))) (Reb N w68 [] (Q (.bool false)))) (Reb N w [] fun w69 => C_cellplanelaw08_JournalCopies_3 N Q more1' j5' out6' w69)

noncomputable def H_cellplanelaw08_JournalCopies_10 (N : Nat) (Q : VP) : St → World → Prop := HG N 105 [.v 1 .l, .v 5 .o, .v 6 .l, .v 23 .b] (C_cellplanelaw08_JournalCopies_10 N Q)

theorem T_cellplanelaw08_JournalCopies_10 (N : Nat) (Q : VP) (s : St) (w : World) (h : H_cellplanelaw08_JournalCopies_10 N Q s w) : Snd (cy N []) (cR (cL (cR (cR (bodyOf Try.f10))))) (z_cellplanelaw08_JournalCopies_4 N Q) s w :=
  Snd.HG h fun _ _ _ _ _ h => dsm h

def C_cellplanelaw08_JournalCopies_2 (N : Nat) (Q : VP) (more1' : Sl) (j5' : Option Addr) (out6' : Sl) (w : World) : Prop :=
  IfB j5'.isNone (Reb N w [] fun w70 => C_cellplanelaw08_JournalCopies_10 N Q more1' j5' out6' true w70) (Reb N w [] fun w71 => C_cellplanelaw08_JournalCopies_10 N Q more1' j5' out6' (decide ((50 : Int) < ((more1'.n : Nat) : Int))) w71)

noncomputable def H_cellplanelaw08_JournalCopies_2 (N : Nat) (Q : VP) : St → World → Prop := HG N 105 [.v 1 .l, .v 5 .o, .v 6 .l] (C_cellplanelaw08_JournalCopies_2 N Q)

theorem T_cellplanelaw08_JournalCopies_2 (N : Nat) (Q : VP) (s : St) (w : World) (h : H_cellplanelaw08_JournalCopies_2 N Q s w) : Snd (cy N []) (cR (cR (bodyOf Try.f10))) (retD (cy N []) Try.f10 Q) s w :=
  Snd.HG h fun more1' j5' out6' w h => (sq (H_cellplanelaw08_JournalCopies_3 N Q) (sq (H_cellplanelaw08_JournalCopies_10 N Q) (dsm h) (T_cellplanelaw08_JournalCopies_10 N Q)) (T_cellplanelaw08_JournalCopies_3 N Q))

def C_cellplanelaw08_JournalCopies_1 (N : Nat) (Q : VP) (l0' more1' : Sl) (w : World) : Prop :=
  CallL PP N w [] n_cellplanelaw08_grown [(.slice l0'.a l0'.n l0'.c), (.int .i64 0)] fun r75 w76 => ∃ p72 : Option Addr, ∃ l73 : Sl, ∃ n74 : Int, r75 = (.tuple #[(.pointer p72), (.slice l73.a l73.n l73.c), (.int .i64 n74)]) ∧ Reb N w76 [] fun w77 => C_cellplanelaw08_JournalCopies_2 N Q more1' p72 l73 w77

noncomputable def H_cellplanelaw08_JournalCopies_1 (N : Nat) (Q : VP) : St → World → Prop := HG N 105 [.v 0 .l, .v 1 .l] (C_cellplanelaw08_JournalCopies_1 N Q)

theorem T_cellplanelaw08_JournalCopies_1 (N : Nat) (Q : VP) (s : St) (w : World) (h : H_cellplanelaw08_JournalCopies_1 N Q s w) : Snd (cy N []) (cR (bodyOf Try.f10)) (retD (cy N []) Try.f10 Q) s w :=
  Snd.HG h fun l0' more1' w h => (sq (H_cellplanelaw08_JournalCopies_2 N Q) (dsm h) (T_cellplanelaw08_JournalCopies_2 N Q))

def F_cellplanelaw08_JournalCopies (N : Nat) (l0 : Sl) (more1 : Sl) (Q : VP) (w : World) : Prop :=
  Reb N w [] fun w78 => C_cellplanelaw08_JournalCopies_1 N Q l0 more1 w78

theorem cellplanelaw08_JournalCopies_snd (N : Nat) (l0 : Sl) (more1 : Sl) (Q : VP) (w : World) (h : F_cellplanelaw08_JournalCopies N l0 more1 Q w) : Snd (cy N []) (bodyOf Try.f10) (retD (cy N []) Try.f10 Q) (entry 105 [(.slice l0.a l0.n l0.c), (.slice more1.a more1.n more1.c)]) w :=
  (sq (H_cellplanelaw08_JournalCopies_1 N Q) (dsm h) (T_cellplanelaw08_JournalCopies_1 N Q))

theorem cellplanelaw08_JournalCopies_calls (l0 : Sl) (more1 : Sl) (Q : VP) (w : World) (h : F_cellplanelaw08_JournalCopies w.heap.size l0 more1 Q w) : Calls PP n_cellplanelaw08_JournalCopies [(.slice l0.a l0.n l0.c), (.slice more1.a more1.n more1.c)].toArray w fun e w' => ∃ v, e = .returned v ∧ Q v w' :=
  calls_of (C := cy w.heap.size []) (fn := Try.f10) (c := (bodyOf Try.f10)) (by kernel_rfl) (by kernel_rfl) (Nat.le_refl _) (cellplanelaw08_JournalCopies_snd _ l0 more1 Q w h)
end Go.Sh
