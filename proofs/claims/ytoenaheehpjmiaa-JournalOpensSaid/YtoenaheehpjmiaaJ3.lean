/- What these functions do, told by computation: a formula for each, and that its calls do what the formula says.
   Conditions: none. -/
import Derived.Test.YtoenaheehpjmiaaBase
namespace Go.Sh
open Go Go.Proofs
set_option linter.unusedVariables false
set_option maxRecDepth 100000

/-! ### cellplanelaw08_same -/
def C_cellplanelaw08_same_3 (N : Nat) (Q : VP) (w : World) : Prop :=
  Reb N w [] (Q (.bool true))

noncomputable def H_cellplanelaw08_same_3 (N : Nat) (Q : VP) : St → World → Prop := HG N 104 [] (C_cellplanelaw08_same_3 N Q)

theorem T_cellplanelaw08_same_3 (N : Nat) (Q : VP) (s : St) (w : World) (h : H_cellplanelaw08_same_3 N Q s w) : Snd (cy N [6, 8]) (cR (cR (cR (bodyOf Try.f44)))) (retD (cy N [6, 8]) Try.f44 Q) s w :=
  Snd.HG h fun _ h => dsm h

noncomputable def z_cellplanelaw08_same_0 (N : Nat) (Q : VP) : Cont := (thenD (H_cellplanelaw08_same_3 N Q) (retD (cy N [6, 8]) Try.f44 Q))

def D_cellplanelaw08_same_5 (K : ((Option Addr) × (Option Addr)) → (Int) → Prop) : List Value → List LB → Prop := fun vs ls => match vs, ls with
  | [.pointer j0', .pointer r1', .int .i64 i5'], [] => K (j0', r1') i5'
  | _, _ => False

noncomputable def k_cellplanelaw08_same_1 : Code := (cL (cR (cL (cR (cR (bodyOf Try.f44))))))

def B_cellplanelaw08_same_5 (N : Nat) (K1 : ((Option Addr) × (Option Addr)) → (Int) → World → Prop) (Q : VP) (j0' r1' : Option Addr) (i5' : Int) (w : World) : Prop :=
  NilL r1' fun q1 => ∃ l2 : Sl, At w (addA q1 3) [(.slice l2.a l2.n l2.c)] ∧ NotIn ((addA q1 3) : Addr).block [] ∧ IfB (decide ((i5' : Int) ≤ ((l2.n : Nat) : Int))) (CallL PP N w [] n_journal_Journal_At [(.pointer j0'), (.int .i64 i5')] fun r5 w6 => ∃ x3 : G_api_Logged, ∃ b4 : Bool, r5 = (.tuple #[(.agg (List.toArray x3.cells)), (.bool b4)]) ∧ ∀ b7 : Nat, w6.heap.size ≤ b7 → CallL PP N w6 [⟨b7, x3.cells, t_api_Logged⟩] n_cellplaneref08_Journal_At [(.pointer r1'), (.int .i64 i5')] fun r10 w11 => ∃ x8 : G_api_Logged, ∃ b9 : Bool, r10 = (.tuple #[(.agg (List.toArray x8.cells)), (.bool b9)]) ∧ ∀ b12 : Nat, w11.heap.size ≤ b12 → IfB (!(G_api_Logged.eqb x3 x8)) (Reb N w11 [⟨b7, x3.cells, t_api_Logged⟩, ⟨b12, x8.cells, t_api_Logged⟩] (Q (.bool false))) (IfB (!(b4 == b9)) (Reb N w11 [⟨b7, x3.cells, t_api_Logged⟩, ⟨b12, x8.cells, t_api_Logged⟩] (Q (.bool false))) (CallL PP N w11 [⟨b7, x3.cells, t_api_Logged⟩, ⟨b12, x8.cells, t_api_Logged⟩] n_journal_Journal_TermAt [(.pointer j0'), (.int .i64 i5')] fun r14 w15 => ∃ n13 : Int, r14 = (.int .i64 n13) ∧ IfB (!decide ((n13 : Int) = x8.Term)) (Reb N w15 [⟨b7, x3.cells, t_api_Logged⟩, ⟨b12, x8.cells, t_api_Logged⟩] (Q (.bool false))) (Reb N w15 [⟨b7, x3.cells, t_api_Logged⟩, ⟨b12, x8.cells, t_api_Logged⟩] fun w16 => K1 (j0', r1') (IntKind.i64.wrap (i5' + 1)) w16)))) (Reb N w [] fun w17 => C_cellplanelaw08_same_3 N Q w17)

theorem X_cellplanelaw08_same_5 {N : Nat} {K1 : ((Option Addr) × (Option Addr)) → (Int) → World → Prop} {Q : VP} {j0' r1' : Option Addr} {i5' : Int} {w : World} (h : B_cellplanelaw08_same_5 N K1 Q j0' r1' i5' w) : Snd (cy N [6, 8]) (cL k_cellplanelaw08_same_1) (thenD (HeadK N 104 [.val 0, .val 1, .val 5] D_cellplanelaw08_same_5 K1) (inBlockD 0 (z_cellplanelaw08_same_0 N Q))) (mkS 104 [.val 0, .val 1, .val 5] [(.pointer j0'), (.pointer r1'), (.int .i64 i5')] []) w :=
  (dsm h)

def L_cellplanelaw08_same_5 (N : Nat) (Q : VP) (K1 : ((Option Addr) × (Option Addr)) → (Int) → World → Prop) (c : (Option Addr) × (Option Addr)) (x : Int) (w : World) : Prop := match c, x with
  | (j0', r1'), i5' => B_cellplanelaw08_same_5 N K1 Q j0' r1' i5' w

theorem T_cellplanelaw08_same_5 (N : Nat) (Q : VP) {s : St} {w : World} (h : HeadE N 104 [.val 0, .val 1, .val 5] D_cellplanelaw08_same_5 (L_cellplanelaw08_same_5 N Q) s w) : Snd (cy N [6, 8]) k_cellplanelaw08_same_1 (inBlockD 0 (z_cellplanelaw08_same_0 N Q)) s w := by
  refine Snd.cast (c' := .loop (cL k_cellplanelaw08_same_1)) (by kernel_rfl) (Snd.loopC (fun (c : (Option Addr) × (Option Addr)) (x : Int) => match c, x with | (j0', r1'), i5' => ([(.pointer j0'), (.pointer r1'), (.int .i64 i5')], [])) ?_ ?_ h)
  · intro K vs ls h
    unfold D_cellplanelaw08_same_5 at h
    split at h
    · exact ⟨_, _, rfl, h⟩
    · exact h.elim
  · rintro K ⟨j0', r1'⟩ i5' w h
    exact X_cellplanelaw08_same_5 h

def C_cellplanelaw08_same_4 (N : Nat) (Q : VP) (j0' r1' : Option Addr) (i5' : Int) (w : World) : Prop :=
  LoopC N w [] ((j0', r1') : (Option Addr) × (Option Addr)) (i5' : Int) (L_cellplanelaw08_same_5 N Q)

noncomputable def H_cellplanelaw08_same_4 (N : Nat) (Q : VP) : St → World → Prop := HG N 104 [.v 0 .o, .v 1 .o, .v 5 (.i .i64)] (C_cellplanelaw08_same_4 N Q)

theorem T_cellplanelaw08_same_4 (N : Nat) (Q : VP) (s : St) (w : World) (h : H_cellplanelaw08_same_4 N Q s w) : Snd (cy N [6, 8]) (cR (cL (cR (cR (bodyOf Try.f44))))) (z_cellplanelaw08_same_0 N Q) s w :=
  Snd.HG h fun j0' r1' i5' w h => (bk 0 (T_cellplanelaw08_same_5 N Q (mpr' (by kernel_rfl) h)))

def C_cellplanelaw08_same_2 (N : Nat) (Q : VP) (j0' r1' : Option Addr) (w : World) : Prop :=
  Reb N w [] fun w18 => C_cellplanelaw08_same_4 N Q j0' r1' (-1) w18

noncomputable def H_cellplanelaw08_same_2 (N : Nat) (Q : VP) : St → World → Prop := HG N 104 [.v 0 .o, .v 1 .o] (C_cellplanelaw08_same_2 N Q)

theorem T_cellplanelaw08_same_2 (N : Nat) (Q : VP) (s : St) (w : World) (h : H_cellplanelaw08_same_2 N Q s w) : Snd (cy N [6, 8]) (cR (cR (bodyOf Try.f44))) (retD (cy N [6, 8]) Try.f44 Q) s w :=
  Snd.HG h fun j0' r1' w h => (sq (H_cellplanelaw08_same_3 N Q) (sq (H_cellplanelaw08_same_4 N Q) (dsm h) (T_cellplanelaw08_same_4 N Q)) (T_cellplanelaw08_same_3 N Q))

def C_cellplanelaw08_same_1 (N : Nat) (Q : VP) (j0' r1' : Option Addr) (w : World) : Prop :=
  NilL r1' fun q19 => ∃ n20 : Int, At w (addA q19 1) [(.int .i64 n20)] ∧ NotIn ((addA q19 1) : Addr).block [] ∧ CallL PP N w [] n_journal_Journal_Term [(.pointer j0')] fun r22 w23 => ∃ n21 : Int, r22 = (.int .i64 n21) ∧ At w23 (addA q19 1) [(.int .i64 n20)] ∧ IfB (!decide ((n21 : Int) = n20)) (Reb N w23 [] (Q (.bool false))) (NilL r1' fun q24 => ∃ n25 : Int, At w23 (addA q24 2) [(.int .i64 n25)] ∧ NotIn ((addA q24 2) : Addr).block [] ∧ CallL PP N w23 [] n_journal_Journal_Vote [(.pointer j0')] fun r27 w28 => ∃ n26 : Int, r27 = (.int .i64 n26) ∧ At w28 (addA q24 2) [(.int .i64 n25)] ∧ IfB (!decide ((n26 : Int) = n25)) (Reb N w28 [] (Q (.bool false))) (NilL r1' fun q29 => ∃ l30 : Sl, At w28 (addA q29 3) [(.slice l30.a l30.n l30.c)] ∧ NotIn ((addA q29 3) : Addr).block [] ∧ CallL PP N w28 [] n_journal_Journal_Len [(.pointer j0')] fun r32 w33 => ∃ n31 : Int, r32 = (.int .i64 n31) ∧ At w33 (addA q29 3) [(.slice l30.a l30.n l30.c)] ∧ IfB (!decide ((n31 : Int) = ((l30.n : Nat) : Int))) (Reb N w33 [] (Q (.bool false))) (NilL j0' fun q34 => ∃ p35 : Option Addr, At w33 q34 [(.pointer p35)] ∧ NotIn (q34 : Addr).block [] ∧ NilL r1' fun q36 => ∃ p37 : Option Addr, At w33 q36 [(.pointer p37)] ∧ NotIn (q36 : Addr).block [] ∧ NilL p37 fun q38 => ∃ l39 : Sl, At w33 q38 [(.slice l39.a l39.n l39.c)] ∧ NotIn (q38 : Addr).block [] ∧ CallL PP N w33 [] n_disk_Disk_Bytes [(.pointer p35)] fun r41 w42 => ∃ l40 : Sl, r41 = (.slice l40.a l40.n l40.c) ∧ At w42 q38 [(.slice l39.a l39.n l39.c)] ∧ At w42 q36 [(.pointer p37)] ∧ CallL PP N w42 [] n_cellplaneref01_SameBytes [(.slice l40.a l40.n l40.c), (.slice l39.a l39.n l39.c)] fun r44 w45 => ∃ b43 : Bool, r44 = (.bool b43) ∧ IfB (!b43) (Reb N w45 [] (Q (.bool false))) (CallL PP N w45 [] n_journal_Journal_TermAt [(.pointer j0'), (.int .i64 (-1))] fun r47 w48 => ∃ n46 : Int, r47 = (.int .i64 n46) ∧ IfB (!decide ((n46 : Int) = 0)) (Reb N w48 [] (Q (.bool false))) (NilL r1' fun q49 => ∃ l50 : Sl, At w48 (addA q49 3) [(.slice l50.a l50.n l50.c)] ∧ NotIn ((addA q49 3) : Addr).block [] ∧ CallL PP N w48 [] n_journal_Journal_TermAt [(.pointer j0'), (.int .i64 ((l50.n : Nat) : Int))] fun r52 w53 => ∃ n51 : Int, r52 = (.int .i64 n51) ∧ IfB (!decide ((n51 : Int) = 0)) (Reb N w53 [] (Q (.bool false))) (Reb N w53 [] fun w54 => C_cellplanelaw08_same_2 N Q j0' r1' w54))))))

noncomputable def H_cellplanelaw08_same_1 (N : Nat) (Q : VP) : St → World → Prop := HG N 104 [.v 0 .o, .v 1 .o] (C_cellplanelaw08_same_1 N Q)

theorem T_cellplanelaw08_same_1 (N : Nat) (Q : VP) (s : St) (w : World) (h : H_cellplanelaw08_same_1 N Q s w) : Snd (cy N [6, 8]) (cR (bodyOf Try.f44)) (retD (cy N [6, 8]) Try.f44 Q) s w :=
  Snd.HG h fun j0' r1' w h => (sq (H_cellplanelaw08_same_2 N Q) (dsm h) (T_cellplanelaw08_same_2 N Q))

def F_cellplanelaw08_same (N : Nat) (j0 : Option Addr) (r1 : Option Addr) (Q : VP) (w : World) : Prop :=
  Reb N w [] fun w55 => C_cellplanelaw08_same_1 N Q j0 r1 w55

theorem cellplanelaw08_same_snd (N : Nat) (j0 : Option Addr) (r1 : Option Addr) (Q : VP) (w : World) (h : F_cellplanelaw08_same N j0 r1 Q w) : Snd (cy N [6, 8]) (bodyOf Try.f44) (retD (cy N [6, 8]) Try.f44 Q) (entry 104 [(.pointer j0), (.pointer r1)]) w :=
  (sq (H_cellplanelaw08_same_1 N Q) (dsm h) (T_cellplanelaw08_same_1 N Q))

theorem cellplanelaw08_same_calls (j0 : Option Addr) (r1 : Option Addr) (Q : VP) (w : World) (h : F_cellplanelaw08_same w.heap.size j0 r1 Q w) : Calls PP n_cellplanelaw08_same [(.pointer j0), (.pointer r1)].toArray w fun e w' => ∃ v, e = .returned v ∧ Q v w' :=
  calls_of (C := cy w.heap.size [6, 8]) (fn := Try.f44) (c := (bodyOf Try.f44)) (by kernel_rfl) (by kernel_rfl) (Nat.le_refl _) (cellplanelaw08_same_snd _ j0 r1 Q w h)

/-! ### cellplanelaw08_both -/
def C_cellplanelaw08_both_3 (N : Nat) (Q : VP) (j0' r1' : Option Addr) (w : World) : Prop :=
  CallL PP N w [] n_cellplanelaw08_same [(.pointer j0'), (.pointer r1')] fun r2 w3 => ∃ b1 : Bool, r2 = (.bool b1) ∧ Reb N w3 [] (Q (.bool b1))

noncomputable def H_cellplanelaw08_both_3 (N : Nat) (Q : VP) : St → World → Prop := HG N 139 [.v 0 .o, .v 1 .o] (C_cellplanelaw08_both_3 N Q)

theorem T_cellplanelaw08_both_3 (N : Nat) (Q : VP) (s : St) (w : World) (h : H_cellplanelaw08_both_3 N Q s w) : Snd (cy N [5, 9]) (cR (cR (cR (bodyOf Try.f38)))) (retD (cy N [5, 9]) Try.f38 Q) s w :=
  Snd.HG h fun _ _ _ h => dsm h

noncomputable def z_cellplanelaw08_both_0 (N : Nat) (Q : VP) : Cont := (thenD (H_cellplanelaw08_both_3 N Q) (retD (cy N [5, 9]) Try.f38 Q))

noncomputable def k_cellplanelaw08_both_1 : Code := (cR (cL (cR (cL (cR (cR (bodyOf Try.f38)))))))

noncomputable def k_cellplanelaw08_both_2 : Code := (cR (cR (cR (cR k_cellplanelaw08_both_1))))

noncomputable def k_cellplanelaw08_both_3 : Code := (cR (cL (cR (cR k_cellplanelaw08_both_2))))

def C_cellplanelaw08_both_9 (N : Nat) (Q : VP) (j0' r1' : Option Addr) (B9' : Nat) (e9c' : G_api_Entry) (T9' : Nat) (w : World) : Prop :=
  NilL r1' fun q34 => ∃ n35 : Int, At w (addA q34 1) [(.int .i64 n35)] ∧ NotIn ((addA q34 1) : Addr).block [⟨B9', e9c'.cells, T9'⟩] ∧ NilL r1' fun q36 => ∃ n37 : Int, At w (addA q36 1) [(.int .i64 n37)] ∧ NotIn ((addA q36 1) : Addr).block [⟨B9', e9c'.cells, T9'⟩] ∧ CallL PP N w [⟨B9', e9c'.cells, T9'⟩] n_journal_Journal_Append [(.pointer j0'), (.int .i64 n35), (.agg (List.toArray e9c'.cells))] fun r39 w40 => ∃ n38 : Int, r39 = (.int .i64 n38) ∧ At w40 (addA q36 1) [(.int .i64 n37)] ∧ CallL PP N w40 [⟨B9', e9c'.cells, T9'⟩] n_cellplaneref08_Journal_Append [(.pointer r1'), (.int .i64 n37), (.agg (List.toArray e9c'.cells))] fun r42 w43 => ∃ n41 : Int, r42 = (.int .i64 n41) ∧ IfB (!decide ((n38 : Int) = n41)) (Reb N w43 [⟨B9', e9c'.cells, T9'⟩] (Q (.bool false))) (Reb N w43 [⟨B9', e9c'.cells, T9'⟩] fun w44 => C_cellplanelaw08_both_3 N Q j0' r1' w44)

noncomputable def H_cellplanelaw08_both_9 (N : Nat) (Q : VP) : St → World → Prop := HG N 139 [.v 0 .o, .v 1 .o, .c 9 (.g R_api_Entry)] (C_cellplanelaw08_both_9 N Q)

theorem T_cellplanelaw08_both_9 (N : Nat) (Q : VP) (s : St) (w : World) (h : H_cellplanelaw08_both_9 N Q s w) : Snd (cy N [5, 9]) k_cellplanelaw08_both_3 (inBlockD 0 (z_cellplanelaw08_both_0 N Q)) s w :=
  Snd.HG h fun _ _ _ _ _ _ h => dsm h

noncomputable def k_cellplanelaw08_both_4 : Code := (cR (cR (cR (cR k_cellplanelaw08_both_2))))

def C_cellplanelaw08_both_11 (N : Nat) (Q : VP) (j0' r1' : Option Addr) (B5' : Nat) (a5c' : G_cellplanelaw08_Act) (T5' : Nat) (v126' : Bool) (w : World) : Prop :=
  IfB v126' (NilL j0' fun q78 => ∃ p79 : Option Addr, At w q78 [(.pointer p79)] ∧ NotIn (q78 : Addr).block [⟨B5', a5c'.cells, T5'⟩] ∧ CallL PP N w [⟨B5', a5c'.cells, T5'⟩] n_disk_Disk_Sync [(.pointer p79)] fun r80 w81 => r80 = (.tuple #[]) ∧ CallL PP N w81 [⟨B5', a5c'.cells, T5'⟩] n_cellplaneref08_Journal_Sync [(.pointer r1')] fun r82 w83 => r82 = (.tuple #[]) ∧ Reb N w83 [⟨B5', a5c'.cells, T5'⟩] fun w84 => C_cellplanelaw08_both_3 N Q j0' r1' w84) (CallL PP N w [⟨B5', a5c'.cells, T5'⟩] n_cellplanemake_Between [(.int .i64 a5c'.A), (.int .i64 (-1)), (.int .i64 80)] fun r86 w87 => ∃ n85 : Int, r86 = (.int .i64 n85) ∧ CallL PP N w87 [⟨B5', a5c'.cells, T5'⟩] n_journal_Journal_Crash [(.pointer j0'), (.int .i64 n85)] fun r88 w89 => r88 = (.tuple #[]) ∧ CallL PP N w89 [⟨B5', a5c'.cells, T5'⟩] n_cellplanemake_Between [(.int .i64 a5c'.A), (.int .i64 (-1)), (.int .i64 80)] fun r91 w92 => ∃ n90 : Int, r91 = (.int .i64 n90) ∧ CallL PP N w92 [⟨B5', a5c'.cells, T5'⟩] n_cellplaneref08_Journal_Crash [(.pointer r1'), (.int .i64 n90)] fun r93 w94 => r93 = (.tuple #[]) ∧ Reb N w94 [⟨B5', a5c'.cells, T5'⟩] fun w95 => C_cellplanelaw08_both_3 N Q j0' r1' w95)

noncomputable def H_cellplanelaw08_both_11 (N : Nat) (Q : VP) : St → World → Prop := HG N 139 [.v 0 .o, .v 1 .o, .c 5 (.g R_cellplanelaw08_Act), .v 126 .b] (C_cellplanelaw08_both_11 N Q)

theorem T_cellplanelaw08_both_11 (N : Nat) (Q : VP) (s : St) (w : World) (h : H_cellplanelaw08_both_11 N Q s w) : Snd (cy N [5, 9]) (cR (cR k_cellplanelaw08_both_4)) (inBlockD 0 (z_cellplanelaw08_both_0 N Q)) s w :=
  Snd.HG h fun _ _ _ _ _ _ _ h => dsm h

def C_cellplanelaw08_both_10 (N : Nat) (Q : VP) (j0' r1' : Option Addr) (B5' : Nat) (a5c' : G_cellplanelaw08_Act) (T5' : Nat) (v26' : Int) (v108' : Bool) (w : World) : Prop :=
  IfB v108' (NilL r1' fun q66 => ∃ l67 : Sl, At w (addA q66 3) [(.slice l67.a l67.n l67.c)] ∧ NotIn ((addA q66 3) : Addr).block [⟨B5', a5c'.cells, T5'⟩] ∧ CallL PP N w [⟨B5', a5c'.cells, T5'⟩] n_cellplanemake_Between [(.int .i64 a5c'.A), (.int .i64 (-1)), (.int .i64 (IntKind.i64.wrap (((l67.n : Nat) : Int) + 1)))] fun r69 w70 => ∃ n68 : Int, r69 = (.int .i64 n68) ∧ CallL PP N w70 [⟨B5', a5c'.cells, T5'⟩] n_journal_Journal_Cut [(.pointer j0'), (.int .i64 n68)] fun r72 w73 => ∃ n71 : Int, r72 = (.int .i64 n71) ∧ CallL PP N w73 [⟨B5', a5c'.cells, T5'⟩] n_cellplaneref08_Journal_Cut [(.pointer r1'), (.int .i64 n68)] fun r75 w76 => ∃ n74 : Int, r75 = (.int .i64 n74) ∧ IfB (!decide ((n71 : Int) = n74)) (Reb N w76 [⟨B5', a5c'.cells, T5'⟩] (Q (.bool false))) (Reb N w76 [⟨B5', a5c'.cells, T5'⟩] fun w77 => C_cellplanelaw08_both_3 N Q j0' r1' w77)) (IfB (decide ((v26' : Int) = 9)) (Reb N w [⟨B5', a5c'.cells, T5'⟩] fun w96 => C_cellplanelaw08_both_11 N Q j0' r1' B5' a5c' T5' (decide ((v26' : Int) = 9)) w96) (Reb N w [⟨B5', a5c'.cells, T5'⟩] fun w97 => C_cellplanelaw08_both_11 N Q j0' r1' B5' a5c' T5' (decide ((v26' : Int) = 10)) w97))

noncomputable def H_cellplanelaw08_both_10 (N : Nat) (Q : VP) : St → World → Prop := HG N 139 [.v 0 .o, .v 1 .o, .c 5 (.g R_cellplanelaw08_Act), .v 26 (.i .i64), .v 108 .b] (C_cellplanelaw08_both_10 N Q)

theorem T_cellplanelaw08_both_10 (N : Nat) (Q : VP) (s : St) (w : World) (h : H_cellplanelaw08_both_10 N Q s w) : Snd (cy N [5, 9]) k_cellplanelaw08_both_4 (inBlockD 0 (z_cellplanelaw08_both_0 N Q)) s w :=
  Snd.HG h fun j0' r1' B5' a5c' T5' v26' v108' w h => (Snd.cast (c' := .cond (.tmp 108) (cL k_cellplanelaw08_both_4) (cR k_cellplanelaw08_both_4)) (by kernel_rfl) (Snd.cond (t := v108') (by kernel_rfl) (by kernel_rfl) (fun ht => (fun h => (dsm h)) (ifb_t h ht)) (fun ht => (fun h => (sq (H_cellplanelaw08_both_11 N Q) (dsm h) (T_cellplanelaw08_both_11 N Q))) (ifb_f h ht))))

def C_cellplanelaw08_both_8 (N : Nat) (Q : VP) (j0' r1' : Option Addr) (B5' : Nat) (a5c' : G_cellplanelaw08_Act) (T5' : Nat) (v26' : Int) (v85' : Bool) (w : World) : Prop :=
  IfB v85' ((CallL PP N w [⟨B5', a5c'.cells, T5'⟩] n_cellplanelaw08_note [(.int .i64 3)] fun r46 w47 => ∃ x45 : G_api_Entry, r46 = (.agg (List.toArray x45.cells)) ∧ (CallL PP N w47 [⟨B5', a5c'.cells, T5'⟩] n_cellplanemake_Spoilt [(.agg (List.toArray x45.cells)), (.int .i64 a5c'.A), (.int .i64 a5c'.B)] fun r49 w50 => ∃ x48 : G_api_Entry, r49 = (.agg (List.toArray x48.cells)) ∧ ∀ b51 : Nat, w50.heap.size ≤ b51 → Reb N w50 [⟨B5', a5c'.cells, T5'⟩, ⟨b51, x48.cells, t_api_Entry⟩] fun w52 => C_cellplanelaw08_both_9 N Q j0' r1' b51 x48 t_api_Entry w52) ∧ (∀ b53 : Nat, w47.heap.size ≤ b53 → CallL PP N w47 [⟨B5', a5c'.cells, T5'⟩, ⟨b53, (⟨0, 0, 0, 0, 0, 0, 0, 0, 0⟩ : G_api_Entry).cells, t_api_Entry⟩] n_cellplanemake_Spoilt [(.agg (List.toArray x45.cells)), (.int .i64 a5c'.A), (.int .i64 a5c'.B)] fun r55 w56 => ∃ x54 : G_api_Entry, r55 = (.agg (List.toArray x54.cells)) ∧ Reb N w56 [⟨B5', a5c'.cells, T5'⟩, ⟨b53, x54.cells, t_api_Entry⟩] fun w57 => C_cellplanelaw08_both_9 N Q j0' r1' b53 x54 t_api_Entry w57)) ∧ (∀ b58 : Nat, w.heap.size ≤ b58 → CallL PP N w [⟨B5', a5c'.cells, T5'⟩, ⟨b58, (⟨0, 0, 0, 0, 0, 0, 0, 0, 0⟩ : G_api_Entry).cells, t_api_Entry⟩] n_cellplanelaw08_note [(.int .i64 3)] fun r60 w61 => ∃ x59 : G_api_Entry, r60 = (.agg (List.toArray x59.cells)) ∧ CallL PP N w61 [⟨B5', a5c'.cells, T5'⟩, ⟨b58, (⟨0, 0, 0, 0, 0, 0, 0, 0, 0⟩ : G_api_Entry).cells, t_api_Entry⟩] n_cellplanemake_Spoilt [(.agg (List.toArray x59.cells)), (.int .i64 a5c'.A), (.int .i64 a5c'.B)] fun r63 w64 => ∃ x62 : G_api_Entry, r63 = (.agg (List.toArray x62.cells)) ∧ Reb N w64 [⟨B5', a5c'.cells, T5'⟩, ⟨b58, x62.cells, t_api_Entry⟩] fun w65 => C_cellplanelaw08_both_9 N Q j0' r1' b58 x62 t_api_Entry w65)) (Reb N w [⟨B5', a5c'.cells, T5'⟩] fun w98 => C_cellplanelaw08_both_10 N Q j0' r1' B5' a5c' T5' v26' (decide ((v26' : Int) = 8)) w98)

noncomputable def H_cellplanelaw08_both_8 (N : Nat) (Q : VP) : St → World → Prop := HG N 139 [.v 0 .o, .v 1 .o, .c 5 (.g R_cellplanelaw08_Act), .v 26 (.i .i64), .v 85 .b] (C_cellplanelaw08_both_8 N Q)

theorem T_cellplanelaw08_both_8 (N : Nat) (Q : VP) (s : St) (w : World) (h : H_cellplanelaw08_both_8 N Q s w) : Snd (cy N [5, 9]) (cR (cR k_cellplanelaw08_both_2)) (inBlockD 0 (z_cellplanelaw08_both_0 N Q)) s w :=
  Snd.HG h fun j0' r1' B5' a5c' T5' v26' v85' w h => (Snd.cast (c' := .cond (.tmp 85) (cL (cR (cR k_cellplanelaw08_both_2))) (cR (cR (cR k_cellplanelaw08_both_2)))) (by kernel_rfl) (Snd.cond (t := v85') (by kernel_rfl) (by kernel_rfl) (fun ht => (fun h => (sq (H_cellplanelaw08_both_9 N Q) (dsm h) (T_cellplanelaw08_both_9 N Q))) (ifb_t h ht)) (fun ht => (fun h => (sq (H_cellplanelaw08_both_10 N Q) (dsm h) (T_cellplanelaw08_both_10 N Q))) (ifb_f h ht))))

def C_cellplanelaw08_both_7 (N : Nat) (Q : VP) (j0' r1' : Option Addr) (B5' : Nat) (a5c' : G_cellplanelaw08_Act) (T5' : Nat) (near7' v26' : Int) (v67' : Bool) (w : World) : Prop :=
  IfB v67' (CallL PP N w [⟨B5', a5c'.cells, T5'⟩] n_cellplanelaw08_note [(.int .i64 a5c'.B)] fun r22 w23 => ∃ x21 : G_api_Entry, r22 = (.agg (List.toArray x21.cells)) ∧ CallL PP N w23 [⟨B5', a5c'.cells, T5'⟩] n_journal_Journal_Append [(.pointer j0'), (.int .i64 near7'), (.agg (List.toArray x21.cells))] fun r25 w26 => ∃ n24 : Int, r25 = (.int .i64 n24) ∧ CallL PP N w26 [⟨B5', a5c'.cells, T5'⟩] n_cellplanelaw08_note [(.int .i64 a5c'.B)] fun r28 w29 => ∃ x27 : G_api_Entry, r28 = (.agg (List.toArray x27.cells)) ∧ CallL PP N w29 [⟨B5', a5c'.cells, T5'⟩] n_cellplaneref08_Journal_Append [(.pointer r1'), (.int .i64 near7'), (.agg (List.toArray x27.cells))] fun r31 w32 => ∃ n30 : Int, r31 = (.int .i64 n30) ∧ IfB (!decide ((n24 : Int) = n30)) (Reb N w32 [⟨B5', a5c'.cells, T5'⟩] (Q (.bool false))) (Reb N w32 [⟨B5', a5c'.cells, T5'⟩] fun w33 => C_cellplanelaw08_both_3 N Q j0' r1' w33)) (Reb N w [⟨B5', a5c'.cells, T5'⟩] fun w99 => C_cellplanelaw08_both_8 N Q j0' r1' B5' a5c' T5' v26' (decide ((v26' : Int) = 7)) w99)

noncomputable def H_cellplanelaw08_both_7 (N : Nat) (Q : VP) : St → World → Prop := HG N 139 [.v 0 .o, .v 1 .o, .c 5 (.g R_cellplanelaw08_Act), .v 7 (.i .i64), .v 26 (.i .i64), .v 67 .b] (C_cellplanelaw08_both_7 N Q)

theorem T_cellplanelaw08_both_7 (N : Nat) (Q : VP) (s : St) (w : World) (h : H_cellplanelaw08_both_7 N Q s w) : Snd (cy N [5, 9]) k_cellplanelaw08_both_2 (inBlockD 0 (z_cellplanelaw08_both_0 N Q)) s w :=
  Snd.HG h fun j0' r1' B5' a5c' T5' near7' v26' v67' w h => (Snd.cast (c' := .cond (.tmp 67) (cL k_cellplanelaw08_both_2) (cR k_cellplanelaw08_both_2)) (by kernel_rfl) (Snd.cond (t := v67') (by kernel_rfl) (by kernel_rfl) (fun ht => (fun h => (dsm h)) (ifb_t h ht)) (fun ht => (fun h => (sq (H_cellplanelaw08_both_8 N Q) (dsm h) (T_cellplanelaw08_both_8 N Q))) (ifb_f h ht))))

def C_cellplanelaw08_both_6 (N : Nat) (Q : VP) (j0' r1' : Option Addr) (B5' : Nat) (a5c' : G_cellplanelaw08_Act) (T5' : Nat) (near7' v26' : Int) (v52' : Bool) (w : World) : Prop :=
  IfB v52' (CallL PP N w [⟨B5', a5c'.cells, T5'⟩] n_cellplanemake_Between [(.int .i64 a5c'.B), (.int .i64 (-2)), (.int .i64 5)] fun r12 w13 => ∃ n11 : Int, r12 = (.int .i64 n11) ∧ CallL PP N w13 [⟨B5', a5c'.cells, T5'⟩] n_journal_Journal_SetTerm [(.pointer j0'), (.int .i64 near7'), (.int .i64 n11)] fun r15 w16 => ∃ n14 : Int, r15 = (.int .i64 n14) ∧ CallL PP N w16 [⟨B5', a5c'.cells, T5'⟩] n_cellplaneref08_Journal_SetTerm [(.pointer r1'), (.int .i64 near7'), (.int .i64 n11)] fun r18 w19 => ∃ n17 : Int, r18 = (.int .i64 n17) ∧ IfB (!decide ((n14 : Int) = n17)) (Reb N w19 [⟨B5', a5c'.cells, T5'⟩] (Q (.bool false))) (Reb N w19 [⟨B5', a5c'.cells, T5'⟩] fun w20 => C_cellplanelaw08_both_3 N Q j0' r1' w20)) (IfB (decide ((v26' : Int) = 3)) (Reb N w [⟨B5', a5c'.cells, T5'⟩] fun w100 => C_cellplanelaw08_both_7 N Q j0' r1' B5' a5c' T5' near7' v26' (decide ((v26' : Int) = 3)) w100) (IfB (decide ((v26' : Int) = 4)) (Reb N w [⟨B5', a5c'.cells, T5'⟩] fun w101 => C_cellplanelaw08_both_7 N Q j0' r1' B5' a5c' T5' near7' v26' (decide ((v26' : Int) = 4)) w101) (IfB (decide ((v26' : Int) = 5)) (Reb N w [⟨B5', a5c'.cells, T5'⟩] fun w102 => C_cellplanelaw08_both_7 N Q j0' r1' B5' a5c' T5' near7' v26' (decide ((v26' : Int) = 5)) w102) (Reb N w [⟨B5', a5c'.cells, T5'⟩] fun w103 => C_cellplanelaw08_both_7 N Q j0' r1' B5' a5c' T5' near7' v26' (decide ((v26' : Int) = 6)) w103))))

noncomputable def H_cellplanelaw08_both_6 (N : Nat) (Q : VP) : St → World → Prop := HG N 139 [.v 0 .o, .v 1 .o, .c 5 (.g R_cellplanelaw08_Act), .v 7 (.i .i64), .v 26 (.i .i64), .v 52 .b] (C_cellplanelaw08_both_6 N Q)

theorem T_cellplanelaw08_both_6 (N : Nat) (Q : VP) (s : St) (w : World) (h : H_cellplanelaw08_both_6 N Q s w) : Snd (cy N [5, 9]) (cR (cR k_cellplanelaw08_both_1)) (inBlockD 0 (z_cellplanelaw08_both_0 N Q)) s w :=
  Snd.HG h fun j0' r1' B5' a5c' T5' near7' v26' v52' w h => (Snd.cast (c' := .cond (.tmp 52) (cL (cR (cR k_cellplanelaw08_both_1))) (cR (cR (cR k_cellplanelaw08_both_1)))) (by kernel_rfl) (Snd.cond (t := v52') (by kernel_rfl) (by kernel_rfl) (fun ht => (fun h => (dsm h)) (ifb_t h ht)) (fun ht => (fun h => (sq (H_cellplanelaw08_both_7 N Q) (dsm h) (T_cellplanelaw08_both_7 N Q))) (ifb_f h ht))))

def C_cellplanelaw08_both_5 (N : Nat) (Q : VP) (j0' r1' : Option Addr) (B5' : Nat) (a5c' : G_cellplanelaw08_Act) (T5' : Nat) (near7' v26' : Int) (v37' : Bool) (w : World) : Prop :=
  IfB v37' (CallL PP N w [⟨B5', a5c'.cells, T5'⟩] n_journal_Journal_SetTerm [(.pointer j0'), (.int .i64 a5c'.A), (.int .i64 a5c'.B)] fun r5 w6 => ∃ n4 : Int, r5 = (.int .i64 n4) ∧ CallL PP N w6 [⟨B5', a5c'.cells, T5'⟩] n_cellplaneref08_Journal_SetTerm [(.pointer r1'), (.int .i64 a5c'.A), (.int .i64 a5c'.B)] fun r8 w9 => ∃ n7 : Int, r8 = (.int .i64 n7) ∧ IfB (!decide ((n4 : Int) = n7)) (Reb N w9 [⟨B5', a5c'.cells, T5'⟩] (Q (.bool false))) (Reb N w9 [⟨B5', a5c'.cells, T5'⟩] fun w10 => C_cellplanelaw08_both_3 N Q j0' r1' w10)) (IfB (decide ((v26' : Int) = 1)) (Reb N w [⟨B5', a5c'.cells, T5'⟩] fun w104 => C_cellplanelaw08_both_6 N Q j0' r1' B5' a5c' T5' near7' v26' (decide ((v26' : Int) = 1)) w104) (Reb N w [⟨B5', a5c'.cells, T5'⟩] fun w105 => C_cellplanelaw08_both_6 N Q j0' r1' B5' a5c' T5' near7' v26' (decide ((v26' : Int) = 2)) w105))

noncomputable def H_cellplanelaw08_both_5 (N : Nat) (Q : VP) : St → World → Prop := HG N 139 [.v 0 .o, .v 1 .o, .c 5 (.g R_cellplanelaw08_Act), .v 7 (.i .i64), .v 26 (.i .i64), .v 37 .b] (C_cellplanelaw08_both_5 N Q)

theorem T_cellplanelaw08_both_5 (N : Nat) (Q : VP) (s : St) (w : World) (h : H_cellplanelaw08_both_5 N Q s w) : Snd (cy N [5, 9]) k_cellplanelaw08_both_1 (inBlockD 0 (z_cellplanelaw08_both_0 N Q)) s w :=
  Snd.HG h fun j0' r1' B5' a5c' T5' near7' v26' v37' w h => (Snd.cast (c' := .cond (.tmp 37) (cL k_cellplanelaw08_both_1) (cR k_cellplanelaw08_both_1)) (by kernel_rfl) (Snd.cond (t := v37') (by kernel_rfl) (by kernel_rfl) (fun ht => (fun h => (dsm h)) (ifb_t h ht)) (fun ht => (fun h => (sq (H_cellplanelaw08_both_6 N Q) (dsm h) (T_cellplanelaw08_both_6 N Q))) (ifb_f h ht))))

def C_cellplanelaw08_both_4 (N : Nat) (Q : VP) (j0' r1' : Option Addr) (B5' : Nat) (a5c' : G_cellplanelaw08_Act) (T5' : Nat) (near7' v26' : Int) (w : World) : Prop :=
  Reb N w [⟨B5', a5c'.cells, T5'⟩] fun w106 => C_cellplanelaw08_both_5 N Q j0' r1' B5' a5c' T5' near7' v26' (decide ((v26' : Int) = 0)) w106

noncomputable def H_cellplanelaw08_both_4 (N : Nat) (Q : VP) : St → World → Prop := HG N 139 [.v 0 .o, .v 1 .o, .c 5 (.g R_cellplanelaw08_Act), .v 7 (.i .i64), .v 26 (.i .i64)] (C_cellplanelaw08_both_4 N Q)

theorem T_cellplanelaw08_both_4 (N : Nat) (Q : VP) (s : St) (w : World) (h : H_cellplanelaw08_both_4 N Q s w) : Snd (cy N [5, 9]) (cR (cL (cR (cR (bodyOf Try.f38))))) (z_cellplanelaw08_both_0 N Q) s w :=
  Snd.HG h fun j0' r1' B5' a5c' T5' near7' v26' w h => (bk 0 (sq (H_cellplanelaw08_both_5 N Q) (dsm h) (T_cellplanelaw08_both_5 N Q)))

def C_cellplanelaw08_both_2 (N : Nat) (Q : VP) (j0' r1' : Option Addr) (B5' : Nat) (a5c' : G_cellplanelaw08_Act) (T5' : Nat) (near7' : Int) (w : World) : Prop :=
  CallL PP N w [⟨B5', a5c'.cells, T5'⟩] n_cellplanemake_Mod [(.int .i64 a5c'.Which), (.int .i64 12)] fun r108 w109 => ∃ n107 : Int, r108 = (.int .i64 n107) ∧ Reb N w109 [⟨B5', a5c'.cells, T5'⟩] fun w110 => C_cellplanelaw08_both_4 N Q j0' r1' B5' a5c' T5' near7' n107 w110

noncomputable def H_cellplanelaw08_both_2 (N : Nat) (Q : VP) : St → World → Prop := HG N 139 [.v 0 .o, .v 1 .o, .c 5 (.g R_cellplanelaw08_Act), .v 7 (.i .i64)] (C_cellplanelaw08_both_2 N Q)

theorem T_cellplanelaw08_both_2 (N : Nat) (Q : VP) (s : St) (w : World) (h : H_cellplanelaw08_both_2 N Q s w) : Snd (cy N [5, 9]) (cR (cR (bodyOf Try.f38))) (retD (cy N [5, 9]) Try.f38 Q) s w :=
  Snd.HG h fun j0' r1' B5' a5c' T5' near7' w h => (sq (H_cellplanelaw08_both_3 N Q) (sq (H_cellplanelaw08_both_4 N Q) (dsm h) (T_cellplanelaw08_both_4 N Q)) (T_cellplanelaw08_both_3 N Q))

def C_cellplanelaw08_both_1 (N : Nat) (Q : VP) (j0' r1' : Option Addr) (B5' : Nat) (a5c' : G_cellplanelaw08_Act) (T5' : Nat) (w : World) : Prop :=
  NilL r1' fun q111 => ∃ n112 : Int, At w (addA q111 1) [(.int .i64 n112)] ∧ NotIn ((addA q111 1) : Addr).block [⟨B5', a5c'.cells, T5'⟩] ∧ NilL r1' fun q113 => ∃ n114 : Int, At w (addA q113 1) [(.int .i64 n114)] ∧ NotIn ((addA q113 1) : Addr).block [⟨B5', a5c'.cells, T5'⟩] ∧ CallL PP N w [⟨B5', a5c'.cells, T5'⟩] n_cellplanemake_Between [(.int .i64 a5c'.A), (.int .i64 (IntKind.i64.wrap (n112 - 1))), (.int .i64 (IntKind.i64.wrap (n114 + 2)))] fun r116 w117 => ∃ n115 : Int, r116 = (.int .i64 n115) ∧ Reb N w117 [⟨B5', a5c'.cells, T5'⟩] fun w118 => C_cellplanelaw08_both_2 N Q j0' r1' B5' a5c' T5' n115 w118

noncomputable def H_cellplanelaw08_both_1 (N : Nat) (Q : VP) : St → World → Prop := HG N 139 [.v 0 .o, .v 1 .o, .c 5 (.g R_cellplanelaw08_Act)] (C_cellplanelaw08_both_1 N Q)

theorem T_cellplanelaw08_both_1 (N : Nat) (Q : VP) (s : St) (w : World) (h : H_cellplanelaw08_both_1 N Q s w) : Snd (cy N [5, 9]) (cR (bodyOf Try.f38)) (retD (cy N [5, 9]) Try.f38 Q) s w :=
  Snd.HG h fun j0' r1' B5' a5c' T5' w h => (sq (H_cellplanelaw08_both_2 N Q) (dsm h) (T_cellplanelaw08_both_2 N Q))

def F_cellplanelaw08_both (N : Nat) (j0 : Option Addr) (r1 : Option Addr) (a2 : G_cellplanelaw08_Act) (Q : VP) (w : World) : Prop :=
  ∀ b119 : Nat, w.heap.size ≤ b119 → Reb N w [⟨b119, a2.cells, t_cellplanelaw08_Act⟩] fun w120 => C_cellplanelaw08_both_1 N Q j0 r1 b119 a2 t_cellplanelaw08_Act w120

theorem cellplanelaw08_both_snd (N : Nat) (j0 : Option Addr) (r1 : Option Addr) (a2 : G_cellplanelaw08_Act) (Q : VP) (w : World) (h : F_cellplanelaw08_both N j0 r1 a2 Q w) : Snd (cy N [5, 9]) (bodyOf Try.f38) (retD (cy N [5, 9]) Try.f38 Q) (entry 139 [(.pointer j0), (.pointer r1), (.agg (List.toArray a2.cells))]) w :=
  (sq (H_cellplanelaw08_both_1 N Q) (dsm h) (T_cellplanelaw08_both_1 N Q))

theorem cellplanelaw08_both_calls (j0 : Option Addr) (r1 : Option Addr) (a2 : G_cellplanelaw08_Act) (Q : VP) (w : World) (h : F_cellplanelaw08_both w.heap.size j0 r1 a2 Q w) : Calls PP n_cellplanelaw08_both [(.pointer j0), (.pointer r1), (.agg (List.toArray a2.cells))].toArray w fun e w' => ∃ v, e = .returned v ∧ Q v w' :=
  calls_of (C := cy w.heap.size [5, 9]) (fn := Try.f38) (c := (bodyOf Try.f38)) (by kernel_rfl) (by kernel_rfl) (Nat.le_refl _) (cellplanelaw08_both_snd _ j0 r1 a2 Q w h)

/-! ### cellplanelaw08_grown -/
noncomputable def k_cellplanelaw08_grown_0 : Code := (cR (cR (cR (cR (cR (bodyOf Try.f23))))))

def C_cellplanelaw08_grown_7 (N : Nat) (Q : VP) (j7' : Option Addr) (out8' : Sl) (n9' : Int) (w : World) : Prop :=
  Reb N w [] (Q (.tuple #[(.pointer j7'), (.slice out8'.a out8'.n out8'.c), (.int .i64 n9')]))

noncomputable def H_cellplanelaw08_grown_7 (N : Nat) (Q : VP) : St → World → Prop := HG N 64 [.v 7 .o, .v 8 .l, .v 9 (.i .i64)] (C_cellplanelaw08_grown_7 N Q)

theorem T_cellplanelaw08_grown_7 (N : Nat) (Q : VP) (s : St) (w : World) (h : H_cellplanelaw08_grown_7 N Q s w) : Snd (cy N []) (cR (cR k_cellplanelaw08_grown_0)) (retD (cy N []) Try.f23 Q) s w :=
  Snd.HG h fun _ _ _ _ h => dsm h

noncomputable def z_cellplanelaw08_grown_1 (N : Nat) (Q : VP) : Cont := (thenD (H_cellplanelaw08_grown_7 N Q) (retD (cy N []) Try.f23 Q))

def D_cellplanelaw08_grown_9 (K : (Sl × Int × (Option Addr)) → (Sl × Int × Int) → Prop) : List Value → List LB → Prop := fun vs ls => match vs, ls with
  | [.slice l0'_a l0'_n l0'_c, .int .i64 sync1', .pointer j7', .slice out8'_a out8'_n out8'_c, .int .i64 n9', .int .i64 i10'], [] => K (⟨l0'_a, l0'_n, l0'_c⟩, sync1', j7') (⟨out8'_a, out8'_n, out8'_c⟩, n9', i10')
  | _, _ => False

noncomputable def k_cellplanelaw08_grown_2 : Code := (cL (cR (cL (cR k_cellplanelaw08_grown_0))))

noncomputable def z_cellplanelaw08_grown_3 (N : Nat) (K1 : (Sl × Int × (Option Addr)) → (Sl × Int × Int) → World → Prop) (Q : VP) : Cont := (thenD (HeadK N 64 [.val 0, .val 1, .val 7, .val 8, .val 9, .val 10] D_cellplanelaw08_grown_9 K1) (inBlockD 0 (z_cellplanelaw08_grown_1 N Q)))

def C_cellplanelaw08_grown_11 (N : Nat) (K1 : (Sl × Int × (Option Addr)) → (Sl × Int × Int) → World → Prop) (Q : VP) (l0' : Sl) (sync1' : Int) (j7' : Option Addr) (out8' : Sl) (n9' i10' : Int) (w : World) : Prop :=
  Reb N w [] fun w1 => K1 (l0', sync1', j7') (out8', n9', (IntKind.i64.wrap (i10' + 1))) w1

noncomputable def H_cellplanelaw08_grown_11 (N : Nat) (K1 : (Sl × Int × (Option Addr)) → (Sl × Int × Int) → World → Prop) (Q : VP) : St → World → Prop := HG N 64 [.v 0 .l, .v 1 (.i .i64), .v 7 .o, .v 8 .l, .v 9 (.i .i64), .v 10 (.i .i64)] (C_cellplanelaw08_grown_11 N K1 Q)

theorem T_cellplanelaw08_grown_11 (N : Nat) (K1 : (Sl × Int × (Option Addr)) → (Sl × Int × Int) → World → Prop) (Q : VP) (s : St) (w : World) (h : H_cellplanelaw08_grown_11 N K1 Q s w) : Snd (cy N []) (cR (cR (cL k_cellplanelaw08_grown_2))) (z_cellplanelaw08_grown_3 N K1 Q) s w :=
  Snd.HG h fun _ _ _ _ _ _ _ h => dsm h

noncomputable def k_cellplanelaw08_grown_4 : Code := (cR (cL (cL (cR (cL k_cellplanelaw08_grown_2)))))

noncomputable def z_cellplanelaw08_grown_5 (N : Nat) (K1 : (Sl × Int × (Option Addr)) → (Sl × Int × Int) → World → Prop) (Q : VP) : Cont := (inBlockD 1 (thenD (H_cellplanelaw08_grown_11 N K1 Q) (z_cellplanelaw08_grown_3 N K1 Q)))

def C_cellplanelaw08_grown_12 (N : Nat) (K1 : (Sl × Int × (Option Addr)) → (Sl × Int × Int) → World → Prop) (Q : VP) (l0' : Sl) (sync1' : Int) (j7' : Option Addr) (out8' : Sl) (n9' i10' : Int) (w : World) : Prop :=
  IdxL l0'.a l0'.n i10' fun q2 => ∃ n3 : Int, At w (q2.add ((i10' : Int).toNat * 1)) [(.int .i64 n3)] ∧ NotIn ((q2.add ((i10' : Int).toNat * 1)) : Addr).block [] ∧ CallL PP N w [] n_cellplanelaw08_note [(.int .i64 n3)] fun r5 w6 => ∃ x4 : G_api_Entry, r5 = (.agg (List.toArray x4.cells)) ∧ CallL PP N w6 [] n_journal_Journal_Append [(.pointer j7'), (.int .i64 1), (.agg (List.toArray x4.cells))] fun r8 w9 => ∃ n7 : Int, r8 = (.int .i64 n7) ∧ IfB (!decide ((n7 : Int) = 0)) (Reb N w9 [] (Q (.tuple #[(.pointer none), (.slice none 0 0), (.int .i64 0)]))) (IdxL l0'.a l0'.n i10' fun q10 => ∃ n11 : Int, At w9 (q10.add ((i10' : Int).toNat * 1)) [(.int .i64 n11)] ∧ NotIn ((q10.add ((i10' : Int).toNat * 1)) : Addr).block [] ∧ CallL PP N w9 [] n_cellplanelaw08_note [(.int .i64 n11)] fun r13 w14 => ∃ x12 : G_api_Entry, r13 = (.agg (List.toArray x12.cells)) ∧ NewL N w14 [] (⟨1, x12⟩ : G_api_Logged).cells t_api_Logged fun b15 w16 => RunL PP N w16 [] (Builtin.append_ #[t_sl_api_Logged, t_sl_api_Logged] t_sl_api_Logged #[(.slice out8'.a out8'.n out8'.c), (.slice (some ⟨b15, 0, none⟩) 1 1)]) fun r18 w19 => ∃ l17 : Sl, r18 = (.slice l17.a l17.n l17.c) ∧ Reb N w19 [] fun w20 => C_cellplanelaw08_grown_11 N K1 Q l0' sync1' j7' l17 n9' i10' w20)

noncomputable def H_cellplanelaw08_grown_12 (N : Nat) (K1 : (Sl × Int × (Option Addr)) → (Sl × Int × Int) → World → Prop) (Q : VP) : St → World → Prop := HG N 64 [.v 0 .l, .v 1 (.i .i64), .v 7 .o, .v 8 .l, .v 9 (.i .i64), .v 10 (.i .i64)] (C_cellplanelaw08_grown_12 N K1 Q)

theorem T_cellplanelaw08_grown_12 (N : Nat) (K1 : (Sl × Int × (Option Addr)) → (Sl × Int × Int) → World → Prop) (Q : VP) (s : St) (w : World) (h : H_cellplanelaw08_grown_12 N K1 Q s w) : Snd (cy N []) k_cellplanelaw08_grown_4 (z_cellplanelaw08_grown_5 N K1 Q) s w :=
  Snd.HG h fun _ _ _ _ _ _ _ h => dsm h

def C_cellplanelaw08_grown_10 (N : Nat) (K1 : (Sl × Int × (Option Addr)) → (Sl × Int × Int) → World → Prop) (Q : VP) (l0' : Sl) (sync1' : Int) (j7' : Option Addr) (out8' : Sl) (n9' i10' : Int) (w : World) : Prop :=
  CallL PP N w [] n_cellplanemake_Mod [(.int .i64 sync1'), (.int .i64 31)] fun r22 w23 => ∃ n21 : Int, r22 = (.int .i64 n21) ∧ IfB (decide ((i10' : Int) = n21)) (NilL j7' fun q24 => ∃ p25 : Option Addr, At w23 q24 [(.pointer p25)] ∧ NotIn (q24 : Addr).block [] ∧ CallL PP N w23 [] n_disk_Disk_Sync [(.pointer p25)] fun r26 w27 => r26 = (.tuple #[]) ∧ Reb N w27 [] fun w28 => C_cellplanelaw08_grown_12 N K1 Q l0' sync1' j7' out8' i10' i10' w28) (Reb N w23 [] fun w29 => C_cellplanelaw08_grown_12 N K1 Q l0' sync1' j7' out8' n9' i10' w29)

noncomputable def H_cellplanelaw08_grown_10 (N : Nat) (K1 : (Sl × Int × (Option Addr)) → (Sl × Int × Int) → World → Prop) (Q : VP) : St → World → Prop := HG N 64 [.v 0 .l, .v 1 (.i .i64), .v 7 .o, .v 8 .l, .v 9 (.i .i64), .v 10 (.i .i64)] (C_cellplanelaw08_grown_10 N K1 Q)

theorem T_cellplanelaw08_grown_10 (N : Nat) (K1 : (Sl × Int × (Option Addr)) → (Sl × Int × Int) → World → Prop) (Q : VP) (s : St) (w : World) (h : H_cellplanelaw08_grown_10 N K1 Q s w) : Snd (cy N []) (cR (cL k_cellplanelaw08_grown_2)) (z_cellplanelaw08_grown_3 N K1 Q) s w :=
  Snd.HG h fun l0' sync1' j7' out8' n9' i10' w h => (sq (H_cellplanelaw08_grown_11 N K1 Q) (bk 1 (sq (H_cellplanelaw08_grown_12 N K1 Q) (dsm h) (T_cellplanelaw08_grown_12 N K1 Q))) (T_cellplanelaw08_grown_11 N K1 Q))

def B_cellplanelaw08_grown_9 (N : Nat) (K1 : (Sl × Int × (Option Addr)) → (Sl × Int × Int) → World → Prop) (Q : VP) (l0' : Sl) (sync1' : Int) (j7' : Option Addr) (out8' : Sl) (n9' i10' : Int) (w : World) : Prop :=
  IfB (decide ((i10' : Int) < ((l0'.n : Nat) : Int))) (IfB (decide ((i10' : Int) < 30)) (Reb N w [] fun w30 => C_cellplanelaw08_grown_10 N K1 Q l0' sync1' j7' out8' n9' i10' w30) (Reb N w [] fun w31 => C_cellplanelaw08_grown_7 N Q j7' out8' n9' w31)) (Reb N w [] fun w32 => C_cellplanelaw08_grown_7 N Q j7' out8' n9' w32)

theorem X_cellplanelaw08_grown_9 {N : Nat} {K1 : (Sl × Int × (Option Addr)) → (Sl × Int × Int) → World → Prop} {Q : VP} {l0' : Sl} {sync1' : Int} {j7' : Option Addr} {out8' : Sl} {n9' i10' : Int} {w : World} (h : B_cellplanelaw08_grown_9 N K1 Q l0' sync1' j7' out8' n9' i10' w) : Snd (cy N []) (cL k_cellplanelaw08_grown_2) (thenD (HeadK N 64 [.val 0, .val 1, .val 7, .val 8, .val 9, .val 10] D_cellplanelaw08_grown_9 K1) (inBlockD 0 (z_cellplanelaw08_grown_1 N Q))) (mkS 64 [.val 0, .val 1, .val 7, .val 8, .val 9, .val 10] [(.slice l0'.a l0'.n l0'.c), (.int .i64 sync1'), (.pointer j7'), (.slice out8'.a out8'.n out8'.c), (.int .i64 n9'), (.int .i64 i10')] []) w :=
  (sq (H_cellplanelaw08_grown_10 N K1 Q) (dsm h) (T_cellplanelaw08_grown_10 N K1 Q))

def L_cellplanelaw08_grown_9 (N : Nat) (Q : VP) (K1 : (Sl × Int × (Option Addr)) → (Sl × Int × Int) → World → Prop) (c : Sl × Int × (Option Addr)) (x : Sl × Int × Int) (w : World) : Prop := match c, x with
  | (l0', sync1', j7'), (out8', n9', i10') => B_cellplanelaw08_grown_9 N K1 Q l0' sync1' j7' out8' n9' i10' w

theorem T_cellplanelaw08_grown_9 (N : Nat) (Q : VP) {s : St} {w : World} (h : HeadE N 64 [.val 0, .val 1, .val 7, .val 8, .val 9, .val 10] D_cellplanelaw08_grown_9 (L_cellplanelaw08_grown_9 N Q) s w) : Snd (cy N []) k_cellplanelaw08_grown_2 (inBlockD 0 (z_cellplanelaw08_grown_1 N Q)) s w := by
  refine Snd.cast (c' := .loop (cL k_cellplanelaw08_grown_2)) (by kernel_rfl) (Snd.loopC (fun (c : Sl × Int × (Option Addr)) (x : Sl × Int × Int) => match c, x with | (l0', sync1', j7'), (out8', n9', i10') => ([(.slice l0'.a l0'.n l0'.c), (.int .i64 sync1'), (.pointer j7'), (.slice out8'.a out8'.n out8'.c), (.int .i64 n9'), (.int .i64 i10')], [])) ?_ ?_ h)
  · intro K vs ls h
    unfold D_cellplanelaw08_grown_9 at h
    split at h
    · exact ⟨_, _, rfl, h⟩
    · exact h.elim
  · rintro K ⟨l0', sync1', j7'⟩ ⟨out8', n9', i10'⟩ w h
    exact X_cellplanelaw08_grown_9 h

def C_cellplanelaw08_grown_8 (N : Nat) (Q : VP) (l0' : Sl) (sync1' : Int) (j7' : Option Addr) (out8' : Sl) (n9' i10' : Int) (w : World) : Prop :=
  LoopC N w [] ((l0', sync1', j7') : Sl × Int × (Option Addr)) ((out8', n9', i10') : Sl × Int × Int) (L_cellplanelaw08_grown_9 N Q)

noncomputable def H_cellplanelaw08_grown_8 (N : Nat) (Q : VP) : St → World → Prop := HG N 64 [.v 0 .l, .v 1 (.i .i64), .v 7 .o, .v 8 .l, .v 9 (.i .i64), .v 10 (.i .i64)] (C_cellplanelaw08_grown_8 N Q)

theorem T_cellplanelaw08_grown_8 (N : Nat) (Q : VP) (s : St) (w : World) (h : H_cellplanelaw08_grown_8 N Q s w) : Snd (cy N []) (cR (cL (cR k_cellplanelaw08_grown_0))) (z_cellplanelaw08_grown_1 N Q) s w :=
  Snd.HG h fun l0' sync1' j7' out8' n9' i10' w h => (bk 0 (T_cellplanelaw08_grown_9 N Q (mpr' (by kernel_rfl) h)))

def C_cellplanelaw08_grown_6 (N : Nat) (Q : VP) (l0' : Sl) (sync1' : Int) (j7' : Option Addr) (out8' : Sl) (n9' : Int) (w : World) : Prop :=
  Reb N w [] fun w33 => C_cellplanelaw08_grown_8 N Q l0' sync1' j7' out8' n9' 0 w33

noncomputable def H_cellplanelaw08_grown_6 (N : Nat) (Q : VP) : St → World → Prop := HG N 64 [.v 0 .l, .v 1 (.i .i64), .v 7 .o, .v 8 .l, .v 9 (.i .i64)] (C_cellplanelaw08_grown_6 N Q)

theorem T_cellplanelaw08_grown_6 (N : Nat) (Q : VP) (s : St) (w : World) (h : H_cellplanelaw08_grown_6 N Q s w) : Snd (cy N []) (cR k_cellplanelaw08_grown_0) (retD (cy N []) Try.f23 Q) s w :=
  Snd.HG h fun l0' sync1' j7' out8' n9' w h => (sq (H_cellplanelaw08_grown_7 N Q) (sq (H_cellplanelaw08_grown_8 N Q) (dsm h) (T_cellplanelaw08_grown_8 N Q)) (T_cellplanelaw08_grown_7 N Q))

def C_cellplanelaw08_grown_5 (N : Nat) (Q : VP) (l0' : Sl) (sync1' : Int) (j7' : Option Addr) (out8' : Sl) (w : World) : Prop :=
  Reb N w [] fun w34 => C_cellplanelaw08_grown_6 N Q l0' sync1' j7' out8' 0 w34

noncomputable def H_cellplanelaw08_grown_5 (N : Nat) (Q : VP) : St → World → Prop := HG N 64 [.v 0 .l, .v 1 (.i .i64), .v 7 .o, .v 8 .l] (C_cellplanelaw08_grown_5 N Q)

theorem T_cellplanelaw08_grown_5 (N : Nat) (Q : VP) (s : St) (w : World) (h : H_cellplanelaw08_grown_5 N Q s w) : Snd (cy N []) k_cellplanelaw08_grown_0 (retD (cy N []) Try.f23 Q) s w :=
  Snd.HG h fun l0' sync1' j7' out8' w h => (sq (H_cellplanelaw08_grown_6 N Q) (dsm h) (T_cellplanelaw08_grown_6 N Q))

def C_cellplanelaw08_grown_4 (N : Nat) (Q : VP) (l0' : Sl) (sync1' : Int) (j7' : Option Addr) (w : World) : Prop :=
  Reb N w [] fun w35 => C_cellplanelaw08_grown_5 N Q l0' sync1' j7' (⟨none, 0, 0⟩ : Sl) w35

noncomputable def H_cellplanelaw08_grown_4 (N : Nat) (Q : VP) : St → World → Prop := HG N 64 [.v 0 .l, .v 1 (.i .i64), .v 7 .o] (C_cellplanelaw08_grown_4 N Q)

theorem T_cellplanelaw08_grown_4 (N : Nat) (Q : VP) (s : St) (w : World) (h : H_cellplanelaw08_grown_4 N Q s w) : Snd (cy N []) (cR (cR (cR (cR (bodyOf Try.f23))))) (retD (cy N []) Try.f23 Q) s w :=
  Snd.HG h fun l0' sync1' j7' w h => (sq (H_cellplanelaw08_grown_5 N Q) (dsm h) (T_cellplanelaw08_grown_5 N Q))

def C_cellplanelaw08_grown_3 (N : Nat) (Q : VP) (l0' : Sl) (sync1' : Int) (j7' : Option Addr) (w : World) : Prop :=
  NilL j7' fun q36 => ∃ p37 : Option Addr, At w q36 [(.pointer p37)] ∧ NotIn (q36 : Addr).block [] ∧ CallL PP N w [] n_disk_Disk_Sync [(.pointer p37)] fun r38 w39 => r38 = (.tuple #[]) ∧ Reb N w39 [] fun w40 => C_cellplanelaw08_grown_4 N Q l0' sync1' j7' w40

noncomputable def H_cellplanelaw08_grown_3 (N : Nat) (Q : VP) : St → World → Prop := HG N 64 [.v 0 .l, .v 1 (.i .i64), .v 7 .o] (C_cellplanelaw08_grown_3 N Q)

theorem T_cellplanelaw08_grown_3 (N : Nat) (Q : VP) (s : St) (w : World) (h : H_cellplanelaw08_grown_3 N Q s w) : Snd (cy N []) (cR (cR (cR (bodyOf Try.f23)))) (retD (cy N []) Try.f23 Q) s w :=
  Snd.HG h fun l0' sync1' j7' w h => (sq (H_cellplanelaw08_grown_4 N Q) (dsm h) (T_cellplanelaw08_grown_4 N Q))

def C_cellplanelaw08_grown_2 (N : Nat) (Q : VP) (l0' : Sl) (sync1' : Int) (j7' : Option Addr) (w : World) : Prop :=
  IfB j7'.isNone (Reb N w [] (Q (.tuple #[(.pointer none), (.slice none 0 0), (.int .i64 0)]))) (CallL PP N w [] n_journal_Journal_SetTerm [(.pointer j7'), (.int .i64 1), (.int .i64 0)] fun r42 w43 => ∃ n41 : Int, r42 = (.int .i64 n41) ∧ IfB (!decide ((n41 : Int) = 0)) (Reb N w43 [] (Q (.tuple #[(.pointer none), (.slice none 0 0), (.int .i64 0)]))) (Reb N w43 [] fun w44 => C_cellplanelaw08_grown_3 N Q l0' sync1' j7' w44))

noncomputable def H_cellplanelaw08_grown_2 (N : Nat) (Q : VP) : St → World → Prop := HG N 64 [.v 0 .l, .v 1 (.i .i64), .v 7 .o] (C_cellplanelaw08_grown_2 N Q)

theorem T_cellplanelaw08_grown_2 (N : Nat) (Q : VP) (s : St) (w : World) (h : H_cellplanelaw08_grown_2 N Q s w) : Snd (cy N []) (cR (cR (bodyOf Try.f23))) (retD (cy N []) Try.f23 Q) s w :=
  Snd.HG h fun l0' sync1' j7' w h => (sq (H_cellplanelaw08_grown_3 N Q) (dsm h) (T_cellplanelaw08_grown_3 N Q))

def C_cellplanelaw08_grown_1 (N : Nat) (Q : VP) (l0' : Sl) (sync1' : Int) (w : World) : Prop :=
  CallL PP N w [] n_journal_New [] fun r46 w47 => ∃ p45 : Option Addr, r46 = (.pointer p45) ∧ Reb N w47 [] fun w48 => C_cellplanelaw08_grown_2 N Q l0' sync1' p45 w48

noncomputable def H_cellplanelaw08_grown_1 (N : Nat) (Q : VP) : St → World → Prop := HG N 64 [.v 0 .l, .v 1 (.i .i64)] (C_cellplanelaw08_grown_1 N Q)

theorem T_cellplanelaw08_grown_1 (N : Nat) (Q : VP) (s : St) (w : World) (h : H_cellplanelaw08_grown_1 N Q s w) : Snd (cy N []) (cR (bodyOf Try.f23)) (retD (cy N []) Try.f23 Q) s w :=
  Snd.HG h fun l0' sync1' w h => (sq (H_cellplanelaw08_grown_2 N Q) (dsm h) (T_cellplanelaw08_grown_2 N Q))

def F_cellplanelaw08_grown (N : Nat) (l0 : Sl) (sync1 : Int) (Q : VP) (w : World) : Prop :=
  Reb N w [] fun w49 => C_cellplanelaw08_grown_1 N Q l0 sync1 w49

theorem cellplanelaw08_grown_snd (N : Nat) (l0 : Sl) (sync1 : Int) (Q : VP) (w : World) (h : F_cellplanelaw08_grown N l0 sync1 Q w) : Snd (cy N []) (bodyOf Try.f23) (retD (cy N []) Try.f23 Q) (entry 64 [(.slice l0.a l0.n l0.c), (.int .i64 sync1)]) w :=
  (sq (H_cellplanelaw08_grown_1 N Q) (dsm h) (T_cellplanelaw08_grown_1 N Q))

theorem cellplanelaw08_grown_calls (l0 : Sl) (sync1 : Int) (Q : VP) (w : World) (h : F_cellplanelaw08_grown w.heap.size l0 sync1 Q w) : Calls PP n_cellplanelaw08_grown [(.slice l0.a l0.n l0.c), (.int .i64 sync1)].toArray w fun e w' => ∃ v, e = .returned v ∧ Q v w' :=
  calls_of (C := cy w.heap.size []) (fn := Try.f23) (c := (bodyOf Try.f23)) (by kernel_rfl) (by kernel_rfl) (Nat.le_refl _) (cellplanelaw08_grown_snd _ l0 sync1 Q w h)

/-! ### cellplanelaw08_JournalKeeps -/
noncomputable def k_cellplanelaw08_JournalKeeps_0 : Code := (cR (cR (cR (cR (cR (cR (bodyOf Try.f4)))))))

def C_cellplanelaw08_JournalKeeps_6 (N : Nat) (Q : VP) (w : World) : Prop :=
  Reb N w [] (Q (.bool true))

noncomputable def H_cellplanelaw08_JournalKeeps_6 (N : Nat) (Q : VP) : St → World → Prop := HG N 72 [] (C_cellplanelaw08_JournalKeeps_6 N Q)

theorem T_cellplanelaw08_JournalKeeps_6 (N : Nat) (Q : VP) (s : St) (w : World) (h : H_cellplanelaw08_JournalKeeps_6 N Q s w) : Snd (cy N [11]) k_cellplanelaw08_JournalKeeps_0 (retD (cy N [11]) Try.f4 Q) s w :=
  Snd.HG h fun _ h => dsm h

noncomputable def k_cellplanelaw08_JournalKeeps_1 : Code := (cR (cL (cR (cR (cR (cR (cR (bodyOf Try.f4))))))))

noncomputable def z_cellplanelaw08_JournalKeeps_2 (N : Nat) (Q : VP) : Cont := (thenD (H_cellplanelaw08_JournalKeeps_6 N Q) (retD (cy N [11]) Try.f4 Q))

def D_cellplanelaw08_JournalKeeps_8 (K : ((Option Addr) × Sl) → (Int) → Prop) : List Value → List LB → Prop := fun vs ls => match vs, ls with
  | [.pointer j7', .slice out8'_a out8'_n out8'_c, .int .i64 i10'], [] => K (j7', ⟨out8'_a, out8'_n, out8'_c⟩) i10'
  | _, _ => False

def B_cellplanelaw08_JournalKeeps_8 (N : Nat) (K1 : ((Option Addr) × Sl) → (Int) → World → Prop) (Q : VP) (j7' : Option Addr) (out8' : Sl) (i10' : Int) (w : World) : Prop :=
  CallL PP N w [] n_journal_Journal_Len [(.pointer j7')] fun r2 w3 => ∃ n1 : Int, r2 = (.int .i64 n1) ∧ IfB (decide ((i10' : Int) < n1)) (CallL PP N w3 [] n_journal_Journal_At [(.pointer j7'), (.int .i64 i10')] fun r6 w7 => ∃ x4 : G_api_Logged, ∃ b5 : Bool, r6 = (.tuple #[(.agg (List.toArray x4.cells)), (.bool b5)]) ∧ ∀ b8 : Nat, w7.heap.size ≤ b8 → IfB (!b5) (Reb N w7 [⟨b8, x4.cells, t_api_Logged⟩] (Q (.bool false))) (IdxL out8'.a out8'.n i10' fun q9 => ∃ x10 : G_api_Logged, At w7 (q9.add ((i10' : Int).toNat * 10)) x10.cells ∧ NotIn ((q9.add ((i10' : Int).toNat * 10)) : Addr).block [⟨b8, x4.cells, t_api_Logged⟩] ∧ IfB (!(G_api_Logged.eqb x4 x10)) (Reb N w7 [⟨b8, x4.cells, t_api_Logged⟩] (Q (.bool false))) (Reb N w7 [⟨b8, x4.cells, t_api_Logged⟩] fun w11 => K1 (j7', out8') (IntKind.i64.wrap (i10' + 1)) w11))) (Reb N w3 [] fun w12 => C_cellplanelaw08_JournalKeeps_6 N Q w12)

theorem X_cellplanelaw08_JournalKeeps_8 {N : Nat} {K1 : ((Option Addr) × Sl) → (Int) → World → Prop} {Q : VP} {j7' : Option Addr} {out8' : Sl} {i10' : Int} {w : World} (h : B_cellplanelaw08_JournalKeeps_8 N K1 Q j7' out8' i10' w) : Snd (cy N [11]) (cL (cL k_cellplanelaw08_JournalKeeps_1)) (thenD (HeadK N 72 [.val 7, .val 8, .val 10] D_cellplanelaw08_JournalKeeps_8 K1) (inBlockD 0 (z_cellplanelaw08_JournalKeeps_2 N Q))) (mkS 72 [.val 7, .val 8, .val 10] [(.pointer j7'), (.slice out8'.a out8'.n out8'.c), (.int .i64 i10')] []) w :=
  (dsm h)

def L_cellplanelaw08_JournalKeeps_8 (N : Nat) (Q : VP) (K1 : ((Option Addr) × Sl) → (Int) → World → Prop) (c : (Option Addr) × Sl) (x : Int) (w : World) : Prop := match c, x with
  | (j7', out8'), i10' => B_cellplanelaw08_JournalKeeps_8 N K1 Q j7' out8' i10' w

theorem T_cellplanelaw08_JournalKeeps_8 (N : Nat) (Q : VP) {s : St} {w : World} (h : HeadE N 72 [.val 7, .val 8, .val 10] D_cellplanelaw08_JournalKeeps_8 (L_cellplanelaw08_JournalKeeps_8 N Q) s w) : Snd (cy N [11]) (cL k_cellplanelaw08_JournalKeeps_1) (inBlockD 0 (z_cellplanelaw08_JournalKeeps_2 N Q)) s w := by
  refine Snd.cast (c' := .loop (cL (cL k_cellplanelaw08_JournalKeeps_1))) (by kernel_rfl) (Snd.loopC (fun (c : (Option Addr) × Sl) (x : Int) => match c, x with | (j7', out8'), i10' => ([(.pointer j7'), (.slice out8'.a out8'.n out8'.c), (.int .i64 i10')], [])) ?_ ?_ h)
  · intro K vs ls h
    unfold D_cellplanelaw08_JournalKeeps_8 at h
    split at h
    · exact ⟨_, _, rfl, h⟩
    · exact h.elim
  · rintro K ⟨j7', out8'⟩ i10' w h
    exact X_cellplanelaw08_JournalKeeps_8 h

def C_cellplanelaw08_JournalKeeps_7 (N : Nat) (Q : VP) (j7' : Option Addr) (out8' : Sl) (i10' : Int) (w : World) : Prop :=
  LoopC N w [] ((j7', out8') : (Option Addr) × Sl) (i10' : Int) (L_cellplanelaw08_JournalKeeps_8 N Q)

noncomputable def H_cellplanelaw08_JournalKeeps_7 (N : Nat) (Q : VP) : St → World → Prop := HG N 72 [.v 7 .o, .v 8 .l, .v 10 (.i .i64)] (C_cellplanelaw08_JournalKeeps_7 N Q)

theorem T_cellplanelaw08_JournalKeeps_7 (N : Nat) (Q : VP) (s : St) (w : World) (h : H_cellplanelaw08_JournalKeeps_7 N Q s w) : Snd (cy N [11]) k_cellplanelaw08_JournalKeeps_1 (z_cellplanelaw08_JournalKeeps_2 N Q) s w :=
  Snd.HG h fun j7' out8' i10' w h => (bk 0 (T_cellplanelaw08_JournalKeeps_8 N Q (mpr' (by kernel_rfl) h)))

def C_cellplanelaw08_JournalKeeps_5 (N : Nat) (Q : VP) (j7' : Option Addr) (out8' : Sl) (w : World) : Prop :=
  Reb N w [] fun w13 => C_cellplanelaw08_JournalKeeps_7 N Q j7' out8' 0 w13

noncomputable def H_cellplanelaw08_JournalKeeps_5 (N : Nat) (Q : VP) : St → World → Prop := HG N 72 [.v 7 .o, .v 8 .l] (C_cellplanelaw08_JournalKeeps_5 N Q)

theorem T_cellplanelaw08_JournalKeeps_5 (N : Nat) (Q : VP) (s : St) (w : World) (h : H_cellplanelaw08_JournalKeeps_5 N Q s w) : Snd (cy N [11]) (cR (cR (cR (cR (cR (bodyOf Try.f4)))))) (retD (cy N [11]) Try.f4 Q) s w :=
  Snd.HG h fun j7' out8' w h => (sq (H_cellplanelaw08_JournalKeeps_6 N Q) (sq (H_cellplanelaw08_JournalKeeps_7 N Q) (dsm h) (T_cellplanelaw08_JournalKeeps_7 N Q)) (T_cellplanelaw08_JournalKeeps_6 N Q))

def C_cellplanelaw08_JournalKeeps_4 (N : Nat) (Q : VP) (j7' : Option Addr) (out8' : Sl) (n9' : Int) (w : World) : Prop :=
  CallL PP N w [] n_cellplanelaw08_awake [] fun r15 w16 => ∃ b14 : Bool, r15 = (.bool b14) ∧ IfB (!b14) (Reb N w16 [] (Q (.bool false))) (CallL PP N w16 [] n_journal_Journal_Term [(.pointer j7')] fun r18 w19 => ∃ n17 : Int, r18 = (.int .i64 n17) ∧ IfB (!decide ((n17 : Int) = 1)) (Reb N w19 [] (Q (.bool false))) (CallL PP N w19 [] n_journal_Journal_Vote [(.pointer j7')] fun r21 w22 => ∃ n20 : Int, r21 = (.int .i64 n20) ∧ IfB (!decide ((n20 : Int) = 0)) (Reb N w22 [] (Q (.bool false))) (CallL PP N w22 [] n_journal_Journal_Len [(.pointer j7')] fun r24 w25 => ∃ n23 : Int, r24 = (.int .i64 n23) ∧ IfB (decide ((n23 : Int) < n9')) (Reb N w25 [] (Q (.bool false))) (CallL PP N w25 [] n_journal_Journal_Len [(.pointer j7')] fun r27 w28 => ∃ n26 : Int, r27 = (.int .i64 n26) ∧ IfB (decide ((((out8'.n : Nat) : Int) : Int) < n26)) (Reb N w28 [] (Q (.bool false))) (Reb N w28 [] fun w29 => C_cellplanelaw08_JournalKeeps_5 N Q j7' out8' w29)))))

noncomputable def H_cellplanelaw08_JournalKeeps_4 (N : Nat) (Q : VP) : St → World → Prop := HG N 72 [.v 7 .o, .v 8 .l, .v 9 (.i .i64)] (C_cellplanelaw08_JournalKeeps_4 N Q)

theorem T_cellplanelaw08_JournalKeeps_4 (N : Nat) (Q : VP) (s : St) (w : World) (h : H_cellplanelaw08_JournalKeeps_4 N Q s w) : Snd (cy N [11]) (cR (cR (cR (cR (bodyOf Try.f4))))) (retD (cy N [11]) Try.f4 Q) s w :=
  Snd.HG h fun j7' out8' n9' w h => (sq (H_cellplanelaw08_JournalKeeps_5 N Q) (dsm h) (T_cellplanelaw08_JournalKeeps_5 N Q))

def C_cellplanelaw08_JournalKeeps_3 (N : Nat) (Q : VP) (keep2' : Int) (j7' : Option Addr) (out8' : Sl) (n9' : Int) (w : World) : Prop :=
  CallL PP N w [] n_journal_Journal_Crash [(.pointer j7'), (.int .i64 keep2')] fun r30 w31 => r30 = (.tuple #[]) ∧ Reb N w31 [] fun w32 => C_cellplanelaw08_JournalKeeps_4 N Q j7' out8' n9' w32

noncomputable def H_cellplanelaw08_JournalKeeps_3 (N : Nat) (Q : VP) : St → World → Prop := HG N 72 [.v 2 (.i .i64), .v 7 .o, .v 8 .l, .v 9 (.i .i64)] (C_cellplanelaw08_JournalKeeps_3 N Q)

theorem T_cellplanelaw08_JournalKeeps_3 (N : Nat) (Q : VP) (s : St) (w : World) (h : H_cellplanelaw08_JournalKeeps_3 N Q s w) : Snd (cy N [11]) (cR (cR (cR (bodyOf Try.f4)))) (retD (cy N [11]) Try.f4 Q) s w :=
  Snd.HG h fun keep2' j7' out8' n9' w h => (sq (H_cellplanelaw08_JournalKeeps_4 N Q) (dsm h) (T_cellplanelaw08_JournalKeeps_4 N Q))

def C_cellplanelaw08_JournalKeeps_2 (N : Nat) (Q : VP) (keep2' : Int) (j7' : Option Addr) (out8' : Sl) (n9' : Int) (w : World) : Prop :=
  IfB j7'.isNone (Reb N w [] (Q (.bool false))) (Reb N w [] fun w33 => C_cellplanelaw08_JournalKeeps_3 N Q keep2' j7' out8' n9' w33)

noncomputable def H_cellplanelaw08_JournalKeeps_2 (N : Nat) (Q : VP) : St → World → Prop := HG N 72 [.v 2 (.i .i64), .v 7 .o, .v 8 .l, .v 9 (.i .i64)] (C_cellplanelaw08_JournalKeeps_2 N Q)

theorem T_cellplanelaw08_JournalKeeps_2 (N : Nat) (Q : VP) (s : St) (w : World) (h : H_cellplanelaw08_JournalKeeps_2 N Q s w) : Snd (cy N [11]) (cR (cR (bodyOf Try.f4))) (retD (cy N [11]) Try.f4 Q) s w :=
  Snd.HG h fun keep2' j7' out8' n9' w h => (sq (H_cellplanelaw08_JournalKeeps_3 N Q) (dsm h) (T_cellplanelaw08_JournalKeeps_3 N Q))

def C_cellplanelaw08_JournalKeeps_1 (N : Nat) (Q : VP) (l0' : Sl) (sync1' keep2' : Int) (w : World) : Prop :=
  CallL PP N w [] n_cellplanelaw08_grown [(.slice l0'.a l0'.n l0'.c), (.int .i64 sync1')] fun r37 w38 => ∃ p34 : Option Addr, ∃ l35 : Sl, ∃ n36 : Int, r37 = (.tuple #[(.pointer p34), (.slice l35.a l35.n l35.c), (.int .i64 n36)]) ∧ Reb N w38 [] fun w39 => C_cellplanelaw08_JournalKeeps_2 N Q keep2' p34 l35 n36 w39

noncomputable def H_cellplanelaw08_JournalKeeps_1 (N : Nat) (Q : VP) : St → World → Prop := HG N 72 [.v 0 .l, .v 1 (.i .i64), .v 2 (.i .i64)] (C_cellplanelaw08_JournalKeeps_1 N Q)

theorem T_cellplanelaw08_JournalKeeps_1 (N : Nat) (Q : VP) (s : St) (w : World) (h : H_cellplanelaw08_JournalKeeps_1 N Q s w) : Snd (cy N [11]) (cR (bodyOf Try.f4)) (retD (cy N [11]) Try.f4 Q) s w :=
  Snd.HG h fun l0' sync1' keep2' w h => (sq (H_cellplanelaw08_JournalKeeps_2 N Q) (dsm h) (T_cellplanelaw08_JournalKeeps_2 N Q))

def F_cellplanelaw08_JournalKeeps (N : Nat) (l0 : Sl) (sync1 : Int) (keep2 : Int) (Q : VP) (w : World) : Prop :=
  Reb N w [] fun w40 => C_cellplanelaw08_JournalKeeps_1 N Q l0 sync1 keep2 w40

theorem cellplanelaw08_JournalKeeps_snd (N : Nat) (l0 : Sl) (sync1 : Int) (keep2 : Int) (Q : VP) (w : World) (h : F_cellplanelaw08_JournalKeeps N l0 sync1 keep2 Q w) : Snd (cy N [11]) (bodyOf Try.f4) (retD (cy N [11]) Try.f4 Q) (entry 72 [(.slice l0.a l0.n l0.c), (.int .i64 sync1), (.int .i64 keep2)]) w :=
  (sq (H_cellplanelaw08_JournalKeeps_1 N Q) (dsm h) (T_cellplanelaw08_JournalKeeps_1 N Q))

theorem cellplanelaw08_JournalKeeps_calls (l0 : Sl) (sync1 : Int) (keep2 : Int) (Q : VP) (w : World) (h : F_cellplanelaw08_JournalKeeps w.heap.size l0 sync1 keep2 Q w) : Calls PP n_cellplanelaw08_JournalKeeps [(.slice l0.a l0.n l0.c), (.int .i64 sync1), (.int .i64 keep2)].toArray w fun e w' => ∃ v, e = .returned v ∧ Q v w' :=
  calls_of (C := cy w.heap.size [11]) (fn := Try.f4) (c := (bodyOf Try.f4)) (by kernel_rfl) (by kernel_rfl) (Nat.le_refl _) (cellplanelaw08_JournalKeeps_snd _ l0 sync1 keep2 Q w h)
end Go.Sh
