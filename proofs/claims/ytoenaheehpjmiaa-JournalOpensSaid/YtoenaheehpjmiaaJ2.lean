/- What these functions do, told by computation: a formula for each, and that its calls do what the formula says.
   Conditions: none. -/
import Derived.Test.YtoenaheehpjmiaaBase
namespace Go.Sh
open Go Go.Proofs
set_option linter.unusedVariables false
set_option maxRecDepth 100000

/-! ### journal_Journal_Crash -/
noncomputable def k_journal_Journal_Crash_0 : Code := (cR (cR (cR (cR (cR (bodyOf Try.f24))))))

def C_journal_Journal_Crash_5 (N : Nat) (Q : VP) (j0' : Option Addr) (used5' : Int) (w : World) : Prop :=
  NilL j0' fun q1 => ∃ p2 : Option Addr, At w q1 [(.pointer p2)] ∧ NotIn (q1 : Addr).block [] ∧ CallL PP N w [] n_disk_Disk_Truncate [(.pointer p2), (.int .i64 used5')] fun r4 w5 => ∃ n3 : Int, r4 = (.int .i64 n3) ∧ Reb N w5 [] (Q (.tuple #[]))

noncomputable def H_journal_Journal_Crash_5 (N : Nat) (Q : VP) : St → World → Prop := HG N 58 [.v 0 .o, .v 5 (.i .i64)] (C_journal_Journal_Crash_5 N Q)

theorem T_journal_Journal_Crash_5 (N : Nat) (Q : VP) (s : St) (w : World) (h : H_journal_Journal_Crash_5 N Q s w) : Snd (cy N []) k_journal_Journal_Crash_0 (retD (cy N []) Try.f24 Q) s w :=
  Snd.HG h fun _ _ _ h => dsm h

def D_journal_Journal_Crash_6 (K : ((Option Addr) × Sl) → (Int) → Prop) : List Value → List LB → Prop := fun vs ls => match vs, ls with
  | [.pointer j0', .slice b4'_a b4'_n b4'_c, .int .i64 used5'], [] => K (j0', ⟨b4'_a, b4'_n, b4'_c⟩) used5'
  | _, _ => False

noncomputable def z_journal_Journal_Crash_1 (N : Nat) (Q : VP) : Cont := (inBlockD 0 (thenD (H_journal_Journal_Crash_5 N Q) (retD (cy N []) Try.f24 Q)))

noncomputable def k_journal_Journal_Crash_2 : Code := (cL (cL (cR (cR (cR (cR (bodyOf Try.f24)))))))

def B_journal_Journal_Crash_6 (N : Nat) (K1 : ((Option Addr) × Sl) → (Int) → World → Prop) (Q : VP) (j0' : Option Addr) (b4' : Sl) (used5' : Int) (w : World) : Prop :=
  IfB (decide ((used5' : Int) < ((b4'.n : Nat) : Int))) ((0 : Int) ≤ used5' ∧ (used5' : Int) ≤ (b4'.n : Nat) ∧ CallL PP N w [] n_frame_Take [(.slice (slA b4'.a b4'.c (used5' : Int).toNat 1) (b4'.n - (used5' : Int).toNat) (b4'.c - (used5' : Int).toNat)), (.int .i64 8)] fun r9 w10 => ∃ l6 : Sl, ∃ n7 : Int, ∃ n8 : Int, r9 = (.tuple #[(.slice l6.a l6.n l6.c), (.int .i64 n7), (.int .i64 n8)]) ∧ IfB (!decide ((n8 : Int) = 0)) (Reb N w10 [] fun w11 => C_journal_Journal_Crash_5 N Q j0' used5' w11) (CallL PP N w10 [] n_journal_Journal_read [(.pointer j0'), (.slice l6.a l6.n l6.c)] fun r13 w14 => ∃ b12 : Bool, r13 = (.bool b12) ∧ IfB (!b12) (Reb N w14 [] fun w15 => C_journal_Journal_Crash_5 N Q j0' used5' w15) (Reb N w14 [] fun w16 => K1 (j0', b4') (IntKind.i64.wrap (used5' + n7)) w16))) (Reb N w [] fun w17 => C_journal_Journal_Crash_5 N Q j0' used5' w17)

theorem X_journal_Journal_Crash_6 {N : Nat} {K1 : ((Option Addr) × Sl) → (Int) → World → Prop} {Q : VP} {j0' : Option Addr} {b4' : Sl} {used5' : Int} {w : World} (h : B_journal_Journal_Crash_6 N K1 Q j0' b4' used5' w) : Snd (cy N []) (cL k_journal_Journal_Crash_2) (thenD (HeadK N 58 [.val 0, .val 4, .val 5] D_journal_Journal_Crash_6 K1) (z_journal_Journal_Crash_1 N Q)) (mkS 58 [.val 0, .val 4, .val 5] [(.pointer j0'), (.slice b4'.a b4'.n b4'.c), (.int .i64 used5')] []) w :=
  (dsm h)

def L_journal_Journal_Crash_6 (N : Nat) (Q : VP) (K1 : ((Option Addr) × Sl) → (Int) → World → Prop) (c : (Option Addr) × Sl) (x : Int) (w : World) : Prop := match c, x with
  | (j0', b4'), used5' => B_journal_Journal_Crash_6 N K1 Q j0' b4' used5' w

theorem T_journal_Journal_Crash_6 (N : Nat) (Q : VP) {s : St} {w : World} (h : HeadE N 58 [.val 0, .val 4, .val 5] D_journal_Journal_Crash_6 (L_journal_Journal_Crash_6 N Q) s w) : Snd (cy N []) k_journal_Journal_Crash_2 (z_journal_Journal_Crash_1 N Q) s w := by
  refine Snd.cast (c' := .loop (cL k_journal_Journal_Crash_2)) (by kernel_rfl) (Snd.loopC (fun (c : (Option Addr) × Sl) (x : Int) => match c, x with | (j0', b4'), used5' => ([(.pointer j0'), (.slice b4'.a b4'.n b4'.c), (.int .i64 used5')], [])) ?_ ?_ h)
  · intro K vs ls h
    unfold D_journal_Journal_Crash_6 at h
    split at h
    · exact ⟨_, _, rfl, h⟩
    · exact h.elim
  · rintro K ⟨j0', b4'⟩ used5' w h
    exact X_journal_Journal_Crash_6 h

def C_journal_Journal_Crash_4 (N : Nat) (Q : VP) (j0' : Option Addr) (b4' : Sl) (used5' : Int) (w : World) : Prop :=
  LoopC N w [] ((j0', b4') : (Option Addr) × Sl) (used5' : Int) (L_journal_Journal_Crash_6 N Q)

noncomputable def H_journal_Journal_Crash_4 (N : Nat) (Q : VP) : St → World → Prop := HG N 58 [.v 0 .o, .v 4 .l, .v 5 (.i .i64)] (C_journal_Journal_Crash_4 N Q)

theorem T_journal_Journal_Crash_4 (N : Nat) (Q : VP) (s : St) (w : World) (h : H_journal_Journal_Crash_4 N Q s w) : Snd (cy N []) (cR (cR (cR (cR (bodyOf Try.f24))))) (retD (cy N []) Try.f24 Q) s w :=
  Snd.HG h fun j0' b4' used5' w h => (sq (H_journal_Journal_Crash_5 N Q) (bk 0 (T_journal_Journal_Crash_6 N Q (mpr' (by kernel_rfl) h))) (T_journal_Journal_Crash_5 N Q))

def C_journal_Journal_Crash_3 (N : Nat) (Q : VP) (j0' : Option Addr) (b4' : Sl) (w : World) : Prop :=
  Reb N w [] fun w18 => C_journal_Journal_Crash_4 N Q j0' b4' 0 w18

noncomputable def H_journal_Journal_Crash_3 (N : Nat) (Q : VP) : St → World → Prop := HG N 58 [.v 0 .o, .v 4 .l] (C_journal_Journal_Crash_3 N Q)

theorem T_journal_Journal_Crash_3 (N : Nat) (Q : VP) (s : St) (w : World) (h : H_journal_Journal_Crash_3 N Q s w) : Snd (cy N []) (cR (cR (cR (bodyOf Try.f24)))) (retD (cy N []) Try.f24 Q) s w :=
  Snd.HG h fun j0' b4' w h => (sq (H_journal_Journal_Crash_4 N Q) (dsm h) (T_journal_Journal_Crash_4 N Q))

def C_journal_Journal_Crash_2 (N : Nat) (Q : VP) (j0' : Option Addr) (w : World) : Prop :=
  NilL j0' fun q19 => ∃ p20 : Option Addr, At w q19 [(.pointer p20)] ∧ NotIn (q19 : Addr).block [] ∧ CallL PP N w [] n_disk_Disk_Bytes [(.pointer p20)] fun r22 w23 => ∃ l21 : Sl, r22 = (.slice l21.a l21.n l21.c) ∧ Reb N w23 [] fun w24 => C_journal_Journal_Crash_3 N Q j0' l21 w24

noncomputable def H_journal_Journal_Crash_2 (N : Nat) (Q : VP) : St → World → Prop := HG N 58 [.v 0 .o] (C_journal_Journal_Crash_2 N Q)

theorem T_journal_Journal_Crash_2 (N : Nat) (Q : VP) (s : St) (w : World) (h : H_journal_Journal_Crash_2 N Q s w) : Snd (cy N []) (cR (cR (bodyOf Try.f24))) (retD (cy N []) Try.f24 Q) s w :=
  Snd.HG h fun j0' w h => (sq (H_journal_Journal_Crash_3 N Q) (dsm h) (T_journal_Journal_Crash_3 N Q))

def C_journal_Journal_Crash_1 (N : Nat) (Q : VP) (j0' : Option Addr) (w : World) : Prop :=
  NilL j0' fun q25 => StL w [] (addA q25 1) [(.int .i64 0)] fun w26 => NilL j0' fun q27 => StL w26 [] (addA q27 2) [(.int .i64 (-1))] fun w28 => NilL j0' fun q29 => StL w28 [] (addA q29 3) [(.slice none 0 0)] fun w30 => Reb N w30 [] fun w31 => C_journal_Journal_Crash_2 N Q j0' w31

noncomputable def H_journal_Journal_Crash_1 (N : Nat) (Q : VP) : St → World → Prop := HG N 58 [.v 0 .o] (C_journal_Journal_Crash_1 N Q)

theorem T_journal_Journal_Crash_1 (N : Nat) (Q : VP) (s : St) (w : World) (h : H_journal_Journal_Crash_1 N Q s w) : Snd (cy N []) (cR (bodyOf Try.f24)) (retD (cy N []) Try.f24 Q) s w :=
  Snd.HG h fun j0' w h => (sq (H_journal_Journal_Crash_2 N Q) (dsm h) (T_journal_Journal_Crash_2 N Q))

def F_journal_Journal_Crash (N : Nat) (j0 : Option Addr) (keep1 : Int) (Q : VP) (w : World) : Prop :=
  NilL j0 fun q32 => ∃ p33 : Option Addr, At w q32 [(.pointer p33)] ∧ NotIn (q32 : Addr).block [] ∧ CallL PP N w [] n_disk_Disk_Crash [(.pointer p33), (.int .i64 keep1)] fun r34 w35 => r34 = (.tuple #[]) ∧ Reb N w35 [] fun w36 => C_journal_Journal_Crash_1 N Q j0 w36

theorem journal_Journal_Crash_snd (N : Nat) (j0 : Option Addr) (keep1 : Int) (Q : VP) (w : World) (h : F_journal_Journal_Crash N j0 keep1 Q w) : Snd (cy N []) (bodyOf Try.f24) (retD (cy N []) Try.f24 Q) (entry 58 [(.pointer j0), (.int .i64 keep1)]) w :=
  (sq (H_journal_Journal_Crash_1 N Q) (dsm h) (T_journal_Journal_Crash_1 N Q))

theorem journal_Journal_Crash_calls (j0 : Option Addr) (keep1 : Int) (Q : VP) (w : World) (h : F_journal_Journal_Crash w.heap.size j0 keep1 Q w) : Calls PP n_journal_Journal_Crash [(.pointer j0), (.int .i64 keep1)].toArray w fun e w' => ∃ v, e = .returned v ∧ Q v w' :=
  calls_of (C := cy w.heap.size []) (fn := Try.f24) (c := (bodyOf Try.f24)) (by kernel_rfl) (by kernel_rfl) (Nat.le_refl _) (journal_Journal_Crash_snd _ j0 keep1 Q w h)

/-! ### journal_Journal_Copy -/
def F_journal_Journal_Copy (N : Nat) (j0 : Option Addr) (Q : VP) (w : World) : Prop :=
  NilL j0 fun q1 => ∃ p2 : Option Addr, At w q1 [(.pointer p2)] ∧ NotIn (q1 : Addr).block [] ∧ NilL j0 fun q3 => ∃ n4 : Int, At w (addA q3 1) [(.int .i64 n4)] ∧ NotIn ((addA q3 1) : Addr).block [] ∧ NilL j0 fun q5 => ∃ n6 : Int, At w (addA q5 2) [(.int .i64 n6)] ∧ NotIn ((addA q5 2) : Addr).block [] ∧ NilL j0 fun q7 => ∃ l8 : Sl, At w (addA q7 3) [(.slice l8.a l8.n l8.c)] ∧ NotIn ((addA q7 3) : Addr).block [] ∧ CallL PP N w [] n_disk_Disk_Copy [(.pointer p2)] fun r10 w11 => ∃ p9 : Option Addr, r10 = (.pointer p9) ∧ At w11 (addA q7 3) [(.slice l8.a l8.n l8.c)] ∧ At w11 (addA q5 2) [(.int .i64 n6)] ∧ At w11 (addA q3 1) [(.int .i64 n4)] ∧ CallL PP N w11 [] n_slices_Clone_api_Logged_api_Logged [(.slice l8.a l8.n l8.c)] fun r13 w14 => ∃ l12 : Sl, r13 = (.slice l12.a l12.n l12.c) ∧ At w14 (addA q5 2) [(.int .i64 n6)] ∧ At w14 (addA q3 1) [(.int .i64 n4)] ∧ NewL N w14 [] (⟨p9, n4, n6, l12⟩ : G_journal_Journal).cells t_journal_Journal fun b15 w16 => Reb N w16 [] (Q (.pointer (some ⟨b15, 0, none⟩)))

theorem journal_Journal_Copy_snd (N : Nat) (j0 : Option Addr) (Q : VP) (w : World) (h : F_journal_Journal_Copy N j0 Q w) : Snd (cy N []) (bodyOf Try.f49) (retD (cy N []) Try.f49 Q) (entry 23 [(.pointer j0)]) w :=
  (dsm h)

theorem journal_Journal_Copy_calls (j0 : Option Addr) (Q : VP) (w : World) (h : F_journal_Journal_Copy w.heap.size j0 Q w) : Calls PP n_journal_Journal_Copy [(.pointer j0)].toArray w fun e w' => ∃ v, e = .returned v ∧ Q v w' :=
  calls_of (C := cy w.heap.size []) (fn := Try.f49) (c := (bodyOf Try.f49)) (by kernel_rfl) (by kernel_rfl) (Nat.le_refl _) (journal_Journal_Copy_snd _ j0 Q w h)

/-! ### slices_Clone_api_Logged_api_Logged -/
def F_slices_Clone_api_Logged_api_Logged (N : Nat) (s0 : Sl) (Q : VP) (w : World) : Prop :=
  IfB s0.a.isNone (Reb N w [] (Q (.slice none 0 0))) (NewL N w [] ([]) t_api_Logged fun b1 w2 => RunL PP N w2 [] (Builtin.append_ #[t_sl_api_Logged, t_sl_api_Logged] t_sl_api_Logged #[(.slice (some ⟨b1, 0, none⟩) 0 0), (.slice s0.a s0.n s0.c)]) fun r4 w5 => ∃ l3 : Sl, r4 = (.slice l3.a l3.n l3.c) ∧ Reb N w5 [] (Q (.slice l3.a l3.n l3.c)))

theorem slices_Clone_api_Logged_api_Logged_snd (N : Nat) (s0 : Sl) (Q : VP) (w : World) (h : F_slices_Clone_api_Logged_api_Logged N s0 Q w) : Snd (cy N []) (bodyOf Try.f100) (retD (cy N []) Try.f100 Q) (entry 8 [(.slice s0.a s0.n s0.c)]) w :=
  (dsm h)

theorem slices_Clone_api_Logged_api_Logged_calls (s0 : Sl) (Q : VP) (w : World) (h : F_slices_Clone_api_Logged_api_Logged w.heap.size s0 Q w) : Calls PP n_slices_Clone_api_Logged_api_Logged [(.slice s0.a s0.n s0.c)].toArray w fun e w' => ∃ v, e = .returned v ∧ Q v w' :=
  calls_of (C := cy w.heap.size []) (fn := Try.f100) (c := (bodyOf Try.f100)) (by kernel_rfl) (by kernel_rfl) (Nat.le_refl _) (slices_Clone_api_Logged_api_Logged_snd _ s0 Q w h)

/-! ### cellplaneref08_New -/
def F_cellplaneref08_New (N : Nat)  (Q : VP) (w : World) : Prop :=
  CallL PP N w [] n_cellplaneref07_New [] fun r2 w3 => ∃ p1 : Option Addr, r2 = (.pointer p1) ∧ NewL N w3 [] (⟨p1, 0, (-1), (⟨none, 0, 0⟩ : Sl)⟩ : G_cellplaneref08_Journal).cells t_cellplaneref08_Journal fun b4 w5 => Reb N w5 [] (Q (.pointer (some ⟨b4, 0, none⟩)))

theorem cellplaneref08_New_snd (N : Nat)  (Q : VP) (w : World) (h : F_cellplaneref08_New N  Q w) : Snd (cy N []) (bodyOf Try.f37) (retD (cy N []) Try.f37 Q) (entry 4 []) w :=
  (dsm h)

theorem cellplaneref08_New_calls  (Q : VP) (w : World) (h : F_cellplaneref08_New w.heap.size  Q w) : Calls PP n_cellplaneref08_New [].toArray w fun e w' => ∃ v, e = .returned v ∧ Q v w' :=
  calls_of (C := cy w.heap.size []) (fn := Try.f37) (c := (bodyOf Try.f37)) (by kernel_rfl) (by kernel_rfl) (Nat.le_refl _) (cellplaneref08_New_snd _  Q w h)

/-! ### cellplaneref08_Journal_At -/
def F_cellplaneref08_Journal_At (N : Nat) (j0 : Option Addr) (i1 : Int) (Q : VP) (w : World) : Prop :=
  ∀ b1 : Nat, w.heap.size ≤ b1 → IfB (decide ((i1 : Int) < 0)) (Reb N w [⟨b1, (⟨0, (⟨0, 0, 0, 0, 0, 0, 0, 0, 0⟩ : G_api_Entry)⟩ : G_api_Logged).cells, t_api_Logged⟩] (Q (.tuple #[(.agg (List.toArray (⟨0, (⟨0, 0, 0, 0, 0, 0, 0, 0, 0⟩ : G_api_Entry)⟩ : G_api_Logged).cells)), (.bool false)]))) (NilL j0 fun q2 => ∃ l3 : Sl, At w (addA q2 3) [(.slice l3.a l3.n l3.c)] ∧ NotIn ((addA q2 3) : Addr).block [⟨b1, (⟨0, (⟨0, 0, 0, 0, 0, 0, 0, 0, 0⟩ : G_api_Entry)⟩ : G_api_Logged).cells, t_api_Logged⟩] ∧ IfB (decide ((((l3.n : Nat) : Int) : Int) ≤ i1)) (Reb N w [⟨b1, (⟨0, (⟨0, 0, 0, 0, 0, 0, 0, 0, 0⟩ : G_api_Entry)⟩ : G_api_Logged).cells, t_api_Logged⟩] (Q (.tuple #[(.agg (List.toArray (⟨0, (⟨0, 0, 0, 0, 0, 0, 0, 0, 0⟩ : G_api_Entry)⟩ : G_api_Logged).cells)), (.bool false)]))) (NilL j0 fun q4 => ∃ l5 : Sl, At w (addA q4 3) [(.slice l5.a l5.n l5.c)] ∧ NotIn ((addA q4 3) : Addr).block [⟨b1, (⟨0, (⟨0, 0, 0, 0, 0, 0, 0, 0, 0⟩ : G_api_Entry)⟩ : G_api_Logged).cells, t_api_Logged⟩] ∧ IdxL l5.a l5.n i1 fun q6 => ∃ x7 : G_api_Logged, At w (q6.add ((i1 : Int).toNat * 10)) x7.cells ∧ NotIn ((q6.add ((i1 : Int).toNat * 10)) : Addr).block [⟨b1, (⟨0, (⟨0, 0, 0, 0, 0, 0, 0, 0, 0⟩ : G_api_Entry)⟩ : G_api_Logged).cells, t_api_Logged⟩] ∧ Reb N w [⟨b1, x7.cells, t_api_Logged⟩] (Q (.tuple #[(.agg (List.toArray x7.cells)), (.bool true)]))))

theorem cellplaneref08_Journal_At_snd (N : Nat) (j0 : Option Addr) (i1 : Int) (Q : VP) (w : World) (h : F_cellplaneref08_Journal_At N j0 i1 Q w) : Snd (cy N [4]) (bodyOf Try.f73) (retD (cy N [4]) Try.f73 Q) (entry 25 [(.pointer j0), (.int .i64 i1)]) w :=
  (dsm h)

theorem cellplaneref08_Journal_At_calls (j0 : Option Addr) (i1 : Int) (Q : VP) (w : World) (h : F_cellplaneref08_Journal_At w.heap.size j0 i1 Q w) : Calls PP n_cellplaneref08_Journal_At [(.pointer j0), (.int .i64 i1)].toArray w fun e w' => ∃ v, e = .returned v ∧ Q v w' :=
  calls_of (C := cy w.heap.size [4]) (fn := Try.f73) (c := (bodyOf Try.f73)) (by kernel_rfl) (by kernel_rfl) (Nat.le_refl _) (cellplaneref08_Journal_At_snd _ j0 i1 Q w h)

/-! ### cellplaneref08_Journal_TermAt -/
def F_cellplaneref08_Journal_TermAt (N : Nat) (j0 : Option Addr) (i1 : Int) (Q : VP) (w : World) : Prop :=
  CallL PP N w [] n_cellplaneref08_Journal_At [(.pointer j0), (.int .i64 i1)] fun r3 w4 => ∃ x1 : G_api_Logged, ∃ b2 : Bool, r3 = (.tuple #[(.agg (List.toArray x1.cells)), (.bool b2)]) ∧ ∀ b5 : Nat, w4.heap.size ≤ b5 → Reb N w4 [⟨b5, x1.cells, t_api_Logged⟩] (Q (.int .i64 x1.Term))

theorem cellplaneref08_Journal_TermAt_snd (N : Nat) (j0 : Option Addr) (i1 : Int) (Q : VP) (w : World) (h : F_cellplaneref08_Journal_TermAt N j0 i1 Q w) : Snd (cy N [5]) (bodyOf Try.f164) (retD (cy N [5]) Try.f164 Q) (entry 15 [(.pointer j0), (.int .i64 i1)]) w :=
  (dsm h)

theorem cellplaneref08_Journal_TermAt_calls (j0 : Option Addr) (i1 : Int) (Q : VP) (w : World) (h : F_cellplaneref08_Journal_TermAt w.heap.size j0 i1 Q w) : Calls PP n_cellplaneref08_Journal_TermAt [(.pointer j0), (.int .i64 i1)].toArray w fun e w' => ∃ v, e = .returned v ∧ Q v w' :=
  calls_of (C := cy w.heap.size [5]) (fn := Try.f164) (c := (bodyOf Try.f164)) (by kernel_rfl) (by kernel_rfl) (Nat.le_refl _) (cellplaneref08_Journal_TermAt_snd _ j0 i1 Q w h)

/-! ### cellplaneref08_Journal_Last -/
def F_cellplaneref08_Journal_Last (N : Nat) (j0 : Option Addr) (Q : VP) (w : World) : Prop :=
  NilL j0 fun q1 => ∃ l2 : Sl, At w (addA q1 3) [(.slice l2.a l2.n l2.c)] ∧ NotIn ((addA q1 3) : Addr).block [] ∧ CallL PP N w [] n_cellplaneref08_Journal_TermAt [(.pointer j0), (.int .i64 (IntKind.i64.wrap (((l2.n : Nat) : Int) - 1)))] fun r4 w5 => ∃ n3 : Int, r4 = (.int .i64 n3) ∧ Reb N w5 [] (Q (.int .i64 n3))

theorem cellplaneref08_Journal_Last_snd (N : Nat) (j0 : Option Addr) (Q : VP) (w : World) (h : F_cellplaneref08_Journal_Last N j0 Q w) : Snd (cy N []) (bodyOf Try.f146) (retD (cy N []) Try.f146 Q) (entry 11 [(.pointer j0)]) w :=
  (dsm h)

theorem cellplaneref08_Journal_Last_calls (j0 : Option Addr) (Q : VP) (w : World) (h : F_cellplaneref08_Journal_Last w.heap.size j0 Q w) : Calls PP n_cellplaneref08_Journal_Last [(.pointer j0)].toArray w fun e w' => ∃ v, e = .returned v ∧ Q v w' :=
  calls_of (C := cy w.heap.size []) (fn := Try.f146) (c := (bodyOf Try.f146)) (by kernel_rfl) (by kernel_rfl) (Nat.le_refl _) (cellplaneref08_Journal_Last_snd _ j0 Q w h)

/-! ### cellplaneref08_Journal_put -/
def F_cellplaneref08_Journal_put (N : Nat) (j0 : Option Addr) (p1 : Sl) (Q : VP) (w : World) : Prop :=
  NilL j0 fun q1 => ∃ p2 : Option Addr, At w q1 [(.pointer p2)] ∧ NotIn (q1 : Addr).block [] ∧ CallL PP N w [] n_cellplaneref03_Put [(.slice none 0 0), (.int .i64 8), (.slice p1.a p1.n p1.c)] fun r4 w5 => ∃ l3 : Sl, r4 = (.slice l3.a l3.n l3.c) ∧ At w5 q1 [(.pointer p2)] ∧ CallL PP N w5 [] n_cellplaneref07_Disk_Append [(.pointer p2), (.slice l3.a l3.n l3.c)] fun r6 w7 => r6 = (.tuple #[]) ∧ Reb N w7 [] (Q (.tuple #[]))

theorem cellplaneref08_Journal_put_snd (N : Nat) (j0 : Option Addr) (p1 : Sl) (Q : VP) (w : World) (h : F_cellplaneref08_Journal_put N j0 p1 Q w) : Snd (cy N []) (bodyOf Try.f90) (retD (cy N []) Try.f90 Q) (entry 11 [(.pointer j0), (.slice p1.a p1.n p1.c)]) w :=
  (dsm h)

theorem cellplaneref08_Journal_put_calls (j0 : Option Addr) (p1 : Sl) (Q : VP) (w : World) (h : F_cellplaneref08_Journal_put w.heap.size j0 p1 Q w) : Calls PP n_cellplaneref08_Journal_put [(.pointer j0), (.slice p1.a p1.n p1.c)].toArray w fun e w' => ∃ v, e = .returned v ∧ Q v w' :=
  calls_of (C := cy w.heap.size []) (fn := Try.f90) (c := (bodyOf Try.f90)) (by kernel_rfl) (by kernel_rfl) (Nat.le_refl _) (cellplaneref08_Journal_put_snd _ j0 p1 Q w h)

/-! ### cellplaneref08_Journal_setTerm -/
def C_cellplaneref08_Journal_setTerm_2 (N : Nat) (Q : VP) (j0' : Option Addr) (term1' vote2' : Int) (w : World) : Prop :=
  NilL j0' fun q1 => StL w [] (addA q1 1) [(.int .i64 term1')] fun w2 => NilL j0' fun q3 => StL w2 [] (addA q3 2) [(.int .i64 vote2')] fun w4 => Reb N w4 [] (Q (.int .i64 0))

noncomputable def H_cellplaneref08_Journal_setTerm_2 (N : Nat) (Q : VP) : St → World → Prop := HG N 60 [.v 0 .o, .v 1 (.i .i64), .v 2 (.i .i64)] (C_cellplaneref08_Journal_setTerm_2 N Q)

theorem T_cellplaneref08_Journal_setTerm_2 (N : Nat) (Q : VP) (s : St) (w : World) (h : H_cellplaneref08_Journal_setTerm_2 N Q s w) : Snd (cy N []) (cR (cR (bodyOf Try.f89))) (retD (cy N []) Try.f89 Q) s w :=
  Snd.HG h fun _ _ _ _ h => dsm h

noncomputable def z_cellplaneref08_Journal_setTerm_0 (N : Nat) (Q : VP) : Cont := (inBlockD 0 (thenD (H_cellplaneref08_Journal_setTerm_2 N Q) (retD (cy N []) Try.f89 Q)))

def C_cellplaneref08_Journal_setTerm_3 (N : Nat) (Q : VP) (j0' : Option Addr) (term1' vote2' : Int) (v7' : Bool) (w : World) : Prop :=
  IfB v7' (Reb N w [] (Q (.int .i64 1))) (NilL j0' fun q5 => ∃ n6 : Int, At w (addA q5 1) [(.int .i64 n6)] ∧ NotIn ((addA q5 1) : Addr).block [] ∧ IfB (decide ((term1' : Int) < n6)) (Reb N w [] (Q (.int .i64 20))) (NilL j0' fun q7 => ∃ n8 : Int, At w (addA q7 1) [(.int .i64 n8)] ∧ NotIn ((addA q7 1) : Addr).block [] ∧ IfB (decide ((term1' : Int) = n8)) (NilL j0' fun q9 => ∃ n10 : Int, At w (addA q9 2) [(.int .i64 n10)] ∧ NotIn ((addA q9 2) : Addr).block [] ∧ IfB (!decide ((n10 : Int) = (-1))) (NilL j0' fun q11 => ∃ n12 : Int, At w (addA q11 2) [(.int .i64 n12)] ∧ NotIn ((addA q11 2) : Addr).block [] ∧ IfB (!decide ((n12 : Int) = vote2')) (Reb N w [] (Q (.int .i64 20))) (Reb N w [] fun w13 => C_cellplaneref08_Journal_setTerm_2 N Q j0' term1' vote2' w13)) (Reb N w [] fun w14 => C_cellplaneref08_Journal_setTerm_2 N Q j0' term1' vote2' w14)) (Reb N w [] fun w15 => C_cellplaneref08_Journal_setTerm_2 N Q j0' term1' vote2' w15)))

noncomputable def H_cellplaneref08_Journal_setTerm_3 (N : Nat) (Q : VP) : St → World → Prop := HG N 60 [.v 0 .o, .v 1 (.i .i64), .v 2 (.i .i64), .v 7 .b] (C_cellplaneref08_Journal_setTerm_3 N Q)

theorem T_cellplaneref08_Journal_setTerm_3 (N : Nat) (Q : VP) (s : St) (w : World) (h : H_cellplaneref08_Journal_setTerm_3 N Q s w) : Snd (cy N []) (cR (cL (cL (cR (bodyOf Try.f89))))) (z_cellplaneref08_Journal_setTerm_0 N Q) s w :=
  Snd.HG h fun _ _ _ _ _ h => dsm h

def C_cellplaneref08_Journal_setTerm_1 (N : Nat) (Q : VP) (j0' : Option Addr) (term1' vote2' : Int) (w : World) : Prop :=
  IfB (decide ((term1' : Int) < 0)) (Reb N w [] fun w16 => C_cellplaneref08_Journal_setTerm_3 N Q j0' term1' vote2' true w16) (IfB (decide ((1073741824 : Int) < term1')) (Reb N w [] fun w17 => C_cellplaneref08_Journal_setTerm_3 N Q j0' term1' vote2' true w17) (IfB (decide ((vote2' : Int) < (-1))) (Reb N w [] fun w18 => C_cellplaneref08_Journal_setTerm_3 N Q j0' term1' vote2' true w18) (Reb N w [] fun w19 => C_cellplaneref08_Journal_setTerm_3 N Q j0' term1' vote2' (decide ((5 : Int) ≤ vote2')) w19)))

noncomputable def H_cellplaneref08_Journal_setTerm_1 (N : Nat) (Q : VP) : St → World → Prop := HG N 60 [.v 0 .o, .v 1 (.i .i64), .v 2 (.i .i64)] (C_cellplaneref08_Journal_setTerm_1 N Q)

theorem T_cellplaneref08_Journal_setTerm_1 (N : Nat) (Q : VP) (s : St) (w : World) (h : H_cellplaneref08_Journal_setTerm_1 N Q s w) : Snd (cy N []) (cR (bodyOf Try.f89)) (retD (cy N []) Try.f89 Q) s w :=
  Snd.HG h fun j0' term1' vote2' w h => (sq (H_cellplaneref08_Journal_setTerm_2 N Q) (bk 0 (sq (H_cellplaneref08_Journal_setTerm_3 N Q) (dsm h) (T_cellplaneref08_Journal_setTerm_3 N Q))) (T_cellplaneref08_Journal_setTerm_2 N Q))

def F_cellplaneref08_Journal_setTerm (N : Nat) (j0 : Option Addr) (term1 : Int) (vote2 : Int) (Q : VP) (w : World) : Prop :=
  Reb N w [] fun w20 => C_cellplaneref08_Journal_setTerm_1 N Q j0 term1 vote2 w20

theorem cellplaneref08_Journal_setTerm_snd (N : Nat) (j0 : Option Addr) (term1 : Int) (vote2 : Int) (Q : VP) (w : World) (h : F_cellplaneref08_Journal_setTerm N j0 term1 vote2 Q w) : Snd (cy N []) (bodyOf Try.f89) (retD (cy N []) Try.f89 Q) (entry 60 [(.pointer j0), (.int .i64 term1), (.int .i64 vote2)]) w :=
  (sq (H_cellplaneref08_Journal_setTerm_1 N Q) (dsm h) (T_cellplaneref08_Journal_setTerm_1 N Q))

theorem cellplaneref08_Journal_setTerm_calls (j0 : Option Addr) (term1 : Int) (vote2 : Int) (Q : VP) (w : World) (h : F_cellplaneref08_Journal_setTerm w.heap.size j0 term1 vote2 Q w) : Calls PP n_cellplaneref08_Journal_setTerm [(.pointer j0), (.int .i64 term1), (.int .i64 vote2)].toArray w fun e w' => ∃ v, e = .returned v ∧ Q v w' :=
  calls_of (C := cy w.heap.size []) (fn := Try.f89) (c := (bodyOf Try.f89)) (by kernel_rfl) (by kernel_rfl) (Nat.le_refl _) (cellplaneref08_Journal_setTerm_snd _ j0 term1 vote2 Q w h)

/-! ### cellplaneref08_Journal_add -/
def C_cellplaneref08_Journal_add_2 (N : Nat) (Q : VP) (j0' : Option Addr) (term1' : Int) (B5' : Nat) (e5c' : G_api_Entry) (T5' : Nat) (w : World) : Prop :=
  NilL j0' fun q1 => ∃ l2 : Sl, At w (addA q1 3) [(.slice l2.a l2.n l2.c)] ∧ NotIn ((addA q1 3) : Addr).block [⟨B5', e5c'.cells, T5'⟩] ∧ (NewL N w [⟨B5', e5c'.cells, T5'⟩] ([]) t_api_Logged fun b3 w4 => (RunL PP N w4 [⟨B5', e5c'.cells, T5'⟩] (Builtin.append_ #[t_sl_api_Logged, t_sl_api_Logged] t_sl_api_Logged #[(.slice (some ⟨b3, 0, none⟩) 0 0), (.slice l2.a l2.n l2.c)]) fun r6 w7 => ∃ l5 : Sl, r6 = (.slice l5.a l5.n l5.c) ∧ NewL N w7 [⟨B5', e5c'.cells, T5'⟩] (⟨term1', e5c'⟩ : G_api_Logged).cells t_api_Logged fun b8 w9 => RunL PP N w9 [⟨B5', e5c'.cells, T5'⟩] (Builtin.append_ #[t_sl_api_Logged, t_sl_api_Logged] t_sl_api_Logged #[(.slice l5.a l5.n l5.c), (.slice (some ⟨b8, 0, none⟩) 1 1)]) fun r11 w12 => ∃ l10 : Sl, r11 = (.slice l10.a l10.n l10.c) ∧ NilL j0' fun q13 => StL w12 [⟨B5', e5c'.cells, T5'⟩] (addA q13 3) [(.slice l10.a l10.n l10.c)] fun w14 => Reb N w14 [⟨B5', e5c'.cells, T5'⟩] (Q (.int .i64 0))) ∧ (NewL N w4 [⟨B5', e5c'.cells, T5'⟩] (⟨term1', e5c'⟩ : G_api_Logged).cells t_api_Logged fun b15 w16 => RunL PP N w16 [⟨B5', e5c'.cells, T5'⟩] (Builtin.append_ #[t_sl_api_Logged, t_sl_api_Logged] t_sl_api_Logged #[(.slice (some ⟨b3, 0, none⟩) 0 0), (.slice l2.a l2.n l2.c)]) fun r18 w19 => ∃ l17 : Sl, r18 = (.slice l17.a l17.n l17.c) ∧ RunL PP N w19 [⟨B5', e5c'.cells, T5'⟩] (Builtin.append_ #[t_sl_api_Logged, t_sl_api_Logged] t_sl_api_Logged #[(.slice l17.a l17.n l17.c), (.slice (some ⟨b15, 0, none⟩) 1 1)]) fun r21 w22 => ∃ l20 : Sl, r21 = (.slice l20.a l20.n l20.c) ∧ NilL j0' fun q23 => StL w22 [⟨B5', e5c'.cells, T5'⟩] (addA q23 3) [(.slice l20.a l20.n l20.c)] fun w24 => Reb N w24 [⟨B5', e5c'.cells, T5'⟩] (Q (.int .i64 0)))) ∧ (NewL N w [⟨B5', e5c'.cells, T5'⟩] (⟨term1', e5c'⟩ : G_api_Logged).cells t_api_Logged fun b25 w26 => NewL N w26 [⟨B5', e5c'.cells, T5'⟩] ([]) t_api_Logged fun b27 w28 => RunL PP N w28 [⟨B5', e5c'.cells, T5'⟩] (Builtin.append_ #[t_sl_api_Logged, t_sl_api_Logged] t_sl_api_Logged #[(.slice (some ⟨b27, 0, none⟩) 0 0), (.slice l2.a l2.n l2.c)]) fun r30 w31 => ∃ l29 : Sl, r30 = (.slice l29.a l29.n l29.c) ∧ RunL PP N w31 [⟨B5', e5c'.cells, T5'⟩] (Builtin.append_ #[t_sl_api_Logged, t_sl_api_Logged] t_sl_api_Logged #[(.slice l29.a l29.n l29.c), (.slice (some ⟨b25, 0, none⟩) 1 1)]) fun r33 w34 => ∃ l32 : Sl, r33 = (.slice l32.a l32.n l32.c) ∧ NilL j0' fun q35 => StL w34 [⟨B5', e5c'.cells, T5'⟩] (addA q35 3) [(.slice l32.a l32.n l32.c)] fun w36 => Reb N w36 [⟨B5', e5c'.cells, T5'⟩] (Q (.int .i64 0)))

noncomputable def H_cellplaneref08_Journal_add_2 (N : Nat) (Q : VP) : St → World → Prop := HG N 53 [.v 0 .o, .v 1 (.i .i64), .c 5 (.g R_api_Entry)] (C_cellplaneref08_Journal_add_2 N Q)

theorem T_cellplaneref08_Journal_add_2 (N : Nat) (Q : VP) (s : St) (w : World) (h : H_cellplaneref08_Journal_add_2 N Q s w) : Snd (cy N [5]) (cR (cR (bodyOf Try.f92))) (retD (cy N [5]) Try.f92 Q) s w :=
  Snd.HG h fun _ _ _ _ _ _ h => dsm h

noncomputable def z_cellplaneref08_Journal_add_0 (N : Nat) (Q : VP) : Cont := (inBlockD 0 (thenD (H_cellplaneref08_Journal_add_2 N Q) (retD (cy N [5]) Try.f92 Q)))

noncomputable def k_cellplaneref08_Journal_add_1 : Code := (cR (cR (cR (cL (cL (cR (bodyOf Try.f92)))))))

def C_cellplaneref08_Journal_add_4 (N : Nat) (Q : VP) (j0' : Option Addr) (term1' : Int) (B5' : Nat) (e5c' : G_api_Entry) (T5' : Nat) (v19' : Bool) (w : World) : Prop :=
  IfB v19' (Reb N w [⟨B5', e5c'.cells, T5'⟩] (Q (.int .i64 20))) (NilL j0' fun q37 => ∃ l38 : Sl, At w (addA q37 3) [(.slice l38.a l38.n l38.c)] ∧ NotIn ((addA q37 3) : Addr).block [⟨B5', e5c'.cells, T5'⟩] ∧ IfB (decide ((4096 : Int) ≤ ((l38.n : Nat) : Int))) (Reb N w [⟨B5', e5c'.cells, T5'⟩] (Q (.int .i64 2))) (Reb N w [⟨B5', e5c'.cells, T5'⟩] fun w39 => C_cellplaneref08_Journal_add_2 N Q j0' term1' B5' e5c' T5' w39))

noncomputable def H_cellplaneref08_Journal_add_4 (N : Nat) (Q : VP) : St → World → Prop := HG N 53 [.v 0 .o, .v 1 (.i .i64), .c 5 (.g R_api_Entry), .v 19 .b] (C_cellplaneref08_Journal_add_4 N Q)

theorem T_cellplaneref08_Journal_add_4 (N : Nat) (Q : VP) (s : St) (w : World) (h : H_cellplaneref08_Journal_add_4 N Q s w) : Snd (cy N [5]) k_cellplaneref08_Journal_add_1 (z_cellplaneref08_Journal_add_0 N Q) s w :=
  Snd.HG h fun _ _ _ _ _ _ _ h => dsm h

def C_cellplaneref08_Journal_add_3 (N : Nat) (Q : VP) (j0' : Option Addr) (term1' : Int) (B5' : Nat) (e5c' : G_api_Entry) (T5' : Nat) (v7' : Bool) (w : World) : Prop :=
  IfB v7' (Reb N w [⟨B5', e5c'.cells, T5'⟩] (Q (.int .i64 1))) (NilL j0' fun q40 => ∃ n41 : Int, At w (addA q40 1) [(.int .i64 n41)] ∧ NotIn ((addA q40 1) : Addr).block [⟨B5', e5c'.cells, T5'⟩] ∧ IfB (decide ((n41 : Int) < term1')) (Reb N w [⟨B5', e5c'.cells, T5'⟩] fun w42 => C_cellplaneref08_Journal_add_4 N Q j0' term1' B5' e5c' T5' true w42) (CallL PP N w [⟨B5', e5c'.cells, T5'⟩] n_cellplaneref08_Journal_Last [(.pointer j0')] fun r44 w45 => ∃ n43 : Int, r44 = (.int .i64 n43) ∧ Reb N w45 [⟨B5', e5c'.cells, T5'⟩] fun w46 => C_cellplaneref08_Journal_add_4 N Q j0' term1' B5' e5c' T5' (decide ((term1' : Int) < n43)) w46))

noncomputable def H_cellplaneref08_Journal_add_3 (N : Nat) (Q : VP) : St → World → Prop := HG N 53 [.v 0 .o, .v 1 (.i .i64), .c 5 (.g R_api_Entry), .v 7 .b] (C_cellplaneref08_Journal_add_3 N Q)

theorem T_cellplaneref08_Journal_add_3 (N : Nat) (Q : VP) (s : St) (w : World) (h : H_cellplaneref08_Journal_add_3 N Q s w) : Snd (cy N [5]) (cR (cL (cL (cR (bodyOf Try.f92))))) (z_cellplaneref08_Journal_add_0 N Q) s w :=
  Snd.HG h fun j0' term1' B5' e5c' T5' v7' w h => (Snd.cast (c' := .cond (.tmp 7) (cL (cR (cL (cL (cR (bodyOf Try.f92)))))) (cR (cR (cL (cL (cR (bodyOf Try.f92))))))) (by kernel_rfl) (Snd.cond (t := v7') (by kernel_rfl) (by kernel_rfl) (fun ht => (fun h => (dsm h)) (ifb_t h ht)) (fun ht => (fun h => (sq (H_cellplaneref08_Journal_add_4 N Q) (dsm h) (T_cellplaneref08_Journal_add_4 N Q))) (ifb_f h ht))))

def C_cellplaneref08_Journal_add_1 (N : Nat) (Q : VP) (j0' : Option Addr) (term1' : Int) (B5' : Nat) (e5c' : G_api_Entry) (T5' : Nat) (w : World) : Prop :=
  IfB (decide ((term1' : Int) < 1)) (Reb N w [⟨B5', e5c'.cells, T5'⟩] fun w47 => C_cellplaneref08_Journal_add_3 N Q j0' term1' B5' e5c' T5' true w47) (IfB (decide ((1073741824 : Int) < term1')) (Reb N w [⟨B5', e5c'.cells, T5'⟩] fun w48 => C_cellplaneref08_Journal_add_3 N Q j0' term1' B5' e5c' T5' true w48) (CallL PP N w [⟨B5', e5c'.cells, T5'⟩] n_cellplaneref06_Shape [(.agg (List.toArray e5c'.cells))] fun r50 w51 => ∃ b49 : Bool, r50 = (.bool b49) ∧ Reb N w51 [⟨B5', e5c'.cells, T5'⟩] fun w52 => C_cellplaneref08_Journal_add_3 N Q j0' term1' B5' e5c' T5' (!b49) w52))

noncomputable def H_cellplaneref08_Journal_add_1 (N : Nat) (Q : VP) : St → World → Prop := HG N 53 [.v 0 .o, .v 1 (.i .i64), .c 5 (.g R_api_Entry)] (C_cellplaneref08_Journal_add_1 N Q)

theorem T_cellplaneref08_Journal_add_1 (N : Nat) (Q : VP) (s : St) (w : World) (h : H_cellplaneref08_Journal_add_1 N Q s w) : Snd (cy N [5]) (cR (bodyOf Try.f92)) (retD (cy N [5]) Try.f92 Q) s w :=
  Snd.HG h fun j0' term1' B5' e5c' T5' w h => (sq (H_cellplaneref08_Journal_add_2 N Q) (bk 0 (sq (H_cellplaneref08_Journal_add_3 N Q) (dsm h) (T_cellplaneref08_Journal_add_3 N Q))) (T_cellplaneref08_Journal_add_2 N Q))

def F_cellplaneref08_Journal_add (N : Nat) (j0 : Option Addr) (term1 : Int) (e2 : G_api_Entry) (Q : VP) (w : World) : Prop :=
  ∀ b53 : Nat, w.heap.size ≤ b53 → Reb N w [⟨b53, e2.cells, t_api_Entry⟩] fun w54 => C_cellplaneref08_Journal_add_1 N Q j0 term1 b53 e2 t_api_Entry w54

theorem cellplaneref08_Journal_add_snd (N : Nat) (j0 : Option Addr) (term1 : Int) (e2 : G_api_Entry) (Q : VP) (w : World) (h : F_cellplaneref08_Journal_add N j0 term1 e2 Q w) : Snd (cy N [5]) (bodyOf Try.f92) (retD (cy N [5]) Try.f92 Q) (entry 53 [(.pointer j0), (.int .i64 term1), (.agg (List.toArray e2.cells))]) w :=
  (sq (H_cellplaneref08_Journal_add_1 N Q) (dsm h) (T_cellplaneref08_Journal_add_1 N Q))

theorem cellplaneref08_Journal_add_calls (j0 : Option Addr) (term1 : Int) (e2 : G_api_Entry) (Q : VP) (w : World) (h : F_cellplaneref08_Journal_add w.heap.size j0 term1 e2 Q w) : Calls PP n_cellplaneref08_Journal_add [(.pointer j0), (.int .i64 term1), (.agg (List.toArray e2.cells))].toArray w fun e w' => ∃ v, e = .returned v ∧ Q v w' :=
  calls_of (C := cy w.heap.size [5]) (fn := Try.f92) (c := (bodyOf Try.f92)) (by kernel_rfl) (by kernel_rfl) (Nat.le_refl _) (cellplaneref08_Journal_add_snd _ j0 term1 e2 Q w h)

/-! ### cellplaneref08_Journal_cut -/
def F_cellplaneref08_Journal_cut (N : Nat) (j0 : Option Addr) (n1 : Int) (Q : VP) (w : World) : Prop :=
  IfB (decide ((n1 : Int) < 0)) (Reb N w [] (Q (.int .i64 1))) (NilL j0 fun q1 => ∃ l2 : Sl, At w (addA q1 3) [(.slice l2.a l2.n l2.c)] ∧ NotIn ((addA q1 3) : Addr).block [] ∧ IfB (decide ((((l2.n : Nat) : Int) : Int) < n1)) (Reb N w [] (Q (.int .i64 1))) (NewL N w [] ([]) t_api_Logged fun b3 w4 => NilL j0 fun q5 => ∃ l6 : Sl, At w4 (addA q5 3) [(.slice l6.a l6.n l6.c)] ∧ NotIn ((addA q5 3) : Addr).block [] ∧ (0 : Int) ≤ n1 ∧ (n1 : Int) ≤ (l6.c : Nat) ∧ RunL PP N w4 [] (Builtin.append_ #[t_sl_api_Logged, t_sl_api_Logged] t_sl_api_Logged #[(.slice (some ⟨b3, 0, none⟩) 0 0), (.slice l6.a (Int.toNat n1) l6.c)]) fun r8 w9 => ∃ l7 : Sl, r8 = (.slice l7.a l7.n l7.c) ∧ NilL j0 fun q10 => StL w9 [] (addA q10 3) [(.slice l7.a l7.n l7.c)] fun w11 => Reb N w11 [] (Q (.int .i64 0))))

theorem cellplaneref08_Journal_cut_snd (N : Nat) (j0 : Option Addr) (n1 : Int) (Q : VP) (w : World) (h : F_cellplaneref08_Journal_cut N j0 n1 Q w) : Snd (cy N []) (bodyOf Try.f94) (retD (cy N []) Try.f94 Q) (entry 27 [(.pointer j0), (.int .i64 n1)]) w :=
  (dsm h)

theorem cellplaneref08_Journal_cut_calls (j0 : Option Addr) (n1 : Int) (Q : VP) (w : World) (h : F_cellplaneref08_Journal_cut w.heap.size j0 n1 Q w) : Calls PP n_cellplaneref08_Journal_cut [(.pointer j0), (.int .i64 n1)].toArray w fun e w' => ∃ v, e = .returned v ∧ Q v w' :=
  calls_of (C := cy w.heap.size []) (fn := Try.f94) (c := (bodyOf Try.f94)) (by kernel_rfl) (by kernel_rfl) (Nat.le_refl _) (cellplaneref08_Journal_cut_snd _ j0 n1 Q w h)

/-! ### cellplaneref08_Journal_SetTerm -/
def F_cellplaneref08_Journal_SetTerm (N : Nat) (j0 : Option Addr) (term1 : Int) (vote2 : Int) (Q : VP) (w : World) : Prop :=
  CallL PP N w [] n_cellplaneref08_Journal_setTerm [(.pointer j0), (.int .i64 term1), (.int .i64 vote2)] fun r2 w3 => ∃ n1 : Int, r2 = (.int .i64 n1) ∧ IfB (decide ((n1 : Int) = 0)) (CallL PP N w3 [] n_cellplaneref01_Int [(.slice none 0 0), (.int .i64 1)] fun r5 w6 => ∃ l4 : Sl, r5 = (.slice l4.a l4.n l4.c) ∧ CallL PP N w6 [] n_cellplaneref01_Int [(.slice l4.a l4.n l4.c), (.int .i64 term1)] fun r8 w9 => ∃ l7 : Sl, r8 = (.slice l7.a l7.n l7.c) ∧ CallL PP N w9 [] n_cellplaneref01_Int [(.slice l7.a l7.n l7.c), (.int .i64 vote2)] fun r11 w12 => ∃ l10 : Sl, r11 = (.slice l10.a l10.n l10.c) ∧ CallL PP N w12 [] n_cellplaneref08_Journal_put [(.pointer j0), (.slice l10.a l10.n l10.c)] fun r13 w14 => r13 = (.tuple #[]) ∧ Reb N w14 [] (Q (.int .i64 n1))) (Reb N w3 [] (Q (.int .i64 n1)))

theorem cellplaneref08_Journal_SetTerm_snd (N : Nat) (j0 : Option Addr) (term1 : Int) (vote2 : Int) (Q : VP) (w : World) (h : F_cellplaneref08_Journal_SetTerm N j0 term1 vote2 Q w) : Snd (cy N []) (bodyOf Try.f40) (retD (cy N []) Try.f40 Q) (entry 22 [(.pointer j0), (.int .i64 term1), (.int .i64 vote2)]) w :=
  (dsm h)

theorem cellplaneref08_Journal_SetTerm_calls (j0 : Option Addr) (term1 : Int) (vote2 : Int) (Q : VP) (w : World) (h : F_cellplaneref08_Journal_SetTerm w.heap.size j0 term1 vote2 Q w) : Calls PP n_cellplaneref08_Journal_SetTerm [(.pointer j0), (.int .i64 term1), (.int .i64 vote2)].toArray w fun e w' => ∃ v, e = .returned v ∧ Q v w' :=
  calls_of (C := cy w.heap.size []) (fn := Try.f40) (c := (bodyOf Try.f40)) (by kernel_rfl) (by kernel_rfl) (Nat.le_refl _) (cellplaneref08_Journal_SetTerm_snd _ j0 term1 vote2 Q w h)

/-! ### cellplaneref08_Journal_Append -/
def F_cellplaneref08_Journal_Append (N : Nat) (j0 : Option Addr) (term1 : Int) (x2 : G_api_Entry) (Q : VP) (w : World) : Prop :=
  ∀ b1 : Nat, w.heap.size ≤ b1 → CallL PP N w [⟨b1, x2.cells, t_api_Entry⟩] n_cellplaneref08_Journal_add [(.pointer j0), (.int .i64 term1), (.agg (List.toArray x2.cells))] fun r3 w4 => ∃ n2 : Int, r3 = (.int .i64 n2) ∧ IfB (decide ((n2 : Int) = 0)) (CallL PP N w4 [⟨b1, x2.cells, t_api_Entry⟩] n_cellplaneref01_Int [(.slice none 0 0), (.int .i64 2)] fun r6 w7 => ∃ l5 : Sl, r6 = (.slice l5.a l5.n l5.c) ∧ CallL PP N w7 [⟨b1, x2.cells, t_api_Entry⟩] n_cellplaneref01_Int [(.slice l5.a l5.n l5.c), (.int .i64 term1)] fun r9 w10 => ∃ l8 : Sl, r9 = (.slice l8.a l8.n l8.c) ∧ CallL PP N w10 [⟨b1, x2.cells, t_api_Entry⟩] n_cellplaneref06_Bytes [(.agg (List.toArray x2.cells))] fun r12 w13 => ∃ l11 : Sl, r12 = (.slice l11.a l11.n l11.c) ∧ RunL PP N w13 [⟨b1, x2.cells, t_api_Entry⟩] (Builtin.append_ #[t_sl_u8, t_sl_u8] t_sl_u8 #[(.slice l8.a l8.n l8.c), (.slice l11.a l11.n l11.c)]) fun r15 w16 => ∃ l14 : Sl, r15 = (.slice l14.a l14.n l14.c) ∧ CallL PP N w16 [⟨b1, x2.cells, t_api_Entry⟩] n_cellplaneref08_Journal_put [(.pointer j0), (.slice l14.a l14.n l14.c)] fun r17 w18 => r17 = (.tuple #[]) ∧ Reb N w18 [⟨b1, x2.cells, t_api_Entry⟩] (Q (.int .i64 n2))) (Reb N w4 [⟨b1, x2.cells, t_api_Entry⟩] (Q (.int .i64 n2)))

theorem cellplaneref08_Journal_Append_snd (N : Nat) (j0 : Option Addr) (term1 : Int) (x2 : G_api_Entry) (Q : VP) (w : World) (h : F_cellplaneref08_Journal_Append N j0 term1 x2 Q w) : Snd (cy N [5]) (bodyOf Try.f41) (retD (cy N [5]) Try.f41 Q) (entry 23 [(.pointer j0), (.int .i64 term1), (.agg (List.toArray x2.cells))]) w :=
  (dsm h)

theorem cellplaneref08_Journal_Append_calls (j0 : Option Addr) (term1 : Int) (x2 : G_api_Entry) (Q : VP) (w : World) (h : F_cellplaneref08_Journal_Append w.heap.size j0 term1 x2 Q w) : Calls PP n_cellplaneref08_Journal_Append [(.pointer j0), (.int .i64 term1), (.agg (List.toArray x2.cells))].toArray w fun e w' => ∃ v, e = .returned v ∧ Q v w' :=
  calls_of (C := cy w.heap.size [5]) (fn := Try.f41) (c := (bodyOf Try.f41)) (by kernel_rfl) (by kernel_rfl) (Nat.le_refl _) (cellplaneref08_Journal_Append_snd _ j0 term1 x2 Q w h)

/-! ### cellplaneref08_Journal_Cut -/
def F_cellplaneref08_Journal_Cut (N : Nat) (j0 : Option Addr) (n1 : Int) (Q : VP) (w : World) : Prop :=
  CallL PP N w [] n_cellplaneref08_Journal_cut [(.pointer j0), (.int .i64 n1)] fun r3 w4 => ∃ n2 : Int, r3 = (.int .i64 n2) ∧ IfB (decide ((n2 : Int) = 0)) (CallL PP N w4 [] n_cellplaneref01_Int [(.slice none 0 0), (.int .i64 3)] fun r6 w7 => ∃ l5 : Sl, r6 = (.slice l5.a l5.n l5.c) ∧ CallL PP N w7 [] n_cellplaneref01_Int [(.slice l5.a l5.n l5.c), (.int .i64 n1)] fun r9 w10 => ∃ l8 : Sl, r9 = (.slice l8.a l8.n l8.c) ∧ CallL PP N w10 [] n_cellplaneref08_Journal_put [(.pointer j0), (.slice l8.a l8.n l8.c)] fun r11 w12 => r11 = (.tuple #[]) ∧ Reb N w12 [] (Q (.int .i64 n2))) (Reb N w4 [] (Q (.int .i64 n2)))

theorem cellplaneref08_Journal_Cut_snd (N : Nat) (j0 : Option Addr) (n1 : Int) (Q : VP) (w : World) (h : F_cellplaneref08_Journal_Cut N j0 n1 Q w) : Snd (cy N []) (bodyOf Try.f42) (retD (cy N []) Try.f42 Q) (entry 17 [(.pointer j0), (.int .i64 n1)]) w :=
  (dsm h)

theorem cellplaneref08_Journal_Cut_calls (j0 : Option Addr) (n1 : Int) (Q : VP) (w : World) (h : F_cellplaneref08_Journal_Cut w.heap.size j0 n1 Q w) : Calls PP n_cellplaneref08_Journal_Cut [(.pointer j0), (.int .i64 n1)].toArray w fun e w' => ∃ v, e = .returned v ∧ Q v w' :=
  calls_of (C := cy w.heap.size []) (fn := Try.f42) (c := (bodyOf Try.f42)) (by kernel_rfl) (by kernel_rfl) (Nat.le_refl _) (cellplaneref08_Journal_Cut_snd _ j0 n1 Q w h)

/-! ### cellplaneref08_Journal_record -/
def F_cellplaneref08_Journal_record (N : Nat) (j0 : Option Addr) (p1 : Sl) (Q : VP) (w : World) : Prop :=
  CallL PP N w [] n_cellplaneref01_TakeInt [(.slice p1.a p1.n p1.c)] fun r4 w5 => ∃ n1 : Int, ∃ n2 : Int, ∃ n3 : Int, r4 = (.tuple #[(.int .i64 n1), (.int .i64 n2), (.int .i64 n3)]) ∧ IfB (!decide ((n3 : Int) = 0)) (Reb N w5 [] (Q (.bool false))) ((0 : Int) ≤ n2 ∧ (n2 : Int) ≤ (p1.n : Nat) ∧ CallL PP N w5 [] n_cellplaneref01_TakeInt [(.slice (slA p1.a p1.c (n2 : Int).toNat 1) (p1.n - (n2 : Int).toNat) (p1.c - (n2 : Int).toNat))] fun r9 w10 => ∃ n6 : Int, ∃ n7 : Int, ∃ n8 : Int, r9 = (.tuple #[(.int .i64 n6), (.int .i64 n7), (.int .i64 n8)]) ∧ IfB (!decide ((n8 : Int) = 0)) (Reb N w10 [] (Q (.bool false))) (IfB (decide ((n1 : Int) = 1)) ((0 : Int) ≤ (IntKind.i64.wrap (n2 + n7)) ∧ ((IntKind.i64.wrap (n2 + n7)) : Int) ≤ (p1.n : Nat) ∧ CallL PP N w10 [] n_cellplaneref01_TakeInt [(.slice (slA p1.a p1.c ((IntKind.i64.wrap (n2 + n7)) : Int).toNat 1) (p1.n - ((IntKind.i64.wrap (n2 + n7)) : Int).toNat) (p1.c - ((IntKind.i64.wrap (n2 + n7)) : Int).toNat))] fun r14 w15 => ∃ n11 : Int, ∃ n12 : Int, ∃ n13 : Int, r14 = (.tuple #[(.int .i64 n11), (.int .i64 n12), (.int .i64 n13)]) ∧ IfB (decide ((n13 : Int) = 0)) (IfB (decide (((IntKind.i64.wrap ((IntKind.i64.wrap (n2 + n7)) + n12)) : Int) = ((p1.n : Nat) : Int))) (CallL PP N w15 [] n_cellplaneref08_Journal_setTerm [(.pointer j0), (.int .i64 n6), (.int .i64 n11)] fun r17 w18 => ∃ n16 : Int, r17 = (.int .i64 n16) ∧ Reb N w18 [] (Q (.bool (decide ((n16 : Int) = 0))))) (Reb N w15 [] (Q (.bool false)))) (Reb N w15 [] (Q (.bool false)))) (IfB (decide ((n1 : Int) = 2)) ((0 : Int) ≤ (IntKind.i64.wrap (n2 + n7)) ∧ ((IntKind.i64.wrap (n2 + n7)) : Int) ≤ (p1.n : Nat) ∧ CallL PP N w10 [] n_cellplaneref06_Read [(.slice (slA p1.a p1.c ((IntKind.i64.wrap (n2 + n7)) : Int).toNat 1) (p1.n - ((IntKind.i64.wrap (n2 + n7)) : Int).toNat) (p1.c - ((IntKind.i64.wrap (n2 + n7)) : Int).toNat))] fun r22 w23 => ∃ x19 : G_api_Entry, ∃ n20 : Int, ∃ n21 : Int, r22 = (.tuple #[(.agg (List.toArray x19.cells)), (.int .i64 n20), (.int .i64 n21)]) ∧ ∀ b24 : Nat, w23.heap.size ≤ b24 → IfB (decide ((n21 : Int) = 0)) (IfB (decide (((IntKind.i64.wrap ((IntKind.i64.wrap (n2 + n7)) + n20)) : Int) = ((p1.n : Nat) : Int))) (CallL PP N w23 [⟨b24, x19.cells, t_api_Entry⟩] n_cellplaneref08_Journal_add [(.pointer j0), (.int .i64 n6), (.agg (List.toArray x19.cells))] fun r26 w27 => ∃ n25 : Int, r26 = (.int .i64 n25) ∧ Reb N w27 [⟨b24, x19.cells, t_api_Entry⟩] (Q (.bool (decide ((n25 : Int) = 0))))) (Reb N w23 [⟨b24, x19.cells, t_api_Entry⟩] (Q (.bool false)))) (Reb N w23 [⟨b24, x19.cells, t_api_Entry⟩] (Q (.bool false)))) (IfB (decide ((n1 : Int) = 3)) (IfB (decide (((IntKind.i64.wrap (n2 + n7)) : Int) = ((p1.n : Nat) : Int))) (CallL PP N w10 [] n_cellplaneref08_Journal_cut [(.pointer j0), (.int .i64 n6)] fun r29 w30 => ∃ n28 : Int, r29 = (.int .i64 n28) ∧ Reb N w30 [] (Q (.bool (decide ((n28 : Int) = 0))))) (Reb N w10 [] (Q (.bool false)))) (Reb N w10 [] (Q (.bool false)))))))

theorem cellplaneref08_Journal_record_snd (N : Nat) (j0 : Option Addr) (p1 : Sl) (Q : VP) (w : World) (h : F_cellplaneref08_Journal_record N j0 p1 Q w) : Snd (cy N [14]) (bodyOf Try.f142) (retD (cy N [14]) Try.f142 Q) (entry 105 [(.pointer j0), (.slice p1.a p1.n p1.c)]) w :=
  (dsm h)

theorem cellplaneref08_Journal_record_calls (j0 : Option Addr) (p1 : Sl) (Q : VP) (w : World) (h : F_cellplaneref08_Journal_record w.heap.size j0 p1 Q w) : Calls PP n_cellplaneref08_Journal_record [(.pointer j0), (.slice p1.a p1.n p1.c)].toArray w fun e w' => ∃ v, e = .returned v ∧ Q v w' :=
  calls_of (C := cy w.heap.size [14]) (fn := Try.f142) (c := (bodyOf Try.f142)) (by kernel_rfl) (by kernel_rfl) (Nat.le_refl _) (cellplaneref08_Journal_record_snd _ j0 p1 Q w h)

/-! ### cellplaneref08_Journal_Sync -/
def F_cellplaneref08_Journal_Sync (N : Nat) (j0 : Option Addr) (Q : VP) (w : World) : Prop :=
  NilL j0 fun q1 => ∃ p2 : Option Addr, At w q1 [(.pointer p2)] ∧ NotIn (q1 : Addr).block [] ∧ CallL PP N w [] n_cellplaneref07_Disk_Sync [(.pointer p2)] fun r3 w4 => r3 = (.tuple #[]) ∧ Reb N w4 [] (Q (.tuple #[]))

theorem cellplaneref08_Journal_Sync_snd (N : Nat) (j0 : Option Addr) (Q : VP) (w : World) (h : F_cellplaneref08_Journal_Sync N j0 Q w) : Snd (cy N []) (bodyOf Try.f87) (retD (cy N []) Try.f87 Q) (entry 7 [(.pointer j0)]) w :=
  (dsm h)

theorem cellplaneref08_Journal_Sync_calls (j0 : Option Addr) (Q : VP) (w : World) (h : F_cellplaneref08_Journal_Sync w.heap.size j0 Q w) : Calls PP n_cellplaneref08_Journal_Sync [(.pointer j0)].toArray w fun e w' => ∃ v, e = .returned v ∧ Q v w' :=
  calls_of (C := cy w.heap.size []) (fn := Try.f87) (c := (bodyOf Try.f87)) (by kernel_rfl) (by kernel_rfl) (Nat.le_refl _) (cellplaneref08_Journal_Sync_snd _ j0 Q w h)

/-! ### cellplaneref08_Journal_Crash -/
noncomputable def k_cellplaneref08_Journal_Crash_0 : Code := (cR (cR (cR (cR (cR (bodyOf Try.f88))))))

def C_cellplaneref08_Journal_Crash_5 (N : Nat) (Q : VP) (j0' : Option Addr) (at6' : Int) (w : World) : Prop :=
  NilL j0' fun q1 => ∃ p2 : Option Addr, At w q1 [(.pointer p2)] ∧ NotIn (q1 : Addr).block [] ∧ CallL PP N w [] n_cellplaneref07_Disk_Truncate [(.pointer p2), (.int .i64 at6')] fun r4 w5 => ∃ n3 : Int, r4 = (.int .i64 n3) ∧ Reb N w5 [] (Q (.tuple #[]))

noncomputable def H_cellplaneref08_Journal_Crash_5 (N : Nat) (Q : VP) : St → World → Prop := HG N 61 [.v 0 .o, .v 6 (.i .i64)] (C_cellplaneref08_Journal_Crash_5 N Q)

theorem T_cellplaneref08_Journal_Crash_5 (N : Nat) (Q : VP) (s : St) (w : World) (h : H_cellplaneref08_Journal_Crash_5 N Q s w) : Snd (cy N []) k_cellplaneref08_Journal_Crash_0 (retD (cy N []) Try.f88 Q) s w :=
  Snd.HG h fun _ _ _ h => dsm h

noncomputable def k_cellplaneref08_Journal_Crash_1 : Code := (cR (cL (cR (cR (cR (cR (bodyOf Try.f88)))))))

noncomputable def z_cellplaneref08_Journal_Crash_2 (N : Nat) (Q : VP) : Cont := (thenD (H_cellplaneref08_Journal_Crash_5 N Q) (retD (cy N []) Try.f88 Q))

def D_cellplaneref08_Journal_Crash_7 (K : ((Option Addr) × Sl) → (Int × Int) → Prop) : List Value → List LB → Prop := fun vs ls => match vs, ls with
  | [.pointer j0', .slice l4'_a l4'_n l4'_c, .int .i64 at6', .int .i64 i7'], [] => K (j0', ⟨l4'_a, l4'_n, l4'_c⟩) (at6', i7')
  | _, _ => False

def B_cellplaneref08_Journal_Crash_7 (N : Nat) (K1 : ((Option Addr) × Sl) → (Int × Int) → World → Prop) (Q : VP) (j0' : Option Addr) (l4' : Sl) (at6' i7' : Int) (w : World) : Prop :=
  IfB (decide ((i7' : Int) < ((l4'.n : Nat) : Int))) (IdxL l4'.a l4'.n i7' fun q6 => ∃ l7 : Sl, At w (q6.add ((i7' : Int).toNat * 1)) [(.slice l7.a l7.n l7.c)] ∧ NotIn ((q6.add ((i7' : Int).toNat * 1)) : Addr).block [] ∧ CallL PP N w [] n_cellplaneref08_Journal_record [(.pointer j0'), (.slice l7.a l7.n l7.c)] fun r9 w10 => ∃ b8 : Bool, r9 = (.bool b8) ∧ IfB (!b8) (Reb N w10 [] fun w11 => C_cellplaneref08_Journal_Crash_5 N Q j0' at6' w11) (IdxL l4'.a l4'.n i7' fun q12 => ∃ l13 : Sl, At w10 (q12.add ((i7' : Int).toNat * 1)) [(.slice l13.a l13.n l13.c)] ∧ NotIn ((q12.add ((i7' : Int).toNat * 1)) : Addr).block [] ∧ CallL PP N w10 [] n_cellplaneref03_Put [(.slice none 0 0), (.int .i64 8), (.slice l13.a l13.n l13.c)] fun r15 w16 => ∃ l14 : Sl, r15 = (.slice l14.a l14.n l14.c) ∧ Reb N w16 [] fun w17 => K1 (j0', l4') ((IntKind.i64.wrap (at6' + ((l14.n : Nat) : Int))), (IntKind.i64.wrap (i7' + 1))) w17)) (Reb N w [] fun w18 => C_cellplaneref08_Journal_Crash_5 N Q j0' at6' w18)

theorem X_cellplaneref08_Journal_Crash_7 {N : Nat} {K1 : ((Option Addr) × Sl) → (Int × Int) → World → Prop} {Q : VP} {j0' : Option Addr} {l4' : Sl} {at6' i7' : Int} {w : World} (h : B_cellplaneref08_Journal_Crash_7 N K1 Q j0' l4' at6' i7' w) : Snd (cy N []) (cL (cL k_cellplaneref08_Journal_Crash_1)) (thenD (HeadK N 61 [.val 0, .val 4, .val 6, .val 7] D_cellplaneref08_Journal_Crash_7 K1) (inBlockD 0 (z_cellplaneref08_Journal_Crash_2 N Q))) (mkS 61 [.val 0, .val 4, .val 6, .val 7] [(.pointer j0'), (.slice l4'.a l4'.n l4'.c), (.int .i64 at6'), (.int .i64 i7')] []) w :=
  (dsm h)

def L_cellplaneref08_Journal_Crash_7 (N : Nat) (Q : VP) (K1 : ((Option Addr) × Sl) → (Int × Int) → World → Prop) (c : (Option Addr) × Sl) (x : Int × Int) (w : World) : Prop := match c, x with
  | (j0', l4'), (at6', i7') => B_cellplaneref08_Journal_Crash_7 N K1 Q j0' l4' at6' i7' w

theorem T_cellplaneref08_Journal_Crash_7 (N : Nat) (Q : VP) {s : St} {w : World} (h : HeadE N 61 [.val 0, .val 4, .val 6, .val 7] D_cellplaneref08_Journal_Crash_7 (L_cellplaneref08_Journal_Crash_7 N Q) s w) : Snd (cy N []) (cL k_cellplaneref08_Journal_Crash_1) (inBlockD 0 (z_cellplaneref08_Journal_Crash_2 N Q)) s w := by
  refine Snd.cast (c' := .loop (cL (cL k_cellplaneref08_Journal_Crash_1))) (by kernel_rfl) (Snd.loopC (fun (c : (Option Addr) × Sl) (x : Int × Int) => match c, x with | (j0', l4'), (at6', i7') => ([(.pointer j0'), (.slice l4'.a l4'.n l4'.c), (.int .i64 at6'), (.int .i64 i7')], [])) ?_ ?_ h)
  · intro K vs ls h
    unfold D_cellplaneref08_Journal_Crash_7 at h
    split at h
    · exact ⟨_, _, rfl, h⟩
    · exact h.elim
  · rintro K ⟨j0', l4'⟩ ⟨at6', i7'⟩ w h
    exact X_cellplaneref08_Journal_Crash_7 h

def C_cellplaneref08_Journal_Crash_6 (N : Nat) (Q : VP) (j0' : Option Addr) (l4' : Sl) (at6' i7' : Int) (w : World) : Prop :=
  LoopC N w [] ((j0', l4') : (Option Addr) × Sl) ((at6', i7') : Int × Int) (L_cellplaneref08_Journal_Crash_7 N Q)

noncomputable def H_cellplaneref08_Journal_Crash_6 (N : Nat) (Q : VP) : St → World → Prop := HG N 61 [.v 0 .o, .v 4 .l, .v 6 (.i .i64), .v 7 (.i .i64)] (C_cellplaneref08_Journal_Crash_6 N Q)

theorem T_cellplaneref08_Journal_Crash_6 (N : Nat) (Q : VP) (s : St) (w : World) (h : H_cellplaneref08_Journal_Crash_6 N Q s w) : Snd (cy N []) k_cellplaneref08_Journal_Crash_1 (z_cellplaneref08_Journal_Crash_2 N Q) s w :=
  Snd.HG h fun j0' l4' at6' i7' w h => (bk 0 (T_cellplaneref08_Journal_Crash_7 N Q (mpr' (by kernel_rfl) h)))

def C_cellplaneref08_Journal_Crash_4 (N : Nat) (Q : VP) (j0' : Option Addr) (l4' : Sl) (at6' : Int) (w : World) : Prop :=
  Reb N w [] fun w19 => C_cellplaneref08_Journal_Crash_6 N Q j0' l4' at6' 0 w19

noncomputable def H_cellplaneref08_Journal_Crash_4 (N : Nat) (Q : VP) : St → World → Prop := HG N 61 [.v 0 .o, .v 4 .l, .v 6 (.i .i64)] (C_cellplaneref08_Journal_Crash_4 N Q)

theorem T_cellplaneref08_Journal_Crash_4 (N : Nat) (Q : VP) (s : St) (w : World) (h : H_cellplaneref08_Journal_Crash_4 N Q s w) : Snd (cy N []) (cR (cR (cR (cR (bodyOf Try.f88))))) (retD (cy N []) Try.f88 Q) s w :=
  Snd.HG h fun j0' l4' at6' w h => (sq (H_cellplaneref08_Journal_Crash_5 N Q) (sq (H_cellplaneref08_Journal_Crash_6 N Q) (dsm h) (T_cellplaneref08_Journal_Crash_6 N Q)) (T_cellplaneref08_Journal_Crash_5 N Q))

def C_cellplaneref08_Journal_Crash_3 (N : Nat) (Q : VP) (j0' : Option Addr) (l4' : Sl) (w : World) : Prop :=
  Reb N w [] fun w20 => C_cellplaneref08_Journal_Crash_4 N Q j0' l4' 0 w20

noncomputable def H_cellplaneref08_Journal_Crash_3 (N : Nat) (Q : VP) : St → World → Prop := HG N 61 [.v 0 .o, .v 4 .l] (C_cellplaneref08_Journal_Crash_3 N Q)

theorem T_cellplaneref08_Journal_Crash_3 (N : Nat) (Q : VP) (s : St) (w : World) (h : H_cellplaneref08_Journal_Crash_3 N Q s w) : Snd (cy N []) (cR (cR (cR (bodyOf Try.f88)))) (retD (cy N []) Try.f88 Q) s w :=
  Snd.HG h fun j0' l4' w h => (sq (H_cellplaneref08_Journal_Crash_4 N Q) (dsm h) (T_cellplaneref08_Journal_Crash_4 N Q))

def C_cellplaneref08_Journal_Crash_2 (N : Nat) (Q : VP) (j0' : Option Addr) (l4' : Sl) (w : World) : Prop :=
  NilL j0' fun q21 => StL w [] (addA q21 1) [(.int .i64 0)] fun w22 => NilL j0' fun q23 => StL w22 [] (addA q23 2) [(.int .i64 (-1))] fun w24 => NilL j0' fun q25 => StL w24 [] (addA q25 3) [(.slice none 0 0)] fun w26 => Reb N w26 [] fun w27 => C_cellplaneref08_Journal_Crash_3 N Q j0' l4' w27

noncomputable def H_cellplaneref08_Journal_Crash_2 (N : Nat) (Q : VP) : St → World → Prop := HG N 61 [.v 0 .o, .v 4 .l] (C_cellplaneref08_Journal_Crash_2 N Q)

theorem T_cellplaneref08_Journal_Crash_2 (N : Nat) (Q : VP) (s : St) (w : World) (h : H_cellplaneref08_Journal_Crash_2 N Q s w) : Snd (cy N []) (cR (cR (bodyOf Try.f88))) (retD (cy N []) Try.f88 Q) s w :=
  Snd.HG h fun j0' l4' w h => (sq (H_cellplaneref08_Journal_Crash_3 N Q) (dsm h) (T_cellplaneref08_Journal_Crash_3 N Q))

def C_cellplaneref08_Journal_Crash_1 (N : Nat) (Q : VP) (j0' : Option Addr) (w : World) : Prop :=
  NilL j0' fun q28 => ∃ p29 : Option Addr, At w q28 [(.pointer p29)] ∧ NotIn (q28 : Addr).block [] ∧ NilL p29 fun q30 => ∃ l31 : Sl, At w q30 [(.slice l31.a l31.n l31.c)] ∧ NotIn (q30 : Addr).block [] ∧ CallL PP N w [] n_cellplaneref03_All [(.slice l31.a l31.n l31.c), (.int .i64 8)] fun r34 w35 => ∃ l32 : Sl, ∃ n33 : Int, r34 = (.tuple #[(.slice l32.a l32.n l32.c), (.int .i64 n33)]) ∧ Reb N w35 [] fun w36 => C_cellplaneref08_Journal_Crash_2 N Q j0' l32 w36

noncomputable def H_cellplaneref08_Journal_Crash_1 (N : Nat) (Q : VP) : St → World → Prop := HG N 61 [.v 0 .o] (C_cellplaneref08_Journal_Crash_1 N Q)

theorem T_cellplaneref08_Journal_Crash_1 (N : Nat) (Q : VP) (s : St) (w : World) (h : H_cellplaneref08_Journal_Crash_1 N Q s w) : Snd (cy N []) (cR (bodyOf Try.f88)) (retD (cy N []) Try.f88 Q) s w :=
  Snd.HG h fun j0' w h => (sq (H_cellplaneref08_Journal_Crash_2 N Q) (dsm h) (T_cellplaneref08_Journal_Crash_2 N Q))

def F_cellplaneref08_Journal_Crash (N : Nat) (j0 : Option Addr) (keep1 : Int) (Q : VP) (w : World) : Prop :=
  NilL j0 fun q37 => ∃ p38 : Option Addr, At w q37 [(.pointer p38)] ∧ NotIn (q37 : Addr).block [] ∧ CallL PP N w [] n_cellplaneref07_Disk_Crash [(.pointer p38), (.int .i64 keep1)] fun r39 w40 => r39 = (.tuple #[]) ∧ Reb N w40 [] fun w41 => C_cellplaneref08_Journal_Crash_1 N Q j0 w41

theorem cellplaneref08_Journal_Crash_snd (N : Nat) (j0 : Option Addr) (keep1 : Int) (Q : VP) (w : World) (h : F_cellplaneref08_Journal_Crash N j0 keep1 Q w) : Snd (cy N []) (bodyOf Try.f88) (retD (cy N []) Try.f88 Q) (entry 61 [(.pointer j0), (.int .i64 keep1)]) w :=
  (sq (H_cellplaneref08_Journal_Crash_1 N Q) (dsm h) (T_cellplaneref08_Journal_Crash_1 N Q))

theorem cellplaneref08_Journal_Crash_calls (j0 : Option Addr) (keep1 : Int) (Q : VP) (w : World) (h : F_cellplaneref08_Journal_Crash w.heap.size j0 keep1 Q w) : Calls PP n_cellplaneref08_Journal_Crash [(.pointer j0), (.int .i64 keep1)].toArray w fun e w' => ∃ v, e = .returned v ∧ Q v w' :=
  calls_of (C := cy w.heap.size []) (fn := Try.f88) (c := (bodyOf Try.f88)) (by kernel_rfl) (by kernel_rfl) (Nat.le_refl _) (cellplaneref08_Journal_Crash_snd _ j0 keep1 Q w h)

/-! ### cellplaneref08_Open -/
def F_cellplaneref08_Open (N : Nat) (b0 : Sl) (Q : VP) (w : World) : Prop :=
  CallL PP N w [] n_cellplaneref08_New [] fun r2 w3 => ∃ p1 : Option Addr, r2 = (.pointer p1) ∧ NilL p1 fun q4 => ∃ p5 : Option Addr, At w3 q4 [(.pointer p5)] ∧ NotIn (q4 : Addr).block [] ∧ CallL PP N w3 [] n_cellplaneref07_Disk_Append [(.pointer p5), (.slice b0.a b0.n b0.c)] fun r6 w7 => r6 = (.tuple #[]) ∧ NilL p1 fun q8 => ∃ p9 : Option Addr, At w7 q8 [(.pointer p9)] ∧ NotIn (q8 : Addr).block [] ∧ CallL PP N w7 [] n_cellplaneref07_Disk_Sync [(.pointer p9)] fun r10 w11 => r10 = (.tuple #[]) ∧ CallL PP N w11 [] n_cellplaneref08_Journal_Crash [(.pointer p1), (.int .i64 0)] fun r12 w13 => r12 = (.tuple #[]) ∧ Reb N w13 [] (Q (.pointer p1))

theorem cellplaneref08_Open_snd (N : Nat) (b0 : Sl) (Q : VP) (w : World) (h : F_cellplaneref08_Open N b0 Q w) : Snd (cy N []) (bodyOf Try.f45) (retD (cy N []) Try.f45 Q) (entry 19 [(.slice b0.a b0.n b0.c)]) w :=
  (dsm h)

theorem cellplaneref08_Open_calls (b0 : Sl) (Q : VP) (w : World) (h : F_cellplaneref08_Open w.heap.size b0 Q w) : Calls PP n_cellplaneref08_Open [(.slice b0.a b0.n b0.c)].toArray w fun e w' => ∃ v, e = .returned v ∧ Q v w' :=
  calls_of (C := cy w.heap.size []) (fn := Try.f45) (c := (bodyOf Try.f45)) (by kernel_rfl) (by kernel_rfl) (Nat.le_refl _) (cellplaneref08_Open_snd _ b0 Q w h)

/-! ### cellplanelaw08_note -/
def F_cellplanelaw08_note (N : Nat) (n0 : Int) (Q : VP) (w : World) : Prop :=
  ∀ b1 : Nat, w.heap.size ≤ b1 → CallL PP N w [⟨b1, (⟨0, 0, 0, 0, 0, 0, 0, 0, 0⟩ : G_api_Entry).cells, t_api_Entry⟩] n_cellplanemake_Mod [(.int .i64 n0), (.int .i64 1000)] fun r3 w4 => ∃ n2 : Int, r3 = (.int .i64 n2) ∧ Reb N w4 [⟨b1, (⟨16, 0, (-1), (-1), (-1), 0, 0, 0, n2⟩ : G_api_Entry).cells, t_api_Entry⟩] (Q (.agg (List.toArray (⟨16, 0, (-1), (-1), (-1), 0, 0, 0, n2⟩ : G_api_Entry).cells)))

theorem cellplanelaw08_note_snd (N : Nat) (n0 : Int) (Q : VP) (w : World) (h : F_cellplanelaw08_note N n0 Q w) : Snd (cy N [2]) (bodyOf Try.f34) (retD (cy N [2]) Try.f34 Q) (entry 6 [(.int .i64 n0)]) w :=
  (dsm h)

theorem cellplanelaw08_note_calls (n0 : Int) (Q : VP) (w : World) (h : F_cellplanelaw08_note w.heap.size n0 Q w) : Calls PP n_cellplanelaw08_note [(.int .i64 n0)].toArray w fun e w' => ∃ v, e = .returned v ∧ Q v w' :=
  calls_of (C := cy w.heap.size [2]) (fn := Try.f34) (c := (bodyOf Try.f34)) (by kernel_rfl) (by kernel_rfl) (Nat.le_refl _) (cellplanelaw08_note_snd _ n0 Q w h)

/-! ### cellplanelaw08_awake -/
def F_cellplanelaw08_awake (N : Nat)  (Q : VP) (w : World) : Prop :=
  CallL PP N w [] n_journal_New [] fun r2 w3 => ∃ p1 : Option Addr, r2 = (.pointer p1) ∧ IfB p1.isNone (Reb N w3 [] (Q (.bool false))) (CallL PP N w3 [] n_journal_Journal_SetTerm [(.pointer p1), (.int .i64 3), (.int .i64 1)] fun r5 w6 => ∃ n4 : Int, r5 = (.int .i64 n4) ∧ NilL p1 fun q7 => ∃ p8 : Option Addr, At w6 q7 [(.pointer p8)] ∧ NotIn (q7 : Addr).block [] ∧ CallL PP N w6 [] n_disk_Disk_Sync [(.pointer p8)] fun r9 w10 => r9 = (.tuple #[]) ∧ CallL PP N w10 [] n_cellplanelaw08_note [(.int .i64 7)] fun r12 w13 => ∃ x11 : G_api_Entry, r12 = (.agg (List.toArray x11.cells)) ∧ CallL PP N w13 [] n_journal_Journal_Append [(.pointer p1), (.int .i64 3), (.agg (List.toArray x11.cells))] fun r15 w16 => ∃ n14 : Int, r15 = (.int .i64 n14) ∧ CallL PP N w16 [] n_journal_Journal_SetTerm [(.pointer p1), (.int .i64 3), (.int .i64 2)] fun r18 w19 => ∃ n17 : Int, r18 = (.int .i64 n17) ∧ CallL PP N w19 [] n_journal_Journal_Len [(.pointer p1)] fun r21 w22 => ∃ n20 : Int, r21 = (.int .i64 n20) ∧ CallL PP N w22 [] n_journal_Journal_Crash [(.pointer p1), (.int .i64 0)] fun r23 w24 => r23 = (.tuple #[]) ∧ IfB (decide ((n4 : Int) = 0)) (IfB (decide ((n14 : Int) = 0)) (IfB (decide ((n17 : Int) = 20)) (IfB (decide ((n20 : Int) = 1)) (CallL PP N w24 [] n_journal_Journal_Term [(.pointer p1)] fun r26 w27 => ∃ n25 : Int, r26 = (.int .i64 n25) ∧ IfB (decide ((n25 : Int) = 3)) (CallL PP N w27 [] n_journal_Journal_Vote [(.pointer p1)] fun r29 w30 => ∃ n28 : Int, r29 = (.int .i64 n28) ∧ IfB (decide ((n28 : Int) = 1)) (CallL PP N w30 [] n_journal_Journal_Len [(.pointer p1)] fun r32 w33 => ∃ n31 : Int, r32 = (.int .i64 n31) ∧ Reb N w33 [] (Q (.bool (decide ((n31 : Int) = 0))))) (Reb N w30 [] (Q (.bool false)))) (Reb N w27 [] (Q (.bool false)))) (Reb N w24 [] (Q (.bool false)))) (Reb N w24 [] (Q (.bool false)))) (Reb N w24 [] (Q (.bool false)))) (Reb N w24 [] (Q (.bool false))))

theorem cellplanelaw08_awake_snd (N : Nat)  (Q : VP) (w : World) (h : F_cellplanelaw08_awake N  Q w) : Snd (cy N []) (bodyOf Try.f25) (retD (cy N []) Try.f25 Q) (entry 54 []) w :=
  (dsm h)

theorem cellplanelaw08_awake_calls  (Q : VP) (w : World) (h : F_cellplanelaw08_awake w.heap.size  Q w) : Calls PP n_cellplanelaw08_awake [].toArray w fun e w' => ∃ v, e = .returned v ∧ Q v w' :=
  calls_of (C := cy w.heap.size []) (fn := Try.f25) (c := (bodyOf Try.f25)) (by kernel_rfl) (by kernel_rfl) (Nat.le_refl _) (cellplanelaw08_awake_snd _  Q w h)
end Go.Sh
