/- What these functions do, told by computation: a formula for each, and that its calls do what the formula says.
   Conditions: none. -/
import Derived.Test.YtoenaheehpjmiaaBase
namespace Go.Sh
open Go Go.Proofs
set_option linter.unusedVariables false
set_option maxRecDepth 100000

/-! ### entry_fits_1 -/
def F_entry_fits_1 (N : Nat) (f0 : Addr) (f1 : Addr) (f2 : Addr) (f3 : Addr) (Q : VP) (w : World) : Prop :=
  ∃ n1 : Int, At w (addA f0 2) [(.int .i64 n1)] ∧ NotIn ((addA f0 2) : Addr).block [] ∧ ∃ b2 : Bool, At w f1 [(.bool b2)] ∧ NotIn (f1 : Addr).block [] ∧ IfB b2 (∃ n3 : Int, At w (addA f0 2) [(.int .i64 n3)] ∧ NotIn ((addA f0 2) : Addr).block [] ∧ ∃ n4 : Int, At w f2 [(.int .i64 n4)] ∧ NotIn (f2 : Addr).block [] ∧ CallL PP N w [] n_entry_index [(.int .i64 n3), (.int .i64 n4)] fun r6 w7 => ∃ b5 : Bool, r6 = (.bool b5) ∧ At w7 (addA f0 2) [(.int .i64 n1)] ∧ StL w7 [] (addA f3 2) [(.int .i64 n1)] fun w8 => StL w8 [] f1 [(.bool b5)] fun w9 => Reb N w9 [] (Q (.tuple #[]))) (StL w [] (addA f3 2) [(.int .i64 n1)] fun w10 => StL w10 [] f1 [(.bool false)] fun w11 => Reb N w11 [] (Q (.tuple #[])))

theorem entry_fits_1_snd (N : Nat) (f0 : Addr) (f1 : Addr) (f2 : Addr) (f3 : Addr) (Q : VP) (w : World) (h : F_entry_fits_1 N f0 f1 f2 f3 Q w) : Snd (cy N []) (bodyOf Try.f166) (retD (cy N []) Try.f166 Q) (entry 15 [(.pointer (some f0)), (.pointer (some f1)), (.pointer (some f2)), (.pointer (some f3))]) w :=
  (dsm h)

theorem entry_fits_1_calls (f0 : Addr) (f1 : Addr) (f2 : Addr) (f3 : Addr) (Q : VP) (w : World) (h : F_entry_fits_1 w.heap.size f0 f1 f2 f3 Q w) : Calls PP n_entry_fits_1 [(.pointer (some f0)), (.pointer (some f1)), (.pointer (some f2)), (.pointer (some f3))].toArray w fun e w' => ∃ v, e = .returned v ∧ Q v w' :=
  calls_of (C := cy w.heap.size []) (fn := Try.f166) (c := (bodyOf Try.f166)) (by kernel_rfl) (by kernel_rfl) (Nat.le_refl _) (entry_fits_1_snd _ f0 f1 f2 f3 Q w h)

/-! ### entry_fits_2 -/
def F_entry_fits_2 (N : Nat) (f0 : Addr) (f1 : Addr) (f2 : Addr) (f3 : Addr) (Q : VP) (w : World) : Prop :=
  ∃ n1 : Int, At w (addA f0 3) [(.int .i64 n1)] ∧ NotIn ((addA f0 3) : Addr).block [] ∧ ∃ b2 : Bool, At w f1 [(.bool b2)] ∧ NotIn (f1 : Addr).block [] ∧ IfB b2 (∃ n3 : Int, At w (addA f0 3) [(.int .i64 n3)] ∧ NotIn ((addA f0 3) : Addr).block [] ∧ ∃ n4 : Int, At w (addA f2 1) [(.int .i64 n4)] ∧ NotIn ((addA f2 1) : Addr).block [] ∧ CallL PP N w [] n_entry_index [(.int .i64 n3), (.int .i64 n4)] fun r6 w7 => ∃ b5 : Bool, r6 = (.bool b5) ∧ At w7 (addA f0 3) [(.int .i64 n1)] ∧ StL w7 [] (addA f3 3) [(.int .i64 n1)] fun w8 => StL w8 [] f1 [(.bool b5)] fun w9 => Reb N w9 [] (Q (.tuple #[]))) (StL w [] (addA f3 3) [(.int .i64 n1)] fun w10 => StL w10 [] f1 [(.bool false)] fun w11 => Reb N w11 [] (Q (.tuple #[])))

theorem entry_fits_2_snd (N : Nat) (f0 : Addr) (f1 : Addr) (f2 : Addr) (f3 : Addr) (Q : VP) (w : World) (h : F_entry_fits_2 N f0 f1 f2 f3 Q w) : Snd (cy N []) (bodyOf Try.f168) (retD (cy N []) Try.f168 Q) (entry 15 [(.pointer (some f0)), (.pointer (some f1)), (.pointer (some f2)), (.pointer (some f3))]) w :=
  (dsm h)

theorem entry_fits_2_calls (f0 : Addr) (f1 : Addr) (f2 : Addr) (f3 : Addr) (Q : VP) (w : World) (h : F_entry_fits_2 w.heap.size f0 f1 f2 f3 Q w) : Calls PP n_entry_fits_2 [(.pointer (some f0)), (.pointer (some f1)), (.pointer (some f2)), (.pointer (some f3))].toArray w fun e w' => ∃ v, e = .returned v ∧ Q v w' :=
  calls_of (C := cy w.heap.size []) (fn := Try.f168) (c := (bodyOf Try.f168)) (by kernel_rfl) (by kernel_rfl) (Nat.le_refl _) (entry_fits_2_snd _ f0 f1 f2 f3 Q w h)

/-! ### entry_fits_3 -/
def F_entry_fits_3 (N : Nat) (low0 : Int) (high1 : Int) (f2 : Addr) (f3 : Addr) (f4 : Addr) (Q : VP) (w : World) : Prop :=
  ∃ n1 : Int, At w (addA f2 8) [(.int .i64 n1)] ∧ NotIn ((addA f2 8) : Addr).block [] ∧ ∃ b2 : Bool, At w f3 [(.bool b2)] ∧ NotIn (f3 : Addr).block [] ∧ IfB b2 (∃ n3 : Int, At w (addA f2 8) [(.int .i64 n3)] ∧ NotIn ((addA f2 8) : Addr).block [] ∧ CallL PP N w [] n_entry_between [(.int .i64 n3), (.int .i64 low0), (.int .i64 high1)] fun r5 w6 => ∃ b4 : Bool, r5 = (.bool b4) ∧ At w6 (addA f2 8) [(.int .i64 n1)] ∧ StL w6 [] (addA f4 8) [(.int .i64 n1)] fun w7 => StL w7 [] f3 [(.bool b4)] fun w8 => Reb N w8 [] (Q (.tuple #[]))) (StL w [] (addA f4 8) [(.int .i64 n1)] fun w9 => StL w9 [] f3 [(.bool false)] fun w10 => Reb N w10 [] (Q (.tuple #[])))

theorem entry_fits_3_snd (N : Nat) (low0 : Int) (high1 : Int) (f2 : Addr) (f3 : Addr) (f4 : Addr) (Q : VP) (w : World) (h : F_entry_fits_3 N low0 high1 f2 f3 f4 Q w) : Snd (cy N []) (bodyOf Try.f169) (retD (cy N []) Try.f169 Q) (entry 18 [(.int .i64 low0), (.int .i64 high1), (.pointer (some f2)), (.pointer (some f3)), (.pointer (some f4))]) w :=
  (dsm h)

theorem entry_fits_3_calls (low0 : Int) (high1 : Int) (f2 : Addr) (f3 : Addr) (f4 : Addr) (Q : VP) (w : World) (h : F_entry_fits_3 w.heap.size low0 high1 f2 f3 f4 Q w) : Calls PP n_entry_fits_3 [(.int .i64 low0), (.int .i64 high1), (.pointer (some f2)), (.pointer (some f3)), (.pointer (some f4))].toArray w fun e w' => ∃ v, e = .returned v ∧ Q v w' :=
  calls_of (C := cy w.heap.size []) (fn := Try.f169) (c := (bodyOf Try.f169)) (by kernel_rfl) (by kernel_rfl) (Nat.le_refl _) (entry_fits_3_snd _ low0 high1 f2 f3 f4 Q w h)

/-! ### entry_fits_4 -/
def F_entry_fits_4 (N : Nat) (f0 : Addr) (f1 : Addr) (f2 : Addr) (Q : VP) (w : World) : Prop :=
  ∃ n1 : Int, At w (addA f0 5) [(.int .i64 n1)] ∧ NotIn ((addA f0 5) : Addr).block [] ∧ ∃ b2 : Bool, At w f1 [(.bool b2)] ∧ NotIn (f1 : Addr).block [] ∧ IfB b2 (∃ n3 : Int, At w (addA f0 5) [(.int .i64 n3)] ∧ NotIn ((addA f0 5) : Addr).block [] ∧ CallL PP N w [] n_entry_between [(.int .i64 n3), (.int .i64 1), (.int .i64 1048576)] fun r5 w6 => ∃ b4 : Bool, r5 = (.bool b4) ∧ At w6 (addA f0 5) [(.int .i64 n1)] ∧ StL w6 [] (addA f2 5) [(.int .i64 n1)] fun w7 => StL w7 [] f1 [(.bool b4)] fun w8 => Reb N w8 [] (Q (.tuple #[]))) (StL w [] (addA f2 5) [(.int .i64 n1)] fun w9 => StL w9 [] f1 [(.bool false)] fun w10 => Reb N w10 [] (Q (.tuple #[])))

theorem entry_fits_4_snd (N : Nat) (f0 : Addr) (f1 : Addr) (f2 : Addr) (Q : VP) (w : World) (h : F_entry_fits_4 N f0 f1 f2 Q w) : Snd (cy N []) (bodyOf Try.f170) (retD (cy N []) Try.f170 Q) (entry 12 [(.pointer (some f0)), (.pointer (some f1)), (.pointer (some f2))]) w :=
  (dsm h)

theorem entry_fits_4_calls (f0 : Addr) (f1 : Addr) (f2 : Addr) (Q : VP) (w : World) (h : F_entry_fits_4 w.heap.size f0 f1 f2 Q w) : Calls PP n_entry_fits_4 [(.pointer (some f0)), (.pointer (some f1)), (.pointer (some f2))].toArray w fun e w' => ∃ v, e = .returned v ∧ Q v w' :=
  calls_of (C := cy w.heap.size []) (fn := Try.f170) (c := (bodyOf Try.f170)) (by kernel_rfl) (by kernel_rfl) (Nat.le_refl _) (entry_fits_4_snd _ f0 f1 f2 Q w h)

/-! ### entry_index -/
def F_entry_index (N : Nat) (n0 : Int) (size1 : Int) (Q : VP) (w : World) : Prop :=
  IfB (decide ((0 : Int) ≤ n0)) (Reb N w [] (Q (.bool (decide ((n0 : Int) < size1))))) (Reb N w [] (Q (.bool false)))

theorem entry_index_snd (N : Nat) (n0 : Int) (size1 : Int) (Q : VP) (w : World) (h : F_entry_index N n0 size1 Q w) : Snd (cy N []) (bodyOf Try.f167) (retD (cy N []) Try.f167 Q) (entry 12 [(.int .i64 n0), (.int .i64 size1)]) w :=
  (dsm h)

theorem entry_index_calls (n0 : Int) (size1 : Int) (Q : VP) (w : World) (h : F_entry_index w.heap.size n0 size1 Q w) : Calls PP n_entry_index [(.int .i64 n0), (.int .i64 size1)].toArray w fun e w' => ∃ v, e = .returned v ∧ Q v w' :=
  calls_of (C := cy w.heap.size []) (fn := Try.f167) (c := (bodyOf Try.f167)) (by kernel_rfl) (by kernel_rfl) (Nat.le_refl _) (entry_index_snd _ n0 size1 Q w h)

/-! ### entry_between -/
def F_entry_between (N : Nat) (n0 : Int) (low1 : Int) (high2 : Int) (Q : VP) (w : World) : Prop :=
  IfB (decide ((low1 : Int) ≤ n0)) (Reb N w [] (Q (.bool (decide ((n0 : Int) ≤ high2))))) (Reb N w [] (Q (.bool false)))

theorem entry_between_snd (N : Nat) (n0 : Int) (low1 : Int) (high2 : Int) (Q : VP) (w : World) (h : F_entry_between N n0 low1 high2 Q w) : Snd (cy N []) (bodyOf Try.f165) (retD (cy N []) Try.f165 Q) (entry 15 [(.int .i64 n0), (.int .i64 low1), (.int .i64 high2)]) w :=
  (dsm h)

theorem entry_between_calls (n0 : Int) (low1 : Int) (high2 : Int) (Q : VP) (w : World) (h : F_entry_between w.heap.size n0 low1 high2 Q w) : Calls PP n_entry_between [(.int .i64 n0), (.int .i64 low1), (.int .i64 high2)].toArray w fun e w' => ∃ v, e = .returned v ∧ Q v w' :=
  calls_of (C := cy w.heap.size []) (fn := Try.f165) (c := (bodyOf Try.f165)) (by kernel_rfl) (by kernel_rfl) (Nat.le_refl _) (entry_between_snd _ n0 low1 high2 Q w h)

/-! ### entry_places -/
def F_entry_places (N : Nat) (e0 : Option Addr) (Q : VP) (w : World) : Prop :=
  ∀ b1 : Nat, w.heap.size ≤ b1 → NilL e0 fun q2 => NilL e0 fun q3 => NilL e0 fun q4 => NilL e0 fun q5 => NilL e0 fun q6 => NilL e0 fun q7 => NilL e0 fun q8 => NilL e0 fun q9 => NilL e0 fun q10 => Reb N w [⟨b1, (⟨(some q2), (some (addA q3 1)), (some (addA q4 2)), (some (addA q5 3)), (some (addA q6 4)), (some (addA q7 5)), (some (addA q8 6)), (some (addA q9 7)), (some (addA q10 8))⟩ : G_ar9_p_i64).cells, t_ar9_p_i64⟩] (Q (.agg (List.toArray (⟨(some q2), (some (addA q3 1)), (some (addA q4 2)), (some (addA q5 3)), (some (addA q6 4)), (some (addA q7 5)), (some (addA q8 6)), (some (addA q9 7)), (some (addA q10 8))⟩ : G_ar9_p_i64).cells)))

theorem entry_places_snd (N : Nat) (e0 : Option Addr) (Q : VP) (w : World) (h : F_entry_places N e0 Q w) : Snd (cy N [2]) (bodyOf Try.f136) (retD (cy N [2]) Try.f136 Q) (entry 31 [(.pointer e0)]) w :=
  (dsm h)

theorem entry_places_calls (e0 : Option Addr) (Q : VP) (w : World) (h : F_entry_places w.heap.size e0 Q w) : Calls PP n_entry_places [(.pointer e0)].toArray w fun e w' => ∃ v, e = .returned v ∧ Q v w' :=
  calls_of (C := cy w.heap.size [2]) (fn := Try.f136) (c := (bodyOf Try.f136)) (by kernel_rfl) (by kernel_rfl) (Nat.le_refl _) (entry_places_snd _ e0 Q w h)

/-! ### wire_Int -/
def F_wire_Int (N : Nat) (b0 : Sl) (n1 : Int) (Q : VP) (w : World) : Prop :=
  CallL PP N w [] n_wire_copied [(.slice b0.a b0.n b0.c)] fun r2 w3 => ∃ l1 : Sl, r2 = (.slice l1.a l1.n l1.c) ∧ CallL PP N w3 [] n_wire_put [(.slice l1.a l1.n l1.c), (.int .i64 n1)] fun r5 w6 => ∃ l4 : Sl, r5 = (.slice l4.a l4.n l4.c) ∧ Reb N w6 [] (Q (.slice l4.a l4.n l4.c))

theorem wire_Int_snd (N : Nat) (b0 : Sl) (n1 : Int) (Q : VP) (w : World) (h : F_wire_Int N b0 n1 Q w) : Snd (cy N []) (bodyOf Try.f133) (retD (cy N []) Try.f133 Q) (entry 9 [(.slice b0.a b0.n b0.c), (.int .i64 n1)]) w :=
  (dsm h)

theorem wire_Int_calls (b0 : Sl) (n1 : Int) (Q : VP) (w : World) (h : F_wire_Int w.heap.size b0 n1 Q w) : Calls PP n_wire_Int [(.slice b0.a b0.n b0.c), (.int .i64 n1)].toArray w fun e w' => ∃ v, e = .returned v ∧ Q v w' :=
  calls_of (C := cy w.heap.size []) (fn := Try.f133) (c := (bodyOf Try.f133)) (by kernel_rfl) (by kernel_rfl) (Nat.le_refl _) (wire_Int_snd _ b0 n1 Q w h)

/-! ### wire_put -/
def C_wire_put_3 (N : Nat) (Q : VP) (b0' : Sl) (code5' : Int) (w : World) : Prop :=
  NewL N w [] [(.int .u8 (IntKind.u8.wrap code5'))] t_u8 fun b1 w2 => RunL PP N w2 [] (Builtin.append_ #[t_sl_u8, t_sl_u8] t_sl_u8 #[(.slice b0'.a b0'.n b0'.c), (.slice (some ⟨b1, 0, none⟩) 1 1)]) fun r4 w5 => ∃ l3 : Sl, r4 = (.slice l3.a l3.n l3.c) ∧ Reb N w5 [] (Q (.slice l3.a l3.n l3.c))

noncomputable def H_wire_put_3 (N : Nat) (Q : VP) : St → World → Prop := HG N 28 [.v 0 .l, .v 5 (.i .u64)] (C_wire_put_3 N Q)

theorem T_wire_put_3 (N : Nat) (Q : VP) (s : St) (w : World) (h : H_wire_put_3 N Q s w) : Snd (cy N []) (cR (cR (cR (bodyOf Try.f155)))) (retD (cy N []) Try.f155 Q) s w :=
  Snd.HG h fun _ _ _ h => dsm h

def D_wire_put_4 (K : (Unit) → (Sl × Int) → Prop) : List Value → List LB → Prop := fun vs ls => match vs, ls with
  | [.slice b0'_a b0'_n b0'_c, .int .u64 code5'], [] => K () (⟨b0'_a, b0'_n, b0'_c⟩, code5')
  | _, _ => False

noncomputable def z_wire_put_0 (N : Nat) (Q : VP) : Cont := (inBlockD 0 (thenD (H_wire_put_3 N Q) (retD (cy N []) Try.f155 Q)))

def B_wire_put_4 (N : Nat) (K1 : (Unit) → (Sl × Int) → World → Prop) (Q : VP) (b0' : Sl) (code5' : Int) (w : World) : Prop :=
  IfB (decide ((128 : Int) ≤ code5')) (NewL N w [] [(.int .u8 (IntKind.u8.wrap ((BitVec.ofInt (IntKind.u8).bits (IntKind.u8.wrap code5') ||| BitVec.ofInt (IntKind.u8).bits 128).toNat)))] t_u8 fun b6 w7 => RunL PP N w7 [] (Builtin.append_ #[t_sl_u8, t_sl_u8] t_sl_u8 #[(.slice b0'.a b0'.n b0'.c), (.slice (some ⟨b6, 0, none⟩) 1 1)]) fun r9 w10 => ∃ l8 : Sl, r9 = (.slice l8.a l8.n l8.c) ∧ (0 : Int) ≤ 7 ∧ Reb N w10 [] fun w11 => K1 () (l8, (Int.fdiv code5' (2 ^ (min (Int.toNat 7) (IntKind.u64).bits)))) w11) (Reb N w [] fun w12 => C_wire_put_3 N Q b0' code5' w12)

theorem X_wire_put_4 {N : Nat} {K1 : (Unit) → (Sl × Int) → World → Prop} {Q : VP} {b0' : Sl} {code5' : Int} {w : World} (h : B_wire_put_4 N K1 Q b0' code5' w) : Snd (cy N []) (cL (cL (cL (cR (cR (bodyOf Try.f155)))))) (thenD (HeadK N 28 [.val 0, .val 5] D_wire_put_4 K1) (z_wire_put_0 N Q)) (mkS 28 [.val 0, .val 5] [(.slice b0'.a b0'.n b0'.c), (.int .u64 code5')] []) w :=
  (dsm h)

def L_wire_put_4 (N : Nat) (Q : VP) (K1 : (Unit) → (Sl × Int) → World → Prop) (c : Unit) (x : Sl × Int) (w : World) : Prop := match c, x with
  | (), (b0', code5') => B_wire_put_4 N K1 Q b0' code5' w

theorem T_wire_put_4 (N : Nat) (Q : VP) {s : St} {w : World} (h : HeadE N 28 [.val 0, .val 5] D_wire_put_4 (L_wire_put_4 N Q) s w) : Snd (cy N []) (cL (cL (cR (cR (bodyOf Try.f155))))) (z_wire_put_0 N Q) s w := by
  refine Snd.cast (c' := .loop (cL (cL (cL (cR (cR (bodyOf Try.f155))))))) (by kernel_rfl) (Snd.loopC (fun (c : Unit) (x : Sl × Int) => match c, x with | (), (b0', code5') => ([(.slice b0'.a b0'.n b0'.c), (.int .u64 code5')], [])) ?_ ?_ h)
  · intro K vs ls h
    unfold D_wire_put_4 at h
    split at h
    · exact ⟨_, _, rfl, h⟩
    · exact h.elim
  · rintro K ⟨⟩ ⟨b0', code5'⟩ w h
    exact X_wire_put_4 h

def C_wire_put_2 (N : Nat) (Q : VP) (b0' : Sl) (code5' : Int) (w : World) : Prop :=
  LoopC N w [] (() : Unit) ((b0', code5') : Sl × Int) (L_wire_put_4 N Q)

noncomputable def H_wire_put_2 (N : Nat) (Q : VP) : St → World → Prop := HG N 28 [.v 0 .l, .v 5 (.i .u64)] (C_wire_put_2 N Q)

theorem T_wire_put_2 (N : Nat) (Q : VP) (s : St) (w : World) (h : H_wire_put_2 N Q s w) : Snd (cy N []) (cR (cR (bodyOf Try.f155))) (retD (cy N []) Try.f155 Q) s w :=
  Snd.HG h fun b0' code5' w h => (sq (H_wire_put_3 N Q) (bk 0 (T_wire_put_4 N Q (mpr' (by kernel_rfl) h))) (T_wire_put_3 N Q))

def C_wire_put_1 (N : Nat) (Q : VP) (b0' : Sl) (n1' : Int) (w : World) : Prop :=
  (0 : Int) ≤ 1 ∧ (0 : Int) ≤ 63 ∧ Reb N w [] fun w13 => C_wire_put_2 N Q b0' (IntKind.u64.wrap ((BitVec.ofInt (IntKind.u64).bits (IntKind.u64.wrap ((IntKind.u64.wrap n1') * 2 ^ (min (Int.toNat 1) (IntKind.u64).bits))) ^^^ BitVec.ofInt (IntKind.u64).bits (IntKind.u64.wrap (Int.fdiv n1' (2 ^ (min (Int.toNat 63) (IntKind.i64).bits))))).toNat)) w13

noncomputable def H_wire_put_1 (N : Nat) (Q : VP) : St → World → Prop := HG N 28 [.v 0 .l, .v 1 (.i .i64)] (C_wire_put_1 N Q)

theorem T_wire_put_1 (N : Nat) (Q : VP) (s : St) (w : World) (h : H_wire_put_1 N Q s w) : Snd (cy N []) (cR (bodyOf Try.f155)) (retD (cy N []) Try.f155 Q) s w :=
  Snd.HG h fun b0' n1' w h => (sq (H_wire_put_2 N Q) (dsm h) (T_wire_put_2 N Q))

def F_wire_put (N : Nat) (b0 : Sl) (n1 : Int) (Q : VP) (w : World) : Prop :=
  Reb N w [] fun w14 => C_wire_put_1 N Q b0 n1 w14

theorem wire_put_snd (N : Nat) (b0 : Sl) (n1 : Int) (Q : VP) (w : World) (h : F_wire_put N b0 n1 Q w) : Snd (cy N []) (bodyOf Try.f155) (retD (cy N []) Try.f155 Q) (entry 28 [(.slice b0.a b0.n b0.c), (.int .i64 n1)]) w :=
  (sq (H_wire_put_1 N Q) (dsm h) (T_wire_put_1 N Q))

theorem wire_put_calls (b0 : Sl) (n1 : Int) (Q : VP) (w : World) (h : F_wire_put w.heap.size b0 n1 Q w) : Calls PP n_wire_put [(.slice b0.a b0.n b0.c), (.int .i64 n1)].toArray w fun e w' => ∃ v, e = .returned v ∧ Q v w' :=
  calls_of (C := cy w.heap.size []) (fn := Try.f155) (c := (bodyOf Try.f155)) (by kernel_rfl) (by kernel_rfl) (Nat.le_refl _) (wire_put_snd _ b0 n1 Q w h)

/-! ### wire_copied -/
def F_wire_copied (N : Nat) (b0 : Sl) (Q : VP) (w : World) : Prop :=
  RunL PP N w [] (Builtin.append_ #[t_sl_u8, t_sl_u8] t_sl_u8 #[(.slice none 0 0), (.slice b0.a b0.n b0.c)]) fun r2 w3 => ∃ l1 : Sl, r2 = (.slice l1.a l1.n l1.c) ∧ Reb N w3 [] (Q (.slice l1.a l1.n l1.c))

theorem wire_copied_snd (N : Nat) (b0 : Sl) (Q : VP) (w : World) (h : F_wire_copied N b0 Q w) : Snd (cy N []) (bodyOf Try.f156) (retD (cy N []) Try.f156 Q) (entry 5 [(.slice b0.a b0.n b0.c)]) w :=
  (dsm h)

theorem wire_copied_calls (b0 : Sl) (Q : VP) (w : World) (h : F_wire_copied w.heap.size b0 Q w) : Calls PP n_wire_copied [(.slice b0.a b0.n b0.c)].toArray w fun e w' => ∃ v, e = .returned v ∧ Q v w' :=
  calls_of (C := cy w.heap.size []) (fn := Try.f156) (c := (bodyOf Try.f156)) (by kernel_rfl) (by kernel_rfl) (Nat.le_refl _) (wire_copied_snd _ b0 Q w h)
end Go.Sh
