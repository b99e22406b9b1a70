/- What these functions do, told by computation: a formula for each, and that its calls do what the formula says.
   Conditions: none. -/
import Derived.Test.YtoenaheehpjmiaaBase
namespace Go.Sh
open Go Go.Proofs
set_option linter.unusedVariables false
set_option maxRecDepth 100000

/-! ### disk_Disk_Bytes -/
def F_disk_Disk_Bytes (N : Nat) (d0 : Option Addr) (Q : VP) (w : World) : Prop :=
  NilL d0 fun q1 => ∃ l2 : Sl, At w q1 [(.slice l2.a l2.n l2.c)] ∧ NotIn (q1 : Addr).block [] ∧ NilL d0 fun q3 => ∃ l4 : Sl, At w q3 [(.slice l4.a l4.n l4.c)] ∧ NotIn (q3 : Addr).block [] ∧ (0 : Int) ≤ ((l4.n : Nat) : Int) ∧ (((l4.n : Nat) : Int) : Int) ≤ (l2.c : Nat) ∧ RunL PP N w [] (Builtin.append_ #[t_sl_u8, t_sl_u8] t_sl_u8 #[(.slice none 0 0), (.slice l2.a (Int.toNat ((l4.n : Nat) : Int)) l2.c)]) fun r6 w7 => ∃ l5 : Sl, r6 = (.slice l5.a l5.n l5.c) ∧ Reb N w7 [] (Q (.slice l5.a l5.n l5.c))

theorem disk_Disk_Bytes_snd (N : Nat) (d0 : Option Addr) (Q : VP) (w : World) (h : F_disk_Disk_Bytes N d0 Q w) : Snd (cy N []) (bodyOf Try.f47) (retD (cy N []) Try.f47 Q) (entry 14 [(.pointer d0)]) w :=
  (dsm h)

theorem disk_Disk_Bytes_calls (d0 : Option Addr) (Q : VP) (w : World) (h : F_disk_Disk_Bytes w.heap.size d0 Q w) : Calls PP n_disk_Disk_Bytes [(.pointer d0)].toArray w fun e w' => ∃ v, e = .returned v ∧ Q v w' :=
  calls_of (C := cy w.heap.size []) (fn := Try.f47) (c := (bodyOf Try.f47)) (by kernel_rfl) (by kernel_rfl) (Nat.le_refl _) (disk_Disk_Bytes_snd _ d0 Q w h)

/-! ### disk_Disk_Crash -/
def F_disk_Disk_Crash (N : Nat) (d0 : Option Addr) (keep1 : Int) (Q : VP) (w : World) : Prop :=
  NilL d0 fun q1 => ∃ l2 : Sl, At w q1 [(.slice l2.a l2.n l2.c)] ∧ NotIn (q1 : Addr).block [] ∧ NilL d0 fun q3 => ∃ n4 : Int, At w (addA q3 1) [(.int .i64 n4)] ∧ NotIn ((addA q3 1) : Addr).block [] ∧ NilL d0 fun q5 => ∃ l6 : Sl, At w q5 [(.slice l6.a l6.n l6.c)] ∧ NotIn (q5 : Addr).block [] ∧ NilL d0 fun q7 => ∃ n8 : Int, At w (addA q7 1) [(.int .i64 n8)] ∧ NotIn ((addA q7 1) : Addr).block [] ∧ (0 : Int) ≤ (IntKind.i64.wrap (n8 + (if (if (IntKind.i64.wrap (((l2.n : Nat) : Int) - n4)) < keep1 then (IntKind.i64.wrap (((l2.n : Nat) : Int) - n4)) else keep1) > 0 then (if (IntKind.i64.wrap (((l2.n : Nat) : Int) - n4)) < keep1 then (IntKind.i64.wrap (((l2.n : Nat) : Int) - n4)) else keep1) else 0))) ∧ ((IntKind.i64.wrap (n8 + (if (if (IntKind.i64.wrap (((l2.n : Nat) : Int) - n4)) < keep1 then (IntKind.i64.wrap (((l2.n : Nat) : Int) - n4)) else keep1) > 0 then (if (IntKind.i64.wrap (((l2.n : Nat) : Int) - n4)) < keep1 then (IntKind.i64.wrap (((l2.n : Nat) : Int) - n4)) else keep1) else 0))) : Int) ≤ (l6.c : Nat) ∧ NilL d0 fun q9 => StL w [] q9 [(.slice l6.a (Int.toNat (IntKind.i64.wrap (n8 + (if (if (IntKind.i64.wrap (((l2.n : Nat) : Int) - n4)) < keep1 then (IntKind.i64.wrap (((l2.n : Nat) : Int) - n4)) else keep1) > 0 then (if (IntKind.i64.wrap (((l2.n : Nat) : Int) - n4)) < keep1 then (IntKind.i64.wrap (((l2.n : Nat) : Int) - n4)) else keep1) else 0)))) l6.c)] fun w10 => NilL d0 fun q11 => ∃ l12 : Sl, At w10 q11 [(.slice l12.a l12.n l12.c)] ∧ NotIn (q11 : Addr).block [] ∧ NilL d0 fun q13 => StL w10 [] (addA q13 1) [(.int .i64 ((l12.n : Nat) : Int))] fun w14 => Reb N w14 [] (Q (.tuple #[]))

theorem disk_Disk_Crash_snd (N : Nat) (d0 : Option Addr) (keep1 : Int) (Q : VP) (w : World) (h : F_disk_Disk_Crash N d0 keep1 Q w) : Snd (cy N []) (bodyOf Try.f75) (retD (cy N []) Try.f75 Q) (entry 40 [(.pointer d0), (.int .i64 keep1)]) w :=
  (dsm h)

theorem disk_Disk_Crash_calls (d0 : Option Addr) (keep1 : Int) (Q : VP) (w : World) (h : F_disk_Disk_Crash w.heap.size d0 keep1 Q w) : Calls PP n_disk_Disk_Crash [(.pointer d0), (.int .i64 keep1)].toArray w fun e w' => ∃ v, e = .returned v ∧ Q v w' :=
  calls_of (C := cy w.heap.size []) (fn := Try.f75) (c := (bodyOf Try.f75)) (by kernel_rfl) (by kernel_rfl) (Nat.le_refl _) (disk_Disk_Crash_snd _ d0 keep1 Q w h)

/-! ### disk_Disk_Copy -/
def F_disk_Disk_Copy (N : Nat) (d0 : Option Addr) (Q : VP) (w : World) : Prop :=
  NilL d0 fun q1 => ∃ n2 : Int, At w (addA q1 1) [(.int .i64 n2)] ∧ NotIn ((addA q1 1) : Addr).block [] ∧ CallL PP N w [] n_disk_Disk_Bytes [(.pointer d0)] fun r4 w5 => ∃ l3 : Sl, r4 = (.slice l3.a l3.n l3.c) ∧ At w5 (addA q1 1) [(.int .i64 n2)] ∧ NewL N w5 [] (⟨l3, n2⟩ : G_disk_Disk).cells t_disk_Disk fun b6 w7 => Reb N w7 [] (Q (.pointer (some ⟨b6, 0, none⟩)))

theorem disk_Disk_Copy_snd (N : Nat) (d0 : Option Addr) (Q : VP) (w : World) (h : F_disk_Disk_Copy N d0 Q w) : Snd (cy N []) (bodyOf Try.f99) (retD (cy N []) Try.f99 Q) (entry 11 [(.pointer d0)]) w :=
  (dsm h)

theorem disk_Disk_Copy_calls (d0 : Option Addr) (Q : VP) (w : World) (h : F_disk_Disk_Copy w.heap.size d0 Q w) : Calls PP n_disk_Disk_Copy [(.pointer d0)].toArray w fun e w' => ∃ v, e = .returned v ∧ Q v w' :=
  calls_of (C := cy w.heap.size []) (fn := Try.f99) (c := (bodyOf Try.f99)) (by kernel_rfl) (by kernel_rfl) (Nat.le_refl _) (disk_Disk_Copy_snd _ d0 Q w h)

/-! ### cellplaneref07_New -/
def F_cellplaneref07_New (N : Nat)  (Q : VP) (w : World) : Prop :=
  NewL N w [] (⟨(⟨none, 0, 0⟩ : Sl), 0⟩ : G_cellplaneref07_Disk).cells t_cellplaneref07_Disk fun b1 w2 => Reb N w2 [] (Q (.pointer (some ⟨b1, 0, none⟩)))

theorem cellplaneref07_New_snd (N : Nat)  (Q : VP) (w : World) (h : F_cellplaneref07_New N  Q w) : Snd (cy N []) (bodyOf Try.f85) (retD (cy N []) Try.f85 Q) (entry 3 []) w :=
  (dsm h)

theorem cellplaneref07_New_calls  (Q : VP) (w : World) (h : F_cellplaneref07_New w.heap.size  Q w) : Calls PP n_cellplaneref07_New [].toArray w fun e w' => ∃ v, e = .returned v ∧ Q v w' :=
  calls_of (C := cy w.heap.size []) (fn := Try.f85) (c := (bodyOf Try.f85)) (by kernel_rfl) (by kernel_rfl) (Nat.le_refl _) (cellplaneref07_New_snd _  Q w h)

/-! ### cellplaneref07_Disk_Append -/
def F_cellplaneref07_Disk_Append (N : Nat) (d0 : Option Addr) (b1 : Sl) (Q : VP) (w : World) : Prop :=
  NewL N w [] [] t_u8 fun b2 w3 => NilL d0 fun q4 => ∃ l5 : Sl, At w3 q4 [(.slice l5.a l5.n l5.c)] ∧ NotIn (q4 : Addr).block [] ∧ RunL PP N w3 [] (Builtin.append_ #[t_sl_u8, t_sl_u8] t_sl_u8 #[(.slice (some ⟨b2, 0, none⟩) 0 0), (.slice l5.a l5.n l5.c)]) fun r7 w8 => ∃ l6 : Sl, r7 = (.slice l6.a l6.n l6.c) ∧ RunL PP N w8 [] (Builtin.append_ #[t_sl_u8, t_sl_u8] t_sl_u8 #[(.slice l6.a l6.n l6.c), (.slice b1.a b1.n b1.c)]) fun r10 w11 => ∃ l9 : Sl, r10 = (.slice l9.a l9.n l9.c) ∧ NilL d0 fun q12 => StL w11 [] q12 [(.slice l9.a l9.n l9.c)] fun w13 => Reb N w13 [] (Q (.tuple #[]))

theorem cellplaneref07_Disk_Append_snd (N : Nat) (d0 : Option Addr) (b1 : Sl) (Q : VP) (w : World) (h : F_cellplaneref07_Disk_Append N d0 b1 Q w) : Snd (cy N []) (bodyOf Try.f96) (retD (cy N []) Try.f96 Q) (entry 15 [(.pointer d0), (.slice b1.a b1.n b1.c)]) w :=
  (dsm h)

theorem cellplaneref07_Disk_Append_calls (d0 : Option Addr) (b1 : Sl) (Q : VP) (w : World) (h : F_cellplaneref07_Disk_Append w.heap.size d0 b1 Q w) : Calls PP n_cellplaneref07_Disk_Append [(.pointer d0), (.slice b1.a b1.n b1.c)].toArray w fun e w' => ∃ v, e = .returned v ∧ Q v w' :=
  calls_of (C := cy w.heap.size []) (fn := Try.f96) (c := (bodyOf Try.f96)) (by kernel_rfl) (by kernel_rfl) (Nat.le_refl _) (cellplaneref07_Disk_Append_snd _ d0 b1 Q w h)

/-! ### cellplaneref07_Disk_Sync -/
def F_cellplaneref07_Disk_Sync (N : Nat) (d0 : Option Addr) (Q : VP) (w : World) : Prop :=
  NilL d0 fun q1 => ∃ l2 : Sl, At w q1 [(.slice l2.a l2.n l2.c)] ∧ NotIn (q1 : Addr).block [] ∧ NilL d0 fun q3 => StL w [] (addA q3 1) [(.int .i64 ((l2.n : Nat) : Int))] fun w4 => Reb N w4 [] (Q (.tuple #[]))

theorem cellplaneref07_Disk_Sync_snd (N : Nat) (d0 : Option Addr) (Q : VP) (w : World) (h : F_cellplaneref07_Disk_Sync N d0 Q w) : Snd (cy N []) (bodyOf Try.f97) (retD (cy N []) Try.f97 Q) (entry 10 [(.pointer d0)]) w :=
  (dsm h)

theorem cellplaneref07_Disk_Sync_calls (d0 : Option Addr) (Q : VP) (w : World) (h : F_cellplaneref07_Disk_Sync w.heap.size d0 Q w) : Calls PP n_cellplaneref07_Disk_Sync [(.pointer d0)].toArray w fun e w' => ∃ v, e = .returned v ∧ Q v w' :=
  calls_of (C := cy w.heap.size []) (fn := Try.f97) (c := (bodyOf Try.f97)) (by kernel_rfl) (by kernel_rfl) (Nat.le_refl _) (cellplaneref07_Disk_Sync_snd _ d0 Q w h)

/-! ### cellplaneref07_Disk_Truncate -/
def F_cellplaneref07_Disk_Truncate (N : Nat) (d0 : Option Addr) (n1 : Int) (Q : VP) (w : World) : Prop :=
  IfB (decide ((n1 : Int) < 0)) (Reb N w [] (Q (.int .i64 1))) (NilL d0 fun q1 => ∃ l2 : Sl, At w q1 [(.slice l2.a l2.n l2.c)] ∧ NotIn (q1 : Addr).block [] ∧ IfB (decide ((((l2.n : Nat) : Int) : Int) < n1)) (Reb N w [] (Q (.int .i64 1))) (NewL N w [] [] t_u8 fun b3 w4 => NilL d0 fun q5 => ∃ l6 : Sl, At w4 q5 [(.slice l6.a l6.n l6.c)] ∧ NotIn (q5 : Addr).block [] ∧ (0 : Int) ≤ n1 ∧ (n1 : Int) ≤ (l6.c : Nat) ∧ RunL PP N w4 [] (Builtin.append_ #[t_sl_u8, t_sl_u8] t_sl_u8 #[(.slice (some ⟨b3, 0, none⟩) 0 0), (.slice l6.a (Int.toNat n1) l6.c)]) fun r8 w9 => ∃ l7 : Sl, r8 = (.slice l7.a l7.n l7.c) ∧ NilL d0 fun q10 => StL w9 [] q10 [(.slice l7.a l7.n l7.c)] fun w11 => NilL d0 fun q12 => ∃ n13 : Int, At w11 (addA q12 1) [(.int .i64 n13)] ∧ NotIn ((addA q12 1) : Addr).block [] ∧ NilL d0 fun q14 => StL w11 [] (addA q14 1) [(.int .i64 (if n1 < n13 then n1 else n13))] fun w15 => Reb N w15 [] (Q (.int .i64 0))))

theorem cellplaneref07_Disk_Truncate_snd (N : Nat) (d0 : Option Addr) (n1 : Int) (Q : VP) (w : World) (h : F_cellplaneref07_Disk_Truncate N d0 n1 Q w) : Snd (cy N []) (bodyOf Try.f144) (retD (cy N []) Try.f144 Q) (entry 36 [(.pointer d0), (.int .i64 n1)]) w :=
  (dsm h)

theorem cellplaneref07_Disk_Truncate_calls (d0 : Option Addr) (n1 : Int) (Q : VP) (w : World) (h : F_cellplaneref07_Disk_Truncate w.heap.size d0 n1 Q w) : Calls PP n_cellplaneref07_Disk_Truncate [(.pointer d0), (.int .i64 n1)].toArray w fun e w' => ∃ v, e = .returned v ∧ Q v w' :=
  calls_of (C := cy w.heap.size []) (fn := Try.f144) (c := (bodyOf Try.f144)) (by kernel_rfl) (by kernel_rfl) (Nat.le_refl _) (cellplaneref07_Disk_Truncate_snd _ d0 n1 Q w h)

/-! ### cellplaneref07_Disk_Crash -/
def F_cellplaneref07_Disk_Crash (N : Nat) (d0 : Option Addr) (keep1 : Int) (Q : VP) (w : World) : Prop :=
  NilL d0 fun q1 => ∃ n2 : Int, At w (addA q1 1) [(.int .i64 n2)] ∧ NotIn ((addA q1 1) : Addr).block [] ∧ NilL d0 fun q3 => ∃ l4 : Sl, At w q3 [(.slice l4.a l4.n l4.c)] ∧ NotIn (q3 : Addr).block [] ∧ NilL d0 fun q5 => ∃ n6 : Int, At w (addA q5 1) [(.int .i64 n6)] ∧ NotIn ((addA q5 1) : Addr).block [] ∧ NewL N w [] [] t_u8 fun b7 w8 => NilL d0 fun q9 => ∃ l10 : Sl, At w8 q9 [(.slice l10.a l10.n l10.c)] ∧ NotIn (q9 : Addr).block [] ∧ (0 : Int) ≤ (IntKind.i64.wrap (n2 + (if (IntKind.i64.wrap (((l4.n : Nat) : Int) - n6)) < (if 0 > keep1 then 0 else keep1) then (IntKind.i64.wrap (((l4.n : Nat) : Int) - n6)) else (if 0 > keep1 then 0 else keep1)))) ∧ ((IntKind.i64.wrap (n2 + (if (IntKind.i64.wrap (((l4.n : Nat) : Int) - n6)) < (if 0 > keep1 then 0 else keep1) then (IntKind.i64.wrap (((l4.n : Nat) : Int) - n6)) else (if 0 > keep1 then 0 else keep1)))) : Int) ≤ (l10.c : Nat) ∧ RunL PP N w8 [] (Builtin.append_ #[t_sl_u8, t_sl_u8] t_sl_u8 #[(.slice (some ⟨b7, 0, none⟩) 0 0), (.slice l10.a (Int.toNat (IntKind.i64.wrap (n2 + (if (IntKind.i64.wrap (((l4.n : Nat) : Int) - n6)) < (if 0 > keep1 then 0 else keep1) then (IntKind.i64.wrap (((l4.n : Nat) : Int) - n6)) else (if 0 > keep1 then 0 else keep1))))) l10.c)]) fun r12 w13 => ∃ l11 : Sl, r12 = (.slice l11.a l11.n l11.c) ∧ NilL d0 fun q14 => StL w13 [] q14 [(.slice l11.a l11.n l11.c)] fun w15 => NilL d0 fun q16 => StL w15 [] (addA q16 1) [(.int .i64 (IntKind.i64.wrap (n2 + (if (IntKind.i64.wrap (((l4.n : Nat) : Int) - n6)) < (if 0 > keep1 then 0 else keep1) then (IntKind.i64.wrap (((l4.n : Nat) : Int) - n6)) else (if 0 > keep1 then 0 else keep1)))))] fun w17 => Reb N w17 [] (Q (.tuple #[]))

theorem cellplaneref07_Disk_Crash_snd (N : Nat) (d0 : Option Addr) (keep1 : Int) (Q : VP) (w : World) (h : F_cellplaneref07_Disk_Crash N d0 keep1 Q w) : Snd (cy N []) (bodyOf Try.f140) (retD (cy N []) Try.f140 Q) (entry 38 [(.pointer d0), (.int .i64 keep1)]) w :=
  (dsm h)

theorem cellplaneref07_Disk_Crash_calls (d0 : Option Addr) (keep1 : Int) (Q : VP) (w : World) (h : F_cellplaneref07_Disk_Crash w.heap.size d0 keep1 Q w) : Calls PP n_cellplaneref07_Disk_Crash [(.pointer d0), (.int .i64 keep1)].toArray w fun e w' => ∃ v, e = .returned v ∧ Q v w' :=
  calls_of (C := cy w.heap.size []) (fn := Try.f140) (c := (bodyOf Try.f140)) (by kernel_rfl) (by kernel_rfl) (Nat.le_refl _) (cellplaneref07_Disk_Crash_snd _ d0 keep1 Q w h)

/-! ### journal_New -/
def F_journal_New (N : Nat)  (Q : VP) (w : World) : Prop :=
  CallL PP N w [] n_disk_New [] fun r2 w3 => ∃ p1 : Option Addr, r2 = (.pointer p1) ∧ NewL N w3 [] (⟨p1, 0, (-1), (⟨none, 0, 0⟩ : Sl)⟩ : G_journal_Journal).cells t_journal_Journal fun b4 w5 => Reb N w5 [] (Q (.pointer (some ⟨b4, 0, none⟩)))

theorem journal_New_snd (N : Nat)  (Q : VP) (w : World) (h : F_journal_New N  Q w) : Snd (cy N []) (bodyOf Try.f30) (retD (cy N []) Try.f30 Q) (entry 4 []) w :=
  (dsm h)

theorem journal_New_calls  (Q : VP) (w : World) (h : F_journal_New w.heap.size  Q w) : Calls PP n_journal_New [].toArray w fun e w' => ∃ v, e = .returned v ∧ Q v w' :=
  calls_of (C := cy w.heap.size []) (fn := Try.f30) (c := (bodyOf Try.f30)) (by kernel_rfl) (by kernel_rfl) (Nat.le_refl _) (journal_New_snd _  Q w h)

/-! ### journal_Open -/
def F_journal_Open (N : Nat) (b0 : Sl) (Q : VP) (w : World) : Prop :=
  CallL PP N w [] n_journal_New [] fun r2 w3 => ∃ p1 : Option Addr, r2 = (.pointer p1) ∧ NilL p1 fun q4 => ∃ p5 : Option Addr, At w3 q4 [(.pointer p5)] ∧ NotIn (q4 : Addr).block [] ∧ CallL PP N w3 [] n_disk_Disk_Append [(.pointer p5), (.slice b0.a b0.n b0.c)] fun r6 w7 => r6 = (.tuple #[]) ∧ NilL p1 fun q8 => ∃ p9 : Option Addr, At w7 q8 [(.pointer p9)] ∧ NotIn (q8 : Addr).block [] ∧ CallL PP N w7 [] n_disk_Disk_Sync [(.pointer p9)] fun r10 w11 => r10 = (.tuple #[]) ∧ CallL PP N w11 [] n_journal_Journal_Crash [(.pointer p1), (.int .i64 0)] fun r12 w13 => r12 = (.tuple #[]) ∧ Reb N w13 [] (Q (.pointer p1))

theorem journal_Open_snd (N : Nat) (b0 : Sl) (Q : VP) (w : World) (h : F_journal_Open N b0 Q w) : Snd (cy N []) (bodyOf Try.f43) (retD (cy N []) Try.f43 Q) (entry 19 [(.slice b0.a b0.n b0.c)]) w :=
  (dsm h)

theorem journal_Open_calls (b0 : Sl) (Q : VP) (w : World) (h : F_journal_Open w.heap.size b0 Q w) : Calls PP n_journal_Open [(.slice b0.a b0.n b0.c)].toArray w fun e w' => ∃ v, e = .returned v ∧ Q v w' :=
  calls_of (C := cy w.heap.size []) (fn := Try.f43) (c := (bodyOf Try.f43)) (by kernel_rfl) (by kernel_rfl) (Nat.le_refl _) (journal_Open_snd _ b0 Q w h)

/-! ### journal_Journal_Term -/
def F_journal_Journal_Term (N : Nat) (j0 : Option Addr) (Q : VP) (w : World) : Prop :=
  NilL j0 fun q1 => ∃ n2 : Int, At w (addA q1 1) [(.int .i64 n2)] ∧ NotIn ((addA q1 1) : Addr).block [] ∧ Reb N w [] (Q (.int .i64 n2))

theorem journal_Journal_Term_snd (N : Nat) (j0 : Option Addr) (Q : VP) (w : World) (h : F_journal_Journal_Term N j0 Q w) : Snd (cy N []) (bodyOf Try.f26) (retD (cy N []) Try.f26 Q) (entry 7 [(.pointer j0)]) w :=
  (dsm h)

theorem journal_Journal_Term_calls (j0 : Option Addr) (Q : VP) (w : World) (h : F_journal_Journal_Term w.heap.size j0 Q w) : Calls PP n_journal_Journal_Term [(.pointer j0)].toArray w fun e w' => ∃ v, e = .returned v ∧ Q v w' :=
  calls_of (C := cy w.heap.size []) (fn := Try.f26) (c := (bodyOf Try.f26)) (by kernel_rfl) (by kernel_rfl) (Nat.le_refl _) (journal_Journal_Term_snd _ j0 Q w h)

/-! ### journal_Journal_Vote -/
def F_journal_Journal_Vote (N : Nat) (j0 : Option Addr) (Q : VP) (w : World) : Prop :=
  NilL j0 fun q1 => ∃ n2 : Int, At w (addA q1 2) [(.int .i64 n2)] ∧ NotIn ((addA q1 2) : Addr).block [] ∧ Reb N w [] (Q (.int .i64 n2))

theorem journal_Journal_Vote_snd (N : Nat) (j0 : Option Addr) (Q : VP) (w : World) (h : F_journal_Journal_Vote N j0 Q w) : Snd (cy N []) (bodyOf Try.f27) (retD (cy N []) Try.f27 Q) (entry 7 [(.pointer j0)]) w :=
  (dsm h)

theorem journal_Journal_Vote_calls (j0 : Option Addr) (Q : VP) (w : World) (h : F_journal_Journal_Vote w.heap.size j0 Q w) : Calls PP n_journal_Journal_Vote [(.pointer j0)].toArray w fun e w' => ∃ v, e = .returned v ∧ Q v w' :=
  calls_of (C := cy w.heap.size []) (fn := Try.f27) (c := (bodyOf Try.f27)) (by kernel_rfl) (by kernel_rfl) (Nat.le_refl _) (journal_Journal_Vote_snd _ j0 Q w h)

/-! ### journal_Journal_Len -/
def F_journal_Journal_Len (N : Nat) (j0 : Option Addr) (Q : VP) (w : World) : Prop :=
  NilL j0 fun q1 => ∃ l2 : Sl, At w (addA q1 3) [(.slice l2.a l2.n l2.c)] ∧ NotIn ((addA q1 3) : Addr).block [] ∧ Reb N w [] (Q (.int .i64 ((l2.n : Nat) : Int)))

theorem journal_Journal_Len_snd (N : Nat) (j0 : Option Addr) (Q : VP) (w : World) (h : F_journal_Journal_Len N j0 Q w) : Snd (cy N []) (bodyOf Try.f28) (retD (cy N []) Try.f28 Q) (entry 8 [(.pointer j0)]) w :=
  (dsm h)

theorem journal_Journal_Len_calls (j0 : Option Addr) (Q : VP) (w : World) (h : F_journal_Journal_Len w.heap.size j0 Q w) : Calls PP n_journal_Journal_Len [(.pointer j0)].toArray w fun e w' => ∃ v, e = .returned v ∧ Q v w' :=
  calls_of (C := cy w.heap.size []) (fn := Try.f28) (c := (bodyOf Try.f28)) (by kernel_rfl) (by kernel_rfl) (Nat.le_refl _) (journal_Journal_Len_snd _ j0 Q w h)

/-! ### journal_Journal_At -/
def F_journal_Journal_At (N : Nat) (j0 : Option Addr) (i1 : Int) (Q : VP) (w : World) : Prop :=
  ∀ b1 : Nat, w.heap.size ≤ b1 → IfB (decide ((i1 : Int) < 0)) (Reb N w [⟨b1, (⟨0, (⟨0, 0, 0, 0, 0, 0, 0, 0, 0⟩ : G_api_Entry)⟩ : G_api_Logged).cells, t_api_Logged⟩] (Q (.tuple #[(.agg (List.toArray (⟨0, (⟨0, 0, 0, 0, 0, 0, 0, 0, 0⟩ : G_api_Entry)⟩ : G_api_Logged).cells)), (.bool false)]))) (NilL j0 fun q2 => ∃ l3 : Sl, At w (addA q2 3) [(.slice l3.a l3.n l3.c)] ∧ NotIn ((addA q2 3) : Addr).block [⟨b1, (⟨0, (⟨0, 0, 0, 0, 0, 0, 0, 0, 0⟩ : G_api_Entry)⟩ : G_api_Logged).cells, t_api_Logged⟩] ∧ IfB (decide ((((l3.n : Nat) : Int) : Int) ≤ i1)) (Reb N w [⟨b1, (⟨0, (⟨0, 0, 0, 0, 0, 0, 0, 0, 0⟩ : G_api_Entry)⟩ : G_api_Logged).cells, t_api_Logged⟩] (Q (.tuple #[(.agg (List.toArray (⟨0, (⟨0, 0, 0, 0, 0, 0, 0, 0, 0⟩ : G_api_Entry)⟩ : G_api_Logged).cells)), (.bool false)]))) (NilL j0 fun q4 => ∃ l5 : Sl, At w (addA q4 3) [(.slice l5.a l5.n l5.c)] ∧ NotIn ((addA q4 3) : Addr).block [⟨b1, (⟨0, (⟨0, 0, 0, 0, 0, 0, 0, 0, 0⟩ : G_api_Entry)⟩ : G_api_Logged).cells, t_api_Logged⟩] ∧ IdxL l5.a l5.n i1 fun q6 => ∃ x7 : G_api_Logged, At w (q6.add ((i1 : Int).toNat * 10)) x7.cells ∧ NotIn ((q6.add ((i1 : Int).toNat * 10)) : Addr).block [⟨b1, (⟨0, (⟨0, 0, 0, 0, 0, 0, 0, 0, 0⟩ : G_api_Entry)⟩ : G_api_Logged).cells, t_api_Logged⟩] ∧ Reb N w [⟨b1, x7.cells, t_api_Logged⟩] (Q (.tuple #[(.agg (List.toArray x7.cells)), (.bool true)]))))

theorem journal_Journal_At_snd (N : Nat) (j0 : Option Addr) (i1 : Int) (Q : VP) (w : World) (h : F_journal_Journal_At N j0 i1 Q w) : Snd (cy N [4]) (bodyOf Try.f29) (retD (cy N [4]) Try.f29 Q) (entry 25 [(.pointer j0), (.int .i64 i1)]) w :=
  (dsm h)

theorem journal_Journal_At_calls (j0 : Option Addr) (i1 : Int) (Q : VP) (w : World) (h : F_journal_Journal_At w.heap.size j0 i1 Q w) : Calls PP n_journal_Journal_At [(.pointer j0), (.int .i64 i1)].toArray w fun e w' => ∃ v, e = .returned v ∧ Q v w' :=
  calls_of (C := cy w.heap.size [4]) (fn := Try.f29) (c := (bodyOf Try.f29)) (by kernel_rfl) (by kernel_rfl) (Nat.le_refl _) (journal_Journal_At_snd _ j0 i1 Q w h)

/-! ### journal_Journal_TermAt -/
def F_journal_Journal_TermAt (N : Nat) (j0 : Option Addr) (i1 : Int) (Q : VP) (w : World) : Prop :=
  CallL PP N w [] n_journal_Journal_At [(.pointer j0), (.int .i64 i1)] fun r3 w4 => ∃ x1 : G_api_Logged, ∃ b2 : Bool, r3 = (.tuple #[(.agg (List.toArray x1.cells)), (.bool b2)]) ∧ ∀ b5 : Nat, w4.heap.size ≤ b5 → Reb N w4 [⟨b5, x1.cells, t_api_Logged⟩] (Q (.int .i64 x1.Term))

theorem journal_Journal_TermAt_snd (N : Nat) (j0 : Option Addr) (i1 : Int) (Q : VP) (w : World) (h : F_journal_Journal_TermAt N j0 i1 Q w) : Snd (cy N [5]) (bodyOf Try.f35) (retD (cy N [5]) Try.f35 Q) (entry 15 [(.pointer j0), (.int .i64 i1)]) w :=
  (dsm h)

theorem journal_Journal_TermAt_calls (j0 : Option Addr) (i1 : Int) (Q : VP) (w : World) (h : F_journal_Journal_TermAt w.heap.size j0 i1 Q w) : Calls PP n_journal_Journal_TermAt [(.pointer j0), (.int .i64 i1)].toArray w fun e w' => ∃ v, e = .returned v ∧ Q v w' :=
  calls_of (C := cy w.heap.size [5]) (fn := Try.f35) (c := (bodyOf Try.f35)) (by kernel_rfl) (by kernel_rfl) (Nat.le_refl _) (journal_Journal_TermAt_snd _ j0 i1 Q w h)

/-! ### journal_Journal_setTerm -/
def C_journal_Journal_setTerm_2 (N : Nat) (Q : VP) (j0' : Option Addr) (term1' vote2' : Int) (w : World) : Prop :=
  NilL j0' fun q1 => StL w [] (addA q1 1) [(.int .i64 term1')] fun w2 => NilL j0' fun q3 => StL w2 [] (addA q3 2) [(.int .i64 vote2')] fun w4 => Reb N w4 [] (Q (.int .i64 0))

noncomputable def H_journal_Journal_setTerm_2 (N : Nat) (Q : VP) : St → World → Prop := HG N 60 [.v 0 .o, .v 1 (.i .i64), .v 2 (.i .i64)] (C_journal_Journal_setTerm_2 N Q)

theorem T_journal_Journal_setTerm_2 (N : Nat) (Q : VP) (s : St) (w : World) (h : H_journal_Journal_setTerm_2 N Q s w) : Snd (cy N []) (cR (cR (bodyOf Try.f81))) (retD (cy N []) Try.f81 Q) s w :=
  Snd.HG h fun _ _ _ _ h => dsm h

noncomputable def z_journal_Journal_setTerm_0 (N : Nat) (Q : VP) : Cont := (inBlockD 0 (thenD (H_journal_Journal_setTerm_2 N Q) (retD (cy N []) Try.f81 Q)))

def C_journal_Journal_setTerm_3 (N : Nat) (Q : VP) (j0' : Option Addr) (term1' vote2' : Int) (v7' : Bool) (w : World) : Prop :=
  IfB v7' (Reb N w [] (Q (.int .i64 1))) (NilL j0' fun q5 => ∃ n6 : Int, At w (addA q5 1) [(.int .i64 n6)] ∧ NotIn ((addA q5 1) : Addr).block [] ∧ IfB (decide ((term1' : Int) < n6)) (Reb N w [] (Q (.int .i64 20))) (NilL j0' fun q7 => ∃ n8 : Int, At w (addA q7 1) [(.int .i64 n8)] ∧ NotIn ((addA q7 1) : Addr).block [] ∧ IfB (decide ((term1' : Int) = n8)) (NilL j0' fun q9 => ∃ n10 : Int, At w (addA q9 2) [(.int .i64 n10)] ∧ NotIn ((addA q9 2) : Addr).block [] ∧ IfB (!decide ((n10 : Int) = (-1))) (NilL j0' fun q11 => ∃ n12 : Int, At w (addA q11 2) [(.int .i64 n12)] ∧ NotIn ((addA q11 2) : Addr).block [] ∧ IfB (!decide ((n12 : Int) = vote2')) (Reb N w [] (Q (.int .i64 20))) (Reb N w [] fun w13 => C_journal_Journal_setTerm_2 N Q j0' term1' vote2' w13)) (Reb N w [] fun w14 => C_journal_Journal_setTerm_2 N Q j0' term1' vote2' w14)) (Reb N w [] fun w15 => C_journal_Journal_setTerm_2 N Q j0' term1' vote2' w15)))

noncomputable def H_journal_Journal_setTerm_3 (N : Nat) (Q : VP) : St → World → Prop := HG N 60 [.v 0 .o, .v 1 (.i .i64), .v 2 (.i .i64), .v 7 .b] (C_journal_Journal_setTerm_3 N Q)

theorem T_journal_Journal_setTerm_3 (N : Nat) (Q : VP) (s : St) (w : World) (h : H_journal_Journal_setTerm_3 N Q s w) : Snd (cy N []) (cR (cL (cL (cR (bodyOf Try.f81))))) (z_journal_Journal_setTerm_0 N Q) s w :=
  Snd.HG h fun _ _ _ _ _ h => dsm h

def C_journal_Journal_setTerm_1 (N : Nat) (Q : VP) (j0' : Option Addr) (term1' vote2' : Int) (w : World) : Prop :=
  IfB (decide ((term1' : Int) < 0)) (Reb N w [] fun w16 => C_journal_Journal_setTerm_3 N Q j0' term1' vote2' true w16) (IfB (decide ((1073741824 : Int) < term1')) (Reb N w [] fun w17 => C_journal_Journal_setTerm_3 N Q j0' term1' vote2' true w17) (IfB (decide ((vote2' : Int) < (-1))) (Reb N w [] fun w18 => C_journal_Journal_setTerm_3 N Q j0' term1' vote2' true w18) (Reb N w [] fun w19 => C_journal_Journal_setTerm_3 N Q j0' term1' vote2' (decide ((5 : Int) ≤ vote2')) w19)))

noncomputable def H_journal_Journal_setTerm_1 (N : Nat) (Q : VP) : St → World → Prop := HG N 60 [.v 0 .o, .v 1 (.i .i64), .v 2 (.i .i64)] (C_journal_Journal_setTerm_1 N Q)

theorem T_journal_Journal_setTerm_1 (N : Nat) (Q : VP) (s : St) (w : World) (h : H_journal_Journal_setTerm_1 N Q s w) : Snd (cy N []) (cR (bodyOf Try.f81)) (retD (cy N []) Try.f81 Q) s w :=
  Snd.HG h fun j0' term1' vote2' w h => (sq (H_journal_Journal_setTerm_2 N Q) (bk 0 (sq (H_journal_Journal_setTerm_3 N Q) (dsm h) (T_journal_Journal_setTerm_3 N Q))) (T_journal_Journal_setTerm_2 N Q))

def F_journal_Journal_setTerm (N : Nat) (j0 : Option Addr) (term1 : Int) (vote2 : Int) (Q : VP) (w : World) : Prop :=
  Reb N w [] fun w20 => C_journal_Journal_setTerm_1 N Q j0 term1 vote2 w20

theorem journal_Journal_setTerm_snd (N : Nat) (j0 : Option Addr) (term1 : Int) (vote2 : Int) (Q : VP) (w : World) (h : F_journal_Journal_setTerm N j0 term1 vote2 Q w) : Snd (cy N []) (bodyOf Try.f81) (retD (cy N []) Try.f81 Q) (entry 60 [(.pointer j0), (.int .i64 term1), (.int .i64 vote2)]) w :=
  (sq (H_journal_Journal_setTerm_1 N Q) (dsm h) (T_journal_Journal_setTerm_1 N Q))

theorem journal_Journal_setTerm_calls (j0 : Option Addr) (term1 : Int) (vote2 : Int) (Q : VP) (w : World) (h : F_journal_Journal_setTerm w.heap.size j0 term1 vote2 Q w) : Calls PP n_journal_Journal_setTerm [(.pointer j0), (.int .i64 term1), (.int .i64 vote2)].toArray w fun e w' => ∃ v, e = .returned v ∧ Q v w' :=
  calls_of (C := cy w.heap.size []) (fn := Try.f81) (c := (bodyOf Try.f81)) (by kernel_rfl) (by kernel_rfl) (Nat.le_refl _) (journal_Journal_setTerm_snd _ j0 term1 vote2 Q w h)

/-! ### journal_Journal_add -/
def C_journal_Journal_add_2 (N : Nat) (Q : VP) (j0' : Option Addr) (term1' : Int) (B5' : Nat) (e5c' : G_api_Entry) (T5' : Nat) (w : World) : Prop :=
  NilL j0' fun q1 => ∃ l2 : Sl, At w (addA q1 3) [(.slice l2.a l2.n l2.c)] ∧ NotIn ((addA q1 3) : Addr).block [⟨B5', e5c'.cells, T5'⟩] ∧ NewL N w [⟨B5', e5c'.cells, T5'⟩] (⟨term1', e5c'⟩ : G_api_Logged).cells t_api_Logged fun b3 w4 => RunL PP N w4 [⟨B5', e5c'.cells, T5'⟩] (Builtin.append_ #[t_sl_api_Logged, t_sl_api_Logged] t_sl_api_Logged #[(.slice l2.a l2.n l2.c), (.slice (some ⟨b3, 0, none⟩) 1 1)]) fun r6 w7 => ∃ l5 : Sl, r6 = (.slice l5.a l5.n l5.c) ∧ NilL j0' fun q8 => StL w7 [⟨B5', e5c'.cells, T5'⟩] (addA q8 3) [(.slice l5.a l5.n l5.c)] fun w9 => Reb N w9 [⟨B5', e5c'.cells, T5'⟩] (Q (.int .i64 0))

noncomputable def H_journal_Journal_add_2 (N : Nat) (Q : VP) : St → World → Prop := HG N 57 [.v 0 .o, .v 1 (.i .i64), .c 5 (.g R_api_Entry)] (C_journal_Journal_add_2 N Q)

theorem T_journal_Journal_add_2 (N : Nat) (Q : VP) (s : St) (w : World) (h : H_journal_Journal_add_2 N Q s w) : Snd (cy N [5]) (cR (cR (bodyOf Try.f82))) (retD (cy N [5]) Try.f82 Q) s w :=
  Snd.HG h fun _ _ _ _ _ _ h => dsm h

noncomputable def z_journal_Journal_add_0 (N : Nat) (Q : VP) : Cont := (inBlockD 0 (thenD (H_journal_Journal_add_2 N Q) (retD (cy N [5]) Try.f82 Q)))

noncomputable def k_journal_Journal_add_1 : Code := (cR (cR (cR (cL (cL (cR (bodyOf Try.f82)))))))

def C_journal_Journal_add_4 (N : Nat) (Q : VP) (j0' : Option Addr) (term1' : Int) (B5' : Nat) (e5c' : G_api_Entry) (T5' : Nat) (v19' : Bool) (w : World) : Prop :=
  IfB v19' (Reb N w [⟨B5', e5c'.cells, T5'⟩] (Q (.int .i64 20))) (NilL j0' fun q10 => ∃ l11 : Sl, At w (addA q10 3) [(.slice l11.a l11.n l11.c)] ∧ NotIn ((addA q10 3) : Addr).block [⟨B5', e5c'.cells, T5'⟩] ∧ IfB (decide ((4096 : Int) ≤ ((l11.n : Nat) : Int))) (Reb N w [⟨B5', e5c'.cells, T5'⟩] (Q (.int .i64 2))) (Reb N w [⟨B5', e5c'.cells, T5'⟩] fun w12 => C_journal_Journal_add_2 N Q j0' term1' B5' e5c' T5' w12))

noncomputable def H_journal_Journal_add_4 (N : Nat) (Q : VP) : St → World → Prop := HG N 57 [.v 0 .o, .v 1 (.i .i64), .c 5 (.g R_api_Entry), .v 19 .b] (C_journal_Journal_add_4 N Q)

theorem T_journal_Journal_add_4 (N : Nat) (Q : VP) (s : St) (w : World) (h : H_journal_Journal_add_4 N Q s w) : Snd (cy N [5]) k_journal_Journal_add_1 (z_journal_Journal_add_0 N Q) s w :=
  Snd.HG h fun _ _ _ _ _ _ _ h => dsm h

def C_journal_Journal_add_3 (N : Nat) (Q : VP) (j0' : Option Addr) (term1' : Int) (B5' : Nat) (e5c' : G_api_Entry) (T5' : Nat) (v7' : Bool) (w : World) : Prop :=
  IfB v7' (Reb N w [⟨B5', e5c'.cells, T5'⟩] (Q (.int .i64 1))) (NilL j0' fun q13 => ∃ n14 : Int, At w (addA q13 1) [(.int .i64 n14)] ∧ NotIn ((addA q13 1) : Addr).block [⟨B5', e5c'.cells, T5'⟩] ∧ IfB (decide ((n14 : Int) < term1')) (Reb N w [⟨B5', e5c'.cells, T5'⟩] fun w15 => C_journal_Journal_add_4 N Q j0' term1' B5' e5c' T5' true w15) (NilL j0' fun q16 => ∃ l17 : Sl, At w (addA q16 3) [(.slice l17.a l17.n l17.c)] ∧ NotIn ((addA q16 3) : Addr).block [⟨B5', e5c'.cells, T5'⟩] ∧ CallL PP N w [⟨B5', e5c'.cells, T5'⟩] n_journal_Journal_TermAt [(.pointer j0'), (.int .i64 (IntKind.i64.wrap (((l17.n : Nat) : Int) - 1)))] fun r19 w20 => ∃ n18 : Int, r19 = (.int .i64 n18) ∧ Reb N w20 [⟨B5', e5c'.cells, T5'⟩] fun w21 => C_journal_Journal_add_4 N Q j0' term1' B5' e5c' T5' (decide ((term1' : Int) < n18)) w21))

noncomputable def H_journal_Journal_add_3 (N : Nat) (Q : VP) : St → World → Prop := HG N 57 [.v 0 .o, .v 1 (.i .i64), .c 5 (.g R_api_Entry), .v 7 .b] (C_journal_Journal_add_3 N Q)

theorem T_journal_Journal_add_3 (N : Nat) (Q : VP) (s : St) (w : World) (h : H_journal_Journal_add_3 N Q s w) : Snd (cy N [5]) (cR (cL (cL (cR (bodyOf Try.f82))))) (z_journal_Journal_add_0 N Q) s w :=
  Snd.HG h fun j0' term1' B5' e5c' T5' v7' w h => (Snd.cast (c' := .cond (.tmp 7) (cL (cR (cL (cL (cR (bodyOf Try.f82)))))) (cR (cR (cL (cL (cR (bodyOf Try.f82))))))) (by kernel_rfl) (Snd.cond (t := v7') (by kernel_rfl) (by kernel_rfl) (fun ht => (fun h => (dsm h)) (ifb_t h ht)) (fun ht => (fun h => (sq (H_journal_Journal_add_4 N Q) (dsm h) (T_journal_Journal_add_4 N Q))) (ifb_f h ht))))

def C_journal_Journal_add_1 (N : Nat) (Q : VP) (j0' : Option Addr) (term1' : Int) (B5' : Nat) (e5c' : G_api_Entry) (T5' : Nat) (w : World) : Prop :=
  IfB (decide ((term1' : Int) < 1)) (Reb N w [⟨B5', e5c'.cells, T5'⟩] fun w22 => C_journal_Journal_add_3 N Q j0' term1' B5' e5c' T5' true w22) (IfB (decide ((1073741824 : Int) < term1')) (Reb N w [⟨B5', e5c'.cells, T5'⟩] fun w23 => C_journal_Journal_add_3 N Q j0' term1' B5' e5c' T5' true w23) (CallL PP N w [⟨B5', e5c'.cells, T5'⟩] n_entry_Shape [(.agg (List.toArray e5c'.cells))] fun r25 w26 => ∃ b24 : Bool, r25 = (.bool b24) ∧ Reb N w26 [⟨B5', e5c'.cells, T5'⟩] fun w27 => C_journal_Journal_add_3 N Q j0' term1' B5' e5c' T5' (!b24) w27))

noncomputable def H_journal_Journal_add_1 (N : Nat) (Q : VP) : St → World → Prop := HG N 57 [.v 0 .o, .v 1 (.i .i64), .c 5 (.g R_api_Entry)] (C_journal_Journal_add_1 N Q)

theorem T_journal_Journal_add_1 (N : Nat) (Q : VP) (s : St) (w : World) (h : H_journal_Journal_add_1 N Q s w) : Snd (cy N [5]) (cR (bodyOf Try.f82)) (retD (cy N [5]) Try.f82 Q) s w :=
  Snd.HG h fun j0' term1' B5' e5c' T5' w h => (sq (H_journal_Journal_add_2 N Q) (bk 0 (sq (H_journal_Journal_add_3 N Q) (dsm h) (T_journal_Journal_add_3 N Q))) (T_journal_Journal_add_2 N Q))

def F_journal_Journal_add (N : Nat) (j0 : Option Addr) (term1 : Int) (e2 : G_api_Entry) (Q : VP) (w : World) : Prop :=
  ∀ b28 : Nat, w.heap.size ≤ b28 → Reb N w [⟨b28, e2.cells, t_api_Entry⟩] fun w29 => C_journal_Journal_add_1 N Q j0 term1 b28 e2 t_api_Entry w29

theorem journal_Journal_add_snd (N : Nat) (j0 : Option Addr) (term1 : Int) (e2 : G_api_Entry) (Q : VP) (w : World) (h : F_journal_Journal_add N j0 term1 e2 Q w) : Snd (cy N [5]) (bodyOf Try.f82) (retD (cy N [5]) Try.f82 Q) (entry 57 [(.pointer j0), (.int .i64 term1), (.agg (List.toArray e2.cells))]) w :=
  (sq (H_journal_Journal_add_1 N Q) (dsm h) (T_journal_Journal_add_1 N Q))

theorem journal_Journal_add_calls (j0 : Option Addr) (term1 : Int) (e2 : G_api_Entry) (Q : VP) (w : World) (h : F_journal_Journal_add w.heap.size j0 term1 e2 Q w) : Calls PP n_journal_Journal_add [(.pointer j0), (.int .i64 term1), (.agg (List.toArray e2.cells))].toArray w fun e w' => ∃ v, e = .returned v ∧ Q v w' :=
  calls_of (C := cy w.heap.size [5]) (fn := Try.f82) (c := (bodyOf Try.f82)) (by kernel_rfl) (by kernel_rfl) (Nat.le_refl _) (journal_Journal_add_snd _ j0 term1 e2 Q w h)

/-! ### journal_Journal_cut -/
def F_journal_Journal_cut (N : Nat) (j0 : Option Addr) (n1 : Int) (Q : VP) (w : World) : Prop :=
  IfB (decide ((n1 : Int) < 0)) (Reb N w [] (Q (.int .i64 1))) (NilL j0 fun q1 => ∃ l2 : Sl, At w (addA q1 3) [(.slice l2.a l2.n l2.c)] ∧ NotIn ((addA q1 3) : Addr).block [] ∧ IfB (decide ((((l2.n : Nat) : Int) : Int) < n1)) (Reb N w [] (Q (.int .i64 1))) (NilL j0 fun q3 => ∃ l4 : Sl, At w (addA q3 3) [(.slice l4.a l4.n l4.c)] ∧ NotIn ((addA q3 3) : Addr).block [] ∧ (0 : Int) ≤ n1 ∧ (n1 : Int) ≤ (l4.c : Nat) ∧ NilL j0 fun q5 => StL w [] (addA q5 3) [(.slice l4.a (Int.toNat n1) l4.c)] fun w6 => Reb N w6 [] (Q (.int .i64 0))))

theorem journal_Journal_cut_snd (N : Nat) (j0 : Option Addr) (n1 : Int) (Q : VP) (w : World) (h : F_journal_Journal_cut N j0 n1 Q w) : Snd (cy N []) (bodyOf Try.f98) (retD (cy N []) Try.f98 Q) (entry 25 [(.pointer j0), (.int .i64 n1)]) w :=
  (dsm h)

theorem journal_Journal_cut_calls (j0 : Option Addr) (n1 : Int) (Q : VP) (w : World) (h : F_journal_Journal_cut w.heap.size j0 n1 Q w) : Calls PP n_journal_Journal_cut [(.pointer j0), (.int .i64 n1)].toArray w fun e w' => ∃ v, e = .returned v ∧ Q v w' :=
  calls_of (C := cy w.heap.size []) (fn := Try.f98) (c := (bodyOf Try.f98)) (by kernel_rfl) (by kernel_rfl) (Nat.le_refl _) (journal_Journal_cut_snd _ j0 n1 Q w h)

/-! ### journal_Journal_write -/
def C_journal_Journal_write_4 (N : Nat) (Q : VP) (j0' : Option Addr) (tail2' b9' : Sl) (w : World) : Prop :=
  NilL j0' fun q1 => ∃ p2 : Option Addr, At w q1 [(.pointer p2)] ∧ NotIn (q1 : Addr).block [] ∧ RunL PP N w [] (Builtin.append_ #[t_sl_u8, t_sl_u8] t_sl_u8 #[(.slice b9'.a b9'.n b9'.c), (.slice tail2'.a tail2'.n tail2'.c)]) fun r4 w5 => ∃ l3 : Sl, r4 = (.slice l3.a l3.n l3.c) ∧ At w5 q1 [(.pointer p2)] ∧ CallL PP N w5 [] n_frame_Put [(.slice none 0 0), (.int .i64 8), (.slice l3.a l3.n l3.c)] fun r7 w8 => ∃ l6 : Sl, r7 = (.slice l6.a l6.n l6.c) ∧ At w8 q1 [(.pointer p2)] ∧ CallL PP N w8 [] n_disk_Disk_Append [(.pointer p2), (.slice l6.a l6.n l6.c)] fun r9 w10 => r9 = (.tuple #[]) ∧ Reb N w10 [] (Q (.int .i64 0))

noncomputable def H_journal_Journal_write_4 (N : Nat) (Q : VP) : St → World → Prop := HG N 34 [.v 0 .o, .v 2 .l, .v 9 .l] (C_journal_Journal_write_4 N Q)

theorem T_journal_Journal_write_4 (N : Nat) (Q : VP) (s : St) (w : World) (h : H_journal_Journal_write_4 N Q s w) : Snd (cy N []) (cR (cR (cR (cR (bodyOf Try.f80))))) (retD (cy N []) Try.f80 Q) s w :=
  Snd.HG h fun _ _ _ _ h => dsm h

noncomputable def k_journal_Journal_write_0 : Code := (cR (cL (cR (cR (cR (bodyOf Try.f80))))))

noncomputable def z_journal_Journal_write_1 (N : Nat) (Q : VP) : Cont := (thenD (H_journal_Journal_write_4 N Q) (retD (cy N []) Try.f80 Q))

def D_journal_Journal_write_6 (K : ((Option Addr) × Sl × Sl × Int) → (Sl × Int) → Prop) : List Value → List LB → Prop := fun vs ls => match vs, ls with
  | [.pointer j0', .slice tail2'_a tail2'_n tail2'_c, .slice b9'_a b9'_n b9'_c, .slice v15'_a v15'_n v15'_c, .int .i64 v16', .int .i64 v17'], [] => K (j0', ⟨tail2'_a, tail2'_n, tail2'_c⟩, ⟨v15'_a, v15'_n, v15'_c⟩, v16') (⟨b9'_a, b9'_n, b9'_c⟩, v17')
  | _, _ => False

def B_journal_Journal_write_6 (N : Nat) (K1 : ((Option Addr) × Sl × Sl × Int) → (Sl × Int) → World → Prop) (Q : VP) (j0' : Option Addr) (tail2' b9' v15' : Sl) (v16' v17' : Int) (w : World) : Prop :=
  IfB (decide ((v17' : Int) < v16')) (IdxL v15'.a v15'.n v17' fun q11 => ∃ n12 : Int, At w (q11.add ((v17' : Int).toNat * 1)) [(.int .i64 n12)] ∧ NotIn ((q11.add ((v17' : Int).toNat * 1)) : Addr).block [] ∧ CallL PP N w [] n_wire_Int [(.slice b9'.a b9'.n b9'.c), (.int .i64 n12)] fun r14 w15 => ∃ l13 : Sl, r14 = (.slice l13.a l13.n l13.c) ∧ Reb N w15 [] fun w16 => K1 (j0', tail2', v15', v16') (l13, (IntKind.i64.wrap (v17' + 1))) w16) (Reb N w [] fun w17 => C_journal_Journal_write_4 N Q j0' tail2' b9' w17)

theorem X_journal_Journal_write_6 {N : Nat} {K1 : ((Option Addr) × Sl × Sl × Int) → (Sl × Int) → World → Prop} {Q : VP} {j0' : Option Addr} {tail2' b9' v15' : Sl} {v16' v17' : Int} {w : World} (h : B_journal_Journal_write_6 N K1 Q j0' tail2' b9' v15' v16' v17' w) : Snd (cy N []) (cL (cL k_journal_Journal_write_0)) (thenD (HeadK N 34 [.val 0, .val 2, .val 9, .val 15, .val 16, .val 17] D_journal_Journal_write_6 K1) (inBlockD 0 (z_journal_Journal_write_1 N Q))) (mkS 34 [.val 0, .val 2, .val 9, .val 15, .val 16, .val 17] [(.pointer j0'), (.slice tail2'.a tail2'.n tail2'.c), (.slice b9'.a b9'.n b9'.c), (.slice v15'.a v15'.n v15'.c), (.int .i64 v16'), (.int .i64 v17')] []) w :=
  (dsm h)

def L_journal_Journal_write_6 (N : Nat) (Q : VP) (K1 : ((Option Addr) × Sl × Sl × Int) → (Sl × Int) → World → Prop) (c : (Option Addr) × Sl × Sl × Int) (x : Sl × Int) (w : World) : Prop := match c, x with
  | (j0', tail2', v15', v16'), (b9', v17') => B_journal_Journal_write_6 N K1 Q j0' tail2' b9' v15' v16' v17' w

theorem T_journal_Journal_write_6 (N : Nat) (Q : VP) {s : St} {w : World} (h : HeadE N 34 [.val 0, .val 2, .val 9, .val 15, .val 16, .val 17] D_journal_Journal_write_6 (L_journal_Journal_write_6 N Q) s w) : Snd (cy N []) (cL k_journal_Journal_write_0) (inBlockD 0 (z_journal_Journal_write_1 N Q)) s w := by
  refine Snd.cast (c' := .loop (cL (cL k_journal_Journal_write_0))) (by kernel_rfl) (Snd.loopC (fun (c : (Option Addr) × Sl × Sl × Int) (x : Sl × Int) => match c, x with | (j0', tail2', v15', v16'), (b9', v17') => ([(.pointer j0'), (.slice tail2'.a tail2'.n tail2'.c), (.slice b9'.a b9'.n b9'.c), (.slice v15'.a v15'.n v15'.c), (.int .i64 v16'), (.int .i64 v17')], [])) ?_ ?_ h)
  · intro K vs ls h
    unfold D_journal_Journal_write_6 at h
    split at h
    · exact ⟨_, _, rfl, h⟩
    · exact h.elim
  · rintro K ⟨j0', tail2', v15', v16'⟩ ⟨b9', v17'⟩ w h
    exact X_journal_Journal_write_6 h

def C_journal_Journal_write_5 (N : Nat) (Q : VP) (j0' : Option Addr) (tail2' b9' v15' : Sl) (v16' v17' : Int) (w : World) : Prop :=
  LoopC N w [] ((j0', tail2', v15', v16') : (Option Addr) × Sl × Sl × Int) ((b9', v17') : Sl × Int) (L_journal_Journal_write_6 N Q)

noncomputable def H_journal_Journal_write_5 (N : Nat) (Q : VP) : St → World → Prop := HG N 34 [.v 0 .o, .v 2 .l, .v 9 .l, .v 15 .l, .v 16 (.i .i64), .v 17 (.i .i64)] (C_journal_Journal_write_5 N Q)

theorem T_journal_Journal_write_5 (N : Nat) (Q : VP) (s : St) (w : World) (h : H_journal_Journal_write_5 N Q s w) : Snd (cy N []) k_journal_Journal_write_0 (z_journal_Journal_write_1 N Q) s w :=
  Snd.HG h fun j0' tail2' b9' v15' v16' v17' w h => (bk 0 (T_journal_Journal_write_6 N Q (mpr' (by kernel_rfl) h)))

def C_journal_Journal_write_3 (N : Nat) (Q : VP) (j0' : Option Addr) (tail2' numbers3' b9' : Sl) (w : World) : Prop :=
  Reb N w [] fun w18 => C_journal_Journal_write_5 N Q j0' tail2' b9' numbers3' ((numbers3'.n : Nat) : Int) 0 w18

noncomputable def H_journal_Journal_write_3 (N : Nat) (Q : VP) : St → World → Prop := HG N 34 [.v 0 .o, .v 2 .l, .v 3 .l, .v 9 .l] (C_journal_Journal_write_3 N Q)

theorem T_journal_Journal_write_3 (N : Nat) (Q : VP) (s : St) (w : World) (h : H_journal_Journal_write_3 N Q s w) : Snd (cy N []) (cR (cR (cR (bodyOf Try.f80)))) (retD (cy N []) Try.f80 Q) s w :=
  Snd.HG h fun j0' tail2' numbers3' b9' w h => (sq (H_journal_Journal_write_4 N Q) (sq (H_journal_Journal_write_5 N Q) (dsm h) (T_journal_Journal_write_5 N Q)) (T_journal_Journal_write_4 N Q))

def C_journal_Journal_write_2 (N : Nat) (Q : VP) (j0' : Option Addr) (tail2' numbers3' : Sl) (w : World) : Prop :=
  Reb N w [] fun w19 => C_journal_Journal_write_3 N Q j0' tail2' numbers3' (⟨none, 0, 0⟩ : Sl) w19

noncomputable def H_journal_Journal_write_2 (N : Nat) (Q : VP) : St → World → Prop := HG N 34 [.v 0 .o, .v 2 .l, .v 3 .l] (C_journal_Journal_write_2 N Q)

theorem T_journal_Journal_write_2 (N : Nat) (Q : VP) (s : St) (w : World) (h : H_journal_Journal_write_2 N Q s w) : Snd (cy N []) (cR (cR (bodyOf Try.f80))) (retD (cy N []) Try.f80 Q) s w :=
  Snd.HG h fun j0' tail2' numbers3' w h => (sq (H_journal_Journal_write_3 N Q) (dsm h) (T_journal_Journal_write_3 N Q))

def C_journal_Journal_write_1 (N : Nat) (Q : VP) (j0' : Option Addr) (e1' : Int) (tail2' numbers3' : Sl) (w : World) : Prop :=
  IfB (!decide ((e1' : Int) = 0)) (Reb N w [] (Q (.int .i64 e1'))) (Reb N w [] fun w20 => C_journal_Journal_write_2 N Q j0' tail2' numbers3' w20)

noncomputable def H_journal_Journal_write_1 (N : Nat) (Q : VP) : St → World → Prop := HG N 34 [.v 0 .o, .v 1 (.i .i64), .v 2 .l, .v 3 .l] (C_journal_Journal_write_1 N Q)

theorem T_journal_Journal_write_1 (N : Nat) (Q : VP) (s : St) (w : World) (h : H_journal_Journal_write_1 N Q s w) : Snd (cy N []) (cR (bodyOf Try.f80)) (retD (cy N []) Try.f80 Q) s w :=
  Snd.HG h fun j0' e1' tail2' numbers3' w h => (sq (H_journal_Journal_write_2 N Q) (dsm h) (T_journal_Journal_write_2 N Q))

def F_journal_Journal_write (N : Nat) (j0 : Option Addr) (e1 : Int) (tail2 : Sl) (numbers3 : Sl) (Q : VP) (w : World) : Prop :=
  Reb N w [] fun w21 => C_journal_Journal_write_1 N Q j0 e1 tail2 numbers3 w21

theorem journal_Journal_write_snd (N : Nat) (j0 : Option Addr) (e1 : Int) (tail2 : Sl) (numbers3 : Sl) (Q : VP) (w : World) (h : F_journal_Journal_write N j0 e1 tail2 numbers3 Q w) : Snd (cy N []) (bodyOf Try.f80) (retD (cy N []) Try.f80 Q) (entry 34 [(.pointer j0), (.int .i64 e1), (.slice tail2.a tail2.n tail2.c), (.slice numbers3.a numbers3.n numbers3.c)]) w :=
  (sq (H_journal_Journal_write_1 N Q) (dsm h) (T_journal_Journal_write_1 N Q))

theorem journal_Journal_write_calls (j0 : Option Addr) (e1 : Int) (tail2 : Sl) (numbers3 : Sl) (Q : VP) (w : World) (h : F_journal_Journal_write w.heap.size j0 e1 tail2 numbers3 Q w) : Calls PP n_journal_Journal_write [(.pointer j0), (.int .i64 e1), (.slice tail2.a tail2.n tail2.c), (.slice numbers3.a numbers3.n numbers3.c)].toArray w fun e w' => ∃ v, e = .returned v ∧ Q v w' :=
  calls_of (C := cy w.heap.size []) (fn := Try.f80) (c := (bodyOf Try.f80)) (by kernel_rfl) (by kernel_rfl) (Nat.le_refl _) (journal_Journal_write_snd _ j0 e1 tail2 numbers3 Q w h)

/-! ### journal_Journal_SetTerm -/
def F_journal_Journal_SetTerm (N : Nat) (j0 : Option Addr) (term1 : Int) (vote2 : Int) (Q : VP) (w : World) : Prop :=
  CallL PP N w [] n_journal_Journal_setTerm [(.pointer j0), (.int .i64 term1), (.int .i64 vote2)] fun r2 w3 => ∃ n1 : Int, r2 = (.int .i64 n1) ∧ NewL N w3 [] [(.int .i64 1), (.int .i64 term1), (.int .i64 vote2)] t_i64_2 fun b4 w5 => CallL PP N w5 [] n_journal_Journal_write [(.pointer j0), (.int .i64 n1), (.slice none 0 0), (.slice (some ⟨b4, 0, none⟩) 3 3)] fun r7 w8 => ∃ n6 : Int, r7 = (.int .i64 n6) ∧ Reb N w8 [] (Q (.int .i64 n6))

theorem journal_Journal_SetTerm_snd (N : Nat) (j0 : Option Addr) (term1 : Int) (vote2 : Int) (Q : VP) (w : World) (h : F_journal_Journal_SetTerm N j0 term1 vote2 Q w) : Snd (cy N []) (bodyOf Try.f31) (retD (cy N []) Try.f31 Q) (entry 16 [(.pointer j0), (.int .i64 term1), (.int .i64 vote2)]) w :=
  (dsm h)

theorem journal_Journal_SetTerm_calls (j0 : Option Addr) (term1 : Int) (vote2 : Int) (Q : VP) (w : World) (h : F_journal_Journal_SetTerm w.heap.size j0 term1 vote2 Q w) : Calls PP n_journal_Journal_SetTerm [(.pointer j0), (.int .i64 term1), (.int .i64 vote2)].toArray w fun e w' => ∃ v, e = .returned v ∧ Q v w' :=
  calls_of (C := cy w.heap.size []) (fn := Try.f31) (c := (bodyOf Try.f31)) (by kernel_rfl) (by kernel_rfl) (Nat.le_refl _) (journal_Journal_SetTerm_snd _ j0 term1 vote2 Q w h)

/-! ### journal_Journal_Append -/
def F_journal_Journal_Append (N : Nat) (j0 : Option Addr) (term1 : Int) (e2 : G_api_Entry) (Q : VP) (w : World) : Prop :=
  ∀ b1 : Nat, w.heap.size ≤ b1 → (CallL PP N w [⟨b1, e2.cells, t_api_Entry⟩] n_journal_Journal_add [(.pointer j0), (.int .i64 term1), (.agg (List.toArray e2.cells))] fun r3 w4 => ∃ n2 : Int, r3 = (.int .i64 n2) ∧ (CallL PP N w4 [⟨b1, e2.cells, t_api_Entry⟩] n_entry_Bytes [(.agg (List.toArray e2.cells))] fun r6 w7 => ∃ l5 : Sl, r6 = (.slice l5.a l5.n l5.c) ∧ NewL N w7 [⟨b1, e2.cells, t_api_Entry⟩] [(.int .i64 2), (.int .i64 term1)] t_i64_2 fun b8 w9 => CallL PP N w9 [⟨b1, e2.cells, t_api_Entry⟩] n_journal_Journal_write [(.pointer j0), (.int .i64 n2), (.slice l5.a l5.n l5.c), (.slice (some ⟨b8, 0, none⟩) 2 2)] fun r11 w12 => ∃ n10 : Int, r11 = (.int .i64 n10) ∧ Reb N w12 [⟨b1, e2.cells, t_api_Entry⟩] (Q (.int .i64 n10))) ∧ (NewL N w4 [⟨b1, e2.cells, t_api_Entry⟩] [(.int .i64 2), (.int .i64 term1)] t_i64_2 fun b13 w14 => CallL PP N w14 [⟨b1, e2.cells, t_api_Entry⟩] n_entry_Bytes [(.agg (List.toArray e2.cells))] fun r16 w17 => ∃ l15 : Sl, r16 = (.slice l15.a l15.n l15.c) ∧ CallL PP N w17 [⟨b1, e2.cells, t_api_Entry⟩] n_journal_Journal_write [(.pointer j0), (.int .i64 n2), (.slice l15.a l15.n l15.c), (.slice (some ⟨b13, 0, none⟩) 2 2)] fun r19 w20 => ∃ n18 : Int, r19 = (.int .i64 n18) ∧ Reb N w20 [⟨b1, e2.cells, t_api_Entry⟩] (Q (.int .i64 n18)))) ∧ (NewL N w [⟨b1, e2.cells, t_api_Entry⟩] [(.int .i64 2), (.int .i64 term1)] t_i64_2 fun b21 w22 => CallL PP N w22 [⟨b1, e2.cells, t_api_Entry⟩] n_journal_Journal_add [(.pointer j0), (.int .i64 term1), (.agg (List.toArray e2.cells))] fun r24 w25 => ∃ n23 : Int, r24 = (.int .i64 n23) ∧ CallL PP N w25 [⟨b1, e2.cells, t_api_Entry⟩] n_entry_Bytes [(.agg (List.toArray e2.cells))] fun r27 w28 => ∃ l26 : Sl, r27 = (.slice l26.a l26.n l26.c) ∧ CallL PP N w28 [⟨b1, e2.cells, t_api_Entry⟩] n_journal_Journal_write [(.pointer j0), (.int .i64 n23), (.slice l26.a l26.n l26.c), (.slice (some ⟨b21, 0, none⟩) 2 2)] fun r30 w31 => ∃ n29 : Int, r30 = (.int .i64 n29) ∧ Reb N w31 [⟨b1, e2.cells, t_api_Entry⟩] (Q (.int .i64 n29)))

theorem journal_Journal_Append_snd (N : Nat) (j0 : Option Addr) (term1 : Int) (e2 : G_api_Entry) (Q : VP) (w : World) (h : F_journal_Journal_Append N j0 term1 e2 Q w) : Snd (cy N [5]) (bodyOf Try.f33) (retD (cy N [5]) Try.f33 Q) (entry 17 [(.pointer j0), (.int .i64 term1), (.agg (List.toArray e2.cells))]) w :=
  (dsm h)

theorem journal_Journal_Append_calls (j0 : Option Addr) (term1 : Int) (e2 : G_api_Entry) (Q : VP) (w : World) (h : F_journal_Journal_Append w.heap.size j0 term1 e2 Q w) : Calls PP n_journal_Journal_Append [(.pointer j0), (.int .i64 term1), (.agg (List.toArray e2.cells))].toArray w fun e w' => ∃ v, e = .returned v ∧ Q v w' :=
  calls_of (C := cy w.heap.size [5]) (fn := Try.f33) (c := (bodyOf Try.f33)) (by kernel_rfl) (by kernel_rfl) (Nat.le_refl _) (journal_Journal_Append_snd _ j0 term1 e2 Q w h)

/-! ### journal_Journal_Cut -/
def F_journal_Journal_Cut (N : Nat) (j0 : Option Addr) (n1 : Int) (Q : VP) (w : World) : Prop :=
  CallL PP N w [] n_journal_Journal_cut [(.pointer j0), (.int .i64 n1)] fun r3 w4 => ∃ n2 : Int, r3 = (.int .i64 n2) ∧ NewL N w4 [] [(.int .i64 3), (.int .i64 n1)] t_i64_2 fun b5 w6 => CallL PP N w6 [] n_journal_Journal_write [(.pointer j0), (.int .i64 n2), (.slice none 0 0), (.slice (some ⟨b5, 0, none⟩) 2 2)] fun r8 w9 => ∃ n7 : Int, r8 = (.int .i64 n7) ∧ Reb N w9 [] (Q (.int .i64 n7))

theorem journal_Journal_Cut_snd (N : Nat) (j0 : Option Addr) (n1 : Int) (Q : VP) (w : World) (h : F_journal_Journal_Cut N j0 n1 Q w) : Snd (cy N []) (bodyOf Try.f46) (retD (cy N []) Try.f46 Q) (entry 12 [(.pointer j0), (.int .i64 n1)]) w :=
  (dsm h)

theorem journal_Journal_Cut_calls (j0 : Option Addr) (n1 : Int) (Q : VP) (w : World) (h : F_journal_Journal_Cut w.heap.size j0 n1 Q w) : Calls PP n_journal_Journal_Cut [(.pointer j0), (.int .i64 n1)].toArray w fun e w' => ∃ v, e = .returned v ∧ Q v w' :=
  calls_of (C := cy w.heap.size []) (fn := Try.f46) (c := (bodyOf Try.f46)) (by kernel_rfl) (by kernel_rfl) (Nat.le_refl _) (journal_Journal_Cut_snd _ j0 n1 Q w h)

/-! ### journal_integers -/
def C_journal_integers_3 (N : Nat) (Q : VP) (b0' out7' : Sl) (w : World) : Prop :=
  Reb N w [] (Q (.tuple #[(.slice out7'.a out7'.n out7'.c), (.slice b0'.a b0'.n b0'.c), (.bool true)]))

noncomputable def H_journal_integers_3 (N : Nat) (Q : VP) : St → World → Prop := HG N 32 [.v 0 .l, .v 7 .l] (C_journal_integers_3 N Q)

theorem T_journal_integers_3 (N : Nat) (Q : VP) (s : St) (w : World) (h : H_journal_integers_3 N Q s w) : Snd (cy N []) (cR (cR (cR (bodyOf Try.f131)))) (retD (cy N []) Try.f131 Q) s w :=
  Snd.HG h fun _ _ _ h => dsm h

noncomputable def z_journal_integers_0 (N : Nat) (Q : VP) : Cont := (thenD (H_journal_integers_3 N Q) (retD (cy N []) Try.f131 Q))

def D_journal_integers_5 (K : (Int) → (Sl × Sl × Int) → Prop) : List Value → List LB → Prop := fun vs ls => match vs, ls with
  | [.slice b0'_a b0'_n b0'_c, .slice out7'_a out7'_n out7'_c, .int .i64 v11', .int .i64 v12'], [] => K v11' (⟨b0'_a, b0'_n, b0'_c⟩, ⟨out7'_a, out7'_n, out7'_c⟩, v12')
  | _, _ => False

noncomputable def k_journal_integers_1 : Code := (cL (cR (cL (cR (cR (bodyOf Try.f131))))))

def B_journal_integers_5 (N : Nat) (K1 : (Int) → (Sl × Sl × Int) → World → Prop) (Q : VP) (b0' out7' : Sl) (v11' v12' : Int) (w : World) : Prop :=
  IfB (decide ((v12' : Int) < v11')) (CallL PP N w [] n_wire_TakeInt [(.slice b0'.a b0'.n b0'.c)] fun r4 w5 => ∃ n1 : Int, ∃ n2 : Int, ∃ n3 : Int, r4 = (.tuple #[(.int .i64 n1), (.int .i64 n2), (.int .i64 n3)]) ∧ IfB (!decide ((n3 : Int) = 0)) (Reb N w5 [] (Q (.tuple #[(.slice none 0 0), (.slice none 0 0), (.bool false)]))) (NewL N w5 [] [(.int .i64 n1)] t_i64_2 fun b6 w7 => RunL PP N w7 [] (Builtin.append_ #[t_sl_i64, t_sl_i64] t_sl_i64 #[(.slice out7'.a out7'.n out7'.c), (.slice (some ⟨b6, 0, none⟩) 1 1)]) fun r9 w10 => ∃ l8 : Sl, r9 = (.slice l8.a l8.n l8.c) ∧ (0 : Int) ≤ n2 ∧ (n2 : Int) ≤ (b0'.n : Nat) ∧ Reb N w10 [] fun w11 => K1 v11' ((⟨(slA b0'.a b0'.c (n2 : Int).toNat 1), (b0'.n - (n2 : Int).toNat), (b0'.c - (n2 : Int).toNat)⟩ : Sl), l8, (IntKind.i64.wrap (v12' + 1))) w11)) (Reb N w [] fun w12 => C_journal_integers_3 N Q b0' out7' w12)

theorem X_journal_integers_5 {N : Nat} {K1 : (Int) → (Sl × Sl × Int) → World → Prop} {Q : VP} {b0' out7' : Sl} {v11' v12' : Int} {w : World} (h : B_journal_integers_5 N K1 Q b0' out7' v11' v12' w) : Snd (cy N []) (cL k_journal_integers_1) (thenD (HeadK N 32 [.val 0, .val 7, .val 11, .val 12] D_journal_integers_5 K1) (inBlockD 0 (z_journal_integers_0 N Q))) (mkS 32 [.val 0, .val 7, .val 11, .val 12] [(.slice b0'.a b0'.n b0'.c), (.slice out7'.a out7'.n out7'.c), (.int .i64 v11'), (.int .i64 v12')] []) w :=
  (dsm h)

def L_journal_integers_5 (N : Nat) (Q : VP) (K1 : (Int) → (Sl × Sl × Int) → World → Prop) (c : Int) (x : Sl × Sl × Int) (w : World) : Prop := match c, x with
  | v11', (b0', out7', v12') => B_journal_integers_5 N K1 Q b0' out7' v11' v12' w

theorem T_journal_integers_5 (N : Nat) (Q : VP) {s : St} {w : World} (h : HeadE N 32 [.val 0, .val 7, .val 11, .val 12] D_journal_integers_5 (L_journal_integers_5 N Q) s w) : Snd (cy N []) k_journal_integers_1 (inBlockD 0 (z_journal_integers_0 N Q)) s w := by
  refine Snd.cast (c' := .loop (cL k_journal_integers_1)) (by kernel_rfl) (Snd.loopC (fun (c : Int) (x : Sl × Sl × Int) => match c, x with | v11', (b0', out7', v12') => ([(.slice b0'.a b0'.n b0'.c), (.slice out7'.a out7'.n out7'.c), (.int .i64 v11'), (.int .i64 v12')], [])) ?_ ?_ h)
  · intro K vs ls h
    unfold D_journal_integers_5 at h
    split at h
    · exact ⟨_, _, rfl, h⟩
    · exact h.elim
  · rintro K v11' ⟨b0', out7', v12'⟩ w h
    exact X_journal_integers_5 h

def C_journal_integers_4 (N : Nat) (Q : VP) (b0' out7' : Sl) (v11' v12' : Int) (w : World) : Prop :=
  LoopC N w [] (v11' : Int) ((b0', out7', v12') : Sl × Sl × Int) (L_journal_integers_5 N Q)

noncomputable def H_journal_integers_4 (N : Nat) (Q : VP) : St → World → Prop := HG N 32 [.v 0 .l, .v 7 .l, .v 11 (.i .i64), .v 12 (.i .i64)] (C_journal_integers_4 N Q)

theorem T_journal_integers_4 (N : Nat) (Q : VP) (s : St) (w : World) (h : H_journal_integers_4 N Q s w) : Snd (cy N []) (cR (cL (cR (cR (bodyOf Try.f131))))) (z_journal_integers_0 N Q) s w :=
  Snd.HG h fun b0' out7' v11' v12' w h => (bk 0 (T_journal_integers_5 N Q (mpr' (by kernel_rfl) h)))

def C_journal_integers_2 (N : Nat) (Q : VP) (b0' : Sl) (count1' : Int) (out7' : Sl) (w : World) : Prop :=
  Reb N w [] fun w13 => C_journal_integers_4 N Q b0' out7' count1' 0 w13

noncomputable def H_journal_integers_2 (N : Nat) (Q : VP) : St → World → Prop := HG N 32 [.v 0 .l, .v 1 (.i .i64), .v 7 .l] (C_journal_integers_2 N Q)

theorem T_journal_integers_2 (N : Nat) (Q : VP) (s : St) (w : World) (h : H_journal_integers_2 N Q s w) : Snd (cy N []) (cR (cR (bodyOf Try.f131))) (retD (cy N []) Try.f131 Q) s w :=
  Snd.HG h fun b0' count1' out7' w h => (sq (H_journal_integers_3 N Q) (sq (H_journal_integers_4 N Q) (dsm h) (T_journal_integers_4 N Q)) (T_journal_integers_3 N Q))

def C_journal_integers_1 (N : Nat) (Q : VP) (b0' : Sl) (count1' : Int) (w : World) : Prop :=
  Reb N w [] fun w14 => C_journal_integers_2 N Q b0' count1' (⟨none, 0, 0⟩ : Sl) w14

noncomputable def H_journal_integers_1 (N : Nat) (Q : VP) : St → World → Prop := HG N 32 [.v 0 .l, .v 1 (.i .i64)] (C_journal_integers_1 N Q)

theorem T_journal_integers_1 (N : Nat) (Q : VP) (s : St) (w : World) (h : H_journal_integers_1 N Q s w) : Snd (cy N []) (cR (bodyOf Try.f131)) (retD (cy N []) Try.f131 Q) s w :=
  Snd.HG h fun b0' count1' w h => (sq (H_journal_integers_2 N Q) (dsm h) (T_journal_integers_2 N Q))

def F_journal_integers (N : Nat) (b0 : Sl) (count1 : Int) (Q : VP) (w : World) : Prop :=
  Reb N w [] fun w15 => C_journal_integers_1 N Q b0 count1 w15

theorem journal_integers_snd (N : Nat) (b0 : Sl) (count1 : Int) (Q : VP) (w : World) (h : F_journal_integers N b0 count1 Q w) : Snd (cy N []) (bodyOf Try.f131) (retD (cy N []) Try.f131 Q) (entry 32 [(.slice b0.a b0.n b0.c), (.int .i64 count1)]) w :=
  (sq (H_journal_integers_1 N Q) (dsm h) (T_journal_integers_1 N Q))

theorem journal_integers_calls (b0 : Sl) (count1 : Int) (Q : VP) (w : World) (h : F_journal_integers w.heap.size b0 count1 Q w) : Calls PP n_journal_integers [(.slice b0.a b0.n b0.c), (.int .i64 count1)].toArray w fun e w' => ∃ v, e = .returned v ∧ Q v w' :=
  calls_of (C := cy w.heap.size []) (fn := Try.f131) (c := (bodyOf Try.f131)) (by kernel_rfl) (by kernel_rfl) (Nat.le_refl _) (journal_integers_snd _ b0 count1 Q w h)

/-! ### journal_Journal_read -/
def F_journal_Journal_read (N : Nat) (j0 : Option Addr) (b1 : Sl) (Q : VP) (w : World) : Prop :=
  CallL PP N w [] n_journal_integers [(.slice b1.a b1.n b1.c), (.int .i64 1)] fun r4 w5 => ∃ l1 : Sl, ∃ l2 : Sl, ∃ b3 : Bool, r4 = (.tuple #[(.slice l1.a l1.n l1.c), (.slice l2.a l2.n l2.c), (.bool b3)]) ∧ IfB (!b3) (Reb N w5 [] (Q (.bool false))) (IdxL l1.a l1.n 0 fun q6 => ∃ n7 : Int, At w5 (q6.add ((0 : Int).toNat * 1)) [(.int .i64 n7)] ∧ NotIn ((q6.add ((0 : Int).toNat * 1)) : Addr).block [] ∧ IfB (decide ((n7 : Int) = 1)) (CallL PP N w5 [] n_journal_integers [(.slice l2.a l2.n l2.c), (.int .i64 2)] fun r11 w12 => ∃ l8 : Sl, ∃ l9 : Sl, ∃ b10 : Bool, r11 = (.tuple #[(.slice l8.a l8.n l8.c), (.slice l9.a l9.n l9.c), (.bool b10)]) ∧ IfB b10 (IfB (decide ((((l9.n : Nat) : Int) : Int) = 0)) (IdxL l8.a l8.n 0 fun q13 => ∃ n14 : Int, At w12 (q13.add ((0 : Int).toNat * 1)) [(.int .i64 n14)] ∧ NotIn ((q13.add ((0 : Int).toNat * 1)) : Addr).block [] ∧ IdxL l8.a l8.n 1 fun q15 => ∃ n16 : Int, At w12 (q15.add ((1 : Int).toNat * 1)) [(.int .i64 n16)] ∧ NotIn ((q15.add ((1 : Int).toNat * 1)) : Addr).block [] ∧ CallL PP N w12 [] n_journal_Journal_setTerm [(.pointer j0), (.int .i64 n14), (.int .i64 n16)] fun r18 w19 => ∃ n17 : Int, r18 = (.int .i64 n17) ∧ Reb N w19 [] (Q (.bool (decide ((n17 : Int) = 0))))) (Reb N w12 [] (Q (.bool false)))) (Reb N w12 [] (Q (.bool false)))) (IfB (decide ((n7 : Int) = 2)) (CallL PP N w5 [] n_journal_integers [(.slice l2.a l2.n l2.c), (.int .i64 1)] fun r23 w24 => ∃ l20 : Sl, ∃ l21 : Sl, ∃ b22 : Bool, r23 = (.tuple #[(.slice l20.a l20.n l20.c), (.slice l21.a l21.n l21.c), (.bool b22)]) ∧ IfB (!b22) (Reb N w24 [] (Q (.bool false))) (CallL PP N w24 [] n_entry_Read [(.slice l21.a l21.n l21.c)] fun r28 w29 => ∃ x25 : G_api_Entry, ∃ n26 : Int, ∃ n27 : Int, r28 = (.tuple #[(.agg (List.toArray x25.cells)), (.int .i64 n26), (.int .i64 n27)]) ∧ ∀ b30 : Nat, w29.heap.size ≤ b30 → IfB (decide ((n27 : Int) = 0)) (IfB (decide ((n26 : Int) = ((l21.n : Nat) : Int))) (IdxL l20.a l20.n 0 fun q31 => ∃ n32 : Int, At w29 (q31.add ((0 : Int).toNat * 1)) [(.int .i64 n32)] ∧ NotIn ((q31.add ((0 : Int).toNat * 1)) : Addr).block [⟨b30, x25.cells, t_api_Entry⟩] ∧ CallL PP N w29 [⟨b30, x25.cells, t_api_Entry⟩] n_journal_Journal_add [(.pointer j0), (.int .i64 n32), (.agg (List.toArray x25.cells))] fun r34 w35 => ∃ n33 : Int, r34 = (.int .i64 n33) ∧ Reb N w35 [⟨b30, x25.cells, t_api_Entry⟩] (Q (.bool (decide ((n33 : Int) = 0))))) (Reb N w29 [⟨b30, x25.cells, t_api_Entry⟩] (Q (.bool false)))) (Reb N w29 [⟨b30, x25.cells, t_api_Entry⟩] (Q (.bool false))))) (IfB (decide ((n7 : Int) = 3)) (CallL PP N w5 [] n_journal_integers [(.slice l2.a l2.n l2.c), (.int .i64 1)] fun r39 w40 => ∃ l36 : Sl, ∃ l37 : Sl, ∃ b38 : Bool, r39 = (.tuple #[(.slice l36.a l36.n l36.c), (.slice l37.a l37.n l37.c), (.bool b38)]) ∧ IfB b38 (IfB (decide ((((l37.n : Nat) : Int) : Int) = 0)) (IdxL l36.a l36.n 0 fun q41 => ∃ n42 : Int, At w40 (q41.add ((0 : Int).toNat * 1)) [(.int .i64 n42)] ∧ NotIn ((q41.add ((0 : Int).toNat * 1)) : Addr).block [] ∧ CallL PP N w40 [] n_journal_Journal_cut [(.pointer j0), (.int .i64 n42)] fun r44 w45 => ∃ n43 : Int, r44 = (.int .i64 n43) ∧ Reb N w45 [] (Q (.bool (decide ((n43 : Int) = 0))))) (Reb N w40 [] (Q (.bool false)))) (Reb N w40 [] (Q (.bool false)))) (Reb N w5 [] (Q (.bool false))))))

theorem journal_Journal_read_snd (N : Nat) (j0 : Option Addr) (b1 : Sl) (Q : VP) (w : World) (h : F_journal_Journal_read N j0 b1 Q w) : Snd (cy N [14]) (bodyOf Try.f77) (retD (cy N [14]) Try.f77 Q) (entry 111 [(.pointer j0), (.slice b1.a b1.n b1.c)]) w :=
  (dsm h)

theorem journal_Journal_read_calls (j0 : Option Addr) (b1 : Sl) (Q : VP) (w : World) (h : F_journal_Journal_read w.heap.size j0 b1 Q w) : Calls PP n_journal_Journal_read [(.pointer j0), (.slice b1.a b1.n b1.c)].toArray w fun e w' => ∃ v, e = .returned v ∧ Q v w' :=
  calls_of (C := cy w.heap.size [14]) (fn := Try.f77) (c := (bodyOf Try.f77)) (by kernel_rfl) (by kernel_rfl) (Nat.le_refl _) (journal_Journal_read_snd _ j0 b1 Q w h)
end Go.Sh
