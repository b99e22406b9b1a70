/- What these functions do, told by computation: a formula for each, and that its calls do what the formula says.
   Conditions: none. -/
import Derived.Test.YtcligpfkmnlhnaaBase
namespace Go.Sh
open Go
set_option linter.unusedVariables false
set_option maxRecDepth 100000

/-! ### cellplaneref24_Store_find -/
noncomputable def k_cellplaneref24_Store_find_0 : Code := (cR (cR (cR (bodyOf Go.Proofs.Try.f51))))

def C_cellplaneref24_Store_find_3 (N : Nat) (Q : Value → World → Prop) (s0' : Option Addr) (key1' : ByteArray) (i6' : Int) (w : World) : Prop :=
  NilL s0' fun q1 => ∃ l2 : Sl, At w q1 [(.slice l2.a l2.n l2.c)] ∧ NotIn (q1 : Addr).block [] ∧ IfB (decide ((i6' : Int) < ((l2.n : Nat) : Int))) (NilL s0' fun q3 => ∃ l4 : Sl, At w q3 [(.slice l4.a l4.n l4.c)] ∧ NotIn (q3 : Addr).block [] ∧ IdxL l4.a l4.n i6' fun q5 => ∃ s6 : ByteArray, At w (q5.add ((i6' : Int).toNat * 3)) [(.string s6)] ∧ NotIn ((q5.add ((i6' : Int).toNat * 3)) : Addr).block [] ∧ Reb N w [] (Q (.tuple #[(.int .i64 i6'), (.bool (strEq s6 key1'))]))) (Reb N w [] (Q (.tuple #[(.int .i64 i6'), (.bool false)])))

theorem X_cellplaneref24_Store_find_3 {N : Nat} {Q : Value → World → Prop} {s0' : Option Addr} {key1' : ByteArray} {i6' : Int} {w : World} (h : C_cellplaneref24_Store_find_3 N Q s0' key1' i6' w) : Snd (cx N (fun d => memN d [])) k_cellplaneref24_Store_find_0 (retD (cx N (fun d => memN d [])) Go.Proofs.Try.f51 Q) (mkS 48 [.val 0, .val 1, .val 6] [(.pointer s0'), (.string key1'), (.int .i64 i6')] []) w :=
  (den_sound okc mixed _ _ _ _ (mpr' (by kernel_rfl) h))

noncomputable def H_cellplaneref24_Store_find_3 (N : Nat) (Q : Value → World → Prop) : St → World → Prop := fun s w => grabK 48 [.val 0, .val 1, .val 6] s fun vs ls => match vs, ls with
  | [.pointer s0', .string key1', .int .i64 i6'], [] => Reb N w s.L fun wa => C_cellplaneref24_Store_find_3 N Q s0' key1' i6' wa
  | _, _ => False

theorem T_cellplaneref24_Store_find_3 (N : Nat) (Q : Value → World → Prop) (s : St) (w : World) (h : H_cellplaneref24_Store_find_3 N Q s w) : Snd (cx N (fun d => memN d [])) k_cellplaneref24_Store_find_0 (retD (cx N (fun d => memN d [])) Go.Proofs.Try.f51 Q) s w := by
  refine Snd.grab h (fun vs ls hd hloc wa hl => ?_)
  split at hd
  · exact X_cellplaneref24_Store_find_3 (hd wa hl)
  · exact hd.elim

def D_cellplaneref24_Store_find_4 (K : ((Option Addr) × ByteArray) → (Int) → Prop) : List Value → List LB → Prop := fun vs ls => match vs, ls with
  | [.pointer s0', .string key1', .int .i64 i6'], [] => K (s0', key1') i6'
  | _, _ => False

noncomputable def z_cellplaneref24_Store_find_1 (N : Nat) (Q : Value → World → Prop) : Cont := (inBlockD 0 (thenD (H_cellplaneref24_Store_find_3 N Q) (retD (cx N (fun d => memN d [])) Go.Proofs.Try.f51 Q)))

noncomputable def k_cellplaneref24_Store_find_2 : Code := (cL (cL (cR (cR (bodyOf Go.Proofs.Try.f51)))))

def B_cellplaneref24_Store_find_4 (N : Nat) (K1 : ((Option Addr) × ByteArray) → (Int) → World → Prop) (Q : Value → World → Prop) (s0' : Option Addr) (key1' : ByteArray) (i6' : Int) (w : World) : Prop :=
  NilL s0' fun q7 => ∃ l8 : Sl, At w q7 [(.slice l8.a l8.n l8.c)] ∧ NotIn (q7 : Addr).block [] ∧ IfB (decide ((i6' : Int) < ((l8.n : Nat) : Int))) (NilL s0' fun q9 => ∃ l10 : Sl, At w q9 [(.slice l10.a l10.n l10.c)] ∧ NotIn (q9 : Addr).block [] ∧ IdxL l10.a l10.n i6' fun q11 => ∃ s12 : ByteArray, At w (q11.add ((i6' : Int).toNat * 3)) [(.string s12)] ∧ NotIn ((q11.add ((i6' : Int).toNat * 3)) : Addr).block [] ∧ IfB (Op.bytesLess s12.toList key1'.toList) (Reb N w [] fun w13 => K1 (s0', key1') (IntKind.i64.wrap (i6' + 1)) w13) (Reb N w [] fun w14 => C_cellplaneref24_Store_find_3 N Q s0' key1' i6' w14)) (Reb N w [] fun w15 => C_cellplaneref24_Store_find_3 N Q s0' key1' i6' w15)

theorem X_cellplaneref24_Store_find_4 {N : Nat} {K1 : ((Option Addr) × ByteArray) → (Int) → World → Prop} {Q : Value → World → Prop} {s0' : Option Addr} {key1' : ByteArray} {i6' : Int} {w : World} (h : B_cellplaneref24_Store_find_4 N K1 Q s0' key1' i6' w) : Snd (cx N (fun d => memN d [])) (cL k_cellplaneref24_Store_find_2) (thenD (HeadK N 48 [.val 0, .val 1, .val 6] D_cellplaneref24_Store_find_4 K1) (z_cellplaneref24_Store_find_1 N Q)) (mkS 48 [.val 0, .val 1, .val 6] [(.pointer s0'), (.string key1'), (.int .i64 i6')] []) w :=
  (den_sound okc mixed _ _ _ _ (mpr' (by kernel_rfl) h))

def L_cellplaneref24_Store_find_4 (N : Nat) (Q : Value → World → Prop) (K1 : ((Option Addr) × ByteArray) → (Int) → World → Prop) (c : (Option Addr) × ByteArray) (x : Int) (w : World) : Prop := match c, x with
  | (s0', key1'), i6' => B_cellplaneref24_Store_find_4 N K1 Q s0' key1' i6' w

theorem T_cellplaneref24_Store_find_4 (N : Nat) (Q : Value → World → Prop) {s : St} {w : World} (h : HeadE N 48 [.val 0, .val 1, .val 6] D_cellplaneref24_Store_find_4 (L_cellplaneref24_Store_find_4 N Q) s w) : Snd (cx N (fun d => memN d [])) k_cellplaneref24_Store_find_2 (z_cellplaneref24_Store_find_1 N Q) s w := by
  refine Snd.cast (c' := .loop (cL k_cellplaneref24_Store_find_2)) (by kernel_rfl) (Snd.loopC (fun (c : (Option Addr) × ByteArray) (x : Int) => match c, x with | (s0', key1'), i6' => ([(.pointer s0'), (.string key1'), (.int .i64 i6')], [])) ?_ ?_ h)
  · intro K vs ls h
    unfold D_cellplaneref24_Store_find_4 at h
    split at h
    · exact ⟨_, _, rfl, h⟩
    · exact h.elim
  · rintro K ⟨s0', key1'⟩ i6' w h
    exact X_cellplaneref24_Store_find_4 h

def C_cellplaneref24_Store_find_2 (N : Nat) (Q : Value → World → Prop) (s0' : Option Addr) (key1' : ByteArray) (i6' : Int) (w : World) : Prop :=
  LoopC N w [] ((s0', key1') : (Option Addr) × ByteArray) (i6' : Int) (L_cellplaneref24_Store_find_4 N Q)

theorem X_cellplaneref24_Store_find_2 {N : Nat} {Q : Value → World → Prop} {s0' : Option Addr} {key1' : ByteArray} {i6' : Int} {w : World} (h : C_cellplaneref24_Store_find_2 N Q s0' key1' i6' w) : Snd (cx N (fun d => memN d [])) (cR (cR (bodyOf Go.Proofs.Try.f51))) (retD (cx N (fun d => memN d [])) Go.Proofs.Try.f51 Q) (mkS 48 [.val 0, .val 1, .val 6] [(.pointer s0'), (.string key1'), (.int .i64 i6')] []) w :=
  (Snd.cast (c' := .seq (cL (cR (cR (bodyOf Go.Proofs.Try.f51)))) (cR (cR (cR (bodyOf Go.Proofs.Try.f51))))) (by kernel_rfl) (Snd.seq (H_cellplaneref24_Store_find_3 N Q) (Snd.cast (c' := .block 0 (cL (cL (cR (cR (bodyOf Go.Proofs.Try.f51)))))) (by kernel_rfl) (Snd.block (T_cellplaneref24_Store_find_4 N Q (mpr' (by kernel_rfl) h)))) (fun s w h => T_cellplaneref24_Store_find_3 N Q s w h)))

noncomputable def H_cellplaneref24_Store_find_2 (N : Nat) (Q : Value → World → Prop) : St → World → Prop := fun s w => grabK 48 [.val 0, .val 1, .val 6] s fun vs ls => match vs, ls with
  | [.pointer s0', .string key1', .int .i64 i6'], [] => Reb N w s.L fun wa => C_cellplaneref24_Store_find_2 N Q s0' key1' i6' wa
  | _, _ => False

theorem T_cellplaneref24_Store_find_2 (N : Nat) (Q : Value → World → Prop) (s : St) (w : World) (h : H_cellplaneref24_Store_find_2 N Q s w) : Snd (cx N (fun d => memN d [])) (cR (cR (bodyOf Go.Proofs.Try.f51))) (retD (cx N (fun d => memN d [])) Go.Proofs.Try.f51 Q) s w := by
  refine Snd.grab h (fun vs ls hd hloc wa hl => ?_)
  split at hd
  · exact X_cellplaneref24_Store_find_2 (hd wa hl)
  · exact hd.elim

def C_cellplaneref24_Store_find_1 (N : Nat) (Q : Value → World → Prop) (s0' : Option Addr) (key1' : ByteArray) (w : World) : Prop :=
  Reb N w [] fun w16 => C_cellplaneref24_Store_find_2 N Q s0' key1' 0 w16

theorem X_cellplaneref24_Store_find_1 {N : Nat} {Q : Value → World → Prop} {s0' : Option Addr} {key1' : ByteArray} {w : World} (h : C_cellplaneref24_Store_find_1 N Q s0' key1' w) : Snd (cx N (fun d => memN d [])) (cR (bodyOf Go.Proofs.Try.f51)) (retD (cx N (fun d => memN d [])) Go.Proofs.Try.f51 Q) (mkS 48 [.val 0, .val 1] [(.pointer s0'), (.string key1')] []) w :=
  (Snd.cast (c' := .seq (cL (cR (bodyOf Go.Proofs.Try.f51))) (cR (cR (bodyOf Go.Proofs.Try.f51)))) (by kernel_rfl) (Snd.seq (H_cellplaneref24_Store_find_2 N Q) (den_sound okc mixed _ _ _ _ (mpr' (by kernel_rfl) h)) (fun s w h => T_cellplaneref24_Store_find_2 N Q s w h)))

noncomputable def H_cellplaneref24_Store_find_1 (N : Nat) (Q : Value → World → Prop) : St → World → Prop := fun s w => grabK 48 [.val 0, .val 1] s fun vs ls => match vs, ls with
  | [.pointer s0', .string key1'], [] => Reb N w s.L fun wa => C_cellplaneref24_Store_find_1 N Q s0' key1' wa
  | _, _ => False

theorem T_cellplaneref24_Store_find_1 (N : Nat) (Q : Value → World → Prop) (s : St) (w : World) (h : H_cellplaneref24_Store_find_1 N Q s w) : Snd (cx N (fun d => memN d [])) (cR (bodyOf Go.Proofs.Try.f51)) (retD (cx N (fun d => memN d [])) Go.Proofs.Try.f51 Q) s w := by
  refine Snd.grab h (fun vs ls hd hloc wa hl => ?_)
  split at hd
  · exact X_cellplaneref24_Store_find_1 (hd wa hl)
  · exact hd.elim

def F_cellplaneref24_Store_find (N : Nat) (s0 : Option Addr) (key1 : ByteArray) (Q : Value → World → Prop) (w : World) : Prop :=
  Reb N w [] fun w17 => C_cellplaneref24_Store_find_1 N Q s0 key1 w17

theorem cellplaneref24_Store_find_snd (N : Nat) (s0 : Option Addr) (key1 : ByteArray) (Q : Value → World → Prop) (w : World) (h : F_cellplaneref24_Store_find N s0 key1 Q w) : Snd (cx N (fun d => memN d [])) (bodyOf Go.Proofs.Try.f51) (retD (cx N (fun d => memN d [])) Go.Proofs.Try.f51 Q) (entry 48 [(.pointer s0), (.string key1)]) w :=
  (Snd.cast (c' := .seq (cL (bodyOf Go.Proofs.Try.f51)) (cR (bodyOf Go.Proofs.Try.f51))) (by kernel_rfl) (Snd.seq (H_cellplaneref24_Store_find_1 N Q) (den_sound okc mixed _ _ _ _ (mpr' (by kernel_rfl) h)) (fun s w h => T_cellplaneref24_Store_find_1 N Q s w h)))

theorem cellplaneref24_Store_find_calls (s0 : Option Addr) (key1 : ByteArray) (Q : Value → World → Prop) (w : World) (h : F_cellplaneref24_Store_find w.heap.size s0 key1 Q w) : Calls PP n_cellplaneref24_Store_find [(.pointer s0), (.string key1)].toArray w fun e w' => ∃ v, e = .returned v ∧ Q v w' :=
  calls_of (C := cx w.heap.size (fun d => memN d [])) (fn := Go.Proofs.Try.f51) (c := (bodyOf Go.Proofs.Try.f51)) (by kernel_rfl) (by kernel_rfl) (Nat.le_refl _) (cellplaneref24_Store_find_snd _ s0 key1 Q w h)

/-! ### cellplaneref25_Queue_at -/
def C_cellplaneref25_Queue_at_2 (N : Nat) (Q : Value → World → Prop) (w : World) : Prop :=
  Reb N w [] (Q (.int .i64 (-1)))

theorem X_cellplaneref25_Queue_at_2 {N : Nat} {Q : Value → World → Prop} {w : World} (h : C_cellplaneref25_Queue_at_2 N Q w) : Snd (cx N (fun d => memN d [6])) (cR (cR (bodyOf Go.Proofs.Try.f52))) (retD (cx N (fun d => memN d [6])) Go.Proofs.Try.f52 Q) (mkS 23 [] [] []) w :=
  (den_sound okc mixed _ _ _ _ (mpr' (by kernel_rfl) h))

noncomputable def H_cellplaneref25_Queue_at_2 (N : Nat) (Q : Value → World → Prop) : St → World → Prop := fun s w => grabK 23 [] s fun vs ls => match vs, ls with
  | [], [] => Reb N w s.L fun wa => C_cellplaneref25_Queue_at_2 N Q wa
  | _, _ => False

theorem T_cellplaneref25_Queue_at_2 (N : Nat) (Q : Value → World → Prop) (s : St) (w : World) (h : H_cellplaneref25_Queue_at_2 N Q s w) : Snd (cx N (fun d => memN d [6])) (cR (cR (bodyOf Go.Proofs.Try.f52))) (retD (cx N (fun d => memN d [6])) Go.Proofs.Try.f52 Q) s w := by
  refine Snd.grab h (fun vs ls hd hloc wa hl => ?_)
  split at hd
  · exact X_cellplaneref25_Queue_at_2 (hd wa hl)
  · exact hd.elim

noncomputable def k_cellplaneref25_Queue_at_0 : Code := (cR (cL (cR (bodyOf Go.Proofs.Try.f52))))

noncomputable def z_cellplaneref25_Queue_at_1 (N : Nat) (Q : Value → World → Prop) : Cont := (thenD (H_cellplaneref25_Queue_at_2 N Q) (retD (cx N (fun d => memN d [6])) Go.Proofs.Try.f52 Q))

def D_cellplaneref25_Queue_at_4 (K : (Int × Sl × Int) → (Int) → Prop) : List Value → List LB → Prop := fun vs ls => match vs, ls with
  | [.int .i64 item1', .slice v10'_a v10'_n v10'_c, .int .i64 v11', .int .i64 v12'], [] => K (item1', ⟨v10'_a, v10'_n, v10'_c⟩, v11') v12'
  | _, _ => False

def B_cellplaneref25_Queue_at_4 (N : Nat) (K1 : (Int × Sl × Int) → (Int) → World → Prop) (Q : Value → World → Prop) (item1' : Int) (v10' : Sl) (v11' v12' : Int) (w : World) : Prop :=
  IfB (decide ((v12' : Int) < v11')) (IdxL v10'.a v10'.n v12' fun q1 => ∃ x2 : G_api_Item, At w (q1.add ((v12' : Int).toNat * 2)) x2.cells ∧ NotIn ((q1.add ((v12' : Int).toNat * 2)) : Addr).block [] ∧ ∀ b3 : Nat, w.heap.size ≤ b3 → IfB (decide ((x2.Number : Int) = item1')) (Reb N w [⟨b3, x2.cells, t_api_Item⟩] (Q (.int .i64 v12'))) (Reb N w [⟨b3, x2.cells, t_api_Item⟩] fun w4 => K1 (item1', v10', v11') (IntKind.i64.wrap (v12' + 1)) w4)) (Reb N w [] fun w5 => C_cellplaneref25_Queue_at_2 N Q w5)

theorem X_cellplaneref25_Queue_at_4 {N : Nat} {K1 : (Int × Sl × Int) → (Int) → World → Prop} {Q : Value → World → Prop} {item1' : Int} {v10' : Sl} {v11' v12' : Int} {w : World} (h : B_cellplaneref25_Queue_at_4 N K1 Q item1' v10' v11' v12' w) : Snd (cx N (fun d => memN d [6])) (cL (cL k_cellplaneref25_Queue_at_0)) (thenD (HeadK N 23 [.val 1, .val 10, .val 11, .val 12] D_cellplaneref25_Queue_at_4 K1) (inBlockD 0 (z_cellplaneref25_Queue_at_1 N Q))) (mkS 23 [.val 1, .val 10, .val 11, .val 12] [(.int .i64 item1'), (.slice v10'.a v10'.n v10'.c), (.int .i64 v11'), (.int .i64 v12')] []) w :=
  (den_sound okc mixed _ _ _ _ (mpr' (by kernel_rfl) h))

def L_cellplaneref25_Queue_at_4 (N : Nat) (Q : Value → World → Prop) (K1 : (Int × Sl × Int) → (Int) → World → Prop) (c : Int × Sl × Int) (x : Int) (w : World) : Prop := match c, x with
  | (item1', v10', v11'), v12' => B_cellplaneref25_Queue_at_4 N K1 Q item1' v10' v11' v12' w

theorem T_cellplaneref25_Queue_at_4 (N : Nat) (Q : Value → World → Prop) {s : St} {w : World} (h : HeadE N 23 [.val 1, .val 10, .val 11, .val 12] D_cellplaneref25_Queue_at_4 (L_cellplaneref25_Queue_at_4 N Q) s w) : Snd (cx N (fun d => memN d [6])) (cL k_cellplaneref25_Queue_at_0) (inBlockD 0 (z_cellplaneref25_Queue_at_1 N Q)) s w := by
  refine Snd.cast (c' := .loop (cL (cL k_cellplaneref25_Queue_at_0))) (by kernel_rfl) (Snd.loopC (fun (c : Int × Sl × Int) (x : Int) => match c, x with | (item1', v10', v11'), v12' => ([(.int .i64 item1'), (.slice v10'.a v10'.n v10'.c), (.int .i64 v11'), (.int .i64 v12')], [])) ?_ ?_ h)
  · intro K vs ls h
    unfold D_cellplaneref25_Queue_at_4 at h
    split at h
    · exact ⟨_, _, rfl, h⟩
    · exact h.elim
  · rintro K ⟨item1', v10', v11'⟩ v12' w h
    exact X_cellplaneref25_Queue_at_4 h

def C_cellplaneref25_Queue_at_3 (N : Nat) (Q : Value → World → Prop) (item1' : Int) (v10' : Sl) (v11' v12' : Int) (w : World) : Prop :=
  LoopC N w [] ((item1', v10', v11') : Int × Sl × Int) (v12' : Int) (L_cellplaneref25_Queue_at_4 N Q)

theorem X_cellplaneref25_Queue_at_3 {N : Nat} {Q : Value → World → Prop} {item1' : Int} {v10' : Sl} {v11' v12' : Int} {w : World} (h : C_cellplaneref25_Queue_at_3 N Q item1' v10' v11' v12' w) : Snd (cx N (fun d => memN d [6])) k_cellplaneref25_Queue_at_0 (z_cellplaneref25_Queue_at_1 N Q) (mkS 23 [.val 1, .val 10, .val 11, .val 12] [(.int .i64 item1'), (.slice v10'.a v10'.n v10'.c), (.int .i64 v11'), (.int .i64 v12')] []) w :=
  (Snd.cast (c' := .block 0 (cL k_cellplaneref25_Queue_at_0)) (by kernel_rfl) (Snd.block (T_cellplaneref25_Queue_at_4 N Q (mpr' (by kernel_rfl) h))))

noncomputable def H_cellplaneref25_Queue_at_3 (N : Nat) (Q : Value → World → Prop) : St → World → Prop := fun s w => grabK 23 [.val 1, .val 10, .val 11, .val 12] s fun vs ls => match vs, ls with
  | [.int .i64 item1', .slice v10'_a v10'_n v10'_c, .int .i64 v11', .int .i64 v12'], [] => Reb N w s.L fun wa => C_cellplaneref25_Queue_at_3 N Q item1' ⟨v10'_a, v10'_n, v10'_c⟩ v11' v12' wa
  | _, _ => False

theorem T_cellplaneref25_Queue_at_3 (N : Nat) (Q : Value → World → Prop) (s : St) (w : World) (h : H_cellplaneref25_Queue_at_3 N Q s w) : Snd (cx N (fun d => memN d [6])) k_cellplaneref25_Queue_at_0 (z_cellplaneref25_Queue_at_1 N Q) s w := by
  refine Snd.grab h (fun vs ls hd hloc wa hl => ?_)
  split at hd
  · exact X_cellplaneref25_Queue_at_3 (hd wa hl)
  · exact hd.elim

def C_cellplaneref25_Queue_at_1 (N : Nat) (Q : Value → World → Prop) (q0' : Option Addr) (item1' : Int) (w : World) : Prop :=
  NilL q0' fun q6 => ∃ l7 : Sl, At w q6 [(.slice l7.a l7.n l7.c)] ∧ NotIn (q6 : Addr).block [] ∧ Reb N w [] fun w8 => C_cellplaneref25_Queue_at_3 N Q item1' l7 ((l7.n : Nat) : Int) 0 w8

theorem X_cellplaneref25_Queue_at_1 {N : Nat} {Q : Value → World → Prop} {q0' : Option Addr} {item1' : Int} {w : World} (h : C_cellplaneref25_Queue_at_1 N Q q0' item1' w) : Snd (cx N (fun d => memN d [6])) (cR (bodyOf Go.Proofs.Try.f52)) (retD (cx N (fun d => memN d [6])) Go.Proofs.Try.f52 Q) (mkS 23 [.val 0, .val 1] [(.pointer q0'), (.int .i64 item1')] []) w :=
  (Snd.cast (c' := .seq (cL (cR (bodyOf Go.Proofs.Try.f52))) (cR (cR (bodyOf Go.Proofs.Try.f52)))) (by kernel_rfl) (Snd.seq (H_cellplaneref25_Queue_at_2 N Q) (Snd.cast (c' := .seq (cL (cL (cR (bodyOf Go.Proofs.Try.f52)))) (cR (cL (cR (bodyOf Go.Proofs.Try.f52))))) (by kernel_rfl) (Snd.seq (H_cellplaneref25_Queue_at_3 N Q) (den_sound okc mixed _ _ _ _ (mpr' (by kernel_rfl) h)) (fun s w h => T_cellplaneref25_Queue_at_3 N Q s w h))) (fun s w h => T_cellplaneref25_Queue_at_2 N Q s w h)))

noncomputable def H_cellplaneref25_Queue_at_1 (N : Nat) (Q : Value → World → Prop) : St → World → Prop := fun s w => grabK 23 [.val 0, .val 1] s fun vs ls => match vs, ls with
  | [.pointer q0', .int .i64 item1'], [] => Reb N w s.L fun wa => C_cellplaneref25_Queue_at_1 N Q q0' item1' wa
  | _, _ => False

theorem T_cellplaneref25_Queue_at_1 (N : Nat) (Q : Value → World → Prop) (s : St) (w : World) (h : H_cellplaneref25_Queue_at_1 N Q s w) : Snd (cx N (fun d => memN d [6])) (cR (bodyOf Go.Proofs.Try.f52)) (retD (cx N (fun d => memN d [6])) Go.Proofs.Try.f52 Q) s w := by
  refine Snd.grab h (fun vs ls hd hloc wa hl => ?_)
  split at hd
  · exact X_cellplaneref25_Queue_at_1 (hd wa hl)
  · exact hd.elim

def F_cellplaneref25_Queue_at (N : Nat) (q0 : Option Addr) (item1 : Int) (Q : Value → World → Prop) (w : World) : Prop :=
  Reb N w [] fun w9 => C_cellplaneref25_Queue_at_1 N Q q0 item1 w9

theorem cellplaneref25_Queue_at_snd (N : Nat) (q0 : Option Addr) (item1 : Int) (Q : Value → World → Prop) (w : World) (h : F_cellplaneref25_Queue_at N q0 item1 Q w) : Snd (cx N (fun d => memN d [6])) (bodyOf Go.Proofs.Try.f52) (retD (cx N (fun d => memN d [6])) Go.Proofs.Try.f52 Q) (entry 23 [(.pointer q0), (.int .i64 item1)]) w :=
  (Snd.cast (c' := .seq (cL (bodyOf Go.Proofs.Try.f52)) (cR (bodyOf Go.Proofs.Try.f52))) (by kernel_rfl) (Snd.seq (H_cellplaneref25_Queue_at_1 N Q) (den_sound okc mixed _ _ _ _ (mpr' (by kernel_rfl) h)) (fun s w h => T_cellplaneref25_Queue_at_1 N Q s w h)))

theorem cellplaneref25_Queue_at_calls (q0 : Option Addr) (item1 : Int) (Q : Value → World → Prop) (w : World) (h : F_cellplaneref25_Queue_at w.heap.size q0 item1 Q w) : Calls PP n_cellplaneref25_Queue_at [(.pointer q0), (.int .i64 item1)].toArray w fun e w' => ∃ v, e = .returned v ∧ Q v w' :=
  calls_of (C := cx w.heap.size (fun d => memN d [6])) (fn := Go.Proofs.Try.f52) (c := (bodyOf Go.Proofs.Try.f52)) (by kernel_rfl) (by kernel_rfl) (Nat.le_refl _) (cellplaneref25_Queue_at_snd _ q0 item1 Q w h)

/-! ### cellplaneref25_Queue_drop -/
def C_cellplaneref25_Queue_drop_2 (N : Nat) (Q : Value → World → Prop) (q0' : Option Addr) (rest4' : Sl) (w : World) : Prop :=
  NilL q0' fun q1 => StL w [] (addA q1 1) [(.slice rest4'.a rest4'.n rest4'.c)] fun w2 => Reb N w2 [] (Q (.tuple #[]))

theorem X_cellplaneref25_Queue_drop_2 {N : Nat} {Q : Value → World → Prop} {q0' : Option Addr} {rest4' : Sl} {w : World} (h : C_cellplaneref25_Queue_drop_2 N Q q0' rest4' w) : Snd (cx N (fun d => memN d [6])) (cR (cR (bodyOf Go.Proofs.Try.f53))) (retD (cx N (fun d => memN d [6])) Go.Proofs.Try.f53 Q) (mkS 29 [.val 0, .val 4] [(.pointer q0'), (.slice rest4'.a rest4'.n rest4'.c)] []) w :=
  (den_sound okc mixed _ _ _ _ (mpr' (by kernel_rfl) h))

noncomputable def H_cellplaneref25_Queue_drop_2 (N : Nat) (Q : Value → World → Prop) : St → World → Prop := fun s w => grabK 29 [.val 0, .val 4] s fun vs ls => match vs, ls with
  | [.pointer q0', .slice rest4'_a rest4'_n rest4'_c], [] => Reb N w s.L fun wa => C_cellplaneref25_Queue_drop_2 N Q q0' ⟨rest4'_a, rest4'_n, rest4'_c⟩ wa
  | _, _ => False

theorem T_cellplaneref25_Queue_drop_2 (N : Nat) (Q : Value → World → Prop) (s : St) (w : World) (h : H_cellplaneref25_Queue_drop_2 N Q s w) : Snd (cx N (fun d => memN d [6])) (cR (cR (bodyOf Go.Proofs.Try.f53))) (retD (cx N (fun d => memN d [6])) Go.Proofs.Try.f53 Q) s w := by
  refine Snd.grab h (fun vs ls hd hloc wa hl => ?_)
  split at hd
  · exact X_cellplaneref25_Queue_drop_2 (hd wa hl)
  · exact hd.elim

noncomputable def k_cellplaneref25_Queue_drop_0 : Code := (cR (cL (cR (bodyOf Go.Proofs.Try.f53))))

noncomputable def z_cellplaneref25_Queue_drop_1 (N : Nat) (Q : Value → World → Prop) : Cont := (thenD (H_cellplaneref25_Queue_drop_2 N Q) (retD (cx N (fun d => memN d [6])) Go.Proofs.Try.f53 Q))

def D_cellplaneref25_Queue_drop_4 (K : ((Option Addr) × Int × Sl × Int) → (Sl × Int) → Prop) : List Value → List LB → Prop := fun vs ls => match vs, ls with
  | [.pointer q0', .int .i64 item1', .slice rest4'_a rest4'_n rest4'_c, .slice v10'_a v10'_n v10'_c, .int .i64 v11', .int .i64 v12'], [] => K (q0', item1', ⟨v10'_a, v10'_n, v10'_c⟩, v11') (⟨rest4'_a, rest4'_n, rest4'_c⟩, v12')
  | _, _ => False

def B_cellplaneref25_Queue_drop_4 (N : Nat) (K1 : ((Option Addr) × Int × Sl × Int) → (Sl × Int) → World → Prop) (Q : Value → World → Prop) (q0' : Option Addr) (item1' : Int) (rest4' v10' : Sl) (v11' v12' : Int) (w : World) : Prop :=
  IfB (decide ((v12' : Int) < v11')) (IdxL v10'.a v10'.n v12' fun q3 => ∃ x4 : G_api_Lease, At w (q3.add ((v12' : Int).toNat * 4)) x4.cells ∧ NotIn ((q3.add ((v12' : Int).toNat * 4)) : Addr).block [] ∧ ∀ b5 : Nat, w.heap.size ≤ b5 → IfB (!decide ((x4.Item : Int) = item1')) (NewL N w [⟨b5, x4.cells, t_api_Lease⟩] x4.cells t_api_Lease fun b6 w7 => RunL PP N w7 [⟨b5, x4.cells, t_api_Lease⟩] (Builtin.append_ #[t_sl_api_Lease, t_sl_api_Lease] t_sl_api_Lease #[(.slice rest4'.a rest4'.n rest4'.c), (.slice (some ⟨b6, 0, none⟩) 1 1)]) fun r9 w10 => ∃ l8 : Sl, r9 = (.slice l8.a l8.n l8.c) ∧ Reb N w10 [⟨b5, x4.cells, t_api_Lease⟩] fun w11 => K1 (q0', item1', v10', v11') (l8, (IntKind.i64.wrap (v12' + 1))) w11) (Reb N w [⟨b5, x4.cells, t_api_Lease⟩] fun w12 => K1 (q0', item1', v10', v11') (rest4', (IntKind.i64.wrap (v12' + 1))) w12)) (Reb N w [] fun w13 => C_cellplaneref25_Queue_drop_2 N Q q0' rest4' w13)

theorem X_cellplaneref25_Queue_drop_4 {N : Nat} {K1 : ((Option Addr) × Int × Sl × Int) → (Sl × Int) → World → Prop} {Q : Value → World → Prop} {q0' : Option Addr} {item1' : Int} {rest4' v10' : Sl} {v11' v12' : Int} {w : World} (h : B_cellplaneref25_Queue_drop_4 N K1 Q q0' item1' rest4' v10' v11' v12' w) : Snd (cx N (fun d => memN d [6])) (cL (cL k_cellplaneref25_Queue_drop_0)) (thenD (HeadK N 29 [.val 0, .val 1, .val 4, .val 10, .val 11, .val 12] D_cellplaneref25_Queue_drop_4 K1) (inBlockD 0 (z_cellplaneref25_Queue_drop_1 N Q))) (mkS 29 [.val 0, .val 1, .val 4, .val 10, .val 11, .val 12] [(.pointer q0'), (.int .i64 item1'), (.slice rest4'.a rest4'.n rest4'.c), (.slice v10'.a v10'.n v10'.c), (.int .i64 v11'), (.int .i64 v12')] []) w :=
  (den_sound okc mixed _ _ _ _ (mpr' (by kernel_rfl) h))

def L_cellplaneref25_Queue_drop_4 (N : Nat) (Q : Value → World → Prop) (K1 : ((Option Addr) × Int × Sl × Int) → (Sl × Int) → World → Prop) (c : (Option Addr) × Int × Sl × Int) (x : Sl × Int) (w : World) : Prop := match c, x with
  | (q0', item1', v10', v11'), (rest4', v12') => B_cellplaneref25_Queue_drop_4 N K1 Q q0' item1' rest4' v10' v11' v12' w

theorem T_cellplaneref25_Queue_drop_4 (N : Nat) (Q : Value → World → Prop) {s : St} {w : World} (h : HeadE N 29 [.val 0, .val 1, .val 4, .val 10, .val 11, .val 12] D_cellplaneref25_Queue_drop_4 (L_cellplaneref25_Queue_drop_4 N Q) s w) : Snd (cx N (fun d => memN d [6])) (cL k_cellplaneref25_Queue_drop_0) (inBlockD 0 (z_cellplaneref25_Queue_drop_1 N Q)) s w := by
  refine Snd.cast (c' := .loop (cL (cL k_cellplaneref25_Queue_drop_0))) (by kernel_rfl) (Snd.loopC (fun (c : (Option Addr) × Int × Sl × Int) (x : Sl × Int) => match c, x with | (q0', item1', v10', v11'), (rest4', v12') => ([(.pointer q0'), (.int .i64 item1'), (.slice rest4'.a rest4'.n rest4'.c), (.slice v10'.a v10'.n v10'.c), (.int .i64 v11'), (.int .i64 v12')], [])) ?_ ?_ h)
  · intro K vs ls h
    unfold D_cellplaneref25_Queue_drop_4 at h
    split at h
    · exact ⟨_, _, rfl, h⟩
    · exact h.elim
  · rintro K ⟨q0', item1', v10', v11'⟩ ⟨rest4', v12'⟩ w h
    exact X_cellplaneref25_Queue_drop_4 h

def C_cellplaneref25_Queue_drop_3 (N : Nat) (Q : Value → World → Prop) (q0' : Option Addr) (item1' : Int) (rest4' v10' : Sl) (v11' v12' : Int) (w : World) : Prop :=
  LoopC N w [] ((q0', item1', v10', v11') : (Option Addr) × Int × Sl × Int) ((rest4', v12') : Sl × Int) (L_cellplaneref25_Queue_drop_4 N Q)

theorem X_cellplaneref25_Queue_drop_3 {N : Nat} {Q : Value → World → Prop} {q0' : Option Addr} {item1' : Int} {rest4' v10' : Sl} {v11' v12' : Int} {w : World} (h : C_cellplaneref25_Queue_drop_3 N Q q0' item1' rest4' v10' v11' v12' w) : Snd (cx N (fun d => memN d [6])) k_cellplaneref25_Queue_drop_0 (z_cellplaneref25_Queue_drop_1 N Q) (mkS 29 [.val 0, .val 1, .val 4, .val 10, .val 11, .val 12] [(.pointer q0'), (.int .i64 item1'), (.slice rest4'.a rest4'.n rest4'.c), (.slice v10'.a v10'.n v10'.c), (.int .i64 v11'), (.int .i64 v12')] []) w :=
  (Snd.cast (c' := .block 0 (cL k_cellplaneref25_Queue_drop_0)) (by kernel_rfl) (Snd.block (T_cellplaneref25_Queue_drop_4 N Q (mpr' (by kernel_rfl) h))))

noncomputable def H_cellplaneref25_Queue_drop_3 (N : Nat) (Q : Value → World → Prop) : St → World → Prop := fun s w => grabK 29 [.val 0, .val 1, .val 4, .val 10, .val 11, .val 12] s fun vs ls => match vs, ls with
  | [.pointer q0', .int .i64 item1', .slice rest4'_a rest4'_n rest4'_c, .slice v10'_a v10'_n v10'_c, .int .i64 v11', .int .i64 v12'], [] => Reb N w s.L fun wa => C_cellplaneref25_Queue_drop_3 N Q q0' item1' ⟨rest4'_a, rest4'_n, rest4'_c⟩ ⟨v10'_a, v10'_n, v10'_c⟩ v11' v12' wa
  | _, _ => False

theorem T_cellplaneref25_Queue_drop_3 (N : Nat) (Q : Value → World → Prop) (s : St) (w : World) (h : H_cellplaneref25_Queue_drop_3 N Q s w) : Snd (cx N (fun d => memN d [6])) k_cellplaneref25_Queue_drop_0 (z_cellplaneref25_Queue_drop_1 N Q) s w := by
  refine Snd.grab h (fun vs ls hd hloc wa hl => ?_)
  split at hd
  · exact X_cellplaneref25_Queue_drop_3 (hd wa hl)
  · exact hd.elim

def C_cellplaneref25_Queue_drop_1 (N : Nat) (Q : Value → World → Prop) (q0' : Option Addr) (item1' : Int) (rest4' : Sl) (w : World) : Prop :=
  NilL q0' fun q14 => ∃ l15 : Sl, At w (addA q14 1) [(.slice l15.a l15.n l15.c)] ∧ NotIn ((addA q14 1) : Addr).block [] ∧ Reb N w [] fun w16 => C_cellplaneref25_Queue_drop_3 N Q q0' item1' rest4' l15 ((l15.n : Nat) : Int) 0 w16

theorem X_cellplaneref25_Queue_drop_1 {N : Nat} {Q : Value → World → Prop} {q0' : Option Addr} {item1' : Int} {rest4' : Sl} {w : World} (h : C_cellplaneref25_Queue_drop_1 N Q q0' item1' rest4' w) : Snd (cx N (fun d => memN d [6])) (cR (bodyOf Go.Proofs.Try.f53)) (retD (cx N (fun d => memN d [6])) Go.Proofs.Try.f53 Q) (mkS 29 [.val 0, .val 1, .val 4] [(.pointer q0'), (.int .i64 item1'), (.slice rest4'.a rest4'.n rest4'.c)] []) w :=
  (Snd.cast (c' := .seq (cL (cR (bodyOf Go.Proofs.Try.f53))) (cR (cR (bodyOf Go.Proofs.Try.f53)))) (by kernel_rfl) (Snd.seq (H_cellplaneref25_Queue_drop_2 N Q) (Snd.cast (c' := .seq (cL (cL (cR (bodyOf Go.Proofs.Try.f53)))) (cR (cL (cR (bodyOf Go.Proofs.Try.f53))))) (by kernel_rfl) (Snd.seq (H_cellplaneref25_Queue_drop_3 N Q) (den_sound okc mixed _ _ _ _ (mpr' (by kernel_rfl) h)) (fun s w h => T_cellplaneref25_Queue_drop_3 N Q s w h))) (fun s w h => T_cellplaneref25_Queue_drop_2 N Q s w h)))

noncomputable def H_cellplaneref25_Queue_drop_1 (N : Nat) (Q : Value → World → Prop) : St → World → Prop := fun s w => grabK 29 [.val 0, .val 1, .val 4] s fun vs ls => match vs, ls with
  | [.pointer q0', .int .i64 item1', .slice rest4'_a rest4'_n rest4'_c], [] => Reb N w s.L fun wa => C_cellplaneref25_Queue_drop_1 N Q q0' item1' ⟨rest4'_a, rest4'_n, rest4'_c⟩ wa
  | _, _ => False

theorem T_cellplaneref25_Queue_drop_1 (N : Nat) (Q : Value → World → Prop) (s : St) (w : World) (h : H_cellplaneref25_Queue_drop_1 N Q s w) : Snd (cx N (fun d => memN d [6])) (cR (bodyOf Go.Proofs.Try.f53)) (retD (cx N (fun d => memN d [6])) Go.Proofs.Try.f53 Q) s w := by
  refine Snd.grab h (fun vs ls hd hloc wa hl => ?_)
  split at hd
  · exact X_cellplaneref25_Queue_drop_1 (hd wa hl)
  · exact hd.elim

def F_cellplaneref25_Queue_drop (N : Nat) (q0 : Option Addr) (item1 : Int) (Q : Value → World → Prop) (w : World) : Prop :=
  Reb N w [] fun w17 => C_cellplaneref25_Queue_drop_1 N Q q0 item1 (⟨none, 0, 0⟩ : Sl) w17

theorem cellplaneref25_Queue_drop_snd (N : Nat) (q0 : Option Addr) (item1 : Int) (Q : Value → World → Prop) (w : World) (h : F_cellplaneref25_Queue_drop N q0 item1 Q w) : Snd (cx N (fun d => memN d [6])) (bodyOf Go.Proofs.Try.f53) (retD (cx N (fun d => memN d [6])) Go.Proofs.Try.f53 Q) (entry 29 [(.pointer q0), (.int .i64 item1)]) w :=
  (Snd.cast (c' := .seq (cL (bodyOf Go.Proofs.Try.f53)) (cR (bodyOf Go.Proofs.Try.f53))) (by kernel_rfl) (Snd.seq (H_cellplaneref25_Queue_drop_1 N Q) (den_sound okc mixed _ _ _ _ (mpr' (by kernel_rfl) h)) (fun s w h => T_cellplaneref25_Queue_drop_1 N Q s w h)))

theorem cellplaneref25_Queue_drop_calls (q0 : Option Addr) (item1 : Int) (Q : Value → World → Prop) (w : World) (h : F_cellplaneref25_Queue_drop w.heap.size q0 item1 Q w) : Calls PP n_cellplaneref25_Queue_drop [(.pointer q0), (.int .i64 item1)].toArray w fun e w' => ∃ v, e = .returned v ∧ Q v w' :=
  calls_of (C := cx w.heap.size (fun d => memN d [6])) (fn := Go.Proofs.Try.f53) (c := (bodyOf Go.Proofs.Try.f53)) (by kernel_rfl) (by kernel_rfl) (Nat.le_refl _) (cellplaneref25_Queue_drop_snd _ q0 item1 Q w h)
end Go.Sh
