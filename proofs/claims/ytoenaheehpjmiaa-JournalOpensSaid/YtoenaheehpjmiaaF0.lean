/- What these functions do, told by computation: a formula for each, and that its calls do what the formula says.
   Conditions: none. -/
import Derived.Test.YtoenaheehpjmiaaBase
namespace Go.Sh
open Go Go.Proofs
set_option linter.unusedVariables false
set_option maxRecDepth 100000

/-! ### cellplanemake_Spoilt -/
def F_cellplanemake_Spoilt (N : Nat) (e0 : G_api_Entry) (which1 : Int) (by2 : Int) (Q : VP) (w : World) : Prop :=
  ∀ b1 : Nat, w.heap.size ≤ b1 → ∀ b2 : Nat, w.heap.size ≤ b2 → CallL PP N w [⟨b1, e0.cells, t_api_Entry⟩, ⟨b2, (⟨0, 0, 0, 0, 0, 0, 0, 0, 0⟩ : G_api_Entry).cells, t_api_Entry⟩] n_cellplanemake_Mod [(.int .i64 which1), (.int .i64 9)] fun r4 w5 => ∃ n3 : Int, r4 = (.int .i64 n3) ∧ IfB (decide ((n3 : Int) = 0)) (Reb N w5 [⟨b1, ({ e0 with Kind := by2 } : G_api_Entry).cells, t_api_Entry⟩, ⟨b2, ({ e0 with Kind := by2 } : G_api_Entry).cells, t_api_Entry⟩] (Q (.agg (List.toArray ({ e0 with Kind := by2 } : G_api_Entry).cells)))) (IfB (decide ((n3 : Int) = 1)) (Reb N w5 [⟨b1, ({ e0 with Tick := by2 } : G_api_Entry).cells, t_api_Entry⟩, ⟨b2, ({ e0 with Tick := by2 } : G_api_Entry).cells, t_api_Entry⟩] (Q (.agg (List.toArray ({ e0 with Tick := by2 } : G_api_Entry).cells)))) (IfB (decide ((n3 : Int) = 2)) (Reb N w5 [⟨b1, ({ e0 with Tenant := by2 } : G_api_Entry).cells, t_api_Entry⟩, ⟨b2, ({ e0 with Tenant := by2 } : G_api_Entry).cells, t_api_Entry⟩] (Q (.agg (List.toArray ({ e0 with Tenant := by2 } : G_api_Entry).cells)))) (IfB (decide ((n3 : Int) = 3)) (Reb N w5 [⟨b1, ({ e0 with Cell := by2 } : G_api_Entry).cells, t_api_Entry⟩, ⟨b2, ({ e0 with Cell := by2 } : G_api_Entry).cells, t_api_Entry⟩] (Q (.agg (List.toArray ({ e0 with Cell := by2 } : G_api_Entry).cells)))) (IfB (decide ((n3 : Int) = 4)) (Reb N w5 [⟨b1, ({ e0 with Other := by2 } : G_api_Entry).cells, t_api_Entry⟩, ⟨b2, ({ e0 with Other := by2 } : G_api_Entry).cells, t_api_Entry⟩] (Q (.agg (List.toArray ({ e0 with Other := by2 } : G_api_Entry).cells)))) (IfB (decide ((n3 : Int) = 5)) (Reb N w5 [⟨b1, ({ e0 with Epoch := by2 } : G_api_Entry).cells, t_api_Entry⟩, ⟨b2, ({ e0 with Epoch := by2 } : G_api_Entry).cells, t_api_Entry⟩] (Q (.agg (List.toArray ({ e0 with Epoch := by2 } : G_api_Entry).cells)))) (IfB (decide ((n3 : Int) = 6)) (Reb N w5 [⟨b1, ({ e0 with From := by2 } : G_api_Entry).cells, t_api_Entry⟩, ⟨b2, ({ e0 with From := by2 } : G_api_Entry).cells, t_api_Entry⟩] (Q (.agg (List.toArray ({ e0 with From := by2 } : G_api_Entry).cells)))) (IfB (decide ((n3 : Int) = 7)) (Reb N w5 [⟨b1, ({ e0 with Until := by2 } : G_api_Entry).cells, t_api_Entry⟩, ⟨b2, ({ e0 with Until := by2 } : G_api_Entry).cells, t_api_Entry⟩] (Q (.agg (List.toArray ({ e0 with Until := by2 } : G_api_Entry).cells)))) (Reb N w5 [⟨b1, ({ e0 with N := by2 } : G_api_Entry).cells, t_api_Entry⟩, ⟨b2, ({ e0 with N := by2 } : G_api_Entry).cells, t_api_Entry⟩] (Q (.agg (List.toArray ({ e0 with N := by2 } : G_api_Entry).cells)))))))))))

theorem cellplanemake_Spoilt_snd (N : Nat) (e0 : G_api_Entry) (which1 : Int) (by2 : Int) (Q : VP) (w : World) (h : F_cellplanemake_Spoilt N e0 which1 by2 Q w) : Snd (cy N [3, 6]) (bodyOf Try.f86) (retD (cy N [3, 6]) Try.f86 Q) (entry 44 [(.agg (List.toArray e0.cells)), (.int .i64 which1), (.int .i64 by2)]) w :=
  (dsm h)

theorem cellplanemake_Spoilt_calls (e0 : G_api_Entry) (which1 : Int) (by2 : Int) (Q : VP) (w : World) (h : F_cellplanemake_Spoilt w.heap.size e0 which1 by2 Q w) : Calls PP n_cellplanemake_Spoilt [(.agg (List.toArray e0.cells)), (.int .i64 which1), (.int .i64 by2)].toArray w fun e w' => ∃ v, e = .returned v ∧ Q v w' :=
  calls_of (C := cy w.heap.size [3, 6]) (fn := Try.f86) (c := (bodyOf Try.f86)) (by kernel_rfl) (by kernel_rfl) (Nat.le_refl _) (cellplanemake_Spoilt_snd _ e0 which1 by2 Q w h)

/-! ### cellplanemake_Between -/
def F_cellplanemake_Between (N : Nat) (v0 : Int) (low1 : Int) (high2 : Int) (Q : VP) (w : World) : Prop :=
  CallL PP N w [] n_cellplanemake_Mod [(.int .i64 v0), (.int .i64 (IntKind.i64.wrap ((IntKind.i64.wrap (high2 - low1)) + 1)))] fun r2 w3 => ∃ n1 : Int, r2 = (.int .i64 n1) ∧ Reb N w3 [] (Q (.int .i64 (IntKind.i64.wrap (low1 + n1))))

theorem cellplanemake_Between_snd (N : Nat) (v0 : Int) (low1 : Int) (high2 : Int) (Q : VP) (w : World) (h : F_cellplanemake_Between N v0 low1 high2 Q w) : Snd (cy N []) (bodyOf Try.f21) (retD (cy N []) Try.f21 Q) (entry 15 [(.int .i64 v0), (.int .i64 low1), (.int .i64 high2)]) w :=
  (dsm h)

theorem cellplanemake_Between_calls (v0 : Int) (low1 : Int) (high2 : Int) (Q : VP) (w : World) (h : F_cellplanemake_Between w.heap.size v0 low1 high2 Q w) : Calls PP n_cellplanemake_Between [(.int .i64 v0), (.int .i64 low1), (.int .i64 high2)].toArray w fun e w' => ∃ v, e = .returned v ∧ Q v w' :=
  calls_of (C := cy w.heap.size []) (fn := Try.f21) (c := (bodyOf Try.f21)) (by kernel_rfl) (by kernel_rfl) (Nat.le_refl _) (cellplanemake_Between_snd _ v0 low1 high2 Q w h)

/-! ### cellplanemake_Mod -/
def F_cellplanemake_Mod (N : Nat) (v0 : Int) (n1 : Int) (Q : VP) (w : World) : Prop :=
  (n1 : Int) ≠ 0 ∧ (n1 : Int) ≠ 0 ∧ Reb N w [] (Q (.int .i64 (Int.tmod (IntKind.i64.wrap ((Int.tmod v0 n1) + n1)) n1)))

theorem cellplanemake_Mod_snd (N : Nat) (v0 : Int) (n1 : Int) (Q : VP) (w : World) (h : F_cellplanemake_Mod N v0 n1 Q w) : Snd (cy N []) (bodyOf Try.f39) (retD (cy N []) Try.f39 Q) (entry 12 [(.int .i64 v0), (.int .i64 n1)]) w :=
  (dsm h)

theorem cellplanemake_Mod_calls (v0 : Int) (n1 : Int) (Q : VP) (w : World) (h : F_cellplanemake_Mod w.heap.size v0 n1 Q w) : Calls PP n_cellplanemake_Mod [(.int .i64 v0), (.int .i64 n1)].toArray w fun e w' => ∃ v, e = .returned v ∧ Q v w' :=
  calls_of (C := cy w.heap.size []) (fn := Try.f39) (c := (bodyOf Try.f39)) (by kernel_rfl) (by kernel_rfl) (Nat.le_refl _) (cellplanemake_Mod_snd _ v0 n1 Q w h)

/-! ### entry_Shape -/
def F_entry_Shape (N : Nat) (e0 : G_api_Entry) (Q : VP) (w : World) : Prop :=
  ∀ b1 : Nat, w.heap.size ≤ b1 → CallL PP N w [⟨b1, e0.cells, t_api_Entry⟩] n_entry_fits [(.agg (List.toArray e0.cells)), (.agg (List.toArray (⟨32, 16, 4, 30⟩ : G_entry_sizes).cells))] fun r3 w4 => ∃ b2 : Bool, r3 = (.bool b2) ∧ Reb N w4 [⟨b1, e0.cells, t_api_Entry⟩] (Q (.bool b2))

theorem entry_Shape_snd (N : Nat) (e0 : G_api_Entry) (Q : VP) (w : World) (h : F_entry_Shape N e0 Q w) : Snd (cy N [1]) (bodyOf Try.f135) (retD (cy N [1]) Try.f135 Q) (entry 6 [(.agg (List.toArray e0.cells))]) w :=
  (dsm h)

theorem entry_Shape_calls (e0 : G_api_Entry) (Q : VP) (w : World) (h : F_entry_Shape w.heap.size e0 Q w) : Calls PP n_entry_Shape [(.agg (List.toArray e0.cells))].toArray w fun e w' => ∃ v, e = .returned v ∧ Q v w' :=
  calls_of (C := cy w.heap.size [1]) (fn := Try.f135) (c := (bodyOf Try.f135)) (by kernel_rfl) (by kernel_rfl) (Nat.le_refl _) (entry_Shape_snd _ e0 Q w h)

/-! ### cellplaneref06_Shape -/
def F_cellplaneref06_Shape (N : Nat) (e0 : G_api_Entry) (Q : VP) (w : World) : Prop :=
  ∀ b1 : Nat, w.heap.size ≤ b1 → CallL PP N w [⟨b1, e0.cells, t_api_Entry⟩] n_cellplaneref06_right [(.agg (List.toArray e0.cells)), (.int .i64 32), (.int .i64 16), (.int .i64 4), (.int .i64 30)] fun r3 w4 => ∃ b2 : Bool, r3 = (.bool b2) ∧ Reb N w4 [⟨b1, e0.cells, t_api_Entry⟩] (Q (.bool b2))

theorem cellplaneref06_Shape_snd (N : Nat) (e0 : G_api_Entry) (Q : VP) (w : World) (h : F_cellplaneref06_Shape N e0 Q w) : Snd (cy N [1]) (bodyOf Try.f36) (retD (cy N [1]) Try.f36 Q) (entry 5 [(.agg (List.toArray e0.cells))]) w :=
  (dsm h)

theorem cellplaneref06_Shape_calls (e0 : G_api_Entry) (Q : VP) (w : World) (h : F_cellplaneref06_Shape w.heap.size e0 Q w) : Calls PP n_cellplaneref06_Shape [(.agg (List.toArray e0.cells))].toArray w fun e w' => ∃ v, e = .returned v ∧ Q v w' :=
  calls_of (C := cy w.heap.size [1]) (fn := Try.f36) (c := (bodyOf Try.f36)) (by kernel_rfl) (by kernel_rfl) (Nat.le_refl _) (cellplaneref06_Shape_snd _ e0 Q w h)

/-! ### cellplaneref01_SameBytes -/
def F_cellplaneref01_SameBytes (N : Nat) (a0 : Sl) (b1 : Sl) (Q : VP) (w : World) : Prop :=
  RunL PP N w [] (convert t_sl_u8 t_string (.slice a0.a a0.n a0.c)) fun r2 w3 => ∃ s1 : ByteArray, r2 = (.string s1) ∧ RunL PP N w3 [] (convert t_sl_u8 t_string (.slice b1.a b1.n b1.c)) fun r5 w6 => ∃ s4 : ByteArray, r5 = (.string s4) ∧ Reb N w6 [] (Q (.bool (strEq s1 s4)))

theorem cellplaneref01_SameBytes_snd (N : Nat) (a0 : Sl) (b1 : Sl) (Q : VP) (w : World) (h : F_cellplaneref01_SameBytes N a0 b1 Q w) : Snd (cy N []) (bodyOf Try.f48) (retD (cy N []) Try.f48 Q) (entry 10 [(.slice a0.a a0.n a0.c), (.slice b1.a b1.n b1.c)]) w :=
  (dsm h)

theorem cellplaneref01_SameBytes_calls (a0 : Sl) (b1 : Sl) (Q : VP) (w : World) (h : F_cellplaneref01_SameBytes w.heap.size a0 b1 Q w) : Calls PP n_cellplaneref01_SameBytes [(.slice a0.a a0.n a0.c), (.slice b1.a b1.n b1.c)].toArray w fun e w' => ∃ v, e = .returned v ∧ Q v w' :=
  calls_of (C := cy w.heap.size []) (fn := Try.f48) (c := (bodyOf Try.f48)) (by kernel_rfl) (by kernel_rfl) (Nat.le_refl _) (cellplaneref01_SameBytes_snd _ a0 b1 Q w h)

/-! ### entry_Bytes -/
def C_entry_Bytes_3 (N : Nat) (Q : VP) (out3' : Sl) (w : World) : Prop :=
  Reb N w [] (Q (.slice out3'.a out3'.n out3'.c))

noncomputable def H_entry_Bytes_3 (N : Nat) (Q : VP) : St → World → Prop := HG N 17 [.v 3 .l] (C_entry_Bytes_3 N Q)

theorem T_entry_Bytes_3 (N : Nat) (Q : VP) (s : St) (w : World) (h : H_entry_Bytes_3 N Q s w) : Snd (cy N []) (cR (cR (cR (bodyOf Try.f83)))) (retD (cy N []) Try.f83 Q) s w :=
  Snd.HG h fun _ _ h => dsm h

def D_entry_Bytes_5 (K : (G_ar9_p_i64) → (Sl × Int) → Prop) : List Value → List LB → Prop := fun vs ls => match vs, ls with
  | [.slice out3'_a out3'_n out3'_c, .agg v6'_r, .int .i64 v7'], [] => G_ar9_p_i64.decA v6'_r fun v6' => K v6' (⟨out3'_a, out3'_n, out3'_c⟩, v7')
  | _, _ => False

noncomputable def z_entry_Bytes_0 (N : Nat) (Q : VP) : Cont := (inBlockD 0 (thenD (H_entry_Bytes_3 N Q) (retD (cy N []) Try.f83 Q)))

noncomputable def k_entry_Bytes_1 : Code := (cL (cR (cL (cR (cR (bodyOf Try.f83))))))

def B_entry_Bytes_5 (N : Nat) (K1 : (G_ar9_p_i64) → (Sl × Int) → World → Prop) (Q : VP) (out3' : Sl) (v6' : G_ar9_p_i64) (v7' : Int) (w : World) : Prop :=
  IfB (decide ((v7' : Int) < 9)) (∃ p1 : Option Addr, (∀ wr : World, (Instr.index t_ar9_p_i64 (.agg (List.toArray v6'.cells)) (.int .i64 v7')).run PP wr = .ok (.pointer p1) wr) ∧ NilL p1 fun q2 => ∃ n3 : Int, At w q2 [(.int .i64 n3)] ∧ NotIn (q2 : Addr).block [] ∧ CallL PP N w [] n_wire_Int [(.slice out3'.a out3'.n out3'.c), (.int .i64 n3)] fun r5 w6 => ∃ l4 : Sl, r5 = (.slice l4.a l4.n l4.c) ∧ Reb N w6 [] fun w7 => K1 v6' (l4, (IntKind.i64.wrap (v7' + 1))) w7) (Reb N w [] fun w8 => C_entry_Bytes_3 N Q out3' w8)

theorem X_entry_Bytes_5 {N : Nat} {K1 : (G_ar9_p_i64) → (Sl × Int) → World → Prop} {Q : VP} {out3' : Sl} {v6' : G_ar9_p_i64} {v7' : Int} {w : World} (h : B_entry_Bytes_5 N K1 Q out3' v6' v7' w) : Snd (cy N []) (cL k_entry_Bytes_1) (thenD (HeadK N 17 [.val 3, .val 6, .val 7] D_entry_Bytes_5 K1) (z_entry_Bytes_0 N Q)) (mkS 17 [.val 3, .val 6, .val 7] [(.slice out3'.a out3'.n out3'.c), (.agg (List.toArray v6'.cells)), (.int .i64 v7')] []) w :=
  (dsm h)

def L_entry_Bytes_5 (N : Nat) (Q : VP) (K1 : (G_ar9_p_i64) → (Sl × Int) → World → Prop) (c : G_ar9_p_i64) (x : Sl × Int) (w : World) : Prop := match c, x with
  | v6', (out3', v7') => B_entry_Bytes_5 N K1 Q out3' v6' v7' w

theorem T_entry_Bytes_5 (N : Nat) (Q : VP) {s : St} {w : World} (h : HeadE N 17 [.val 3, .val 6, .val 7] D_entry_Bytes_5 (L_entry_Bytes_5 N Q) s w) : Snd (cy N []) k_entry_Bytes_1 (z_entry_Bytes_0 N Q) s w := by
  refine Snd.cast (c' := .loop (cL k_entry_Bytes_1)) (by kernel_rfl) (Snd.loopC (fun (c : G_ar9_p_i64) (x : Sl × Int) => match c, x with | v6', (out3', v7') => ([(.slice out3'.a out3'.n out3'.c), (.agg (List.toArray v6'.cells)), (.int .i64 v7')], [])) ?_ ?_ h)
  · intro K vs ls h
    unfold D_entry_Bytes_5 at h
    split at h
    · obtain ⟨v6', rfl, h0⟩ := G_ar9_p_i64.decA_spec h
      exact ⟨_, _, rfl, h0⟩
    · exact h.elim
  · rintro K v6' ⟨out3', v7'⟩ w h
    exact X_entry_Bytes_5 h

def C_entry_Bytes_4 (N : Nat) (Q : VP) (out3' : Sl) (v6' : G_ar9_p_i64) (v7' : Int) (w : World) : Prop :=
  LoopC N w [] (v6' : G_ar9_p_i64) ((out3', v7') : Sl × Int) (L_entry_Bytes_5 N Q)

noncomputable def H_entry_Bytes_4 (N : Nat) (Q : VP) : St → World → Prop := HG N 17 [.v 3 .l, .v 6 (.g R_ar9_p_i64), .v 7 (.i .i64)] (C_entry_Bytes_4 N Q)

theorem T_entry_Bytes_4 (N : Nat) (Q : VP) (s : St) (w : World) (h : H_entry_Bytes_4 N Q s w) : Snd (cy N []) (cR (cL (cR (cR (bodyOf Try.f83))))) (thenD (H_entry_Bytes_3 N Q) (retD (cy N []) Try.f83 Q)) s w :=
  Snd.HG h fun out3' v6' v7' w h => (bk 0 (T_entry_Bytes_5 N Q (mpr' (by kernel_rfl) h)))

def C_entry_Bytes_2 (N : Nat) (Q : VP) (e1' : Addr) (out3' : Sl) (w : World) : Prop :=
  CallL PP N w [] n_entry_places [(.pointer (some e1'))] fun r10 w11 => ∃ x9 : G_ar9_p_i64, r10 = (.agg (List.toArray x9.cells)) ∧ Reb N w11 [] fun w12 => C_entry_Bytes_4 N Q out3' x9 0 w12

noncomputable def H_entry_Bytes_2 (N : Nat) (Q : VP) : St → World → Prop := HG N 17 [.v 1 .p, .v 3 .l] (C_entry_Bytes_2 N Q)

theorem T_entry_Bytes_2 (N : Nat) (Q : VP) (s : St) (w : World) (h : H_entry_Bytes_2 N Q s w) : Snd (cy N []) (cR (cR (bodyOf Try.f83))) (retD (cy N []) Try.f83 Q) s w :=
  Snd.HG h fun e1' out3' w h => (sq (H_entry_Bytes_3 N Q) (sq (H_entry_Bytes_4 N Q) (dsm h) (T_entry_Bytes_4 N Q)) (T_entry_Bytes_3 N Q))

def C_entry_Bytes_1 (N : Nat) (Q : VP) (e1' : Addr) (w : World) : Prop :=
  Reb N w [] fun w13 => C_entry_Bytes_2 N Q e1' (⟨none, 0, 0⟩ : Sl) w13

noncomputable def H_entry_Bytes_1 (N : Nat) (Q : VP) : St → World → Prop := HG N 17 [.v 1 .p] (C_entry_Bytes_1 N Q)

theorem T_entry_Bytes_1 (N : Nat) (Q : VP) (s : St) (w : World) (h : H_entry_Bytes_1 N Q s w) : Snd (cy N []) (cR (bodyOf Try.f83)) (retD (cy N []) Try.f83 Q) s w :=
  Snd.HG h fun e1' w h => (sq (H_entry_Bytes_2 N Q) (dsm h) (T_entry_Bytes_2 N Q))

def F_entry_Bytes (N : Nat) (e0 : G_api_Entry) (Q : VP) (w : World) : Prop :=
  NewL N w [] e0.cells t_api_Entry fun b14 w15 => Reb N w15 [] fun w16 => C_entry_Bytes_1 N Q ⟨b14, 0, none⟩ w16

theorem entry_Bytes_snd (N : Nat) (e0 : G_api_Entry) (Q : VP) (w : World) (h : F_entry_Bytes N e0 Q w) : Snd (cy N []) (bodyOf Try.f83) (retD (cy N []) Try.f83 Q) (entry 17 [(.agg (List.toArray e0.cells))]) w :=
  (sq (H_entry_Bytes_1 N Q) (dsm h) (T_entry_Bytes_1 N Q))

theorem entry_Bytes_calls (e0 : G_api_Entry) (Q : VP) (w : World) (h : F_entry_Bytes w.heap.size e0 Q w) : Calls PP n_entry_Bytes [(.agg (List.toArray e0.cells))].toArray w fun e w' => ∃ v, e = .returned v ∧ Q v w' :=
  calls_of (C := cy w.heap.size []) (fn := Try.f83) (c := (bodyOf Try.f83)) (by kernel_rfl) (by kernel_rfl) (Nat.le_refl _) (entry_Bytes_snd _ e0 Q w h)

/-! ### cellplaneref06_has -/
def C_cellplaneref06_has_3 (N : Nat) (Q : VP) (w : World) : Prop :=
  Reb N w [] (Q (.bool false))

noncomputable def H_cellplaneref06_has_3 (N : Nat) (Q : VP) : St → World → Prop := HG N 20 [] (C_cellplaneref06_has_3 N Q)

theorem T_cellplaneref06_has_3 (N : Nat) (Q : VP) (s : St) (w : World) (h : H_cellplaneref06_has_3 N Q s w) : Snd (cy N []) (cR (cR (cR (bodyOf Try.f158)))) (retD (cy N []) Try.f158 Q) s w :=
  Snd.HG h fun _ h => dsm h

noncomputable def z_cellplaneref06_has_0 (N : Nat) (Q : VP) : Cont := (thenD (H_cellplaneref06_has_3 N Q) (retD (cy N []) Try.f158 Q))

def D_cellplaneref06_has_5 (K : (Int × ByteArray) → (Int) → Prop) : List Value → List LB → Prop := fun vs ls => match vs, ls with
  | [.int .u8 what1', .string s5', .int .i64 i6'], [] => K (what1', s5') i6'
  | _, _ => False

noncomputable def k_cellplaneref06_has_1 : Code := (cL (cR (cL (cR (cR (bodyOf Try.f158))))))

def B_cellplaneref06_has_5 (N : Nat) (K1 : (Int × ByteArray) → (Int) → World → Prop) (Q : VP) (what1' : Int) (s5' : ByteArray) (i6' : Int) (w : World) : Prop :=
  IfB (decide ((i6' : Int) < (s5'.size : Int))) ((0 : Int) ≤ i6' ∧ (i6' : Int) < (s5').size ∧ IfB (decide (((bt s5' (i6' : Int).toNat) : Int) = what1')) (Reb N w [] (Q (.bool true))) (Reb N w [] fun w1 => K1 (what1', s5') (IntKind.i64.wrap (i6' + 1)) w1)) (Reb N w [] fun w2 => C_cellplaneref06_has_3 N Q w2)

theorem X_cellplaneref06_has_5 {N : Nat} {K1 : (Int × ByteArray) → (Int) → World → Prop} {Q : VP} {what1' : Int} {s5' : ByteArray} {i6' : Int} {w : World} (h : B_cellplaneref06_has_5 N K1 Q what1' s5' i6' w) : Snd (cy N []) (cL k_cellplaneref06_has_1) (thenD (HeadK N 20 [.val 1, .val 5, .val 6] D_cellplaneref06_has_5 K1) (inBlockD 0 (z_cellplaneref06_has_0 N Q))) (mkS 20 [.val 1, .val 5, .val 6] [(.int .u8 what1'), (.string s5'), (.int .i64 i6')] []) w :=
  (dsm h)

def L_cellplaneref06_has_5 (N : Nat) (Q : VP) (K1 : (Int × ByteArray) → (Int) → World → Prop) (c : Int × ByteArray) (x : Int) (w : World) : Prop := match c, x with
  | (what1', s5'), i6' => B_cellplaneref06_has_5 N K1 Q what1' s5' i6' w

theorem T_cellplaneref06_has_5 (N : Nat) (Q : VP) {s : St} {w : World} (h : HeadE N 20 [.val 1, .val 5, .val 6] D_cellplaneref06_has_5 (L_cellplaneref06_has_5 N Q) s w) : Snd (cy N []) k_cellplaneref06_has_1 (inBlockD 0 (z_cellplaneref06_has_0 N Q)) s w := by
  refine Snd.cast (c' := .loop (cL k_cellplaneref06_has_1)) (by kernel_rfl) (Snd.loopC (fun (c : Int × ByteArray) (x : Int) => match c, x with | (what1', s5'), i6' => ([(.int .u8 what1'), (.string s5'), (.int .i64 i6')], [])) ?_ ?_ h)
  · intro K vs ls h
    unfold D_cellplaneref06_has_5 at h
    split at h
    · exact ⟨_, _, rfl, h⟩
    · exact h.elim
  · rintro K ⟨what1', s5'⟩ i6' w h
    exact X_cellplaneref06_has_5 h

def C_cellplaneref06_has_4 (N : Nat) (Q : VP) (what1' : Int) (s5' : ByteArray) (i6' : Int) (w : World) : Prop :=
  LoopC N w [] ((what1', s5') : Int × ByteArray) (i6' : Int) (L_cellplaneref06_has_5 N Q)

noncomputable def H_cellplaneref06_has_4 (N : Nat) (Q : VP) : St → World → Prop := HG N 20 [.v 1 (.i .u8), .v 5 .s, .v 6 (.i .i64)] (C_cellplaneref06_has_4 N Q)

theorem T_cellplaneref06_has_4 (N : Nat) (Q : VP) (s : St) (w : World) (h : H_cellplaneref06_has_4 N Q s w) : Snd (cy N []) (cR (cL (cR (cR (bodyOf Try.f158))))) (z_cellplaneref06_has_0 N Q) s w :=
  Snd.HG h fun what1' s5' i6' w h => (bk 0 (T_cellplaneref06_has_5 N Q (mpr' (by kernel_rfl) h)))

def C_cellplaneref06_has_2 (N : Nat) (Q : VP) (what1' : Int) (s5' : ByteArray) (w : World) : Prop :=
  Reb N w [] fun w3 => C_cellplaneref06_has_4 N Q what1' s5' 0 w3

noncomputable def H_cellplaneref06_has_2 (N : Nat) (Q : VP) : St → World → Prop := HG N 20 [.v 1 (.i .u8), .v 5 .s] (C_cellplaneref06_has_2 N Q)

theorem T_cellplaneref06_has_2 (N : Nat) (Q : VP) (s : St) (w : World) (h : H_cellplaneref06_has_2 N Q s w) : Snd (cy N []) (cR (cR (bodyOf Try.f158))) (retD (cy N []) Try.f158 Q) s w :=
  Snd.HG h fun what1' s5' w h => (sq (H_cellplaneref06_has_3 N Q) (sq (H_cellplaneref06_has_4 N Q) (dsm h) (T_cellplaneref06_has_4 N Q)) (T_cellplaneref06_has_3 N Q))

def C_cellplaneref06_has_1 (N : Nat) (Q : VP) (kind0' what1' : Int) (w : World) : Prop :=
  CallL PP N w [] n_cellplaneref06_uses [(.int .i64 kind0')] fun r5 w6 => ∃ s4 : ByteArray, r5 = (.string s4) ∧ Reb N w6 [] fun w7 => C_cellplaneref06_has_2 N Q what1' s4 w7

noncomputable def H_cellplaneref06_has_1 (N : Nat) (Q : VP) : St → World → Prop := HG N 20 [.v 0 (.i .i64), .v 1 (.i .u8)] (C_cellplaneref06_has_1 N Q)

theorem T_cellplaneref06_has_1 (N : Nat) (Q : VP) (s : St) (w : World) (h : H_cellplaneref06_has_1 N Q s w) : Snd (cy N []) (cR (bodyOf Try.f158)) (retD (cy N []) Try.f158 Q) s w :=
  Snd.HG h fun kind0' what1' w h => (sq (H_cellplaneref06_has_2 N Q) (dsm h) (T_cellplaneref06_has_2 N Q))

def F_cellplaneref06_has (N : Nat) (kind0 : Int) (what1 : Int) (Q : VP) (w : World) : Prop :=
  Reb N w [] fun w8 => C_cellplaneref06_has_1 N Q kind0 what1 w8

theorem cellplaneref06_has_snd (N : Nat) (kind0 : Int) (what1 : Int) (Q : VP) (w : World) (h : F_cellplaneref06_has N kind0 what1 Q w) : Snd (cy N []) (bodyOf Try.f158) (retD (cy N []) Try.f158 Q) (entry 20 [(.int .i64 kind0), (.int .u8 what1)]) w :=
  (sq (H_cellplaneref06_has_1 N Q) (dsm h) (T_cellplaneref06_has_1 N Q))

theorem cellplaneref06_has_calls (kind0 : Int) (what1 : Int) (Q : VP) (w : World) (h : F_cellplaneref06_has w.heap.size kind0 what1 Q w) : Calls PP n_cellplaneref06_has [(.int .i64 kind0), (.int .u8 what1)].toArray w fun e w' => ∃ v, e = .returned v ∧ Q v w' :=
  calls_of (C := cy w.heap.size []) (fn := Try.f158) (c := (bodyOf Try.f158)) (by kernel_rfl) (by kernel_rfl) (Nat.le_refl _) (cellplaneref06_has_snd _ kind0 what1 Q w h)

/-! ### cellplaneref06_uses -/
def F_cellplaneref06_uses (N : Nat) (kind0 : Int) (Q : VP) (w : World) : Prop :=
  NewL N w [] [(.string { data := #[] }), (.string { data := #[116, 99, 111] }), (.string { data := #[116, 99, 101, 119, 118] }), (.string { data := #[116, 101] }), (.string { data := #[116, 67] }), (.string { data := #[116, 99] }), (.string { data := #[116, 99] }), (.string { data := #[116] }), (.string { data := #[116, 98] }), (.string { data := #[99, 109] }), (.string { data := #[99, 118] }), (.string { data := #[99, 118] }), (.string { data := #[118] }), (.string { data := #[114, 98] }), (.string { data := #[] }), (.string { data := #[] }), (.string { data := #[110] })] t_string fun b1 w2 => IfB (decide ((kind0 : Int) < 1)) (Reb N w2 [] (Q (.string { data := #[63] }))) (IfB (decide ((17 : Int) ≤ kind0)) (Reb N w2 [] (Q (.string { data := #[63] }))) (0 ≤ kind0 ∧ (kind0 : Int) < (17 : Nat) ∧ ∃ s4 : ByteArray, At w2 ((⟨b1, 0, none⟩ : Addr).add ((kind0 : Int).toNat * 1)) [(.string s4)] ∧ NotIn (((⟨b1, 0, none⟩ : Addr).add ((kind0 : Int).toNat * 1)) : Addr).block [] ∧ Reb N w2 [] (Q (.string s4))))

theorem cellplaneref06_uses_snd (N : Nat) (kind0 : Int) (Q : VP) (w : World) (h : F_cellplaneref06_uses N kind0 Q w) : Snd (cy N []) (bodyOf Try.f171) (retD (cy N []) Try.f171 Q) (entry 17 [(.int .i64 kind0)]) w :=
  (dsm h)

theorem cellplaneref06_uses_calls (kind0 : Int) (Q : VP) (w : World) (h : F_cellplaneref06_uses w.heap.size kind0 Q w) : Calls PP n_cellplaneref06_uses [(.int .i64 kind0)].toArray w fun e w' => ∃ v, e = .returned v ∧ Q v w' :=
  calls_of (C := cy w.heap.size []) (fn := Try.f171) (c := (bodyOf Try.f171)) (by kernel_rfl) (by kernel_rfl) (Nat.le_refl _) (cellplaneref06_uses_snd _ kind0 Q w h)

/-! ### cellplaneref06_right -/
def F_cellplaneref06_right (N : Nat) (e0 : G_api_Entry) (tenants1 : Int) (cells2 : Int) (regions3 : Int) (versions4 : Int) (Q : VP) (w : World) : Prop :=
  ∀ b1 : Nat, w.heap.size ≤ b1 → CallL PP N w [⟨b1, e0.cells, t_api_Entry⟩] n_cellplaneref06_in [(.int .i64 e0.Kind), (.int .i64 1), (.int .i64 16)] fun r3 w4 => ∃ b2 : Bool, r3 = (.bool b2) ∧ IfB b2 (CallL PP N w4 [⟨b1, e0.cells, t_api_Entry⟩] n_cellplaneref06_in [(.int .i64 e0.Tick), (.int .i64 0), (.int .i64 1073741824)] fun r6 w7 => ∃ b5 : Bool, r6 = (.bool b5) ∧ IfB b5 (CallL PP N w7 [⟨b1, e0.cells, t_api_Entry⟩] n_cellplaneref06_places [(.agg (List.toArray e0.cells)), (.int .i64 tenants1), (.int .i64 cells2), (.int .i64 regions3)] fun r9 w10 => ∃ b8 : Bool, r9 = (.bool b8) ∧ IfB b8 (CallL PP N w10 [⟨b1, e0.cells, t_api_Entry⟩] n_cellplaneref06_numbers [(.agg (List.toArray e0.cells)), (.int .i64 versions4)] fun r12 w13 => ∃ b11 : Bool, r12 = (.bool b11) ∧ Reb N w13 [⟨b1, e0.cells, t_api_Entry⟩] (Q (.bool b11))) (Reb N w10 [⟨b1, e0.cells, t_api_Entry⟩] (Q (.bool false)))) (Reb N w7 [⟨b1, e0.cells, t_api_Entry⟩] (Q (.bool false)))) (Reb N w4 [⟨b1, e0.cells, t_api_Entry⟩] (Q (.bool false)))

theorem cellplaneref06_right_snd (N : Nat) (e0 : G_api_Entry) (tenants1 : Int) (cells2 : Int) (regions3 : Int) (versions4 : Int) (Q : VP) (w : World) (h : F_cellplaneref06_right N e0 tenants1 cells2 regions3 versions4 Q w) : Snd (cy N [5]) (bodyOf Try.f84) (retD (cy N [5]) Try.f84 Q) (entry 31 [(.agg (List.toArray e0.cells)), (.int .i64 tenants1), (.int .i64 cells2), (.int .i64 regions3), (.int .i64 versions4)]) w :=
  (dsm h)

theorem cellplaneref06_right_calls (e0 : G_api_Entry) (tenants1 : Int) (cells2 : Int) (regions3 : Int) (versions4 : Int) (Q : VP) (w : World) (h : F_cellplaneref06_right w.heap.size e0 tenants1 cells2 regions3 versions4 Q w) : Calls PP n_cellplaneref06_right [(.agg (List.toArray e0.cells)), (.int .i64 tenants1), (.int .i64 cells2), (.int .i64 regions3), (.int .i64 versions4)].toArray w fun e w' => ∃ v, e = .returned v ∧ Q v w' :=
  calls_of (C := cy w.heap.size [5]) (fn := Try.f84) (c := (bodyOf Try.f84)) (by kernel_rfl) (by kernel_rfl) (Nat.le_refl _) (cellplaneref06_right_snd _ e0 tenants1 cells2 regions3 versions4 Q w h)

/-! ### cellplaneref06_places -/
def C_cellplaneref06_places_4 (N : Nat) (Q : VP) (w : World) : Prop :=
  Reb N w [] (Q (.bool true))

noncomputable def H_cellplaneref06_places_4 (N : Nat) (Q : VP) : St → World → Prop := HG N 105 [] (C_cellplaneref06_places_4 N Q)

theorem T_cellplaneref06_places_4 (N : Nat) (Q : VP) (s : St) (w : World) (h : H_cellplaneref06_places_4 N Q s w) : Snd (cy N [4]) (cR (cR (cR (cR (bodyOf Try.f138))))) (retD (cy N [4]) Try.f138 Q) s w :=
  Snd.HG h fun _ h => dsm h

noncomputable def k_cellplaneref06_places_0 : Code := (cR (cL (cL (cR (cR (cR (bodyOf Try.f138)))))))

noncomputable def z_cellplaneref06_places_1 (N : Nat) (Q : VP) : Cont := (inBlockD 0 (thenD (H_cellplaneref06_places_4 N Q) (retD (cy N [4]) Try.f138 Q)))

def C_cellplaneref06_places_6 (N : Nat) (Q : VP) (v64' : Bool) (w : World) : Prop :=
  IfB v64' (Reb N w [] (Q (.bool false))) (Reb N w [] fun w1 => C_cellplaneref06_places_4 N Q w1)

noncomputable def H_cellplaneref06_places_6 (N : Nat) (Q : VP) : St → World → Prop := HG N 105 [.v 64 .b] (C_cellplaneref06_places_6 N Q)

theorem T_cellplaneref06_places_6 (N : Nat) (Q : VP) (s : St) (w : World) (h : H_cellplaneref06_places_6 N Q s w) : Snd (cy N [4]) (cR (cR k_cellplaneref06_places_0)) (z_cellplaneref06_places_1 N Q) s w :=
  Snd.HG h fun _ _ h => dsm h

noncomputable def z_cellplaneref06_places_2 (N : Nat) (Q : VP) : Cont := (thenD (H_cellplaneref06_places_6 N Q) (z_cellplaneref06_places_1 N Q))

noncomputable def k_cellplaneref06_places_3 : Code := (cR (cR (cR (cL (cR k_cellplaneref06_places_0)))))

def C_cellplaneref06_places_8 (N : Nat) (Q : VP) (B4' : Nat) (e4c' : G_api_Entry) (T4' : Nat) (k9' : Int) (v64' : Bool) (w : World) : Prop :=
  IfB v64' (Reb N w [⟨B4', e4c'.cells, T4'⟩] fun w3 => C_cellplaneref06_places_6 N Q v64' w3) (CallL PP N w [⟨B4', e4c'.cells, T4'⟩] n_cellplaneref06_has [(.int .i64 k9'), (.int .u8 111)] fun r5 w6 => ∃ b4 : Bool, r5 = (.bool b4) ∧ IfB (!b4) (CallL PP N w6 [⟨B4', e4c'.cells, T4'⟩] n_cellplaneref06_has [(.int .i64 k9'), (.int .u8 114)] fun r8 w9 => ∃ b7 : Bool, r8 = (.bool b7) ∧ IfB (!b7) (Reb N w9 [⟨B4', e4c'.cells, T4'⟩] fun w10 => C_cellplaneref06_places_6 N Q (!decide ((e4c'.Other : Int) = (-1))) w10) (Reb N w9 [⟨B4', e4c'.cells, T4'⟩] fun w11 => C_cellplaneref06_places_6 N Q false w11)) (Reb N w6 [⟨B4', e4c'.cells, T4'⟩] fun w12 => C_cellplaneref06_places_6 N Q false w12))

noncomputable def H_cellplaneref06_places_8 (N : Nat) (Q : VP) : St → World → Prop := HG N 105 [.c 4 (.g R_api_Entry), .v 9 (.i .i64), .v 64 .b] (C_cellplaneref06_places_8 N Q)

theorem T_cellplaneref06_places_8 (N : Nat) (Q : VP) (s : St) (w : World) (h : H_cellplaneref06_places_8 N Q s w) : Snd (cy N [4]) k_cellplaneref06_places_3 (z_cellplaneref06_places_2 N Q) s w :=
  Snd.HG h fun _ _ _ _ _ _ h => dsm h

def C_cellplaneref06_places_7 (N : Nat) (Q : VP) (regions3' : Int) (B4' : Nat) (e4c' : G_api_Entry) (T4' : Nat) (k9' : Int) (v64' : Bool) (w : World) : Prop :=
  IfB v64' (Reb N w [⟨B4', e4c'.cells, T4'⟩] fun w2 => C_cellplaneref06_places_6 N Q v64' w2) (CallL PP N w [⟨B4', e4c'.cells, T4'⟩] n_cellplaneref06_has [(.int .i64 k9'), (.int .u8 114)] fun r14 w15 => ∃ b13 : Bool, r14 = (.bool b13) ∧ IfB b13 (CallL PP N w15 [⟨B4', e4c'.cells, T4'⟩] n_cellplaneref06_in [(.int .i64 e4c'.Other), (.int .i64 0), (.int .i64 (IntKind.i64.wrap (regions3' - 1)))] fun r17 w18 => ∃ b16 : Bool, r17 = (.bool b16) ∧ Reb N w18 [⟨B4', e4c'.cells, T4'⟩] fun w19 => C_cellplaneref06_places_8 N Q B4' e4c' T4' k9' (!b16) w19) (Reb N w15 [⟨B4', e4c'.cells, T4'⟩] fun w20 => C_cellplaneref06_places_8 N Q B4' e4c' T4' k9' false w20))

noncomputable def H_cellplaneref06_places_7 (N : Nat) (Q : VP) : St → World → Prop := HG N 105 [.v 3 (.i .i64), .c 4 (.g R_api_Entry), .v 9 (.i .i64), .v 64 .b] (C_cellplaneref06_places_7 N Q)

theorem T_cellplaneref06_places_7 (N : Nat) (Q : VP) (s : St) (w : World) (h : H_cellplaneref06_places_7 N Q s w) : Snd (cy N [4]) (cR (cL (cR k_cellplaneref06_places_0))) (z_cellplaneref06_places_2 N Q) s w :=
  Snd.HG h fun regions3' B4' e4c' T4' k9' v64' w h => (Snd.cast (c' := .cond (.tmp 64) (cL (cR (cL (cR k_cellplaneref06_places_0)))) (cR (cR (cL (cR k_cellplaneref06_places_0))))) (by kernel_rfl) (Snd.cond (t := v64') (by kernel_rfl) (by kernel_rfl) (fun ht => (fun h => (dsm h)) (ifb_t h ht)) (fun ht => (fun h => (sq (H_cellplaneref06_places_8 N Q) (dsm h) (T_cellplaneref06_places_8 N Q))) (ifb_f h ht))))

def C_cellplaneref06_places_5 (N : Nat) (Q : VP) (cells2' regions3' : Int) (B4' : Nat) (e4c' : G_api_Entry) (T4' : Nat) (k9' : Int) (v30' : Bool) (w : World) : Prop :=
  IfB v30' (Reb N w [⟨B4', e4c'.cells, T4'⟩] (Q (.bool false))) (CallL PP N w [⟨B4', e4c'.cells, T4'⟩] n_cellplaneref06_has [(.int .i64 k9'), (.int .u8 111)] fun r22 w23 => ∃ b21 : Bool, r22 = (.bool b21) ∧ IfB b21 (CallL PP N w23 [⟨B4', e4c'.cells, T4'⟩] n_cellplaneref06_in [(.int .i64 e4c'.Other), (.int .i64 (-1)), (.int .i64 (IntKind.i64.wrap (cells2' - 1)))] fun r25 w26 => ∃ b24 : Bool, r25 = (.bool b24) ∧ IfB (!b24) (Reb N w26 [⟨B4', e4c'.cells, T4'⟩] fun w27 => C_cellplaneref06_places_7 N Q regions3' B4' e4c' T4' k9' true w27) (Reb N w26 [⟨B4', e4c'.cells, T4'⟩] fun w28 => C_cellplaneref06_places_7 N Q regions3' B4' e4c' T4' k9' (decide ((e4c'.Other : Int) = e4c'.Cell)) w28)) (Reb N w23 [⟨B4', e4c'.cells, T4'⟩] fun w29 => C_cellplaneref06_places_7 N Q regions3' B4' e4c' T4' k9' false w29))

noncomputable def H_cellplaneref06_places_5 (N : Nat) (Q : VP) : St → World → Prop := HG N 105 [.v 2 (.i .i64), .v 3 (.i .i64), .c 4 (.g R_api_Entry), .v 9 (.i .i64), .v 30 .b] (C_cellplaneref06_places_5 N Q)

theorem T_cellplaneref06_places_5 (N : Nat) (Q : VP) (s : St) (w : World) (h : H_cellplaneref06_places_5 N Q s w) : Snd (cy N [4]) k_cellplaneref06_places_0 (z_cellplaneref06_places_1 N Q) s w :=
  Snd.HG h fun cells2' regions3' B4' e4c' T4' k9' v30' w h => (Snd.cast (c' := .cond (.tmp 30) (cL k_cellplaneref06_places_0) (cR k_cellplaneref06_places_0)) (by kernel_rfl) (Snd.cond (t := v30') (by kernel_rfl) (by kernel_rfl) (fun ht => (fun h => (dsm h)) (ifb_t h ht)) (fun ht => (fun h => (sq (H_cellplaneref06_places_6 N Q) (sq (H_cellplaneref06_places_7 N Q) (dsm h) (T_cellplaneref06_places_7 N Q)) (T_cellplaneref06_places_6 N Q))) (ifb_f h ht))))

noncomputable def k_cellplaneref06_places_4 : Code := (cR (cL (cL (cL (cR (cR (cR (bodyOf Try.f138))))))))

noncomputable def z_cellplaneref06_places_5 (N : Nat) (Q : VP) : Cont := (thenD (H_cellplaneref06_places_5 N Q) (inBlockD 0 (thenD (H_cellplaneref06_places_4 N Q) (retD (cy N [4]) Try.f138 Q))))

def C_cellplaneref06_places_10 (N : Nat) (Q : VP) (cells2' regions3' : Int) (B4' : Nat) (e4c' : G_api_Entry) (T4' : Nat) (k9' : Int) (v30' : Bool) (w : World) : Prop :=
  IfB v30' (Reb N w [⟨B4', e4c'.cells, T4'⟩] fun w31 => C_cellplaneref06_places_5 N Q cells2' regions3' B4' e4c' T4' k9' v30' w31) (CallL PP N w [⟨B4', e4c'.cells, T4'⟩] n_cellplaneref06_has [(.int .i64 k9'), (.int .u8 99)] fun r33 w34 => ∃ b32 : Bool, r33 = (.bool b32) ∧ IfB (!b32) (CallL PP N w34 [⟨B4', e4c'.cells, T4'⟩] n_cellplaneref06_has [(.int .i64 k9'), (.int .u8 67)] fun r36 w37 => ∃ b35 : Bool, r36 = (.bool b35) ∧ IfB (!b35) (Reb N w37 [⟨B4', e4c'.cells, T4'⟩] fun w38 => C_cellplaneref06_places_5 N Q cells2' regions3' B4' e4c' T4' k9' (!decide ((e4c'.Cell : Int) = (-1))) w38) (Reb N w37 [⟨B4', e4c'.cells, T4'⟩] fun w39 => C_cellplaneref06_places_5 N Q cells2' regions3' B4' e4c' T4' k9' false w39)) (Reb N w34 [⟨B4', e4c'.cells, T4'⟩] fun w40 => C_cellplaneref06_places_5 N Q cells2' regions3' B4' e4c' T4' k9' false w40))

noncomputable def H_cellplaneref06_places_10 (N : Nat) (Q : VP) : St → World → Prop := HG N 105 [.v 2 (.i .i64), .v 3 (.i .i64), .c 4 (.g R_api_Entry), .v 9 (.i .i64), .v 30 .b] (C_cellplaneref06_places_10 N Q)

theorem T_cellplaneref06_places_10 (N : Nat) (Q : VP) (s : St) (w : World) (h : H_cellplaneref06_places_10 N Q s w) : Snd (cy N [4]) (cR (cR k_cellplaneref06_places_4)) (z_cellplaneref06_places_5 N Q) s w :=
  Snd.HG h fun _ _ _ _ _ _ _ _ h => dsm h

def C_cellplaneref06_places_9 (N : Nat) (Q : VP) (cells2' regions3' : Int) (B4' : Nat) (e4c' : G_api_Entry) (T4' : Nat) (k9' : Int) (v30' : Bool) (w : World) : Prop :=
  IfB v30' (Reb N w [⟨B4', e4c'.cells, T4'⟩] fun w30 => C_cellplaneref06_places_5 N Q cells2' regions3' B4' e4c' T4' k9' v30' w30) (CallL PP N w [⟨B4', e4c'.cells, T4'⟩] n_cellplaneref06_has [(.int .i64 k9'), (.int .u8 67)] fun r42 w43 => ∃ b41 : Bool, r42 = (.bool b41) ∧ IfB b41 (CallL PP N w43 [⟨B4', e4c'.cells, T4'⟩] n_cellplaneref06_in [(.int .i64 e4c'.Cell), (.int .i64 (-1)), (.int .i64 (IntKind.i64.wrap (cells2' - 1)))] fun r45 w46 => ∃ b44 : Bool, r45 = (.bool b44) ∧ Reb N w46 [⟨B4', e4c'.cells, T4'⟩] fun w47 => C_cellplaneref06_places_10 N Q cells2' regions3' B4' e4c' T4' k9' (!b44) w47) (Reb N w43 [⟨B4', e4c'.cells, T4'⟩] fun w48 => C_cellplaneref06_places_10 N Q cells2' regions3' B4' e4c' T4' k9' false w48))

noncomputable def H_cellplaneref06_places_9 (N : Nat) (Q : VP) : St → World → Prop := HG N 105 [.v 2 (.i .i64), .v 3 (.i .i64), .c 4 (.g R_api_Entry), .v 9 (.i .i64), .v 30 .b] (C_cellplaneref06_places_9 N Q)

theorem T_cellplaneref06_places_9 (N : Nat) (Q : VP) (s : St) (w : World) (h : H_cellplaneref06_places_9 N Q s w) : Snd (cy N [4]) k_cellplaneref06_places_4 (z_cellplaneref06_places_5 N Q) s w :=
  Snd.HG h fun cells2' regions3' B4' e4c' T4' k9' v30' w h => (Snd.cast (c' := .cond (.tmp 30) (cL k_cellplaneref06_places_4) (cR k_cellplaneref06_places_4)) (by kernel_rfl) (Snd.cond (t := v30') (by kernel_rfl) (by kernel_rfl) (fun ht => (fun h => (dsm h)) (ifb_t h ht)) (fun ht => (fun h => (sq (H_cellplaneref06_places_10 N Q) (dsm h) (T_cellplaneref06_places_10 N Q))) (ifb_f h ht))))

def C_cellplaneref06_places_3 (N : Nat) (Q : VP) (cells2' regions3' : Int) (B4' : Nat) (e4c' : G_api_Entry) (T4' : Nat) (k9' : Int) (w : World) : Prop :=
  CallL PP N w [⟨B4', e4c'.cells, T4'⟩] n_cellplaneref06_has [(.int .i64 k9'), (.int .u8 99)] fun r50 w51 => ∃ b49 : Bool, r50 = (.bool b49) ∧ IfB b49 (CallL PP N w51 [⟨B4', e4c'.cells, T4'⟩] n_cellplaneref06_in [(.int .i64 e4c'.Cell), (.int .i64 0), (.int .i64 (IntKind.i64.wrap (cells2' - 1)))] fun r53 w54 => ∃ b52 : Bool, r53 = (.bool b52) ∧ Reb N w54 [⟨B4', e4c'.cells, T4'⟩] fun w55 => C_cellplaneref06_places_9 N Q cells2' regions3' B4' e4c' T4' k9' (!b52) w55) (Reb N w51 [⟨B4', e4c'.cells, T4'⟩] fun w56 => C_cellplaneref06_places_9 N Q cells2' regions3' B4' e4c' T4' k9' false w56)

noncomputable def H_cellplaneref06_places_3 (N : Nat) (Q : VP) : St → World → Prop := HG N 105 [.v 2 (.i .i64), .v 3 (.i .i64), .c 4 (.g R_api_Entry), .v 9 (.i .i64)] (C_cellplaneref06_places_3 N Q)

theorem T_cellplaneref06_places_3 (N : Nat) (Q : VP) (s : St) (w : World) (h : H_cellplaneref06_places_3 N Q s w) : Snd (cy N [4]) (cR (cR (cR (bodyOf Try.f138)))) (retD (cy N [4]) Try.f138 Q) s w :=
  Snd.HG h fun cells2' regions3' B4' e4c' T4' k9' w h => (sq (H_cellplaneref06_places_4 N Q) (bk 0 (sq (H_cellplaneref06_places_5 N Q) (sq (H_cellplaneref06_places_9 N Q) (dsm h) (T_cellplaneref06_places_9 N Q)) (T_cellplaneref06_places_5 N Q))) (T_cellplaneref06_places_4 N Q))

def C_cellplaneref06_places_2 (N : Nat) (Q : VP) (tenants1' cells2' regions3' : Int) (B4' : Nat) (e4c' : G_api_Entry) (T4' : Nat) (k9' : Int) (w : World) : Prop :=
  CallL PP N w [⟨B4', e4c'.cells, T4'⟩] n_cellplaneref06_has [(.int .i64 k9'), (.int .u8 116)] fun r58 w59 => ∃ b57 : Bool, r58 = (.bool b57) ∧ IfB (!(b57 == (!decide ((e4c'.Tenant : Int) = (-1))))) (Reb N w59 [⟨B4', e4c'.cells, T4'⟩] (Q (.bool false))) (CallL PP N w59 [⟨B4', e4c'.cells, T4'⟩] n_cellplaneref06_has [(.int .i64 k9'), (.int .u8 116)] fun r61 w62 => ∃ b60 : Bool, r61 = (.bool b60) ∧ IfB b60 (CallL PP N w62 [⟨B4', e4c'.cells, T4'⟩] n_cellplaneref06_in [(.int .i64 e4c'.Tenant), (.int .i64 0), (.int .i64 (IntKind.i64.wrap (tenants1' - 1)))] fun r64 w65 => ∃ b63 : Bool, r64 = (.bool b63) ∧ IfB (!b63) (Reb N w65 [⟨B4', e4c'.cells, T4'⟩] (Q (.bool false))) (Reb N w65 [⟨B4', e4c'.cells, T4'⟩] fun w66 => C_cellplaneref06_places_3 N Q cells2' regions3' B4' e4c' T4' k9' w66)) (Reb N w62 [⟨B4', e4c'.cells, T4'⟩] fun w67 => C_cellplaneref06_places_3 N Q cells2' regions3' B4' e4c' T4' k9' w67))

noncomputable def H_cellplaneref06_places_2 (N : Nat) (Q : VP) : St → World → Prop := HG N 105 [.v 1 (.i .i64), .v 2 (.i .i64), .v 3 (.i .i64), .c 4 (.g R_api_Entry), .v 9 (.i .i64)] (C_cellplaneref06_places_2 N Q)

theorem T_cellplaneref06_places_2 (N : Nat) (Q : VP) (s : St) (w : World) (h : H_cellplaneref06_places_2 N Q s w) : Snd (cy N [4]) (cR (cR (bodyOf Try.f138))) (retD (cy N [4]) Try.f138 Q) s w :=
  Snd.HG h fun tenants1' cells2' regions3' B4' e4c' T4' k9' w h => (sq (H_cellplaneref06_places_3 N Q) (dsm h) (T_cellplaneref06_places_3 N Q))

def C_cellplaneref06_places_1 (N : Nat) (Q : VP) (tenants1' cells2' regions3' : Int) (B4' : Nat) (e4c' : G_api_Entry) (T4' : Nat) (w : World) : Prop :=
  Reb N w [⟨B4', e4c'.cells, T4'⟩] fun w68 => C_cellplaneref06_places_2 N Q tenants1' cells2' regions3' B4' e4c' T4' e4c'.Kind w68

noncomputable def H_cellplaneref06_places_1 (N : Nat) (Q : VP) : St → World → Prop := HG N 105 [.v 1 (.i .i64), .v 2 (.i .i64), .v 3 (.i .i64), .c 4 (.g R_api_Entry)] (C_cellplaneref06_places_1 N Q)

theorem T_cellplaneref06_places_1 (N : Nat) (Q : VP) (s : St) (w : World) (h : H_cellplaneref06_places_1 N Q s w) : Snd (cy N [4]) (cR (bodyOf Try.f138)) (retD (cy N [4]) Try.f138 Q) s w :=
  Snd.HG h fun tenants1' cells2' regions3' B4' e4c' T4' w h => (sq (H_cellplaneref06_places_2 N Q) (dsm h) (T_cellplaneref06_places_2 N Q))

def F_cellplaneref06_places (N : Nat) (e0 : G_api_Entry) (tenants1 : Int) (cells2 : Int) (regions3 : Int) (Q : VP) (w : World) : Prop :=
  ∀ b69 : Nat, w.heap.size ≤ b69 → Reb N w [⟨b69, e0.cells, t_api_Entry⟩] fun w70 => C_cellplaneref06_places_1 N Q tenants1 cells2 regions3 b69 e0 t_api_Entry w70

theorem cellplaneref06_places_snd (N : Nat) (e0 : G_api_Entry) (tenants1 : Int) (cells2 : Int) (regions3 : Int) (Q : VP) (w : World) (h : F_cellplaneref06_places N e0 tenants1 cells2 regions3 Q w) : Snd (cy N [4]) (bodyOf Try.f138) (retD (cy N [4]) Try.f138 Q) (entry 105 [(.agg (List.toArray e0.cells)), (.int .i64 tenants1), (.int .i64 cells2), (.int .i64 regions3)]) w :=
  (sq (H_cellplaneref06_places_1 N Q) (dsm h) (T_cellplaneref06_places_1 N Q))

theorem cellplaneref06_places_calls (e0 : G_api_Entry) (tenants1 : Int) (cells2 : Int) (regions3 : Int) (Q : VP) (w : World) (h : F_cellplaneref06_places w.heap.size e0 tenants1 cells2 regions3 Q w) : Calls PP n_cellplaneref06_places [(.agg (List.toArray e0.cells)), (.int .i64 tenants1), (.int .i64 cells2), (.int .i64 regions3)].toArray w fun e w' => ∃ v, e = .returned v ∧ Q v w' :=
  calls_of (C := cy w.heap.size [4]) (fn := Try.f138) (c := (bodyOf Try.f138)) (by kernel_rfl) (by kernel_rfl) (Nat.le_refl _) (cellplaneref06_places_snd _ e0 tenants1 cells2 regions3 Q w h)

/-! ### cellplaneref06_numbers -/
def C_cellplaneref06_numbers_3 (N : Nat) (Q : VP) (B2' : Nat) (e2c' : G_api_Entry) (T2' : Nat) (w : World) : Prop :=
  Reb N w [⟨B2', e2c'.cells, T2'⟩] (Q (.bool (decide ((e2c'.N : Int) = 0))))

noncomputable def H_cellplaneref06_numbers_3 (N : Nat) (Q : VP) : St → World → Prop := HG N 82 [.c 2 (.g R_api_Entry)] (C_cellplaneref06_numbers_3 N Q)

theorem T_cellplaneref06_numbers_3 (N : Nat) (Q : VP) (s : St) (w : World) (h : H_cellplaneref06_numbers_3 N Q s w) : Snd (cy N [2]) (cR (cR (cR (bodyOf Try.f139)))) (retD (cy N [2]) Try.f139 Q) s w :=
  Snd.HG h fun _ _ _ _ h => dsm h

noncomputable def k_cellplaneref06_numbers_0 : Code := (cR (cL (cL (cR (cR (bodyOf Try.f139))))))

noncomputable def z_cellplaneref06_numbers_1 (N : Nat) (Q : VP) : Cont := (inBlockD 0 (thenD (H_cellplaneref06_numbers_3 N Q) (retD (cy N [2]) Try.f139 Q)))

def C_cellplaneref06_numbers_5 (N : Nat) (Q : VP) (versions1' : Int) (B2' : Nat) (e2c' : G_api_Entry) (T2' : Nat) (k5' : Int) (v25' : Bool) (w : World) : Prop :=
  IfB v25' (Reb N w [⟨B2', e2c'.cells, T2'⟩] (Q (.bool false))) (CallL PP N w [⟨B2', e2c'.cells, T2'⟩] n_cellplaneref06_has [(.int .i64 k5'), (.int .u8 118)] fun r2 w3 => ∃ b1 : Bool, r2 = (.bool b1) ∧ IfB b1 (CallL PP N w3 [⟨B2', e2c'.cells, T2'⟩] n_cellplaneref06_in [(.int .i64 e2c'.N), (.int .i64 0), (.int .i64 (IntKind.i64.wrap (versions1' - 1)))] fun r5 w6 => ∃ b4 : Bool, r5 = (.bool b4) ∧ Reb N w6 [⟨B2', e2c'.cells, T2'⟩] (Q (.bool b4))) (CallL PP N w3 [⟨B2', e2c'.cells, T2'⟩] n_cellplaneref06_has [(.int .i64 k5'), (.int .u8 98)] fun r8 w9 => ∃ b7 : Bool, r8 = (.bool b7) ∧ IfB b7 (CallL PP N w9 [⟨B2', e2c'.cells, T2'⟩] n_cellplaneref06_in [(.int .i64 e2c'.N), (.int .i64 0), (.int .i64 1)] fun r11 w12 => ∃ b10 : Bool, r11 = (.bool b10) ∧ Reb N w12 [⟨B2', e2c'.cells, T2'⟩] (Q (.bool b10))) (CallL PP N w9 [⟨B2', e2c'.cells, T2'⟩] n_cellplaneref06_has [(.int .i64 k5'), (.int .u8 109)] fun r14 w15 => ∃ b13 : Bool, r14 = (.bool b13) ∧ IfB b13 (CallL PP N w15 [⟨B2', e2c'.cells, T2'⟩] n_cellplaneref06_in [(.int .i64 e2c'.N), (.int .i64 1), (.int .i64 3)] fun r17 w18 => ∃ b16 : Bool, r17 = (.bool b16) ∧ Reb N w18 [⟨B2', e2c'.cells, T2'⟩] (Q (.bool b16))) (CallL PP N w15 [⟨B2', e2c'.cells, T2'⟩] n_cellplaneref06_has [(.int .i64 k5'), (.int .u8 110)] fun r20 w21 => ∃ b19 : Bool, r20 = (.bool b19) ∧ IfB b19 (CallL PP N w21 [⟨B2', e2c'.cells, T2'⟩] n_cellplaneref06_in [(.int .i64 e2c'.N), (.int .i64 0), (.int .i64 1073741824)] fun r23 w24 => ∃ b22 : Bool, r23 = (.bool b22) ∧ Reb N w24 [⟨B2', e2c'.cells, T2'⟩] (Q (.bool b22))) (Reb N w21 [⟨B2', e2c'.cells, T2'⟩] fun w25 => C_cellplaneref06_numbers_3 N Q B2' e2c' T2' w25)))))

noncomputable def H_cellplaneref06_numbers_5 (N : Nat) (Q : VP) : St → World → Prop := HG N 82 [.v 1 (.i .i64), .c 2 (.g R_api_Entry), .v 5 (.i .i64), .v 25 .b] (C_cellplaneref06_numbers_5 N Q)

theorem T_cellplaneref06_numbers_5 (N : Nat) (Q : VP) (s : St) (w : World) (h : H_cellplaneref06_numbers_5 N Q s w) : Snd (cy N [2]) (cR (cR k_cellplaneref06_numbers_0)) (z_cellplaneref06_numbers_1 N Q) s w :=
  Snd.HG h fun _ _ _ _ _ _ _ h => dsm h

noncomputable def k_cellplaneref06_numbers_2 : Code := (cR (cL (cR k_cellplaneref06_numbers_0)))

noncomputable def z_cellplaneref06_numbers_3 (N : Nat) (Q : VP) : Cont := (thenD (H_cellplaneref06_numbers_5 N Q) (z_cellplaneref06_numbers_1 N Q))

def C_cellplaneref06_numbers_6 (N : Nat) (Q : VP) (versions1' : Int) (B2' : Nat) (e2c' : G_api_Entry) (T2' : Nat) (k5' : Int) (v25' : Bool) (w : World) : Prop :=
  IfB v25' (Reb N w [⟨B2', e2c'.cells, T2'⟩] fun w26 => C_cellplaneref06_numbers_5 N Q versions1' B2' e2c' T2' k5' v25' w26) (CallL PP N w [⟨B2', e2c'.cells, T2'⟩] n_cellplaneref06_has [(.int .i64 k5'), (.int .u8 119)] fun r28 w29 => ∃ b27 : Bool, r28 = (.bool b27) ∧ IfB (!b27) (IfB (!decide ((e2c'.From : Int) = 0)) (Reb N w29 [⟨B2', e2c'.cells, T2'⟩] fun w30 => C_cellplaneref06_numbers_5 N Q versions1' B2' e2c' T2' k5' true w30) (Reb N w29 [⟨B2', e2c'.cells, T2'⟩] fun w31 => C_cellplaneref06_numbers_5 N Q versions1' B2' e2c' T2' k5' (!decide ((e2c'.Until : Int) = 0)) w31)) (Reb N w29 [⟨B2', e2c'.cells, T2'⟩] fun w32 => C_cellplaneref06_numbers_5 N Q versions1' B2' e2c' T2' k5' false w32))

noncomputable def H_cellplaneref06_numbers_6 (N : Nat) (Q : VP) : St → World → Prop := HG N 82 [.v 1 (.i .i64), .c 2 (.g R_api_Entry), .v 5 (.i .i64), .v 25 .b] (C_cellplaneref06_numbers_6 N Q)

theorem T_cellplaneref06_numbers_6 (N : Nat) (Q : VP) (s : St) (w : World) (h : H_cellplaneref06_numbers_6 N Q s w) : Snd (cy N [2]) k_cellplaneref06_numbers_2 (z_cellplaneref06_numbers_3 N Q) s w :=
  Snd.HG h fun _ _ _ _ _ _ _ h => dsm h

def C_cellplaneref06_numbers_4 (N : Nat) (Q : VP) (versions1' : Int) (B2' : Nat) (e2c' : G_api_Entry) (T2' : Nat) (k5' : Int) (v8' : Bool) (w : World) : Prop :=
  IfB v8' (Reb N w [⟨B2', e2c'.cells, T2'⟩] (Q (.bool false))) (CallL PP N w [⟨B2', e2c'.cells, T2'⟩] n_cellplaneref06_has [(.int .i64 k5'), (.int .u8 119)] fun r34 w35 => ∃ b33 : Bool, r34 = (.bool b33) ∧ IfB b33 (CallL PP N w35 [⟨B2', e2c'.cells, T2'⟩] n_cellplaneref06_in [(.int .i64 e2c'.From), (.int .i64 0), (.int .i64 1073741824)] fun r37 w38 => ∃ b36 : Bool, r37 = (.bool b36) ∧ IfB (!b36) (Reb N w38 [⟨B2', e2c'.cells, T2'⟩] fun w39 => C_cellplaneref06_numbers_6 N Q versions1' B2' e2c' T2' k5' true w39) (CallL PP N w38 [⟨B2', e2c'.cells, T2'⟩] n_cellplaneref06_in [(.int .i64 e2c'.Until), (.int .i64 0), (.int .i64 1073741824)] fun r41 w42 => ∃ b40 : Bool, r41 = (.bool b40) ∧ Reb N w42 [⟨B2', e2c'.cells, T2'⟩] fun w43 => C_cellplaneref06_numbers_6 N Q versions1' B2' e2c' T2' k5' (!b40) w43)) (Reb N w35 [⟨B2', e2c'.cells, T2'⟩] fun w44 => C_cellplaneref06_numbers_6 N Q versions1' B2' e2c' T2' k5' false w44))

noncomputable def H_cellplaneref06_numbers_4 (N : Nat) (Q : VP) : St → World → Prop := HG N 82 [.v 1 (.i .i64), .c 2 (.g R_api_Entry), .v 5 (.i .i64), .v 8 .b] (C_cellplaneref06_numbers_4 N Q)

theorem T_cellplaneref06_numbers_4 (N : Nat) (Q : VP) (s : St) (w : World) (h : H_cellplaneref06_numbers_4 N Q s w) : Snd (cy N [2]) k_cellplaneref06_numbers_0 (z_cellplaneref06_numbers_1 N Q) s w :=
  Snd.HG h fun versions1' B2' e2c' T2' k5' v8' w h => (Snd.cast (c' := .cond (.tmp 8) (cL k_cellplaneref06_numbers_0) (cR k_cellplaneref06_numbers_0)) (by kernel_rfl) (Snd.cond (t := v8') (by kernel_rfl) (by kernel_rfl) (fun ht => (fun h => (dsm h)) (ifb_t h ht)) (fun ht => (fun h => (sq (H_cellplaneref06_numbers_5 N Q) (sq (H_cellplaneref06_numbers_6 N Q) (dsm h) (T_cellplaneref06_numbers_6 N Q)) (T_cellplaneref06_numbers_5 N Q))) (ifb_f h ht))))

noncomputable def k_cellplaneref06_numbers_4 : Code := (cR (cL (cL (cL (cR (cR (bodyOf Try.f139)))))))

noncomputable def z_cellplaneref06_numbers_5 (N : Nat) (Q : VP) : Cont := (thenD (H_cellplaneref06_numbers_4 N Q) (inBlockD 0 (thenD (H_cellplaneref06_numbers_3 N Q) (retD (cy N [2]) Try.f139 Q))))

def C_cellplaneref06_numbers_7 (N : Nat) (Q : VP) (versions1' : Int) (B2' : Nat) (e2c' : G_api_Entry) (T2' : Nat) (k5' : Int) (v8' : Bool) (w : World) : Prop :=
  IfB v8' (Reb N w [⟨B2', e2c'.cells, T2'⟩] fun w45 => C_cellplaneref06_numbers_4 N Q versions1' B2' e2c' T2' k5' v8' w45) (CallL PP N w [⟨B2', e2c'.cells, T2'⟩] n_cellplaneref06_has [(.int .i64 k5'), (.int .u8 101)] fun r47 w48 => ∃ b46 : Bool, r47 = (.bool b46) ∧ IfB (!b46) (Reb N w48 [⟨B2', e2c'.cells, T2'⟩] fun w49 => C_cellplaneref06_numbers_4 N Q versions1' B2' e2c' T2' k5' (!decide ((e2c'.Epoch : Int) = 0)) w49) (Reb N w48 [⟨B2', e2c'.cells, T2'⟩] fun w50 => C_cellplaneref06_numbers_4 N Q versions1' B2' e2c' T2' k5' false w50))

noncomputable def H_cellplaneref06_numbers_7 (N : Nat) (Q : VP) : St → World → Prop := HG N 82 [.v 1 (.i .i64), .c 2 (.g R_api_Entry), .v 5 (.i .i64), .v 8 .b] (C_cellplaneref06_numbers_7 N Q)

theorem T_cellplaneref06_numbers_7 (N : Nat) (Q : VP) (s : St) (w : World) (h : H_cellplaneref06_numbers_7 N Q s w) : Snd (cy N [2]) k_cellplaneref06_numbers_4 (z_cellplaneref06_numbers_5 N Q) s w :=
  Snd.HG h fun _ _ _ _ _ _ _ h => dsm h

def C_cellplaneref06_numbers_2 (N : Nat) (Q : VP) (versions1' : Int) (B2' : Nat) (e2c' : G_api_Entry) (T2' : Nat) (k5' : Int) (w : World) : Prop :=
  CallL PP N w [⟨B2', e2c'.cells, T2'⟩] n_cellplaneref06_has [(.int .i64 k5'), (.int .u8 101)] fun r52 w53 => ∃ b51 : Bool, r52 = (.bool b51) ∧ IfB b51 (CallL PP N w53 [⟨B2', e2c'.cells, T2'⟩] n_cellplaneref06_in [(.int .i64 e2c'.Epoch), (.int .i64 1), (.int .i64 1048576)] fun r55 w56 => ∃ b54 : Bool, r55 = (.bool b54) ∧ Reb N w56 [⟨B2', e2c'.cells, T2'⟩] fun w57 => C_cellplaneref06_numbers_7 N Q versions1' B2' e2c' T2' k5' (!b54) w57) (Reb N w53 [⟨B2', e2c'.cells, T2'⟩] fun w58 => C_cellplaneref06_numbers_7 N Q versions1' B2' e2c' T2' k5' false w58)

noncomputable def H_cellplaneref06_numbers_2 (N : Nat) (Q : VP) : St → World → Prop := HG N 82 [.v 1 (.i .i64), .c 2 (.g R_api_Entry), .v 5 (.i .i64)] (C_cellplaneref06_numbers_2 N Q)

theorem T_cellplaneref06_numbers_2 (N : Nat) (Q : VP) (s : St) (w : World) (h : H_cellplaneref06_numbers_2 N Q s w) : Snd (cy N [2]) (cR (cR (bodyOf Try.f139))) (retD (cy N [2]) Try.f139 Q) s w :=
  Snd.HG h fun versions1' B2' e2c' T2' k5' w h => (sq (H_cellplaneref06_numbers_3 N Q) (bk 0 (sq (H_cellplaneref06_numbers_4 N Q) (sq (H_cellplaneref06_numbers_7 N Q) (dsm h) (T_cellplaneref06_numbers_7 N Q)) (T_cellplaneref06_numbers_4 N Q))) (T_cellplaneref06_numbers_3 N Q))

def C_cellplaneref06_numbers_1 (N : Nat) (Q : VP) (versions1' : Int) (B2' : Nat) (e2c' : G_api_Entry) (T2' : Nat) (w : World) : Prop :=
  Reb N w [⟨B2', e2c'.cells, T2'⟩] fun w59 => C_cellplaneref06_numbers_2 N Q versions1' B2' e2c' T2' e2c'.Kind w59

noncomputable def H_cellplaneref06_numbers_1 (N : Nat) (Q : VP) : St → World → Prop := HG N 82 [.v 1 (.i .i64), .c 2 (.g R_api_Entry)] (C_cellplaneref06_numbers_1 N Q)

theorem T_cellplaneref06_numbers_1 (N : Nat) (Q : VP) (s : St) (w : World) (h : H_cellplaneref06_numbers_1 N Q s w) : Snd (cy N [2]) (cR (bodyOf Try.f139)) (retD (cy N [2]) Try.f139 Q) s w :=
  Snd.HG h fun versions1' B2' e2c' T2' w h => (sq (H_cellplaneref06_numbers_2 N Q) (dsm h) (T_cellplaneref06_numbers_2 N Q))

def F_cellplaneref06_numbers (N : Nat) (e0 : G_api_Entry) (versions1 : Int) (Q : VP) (w : World) : Prop :=
  ∀ b60 : Nat, w.heap.size ≤ b60 → Reb N w [⟨b60, e0.cells, t_api_Entry⟩] fun w61 => C_cellplaneref06_numbers_1 N Q versions1 b60 e0 t_api_Entry w61

theorem cellplaneref06_numbers_snd (N : Nat) (e0 : G_api_Entry) (versions1 : Int) (Q : VP) (w : World) (h : F_cellplaneref06_numbers N e0 versions1 Q w) : Snd (cy N [2]) (bodyOf Try.f139) (retD (cy N [2]) Try.f139 Q) (entry 82 [(.agg (List.toArray e0.cells)), (.int .i64 versions1)]) w :=
  (sq (H_cellplaneref06_numbers_1 N Q) (dsm h) (T_cellplaneref06_numbers_1 N Q))

theorem cellplaneref06_numbers_calls (e0 : G_api_Entry) (versions1 : Int) (Q : VP) (w : World) (h : F_cellplaneref06_numbers w.heap.size e0 versions1 Q w) : Calls PP n_cellplaneref06_numbers [(.agg (List.toArray e0.cells)), (.int .i64 versions1)].toArray w fun e w' => ∃ v, e = .returned v ∧ Q v w' :=
  calls_of (C := cy w.heap.size [2]) (fn := Try.f139) (c := (bodyOf Try.f139)) (by kernel_rfl) (by kernel_rfl) (Nat.le_refl _) (cellplaneref06_numbers_snd _ e0 versions1 Q w h)

/-! ### cellplaneref06_in -/
def F_cellplaneref06_in (N : Nat) (n0 : Int) (low1 : Int) (high2 : Int) (Q : VP) (w : World) : Prop :=
  IfB (decide ((low1 : Int) ≤ n0)) (Reb N w [] (Q (.bool (decide ((n0 : Int) ≤ high2))))) (Reb N w [] (Q (.bool false)))

theorem cellplaneref06_in_snd (N : Nat) (n0 : Int) (low1 : Int) (high2 : Int) (Q : VP) (w : World) (h : F_cellplaneref06_in N n0 low1 high2 Q w) : Snd (cy N []) (bodyOf Try.f137) (retD (cy N []) Try.f137 Q) (entry 15 [(.int .i64 n0), (.int .i64 low1), (.int .i64 high2)]) w :=
  (dsm h)

theorem cellplaneref06_in_calls (n0 : Int) (low1 : Int) (high2 : Int) (Q : VP) (w : World) (h : F_cellplaneref06_in w.heap.size n0 low1 high2 Q w) : Calls PP n_cellplaneref06_in [(.int .i64 n0), (.int .i64 low1), (.int .i64 high2)].toArray w fun e w' => ∃ v, e = .returned v ∧ Q v w' :=
  calls_of (C := cy w.heap.size []) (fn := Try.f137) (c := (bodyOf Try.f137)) (by kernel_rfl) (by kernel_rfl) (Nat.le_refl _) (cellplaneref06_in_snd _ n0 low1 high2 Q w h)
end Go.Sh
