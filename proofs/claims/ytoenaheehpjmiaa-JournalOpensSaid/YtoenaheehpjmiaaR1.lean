/- What these functions do, told by computation: a formula for each, and that its calls do what the formula says.
   Conditions: none. -/
import Derived.Test.YtoenaheehpjmiaaBase
namespace Go.Sh
open Go Go.Proofs
set_option linter.unusedVariables false
set_option maxRecDepth 100000

/-! ### cellplaneref01_Int -/
def C_cellplaneref01_Int_4 (N : Nat) (Q : VP) (out5' : Sl) (u6' : Int) (w : World) : Prop :=
  NewL N w [] [(.int .u8 (IntKind.u8.wrap u6'))] t_u8 fun b1 w2 => RunL PP N w2 [] (Builtin.append_ #[t_sl_u8, t_sl_u8] t_sl_u8 #[(.slice out5'.a out5'.n out5'.c), (.slice (some ⟨b1, 0, none⟩) 1 1)]) fun r4 w5 => ∃ l3 : Sl, r4 = (.slice l3.a l3.n l3.c) ∧ Reb N w5 [] (Q (.slice l3.a l3.n l3.c))

noncomputable def H_cellplaneref01_Int_4 (N : Nat) (Q : VP) : St → World → Prop := HG N 28 [.v 5 .l, .v 6 (.i .u64)] (C_cellplaneref01_Int_4 N Q)

theorem T_cellplaneref01_Int_4 (N : Nat) (Q : VP) (s : St) (w : World) (h : H_cellplaneref01_Int_4 N Q s w) : Snd (cy N []) (cR (cR (cR (cR (bodyOf Try.f91))))) (retD (cy N []) Try.f91 Q) s w :=
  Snd.HG h fun _ _ _ h => dsm h

def D_cellplaneref01_Int_5 (K : (Unit) → (Sl × Int) → Prop) : List Value → List LB → Prop := fun vs ls => match vs, ls with
  | [.slice out5'_a out5'_n out5'_c, .int .u64 u6'], [] => K () (⟨out5'_a, out5'_n, out5'_c⟩, u6')
  | _, _ => False

noncomputable def z_cellplaneref01_Int_0 (N : Nat) (Q : VP) : Cont := (inBlockD 0 (thenD (H_cellplaneref01_Int_4 N Q) (retD (cy N []) Try.f91 Q)))

noncomputable def k_cellplaneref01_Int_1 : Code := (cL (cL (cR (cR (cR (bodyOf Try.f91))))))

def B_cellplaneref01_Int_5 (N : Nat) (K1 : (Unit) → (Sl × Int) → World → Prop) (Q : VP) (out5' : Sl) (u6' : Int) (w : World) : Prop :=
  IfB (decide ((128 : Int) ≤ u6')) ((128 : Int) ≠ 0 ∧ NewL N w [] [(.int .u8 (IntKind.u8.wrap ((IntKind.u8.wrap (Int.tmod u6' 128)) + 128)))] t_u8 fun b6 w7 => RunL PP N w7 [] (Builtin.append_ #[t_sl_u8, t_sl_u8] t_sl_u8 #[(.slice out5'.a out5'.n out5'.c), (.slice (some ⟨b6, 0, none⟩) 1 1)]) fun r9 w10 => ∃ l8 : Sl, r9 = (.slice l8.a l8.n l8.c) ∧ (128 : Int) ≠ 0 ∧ Reb N w10 [] fun w11 => K1 () (l8, (IntKind.u64.wrap (Int.tdiv u6' 128))) w11) (Reb N w [] fun w12 => C_cellplaneref01_Int_4 N Q out5' u6' w12)

theorem X_cellplaneref01_Int_5 {N : Nat} {K1 : (Unit) → (Sl × Int) → World → Prop} {Q : VP} {out5' : Sl} {u6' : Int} {w : World} (h : B_cellplaneref01_Int_5 N K1 Q out5' u6' w) : Snd (cy N []) (cL k_cellplaneref01_Int_1) (thenD (HeadK N 28 [.val 5, .val 6] D_cellplaneref01_Int_5 K1) (z_cellplaneref01_Int_0 N Q)) (mkS 28 [.val 5, .val 6] [(.slice out5'.a out5'.n out5'.c), (.int .u64 u6')] []) w :=
  (dsm h)

def L_cellplaneref01_Int_5 (N : Nat) (Q : VP) (K1 : (Unit) → (Sl × Int) → World → Prop) (c : Unit) (x : Sl × Int) (w : World) : Prop := match c, x with
  | (), (out5', u6') => B_cellplaneref01_Int_5 N K1 Q out5' u6' w

theorem T_cellplaneref01_Int_5 (N : Nat) (Q : VP) {s : St} {w : World} (h : HeadE N 28 [.val 5, .val 6] D_cellplaneref01_Int_5 (L_cellplaneref01_Int_5 N Q) s w) : Snd (cy N []) k_cellplaneref01_Int_1 (z_cellplaneref01_Int_0 N Q) s w := by
  refine Snd.cast (c' := .loop (cL k_cellplaneref01_Int_1)) (by kernel_rfl) (Snd.loopC (fun (c : Unit) (x : Sl × Int) => match c, x with | (), (out5', u6') => ([(.slice out5'.a out5'.n out5'.c), (.int .u64 u6')], [])) ?_ ?_ h)
  · intro K vs ls h
    unfold D_cellplaneref01_Int_5 at h
    split at h
    · exact ⟨_, _, rfl, h⟩
    · exact h.elim
  · rintro K ⟨⟩ ⟨out5', u6'⟩ w h
    exact X_cellplaneref01_Int_5 h

def C_cellplaneref01_Int_3 (N : Nat) (Q : VP) (out5' : Sl) (u6' : Int) (w : World) : Prop :=
  LoopC N w [] (() : Unit) ((out5', u6') : Sl × Int) (L_cellplaneref01_Int_5 N Q)

noncomputable def H_cellplaneref01_Int_3 (N : Nat) (Q : VP) : St → World → Prop := HG N 28 [.v 5 .l, .v 6 (.i .u64)] (C_cellplaneref01_Int_3 N Q)

theorem T_cellplaneref01_Int_3 (N : Nat) (Q : VP) (s : St) (w : World) (h : H_cellplaneref01_Int_3 N Q s w) : Snd (cy N []) (cR (cR (cR (bodyOf Try.f91)))) (retD (cy N []) Try.f91 Q) s w :=
  Snd.HG h fun out5' u6' w h => (sq (H_cellplaneref01_Int_4 N Q) (bk 0 (T_cellplaneref01_Int_5 N Q (mpr' (by kernel_rfl) h))) (T_cellplaneref01_Int_4 N Q))

def C_cellplaneref01_Int_2 (N : Nat) (Q : VP) (n1' : Int) (out5' : Sl) (w : World) : Prop :=
  CallL PP N w [] n_cellplaneref01_code [(.int .i64 n1')] fun r14 w15 => ∃ n13 : Int, r14 = (.int .u64 n13) ∧ Reb N w15 [] fun w16 => C_cellplaneref01_Int_3 N Q out5' n13 w16

noncomputable def H_cellplaneref01_Int_2 (N : Nat) (Q : VP) : St → World → Prop := HG N 28 [.v 1 (.i .i64), .v 5 .l] (C_cellplaneref01_Int_2 N Q)

theorem T_cellplaneref01_Int_2 (N : Nat) (Q : VP) (s : St) (w : World) (h : H_cellplaneref01_Int_2 N Q s w) : Snd (cy N []) (cR (cR (bodyOf Try.f91))) (retD (cy N []) Try.f91 Q) s w :=
  Snd.HG h fun n1' out5' w h => (sq (H_cellplaneref01_Int_3 N Q) (dsm h) (T_cellplaneref01_Int_3 N Q))

def C_cellplaneref01_Int_1 (N : Nat) (Q : VP) (b0' : Sl) (n1' : Int) (w : World) : Prop :=
  NewL N w [] [] t_u8 fun b17 w18 => RunL PP N w18 [] (Builtin.append_ #[t_sl_u8, t_sl_u8] t_sl_u8 #[(.slice (some ⟨b17, 0, none⟩) 0 0), (.slice b0'.a b0'.n b0'.c)]) fun r20 w21 => ∃ l19 : Sl, r20 = (.slice l19.a l19.n l19.c) ∧ Reb N w21 [] fun w22 => C_cellplaneref01_Int_2 N Q n1' l19 w22

noncomputable def H_cellplaneref01_Int_1 (N : Nat) (Q : VP) : St → World → Prop := HG N 28 [.v 0 .l, .v 1 (.i .i64)] (C_cellplaneref01_Int_1 N Q)

theorem T_cellplaneref01_Int_1 (N : Nat) (Q : VP) (s : St) (w : World) (h : H_cellplaneref01_Int_1 N Q s w) : Snd (cy N []) (cR (bodyOf Try.f91)) (retD (cy N []) Try.f91 Q) s w :=
  Snd.HG h fun b0' n1' w h => (sq (H_cellplaneref01_Int_2 N Q) (dsm h) (T_cellplaneref01_Int_2 N Q))

def F_cellplaneref01_Int (N : Nat) (b0 : Sl) (n1 : Int) (Q : VP) (w : World) : Prop :=
  Reb N w [] fun w23 => C_cellplaneref01_Int_1 N Q b0 n1 w23

theorem cellplaneref01_Int_snd (N : Nat) (b0 : Sl) (n1 : Int) (Q : VP) (w : World) (h : F_cellplaneref01_Int N b0 n1 Q w) : Snd (cy N []) (bodyOf Try.f91) (retD (cy N []) Try.f91 Q) (entry 28 [(.slice b0.a b0.n b0.c), (.int .i64 n1)]) w :=
  (sq (H_cellplaneref01_Int_1 N Q) (dsm h) (T_cellplaneref01_Int_1 N Q))

theorem cellplaneref01_Int_calls (b0 : Sl) (n1 : Int) (Q : VP) (w : World) (h : F_cellplaneref01_Int w.heap.size b0 n1 Q w) : Calls PP n_cellplaneref01_Int [(.slice b0.a b0.n b0.c), (.int .i64 n1)].toArray w fun e w' => ∃ v, e = .returned v ∧ Q v w' :=
  calls_of (C := cy w.heap.size []) (fn := Try.f91) (c := (bodyOf Try.f91)) (by kernel_rfl) (by kernel_rfl) (Nat.le_refl _) (cellplaneref01_Int_snd _ b0 n1 Q w h)

/-! ### cellplaneref06_Bytes -/
def C_cellplaneref06_Bytes_4 (N : Nat) (Q : VP) (out3' : Sl) (w : World) : Prop :=
  Reb N w [] (Q (.slice out3'.a out3'.n out3'.c))

noncomputable def H_cellplaneref06_Bytes_4 (N : Nat) (Q : VP) : St → World → Prop := HG N 38 [.v 3 .l] (C_cellplaneref06_Bytes_4 N Q)

theorem T_cellplaneref06_Bytes_4 (N : Nat) (Q : VP) (s : St) (w : World) (h : H_cellplaneref06_Bytes_4 N Q s w) : Snd (cy N [1]) (cR (cR (cR (cR (bodyOf Try.f93))))) (retD (cy N [1]) Try.f93 Q) s w :=
  Snd.HG h fun _ _ h => dsm h

noncomputable def k_cellplaneref06_Bytes_0 : Code := (cR (cL (cR (cR (cR (bodyOf Try.f93))))))

noncomputable def z_cellplaneref06_Bytes_1 (N : Nat) (Q : VP) : Cont := (thenD (H_cellplaneref06_Bytes_4 N Q) (retD (cy N [1]) Try.f93 Q))

def D_cellplaneref06_Bytes_6 (K : (Sl) → (Sl × Int) → Prop) : List Value → List LB → Prop := fun vs ls => match vs, ls with
  | [.slice out3'_a out3'_n out3'_c, .slice l4'_a l4'_n l4'_c, .int .i64 i5'], [] => K ⟨l4'_a, l4'_n, l4'_c⟩ (⟨out3'_a, out3'_n, out3'_c⟩, i5')
  | _, _ => False

def B_cellplaneref06_Bytes_6 (N : Nat) (K1 : (Sl) → (Sl × Int) → World → Prop) (Q : VP) (out3' l4' : Sl) (i5' : Int) (w : World) : Prop :=
  IfB (decide ((i5' : Int) < ((l4'.n : Nat) : Int))) (IdxL l4'.a l4'.n i5' fun q1 => ∃ n2 : Int, At w (q1.add ((i5' : Int).toNat * 1)) [(.int .i64 n2)] ∧ NotIn ((q1.add ((i5' : Int).toNat * 1)) : Addr).block [] ∧ CallL PP N w [] n_cellplaneref01_Int [(.slice out3'.a out3'.n out3'.c), (.int .i64 n2)] fun r4 w5 => ∃ l3 : Sl, r4 = (.slice l3.a l3.n l3.c) ∧ Reb N w5 [] fun w6 => K1 l4' (l3, (IntKind.i64.wrap (i5' + 1))) w6) (Reb N w [] fun w7 => C_cellplaneref06_Bytes_4 N Q out3' w7)

theorem X_cellplaneref06_Bytes_6 {N : Nat} {K1 : (Sl) → (Sl × Int) → World → Prop} {Q : VP} {out3' l4' : Sl} {i5' : Int} {w : World} (h : B_cellplaneref06_Bytes_6 N K1 Q out3' l4' i5' w) : Snd (cy N [1]) (cL (cL k_cellplaneref06_Bytes_0)) (thenD (HeadK N 38 [.val 3, .val 4, .val 5] D_cellplaneref06_Bytes_6 K1) (inBlockD 0 (z_cellplaneref06_Bytes_1 N Q))) (mkS 38 [.val 3, .val 4, .val 5] [(.slice out3'.a out3'.n out3'.c), (.slice l4'.a l4'.n l4'.c), (.int .i64 i5')] []) w :=
  (dsm h)

def L_cellplaneref06_Bytes_6 (N : Nat) (Q : VP) (K1 : (Sl) → (Sl × Int) → World → Prop) (c : Sl) (x : Sl × Int) (w : World) : Prop := match c, x with
  | l4', (out3', i5') => B_cellplaneref06_Bytes_6 N K1 Q out3' l4' i5' w

theorem T_cellplaneref06_Bytes_6 (N : Nat) (Q : VP) {s : St} {w : World} (h : HeadE N 38 [.val 3, .val 4, .val 5] D_cellplaneref06_Bytes_6 (L_cellplaneref06_Bytes_6 N Q) s w) : Snd (cy N [1]) (cL k_cellplaneref06_Bytes_0) (inBlockD 0 (z_cellplaneref06_Bytes_1 N Q)) s w := by
  refine Snd.cast (c' := .loop (cL (cL k_cellplaneref06_Bytes_0))) (by kernel_rfl) (Snd.loopC (fun (c : Sl) (x : Sl × Int) => match c, x with | l4', (out3', i5') => ([(.slice out3'.a out3'.n out3'.c), (.slice l4'.a l4'.n l4'.c), (.int .i64 i5')], [])) ?_ ?_ h)
  · intro K vs ls h
    unfold D_cellplaneref06_Bytes_6 at h
    split at h
    · exact ⟨_, _, rfl, h⟩
    · exact h.elim
  · rintro K l4' ⟨out3', i5'⟩ w h
    exact X_cellplaneref06_Bytes_6 h

def C_cellplaneref06_Bytes_5 (N : Nat) (Q : VP) (out3' l4' : Sl) (i5' : Int) (w : World) : Prop :=
  LoopC N w [] (l4' : Sl) ((out3', i5') : Sl × Int) (L_cellplaneref06_Bytes_6 N Q)

noncomputable def H_cellplaneref06_Bytes_5 (N : Nat) (Q : VP) : St → World → Prop := HG N 38 [.v 3 .l, .v 4 .l, .v 5 (.i .i64)] (C_cellplaneref06_Bytes_5 N Q)

theorem T_cellplaneref06_Bytes_5 (N : Nat) (Q : VP) (s : St) (w : World) (h : H_cellplaneref06_Bytes_5 N Q s w) : Snd (cy N [1]) k_cellplaneref06_Bytes_0 (z_cellplaneref06_Bytes_1 N Q) s w :=
  Snd.HG h fun out3' l4' i5' w h => (bk 0 (T_cellplaneref06_Bytes_6 N Q (mpr' (by kernel_rfl) h)))

def C_cellplaneref06_Bytes_3 (N : Nat) (Q : VP) (out3' l4' : Sl) (w : World) : Prop :=
  Reb N w [] fun w8 => C_cellplaneref06_Bytes_5 N Q out3' l4' 0 w8

noncomputable def H_cellplaneref06_Bytes_3 (N : Nat) (Q : VP) : St → World → Prop := HG N 38 [.v 3 .l, .v 4 .l] (C_cellplaneref06_Bytes_3 N Q)

theorem T_cellplaneref06_Bytes_3 (N : Nat) (Q : VP) (s : St) (w : World) (h : H_cellplaneref06_Bytes_3 N Q s w) : Snd (cy N [1]) (cR (cR (cR (bodyOf Try.f93)))) (retD (cy N [1]) Try.f93 Q) s w :=
  Snd.HG h fun out3' l4' w h => (sq (H_cellplaneref06_Bytes_4 N Q) (sq (H_cellplaneref06_Bytes_5 N Q) (dsm h) (T_cellplaneref06_Bytes_5 N Q)) (T_cellplaneref06_Bytes_4 N Q))

def C_cellplaneref06_Bytes_2 (N : Nat) (Q : VP) (B1' : Nat) (e1c' : G_api_Entry) (T1' : Nat) (out3' : Sl) (w : World) : Prop :=
  NewL N w [⟨B1', e1c'.cells, T1'⟩] [(.int .i64 e1c'.Kind), (.int .i64 e1c'.Tick), (.int .i64 e1c'.Tenant), (.int .i64 e1c'.Cell), (.int .i64 e1c'.Other), (.int .i64 e1c'.Epoch), (.int .i64 e1c'.From), (.int .i64 e1c'.Until), (.int .i64 e1c'.N)] t_i64_2 fun b9 w10 => Reb N w10 [⟨B1', e1c'.cells, T1'⟩] fun w11 => C_cellplaneref06_Bytes_3 N Q out3' (⟨(some ⟨b9, 0, none⟩), 9, 9⟩ : Sl) w11

noncomputable def H_cellplaneref06_Bytes_2 (N : Nat) (Q : VP) : St → World → Prop := HG N 38 [.c 1 (.g R_api_Entry), .v 3 .l] (C_cellplaneref06_Bytes_2 N Q)

theorem T_cellplaneref06_Bytes_2 (N : Nat) (Q : VP) (s : St) (w : World) (h : H_cellplaneref06_Bytes_2 N Q s w) : Snd (cy N [1]) (cR (cR (bodyOf Try.f93))) (retD (cy N [1]) Try.f93 Q) s w :=
  Snd.HG h fun B1' e1c' T1' out3' w h => (sq (H_cellplaneref06_Bytes_3 N Q) (dsm h) (T_cellplaneref06_Bytes_3 N Q))

def C_cellplaneref06_Bytes_1 (N : Nat) (Q : VP) (B1' : Nat) (e1c' : G_api_Entry) (T1' : Nat) (w : World) : Prop :=
  Reb N w [⟨B1', e1c'.cells, T1'⟩] fun w12 => C_cellplaneref06_Bytes_2 N Q B1' e1c' T1' (⟨none, 0, 0⟩ : Sl) w12

noncomputable def H_cellplaneref06_Bytes_1 (N : Nat) (Q : VP) : St → World → Prop := HG N 38 [.c 1 (.g R_api_Entry)] (C_cellplaneref06_Bytes_1 N Q)

theorem T_cellplaneref06_Bytes_1 (N : Nat) (Q : VP) (s : St) (w : World) (h : H_cellplaneref06_Bytes_1 N Q s w) : Snd (cy N [1]) (cR (bodyOf Try.f93)) (retD (cy N [1]) Try.f93 Q) s w :=
  Snd.HG h fun B1' e1c' T1' w h => (sq (H_cellplaneref06_Bytes_2 N Q) (dsm h) (T_cellplaneref06_Bytes_2 N Q))

def F_cellplaneref06_Bytes (N : Nat) (e0 : G_api_Entry) (Q : VP) (w : World) : Prop :=
  ∀ b13 : Nat, w.heap.size ≤ b13 → Reb N w [⟨b13, e0.cells, t_api_Entry⟩] fun w14 => C_cellplaneref06_Bytes_1 N Q b13 e0 t_api_Entry w14

theorem cellplaneref06_Bytes_snd (N : Nat) (e0 : G_api_Entry) (Q : VP) (w : World) (h : F_cellplaneref06_Bytes N e0 Q w) : Snd (cy N [1]) (bodyOf Try.f93) (retD (cy N [1]) Try.f93 Q) (entry 38 [(.agg (List.toArray e0.cells))]) w :=
  (sq (H_cellplaneref06_Bytes_1 N Q) (dsm h) (T_cellplaneref06_Bytes_1 N Q))

theorem cellplaneref06_Bytes_calls (e0 : G_api_Entry) (Q : VP) (w : World) (h : F_cellplaneref06_Bytes w.heap.size e0 Q w) : Calls PP n_cellplaneref06_Bytes [(.agg (List.toArray e0.cells))].toArray w fun e w' => ∃ v, e = .returned v ∧ Q v w' :=
  calls_of (C := cy w.heap.size [1]) (fn := Try.f93) (c := (bodyOf Try.f93)) (by kernel_rfl) (by kernel_rfl) (Nat.le_refl _) (cellplaneref06_Bytes_snd _ e0 Q w h)
end Go.Sh
