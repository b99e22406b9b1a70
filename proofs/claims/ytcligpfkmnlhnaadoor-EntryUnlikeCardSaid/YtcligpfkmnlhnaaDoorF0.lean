/- What these functions do, told by computation: a formula for each, and that its calls do what the formula says.
   Conditions: none. -/
import Derived.Test.YtcligpfkmnlhnaaDoorBase
namespace Go.Sh
open Go
set_option linter.unusedVariables false
set_option maxRecDepth 100000

/-! ### cellplanelaw06_EntryName -/
def F_cellplanelaw06_EntryName (N : Nat) (kind0 : Int) (Q : Value → World → Prop) (w : World) : Prop :=
  CallL PP N w [] n_cellplanemake_Between [(.int .i64 kind0), (.int .i64 (-1)), (.int .i64 18)] fun r2 w3 => ∃ n1 : Int, r2 = (.int .i64 n1) ∧ CallL PP N w3 [] n_cellplanelaw06_awake [] fun r5 w6 => ∃ b4 : Bool, r5 = (.bool b4) ∧ IfB b4 (CallL PP N w6 [] n_entry_Name [(.int .i64 kind0)] fun r8 w9 => ∃ s7 : ByteArray, r8 = (.string s7) ∧ CallL PP N w9 [] n_cellplaneref06_Name [(.int .i64 kind0)] fun r11 w12 => ∃ s10 : ByteArray, r11 = (.string s10) ∧ IfB (strEq s7 s10) (CallL PP N w12 [] n_entry_Name [(.int .i64 n1)] fun r14 w15 => ∃ s13 : ByteArray, r14 = (.string s13) ∧ CallL PP N w15 [] n_cellplaneref06_Name [(.int .i64 n1)] fun r17 w18 => ∃ s16 : ByteArray, r17 = (.string s16) ∧ Reb N w18 [] (Q (.bool (strEq s13 s16)))) (Reb N w12 [] (Q (.bool false)))) (Reb N w6 [] (Q (.bool false)))

theorem cellplanelaw06_EntryName_snd (N : Nat) (kind0 : Int) (Q : Value → World → Prop) (w : World) (h : F_cellplanelaw06_EntryName N kind0 Q w) : Snd (cx N (fun d => memN d [])) (bodyOf Go.Proofs.Tryd.f5) (retD (cx N (fun d => memN d [])) Go.Proofs.Tryd.f5 Q) (entry 21 [(.int .i64 kind0)]) w :=
  (den_sound okc mixed _ _ _ _ (mpr' (by kernel_rfl) h))

theorem cellplanelaw06_EntryName_calls (kind0 : Int) (Q : Value → World → Prop) (w : World) (h : F_cellplanelaw06_EntryName w.heap.size kind0 Q w) : Calls PP n_cellplanelaw06_EntryName [(.int .i64 kind0)].toArray w fun e w' => ∃ v, e = .returned v ∧ Q v w' :=
  calls_of (C := cx w.heap.size (fun d => memN d [])) (fn := Go.Proofs.Tryd.f5) (c := (bodyOf Go.Proofs.Tryd.f5)) (by kernel_rfl) (by kernel_rfl) (Nat.le_refl _) (cellplanelaw06_EntryName_snd _ kind0 Q w h)

/-! ### cellplanelaw06_EntryKinds -/
def F_cellplanelaw06_EntryKinds (N : Nat) (kind0 : Int) (tenant1 : Int) (cell2 : Int) (other3 : Int) (epoch4 : Int) (from5 : Int) (until6 : Int) (n7 : Int) (Q : Value → World → Prop) (w : World) : Prop :=
  CallL PP N w [] n_cellplanemake_Between [(.int .i64 kind0), (.int .i64 0), (.int .i64 17)] fun r2 w3 => ∃ n1 : Int, r2 = (.int .i64 n1) ∧ CallL PP N w3 [] n_cellplanemake_Between [(.int .i64 tenant1), (.int .i64 (-1)), (.int .i64 1)] fun r5 w6 => ∃ n4 : Int, r5 = (.int .i64 n4) ∧ CallL PP N w6 [] n_cellplanemake_Between [(.int .i64 cell2), (.int .i64 (-1)), (.int .i64 1)] fun r9 w10 => ∃ n8 : Int, r9 = (.int .i64 n8) ∧ CallL PP N w10 [] n_cellplanemake_Between [(.int .i64 other3), (.int .i64 (-1)), (.int .i64 1)] fun r12 w13 => ∃ n11 : Int, r12 = (.int .i64 n11) ∧ CallL PP N w13 [] n_cellplanemake_Between [(.int .i64 epoch4), (.int .i64 0), (.int .i64 1)] fun r15 w16 => ∃ n14 : Int, r15 = (.int .i64 n14) ∧ CallL PP N w16 [] n_cellplanemake_Between [(.int .i64 from5), (.int .i64 0), (.int .i64 1)] fun r18 w19 => ∃ n17 : Int, r18 = (.int .i64 n17) ∧ CallL PP N w19 [] n_cellplanemake_Between [(.int .i64 until6), (.int .i64 0), (.int .i64 1)] fun r21 w22 => ∃ n20 : Int, r21 = (.int .i64 n20) ∧ CallL PP N w22 [] n_cellplanemake_Between [(.int .i64 n7), (.int .i64 0), (.int .i64 4)] fun r24 w25 => ∃ n23 : Int, r24 = (.int .i64 n23) ∧ ∀ b26 : Nat, w25.heap.size ≤ b26 → ∀ b27 : Nat, w25.heap.size ≤ b27 → CallL PP N w25 [⟨b26, (⟨n1, 0, n4, n8, n11, n14, n17, n20, n23⟩ : G_api_Entry).cells, t_api_Entry⟩, ⟨b27, (⟨n1, 0, n4, n8, n11, 0, 0, 0, n23⟩ : G_api_Entry).cells, t_api_Entry⟩] n_cellplanelaw06_awake [] fun r29 w30 => ∃ b28 : Bool, r29 = (.bool b28) ∧ IfB b28 (CallL PP N w30 [⟨b26, (⟨n1, 0, n4, n8, n11, n14, n17, n20, n23⟩ : G_api_Entry).cells, t_api_Entry⟩, ⟨b27, (⟨n1, 0, n4, n8, n11, 0, 0, 0, n23⟩ : G_api_Entry).cells, t_api_Entry⟩] n_entry_Shape [(.agg (List.toArray (⟨n1, 0, n4, n8, n11, n14, n17, n20, n23⟩ : G_api_Entry).cells))] fun r32 w33 => ∃ b31 : Bool, r32 = (.bool b31) ∧ CallL PP N w33 [⟨b26, (⟨n1, 0, n4, n8, n11, n14, n17, n20, n23⟩ : G_api_Entry).cells, t_api_Entry⟩, ⟨b27, (⟨n1, 0, n4, n8, n11, 0, 0, 0, n23⟩ : G_api_Entry).cells, t_api_Entry⟩] n_cellplaneref06_Shape [(.agg (List.toArray (⟨n1, 0, n4, n8, n11, n14, n17, n20, n23⟩ : G_api_Entry).cells))] fun r35 w36 => ∃ b34 : Bool, r35 = (.bool b34) ∧ IfB (b31 == b34) (CallL PP N w36 [⟨b26, (⟨n1, 0, n4, n8, n11, n14, n17, n20, n23⟩ : G_api_Entry).cells, t_api_Entry⟩, ⟨b27, (⟨n1, 0, n4, n8, n11, 0, 0, 0, n23⟩ : G_api_Entry).cells, t_api_Entry⟩] n_entry_Shape [(.agg (List.toArray (⟨n1, 0, n4, n8, n11, 0, 0, 0, n23⟩ : G_api_Entry).cells))] fun r38 w39 => ∃ b37 : Bool, r38 = (.bool b37) ∧ CallL PP N w39 [⟨b26, (⟨n1, 0, n4, n8, n11, n14, n17, n20, n23⟩ : G_api_Entry).cells, t_api_Entry⟩, ⟨b27, (⟨n1, 0, n4, n8, n11, 0, 0, 0, n23⟩ : G_api_Entry).cells, t_api_Entry⟩] n_cellplaneref06_Shape [(.agg (List.toArray (⟨n1, 0, n4, n8, n11, 0, 0, 0, n23⟩ : G_api_Entry).cells))] fun r41 w42 => ∃ b40 : Bool, r41 = (.bool b40) ∧ Reb N w42 [⟨b26, (⟨n1, 0, n4, n8, n11, n14, n17, n20, n23⟩ : G_api_Entry).cells, t_api_Entry⟩, ⟨b27, (⟨n1, 0, n4, n8, n11, 0, 0, 0, n23⟩ : G_api_Entry).cells, t_api_Entry⟩] (Q (.bool (b37 == b40)))) (Reb N w36 [⟨b26, (⟨n1, 0, n4, n8, n11, n14, n17, n20, n23⟩ : G_api_Entry).cells, t_api_Entry⟩, ⟨b27, (⟨n1, 0, n4, n8, n11, 0, 0, 0, n23⟩ : G_api_Entry).cells, t_api_Entry⟩] (Q (.bool false)))) (Reb N w30 [⟨b26, (⟨n1, 0, n4, n8, n11, n14, n17, n20, n23⟩ : G_api_Entry).cells, t_api_Entry⟩, ⟨b27, (⟨n1, 0, n4, n8, n11, 0, 0, 0, n23⟩ : G_api_Entry).cells, t_api_Entry⟩] (Q (.bool false)))

theorem cellplanelaw06_EntryKinds_snd (N : Nat) (kind0 : Int) (tenant1 : Int) (cell2 : Int) (other3 : Int) (epoch4 : Int) (from5 : Int) (until6 : Int) (n7 : Int) (Q : Value → World → Prop) (w : World) (h : F_cellplanelaw06_EntryKinds N kind0 tenant1 cell2 other3 epoch4 from5 until6 n7 Q w) : Snd (cx N (fun d => memN d [17, 18])) (bodyOf Go.Proofs.Tryd.f4) (retD (cx N (fun d => memN d [17, 18])) Go.Proofs.Tryd.f4 Q) (entry 55 [(.int .i64 kind0), (.int .i64 tenant1), (.int .i64 cell2), (.int .i64 other3), (.int .i64 epoch4), (.int .i64 from5), (.int .i64 until6), (.int .i64 n7)]) w :=
  (den_sound okc mixed _ _ _ _ (mpr' (by kernel_rfl) h))

theorem cellplanelaw06_EntryKinds_calls (kind0 : Int) (tenant1 : Int) (cell2 : Int) (other3 : Int) (epoch4 : Int) (from5 : Int) (until6 : Int) (n7 : Int) (Q : Value → World → Prop) (w : World) (h : F_cellplanelaw06_EntryKinds w.heap.size kind0 tenant1 cell2 other3 epoch4 from5 until6 n7 Q w) : Calls PP n_cellplanelaw06_EntryKinds [(.int .i64 kind0), (.int .i64 tenant1), (.int .i64 cell2), (.int .i64 other3), (.int .i64 epoch4), (.int .i64 from5), (.int .i64 until6), (.int .i64 n7)].toArray w fun e w' => ∃ v, e = .returned v ∧ Q v w' :=
  calls_of (C := cx w.heap.size (fun d => memN d [17, 18])) (fn := Go.Proofs.Tryd.f4) (c := (bodyOf Go.Proofs.Tryd.f4)) (by kernel_rfl) (by kernel_rfl) (Nat.le_refl _) (cellplanelaw06_EntryKinds_snd _ kind0 tenant1 cell2 other3 epoch4 from5 until6 n7 Q w h)

/-! ### cellplanelaw06_EntryUnlike -/
def F_cellplanelaw06_EntryUnlike (N : Nat) (a0 : G_api_Entry) (b1 : G_api_Entry) (which2 : Int) (by3 : Int) (Q : Value → World → Prop) (w : World) : Prop :=
  ∀ b2 : Nat, w.heap.size ≤ b2 → ∀ b3 : Nat, w.heap.size ≤ b3 → CallL PP N w [⟨b2, a0.cells, t_api_Entry⟩, ⟨b3, b1.cells, t_api_Entry⟩] n_cellplanemake_Spoilt [(.agg (List.toArray a0.cells)), (.int .i64 which2), (.int .i64 by3)] fun r5 w6 => ∃ x4 : G_api_Entry, r5 = (.agg (List.toArray x4.cells)) ∧ ∀ b7 : Nat, w6.heap.size ≤ b7 → CallL PP N w6 [⟨b2, a0.cells, t_api_Entry⟩, ⟨b3, b1.cells, t_api_Entry⟩, ⟨b7, x4.cells, t_api_Entry⟩] n_cellplanelaw06_awake [] fun r9 w10 => ∃ b8 : Bool, r9 = (.bool b8) ∧ IfB b8 (CallL PP N w10 [⟨b2, a0.cells, t_api_Entry⟩, ⟨b3, b1.cells, t_api_Entry⟩, ⟨b7, x4.cells, t_api_Entry⟩] n_entry_Bytes [(.agg (List.toArray a0.cells))] fun r12 w13 => ∃ l11 : Sl, r12 = (.slice l11.a l11.n l11.c) ∧ CallL PP N w13 [⟨b2, a0.cells, t_api_Entry⟩, ⟨b3, b1.cells, t_api_Entry⟩, ⟨b7, x4.cells, t_api_Entry⟩] n_entry_Bytes [(.agg (List.toArray b1.cells))] fun r15 w16 => ∃ l14 : Sl, r15 = (.slice l14.a l14.n l14.c) ∧ CallL PP N w16 [⟨b2, a0.cells, t_api_Entry⟩, ⟨b3, b1.cells, t_api_Entry⟩, ⟨b7, x4.cells, t_api_Entry⟩] n_cellplaneref01_SameBytes [(.slice l11.a l11.n l11.c), (.slice l14.a l14.n l14.c)] fun r18 w19 => ∃ b17 : Bool, r18 = (.bool b17) ∧ IfB (b17 == (G_api_Entry.eqb a0 b1)) (CallL PP N w19 [⟨b2, a0.cells, t_api_Entry⟩, ⟨b3, b1.cells, t_api_Entry⟩, ⟨b7, x4.cells, t_api_Entry⟩] n_entry_Bytes [(.agg (List.toArray a0.cells))] fun r21 w22 => ∃ l20 : Sl, r21 = (.slice l20.a l20.n l20.c) ∧ CallL PP N w22 [⟨b2, a0.cells, t_api_Entry⟩, ⟨b3, b1.cells, t_api_Entry⟩, ⟨b7, x4.cells, t_api_Entry⟩] n_entry_Bytes [(.agg (List.toArray x4.cells))] fun r24 w25 => ∃ l23 : Sl, r24 = (.slice l23.a l23.n l23.c) ∧ CallL PP N w25 [⟨b2, a0.cells, t_api_Entry⟩, ⟨b3, b1.cells, t_api_Entry⟩, ⟨b7, x4.cells, t_api_Entry⟩] n_cellplaneref01_SameBytes [(.slice l20.a l20.n l20.c), (.slice l23.a l23.n l23.c)] fun r27 w28 => ∃ b26 : Bool, r27 = (.bool b26) ∧ Reb N w28 [⟨b2, a0.cells, t_api_Entry⟩, ⟨b3, b1.cells, t_api_Entry⟩, ⟨b7, x4.cells, t_api_Entry⟩] (Q (.bool (b26 == (G_api_Entry.eqb a0 x4))))) (Reb N w19 [⟨b2, a0.cells, t_api_Entry⟩, ⟨b3, b1.cells, t_api_Entry⟩, ⟨b7, x4.cells, t_api_Entry⟩] (Q (.bool false)))) (Reb N w10 [⟨b2, a0.cells, t_api_Entry⟩, ⟨b3, b1.cells, t_api_Entry⟩, ⟨b7, x4.cells, t_api_Entry⟩] (Q (.bool false)))

theorem cellplanelaw06_EntryUnlike_snd (N : Nat) (a0 : G_api_Entry) (b1 : G_api_Entry) (which2 : Int) (by3 : Int) (Q : Value → World → Prop) (w : World) (h : F_cellplanelaw06_EntryUnlike N a0 b1 which2 by3 Q w) : Snd (cx N (fun d => memN d [4, 5, 9])) (bodyOf Go.Proofs.Tryd.f8) (retD (cx N (fun d => memN d [4, 5, 9])) Go.Proofs.Tryd.f8 Q) (entry 37 [(.agg (List.toArray a0.cells)), (.agg (List.toArray b1.cells)), (.int .i64 which2), (.int .i64 by3)]) w :=
  (den_sound okc mixed _ _ _ _ (mpr' (by kernel_rfl) h))

theorem cellplanelaw06_EntryUnlike_calls (a0 : G_api_Entry) (b1 : G_api_Entry) (which2 : Int) (by3 : Int) (Q : Value → World → Prop) (w : World) (h : F_cellplanelaw06_EntryUnlike w.heap.size a0 b1 which2 by3 Q w) : Calls PP n_cellplanelaw06_EntryUnlike [(.agg (List.toArray a0.cells)), (.agg (List.toArray b1.cells)), (.int .i64 which2), (.int .i64 by3)].toArray w fun e w' => ∃ v, e = .returned v ∧ Q v w' :=
  calls_of (C := cx w.heap.size (fun d => memN d [4, 5, 9])) (fn := Go.Proofs.Tryd.f8) (c := (bodyOf Go.Proofs.Tryd.f8)) (by kernel_rfl) (by kernel_rfl) (Nat.le_refl _) (cellplanelaw06_EntryUnlike_snd _ a0 b1 which2 by3 Q w h)

/-! ### cellplanelaw06_awake -/
def F_cellplanelaw06_awake (N : Nat)  (Q : Value → World → Prop) (w : World) : Prop :=
  CallL PP N w [] n_entry_Shape [(.agg (List.toArray (⟨14, 0, (-1), (-1), (-1), 0, 0, 0, 0⟩ : G_api_Entry).cells))] fun r2 w3 => ∃ b1 : Bool, r2 = (.bool b1) ∧ IfB b1 (CallL PP N w3 [] n_entry_Shape [(.agg (List.toArray (⟨0, 0, 0, 0, 0, 0, 0, 0, 0⟩ : G_api_Entry).cells))] fun r5 w6 => ∃ b4 : Bool, r5 = (.bool b4) ∧ IfB (!b4) (CallL PP N w6 [] n_entry_Name [(.int .i64 3)] fun r8 w9 => ∃ s7 : ByteArray, r8 = (.string s7) ∧ IfB (strEq s7 { data := #[99, 117, 116] }) (CallL PP N w9 [] n_entry_Name [(.int .i64 0)] fun r11 w12 => ∃ s10 : ByteArray, r11 = (.string s10) ∧ Reb N w12 [] (Q (.bool (strEq s10 { data := #[] })))) (Reb N w9 [] (Q (.bool false)))) (Reb N w6 [] (Q (.bool false)))) (Reb N w3 [] (Q (.bool false)))

theorem cellplanelaw06_awake_snd (N : Nat)  (Q : Value → World → Prop) (w : World) (h : F_cellplanelaw06_awake N  Q w) : Snd (cx N (fun d => memN d [])) (bodyOf Go.Proofs.Tryd.f10) (retD (cx N (fun d => memN d [])) Go.Proofs.Tryd.f10 Q) (entry 16 []) w :=
  (den_sound okc mixed _ _ _ _ (mpr' (by kernel_rfl) h))

theorem cellplanelaw06_awake_calls  (Q : Value → World → Prop) (w : World) (h : F_cellplanelaw06_awake w.heap.size  Q w) : Calls PP n_cellplanelaw06_awake [].toArray w fun e w' => ∃ v, e = .returned v ∧ Q v w' :=
  calls_of (C := cx w.heap.size (fun d => memN d [])) (fn := Go.Proofs.Tryd.f10) (c := (bodyOf Go.Proofs.Tryd.f10)) (by kernel_rfl) (by kernel_rfl) (Nat.le_refl _) (cellplanelaw06_awake_snd _  Q w h)

/-! ### cellplanemake_Spoilt -/
def F_cellplanemake_Spoilt (N : Nat) (e0 : G_api_Entry) (which1 : Int) (by2 : Int) (Q : Value → World → Prop) (w : World) : Prop :=
  ∀ b1 : Nat, w.heap.size ≤ b1 → ∀ b2 : Nat, w.heap.size ≤ b2 → CallL PP N w [⟨b1, e0.cells, t_api_Entry⟩, ⟨b2, (⟨0, 0, 0, 0, 0, 0, 0, 0, 0⟩ : G_api_Entry).cells, t_api_Entry⟩] n_cellplanemake_Mod [(.int .i64 which1), (.int .i64 9)] fun r4 w5 => ∃ n3 : Int, r4 = (.int .i64 n3) ∧ IfB (decide ((n3 : Int) = 0)) (Reb N w5 [⟨b1, ({ e0 with Kind := by2 } : G_api_Entry).cells, t_api_Entry⟩, ⟨b2, ({ e0 with Kind := by2 } : G_api_Entry).cells, t_api_Entry⟩] (Q (.agg (List.toArray ({ e0 with Kind := by2 } : G_api_Entry).cells)))) (IfB (decide ((n3 : Int) = 1)) (Reb N w5 [⟨b1, ({ e0 with Tick := by2 } : G_api_Entry).cells, t_api_Entry⟩, ⟨b2, ({ e0 with Tick := by2 } : G_api_Entry).cells, t_api_Entry⟩] (Q (.agg (List.toArray ({ e0 with Tick := by2 } : G_api_Entry).cells)))) (IfB (decide ((n3 : Int) = 2)) (Reb N w5 [⟨b1, ({ e0 with Tenant := by2 } : G_api_Entry).cells, t_api_Entry⟩, ⟨b2, ({ e0 with Tenant := by2 } : G_api_Entry).cells, t_api_Entry⟩] (Q (.agg (List.toArray ({ e0 with Tenant := by2 } : G_api_Entry).cells)))) (IfB (decide ((n3 : Int) = 3)) (Reb N w5 [⟨b1, ({ e0 with Cell := by2 } : G_api_Entry).cells, t_api_Entry⟩, ⟨b2, ({ e0 with Cell := by2 } : G_api_Entry).cells, t_api_Entry⟩] (Q (.agg (List.toArray ({ e0 with Cell := by2 } : G_api_Entry).cells)))) (IfB (decide ((n3 : Int) = 4)) (Reb N w5 [⟨b1, ({ e0 with Other := by2 } : G_api_Entry).cells, t_api_Entry⟩, ⟨b2, ({ e0 with Other := by2 } : G_api_Entry).cells, t_api_Entry⟩] (Q (.agg (List.toArray ({ e0 with Other := by2 } : G_api_Entry).cells)))) (IfB (decide ((n3 : Int) = 5)) (Reb N w5 [⟨b1, ({ e0 with Epoch := by2 } : G_api_Entry).cells, t_api_Entry⟩, ⟨b2, ({ e0 with Epoch := by2 } : G_api_Entry).cells, t_api_Entry⟩] (Q (.agg (List.toArray ({ e0 with Epoch := by2 } : G_api_Entry).cells)))) (IfB (decide ((n3 : Int) = 6)) (Reb N w5 [⟨b1, ({ e0 with From := by2 } : G_api_Entry).cells, t_api_Entry⟩, ⟨b2, ({ e0 with From := by2 } : G_api_Entry).cells, t_api_Entry⟩] (Q (.agg (List.toArray ({ e0 with From := by2 } : G_api_Entry).cells)))) (IfB (decide ((n3 : Int) = 7)) (Reb N w5 [⟨b1, ({ e0 with Until := by2 } : G_api_Entry).cells, t_api_Entry⟩, ⟨b2, ({ e0 with Until := by2 } : G_api_Entry).cells, t_api_Entry⟩] (Q (.agg (List.toArray ({ e0 with Until := by2 } : G_api_Entry).cells)))) (Reb N w5 [⟨b1, ({ e0 with N := by2 } : G_api_Entry).cells, t_api_Entry⟩, ⟨b2, ({ e0 with N := by2 } : G_api_Entry).cells, t_api_Entry⟩] (Q (.agg (List.toArray ({ e0 with N := by2 } : G_api_Entry).cells)))))))))))

theorem cellplanemake_Spoilt_snd (N : Nat) (e0 : G_api_Entry) (which1 : Int) (by2 : Int) (Q : Value → World → Prop) (w : World) (h : F_cellplanemake_Spoilt N e0 which1 by2 Q w) : Snd (cx N (fun d => memN d [3, 6])) (bodyOf Go.Proofs.Tryd.f12) (retD (cx N (fun d => memN d [3, 6])) Go.Proofs.Tryd.f12 Q) (entry 44 [(.agg (List.toArray e0.cells)), (.int .i64 which1), (.int .i64 by2)]) w :=
  (den_sound okc mixed _ _ _ _ (mpr' (by kernel_rfl) h))

theorem cellplanemake_Spoilt_calls (e0 : G_api_Entry) (which1 : Int) (by2 : Int) (Q : Value → World → Prop) (w : World) (h : F_cellplanemake_Spoilt w.heap.size e0 which1 by2 Q w) : Calls PP n_cellplanemake_Spoilt [(.agg (List.toArray e0.cells)), (.int .i64 which1), (.int .i64 by2)].toArray w fun e w' => ∃ v, e = .returned v ∧ Q v w' :=
  calls_of (C := cx w.heap.size (fun d => memN d [3, 6])) (fn := Go.Proofs.Tryd.f12) (c := (bodyOf Go.Proofs.Tryd.f12)) (by kernel_rfl) (by kernel_rfl) (Nat.le_refl _) (cellplanemake_Spoilt_snd _ e0 which1 by2 Q w h)

/-! ### cellplanemake_Between -/
def F_cellplanemake_Between (N : Nat) (v0 : Int) (low1 : Int) (high2 : Int) (Q : Value → World → Prop) (w : World) : Prop :=
  CallL PP N w [] n_cellplanemake_Mod [(.int .i64 v0), (.int .i64 (IntKind.i64.wrap ((IntKind.i64.wrap (high2 - low1)) + 1)))] fun r2 w3 => ∃ n1 : Int, r2 = (.int .i64 n1) ∧ Reb N w3 [] (Q (.int .i64 (IntKind.i64.wrap (low1 + n1))))

theorem cellplanemake_Between_snd (N : Nat) (v0 : Int) (low1 : Int) (high2 : Int) (Q : Value → World → Prop) (w : World) (h : F_cellplanemake_Between N v0 low1 high2 Q w) : Snd (cx N (fun d => memN d [])) (bodyOf Go.Proofs.Tryd.f13) (retD (cx N (fun d => memN d [])) Go.Proofs.Tryd.f13 Q) (entry 15 [(.int .i64 v0), (.int .i64 low1), (.int .i64 high2)]) w :=
  (den_sound okc mixed _ _ _ _ (mpr' (by kernel_rfl) h))

theorem cellplanemake_Between_calls (v0 : Int) (low1 : Int) (high2 : Int) (Q : Value → World → Prop) (w : World) (h : F_cellplanemake_Between w.heap.size v0 low1 high2 Q w) : Calls PP n_cellplanemake_Between [(.int .i64 v0), (.int .i64 low1), (.int .i64 high2)].toArray w fun e w' => ∃ v, e = .returned v ∧ Q v w' :=
  calls_of (C := cx w.heap.size (fun d => memN d [])) (fn := Go.Proofs.Tryd.f13) (c := (bodyOf Go.Proofs.Tryd.f13)) (by kernel_rfl) (by kernel_rfl) (Nat.le_refl _) (cellplanemake_Between_snd _ v0 low1 high2 Q w h)

/-! ### cellplanemake_Mod -/
def F_cellplanemake_Mod (N : Nat) (v0 : Int) (n1 : Int) (Q : Value → World → Prop) (w : World) : Prop :=
  (n1 : Int) ≠ 0 ∧ (n1 : Int) ≠ 0 ∧ Reb N w [] (Q (.int .i64 (Int.tmod (IntKind.i64.wrap ((Int.tmod v0 n1) + n1)) n1)))

theorem cellplanemake_Mod_snd (N : Nat) (v0 : Int) (n1 : Int) (Q : Value → World → Prop) (w : World) (h : F_cellplanemake_Mod N v0 n1 Q w) : Snd (cx N (fun d => memN d [])) (bodyOf Go.Proofs.Tryd.f26) (retD (cx N (fun d => memN d [])) Go.Proofs.Tryd.f26 Q) (entry 12 [(.int .i64 v0), (.int .i64 n1)]) w :=
  (den_sound okc mixed _ _ _ _ (mpr' (by kernel_rfl) h))

theorem cellplanemake_Mod_calls (v0 : Int) (n1 : Int) (Q : Value → World → Prop) (w : World) (h : F_cellplanemake_Mod w.heap.size v0 n1 Q w) : Calls PP n_cellplanemake_Mod [(.int .i64 v0), (.int .i64 n1)].toArray w fun e w' => ∃ v, e = .returned v ∧ Q v w' :=
  calls_of (C := cx w.heap.size (fun d => memN d [])) (fn := Go.Proofs.Tryd.f26) (c := (bodyOf Go.Proofs.Tryd.f26)) (by kernel_rfl) (by kernel_rfl) (Nat.le_refl _) (cellplanemake_Mod_snd _ v0 n1 Q w h)

/-! ### entry_Shape -/
def F_entry_Shape (N : Nat) (e0 : G_api_Entry) (Q : Value → World → Prop) (w : World) : Prop :=
  ∀ b1 : Nat, w.heap.size ≤ b1 → CallL PP N w [⟨b1, e0.cells, t_api_Entry⟩] n_entry_fits [(.agg (List.toArray e0.cells)), (.agg (List.toArray (⟨32, 16, 4, 30⟩ : G_entry_sizes).cells))] fun r3 w4 => ∃ b2 : Bool, r3 = (.bool b2) ∧ Reb N w4 [⟨b1, e0.cells, t_api_Entry⟩] (Q (.bool b2))

theorem entry_Shape_snd (N : Nat) (e0 : G_api_Entry) (Q : Value → World → Prop) (w : World) (h : F_entry_Shape N e0 Q w) : Snd (cx N (fun d => memN d [1])) (bodyOf Go.Proofs.Tryd.f14) (retD (cx N (fun d => memN d [1])) Go.Proofs.Tryd.f14 Q) (entry 6 [(.agg (List.toArray e0.cells))]) w :=
  (den_sound okc mixed _ _ _ _ (mpr' (by kernel_rfl) h))

theorem entry_Shape_calls (e0 : G_api_Entry) (Q : Value → World → Prop) (w : World) (h : F_entry_Shape w.heap.size e0 Q w) : Calls PP n_entry_Shape [(.agg (List.toArray e0.cells))].toArray w fun e w' => ∃ v, e = .returned v ∧ Q v w' :=
  calls_of (C := cx w.heap.size (fun d => memN d [1])) (fn := Go.Proofs.Tryd.f14) (c := (bodyOf Go.Proofs.Tryd.f14)) (by kernel_rfl) (by kernel_rfl) (Nat.le_refl _) (entry_Shape_snd _ e0 Q w h)

/-! ### cellplaneref06_Shape -/
def F_cellplaneref06_Shape (N : Nat) (e0 : G_api_Entry) (Q : Value → World → Prop) (w : World) : Prop :=
  ∀ b1 : Nat, w.heap.size ≤ b1 → CallL PP N w [⟨b1, e0.cells, t_api_Entry⟩] n_cellplaneref06_right [(.agg (List.toArray e0.cells)), (.int .i64 32), (.int .i64 16), (.int .i64 4), (.int .i64 30)] fun r3 w4 => ∃ b2 : Bool, r3 = (.bool b2) ∧ Reb N w4 [⟨b1, e0.cells, t_api_Entry⟩] (Q (.bool b2))

theorem cellplaneref06_Shape_snd (N : Nat) (e0 : G_api_Entry) (Q : Value → World → Prop) (w : World) (h : F_cellplaneref06_Shape N e0 Q w) : Snd (cx N (fun d => memN d [1])) (bodyOf Go.Proofs.Tryd.f15) (retD (cx N (fun d => memN d [1])) Go.Proofs.Tryd.f15 Q) (entry 5 [(.agg (List.toArray e0.cells))]) w :=
  (den_sound okc mixed _ _ _ _ (mpr' (by kernel_rfl) h))

theorem cellplaneref06_Shape_calls (e0 : G_api_Entry) (Q : Value → World → Prop) (w : World) (h : F_cellplaneref06_Shape w.heap.size e0 Q w) : Calls PP n_cellplaneref06_Shape [(.agg (List.toArray e0.cells))].toArray w fun e w' => ∃ v, e = .returned v ∧ Q v w' :=
  calls_of (C := cx w.heap.size (fun d => memN d [1])) (fn := Go.Proofs.Tryd.f15) (c := (bodyOf Go.Proofs.Tryd.f15)) (by kernel_rfl) (by kernel_rfl) (Nat.le_refl _) (cellplaneref06_Shape_snd _ e0 Q w h)

/-! ### entry_Name -/
def F_entry_Name (N : Nat) (kind0 : Int) (Q : Value → World → Prop) (w : World) : Prop :=
  CallL PP N w [] n_entry_index [(.int .i64 (IntKind.i64.wrap (kind0 - 1))), (.int .i64 16)] fun r2 w3 => ∃ b1 : Bool, r2 = (.bool b1) ∧ IfB (!b1) (Reb N w3 [] (Q (.string { data := #[] }))) ((0 : Int) ≤ (IntKind.i64.wrap (kind0 - 1)) ∧ ((IntKind.i64.wrap (kind0 - 1)) : Int) < (16 : Nat) ∧ ∃ s4 : ByteArray, At w3 ((⟨0, 0, none⟩ : Addr).add (((IntKind.i64.wrap (kind0 - 1)) : Int).toNat * 1)) [(.string s4)] ∧ NotIn (((⟨0, 0, none⟩ : Addr).add (((IntKind.i64.wrap (kind0 - 1)) : Int).toNat * 1)) : Addr).block [] ∧ Reb N w3 [] (Q (.string s4)))

theorem entry_Name_snd (N : Nat) (kind0 : Int) (Q : Value → World → Prop) (w : World) (h : F_entry_Name N kind0 Q w) : Snd (cx N (fun d => memN d [])) (bodyOf Go.Proofs.Tryd.f16) (retD (cx N (fun d => memN d [])) Go.Proofs.Tryd.f16 Q) (entry 11 [(.int .i64 kind0)]) w :=
  (den_sound okc mixed _ _ _ _ (mpr' (by kernel_rfl) h))

theorem entry_Name_calls (kind0 : Int) (Q : Value → World → Prop) (w : World) (h : F_entry_Name w.heap.size kind0 Q w) : Calls PP n_entry_Name [(.int .i64 kind0)].toArray w fun e w' => ∃ v, e = .returned v ∧ Q v w' :=
  calls_of (C := cx w.heap.size (fun d => memN d [])) (fn := Go.Proofs.Tryd.f16) (c := (bodyOf Go.Proofs.Tryd.f16)) (by kernel_rfl) (by kernel_rfl) (Nat.le_refl _) (entry_Name_snd _ kind0 Q w h)

/-! ### cellplaneref06_Name -/
def F_cellplaneref06_Name (N : Nat) (kind0 : Int) (Q : Value → World → Prop) (w : World) : Prop :=
  NewL N w [] [(.string { data := #[] }), (.string { data := #[112, 108, 97, 99, 101] }), (.string { data := #[103, 114, 97, 110, 116] }), (.string { data := #[99, 117, 116] }), (.string { data := #[115, 116, 97, 110, 100, 98, 121] }), (.string { data := #[114, 101, 97, 100, 121] }), (.string { data := #[109, 105, 103, 114, 97, 116, 101] }), (.string { data := #[97, 98, 97, 110, 100, 111, 110] }), (.string { data := #[115, 104, 101, 100] }), (.string { data := #[109, 111, 100, 101] }), (.string { data := #[119, 97, 110, 116] }), (.string { data := #[114, 117, 110, 115] }), (.string { data := #[112, 114, 111, 118, 101] }), (.string { data := #[101, 118, 97, 99, 117, 97, 116, 101] }), (.string { data := #[101, 120, 112, 97, 110, 100] }), (.string { data := #[99, 111, 110, 116, 114, 97, 99, 116] }), (.string { data := #[110, 111, 116, 101] })] t_string fun b1 w2 => IfB (decide ((kind0 : Int) < 1)) (Reb N w2 [] (Q (.string { data := #[] }))) (IfB (decide ((17 : Int) ≤ kind0)) (Reb N w2 [] (Q (.string { data := #[] }))) (0 ≤ kind0 ∧ (kind0 : Int) < (17 : Nat) ∧ ∃ s4 : ByteArray, At w2 ((⟨b1, 0, none⟩ : Addr).add ((kind0 : Int).toNat * 1)) [(.string s4)] ∧ NotIn (((⟨b1, 0, none⟩ : Addr).add ((kind0 : Int).toNat * 1)) : Addr).block [] ∧ Reb N w2 [] (Q (.string s4))))

theorem cellplaneref06_Name_snd (N : Nat) (kind0 : Int) (Q : Value → World → Prop) (w : World) (h : F_cellplaneref06_Name N kind0 Q w) : Snd (cx N (fun d => memN d [])) (bodyOf Go.Proofs.Tryd.f17) (retD (cx N (fun d => memN d [])) Go.Proofs.Tryd.f17 Q) (entry 17 [(.int .i64 kind0)]) w :=
  (den_sound okc mixed _ _ _ _ (mpr' (by kernel_rfl) h))

theorem cellplaneref06_Name_calls (kind0 : Int) (Q : Value → World → Prop) (w : World) (h : F_cellplaneref06_Name w.heap.size kind0 Q w) : Calls PP n_cellplaneref06_Name [(.int .i64 kind0)].toArray w fun e w' => ∃ v, e = .returned v ∧ Q v w' :=
  calls_of (C := cx w.heap.size (fun d => memN d [])) (fn := Go.Proofs.Tryd.f17) (c := (bodyOf Go.Proofs.Tryd.f17)) (by kernel_rfl) (by kernel_rfl) (Nat.le_refl _) (cellplaneref06_Name_snd _ kind0 Q w h)

/-! ### cellplaneref01_SameBytes -/
def F_cellplaneref01_SameBytes (N : Nat) (a0 : Sl) (b1 : Sl) (Q : Value → World → Prop) (w : World) : Prop :=
  RunL PP N w [] (convert t_sl_u8 t_string (.slice a0.a a0.n a0.c)) fun r2 w3 => ∃ s1 : ByteArray, r2 = (.string s1) ∧ RunL PP N w3 [] (convert t_sl_u8 t_string (.slice b1.a b1.n b1.c)) fun r5 w6 => ∃ s4 : ByteArray, r5 = (.string s4) ∧ Reb N w6 [] (Q (.bool (strEq s1 s4)))

theorem cellplaneref01_SameBytes_snd (N : Nat) (a0 : Sl) (b1 : Sl) (Q : Value → World → Prop) (w : World) (h : F_cellplaneref01_SameBytes N a0 b1 Q w) : Snd (cx N (fun d => memN d [])) (bodyOf Go.Proofs.Tryd.f20) (retD (cx N (fun d => memN d [])) Go.Proofs.Tryd.f20 Q) (entry 10 [(.slice a0.a a0.n a0.c), (.slice b1.a b1.n b1.c)]) w :=
  (den_sound okc mixed _ _ _ _ (mpr' (by kernel_rfl) h))

theorem cellplaneref01_SameBytes_calls (a0 : Sl) (b1 : Sl) (Q : Value → World → Prop) (w : World) (h : F_cellplaneref01_SameBytes w.heap.size a0 b1 Q w) : Calls PP n_cellplaneref01_SameBytes [(.slice a0.a a0.n a0.c), (.slice b1.a b1.n b1.c)].toArray w fun e w' => ∃ v, e = .returned v ∧ Q v w' :=
  calls_of (C := cx w.heap.size (fun d => memN d [])) (fn := Go.Proofs.Tryd.f20) (c := (bodyOf Go.Proofs.Tryd.f20)) (by kernel_rfl) (by kernel_rfl) (Nat.le_refl _) (cellplaneref01_SameBytes_snd _ a0 b1 Q w h)

/-! ### entry_Bytes -/
noncomputable def k_entry_Bytes_0 : Code := (cR (cR (cR (bodyOf Go.Proofs.Tryd.f21))))

def C_entry_Bytes_3 (N : Nat) (Q : Value → World → Prop) (out3' : Sl) (w : World) : Prop :=
  Reb N w [] (Q (.slice out3'.a out3'.n out3'.c))

theorem X_entry_Bytes_3 {N : Nat} {Q : Value → World → Prop} {out3' : Sl} {w : World} (h : C_entry_Bytes_3 N Q out3' w) : Snd (cx N (fun d => memN d [])) k_entry_Bytes_0 (retD (cx N (fun d => memN d [])) Go.Proofs.Tryd.f21 Q) (mkS 17 [.val 3] [(.slice out3'.a out3'.n out3'.c)] []) w :=
  (den_sound okc mixed _ _ _ _ (mpr' (by kernel_rfl) h))

noncomputable def H_entry_Bytes_3 (N : Nat) (Q : Value → World → Prop) : St → World → Prop := fun s w => grabK 17 [.val 3] s fun vs ls => match vs, ls with
  | [.slice out3'_a out3'_n out3'_c], [] => Reb N w s.L fun wa => C_entry_Bytes_3 N Q ⟨out3'_a, out3'_n, out3'_c⟩ wa
  | _, _ => False

theorem T_entry_Bytes_3 (N : Nat) (Q : Value → World → Prop) (s : St) (w : World) (h : H_entry_Bytes_3 N Q s w) : Snd (cx N (fun d => memN d [])) k_entry_Bytes_0 (retD (cx N (fun d => memN d [])) Go.Proofs.Tryd.f21 Q) s w := by
  refine Snd.grab h (fun vs ls hd hloc wa hl => ?_)
  split at hd
  · exact X_entry_Bytes_3 (hd wa hl)
  · exact hd.elim

noncomputable def k_entry_Bytes_1 : Code := (cR (cL (cR (cR (bodyOf Go.Proofs.Tryd.f21)))))

noncomputable def z_entry_Bytes_2 (N : Nat) (Q : Value → World → Prop) : Cont := (thenD (H_entry_Bytes_3 N Q) (retD (cx N (fun d => memN d [])) Go.Proofs.Tryd.f21 Q))

def D_entry_Bytes_5 (K : (G_ar9_p_i64) → (Sl × Int) → Prop) : List Value → List LB → Prop := fun vs ls => match vs, ls with
  | [.slice out3'_a out3'_n out3'_c, .agg v6'_r, .int .i64 v7'], [] => G_ar9_p_i64.decA v6'_r fun v6' => K v6' (⟨out3'_a, out3'_n, out3'_c⟩, v7')
  | _, _ => False

def B_entry_Bytes_5 (N : Nat) (K1 : (G_ar9_p_i64) → (Sl × Int) → World → Prop) (Q : Value → World → Prop) (out3' : Sl) (v6' : G_ar9_p_i64) (v7' : Int) (w : World) : Prop :=
  IfB (decide ((v7' : Int) < 9)) (∃ p1 : Option Addr, (∀ wr : World, (Instr.index t_ar9_p_i64 (.agg (List.toArray v6'.cells)) (.int .i64 v7')).run PP wr = .ok (.pointer p1) wr) ∧ NilL p1 fun q2 => ∃ n3 : Int, At w q2 [(.int .i64 n3)] ∧ NotIn (q2 : Addr).block [] ∧ CallL PP N w [] n_wire_Int [(.slice out3'.a out3'.n out3'.c), (.int .i64 n3)] fun r5 w6 => ∃ l4 : Sl, r5 = (.slice l4.a l4.n l4.c) ∧ Reb N w6 [] fun w7 => K1 v6' (l4, (IntKind.i64.wrap (v7' + 1))) w7) (Reb N w [] fun w8 => C_entry_Bytes_3 N Q out3' w8)

theorem X_entry_Bytes_5 {N : Nat} {K1 : (G_ar9_p_i64) → (Sl × Int) → World → Prop} {Q : Value → World → Prop} {out3' : Sl} {v6' : G_ar9_p_i64} {v7' : Int} {w : World} (h : B_entry_Bytes_5 N K1 Q out3' v6' v7' w) : Snd (cx N (fun d => memN d [])) (cL (cL k_entry_Bytes_1)) (thenD (HeadK N 17 [.val 3, .val 6, .val 7] D_entry_Bytes_5 K1) (inBlockD 0 (z_entry_Bytes_2 N Q))) (mkS 17 [.val 3, .val 6, .val 7] [(.slice out3'.a out3'.n out3'.c), (.agg (List.toArray v6'.cells)), (.int .i64 v7')] []) w :=
  (den_sound okc mixed _ _ _ _ (mpr' (by kernel_rfl) h))

def L_entry_Bytes_5 (N : Nat) (Q : Value → World → Prop) (K1 : (G_ar9_p_i64) → (Sl × Int) → World → Prop) (c : G_ar9_p_i64) (x : Sl × Int) (w : World) : Prop := match c, x with
  | v6', (out3', v7') => B_entry_Bytes_5 N K1 Q out3' v6' v7' w

theorem T_entry_Bytes_5 (N : Nat) (Q : Value → World → Prop) {s : St} {w : World} (h : HeadE N 17 [.val 3, .val 6, .val 7] D_entry_Bytes_5 (L_entry_Bytes_5 N Q) s w) : Snd (cx N (fun d => memN d [])) (cL k_entry_Bytes_1) (inBlockD 0 (z_entry_Bytes_2 N Q)) s w := by
  refine Snd.cast (c' := .loop (cL (cL k_entry_Bytes_1))) (by kernel_rfl) (Snd.loopC (fun (c : G_ar9_p_i64) (x : Sl × Int) => match c, x with | v6', (out3', v7') => ([(.slice out3'.a out3'.n out3'.c), (.agg (List.toArray v6'.cells)), (.int .i64 v7')], [])) ?_ ?_ h)
  · intro K vs ls h
    unfold D_entry_Bytes_5 at h
    split at h
    · obtain ⟨v6', rfl, h0⟩ := G_ar9_p_i64.decA_spec h
      exact ⟨_, _, rfl, h0⟩
    · exact h.elim
  · rintro K v6' ⟨out3', v7'⟩ w h
    exact X_entry_Bytes_5 h

def C_entry_Bytes_4 (N : Nat) (Q : Value → World → Prop) (out3' : Sl) (v6' : G_ar9_p_i64) (v7' : Int) (w : World) : Prop :=
  LoopC N w [] (v6' : G_ar9_p_i64) ((out3', v7') : Sl × Int) (L_entry_Bytes_5 N Q)

theorem X_entry_Bytes_4 {N : Nat} {Q : Value → World → Prop} {out3' : Sl} {v6' : G_ar9_p_i64} {v7' : Int} {w : World} (h : C_entry_Bytes_4 N Q out3' v6' v7' w) : Snd (cx N (fun d => memN d [])) k_entry_Bytes_1 (z_entry_Bytes_2 N Q) (mkS 17 [.val 3, .val 6, .val 7] [(.slice out3'.a out3'.n out3'.c), (.agg (List.toArray v6'.cells)), (.int .i64 v7')] []) w :=
  (Snd.cast (c' := .block 0 (cL k_entry_Bytes_1)) (by kernel_rfl) (Snd.block (T_entry_Bytes_5 N Q (mpr' (by kernel_rfl) h))))

noncomputable def H_entry_Bytes_4 (N : Nat) (Q : Value → World → Prop) : St → World → Prop := fun s w => grabK 17 [.val 3, .val 6, .val 7] s fun vs ls => match vs, ls with
  | [.slice out3'_a out3'_n out3'_c, .agg v6'_r, .int .i64 v7'], [] => G_ar9_p_i64.decA v6'_r fun v6' => Reb N w s.L fun wa => C_entry_Bytes_4 N Q ⟨out3'_a, out3'_n, out3'_c⟩ v6' v7' wa
  | _, _ => False

theorem T_entry_Bytes_4 (N : Nat) (Q : Value → World → Prop) (s : St) (w : World) (h : H_entry_Bytes_4 N Q s w) : Snd (cx N (fun d => memN d [])) k_entry_Bytes_1 (z_entry_Bytes_2 N Q) s w := by
  refine Snd.grab h (fun vs ls hd hloc wa hl => ?_)
  split at hd
  · obtain ⟨v6', rfl, hd0⟩ := G_ar9_p_i64.decA_spec hd
    exact X_entry_Bytes_4 (hd0 wa hl)
  · exact hd.elim

def C_entry_Bytes_2 (N : Nat) (Q : Value → World → Prop) (e1' : Addr) (out3' : Sl) (w : World) : Prop :=
  CallL PP N w [] n_entry_places [(.pointer (some e1'))] fun r10 w11 => ∃ x9 : G_ar9_p_i64, r10 = (.agg (List.toArray x9.cells)) ∧ Reb N w11 [] fun w12 => C_entry_Bytes_4 N Q out3' x9 0 w12

theorem X_entry_Bytes_2 {N : Nat} {Q : Value → World → Prop} {e1' : Addr} {out3' : Sl} {w : World} (h : C_entry_Bytes_2 N Q e1' out3' w) : Snd (cx N (fun d => memN d [])) (cR (cR (bodyOf Go.Proofs.Tryd.f21))) (retD (cx N (fun d => memN d [])) Go.Proofs.Tryd.f21 Q) (mkS 17 [.val 1, .val 3] [(.pointer (some e1')), (.slice out3'.a out3'.n out3'.c)] []) w :=
  (Snd.cast (c' := .seq (cL (cR (cR (bodyOf Go.Proofs.Tryd.f21)))) (cR (cR (cR (bodyOf Go.Proofs.Tryd.f21))))) (by kernel_rfl) (Snd.seq (H_entry_Bytes_3 N Q) (Snd.cast (c' := .seq (cL (cL (cR (cR (bodyOf Go.Proofs.Tryd.f21))))) (cR (cL (cR (cR (bodyOf Go.Proofs.Tryd.f21)))))) (by kernel_rfl) (Snd.seq (H_entry_Bytes_4 N Q) (den_sound okc mixed _ _ _ _ (mpr' (by kernel_rfl) h)) (fun s w h => T_entry_Bytes_4 N Q s w h))) (fun s w h => T_entry_Bytes_3 N Q s w h)))

noncomputable def H_entry_Bytes_2 (N : Nat) (Q : Value → World → Prop) : St → World → Prop := fun s w => grabK 17 [.val 1, .val 3] s fun vs ls => match vs, ls with
  | [.pointer (some e1'), .slice out3'_a out3'_n out3'_c], [] => Reb N w s.L fun wa => C_entry_Bytes_2 N Q e1' ⟨out3'_a, out3'_n, out3'_c⟩ wa
  | _, _ => False

theorem T_entry_Bytes_2 (N : Nat) (Q : Value → World → Prop) (s : St) (w : World) (h : H_entry_Bytes_2 N Q s w) : Snd (cx N (fun d => memN d [])) (cR (cR (bodyOf Go.Proofs.Tryd.f21))) (retD (cx N (fun d => memN d [])) Go.Proofs.Tryd.f21 Q) s w := by
  refine Snd.grab h (fun vs ls hd hloc wa hl => ?_)
  split at hd
  · exact X_entry_Bytes_2 (hd wa hl)
  · exact hd.elim

def C_entry_Bytes_1 (N : Nat) (Q : Value → World → Prop) (e1' : Addr) (w : World) : Prop :=
  Reb N w [] fun w13 => C_entry_Bytes_2 N Q e1' (⟨none, 0, 0⟩ : Sl) w13

theorem X_entry_Bytes_1 {N : Nat} {Q : Value → World → Prop} {e1' : Addr} {w : World} (h : C_entry_Bytes_1 N Q e1' w) : Snd (cx N (fun d => memN d [])) (cR (bodyOf Go.Proofs.Tryd.f21)) (retD (cx N (fun d => memN d [])) Go.Proofs.Tryd.f21 Q) (mkS 17 [.val 1] [(.pointer (some e1'))] []) w :=
  (Snd.cast (c' := .seq (cL (cR (bodyOf Go.Proofs.Tryd.f21))) (cR (cR (bodyOf Go.Proofs.Tryd.f21)))) (by kernel_rfl) (Snd.seq (H_entry_Bytes_2 N Q) (den_sound okc mixed _ _ _ _ (mpr' (by kernel_rfl) h)) (fun s w h => T_entry_Bytes_2 N Q s w h)))

noncomputable def H_entry_Bytes_1 (N : Nat) (Q : Value → World → Prop) : St → World → Prop := fun s w => grabK 17 [.val 1] s fun vs ls => match vs, ls with
  | [.pointer (some e1')], [] => Reb N w s.L fun wa => C_entry_Bytes_1 N Q e1' wa
  | _, _ => False

theorem T_entry_Bytes_1 (N : Nat) (Q : Value → World → Prop) (s : St) (w : World) (h : H_entry_Bytes_1 N Q s w) : Snd (cx N (fun d => memN d [])) (cR (bodyOf Go.Proofs.Tryd.f21)) (retD (cx N (fun d => memN d [])) Go.Proofs.Tryd.f21 Q) s w := by
  refine Snd.grab h (fun vs ls hd hloc wa hl => ?_)
  split at hd
  · exact X_entry_Bytes_1 (hd wa hl)
  · exact hd.elim

def F_entry_Bytes (N : Nat) (e0 : G_api_Entry) (Q : Value → World → Prop) (w : World) : Prop :=
  NewL N w [] e0.cells t_api_Entry fun b14 w15 => Reb N w15 [] fun w16 => C_entry_Bytes_1 N Q ⟨b14, 0, none⟩ w16

theorem entry_Bytes_snd (N : Nat) (e0 : G_api_Entry) (Q : Value → World → Prop) (w : World) (h : F_entry_Bytes N e0 Q w) : Snd (cx N (fun d => memN d [])) (bodyOf Go.Proofs.Tryd.f21) (retD (cx N (fun d => memN d [])) Go.Proofs.Tryd.f21 Q) (entry 17 [(.agg (List.toArray e0.cells))]) w :=
  (Snd.cast (c' := .seq (cL (bodyOf Go.Proofs.Tryd.f21)) (cR (bodyOf Go.Proofs.Tryd.f21))) (by kernel_rfl) (Snd.seq (H_entry_Bytes_1 N Q) (den_sound okc mixed _ _ _ _ (mpr' (by kernel_rfl) h)) (fun s w h => T_entry_Bytes_1 N Q s w h)))

theorem entry_Bytes_calls (e0 : G_api_Entry) (Q : Value → World → Prop) (w : World) (h : F_entry_Bytes w.heap.size e0 Q w) : Calls PP n_entry_Bytes [(.agg (List.toArray e0.cells))].toArray w fun e w' => ∃ v, e = .returned v ∧ Q v w' :=
  calls_of (C := cx w.heap.size (fun d => memN d [])) (fn := Go.Proofs.Tryd.f21) (c := (bodyOf Go.Proofs.Tryd.f21)) (by kernel_rfl) (by kernel_rfl) (Nat.le_refl _) (entry_Bytes_snd _ e0 Q w h)

/-! ### cellplaneref06_has -/
noncomputable def k_cellplaneref06_has_0 : Code := (cR (cR (cR (bodyOf Go.Proofs.Tryd.f59))))

def C_cellplaneref06_has_3 (N : Nat) (Q : Value → World → Prop) (w : World) : Prop :=
  Reb N w [] (Q (.bool false))

theorem X_cellplaneref06_has_3 {N : Nat} {Q : Value → World → Prop} {w : World} (h : C_cellplaneref06_has_3 N Q w) : Snd (cx N (fun d => memN d [])) k_cellplaneref06_has_0 (retD (cx N (fun d => memN d [])) Go.Proofs.Tryd.f59 Q) (mkS 20 [] [] []) w :=
  (den_sound okc mixed _ _ _ _ (mpr' (by kernel_rfl) h))

noncomputable def H_cellplaneref06_has_3 (N : Nat) (Q : Value → World → Prop) : St → World → Prop := fun s w => grabK 20 [] s fun vs ls => match vs, ls with
  | [], [] => Reb N w s.L fun wa => C_cellplaneref06_has_3 N Q wa
  | _, _ => False

theorem T_cellplaneref06_has_3 (N : Nat) (Q : Value → World → Prop) (s : St) (w : World) (h : H_cellplaneref06_has_3 N Q s w) : Snd (cx N (fun d => memN d [])) k_cellplaneref06_has_0 (retD (cx N (fun d => memN d [])) Go.Proofs.Tryd.f59 Q) s w := by
  refine Snd.grab h (fun vs ls hd hloc wa hl => ?_)
  split at hd
  · exact X_cellplaneref06_has_3 (hd wa hl)
  · exact hd.elim

noncomputable def k_cellplaneref06_has_1 : Code := (cR (cL (cR (cR (bodyOf Go.Proofs.Tryd.f59)))))

noncomputable def z_cellplaneref06_has_2 (N : Nat) (Q : Value → World → Prop) : Cont := (thenD (H_cellplaneref06_has_3 N Q) (retD (cx N (fun d => memN d [])) Go.Proofs.Tryd.f59 Q))

def D_cellplaneref06_has_5 (K : (Int × ByteArray) → (Int) → Prop) : List Value → List LB → Prop := fun vs ls => match vs, ls with
  | [.int .u8 what1', .string s5', .int .i64 i6'], [] => K (what1', s5') i6'
  | _, _ => False

def B_cellplaneref06_has_5 (N : Nat) (K1 : (Int × ByteArray) → (Int) → World → Prop) (Q : Value → World → Prop) (what1' : Int) (s5' : ByteArray) (i6' : Int) (w : World) : Prop :=
  IfB (decide ((i6' : Int) < (s5'.size : Int))) ((0 : Int) ≤ i6' ∧ (i6' : Int) < (s5').size ∧ IfB (decide (((bt s5' (i6' : Int).toNat) : Int) = what1')) (Reb N w [] (Q (.bool true))) (Reb N w [] fun w1 => K1 (what1', s5') (IntKind.i64.wrap (i6' + 1)) w1)) (Reb N w [] fun w2 => C_cellplaneref06_has_3 N Q w2)

theorem X_cellplaneref06_has_5 {N : Nat} {K1 : (Int × ByteArray) → (Int) → World → Prop} {Q : Value → World → Prop} {what1' : Int} {s5' : ByteArray} {i6' : Int} {w : World} (h : B_cellplaneref06_has_5 N K1 Q what1' s5' i6' w) : Snd (cx N (fun d => memN d [])) (cL (cL k_cellplaneref06_has_1)) (thenD (HeadK N 20 [.val 1, .val 5, .val 6] D_cellplaneref06_has_5 K1) (inBlockD 0 (z_cellplaneref06_has_2 N Q))) (mkS 20 [.val 1, .val 5, .val 6] [(.int .u8 what1'), (.string s5'), (.int .i64 i6')] []) w :=
  (den_sound okc mixed _ _ _ _ (mpr' (by kernel_rfl) h))

def L_cellplaneref06_has_5 (N : Nat) (Q : Value → World → Prop) (K1 : (Int × ByteArray) → (Int) → World → Prop) (c : Int × ByteArray) (x : Int) (w : World) : Prop := match c, x with
  | (what1', s5'), i6' => B_cellplaneref06_has_5 N K1 Q what1' s5' i6' w

theorem T_cellplaneref06_has_5 (N : Nat) (Q : Value → World → Prop) {s : St} {w : World} (h : HeadE N 20 [.val 1, .val 5, .val 6] D_cellplaneref06_has_5 (L_cellplaneref06_has_5 N Q) s w) : Snd (cx N (fun d => memN d [])) (cL k_cellplaneref06_has_1) (inBlockD 0 (z_cellplaneref06_has_2 N Q)) s w := by
  refine Snd.cast (c' := .loop (cL (cL k_cellplaneref06_has_1))) (by kernel_rfl) (Snd.loopC (fun (c : Int × ByteArray) (x : Int) => match c, x with | (what1', s5'), i6' => ([(.int .u8 what1'), (.string s5'), (.int .i64 i6')], [])) ?_ ?_ h)
  · intro K vs ls h
    unfold D_cellplaneref06_has_5 at h
    split at h
    · exact ⟨_, _, rfl, h⟩
    · exact h.elim
  · rintro K ⟨what1', s5'⟩ i6' w h
    exact X_cellplaneref06_has_5 h

def C_cellplaneref06_has_4 (N : Nat) (Q : Value → World → Prop) (what1' : Int) (s5' : ByteArray) (i6' : Int) (w : World) : Prop :=
  LoopC N w [] ((what1', s5') : Int × ByteArray) (i6' : Int) (L_cellplaneref06_has_5 N Q)

theorem X_cellplaneref06_has_4 {N : Nat} {Q : Value → World → Prop} {what1' : Int} {s5' : ByteArray} {i6' : Int} {w : World} (h : C_cellplaneref06_has_4 N Q what1' s5' i6' w) : Snd (cx N (fun d => memN d [])) k_cellplaneref06_has_1 (z_cellplaneref06_has_2 N Q) (mkS 20 [.val 1, .val 5, .val 6] [(.int .u8 what1'), (.string s5'), (.int .i64 i6')] []) w :=
  (Snd.cast (c' := .block 0 (cL k_cellplaneref06_has_1)) (by kernel_rfl) (Snd.block (T_cellplaneref06_has_5 N Q (mpr' (by kernel_rfl) h))))

noncomputable def H_cellplaneref06_has_4 (N : Nat) (Q : Value → World → Prop) : St → World → Prop := fun s w => grabK 20 [.val 1, .val 5, .val 6] s fun vs ls => match vs, ls with
  | [.int .u8 what1', .string s5', .int .i64 i6'], [] => Reb N w s.L fun wa => C_cellplaneref06_has_4 N Q what1' s5' i6' wa
  | _, _ => False

theorem T_cellplaneref06_has_4 (N : Nat) (Q : Value → World → Prop) (s : St) (w : World) (h : H_cellplaneref06_has_4 N Q s w) : Snd (cx N (fun d => memN d [])) k_cellplaneref06_has_1 (z_cellplaneref06_has_2 N Q) s w := by
  refine Snd.grab h (fun vs ls hd hloc wa hl => ?_)
  split at hd
  · exact X_cellplaneref06_has_4 (hd wa hl)
  · exact hd.elim

def C_cellplaneref06_has_2 (N : Nat) (Q : Value → World → Prop) (what1' : Int) (s5' : ByteArray) (w : World) : Prop :=
  Reb N w [] fun w3 => C_cellplaneref06_has_4 N Q what1' s5' 0 w3

theorem X_cellplaneref06_has_2 {N : Nat} {Q : Value → World → Prop} {what1' : Int} {s5' : ByteArray} {w : World} (h : C_cellplaneref06_has_2 N Q what1' s5' w) : Snd (cx N (fun d => memN d [])) (cR (cR (bodyOf Go.Proofs.Tryd.f59))) (retD (cx N (fun d => memN d [])) Go.Proofs.Tryd.f59 Q) (mkS 20 [.val 1, .val 5] [(.int .u8 what1'), (.string s5')] []) w :=
  (Snd.cast (c' := .seq (cL (cR (cR (bodyOf Go.Proofs.Tryd.f59)))) (cR (cR (cR (bodyOf Go.Proofs.Tryd.f59))))) (by kernel_rfl) (Snd.seq (H_cellplaneref06_has_3 N Q) (Snd.cast (c' := .seq (cL (cL (cR (cR (bodyOf Go.Proofs.Tryd.f59))))) (cR (cL (cR (cR (bodyOf Go.Proofs.Tryd.f59)))))) (by kernel_rfl) (Snd.seq (H_cellplaneref06_has_4 N Q) (den_sound okc mixed _ _ _ _ (mpr' (by kernel_rfl) h)) (fun s w h => T_cellplaneref06_has_4 N Q s w h))) (fun s w h => T_cellplaneref06_has_3 N Q s w h)))

noncomputable def H_cellplaneref06_has_2 (N : Nat) (Q : Value → World → Prop) : St → World → Prop := fun s w => grabK 20 [.val 1, .val 5] s fun vs ls => match vs, ls with
  | [.int .u8 what1', .string s5'], [] => Reb N w s.L fun wa => C_cellplaneref06_has_2 N Q what1' s5' wa
  | _, _ => False

theorem T_cellplaneref06_has_2 (N : Nat) (Q : Value → World → Prop) (s : St) (w : World) (h : H_cellplaneref06_has_2 N Q s w) : Snd (cx N (fun d => memN d [])) (cR (cR (bodyOf Go.Proofs.Tryd.f59))) (retD (cx N (fun d => memN d [])) Go.Proofs.Tryd.f59 Q) s w := by
  refine Snd.grab h (fun vs ls hd hloc wa hl => ?_)
  split at hd
  · exact X_cellplaneref06_has_2 (hd wa hl)
  · exact hd.elim

def C_cellplaneref06_has_1 (N : Nat) (Q : Value → World → Prop) (kind0' what1' : Int) (w : World) : Prop :=
  CallL PP N w [] n_cellplaneref06_uses [(.int .i64 kind0')] fun r5 w6 => ∃ s4 : ByteArray, r5 = (.string s4) ∧ Reb N w6 [] fun w7 => C_cellplaneref06_has_2 N Q what1' s4 w7

theorem X_cellplaneref06_has_1 {N : Nat} {Q : Value → World → Prop} {kind0' what1' : Int} {w : World} (h : C_cellplaneref06_has_1 N Q kind0' what1' w) : Snd (cx N (fun d => memN d [])) (cR (bodyOf Go.Proofs.Tryd.f59)) (retD (cx N (fun d => memN d [])) Go.Proofs.Tryd.f59 Q) (mkS 20 [.val 0, .val 1] [(.int .i64 kind0'), (.int .u8 what1')] []) w :=
  (Snd.cast (c' := .seq (cL (cR (bodyOf Go.Proofs.Tryd.f59))) (cR (cR (bodyOf Go.Proofs.Tryd.f59)))) (by kernel_rfl) (Snd.seq (H_cellplaneref06_has_2 N Q) (den_sound okc mixed _ _ _ _ (mpr' (by kernel_rfl) h)) (fun s w h => T_cellplaneref06_has_2 N Q s w h)))

noncomputable def H_cellplaneref06_has_1 (N : Nat) (Q : Value → World → Prop) : St → World → Prop := fun s w => grabK 20 [.val 0, .val 1] s fun vs ls => match vs, ls with
  | [.int .i64 kind0', .int .u8 what1'], [] => Reb N w s.L fun wa => C_cellplaneref06_has_1 N Q kind0' what1' wa
  | _, _ => False

theorem T_cellplaneref06_has_1 (N : Nat) (Q : Value → World → Prop) (s : St) (w : World) (h : H_cellplaneref06_has_1 N Q s w) : Snd (cx N (fun d => memN d [])) (cR (bodyOf Go.Proofs.Tryd.f59)) (retD (cx N (fun d => memN d [])) Go.Proofs.Tryd.f59 Q) s w := by
  refine Snd.grab h (fun vs ls hd hloc wa hl => ?_)
  split at hd
  · exact X_cellplaneref06_has_1 (hd wa hl)
  · exact hd.elim

def F_cellplaneref06_has (N : Nat) (kind0 : Int) (what1 : Int) (Q : Value → World → Prop) (w : World) : Prop :=
  Reb N w [] fun w8 => C_cellplaneref06_has_1 N Q kind0 what1 w8

theorem cellplaneref06_has_snd (N : Nat) (kind0 : Int) (what1 : Int) (Q : Value → World → Prop) (w : World) (h : F_cellplaneref06_has N kind0 what1 Q w) : Snd (cx N (fun d => memN d [])) (bodyOf Go.Proofs.Tryd.f59) (retD (cx N (fun d => memN d [])) Go.Proofs.Tryd.f59 Q) (entry 20 [(.int .i64 kind0), (.int .u8 what1)]) w :=
  (Snd.cast (c' := .seq (cL (bodyOf Go.Proofs.Tryd.f59)) (cR (bodyOf Go.Proofs.Tryd.f59))) (by kernel_rfl) (Snd.seq (H_cellplaneref06_has_1 N Q) (den_sound okc mixed _ _ _ _ (mpr' (by kernel_rfl) h)) (fun s w h => T_cellplaneref06_has_1 N Q s w h)))

theorem cellplaneref06_has_calls (kind0 : Int) (what1 : Int) (Q : Value → World → Prop) (w : World) (h : F_cellplaneref06_has w.heap.size kind0 what1 Q w) : Calls PP n_cellplaneref06_has [(.int .i64 kind0), (.int .u8 what1)].toArray w fun e w' => ∃ v, e = .returned v ∧ Q v w' :=
  calls_of (C := cx w.heap.size (fun d => memN d [])) (fn := Go.Proofs.Tryd.f59) (c := (bodyOf Go.Proofs.Tryd.f59)) (by kernel_rfl) (by kernel_rfl) (Nat.le_refl _) (cellplaneref06_has_snd _ kind0 what1 Q w h)

/-! ### cellplaneref06_uses -/
def F_cellplaneref06_uses (N : Nat) (kind0 : Int) (Q : Value → World → Prop) (w : World) : Prop :=
  NewL N w [] [(.string { data := #[] }), (.string { data := #[116, 99, 111] }), (.string { data := #[116, 99, 101, 119, 118] }), (.string { data := #[116, 101] }), (.string { data := #[116, 67] }), (.string { data := #[116, 99] }), (.string { data := #[116, 99] }), (.string { data := #[116] }), (.string { data := #[116, 98] }), (.string { data := #[99, 109] }), (.string { data := #[99, 118] }), (.string { data := #[99, 118] }), (.string { data := #[118] }), (.string { data := #[114, 98] }), (.string { data := #[] }), (.string { data := #[] }), (.string { data := #[110] })] t_string fun b1 w2 => IfB (decide ((kind0 : Int) < 1)) (Reb N w2 [] (Q (.string { data := #[63] }))) (IfB (decide ((17 : Int) ≤ kind0)) (Reb N w2 [] (Q (.string { data := #[63] }))) (0 ≤ kind0 ∧ (kind0 : Int) < (17 : Nat) ∧ ∃ s4 : ByteArray, At w2 ((⟨b1, 0, none⟩ : Addr).add ((kind0 : Int).toNat * 1)) [(.string s4)] ∧ NotIn (((⟨b1, 0, none⟩ : Addr).add ((kind0 : Int).toNat * 1)) : Addr).block [] ∧ Reb N w2 [] (Q (.string s4))))

theorem cellplaneref06_uses_snd (N : Nat) (kind0 : Int) (Q : Value → World → Prop) (w : World) (h : F_cellplaneref06_uses N kind0 Q w) : Snd (cx N (fun d => memN d [])) (bodyOf Go.Proofs.Tryd.f75) (retD (cx N (fun d => memN d [])) Go.Proofs.Tryd.f75 Q) (entry 17 [(.int .i64 kind0)]) w :=
  (den_sound okc mixed _ _ _ _ (mpr' (by kernel_rfl) h))

theorem cellplaneref06_uses_calls (kind0 : Int) (Q : Value → World → Prop) (w : World) (h : F_cellplaneref06_uses w.heap.size kind0 Q w) : Calls PP n_cellplaneref06_uses [(.int .i64 kind0)].toArray w fun e w' => ∃ v, e = .returned v ∧ Q v w' :=
  calls_of (C := cx w.heap.size (fun d => memN d [])) (fn := Go.Proofs.Tryd.f75) (c := (bodyOf Go.Proofs.Tryd.f75)) (by kernel_rfl) (by kernel_rfl) (Nat.le_refl _) (cellplaneref06_uses_snd _ kind0 Q w h)

/-! ### cellplaneref06_right -/
def F_cellplaneref06_right (N : Nat) (e0 : G_api_Entry) (tenants1 : Int) (cells2 : Int) (regions3 : Int) (versions4 : Int) (Q : Value → World → Prop) (w : World) : Prop :=
  ∀ b1 : Nat, w.heap.size ≤ b1 → CallL PP N w [⟨b1, e0.cells, t_api_Entry⟩] n_cellplaneref06_in [(.int .i64 e0.Kind), (.int .i64 1), (.int .i64 16)] fun r3 w4 => ∃ b2 : Bool, r3 = (.bool b2) ∧ IfB b2 (CallL PP N w4 [⟨b1, e0.cells, t_api_Entry⟩] n_cellplaneref06_in [(.int .i64 e0.Tick), (.int .i64 0), (.int .i64 1073741824)] fun r6 w7 => ∃ b5 : Bool, r6 = (.bool b5) ∧ IfB b5 (CallL PP N w7 [⟨b1, e0.cells, t_api_Entry⟩] n_cellplaneref06_places [(.agg (List.toArray e0.cells)), (.int .i64 tenants1), (.int .i64 cells2), (.int .i64 regions3)] fun r9 w10 => ∃ b8 : Bool, r9 = (.bool b8) ∧ IfB b8 (CallL PP N w10 [⟨b1, e0.cells, t_api_Entry⟩] n_cellplaneref06_numbers [(.agg (List.toArray e0.cells)), (.int .i64 versions4)] fun r12 w13 => ∃ b11 : Bool, r12 = (.bool b11) ∧ Reb N w13 [⟨b1, e0.cells, t_api_Entry⟩] (Q (.bool b11))) (Reb N w10 [⟨b1, e0.cells, t_api_Entry⟩] (Q (.bool false)))) (Reb N w7 [⟨b1, e0.cells, t_api_Entry⟩] (Q (.bool false)))) (Reb N w4 [⟨b1, e0.cells, t_api_Entry⟩] (Q (.bool false)))

theorem cellplaneref06_right_snd (N : Nat) (e0 : G_api_Entry) (tenants1 : Int) (cells2 : Int) (regions3 : Int) (versions4 : Int) (Q : Value → World → Prop) (w : World) (h : F_cellplaneref06_right N e0 tenants1 cells2 regions3 versions4 Q w) : Snd (cx N (fun d => memN d [5])) (bodyOf Go.Proofs.Tryd.f28) (retD (cx N (fun d => memN d [5])) Go.Proofs.Tryd.f28 Q) (entry 31 [(.agg (List.toArray e0.cells)), (.int .i64 tenants1), (.int .i64 cells2), (.int .i64 regions3), (.int .i64 versions4)]) w :=
  (den_sound okc mixed _ _ _ _ (mpr' (by kernel_rfl) h))

theorem cellplaneref06_right_calls (e0 : G_api_Entry) (tenants1 : Int) (cells2 : Int) (regions3 : Int) (versions4 : Int) (Q : Value → World → Prop) (w : World) (h : F_cellplaneref06_right w.heap.size e0 tenants1 cells2 regions3 versions4 Q w) : Calls PP n_cellplaneref06_right [(.agg (List.toArray e0.cells)), (.int .i64 tenants1), (.int .i64 cells2), (.int .i64 regions3), (.int .i64 versions4)].toArray w fun e w' => ∃ v, e = .returned v ∧ Q v w' :=
  calls_of (C := cx w.heap.size (fun d => memN d [5])) (fn := Go.Proofs.Tryd.f28) (c := (bodyOf Go.Proofs.Tryd.f28)) (by kernel_rfl) (by kernel_rfl) (Nat.le_refl _) (cellplaneref06_right_snd _ e0 tenants1 cells2 regions3 versions4 Q w h)
end Go.Sh
