/- What these functions do, told by computation: a formula for each, and that its calls do what the formula says.
   Conditions: none. -/
import Derived.Test.YtcligpfkmnlhnaaBase
namespace Go.Sh
open Go
set_option linter.unusedVariables false
set_option maxRecDepth 100000

/-! ### cellplaneref28_Copy_Apply -/
noncomputable def k_cellplaneref28_Copy_Apply_0 : Code := (cR (cR (cR (bodyOf Go.Proofs.Try.f38))))

def C_cellplaneref28_Copy_Apply_5 (N : Nat) (Q : Value → World → Prop) (c0' : Option Addr) (blk3' : Nat) (x3c' : G_api_Change) (Ty3' : Nat) (t5' s6' : Addr) (q7' : Option Addr) (w : World) : Prop :=
  NilL c0' fun q1 => StL w [⟨blk3', x3c'.cells, Ty3'⟩] (addA q1 5) [(.pointer (some t5'))] fun w2 => NilL c0' fun q3 => StL w2 [⟨blk3', x3c'.cells, Ty3'⟩] (addA q3 3) [(.pointer (some s6'))] fun w4 => NilL c0' fun q5 => StL w4 [⟨blk3', x3c'.cells, Ty3'⟩] (addA q5 4) [(.pointer q7')] fun w6 => NilL c0' fun q7 => ∃ l8 : Sl, At w6 (addA q7 2) [(.slice l8.a l8.n l8.c)] ∧ NotIn ((addA q7 2) : Addr).block [⟨blk3', x3c'.cells, Ty3'⟩] ∧ (NewL N w6 [⟨blk3', x3c'.cells, Ty3'⟩] ([]) t_api_Change fun b9 w10 => (RunL PP N w10 [⟨blk3', x3c'.cells, Ty3'⟩] (Builtin.append_ #[t_sl_api_Change, t_sl_api_Change] t_sl_api_Change #[(.slice (some ⟨b9, 0, none⟩) 0 0), (.slice l8.a l8.n l8.c)]) fun r12 w13 => ∃ l11 : Sl, r12 = (.slice l11.a l11.n l11.c) ∧ NewL N w13 [⟨blk3', x3c'.cells, Ty3'⟩] x3c'.cells t_api_Change fun b14 w15 => RunL PP N w15 [⟨blk3', x3c'.cells, Ty3'⟩] (Builtin.append_ #[t_sl_api_Change, t_sl_api_Change] t_sl_api_Change #[(.slice l11.a l11.n l11.c), (.slice (some ⟨b14, 0, none⟩) 1 1)]) fun r17 w18 => ∃ l16 : Sl, r17 = (.slice l16.a l16.n l16.c) ∧ NilL c0' fun q19 => StL w18 [⟨blk3', x3c'.cells, Ty3'⟩] (addA q19 2) [(.slice l16.a l16.n l16.c)] fun w20 => Reb N w20 [⟨blk3', x3c'.cells, Ty3'⟩] (Q (.int .i64 0))) ∧ (NewL N w10 [⟨blk3', x3c'.cells, Ty3'⟩] x3c'.cells t_api_Change fun b21 w22 => RunL PP N w22 [⟨blk3', x3c'.cells, Ty3'⟩] (Builtin.append_ #[t_sl_api_Change, t_sl_api_Change] t_sl_api_Change #[(.slice (some ⟨b9, 0, none⟩) 0 0), (.slice l8.a l8.n l8.c)]) fun r24 w25 => ∃ l23 : Sl, r24 = (.slice l23.a l23.n l23.c) ∧ RunL PP N w25 [⟨blk3', x3c'.cells, Ty3'⟩] (Builtin.append_ #[t_sl_api_Change, t_sl_api_Change] t_sl_api_Change #[(.slice l23.a l23.n l23.c), (.slice (some ⟨b21, 0, none⟩) 1 1)]) fun r27 w28 => ∃ l26 : Sl, r27 = (.slice l26.a l26.n l26.c) ∧ NilL c0' fun q29 => StL w28 [⟨blk3', x3c'.cells, Ty3'⟩] (addA q29 2) [(.slice l26.a l26.n l26.c)] fun w30 => Reb N w30 [⟨blk3', x3c'.cells, Ty3'⟩] (Q (.int .i64 0)))) ∧ (NewL N w6 [⟨blk3', x3c'.cells, Ty3'⟩] x3c'.cells t_api_Change fun b31 w32 => NewL N w32 [⟨blk3', x3c'.cells, Ty3'⟩] ([]) t_api_Change fun b33 w34 => RunL PP N w34 [⟨blk3', x3c'.cells, Ty3'⟩] (Builtin.append_ #[t_sl_api_Change, t_sl_api_Change] t_sl_api_Change #[(.slice (some ⟨b33, 0, none⟩) 0 0), (.slice l8.a l8.n l8.c)]) fun r36 w37 => ∃ l35 : Sl, r36 = (.slice l35.a l35.n l35.c) ∧ RunL PP N w37 [⟨blk3', x3c'.cells, Ty3'⟩] (Builtin.append_ #[t_sl_api_Change, t_sl_api_Change] t_sl_api_Change #[(.slice l35.a l35.n l35.c), (.slice (some ⟨b31, 0, none⟩) 1 1)]) fun r39 w40 => ∃ l38 : Sl, r39 = (.slice l38.a l38.n l38.c) ∧ NilL c0' fun q41 => StL w40 [⟨blk3', x3c'.cells, Ty3'⟩] (addA q41 2) [(.slice l38.a l38.n l38.c)] fun w42 => Reb N w42 [⟨blk3', x3c'.cells, Ty3'⟩] (Q (.int .i64 0)))

theorem X_cellplaneref28_Copy_Apply_5 {N : Nat} {Q : Value → World → Prop} {c0' : Option Addr} {blk3' : Nat} {x3c' : G_api_Change} {Ty3' : Nat} {t5' s6' : Addr} {q7' : Option Addr} {w : World} (h : C_cellplaneref28_Copy_Apply_5 N Q c0' blk3' x3c' Ty3' t5' s6' q7' w) : Snd (cx N (fun d => memN d [3])) (cR (cR k_cellplaneref28_Copy_Apply_0)) (retD (cx N (fun d => memN d [3])) Go.Proofs.Try.f38 Q) (mkS 90 [.val 0, .loc 3, .val 5, .val 6, .val 7] [(.pointer c0'), (.pointer (some t5')), (.pointer (some s6')), (.pointer q7')] [⟨blk3', x3c'.cells, Ty3'⟩]) w :=
  (den_sound okc mixed _ _ _ _ (mpr' (by kernel_rfl) h))

noncomputable def H_cellplaneref28_Copy_Apply_5 (N : Nat) (Q : Value → World → Prop) : St → World → Prop := fun s w => grabK 90 [.val 0, .loc 3, .val 5, .val 6, .val 7] s fun vs ls => match vs, ls with
  | [.pointer c0', .pointer (some t5'), .pointer (some s6'), .pointer q7'], [⟨blk3', x3c'_r, Ty3'⟩] => G_api_Change.decL x3c'_r fun x3c' => Reb N w s.L fun wa => C_cellplaneref28_Copy_Apply_5 N Q c0' blk3' x3c' Ty3' t5' s6' q7' wa
  | _, _ => False

theorem T_cellplaneref28_Copy_Apply_5 (N : Nat) (Q : Value → World → Prop) (s : St) (w : World) (h : H_cellplaneref28_Copy_Apply_5 N Q s w) : Snd (cx N (fun d => memN d [3])) (cR (cR k_cellplaneref28_Copy_Apply_0)) (retD (cx N (fun d => memN d [3])) Go.Proofs.Try.f38 Q) s w := by
  refine Snd.grab h (fun vs ls hd hloc wa hl => ?_)
  split at hd
  · obtain ⟨x3c', rfl, hd0⟩ := G_api_Change.decL_spec hd
    exact X_cellplaneref28_Copy_Apply_5 (hd0 wa hl)
  · exact hd.elim

noncomputable def k_cellplaneref28_Copy_Apply_1 : Code := (cR (cL (cR k_cellplaneref28_Copy_Apply_0)))

noncomputable def z_cellplaneref28_Copy_Apply_2 (N : Nat) (Q : Value → World → Prop) : Cont := (thenD (H_cellplaneref28_Copy_Apply_5 N Q) (retD (cx N (fun d => memN d [3])) Go.Proofs.Try.f38 Q))

def D_cellplaneref28_Copy_Apply_7 (K : ((Option Addr) × Nat × G_api_Change × Nat × Addr × Addr × (Option Addr) × Sl × Int) → (Int) → Prop) : List Value → List LB → Prop := fun vs ls => match vs, ls with
  | [.pointer c0', .pointer (some t5'), .pointer (some s6'), .pointer q7', .slice v57'_a v57'_n v57'_c, .int .i64 v58', .int .i64 v59'], [⟨blk3', x3c'_r, Ty3'⟩] => G_api_Change.decL x3c'_r fun x3c' => K (c0', blk3', x3c', Ty3', t5', s6', q7', ⟨v57'_a, v57'_n, v57'_c⟩, v58') v59'
  | _, _ => False

def B_cellplaneref28_Copy_Apply_7 (N : Nat) (K1 : ((Option Addr) × Nat × G_api_Change × Nat × Addr × Addr × (Option Addr) × Sl × Int) → (Int) → World → Prop) (Q : Value → World → Prop) (c0' : Option Addr) (blk3' : Nat) (x3c' : G_api_Change) (Ty3' : Nat) (t5' s6' : Addr) (q7' : Option Addr) (v57' : Sl) (v58' v59' : Int) (w : World) : Prop :=
  IfB (decide ((v59' : Int) < v58')) (IdxL v57'.a v57'.n v59' fun q43 => ∃ n44 : Int, At w (q43.add ((v59' : Int).toNat * 1)) [(.int .i64 n44)] ∧ NotIn ((q43.add ((v59' : Int).toNat * 1)) : Addr).block [⟨blk3', x3c'.cells, Ty3'⟩] ∧ IfB (!decide ((n44 : Int) = 0)) (Reb N w [⟨blk3', x3c'.cells, Ty3'⟩] (Q (.int .i64 n44))) (Reb N w [⟨blk3', x3c'.cells, Ty3'⟩] fun w45 => K1 (c0', blk3', x3c', Ty3', t5', s6', q7', v57', v58') (IntKind.i64.wrap (v59' + 1)) w45)) (Reb N w [⟨blk3', x3c'.cells, Ty3'⟩] fun w46 => C_cellplaneref28_Copy_Apply_5 N Q c0' blk3' x3c' Ty3' t5' s6' q7' w46)

theorem X_cellplaneref28_Copy_Apply_7 {N : Nat} {K1 : ((Option Addr) × Nat × G_api_Change × Nat × Addr × Addr × (Option Addr) × Sl × Int) → (Int) → World → Prop} {Q : Value → World → Prop} {c0' : Option Addr} {blk3' : Nat} {x3c' : G_api_Change} {Ty3' : Nat} {t5' s6' : Addr} {q7' : Option Addr} {v57' : Sl} {v58' v59' : Int} {w : World} (h : B_cellplaneref28_Copy_Apply_7 N K1 Q c0' blk3' x3c' Ty3' t5' s6' q7' v57' v58' v59' w) : Snd (cx N (fun d => memN d [3])) (cL (cL k_cellplaneref28_Copy_Apply_1)) (thenD (HeadK N 90 [.val 0, .loc 3, .val 5, .val 6, .val 7, .val 57, .val 58, .val 59] D_cellplaneref28_Copy_Apply_7 K1) (inBlockD 0 (z_cellplaneref28_Copy_Apply_2 N Q))) (mkS 90 [.val 0, .loc 3, .val 5, .val 6, .val 7, .val 57, .val 58, .val 59] [(.pointer c0'), (.pointer (some t5')), (.pointer (some s6')), (.pointer q7'), (.slice v57'.a v57'.n v57'.c), (.int .i64 v58'), (.int .i64 v59')] [⟨blk3', x3c'.cells, Ty3'⟩]) w :=
  (den_sound okc mixed _ _ _ _ (mpr' (by kernel_rfl) h))

def L_cellplaneref28_Copy_Apply_7 (N : Nat) (Q : Value → World → Prop) (K1 : ((Option Addr) × Nat × G_api_Change × Nat × Addr × Addr × (Option Addr) × Sl × Int) → (Int) → World → Prop) (c : (Option Addr) × Nat × G_api_Change × Nat × Addr × Addr × (Option Addr) × Sl × Int) (x : Int) (w : World) : Prop := match c, x with
  | (c0', blk3', x3c', Ty3', t5', s6', q7', v57', v58'), v59' => B_cellplaneref28_Copy_Apply_7 N K1 Q c0' blk3' x3c' Ty3' t5' s6' q7' v57' v58' v59' w

theorem T_cellplaneref28_Copy_Apply_7 (N : Nat) (Q : Value → World → Prop) {s : St} {w : World} (h : HeadE N 90 [.val 0, .loc 3, .val 5, .val 6, .val 7, .val 57, .val 58, .val 59] D_cellplaneref28_Copy_Apply_7 (L_cellplaneref28_Copy_Apply_7 N Q) s w) : Snd (cx N (fun d => memN d [3])) (cL k_cellplaneref28_Copy_Apply_1) (inBlockD 0 (z_cellplaneref28_Copy_Apply_2 N Q)) s w := by
  refine Snd.cast (c' := .loop (cL (cL k_cellplaneref28_Copy_Apply_1))) (by kernel_rfl) (Snd.loopC (fun (c : (Option Addr) × Nat × G_api_Change × Nat × Addr × Addr × (Option Addr) × Sl × Int) (x : Int) => match c, x with | (c0', blk3', x3c', Ty3', t5', s6', q7', v57', v58'), v59' => ([(.pointer c0'), (.pointer (some t5')), (.pointer (some s6')), (.pointer q7'), (.slice v57'.a v57'.n v57'.c), (.int .i64 v58'), (.int .i64 v59')], [⟨blk3', x3c'.cells, Ty3'⟩])) ?_ ?_ h)
  · intro K vs ls h
    unfold D_cellplaneref28_Copy_Apply_7 at h
    split at h
    · obtain ⟨x3c', rfl, h0⟩ := G_api_Change.decL_spec h
      exact ⟨_, _, rfl, h0⟩
    · exact h.elim
  · rintro K ⟨c0', blk3', x3c', Ty3', t5', s6', q7', v57', v58'⟩ v59' w h
    exact X_cellplaneref28_Copy_Apply_7 h

def C_cellplaneref28_Copy_Apply_6 (N : Nat) (Q : Value → World → Prop) (c0' : Option Addr) (blk3' : Nat) (x3c' : G_api_Change) (Ty3' : Nat) (t5' s6' : Addr) (q7' : Option Addr) (v57' : Sl) (v58' v59' : Int) (w : World) : Prop :=
  LoopC N w [⟨blk3', x3c'.cells, Ty3'⟩] ((c0', blk3', x3c', Ty3', t5', s6', q7', v57', v58') : (Option Addr) × Nat × G_api_Change × Nat × Addr × Addr × (Option Addr) × Sl × Int) (v59' : Int) (L_cellplaneref28_Copy_Apply_7 N Q)

theorem X_cellplaneref28_Copy_Apply_6 {N : Nat} {Q : Value → World → Prop} {c0' : Option Addr} {blk3' : Nat} {x3c' : G_api_Change} {Ty3' : Nat} {t5' s6' : Addr} {q7' : Option Addr} {v57' : Sl} {v58' v59' : Int} {w : World} (h : C_cellplaneref28_Copy_Apply_6 N Q c0' blk3' x3c' Ty3' t5' s6' q7' v57' v58' v59' w) : Snd (cx N (fun d => memN d [3])) k_cellplaneref28_Copy_Apply_1 (z_cellplaneref28_Copy_Apply_2 N Q) (mkS 90 [.val 0, .loc 3, .val 5, .val 6, .val 7, .val 57, .val 58, .val 59] [(.pointer c0'), (.pointer (some t5')), (.pointer (some s6')), (.pointer q7'), (.slice v57'.a v57'.n v57'.c), (.int .i64 v58'), (.int .i64 v59')] [⟨blk3', x3c'.cells, Ty3'⟩]) w :=
  (Snd.cast (c' := .block 0 (cL k_cellplaneref28_Copy_Apply_1)) (by kernel_rfl) (Snd.block (T_cellplaneref28_Copy_Apply_7 N Q (mpr' (by kernel_rfl) h))))

noncomputable def H_cellplaneref28_Copy_Apply_6 (N : Nat) (Q : Value → World → Prop) : St → World → Prop := fun s w => grabK 90 [.val 0, .loc 3, .val 5, .val 6, .val 7, .val 57, .val 58, .val 59] s fun vs ls => match vs, ls with
  | [.pointer c0', .pointer (some t5'), .pointer (some s6'), .pointer q7', .slice v57'_a v57'_n v57'_c, .int .i64 v58', .int .i64 v59'], [⟨blk3', x3c'_r, Ty3'⟩] => G_api_Change.decL x3c'_r fun x3c' => Reb N w s.L fun wa => C_cellplaneref28_Copy_Apply_6 N Q c0' blk3' x3c' Ty3' t5' s6' q7' ⟨v57'_a, v57'_n, v57'_c⟩ v58' v59' wa
  | _, _ => False

theorem T_cellplaneref28_Copy_Apply_6 (N : Nat) (Q : Value → World → Prop) (s : St) (w : World) (h : H_cellplaneref28_Copy_Apply_6 N Q s w) : Snd (cx N (fun d => memN d [3])) k_cellplaneref28_Copy_Apply_1 (z_cellplaneref28_Copy_Apply_2 N Q) s w := by
  refine Snd.grab h (fun vs ls hd hloc wa hl => ?_)
  split at hd
  · obtain ⟨x3c', rfl, hd0⟩ := G_api_Change.decL_spec hd
    exact X_cellplaneref28_Copy_Apply_6 (hd0 wa hl)
  · exact hd.elim

def C_cellplaneref28_Copy_Apply_4 (N : Nat) (Q : Value → World → Prop) (c0' : Option Addr) (blk3' : Nat) (x3c' : G_api_Change) (Ty3' : Nat) (t5' s6' : Addr) (q7' : Option Addr) (w : World) : Prop :=
  CallL PP N w [⟨blk3', x3c'.cells, Ty3'⟩] n_cellplaneref26_Table_Apply [(.pointer (some t5')), (.agg (List.toArray x3c'.cells))] fun r48 w49 => ∃ n47 : Int, r48 = (.int .i64 n47) ∧ CallL PP N w49 [⟨blk3', x3c'.cells, Ty3'⟩] n_cellplaneref24_Store_Apply [(.pointer (some s6')), (.agg (List.toArray x3c'.cells))] fun r51 w52 => ∃ n50 : Int, r51 = (.int .i64 n50) ∧ CallL PP N w52 [⟨blk3', x3c'.cells, Ty3'⟩] n_cellplaneref25_Queue_Apply [(.pointer q7'), (.agg (List.toArray x3c'.cells))] fun r54 w55 => ∃ n53 : Int, r54 = (.int .i64 n53) ∧ NewL N w55 [⟨blk3', x3c'.cells, Ty3'⟩] [(.int .i64 n47), (.int .i64 n50), (.int .i64 n53)] t_api_Errno fun b56 w57 => Reb N w57 [⟨blk3', x3c'.cells, Ty3'⟩] fun w58 => C_cellplaneref28_Copy_Apply_6 N Q c0' blk3' x3c' Ty3' t5' s6' q7' (⟨(some ⟨b56, 0, none⟩), 3, 3⟩ : Sl) 3 0 w58

theorem X_cellplaneref28_Copy_Apply_4 {N : Nat} {Q : Value → World → Prop} {c0' : Option Addr} {blk3' : Nat} {x3c' : G_api_Change} {Ty3' : Nat} {t5' s6' : Addr} {q7' : Option Addr} {w : World} (h : C_cellplaneref28_Copy_Apply_4 N Q c0' blk3' x3c' Ty3' t5' s6' q7' w) : Snd (cx N (fun d => memN d [3])) (cR k_cellplaneref28_Copy_Apply_0) (retD (cx N (fun d => memN d [3])) Go.Proofs.Try.f38 Q) (mkS 90 [.val 0, .loc 3, .val 5, .val 6, .val 7] [(.pointer c0'), (.pointer (some t5')), (.pointer (some s6')), (.pointer q7')] [⟨blk3', x3c'.cells, Ty3'⟩]) w :=
  (Snd.cast (c' := .seq (cL (cR k_cellplaneref28_Copy_Apply_0)) (cR (cR k_cellplaneref28_Copy_Apply_0))) (by kernel_rfl) (Snd.seq (H_cellplaneref28_Copy_Apply_5 N Q) (Snd.cast (c' := .seq (cL (cL (cR k_cellplaneref28_Copy_Apply_0))) (cR (cL (cR k_cellplaneref28_Copy_Apply_0)))) (by kernel_rfl) (Snd.seq (H_cellplaneref28_Copy_Apply_6 N Q) (den_sound okc mixed _ _ _ _ (mpr' (by kernel_rfl) h)) (fun s w h => T_cellplaneref28_Copy_Apply_6 N Q s w h))) (fun s w h => T_cellplaneref28_Copy_Apply_5 N Q s w h)))

noncomputable def H_cellplaneref28_Copy_Apply_4 (N : Nat) (Q : Value → World → Prop) : St → World → Prop := fun s w => grabK 90 [.val 0, .loc 3, .val 5, .val 6, .val 7] s fun vs ls => match vs, ls with
  | [.pointer c0', .pointer (some t5'), .pointer (some s6'), .pointer q7'], [⟨blk3', x3c'_r, Ty3'⟩] => G_api_Change.decL x3c'_r fun x3c' => Reb N w s.L fun wa => C_cellplaneref28_Copy_Apply_4 N Q c0' blk3' x3c' Ty3' t5' s6' q7' wa
  | _, _ => False

theorem T_cellplaneref28_Copy_Apply_4 (N : Nat) (Q : Value → World → Prop) (s : St) (w : World) (h : H_cellplaneref28_Copy_Apply_4 N Q s w) : Snd (cx N (fun d => memN d [3])) (cR k_cellplaneref28_Copy_Apply_0) (retD (cx N (fun d => memN d [3])) Go.Proofs.Try.f38 Q) s w := by
  refine Snd.grab h (fun vs ls hd hloc wa hl => ?_)
  split at hd
  · obtain ⟨x3c', rfl, hd0⟩ := G_api_Change.decL_spec hd
    exact X_cellplaneref28_Copy_Apply_4 (hd0 wa hl)
  · exact hd.elim

def C_cellplaneref28_Copy_Apply_3 (N : Nat) (Q : Value → World → Prop) (c0' : Option Addr) (blk3' : Nat) (x3c' : G_api_Change) (Ty3' : Nat) (w : World) : Prop :=
  NilL c0' fun q59 => ∃ p60 : Option Addr, At w (addA q59 5) [(.pointer p60)] ∧ NotIn ((addA q59 5) : Addr).block [⟨blk3', x3c'.cells, Ty3'⟩] ∧ NilL p60 fun q61 => ∃ cs62 : List Value, cs62.length = 40 ∧ At w q61 cs62 ∧ NotIn (q61 : Addr).block [⟨blk3', x3c'.cells, Ty3'⟩] ∧ NilL c0' fun q63 => ∃ p64 : Option Addr, At w (addA q63 3) [(.pointer p64)] ∧ NotIn ((addA q63 3) : Addr).block [⟨blk3', x3c'.cells, Ty3'⟩] ∧ NilL p64 fun q65 => ∃ l66 : Sl, At w q65 [(.slice l66.a l66.n l66.c)] ∧ NotIn (q65 : Addr).block [⟨blk3', x3c'.cells, Ty3'⟩] ∧ NilL c0' fun q67 => ∃ p68 : Option Addr, At w (addA q67 4) [(.pointer p68)] ∧ NotIn ((addA q67 4) : Addr).block [⟨blk3', x3c'.cells, Ty3'⟩] ∧ (NewL N w [⟨blk3', x3c'.cells, Ty3'⟩] (⟨l66⟩ : G_cellplaneref24_Store).cells t_cellplaneref24_Store fun b69 w70 => (CallL PP N w70 [⟨blk3', x3c'.cells, Ty3'⟩] n_cellplaneref25_Queue_Copy [(.pointer p68)] fun r72 w73 => ∃ p71 : Option Addr, r72 = (.pointer p71) ∧ At w73 q61 cs62 ∧ At w73 (addA q59 5) [(.pointer p60)] ∧ NewL N w73 [⟨blk3', x3c'.cells, Ty3'⟩] Z_cellplaneref26_Table t_cellplaneref26_Table fun b74 w75 => (cs62).length = 40 ∧ allOne cs62 = true ∧ StL w75 [⟨blk3', x3c'.cells, Ty3'⟩] ⟨b74, 0, none⟩ cs62 fun w76 => Reb N w76 [⟨blk3', x3c'.cells, Ty3'⟩] fun w77 => C_cellplaneref28_Copy_Apply_4 N Q c0' blk3' x3c' Ty3' ⟨b74, 0, none⟩ ⟨b69, 0, none⟩ p71 w77) ∧ (NewL N w70 [⟨blk3', x3c'.cells, Ty3'⟩] Z_cellplaneref26_Table t_cellplaneref26_Table fun b78 w79 => CallL PP N w79 [⟨blk3', x3c'.cells, Ty3'⟩] n_cellplaneref25_Queue_Copy [(.pointer p68)] fun r81 w82 => ∃ p80 : Option Addr, r81 = (.pointer p80) ∧ At w82 q61 cs62 ∧ At w82 (addA q59 5) [(.pointer p60)] ∧ (cs62).length = 40 ∧ allOne cs62 = true ∧ StL w82 [⟨blk3', x3c'.cells, Ty3'⟩] ⟨b78, 0, none⟩ cs62 fun w83 => Reb N w83 [⟨blk3', x3c'.cells, Ty3'⟩] fun w84 => C_cellplaneref28_Copy_Apply_4 N Q c0' blk3' x3c' Ty3' ⟨b78, 0, none⟩ ⟨b69, 0, none⟩ p80 w84)) ∧ (CallL PP N w [⟨blk3', x3c'.cells, Ty3'⟩] n_cellplaneref25_Queue_Copy [(.pointer p68)] fun r86 w87 => ∃ p85 : Option Addr, r86 = (.pointer p85) ∧ At w87 q65 [(.slice l66.a l66.n l66.c)] ∧ At w87 (addA q63 3) [(.pointer p64)] ∧ At w87 q61 cs62 ∧ At w87 (addA q59 5) [(.pointer p60)] ∧ (NewL N w87 [⟨blk3', x3c'.cells, Ty3'⟩] (⟨l66⟩ : G_cellplaneref24_Store).cells t_cellplaneref24_Store fun b88 w89 => NewL N w89 [⟨blk3', x3c'.cells, Ty3'⟩] Z_cellplaneref26_Table t_cellplaneref26_Table fun b90 w91 => (cs62).length = 40 ∧ allOne cs62 = true ∧ StL w91 [⟨blk3', x3c'.cells, Ty3'⟩] ⟨b90, 0, none⟩ cs62 fun w92 => Reb N w92 [⟨blk3', x3c'.cells, Ty3'⟩] fun w93 => C_cellplaneref28_Copy_Apply_4 N Q c0' blk3' x3c' Ty3' ⟨b90, 0, none⟩ ⟨b88, 0, none⟩ p85 w93) ∧ (NewL N w87 [⟨blk3', x3c'.cells, Ty3'⟩] Z_cellplaneref26_Table t_cellplaneref26_Table fun b94 w95 => (NewL N w95 [⟨blk3', x3c'.cells, Ty3'⟩] (⟨l66⟩ : G_cellplaneref24_Store).cells t_cellplaneref24_Store fun b96 w97 => (cs62).length = 40 ∧ allOne cs62 = true ∧ StL w97 [⟨blk3', x3c'.cells, Ty3'⟩] ⟨b94, 0, none⟩ cs62 fun w98 => Reb N w98 [⟨blk3', x3c'.cells, Ty3'⟩] fun w99 => C_cellplaneref28_Copy_Apply_4 N Q c0' blk3' x3c' Ty3' ⟨b94, 0, none⟩ ⟨b96, 0, none⟩ p85 w99) ∧ ((cs62).length = 40 ∧ allOne cs62 = true ∧ StL w95 [⟨blk3', x3c'.cells, Ty3'⟩] ⟨b94, 0, none⟩ cs62 fun w100 => NewL N w100 [⟨blk3', x3c'.cells, Ty3'⟩] (⟨l66⟩ : G_cellplaneref24_Store).cells t_cellplaneref24_Store fun b101 w102 => Reb N w102 [⟨blk3', x3c'.cells, Ty3'⟩] fun w103 => C_cellplaneref28_Copy_Apply_4 N Q c0' blk3' x3c' Ty3' ⟨b94, 0, none⟩ ⟨b101, 0, none⟩ p85 w103))) ∧ (NewL N w [⟨blk3', x3c'.cells, Ty3'⟩] Z_cellplaneref26_Table t_cellplaneref26_Table fun b104 w105 => (NewL N w105 [⟨blk3', x3c'.cells, Ty3'⟩] (⟨l66⟩ : G_cellplaneref24_Store).cells t_cellplaneref24_Store fun b106 w107 => CallL PP N w107 [⟨blk3', x3c'.cells, Ty3'⟩] n_cellplaneref25_Queue_Copy [(.pointer p68)] fun r109 w110 => ∃ p108 : Option Addr, r109 = (.pointer p108) ∧ At w110 q61 cs62 ∧ At w110 (addA q59 5) [(.pointer p60)] ∧ (cs62).length = 40 ∧ allOne cs62 = true ∧ StL w110 [⟨blk3', x3c'.cells, Ty3'⟩] ⟨b104, 0, none⟩ cs62 fun w111 => Reb N w111 [⟨blk3', x3c'.cells, Ty3'⟩] fun w112 => C_cellplaneref28_Copy_Apply_4 N Q c0' blk3' x3c' Ty3' ⟨b104, 0, none⟩ ⟨b106, 0, none⟩ p108 w112) ∧ (CallL PP N w105 [⟨blk3', x3c'.cells, Ty3'⟩] n_cellplaneref25_Queue_Copy [(.pointer p68)] fun r114 w115 => ∃ p113 : Option Addr, r114 = (.pointer p113) ∧ At w115 q65 [(.slice l66.a l66.n l66.c)] ∧ At w115 (addA q63 3) [(.pointer p64)] ∧ At w115 q61 cs62 ∧ At w115 (addA q59 5) [(.pointer p60)] ∧ (NewL N w115 [⟨blk3', x3c'.cells, Ty3'⟩] (⟨l66⟩ : G_cellplaneref24_Store).cells t_cellplaneref24_Store fun b116 w117 => (cs62).length = 40 ∧ allOne cs62 = true ∧ StL w117 [⟨blk3', x3c'.cells, Ty3'⟩] ⟨b104, 0, none⟩ cs62 fun w118 => Reb N w118 [⟨blk3', x3c'.cells, Ty3'⟩] fun w119 => C_cellplaneref28_Copy_Apply_4 N Q c0' blk3' x3c' Ty3' ⟨b104, 0, none⟩ ⟨b116, 0, none⟩ p113 w119) ∧ ((cs62).length = 40 ∧ allOne cs62 = true ∧ StL w115 [⟨blk3', x3c'.cells, Ty3'⟩] ⟨b104, 0, none⟩ cs62 fun w120 => NewL N w120 [⟨blk3', x3c'.cells, Ty3'⟩] (⟨l66⟩ : G_cellplaneref24_Store).cells t_cellplaneref24_Store fun b121 w122 => Reb N w122 [⟨blk3', x3c'.cells, Ty3'⟩] fun w123 => C_cellplaneref28_Copy_Apply_4 N Q c0' blk3' x3c' Ty3' ⟨b104, 0, none⟩ ⟨b121, 0, none⟩ p113 w123)))

theorem X_cellplaneref28_Copy_Apply_3 {N : Nat} {Q : Value → World → Prop} {c0' : Option Addr} {blk3' : Nat} {x3c' : G_api_Change} {Ty3' : Nat} {w : World} (h : C_cellplaneref28_Copy_Apply_3 N Q c0' blk3' x3c' Ty3' w) : Snd (cx N (fun d => memN d [3])) k_cellplaneref28_Copy_Apply_0 (retD (cx N (fun d => memN d [3])) Go.Proofs.Try.f38 Q) (mkS 90 [.val 0, .loc 3] [(.pointer c0')] [⟨blk3', x3c'.cells, Ty3'⟩]) w :=
  (Snd.cast (c' := .seq (cL k_cellplaneref28_Copy_Apply_0) (cR k_cellplaneref28_Copy_Apply_0)) (by kernel_rfl) (Snd.seq (H_cellplaneref28_Copy_Apply_4 N Q) (den_sound okc mixed _ _ _ _ (mpr' (by kernel_rfl) h)) (fun s w h => T_cellplaneref28_Copy_Apply_4 N Q s w h)))

noncomputable def H_cellplaneref28_Copy_Apply_3 (N : Nat) (Q : Value → World → Prop) : St → World → Prop := fun s w => grabK 90 [.val 0, .loc 3] s fun vs ls => match vs, ls with
  | [.pointer c0'], [⟨blk3', x3c'_r, Ty3'⟩] => G_api_Change.decL x3c'_r fun x3c' => Reb N w s.L fun wa => C_cellplaneref28_Copy_Apply_3 N Q c0' blk3' x3c' Ty3' wa
  | _, _ => False

theorem T_cellplaneref28_Copy_Apply_3 (N : Nat) (Q : Value → World → Prop) (s : St) (w : World) (h : H_cellplaneref28_Copy_Apply_3 N Q s w) : Snd (cx N (fun d => memN d [3])) k_cellplaneref28_Copy_Apply_0 (retD (cx N (fun d => memN d [3])) Go.Proofs.Try.f38 Q) s w := by
  refine Snd.grab h (fun vs ls hd hloc wa hl => ?_)
  split at hd
  · obtain ⟨x3c', rfl, hd0⟩ := G_api_Change.decL_spec hd
    exact X_cellplaneref28_Copy_Apply_3 (hd0 wa hl)
  · exact hd.elim

def C_cellplaneref28_Copy_Apply_2 (N : Nat) (Q : Value → World → Prop) (c0' : Option Addr) (blk3' : Nat) (x3c' : G_api_Change) (Ty3' : Nat) (w : World) : Prop :=
  NilL c0' fun q124 => ∃ l125 : Sl, At w (addA q124 2) [(.slice l125.a l125.n l125.c)] ∧ NotIn ((addA q124 2) : Addr).block [⟨blk3', x3c'.cells, Ty3'⟩] ∧ IfB (!decide ((x3c'.Seq : Int) = (IntKind.i64.wrap (((l125.n : Nat) : Int) + 1)))) (Reb N w [⟨blk3', x3c'.cells, Ty3'⟩] (Q (.int .i64 36))) (CallL PP N w [⟨blk3', x3c'.cells, Ty3'⟩] n_cellplaneref28_Copy_Epoch [(.pointer c0')] fun r127 w128 => ∃ n126 : Int, r127 = (.int .i64 n126) ∧ IfB (decide ((x3c'.Epoch : Int) < n126)) (Reb N w128 [⟨blk3', x3c'.cells, Ty3'⟩] (Q (.int .i64 36))) (Reb N w128 [⟨blk3', x3c'.cells, Ty3'⟩] fun w129 => C_cellplaneref28_Copy_Apply_3 N Q c0' blk3' x3c' Ty3' w129))

theorem X_cellplaneref28_Copy_Apply_2 {N : Nat} {Q : Value → World → Prop} {c0' : Option Addr} {blk3' : Nat} {x3c' : G_api_Change} {Ty3' : Nat} {w : World} (h : C_cellplaneref28_Copy_Apply_2 N Q c0' blk3' x3c' Ty3' w) : Snd (cx N (fun d => memN d [3])) (cR (cR (bodyOf Go.Proofs.Try.f38))) (retD (cx N (fun d => memN d [3])) Go.Proofs.Try.f38 Q) (mkS 90 [.val 0, .loc 3] [(.pointer c0')] [⟨blk3', x3c'.cells, Ty3'⟩]) w :=
  (Snd.cast (c' := .seq (cL (cR (cR (bodyOf Go.Proofs.Try.f38)))) (cR (cR (cR (bodyOf Go.Proofs.Try.f38))))) (by kernel_rfl) (Snd.seq (H_cellplaneref28_Copy_Apply_3 N Q) (den_sound okc mixed _ _ _ _ (mpr' (by kernel_rfl) h)) (fun s w h => T_cellplaneref28_Copy_Apply_3 N Q s w h)))

noncomputable def H_cellplaneref28_Copy_Apply_2 (N : Nat) (Q : Value → World → Prop) : St → World → Prop := fun s w => grabK 90 [.val 0, .loc 3] s fun vs ls => match vs, ls with
  | [.pointer c0'], [⟨blk3', x3c'_r, Ty3'⟩] => G_api_Change.decL x3c'_r fun x3c' => Reb N w s.L fun wa => C_cellplaneref28_Copy_Apply_2 N Q c0' blk3' x3c' Ty3' wa
  | _, _ => False

theorem T_cellplaneref28_Copy_Apply_2 (N : Nat) (Q : Value → World → Prop) (s : St) (w : World) (h : H_cellplaneref28_Copy_Apply_2 N Q s w) : Snd (cx N (fun d => memN d [3])) (cR (cR (bodyOf Go.Proofs.Try.f38))) (retD (cx N (fun d => memN d [3])) Go.Proofs.Try.f38 Q) s w := by
  refine Snd.grab h (fun vs ls hd hloc wa hl => ?_)
  split at hd
  · obtain ⟨x3c', rfl, hd0⟩ := G_api_Change.decL_spec hd
    exact X_cellplaneref28_Copy_Apply_2 (hd0 wa hl)
  · exact hd.elim

def C_cellplaneref28_Copy_Apply_1 (N : Nat) (Q : Value → World → Prop) (c0' : Option Addr) (blk3' : Nat) (x3c' : G_api_Change) (Ty3' : Nat) (w : World) : Prop :=
  CallL PP N w [⟨blk3', x3c'.cells, Ty3'⟩] n_cellplaneref24_Valid [(.agg (List.toArray x3c'.cells))] fun r131 w132 => ∃ b130 : Bool, r131 = (.bool b130) ∧ IfB (!b130) (Reb N w132 [⟨blk3', x3c'.cells, Ty3'⟩] (Q (.int .i64 1))) (Reb N w132 [⟨blk3', x3c'.cells, Ty3'⟩] fun w133 => C_cellplaneref28_Copy_Apply_2 N Q c0' blk3' x3c' Ty3' w133)

theorem X_cellplaneref28_Copy_Apply_1 {N : Nat} {Q : Value → World → Prop} {c0' : Option Addr} {blk3' : Nat} {x3c' : G_api_Change} {Ty3' : Nat} {w : World} (h : C_cellplaneref28_Copy_Apply_1 N Q c0' blk3' x3c' Ty3' w) : Snd (cx N (fun d => memN d [3])) (cR (bodyOf Go.Proofs.Try.f38)) (retD (cx N (fun d => memN d [3])) Go.Proofs.Try.f38 Q) (mkS 90 [.val 0, .loc 3] [(.pointer c0')] [⟨blk3', x3c'.cells, Ty3'⟩]) w :=
  (Snd.cast (c' := .seq (cL (cR (bodyOf Go.Proofs.Try.f38))) (cR (cR (bodyOf Go.Proofs.Try.f38)))) (by kernel_rfl) (Snd.seq (H_cellplaneref28_Copy_Apply_2 N Q) (den_sound okc mixed _ _ _ _ (mpr' (by kernel_rfl) h)) (fun s w h => T_cellplaneref28_Copy_Apply_2 N Q s w h)))

noncomputable def H_cellplaneref28_Copy_Apply_1 (N : Nat) (Q : Value → World → Prop) : St → World → Prop := fun s w => grabK 90 [.val 0, .loc 3] s fun vs ls => match vs, ls with
  | [.pointer c0'], [⟨blk3', x3c'_r, Ty3'⟩] => G_api_Change.decL x3c'_r fun x3c' => Reb N w s.L fun wa => C_cellplaneref28_Copy_Apply_1 N Q c0' blk3' x3c' Ty3' wa
  | _, _ => False

theorem T_cellplaneref28_Copy_Apply_1 (N : Nat) (Q : Value → World → Prop) (s : St) (w : World) (h : H_cellplaneref28_Copy_Apply_1 N Q s w) : Snd (cx N (fun d => memN d [3])) (cR (bodyOf Go.Proofs.Try.f38)) (retD (cx N (fun d => memN d [3])) Go.Proofs.Try.f38 Q) s w := by
  refine Snd.grab h (fun vs ls hd hloc wa hl => ?_)
  split at hd
  · obtain ⟨x3c', rfl, hd0⟩ := G_api_Change.decL_spec hd
    exact X_cellplaneref28_Copy_Apply_1 (hd0 wa hl)
  · exact hd.elim

def F_cellplaneref28_Copy_Apply (N : Nat) (c0 : Option Addr) (x1 : G_api_Change) (Q : Value → World → Prop) (w : World) : Prop :=
  ∀ b134 : Nat, w.heap.size ≤ b134 → Reb N w [⟨b134, x1.cells, t_api_Change⟩] fun w135 => C_cellplaneref28_Copy_Apply_1 N Q c0 b134 x1 t_api_Change w135

theorem cellplaneref28_Copy_Apply_snd (N : Nat) (c0 : Option Addr) (x1 : G_api_Change) (Q : Value → World → Prop) (w : World) (h : F_cellplaneref28_Copy_Apply N c0 x1 Q w) : Snd (cx N (fun d => memN d [3])) (bodyOf Go.Proofs.Try.f38) (retD (cx N (fun d => memN d [3])) Go.Proofs.Try.f38 Q) (entry 90 [(.pointer c0), (.agg (List.toArray x1.cells))]) w :=
  (Snd.cast (c' := .seq (cL (bodyOf Go.Proofs.Try.f38)) (cR (bodyOf Go.Proofs.Try.f38))) (by kernel_rfl) (Snd.seq (H_cellplaneref28_Copy_Apply_1 N Q) (den_sound okc mixed _ _ _ _ (mpr' (by kernel_rfl) h)) (fun s w h => T_cellplaneref28_Copy_Apply_1 N Q s w h)))

theorem cellplaneref28_Copy_Apply_calls (c0 : Option Addr) (x1 : G_api_Change) (Q : Value → World → Prop) (w : World) (h : F_cellplaneref28_Copy_Apply w.heap.size c0 x1 Q w) : Calls PP n_cellplaneref28_Copy_Apply [(.pointer c0), (.agg (List.toArray x1.cells))].toArray w fun e w' => ∃ v, e = .returned v ∧ Q v w' :=
  calls_of (C := cx w.heap.size (fun d => memN d [3])) (fn := Go.Proofs.Try.f38) (c := (bodyOf Go.Proofs.Try.f38)) (by kernel_rfl) (by kernel_rfl) (Nat.le_refl _) (cellplaneref28_Copy_Apply_snd _ c0 x1 Q w h)

/-! ### cellplanemill_Change -/
noncomputable def k_cellplanemill_Change_0 : Code := (cR (cR (cR (bodyOf Go.Proofs.Try.f39))))

def C_cellplanemill_Change_5 (N : Nat) (Q : Value → World → Prop) (t0' c1' : Option Addr) (blk6' : Nat) (v6c' : G_api_Change) (Ty6' blk7' : Nat) (x7c' : G_api_Change) (Ty7' : Nat) (w : World) : Prop :=
  IfB (decide ((x7c'.Kind : Int) = 1)) (CallL PP N w [⟨blk6', v6c'.cells, Ty6'⟩, ⟨blk7', x7c'.cells, Ty7'⟩] n_cellplanemill_Tape_Text [(.pointer t0'), (.int .i64 1), (.int .i64 16)] fun r2 w3 => ∃ s1 : ByteArray, r2 = (.string s1) ∧ CallL PP N w3 [⟨blk6', v6c'.cells, Ty6'⟩, ⟨blk7', x7c'.cells, Ty7'⟩] n_cellplanemill_Tape_Text [(.pointer t0'), (.int .i64 0), (.int .i64 64)] fun r5 w6 => ∃ s4 : ByteArray, r5 = (.string s4) ∧ Reb N w6 [⟨blk6', ({ x7c' with Key := s1, Value_ := s4 } : G_api_Change).cells, Ty6'⟩, ⟨blk7', ({ x7c' with Key := s1, Value_ := s4 } : G_api_Change).cells, Ty7'⟩] (Q (.agg (List.toArray ({ x7c' with Key := s1, Value_ := s4 } : G_api_Change).cells)))) (IfB (decide ((x7c'.Kind : Int) = 2)) (NilL c1' fun q7 => ∃ p8 : Option Addr, At w (addA q7 3) [(.pointer p8)] ∧ NotIn ((addA q7 3) : Addr).block [⟨blk6', v6c'.cells, Ty6'⟩, ⟨blk7', x7c'.cells, Ty7'⟩] ∧ NilL p8 fun q9 => ∃ l10 : Sl, At w q9 [(.slice l10.a l10.n l10.c)] ∧ NotIn (q9 : Addr).block [⟨blk6', v6c'.cells, Ty6'⟩, ⟨blk7', x7c'.cells, Ty7'⟩] ∧ NilL c1' fun q11 => ∃ p12 : Option Addr, At w (addA q11 3) [(.pointer p12)] ∧ NotIn ((addA q11 3) : Addr).block [⟨blk6', v6c'.cells, Ty6'⟩, ⟨blk7', x7c'.cells, Ty7'⟩] ∧ NilL p12 fun q13 => ∃ l14 : Sl, At w q13 [(.slice l14.a l14.n l14.c)] ∧ NotIn (q13 : Addr).block [⟨blk6', v6c'.cells, Ty6'⟩, ⟨blk7', x7c'.cells, Ty7'⟩] ∧ CallL PP N w [⟨blk6', v6c'.cells, Ty6'⟩, ⟨blk7', x7c'.cells, Ty7'⟩] n_cellplanemill_Tape_Next [(.pointer t0'), (.int .i64 ((l14.n : Nat) : Int))] fun r16 w17 => ∃ n15 : Int, r16 = (.int .i64 n15) ∧ At w17 q9 [(.slice l10.a l10.n l10.c)] ∧ At w17 (addA q7 3) [(.pointer p8)] ∧ IdxL l10.a l10.n n15 fun q18 => ∃ s19 : ByteArray, At w17 (q18.add ((n15 : Int).toNat * 3)) [(.string s19)] ∧ NotIn ((q18.add ((n15 : Int).toNat * 3)) : Addr).block [⟨blk6', v6c'.cells, Ty6'⟩, ⟨blk7', x7c'.cells, Ty7'⟩] ∧ Reb N w17 [⟨blk6', ({ x7c' with Key := s19 } : G_api_Change).cells, Ty6'⟩, ⟨blk7', ({ x7c' with Key := s19 } : G_api_Change).cells, Ty7'⟩] (Q (.agg (List.toArray ({ x7c' with Key := s19 } : G_api_Change).cells)))) (IfB (decide ((x7c'.Kind : Int) = 3)) (CallL PP N w [⟨blk6', v6c'.cells, Ty6'⟩, ⟨blk7', x7c'.cells, Ty7'⟩] n_cellplanemill_Tape_Text [(.pointer t0'), (.int .i64 0), (.int .i64 64)] fun r21 w22 => ∃ s20 : ByteArray, r21 = (.string s20) ∧ Reb N w22 [⟨blk6', ({ x7c' with Value_ := s20 } : G_api_Change).cells, Ty6'⟩, ⟨blk7', ({ x7c' with Value_ := s20 } : G_api_Change).cells, Ty7'⟩] (Q (.agg (List.toArray ({ x7c' with Value_ := s20 } : G_api_Change).cells)))) (IfB (decide ((x7c'.Kind : Int) = 4)) (NilL c1' fun q23 => ∃ p24 : Option Addr, At w (addA q23 4) [(.pointer p24)] ∧ NotIn ((addA q23 4) : Addr).block [⟨blk6', v6c'.cells, Ty6'⟩, ⟨blk7', x7c'.cells, Ty7'⟩] ∧ NilL p24 fun q25 => ∃ l26 : Sl, At w q25 [(.slice l26.a l26.n l26.c)] ∧ NotIn (q25 : Addr).block [⟨blk6', v6c'.cells, Ty6'⟩, ⟨blk7', x7c'.cells, Ty7'⟩] ∧ NilL c1' fun q27 => ∃ p28 : Option Addr, At w (addA q27 4) [(.pointer p28)] ∧ NotIn ((addA q27 4) : Addr).block [⟨blk6', v6c'.cells, Ty6'⟩, ⟨blk7', x7c'.cells, Ty7'⟩] ∧ NilL p28 fun q29 => ∃ l30 : Sl, At w q29 [(.slice l30.a l30.n l30.c)] ∧ NotIn (q29 : Addr).block [⟨blk6', v6c'.cells, Ty6'⟩, ⟨blk7', x7c'.cells, Ty7'⟩] ∧ CallL PP N w [⟨blk6', v6c'.cells, Ty6'⟩, ⟨blk7', x7c'.cells, Ty7'⟩] n_cellplanemill_Tape_Next [(.pointer t0'), (.int .i64 ((l30.n : Nat) : Int))] fun r32 w33 => ∃ n31 : Int, r32 = (.int .i64 n31) ∧ At w33 q25 [(.slice l26.a l26.n l26.c)] ∧ At w33 (addA q23 4) [(.pointer p24)] ∧ IdxL l26.a l26.n n31 fun q34 => ∃ n35 : Int, At w33 (q34.add ((n31 : Int).toNat * 2)) [(.int .i64 n35)] ∧ NotIn ((q34.add ((n31 : Int).toNat * 2)) : Addr).block [⟨blk6', v6c'.cells, Ty6'⟩, ⟨blk7', x7c'.cells, Ty7'⟩] ∧ Reb N w33 [⟨blk6', ({ x7c' with Item := n35 } : G_api_Change).cells, Ty6'⟩, ⟨blk7', ({ x7c' with Item := n35 } : G_api_Change).cells, Ty7'⟩] (Q (.agg (List.toArray ({ x7c' with Item := n35 } : G_api_Change).cells)))) (Reb N w [⟨blk6', x7c'.cells, Ty6'⟩, ⟨blk7', x7c'.cells, Ty7'⟩] (Q (.agg (List.toArray x7c'.cells)))))))

theorem X_cellplanemill_Change_5 {N : Nat} {Q : Value → World → Prop} {t0' c1' : Option Addr} {blk6' : Nat} {v6c' : G_api_Change} {Ty6' blk7' : Nat} {x7c' : G_api_Change} {Ty7' : Nat} {w : World} (h : C_cellplanemill_Change_5 N Q t0' c1' blk6' v6c' Ty6' blk7' x7c' Ty7' w) : Snd (cx N (fun d => memN d [6, 7])) (cR (cR k_cellplanemill_Change_0)) (retD (cx N (fun d => memN d [6, 7])) Go.Proofs.Try.f39 Q) (mkS 121 [.val 0, .val 1, .loc 6, .loc 7] [(.pointer t0'), (.pointer c1')] [⟨blk6', v6c'.cells, Ty6'⟩, ⟨blk7', x7c'.cells, Ty7'⟩]) w :=
  (den_sound okc mixed _ _ _ _ (mpr' (by kernel_rfl) h))

noncomputable def H_cellplanemill_Change_5 (N : Nat) (Q : Value → World → Prop) : St → World → Prop := fun s w => grabK 121 [.val 0, .val 1, .loc 6, .loc 7] s fun vs ls => match vs, ls with
  | [.pointer t0', .pointer c1'], [⟨blk6', v6c'_r, Ty6'⟩, ⟨blk7', x7c'_r, Ty7'⟩] => G_api_Change.decL v6c'_r fun v6c' => G_api_Change.decL x7c'_r fun x7c' => Reb N w s.L fun wa => C_cellplanemill_Change_5 N Q t0' c1' blk6' v6c' Ty6' blk7' x7c' Ty7' wa
  | _, _ => False

theorem T_cellplanemill_Change_5 (N : Nat) (Q : Value → World → Prop) (s : St) (w : World) (h : H_cellplanemill_Change_5 N Q s w) : Snd (cx N (fun d => memN d [6, 7])) (cR (cR k_cellplanemill_Change_0)) (retD (cx N (fun d => memN d [6, 7])) Go.Proofs.Try.f39 Q) s w := by
  refine Snd.grab h (fun vs ls hd hloc wa hl => ?_)
  split at hd
  · obtain ⟨v6c', rfl, hd0⟩ := G_api_Change.decL_spec hd
    obtain ⟨x7c', rfl, hd1⟩ := G_api_Change.decL_spec hd0
    exact X_cellplanemill_Change_5 (hd1 wa hl)
  · exact hd.elim

def C_cellplanemill_Change_4 (N : Nat) (Q : Value → World → Prop) (t0' c1' : Option Addr) (blk6' : Nat) (v6c' : G_api_Change) (Ty6' blk7' : Nat) (x7c' : G_api_Change) (Ty7' : Nat) (w : World) : Prop :=
  IfB (decide ((x7c'.Kind : Int) = 2)) (NilL c1' fun q36 => ∃ p37 : Option Addr, At w (addA q36 3) [(.pointer p37)] ∧ NotIn ((addA q36 3) : Addr).block [⟨blk6', v6c'.cells, Ty6'⟩, ⟨blk7', x7c'.cells, Ty7'⟩] ∧ NilL p37 fun q38 => ∃ l39 : Sl, At w q38 [(.slice l39.a l39.n l39.c)] ∧ NotIn (q38 : Addr).block [⟨blk6', v6c'.cells, Ty6'⟩, ⟨blk7', x7c'.cells, Ty7'⟩] ∧ IfB (decide ((((l39.n : Nat) : Int) : Int) = 0)) (Reb N w [⟨blk6', v6c'.cells, Ty6'⟩, ⟨blk7', ({ x7c' with Kind := 1 } : G_api_Change).cells, Ty7'⟩] fun w40 => C_cellplanemill_Change_5 N Q t0' c1' blk6' v6c' Ty6' blk7' ({ x7c' with Kind := 1 } : G_api_Change) Ty7' w40) (Reb N w [⟨blk6', v6c'.cells, Ty6'⟩, ⟨blk7', x7c'.cells, Ty7'⟩] fun w41 => C_cellplanemill_Change_5 N Q t0' c1' blk6' v6c' Ty6' blk7' x7c' Ty7' w41)) (Reb N w [⟨blk6', v6c'.cells, Ty6'⟩, ⟨blk7', x7c'.cells, Ty7'⟩] fun w42 => C_cellplanemill_Change_5 N Q t0' c1' blk6' v6c' Ty6' blk7' x7c' Ty7' w42)

theorem X_cellplanemill_Change_4 {N : Nat} {Q : Value → World → Prop} {t0' c1' : Option Addr} {blk6' : Nat} {v6c' : G_api_Change} {Ty6' blk7' : Nat} {x7c' : G_api_Change} {Ty7' : Nat} {w : World} (h : C_cellplanemill_Change_4 N Q t0' c1' blk6' v6c' Ty6' blk7' x7c' Ty7' w) : Snd (cx N (fun d => memN d [6, 7])) (cR k_cellplanemill_Change_0) (retD (cx N (fun d => memN d [6, 7])) Go.Proofs.Try.f39 Q) (mkS 121 [.val 0, .val 1, .loc 6, .loc 7] [(.pointer t0'), (.pointer c1')] [⟨blk6', v6c'.cells, Ty6'⟩, ⟨blk7', x7c'.cells, Ty7'⟩]) w :=
  (Snd.cast (c' := .seq (cL (cR k_cellplanemill_Change_0)) (cR (cR k_cellplanemill_Change_0))) (by kernel_rfl) (Snd.seq (H_cellplanemill_Change_5 N Q) (den_sound okc mixed _ _ _ _ (mpr' (by kernel_rfl) h)) (fun s w h => T_cellplanemill_Change_5 N Q s w h)))

noncomputable def H_cellplanemill_Change_4 (N : Nat) (Q : Value → World → Prop) : St → World → Prop := fun s w => grabK 121 [.val 0, .val 1, .loc 6, .loc 7] s fun vs ls => match vs, ls with
  | [.pointer t0', .pointer c1'], [⟨blk6', v6c'_r, Ty6'⟩, ⟨blk7', x7c'_r, Ty7'⟩] => G_api_Change.decL v6c'_r fun v6c' => G_api_Change.decL x7c'_r fun x7c' => Reb N w s.L fun wa => C_cellplanemill_Change_4 N Q t0' c1' blk6' v6c' Ty6' blk7' x7c' Ty7' wa
  | _, _ => False

theorem T_cellplanemill_Change_4 (N : Nat) (Q : Value → World → Prop) (s : St) (w : World) (h : H_cellplanemill_Change_4 N Q s w) : Snd (cx N (fun d => memN d [6, 7])) (cR k_cellplanemill_Change_0) (retD (cx N (fun d => memN d [6, 7])) Go.Proofs.Try.f39 Q) s w := by
  refine Snd.grab h (fun vs ls hd hloc wa hl => ?_)
  split at hd
  · obtain ⟨v6c', rfl, hd0⟩ := G_api_Change.decL_spec hd
    obtain ⟨x7c', rfl, hd1⟩ := G_api_Change.decL_spec hd0
    exact X_cellplanemill_Change_4 (hd1 wa hl)
  · exact hd.elim

def C_cellplanemill_Change_3 (N : Nat) (Q : Value → World → Prop) (t0' c1' : Option Addr) (blk6' : Nat) (v6c' : G_api_Change) (Ty6' blk7' : Nat) (x7c' : G_api_Change) (Ty7' : Nat) (w : World) : Prop :=
  IfB (decide ((x7c'.Kind : Int) = 4)) (NilL c1' fun q43 => ∃ p44 : Option Addr, At w (addA q43 4) [(.pointer p44)] ∧ NotIn ((addA q43 4) : Addr).block [⟨blk6', v6c'.cells, Ty6'⟩, ⟨blk7', x7c'.cells, Ty7'⟩] ∧ NilL p44 fun q45 => ∃ l46 : Sl, At w q45 [(.slice l46.a l46.n l46.c)] ∧ NotIn (q45 : Addr).block [⟨blk6', v6c'.cells, Ty6'⟩, ⟨blk7', x7c'.cells, Ty7'⟩] ∧ IfB (decide ((((l46.n : Nat) : Int) : Int) = 0)) (Reb N w [⟨blk6', v6c'.cells, Ty6'⟩, ⟨blk7', ({ x7c' with Kind := 3 } : G_api_Change).cells, Ty7'⟩] fun w47 => C_cellplanemill_Change_4 N Q t0' c1' blk6' v6c' Ty6' blk7' ({ x7c' with Kind := 3 } : G_api_Change) Ty7' w47) (Reb N w [⟨blk6', v6c'.cells, Ty6'⟩, ⟨blk7', x7c'.cells, Ty7'⟩] fun w48 => C_cellplanemill_Change_4 N Q t0' c1' blk6' v6c' Ty6' blk7' x7c' Ty7' w48)) (Reb N w [⟨blk6', v6c'.cells, Ty6'⟩, ⟨blk7', x7c'.cells, Ty7'⟩] fun w49 => C_cellplanemill_Change_4 N Q t0' c1' blk6' v6c' Ty6' blk7' x7c' Ty7' w49)

theorem X_cellplanemill_Change_3 {N : Nat} {Q : Value → World → Prop} {t0' c1' : Option Addr} {blk6' : Nat} {v6c' : G_api_Change} {Ty6' blk7' : Nat} {x7c' : G_api_Change} {Ty7' : Nat} {w : World} (h : C_cellplanemill_Change_3 N Q t0' c1' blk6' v6c' Ty6' blk7' x7c' Ty7' w) : Snd (cx N (fun d => memN d [6, 7])) k_cellplanemill_Change_0 (retD (cx N (fun d => memN d [6, 7])) Go.Proofs.Try.f39 Q) (mkS 121 [.val 0, .val 1, .loc 6, .loc 7] [(.pointer t0'), (.pointer c1')] [⟨blk6', v6c'.cells, Ty6'⟩, ⟨blk7', x7c'.cells, Ty7'⟩]) w :=
  (Snd.cast (c' := .seq (cL k_cellplanemill_Change_0) (cR k_cellplanemill_Change_0)) (by kernel_rfl) (Snd.seq (H_cellplanemill_Change_4 N Q) (den_sound okc mixed _ _ _ _ (mpr' (by kernel_rfl) h)) (fun s w h => T_cellplanemill_Change_4 N Q s w h)))

noncomputable def H_cellplanemill_Change_3 (N : Nat) (Q : Value → World → Prop) : St → World → Prop := fun s w => grabK 121 [.val 0, .val 1, .loc 6, .loc 7] s fun vs ls => match vs, ls with
  | [.pointer t0', .pointer c1'], [⟨blk6', v6c'_r, Ty6'⟩, ⟨blk7', x7c'_r, Ty7'⟩] => G_api_Change.decL v6c'_r fun v6c' => G_api_Change.decL x7c'_r fun x7c' => Reb N w s.L fun wa => C_cellplanemill_Change_3 N Q t0' c1' blk6' v6c' Ty6' blk7' x7c' Ty7' wa
  | _, _ => False

theorem T_cellplanemill_Change_3 (N : Nat) (Q : Value → World → Prop) (s : St) (w : World) (h : H_cellplanemill_Change_3 N Q s w) : Snd (cx N (fun d => memN d [6, 7])) k_cellplanemill_Change_0 (retD (cx N (fun d => memN d [6, 7])) Go.Proofs.Try.f39 Q) s w := by
  refine Snd.grab h (fun vs ls hd hloc wa hl => ?_)
  split at hd
  · obtain ⟨v6c', rfl, hd0⟩ := G_api_Change.decL_spec hd
    obtain ⟨x7c', rfl, hd1⟩ := G_api_Change.decL_spec hd0
    exact X_cellplanemill_Change_3 (hd1 wa hl)
  · exact hd.elim

def C_cellplanemill_Change_2 (N : Nat) (Q : Value → World → Prop) (t0' c1' : Option Addr) (blk6' : Nat) (v6c' : G_api_Change) (Ty6' blk7' : Nat) (x7c' : G_api_Change) (Ty7' : Nat) (w : World) : Prop :=
  NilL c1' fun q50 => ∃ p51 : Option Addr, At w (addA q50 5) [(.pointer p51)] ∧ NotIn ((addA q50 5) : Addr).block [⟨blk6', v6c'.cells, Ty6'⟩, ⟨blk7', x7c'.cells, Ty7'⟩] ∧ CallL PP N w [⟨blk6', v6c'.cells, Ty6'⟩, ⟨blk7', x7c'.cells, Ty7'⟩] n_cellplaneref26_Table_Last [(.pointer p51), (.int .i64 x7c'.Client)] fun r53 w54 => ∃ n52 : Int, r53 = (.int .i64 n52) ∧ Reb N w54 [⟨blk6', v6c'.cells, Ty6'⟩, ⟨blk7', ({ x7c' with Number := (IntKind.i64.wrap (n52 + 1)) } : G_api_Change).cells, Ty7'⟩] fun w55 => C_cellplanemill_Change_3 N Q t0' c1' blk6' v6c' Ty6' blk7' ({ x7c' with Number := (IntKind.i64.wrap (n52 + 1)) } : G_api_Change) Ty7' w55

theorem X_cellplanemill_Change_2 {N : Nat} {Q : Value → World → Prop} {t0' c1' : Option Addr} {blk6' : Nat} {v6c' : G_api_Change} {Ty6' blk7' : Nat} {x7c' : G_api_Change} {Ty7' : Nat} {w : World} (h : C_cellplanemill_Change_2 N Q t0' c1' blk6' v6c' Ty6' blk7' x7c' Ty7' w) : Snd (cx N (fun d => memN d [6, 7])) (cR (cR (bodyOf Go.Proofs.Try.f39))) (retD (cx N (fun d => memN d [6, 7])) Go.Proofs.Try.f39 Q) (mkS 121 [.val 0, .val 1, .loc 6, .loc 7] [(.pointer t0'), (.pointer c1')] [⟨blk6', v6c'.cells, Ty6'⟩, ⟨blk7', x7c'.cells, Ty7'⟩]) w :=
  (Snd.cast (c' := .seq (cL (cR (cR (bodyOf Go.Proofs.Try.f39)))) (cR (cR (cR (bodyOf Go.Proofs.Try.f39))))) (by kernel_rfl) (Snd.seq (H_cellplanemill_Change_3 N Q) (den_sound okc mixed _ _ _ _ (mpr' (by kernel_rfl) h)) (fun s w h => T_cellplanemill_Change_3 N Q s w h)))

noncomputable def H_cellplanemill_Change_2 (N : Nat) (Q : Value → World → Prop) : St → World → Prop := fun s w => grabK 121 [.val 0, .val 1, .loc 6, .loc 7] s fun vs ls => match vs, ls with
  | [.pointer t0', .pointer c1'], [⟨blk6', v6c'_r, Ty6'⟩, ⟨blk7', x7c'_r, Ty7'⟩] => G_api_Change.decL v6c'_r fun v6c' => G_api_Change.decL x7c'_r fun x7c' => Reb N w s.L fun wa => C_cellplanemill_Change_2 N Q t0' c1' blk6' v6c' Ty6' blk7' x7c' Ty7' wa
  | _, _ => False

theorem T_cellplanemill_Change_2 (N : Nat) (Q : Value → World → Prop) (s : St) (w : World) (h : H_cellplanemill_Change_2 N Q s w) : Snd (cx N (fun d => memN d [6, 7])) (cR (cR (bodyOf Go.Proofs.Try.f39))) (retD (cx N (fun d => memN d [6, 7])) Go.Proofs.Try.f39 Q) s w := by
  refine Snd.grab h (fun vs ls hd hloc wa hl => ?_)
  split at hd
  · obtain ⟨v6c', rfl, hd0⟩ := G_api_Change.decL_spec hd
    obtain ⟨x7c', rfl, hd1⟩ := G_api_Change.decL_spec hd0
    exact X_cellplanemill_Change_2 (hd1 wa hl)
  · exact hd.elim

def C_cellplanemill_Change_1 (N : Nat) (Q : Value → World → Prop) (t0' c1' : Option Addr) (epoch2' : Int) (blk6' : Nat) (v6c' : G_api_Change) (Ty6' : Nat) (w : World) : Prop :=
  NilL c1' fun q56 => ∃ l57 : Sl, At w (addA q56 2) [(.slice l57.a l57.n l57.c)] ∧ NotIn ((addA q56 2) : Addr).block [⟨blk6', v6c'.cells, Ty6'⟩] ∧ (CallL PP N w [⟨blk6', v6c'.cells, Ty6'⟩] n_cellplanemill_Tape_Range [(.pointer t0'), (.int .i64 1), (.int .i64 4)] fun r59 w60 => ∃ n58 : Int, r59 = (.int .i64 n58) ∧ At w60 (addA q56 2) [(.slice l57.a l57.n l57.c)] ∧ (CallL PP N w60 [⟨blk6', v6c'.cells, Ty6'⟩] n_cellplanemill_Tape_Range [(.pointer t0'), (.int .i64 1), (.int .i64 4)] fun r62 w63 => ∃ n61 : Int, r62 = (.int .i64 n61) ∧ At w63 (addA q56 2) [(.slice l57.a l57.n l57.c)] ∧ ∀ b64 : Nat, w63.heap.size ≤ b64 → Reb N w63 [⟨blk6', v6c'.cells, Ty6'⟩, ⟨b64, (⟨epoch2', (IntKind.i64.wrap (((l57.n : Nat) : Int) + 1)), n58, n61, 0, 0, ByteArray.empty, ByteArray.empty⟩ : G_api_Change).cells, t_api_Change⟩] fun w65 => C_cellplanemill_Change_2 N Q t0' c1' blk6' v6c' Ty6' b64 (⟨epoch2', (IntKind.i64.wrap (((l57.n : Nat) : Int) + 1)), n58, n61, 0, 0, ByteArray.empty, ByteArray.empty⟩ : G_api_Change) t_api_Change w65) ∧ (∀ b66 : Nat, w60.heap.size ≤ b66 → CallL PP N w60 [⟨blk6', v6c'.cells, Ty6'⟩, ⟨b66, (⟨0, 0, 0, 0, 0, 0, ByteArray.empty, ByteArray.empty⟩ : G_api_Change).cells, t_api_Change⟩] n_cellplanemill_Tape_Range [(.pointer t0'), (.int .i64 1), (.int .i64 4)] fun r68 w69 => ∃ n67 : Int, r68 = (.int .i64 n67) ∧ At w69 (addA q56 2) [(.slice l57.a l57.n l57.c)] ∧ Reb N w69 [⟨blk6', v6c'.cells, Ty6'⟩, ⟨b66, (⟨epoch2', (IntKind.i64.wrap (((l57.n : Nat) : Int) + 1)), n58, n67, 0, 0, ByteArray.empty, ByteArray.empty⟩ : G_api_Change).cells, t_api_Change⟩] fun w70 => C_cellplanemill_Change_2 N Q t0' c1' blk6' v6c' Ty6' b66 (⟨epoch2', (IntKind.i64.wrap (((l57.n : Nat) : Int) + 1)), n58, n67, 0, 0, ByteArray.empty, ByteArray.empty⟩ : G_api_Change) t_api_Change w70)) ∧ (∀ b71 : Nat, w.heap.size ≤ b71 → CallL PP N w [⟨blk6', v6c'.cells, Ty6'⟩, ⟨b71, (⟨0, 0, 0, 0, 0, 0, ByteArray.empty, ByteArray.empty⟩ : G_api_Change).cells, t_api_Change⟩] n_cellplanemill_Tape_Range [(.pointer t0'), (.int .i64 1), (.int .i64 4)] fun r73 w74 => ∃ n72 : Int, r73 = (.int .i64 n72) ∧ At w74 (addA q56 2) [(.slice l57.a l57.n l57.c)] ∧ CallL PP N w74 [⟨blk6', v6c'.cells, Ty6'⟩, ⟨b71, (⟨0, 0, 0, 0, 0, 0, ByteArray.empty, ByteArray.empty⟩ : G_api_Change).cells, t_api_Change⟩] n_cellplanemill_Tape_Range [(.pointer t0'), (.int .i64 1), (.int .i64 4)] fun r76 w77 => ∃ n75 : Int, r76 = (.int .i64 n75) ∧ At w77 (addA q56 2) [(.slice l57.a l57.n l57.c)] ∧ Reb N w77 [⟨blk6', v6c'.cells, Ty6'⟩, ⟨b71, (⟨epoch2', (IntKind.i64.wrap (((l57.n : Nat) : Int) + 1)), n72, n75, 0, 0, ByteArray.empty, ByteArray.empty⟩ : G_api_Change).cells, t_api_Change⟩] fun w78 => C_cellplanemill_Change_2 N Q t0' c1' blk6' v6c' Ty6' b71 (⟨epoch2', (IntKind.i64.wrap (((l57.n : Nat) : Int) + 1)), n72, n75, 0, 0, ByteArray.empty, ByteArray.empty⟩ : G_api_Change) t_api_Change w78)

theorem X_cellplanemill_Change_1 {N : Nat} {Q : Value → World → Prop} {t0' c1' : Option Addr} {epoch2' : Int} {blk6' : Nat} {v6c' : G_api_Change} {Ty6' : Nat} {w : World} (h : C_cellplanemill_Change_1 N Q t0' c1' epoch2' blk6' v6c' Ty6' w) : Snd (cx N (fun d => memN d [6, 7])) (cR (bodyOf Go.Proofs.Try.f39)) (retD (cx N (fun d => memN d [6, 7])) Go.Proofs.Try.f39 Q) (mkS 121 [.val 0, .val 1, .val 2, .loc 6] [(.pointer t0'), (.pointer c1'), (.int .i64 epoch2')] [⟨blk6', v6c'.cells, Ty6'⟩]) w :=
  (Snd.cast (c' := .seq (cL (cR (bodyOf Go.Proofs.Try.f39))) (cR (cR (bodyOf Go.Proofs.Try.f39)))) (by kernel_rfl) (Snd.seq (H_cellplanemill_Change_2 N Q) (den_sound okc mixed _ _ _ _ (mpr' (by kernel_rfl) h)) (fun s w h => T_cellplanemill_Change_2 N Q s w h)))

noncomputable def H_cellplanemill_Change_1 (N : Nat) (Q : Value → World → Prop) : St → World → Prop := fun s w => grabK 121 [.val 0, .val 1, .val 2, .loc 6] s fun vs ls => match vs, ls with
  | [.pointer t0', .pointer c1', .int .i64 epoch2'], [⟨blk6', v6c'_r, Ty6'⟩] => G_api_Change.decL v6c'_r fun v6c' => Reb N w s.L fun wa => C_cellplanemill_Change_1 N Q t0' c1' epoch2' blk6' v6c' Ty6' wa
  | _, _ => False

theorem T_cellplanemill_Change_1 (N : Nat) (Q : Value → World → Prop) (s : St) (w : World) (h : H_cellplanemill_Change_1 N Q s w) : Snd (cx N (fun d => memN d [6, 7])) (cR (bodyOf Go.Proofs.Try.f39)) (retD (cx N (fun d => memN d [6, 7])) Go.Proofs.Try.f39 Q) s w := by
  refine Snd.grab h (fun vs ls hd hloc wa hl => ?_)
  split at hd
  · obtain ⟨v6c', rfl, hd0⟩ := G_api_Change.decL_spec hd
    exact X_cellplanemill_Change_1 (hd0 wa hl)
  · exact hd.elim

def F_cellplanemill_Change (N : Nat) (t0 : Option Addr) (c1 : Option Addr) (epoch2 : Int) (Q : Value → World → Prop) (w : World) : Prop :=
  ∀ b79 : Nat, w.heap.size ≤ b79 → Reb N w [⟨b79, (⟨0, 0, 0, 0, 0, 0, ByteArray.empty, ByteArray.empty⟩ : G_api_Change).cells, t_api_Change⟩] fun w80 => C_cellplanemill_Change_1 N Q t0 c1 epoch2 b79 (⟨0, 0, 0, 0, 0, 0, ByteArray.empty, ByteArray.empty⟩ : G_api_Change) t_api_Change w80

theorem cellplanemill_Change_snd (N : Nat) (t0 : Option Addr) (c1 : Option Addr) (epoch2 : Int) (Q : Value → World → Prop) (w : World) (h : F_cellplanemill_Change N t0 c1 epoch2 Q w) : Snd (cx N (fun d => memN d [6, 7])) (bodyOf Go.Proofs.Try.f39) (retD (cx N (fun d => memN d [6, 7])) Go.Proofs.Try.f39 Q) (entry 121 [(.pointer t0), (.pointer c1), (.int .i64 epoch2)]) w :=
  (Snd.cast (c' := .seq (cL (bodyOf Go.Proofs.Try.f39)) (cR (bodyOf Go.Proofs.Try.f39))) (by kernel_rfl) (Snd.seq (H_cellplanemill_Change_1 N Q) (den_sound okc mixed _ _ _ _ (mpr' (by kernel_rfl) h)) (fun s w h => T_cellplanemill_Change_1 N Q s w h)))

theorem cellplanemill_Change_calls (t0 : Option Addr) (c1 : Option Addr) (epoch2 : Int) (Q : Value → World → Prop) (w : World) (h : F_cellplanemill_Change w.heap.size t0 c1 epoch2 Q w) : Calls PP n_cellplanemill_Change [(.pointer t0), (.pointer c1), (.int .i64 epoch2)].toArray w fun e w' => ∃ v, e = .returned v ∧ Q v w' :=
  calls_of (C := cx w.heap.size (fun d => memN d [6, 7])) (fn := Go.Proofs.Try.f39) (c := (bodyOf Go.Proofs.Try.f39)) (by kernel_rfl) (by kernel_rfl) (Nat.le_refl _) (cellplanemill_Change_snd _ t0 c1 epoch2 Q w h)

/-! ### store_isKey -/
def F_store_isKey (N : Nat) (s0 : ByteArray) (Q : Value → World → Prop) (w : World) : Prop :=
  IfB (decide ((1 : Int) ≤ (s0.size : Int))) (Reb N w [] (Q (.bool (decide (((s0.size : Int) : Int) ≤ 16))))) (Reb N w [] (Q (.bool false)))

theorem store_isKey_snd (N : Nat) (s0 : ByteArray) (Q : Value → World → Prop) (w : World) (h : F_store_isKey N s0 Q w) : Snd (cx N (fun d => memN d [])) (bodyOf Go.Proofs.Try.f40) (retD (cx N (fun d => memN d [])) Go.Proofs.Try.f40 Q) (entry 11 [(.string s0)]) w :=
  (den_sound okc mixed _ _ _ _ (mpr' (by kernel_rfl) h))

theorem store_isKey_calls (s0 : ByteArray) (Q : Value → World → Prop) (w : World) (h : F_store_isKey w.heap.size s0 Q w) : Calls PP n_store_isKey [(.string s0)].toArray w fun e w' => ∃ v, e = .returned v ∧ Q v w' :=
  calls_of (C := cx w.heap.size (fun d => memN d [])) (fn := Go.Proofs.Try.f40) (c := (bodyOf Go.Proofs.Try.f40)) (by kernel_rfl) (by kernel_rfl) (Nat.le_refl _) (store_isKey_snd _ s0 Q w h)

/-! ### store_isValue -/
def F_store_isValue (N : Nat) (s0 : ByteArray) (Q : Value → World → Prop) (w : World) : Prop :=
  Reb N w [] (Q (.bool (decide (((s0.size : Int) : Int) ≤ 64))))

theorem store_isValue_snd (N : Nat) (s0 : ByteArray) (Q : Value → World → Prop) (w : World) (h : F_store_isValue N s0 Q w) : Snd (cx N (fun d => memN d [])) (bodyOf Go.Proofs.Try.f41) (retD (cx N (fun d => memN d [])) Go.Proofs.Try.f41 Q) (entry 6 [(.string s0)]) w :=
  (den_sound okc mixed _ _ _ _ (mpr' (by kernel_rfl) h))

theorem store_isValue_calls (s0 : ByteArray) (Q : Value → World → Prop) (w : World) (h : F_store_isValue w.heap.size s0 Q w) : Calls PP n_store_isValue [(.string s0)].toArray w fun e w' => ∃ v, e = .returned v ∧ Q v w' :=
  calls_of (C := cx w.heap.size (fun d => memN d [])) (fn := Go.Proofs.Try.f41) (c := (bodyOf Go.Proofs.Try.f41)) (by kernel_rfl) (by kernel_rfl) (Nat.le_refl _) (store_isValue_snd _ s0 Q w h)

/-! ### cellplaneref24_in -/
def F_cellplaneref24_in (N : Nat) (n0 : Int) (low1 : Int) (high2 : Int) (Q : Value → World → Prop) (w : World) : Prop :=
  IfB (decide ((low1 : Int) ≤ n0)) (Reb N w [] (Q (.bool (decide ((n0 : Int) ≤ high2))))) (Reb N w [] (Q (.bool false)))

theorem cellplaneref24_in_snd (N : Nat) (n0 : Int) (low1 : Int) (high2 : Int) (Q : Value → World → Prop) (w : World) (h : F_cellplaneref24_in N n0 low1 high2 Q w) : Snd (cx N (fun d => memN d [])) (bodyOf Go.Proofs.Try.f42) (retD (cx N (fun d => memN d [])) Go.Proofs.Try.f42 Q) (entry 15 [(.int .i64 n0), (.int .i64 low1), (.int .i64 high2)]) w :=
  (den_sound okc mixed _ _ _ _ (mpr' (by kernel_rfl) h))

theorem cellplaneref24_in_calls (n0 : Int) (low1 : Int) (high2 : Int) (Q : Value → World → Prop) (w : World) (h : F_cellplaneref24_in w.heap.size n0 low1 high2 Q w) : Calls PP n_cellplaneref24_in [(.int .i64 n0), (.int .i64 low1), (.int .i64 high2)].toArray w fun e w' => ∃ v, e = .returned v ∧ Q v w' :=
  calls_of (C := cx w.heap.size (fun d => memN d [])) (fn := Go.Proofs.Try.f42) (c := (bodyOf Go.Proofs.Try.f42)) (by kernel_rfl) (by kernel_rfl) (Nat.le_refl _) (cellplaneref24_in_snd _ n0 low1 high2 Q w h)

/-! ### cellplaneref24_Key -/
def F_cellplaneref24_Key (N : Nat) (s0 : ByteArray) (Q : Value → World → Prop) (w : World) : Prop :=
  CallL PP N w [] n_cellplaneref24_in [(.int .i64 (s0.size : Int)), (.int .i64 1), (.int .i64 16)] fun r2 w3 => ∃ b1 : Bool, r2 = (.bool b1) ∧ Reb N w3 [] (Q (.bool b1))

theorem cellplaneref24_Key_snd (N : Nat) (s0 : ByteArray) (Q : Value → World → Prop) (w : World) (h : F_cellplaneref24_Key N s0 Q w) : Snd (cx N (fun d => memN d [])) (bodyOf Go.Proofs.Try.f43) (retD (cx N (fun d => memN d [])) Go.Proofs.Try.f43 Q) (entry 6 [(.string s0)]) w :=
  (den_sound okc mixed _ _ _ _ (mpr' (by kernel_rfl) h))

theorem cellplaneref24_Key_calls (s0 : ByteArray) (Q : Value → World → Prop) (w : World) (h : F_cellplaneref24_Key w.heap.size s0 Q w) : Calls PP n_cellplaneref24_Key [(.string s0)].toArray w fun e w' => ∃ v, e = .returned v ∧ Q v w' :=
  calls_of (C := cx w.heap.size (fun d => memN d [])) (fn := Go.Proofs.Try.f43) (c := (bodyOf Go.Proofs.Try.f43)) (by kernel_rfl) (by kernel_rfl) (Nat.le_refl _) (cellplaneref24_Key_snd _ s0 Q w h)

/-! ### cellplaneref24_Value -/
def F_cellplaneref24_Value (N : Nat) (s0 : ByteArray) (Q : Value → World → Prop) (w : World) : Prop :=
  Reb N w [] (Q (.bool (decide (((s0.size : Int) : Int) ≤ 64))))

theorem cellplaneref24_Value_snd (N : Nat) (s0 : ByteArray) (Q : Value → World → Prop) (w : World) (h : F_cellplaneref24_Value N s0 Q w) : Snd (cx N (fun d => memN d [])) (bodyOf Go.Proofs.Try.f44) (retD (cx N (fun d => memN d [])) Go.Proofs.Try.f44 Q) (entry 6 [(.string s0)]) w :=
  (den_sound okc mixed _ _ _ _ (mpr' (by kernel_rfl) h))

theorem cellplaneref24_Value_calls (s0 : ByteArray) (Q : Value → World → Prop) (w : World) (h : F_cellplaneref24_Value w.heap.size s0 Q w) : Calls PP n_cellplaneref24_Value [(.string s0)].toArray w fun e w' => ∃ v, e = .returned v ∧ Q v w' :=
  calls_of (C := cx w.heap.size (fun d => memN d [])) (fn := Go.Proofs.Try.f44) (c := (bodyOf Go.Proofs.Try.f44)) (by kernel_rfl) (by kernel_rfl) (Nat.le_refl _) (cellplaneref24_Value_snd _ s0 Q w h)

/-! ### cellplaneref28_Copy_Epoch -/
def F_cellplaneref28_Copy_Epoch (N : Nat) (c0 : Option Addr) (Q : Value → World → Prop) (w : World) : Prop :=
  NilL c0 fun q1 => ∃ l2 : Sl, At w (addA q1 2) [(.slice l2.a l2.n l2.c)] ∧ NotIn ((addA q1 2) : Addr).block [] ∧ IfB (decide ((((l2.n : Nat) : Int) : Int) = 0)) (Reb N w [] (Q (.int .i64 0))) (NilL c0 fun q3 => ∃ l4 : Sl, At w (addA q3 2) [(.slice l4.a l4.n l4.c)] ∧ NotIn ((addA q3 2) : Addr).block [] ∧ NilL c0 fun q5 => ∃ l6 : Sl, At w (addA q5 2) [(.slice l6.a l6.n l6.c)] ∧ NotIn ((addA q5 2) : Addr).block [] ∧ IdxL l4.a l4.n (IntKind.i64.wrap (((l6.n : Nat) : Int) - 1)) fun q7 => ∃ n8 : Int, At w (q7.add (((IntKind.i64.wrap (((l6.n : Nat) : Int) - 1)) : Int).toNat * 8)) [(.int .i64 n8)] ∧ NotIn ((q7.add (((IntKind.i64.wrap (((l6.n : Nat) : Int) - 1)) : Int).toNat * 8)) : Addr).block [] ∧ Reb N w [] (Q (.int .i64 n8)))

theorem cellplaneref28_Copy_Epoch_snd (N : Nat) (c0 : Option Addr) (Q : Value → World → Prop) (w : World) (h : F_cellplaneref28_Copy_Epoch N c0 Q w) : Snd (cx N (fun d => memN d [])) (bodyOf Go.Proofs.Try.f45) (retD (cx N (fun d => memN d [])) Go.Proofs.Try.f45 Q) (entry 22 [(.pointer c0)]) w :=
  (den_sound okc mixed _ _ _ _ (mpr' (by kernel_rfl) h))

theorem cellplaneref28_Copy_Epoch_calls (c0 : Option Addr) (Q : Value → World → Prop) (w : World) (h : F_cellplaneref28_Copy_Epoch w.heap.size c0 Q w) : Calls PP n_cellplaneref28_Copy_Epoch [(.pointer c0)].toArray w fun e w' => ∃ v, e = .returned v ∧ Q v w' :=
  calls_of (C := cx w.heap.size (fun d => memN d [])) (fn := Go.Proofs.Try.f45) (c := (bodyOf Go.Proofs.Try.f45)) (by kernel_rfl) (by kernel_rfl) (Nat.le_refl _) (cellplaneref28_Copy_Epoch_snd _ c0 Q w h)

/-! ### cellplaneref25_Queue_Copy -/
def F_cellplaneref25_Queue_Copy (N : Nat) (q0 : Option Addr) (Q : Value → World → Prop) (w : World) : Prop :=
  NilL q0 fun q1 => ∃ l2 : Sl, At w q1 [(.slice l2.a l2.n l2.c)] ∧ NotIn (q1 : Addr).block [] ∧ NilL q0 fun q3 => ∃ l4 : Sl, At w (addA q3 1) [(.slice l4.a l4.n l4.c)] ∧ NotIn ((addA q3 1) : Addr).block [] ∧ NilL q0 fun q5 => ∃ n6 : Int, At w (addA q5 2) [(.int .i64 n6)] ∧ NotIn ((addA q5 2) : Addr).block [] ∧ (NewL N w [] ([]) t_api_Item fun b7 w8 => (RunL PP N w8 [] (Builtin.append_ #[t_sl_api_Item, t_sl_api_Item] t_sl_api_Item #[(.slice (some ⟨b7, 0, none⟩) 0 0), (.slice l2.a l2.n l2.c)]) fun r10 w11 => ∃ l9 : Sl, r10 = (.slice l9.a l9.n l9.c) ∧ At w11 (addA q5 2) [(.int .i64 n6)] ∧ At w11 (addA q3 1) [(.slice l4.a l4.n l4.c)] ∧ NewL N w11 [] ([]) t_api_Lease fun b12 w13 => RunL PP N w13 [] (Builtin.append_ #[t_sl_api_Lease, t_sl_api_Lease] t_sl_api_Lease #[(.slice (some ⟨b12, 0, none⟩) 0 0), (.slice l4.a l4.n l4.c)]) fun r15 w16 => ∃ l14 : Sl, r15 = (.slice l14.a l14.n l14.c) ∧ At w16 (addA q5 2) [(.int .i64 n6)] ∧ NewL N w16 [] (⟨l9, l14, n6⟩ : G_cellplaneref25_Queue).cells t_cellplaneref25_Queue fun b17 w18 => Reb N w18 [] (Q (.pointer (some ⟨b17, 0, none⟩)))) ∧ (NewL N w8 [] ([]) t_api_Lease fun b19 w20 => RunL PP N w20 [] (Builtin.append_ #[t_sl_api_Item, t_sl_api_Item] t_sl_api_Item #[(.slice (some ⟨b7, 0, none⟩) 0 0), (.slice l2.a l2.n l2.c)]) fun r22 w23 => ∃ l21 : Sl, r22 = (.slice l21.a l21.n l21.c) ∧ At w23 (addA q5 2) [(.int .i64 n6)] ∧ At w23 (addA q3 1) [(.slice l4.a l4.n l4.c)] ∧ RunL PP N w23 [] (Builtin.append_ #[t_sl_api_Lease, t_sl_api_Lease] t_sl_api_Lease #[(.slice (some ⟨b19, 0, none⟩) 0 0), (.slice l4.a l4.n l4.c)]) fun r25 w26 => ∃ l24 : Sl, r25 = (.slice l24.a l24.n l24.c) ∧ At w26 (addA q5 2) [(.int .i64 n6)] ∧ NewL N w26 [] (⟨l21, l24, n6⟩ : G_cellplaneref25_Queue).cells t_cellplaneref25_Queue fun b27 w28 => Reb N w28 [] (Q (.pointer (some ⟨b27, 0, none⟩))))) ∧ (NewL N w [] ([]) t_api_Lease fun b29 w30 => NewL N w30 [] ([]) t_api_Item fun b31 w32 => RunL PP N w32 [] (Builtin.append_ #[t_sl_api_Item, t_sl_api_Item] t_sl_api_Item #[(.slice (some ⟨b31, 0, none⟩) 0 0), (.slice l2.a l2.n l2.c)]) fun r34 w35 => ∃ l33 : Sl, r34 = (.slice l33.a l33.n l33.c) ∧ At w35 (addA q5 2) [(.int .i64 n6)] ∧ At w35 (addA q3 1) [(.slice l4.a l4.n l4.c)] ∧ RunL PP N w35 [] (Builtin.append_ #[t_sl_api_Lease, t_sl_api_Lease] t_sl_api_Lease #[(.slice (some ⟨b29, 0, none⟩) 0 0), (.slice l4.a l4.n l4.c)]) fun r37 w38 => ∃ l36 : Sl, r37 = (.slice l36.a l36.n l36.c) ∧ At w38 (addA q5 2) [(.int .i64 n6)] ∧ NewL N w38 [] (⟨l33, l36, n6⟩ : G_cellplaneref25_Queue).cells t_cellplaneref25_Queue fun b39 w40 => Reb N w40 [] (Q (.pointer (some ⟨b39, 0, none⟩))))

theorem cellplaneref25_Queue_Copy_snd (N : Nat) (q0 : Option Addr) (Q : Value → World → Prop) (w : World) (h : F_cellplaneref25_Queue_Copy N q0 Q w) : Snd (cx N (fun d => memN d [])) (bodyOf Go.Proofs.Try.f46) (retD (cx N (fun d => memN d [])) Go.Proofs.Try.f46 Q) (entry 21 [(.pointer q0)]) w :=
  (den_sound okc mixed _ _ _ _ (mpr' (by kernel_rfl) h))

theorem cellplaneref25_Queue_Copy_calls (q0 : Option Addr) (Q : Value → World → Prop) (w : World) (h : F_cellplaneref25_Queue_Copy w.heap.size q0 Q w) : Calls PP n_cellplaneref25_Queue_Copy [(.pointer q0)].toArray w fun e w' => ∃ v, e = .returned v ∧ Q v w' :=
  calls_of (C := cx w.heap.size (fun d => memN d [])) (fn := Go.Proofs.Try.f46) (c := (bodyOf Go.Proofs.Try.f46)) (by kernel_rfl) (by kernel_rfl) (Nat.le_refl _) (cellplaneref25_Queue_Copy_snd _ q0 Q w h)
end Go.Sh
