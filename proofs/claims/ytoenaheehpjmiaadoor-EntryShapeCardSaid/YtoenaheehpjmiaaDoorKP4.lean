/- A part of the proof (printed smaller by a program of ours). Conditions: none. -/
import Derived.Test.YtoenaheehpjmiaaDoorKBase
namespace Go.Sh
open Go Go.Proofs
set_option linter.unusedVariables false
set_option maxRecDepth 100000
def j6 (N : Nat) (Q : VP) (B3' : Nat) (s3c' : aA) (T3' B4' : Nat) (v4c' : aA) (T4' : Nat) (w : World) : Prop :=
  Reb N w [⟨B3', ({ s3c' with High := (IntKind.i64.wrap (s3c'.High + 1)) } : aA).cells, T3'⟩, ⟨B4', ({ s3c' with High := (IntKind.i64.wrap (s3c'.High + 1)) } : aA).cells, T4'⟩] (Q (.tuple #[(.agg (List.toArray ({ s3c' with High := (IntKind.i64.wrap (s3c'.High + 1)) } : aA).cells)), (.int .i64 0)]))
noncomputable def rD (N : Nat) (Q : VP) : St → World → Prop := HG N 66 [.c 3 (.g aG), .c 4 (.g aG)] (j6 N Q)
theorem aOH (N : Nat) (Q : VP) (s : St) (w : World) (h : rD N Q s w) : Snd (cy N [2, 3, 4, 7]) (cR (cR (cR (bodyOf Tryd.f83)))) (retD (cy N [2, 3, 4, 7]) Tryd.f83 Q) s w :=
  Snd.HG h fun _ _ _ _ _ _ _ h => dsm h
noncomputable def kJ (N : Nat) (Q : VP) : Cont := (thenD (rD N Q) (retD (cy N [2, 3, 4, 7]) Tryd.f83 Q))
def kW (K : (Nat × aB × Nat × Nat × aA × Nat × Nat × Nat) → (aA × Int) → Prop) : List Value → List LB → Prop := fun vs ls => match vs, ls with
  | [.int .i64 i6'], [⟨B2', c2c'_r, T2'⟩, ⟨B3', s3c'_r, T3'⟩, ⟨B4', v4c'_r, T4'⟩] => aB.decL c2c'_r fun c2c' => aA.decL s3c'_r fun s3c' => aA.decL v4c'_r fun v4c' => K (B2', c2c', T2', B3', s3c', T3', B4', T4') (v4c', i6')
  | _, _ => False
noncomputable def eO : Code := (cL (cR (cL (cR (cR (bodyOf Tryd.f83))))))
noncomputable def rO (N : Nat) (K1 : (Nat × aB × Nat × Nat × aA × Nat × Nat × Nat) → (aA × Int) → World → Prop) (Q : VP) : Cont := (thenD (HeadK N 66 [.loc 2, .loc 3, .loc 4, .val 6] kW K1) (inBlockD 1 (kJ N Q)))
def kM (N : Nat) (K1 : (Nat × aB × Nat × Nat × aA × Nat × Nat × Nat) → (aA × Int) → World → Prop) (Q : VP) (B2' : Nat) (c2c' : aB) (T2' B3' : Nat) (s3c' : aA) (T3' B4' : Nat) (v4c' : aA) (T4' : Nat) (i6' : Int) (w : World) : Prop :=
  Reb N w [⟨B2', c2c'.cells, T2'⟩, ⟨B3', s3c'.cells, T3'⟩, ⟨B4', v4c'.cells, T4'⟩] fun w1 => K1 (B2', c2c', T2', B3', s3c', T3', B4', T4') (v4c', (IntKind.i64.wrap (i6' + 1))) w1
noncomputable def qV (N : Nat) (K1 : (Nat × aB × Nat × Nat × aA × Nat × Nat × Nat) → (aA × Int) → World → Prop) (Q : VP) : St → World → Prop := HG N 66 [.c 2 (.g aI), .c 3 (.g aG), .c 4 (.g aG), .v 6 (.i .i64)] (kM N K1 Q)
theorem aNS (N : Nat) (K1 : (Nat × aB × Nat × Nat × aA × Nat × Nat × Nat) → (aA × Int) → World → Prop) (Q : VP) (s : St) (w : World) (h : qV N K1 Q s w) : Snd (cy N [2, 3, 4, 7]) (cR (cR (cL eO))) (rO N K1 Q) s w :=
  Snd.HG h fun _ _ _ _ _ _ _ _ _ _ _ h => dsm h
noncomputable def aEC : Code := (cR (cL (cL (cR (cL eO)))))
noncomputable def aD6 (N : Nat) (K1 : (Nat × aB × Nat × Nat × aA × Nat × Nat × Nat) → (aA × Int) → World → Prop) (Q : VP) : Cont := (inBlockD 2 (thenD (qV N K1 Q) (rO N K1 Q)))
def gQ (N : Nat) (K1 : (Nat × aB × Nat × Nat × aA × Nat × Nat × Nat) → (aA × Int) → World → Prop) (Q : VP) (B2' : Nat) (c2c' : aB) (T2' B3' : Nat) (s3c' : aA) (T3' B4' : Nat) (v4c' : aA) (T4' : Nat) (i6' : Int) (v57' : Bool) (w : World) : Prop :=
  IfB v57' (CallL PP N w [⟨B2', c2c'.cells, T2'⟩, ⟨B3', s3c'.cells, T3'⟩, ⟨B4', v4c'.cells, T4'⟩] aN [(.int .i64 13)] fun r4 w5 => ∃ x2 : aA, ∃ n3 : Int, r4 = (.tuple #[(.agg (List.toArray x2.cells)), (.int .i64 n3)]) ∧ Reb N w5 [⟨B2', c2c'.cells, T2'⟩, ⟨B3', s3c'.cells, T3'⟩, ⟨B4', x2.cells, T4'⟩] (Q (.tuple #[(.agg (List.toArray x2.cells)), (.int .i64 n3)]))) (Reb N w [⟨B2', c2c'.cells, T2'⟩, ⟨B3', s3c'.cells, T3'⟩, ⟨B4', v4c'.cells, T4'⟩] fun w6 => kM N K1 Q B2' c2c' T2' B3' s3c' T3' B4' v4c' T4' i6' w6)
noncomputable def aEO (N : Nat) (K1 : (Nat × aB × Nat × Nat × aA × Nat × Nat × Nat) → (aA × Int) → World → Prop) (Q : VP) : St → World → Prop := HG N 66 [.c 2 (.g aI), .c 3 (.g aG), .c 4 (.g aG), .v 6 (.i .i64), .v 57 .b] (gQ N K1 Q)
theorem aNY (N : Nat) (K1 : (Nat × aB × Nat × Nat × aA × Nat × Nat × Nat) → (aA × Int) → World → Prop) (Q : VP) (s : St) (w : World) (h : aEO N K1 Q s w) : Snd (cy N [2, 3, 4, 7]) (cR aEC) (aD6 N K1 Q) s w :=
  Snd.HG h fun _ _ _ _ _ _ _ _ _ _ _ _ h => dsm h
def kH (N : Nat) (K1 : (Nat × aB × Nat × Nat × aA × Nat × Nat × Nat) → (aA × Int) → World → Prop) (Q : VP) (B2' : Nat) (c2c' : aB) (T2' B3' : Nat) (s3c' : aA) (T3' B4' : Nat) (v4c' : aA) (T4' : Nat) (i6' : Int) (B7' : Nat) (x7c' : aL) (T7' : Nat) (w : World) : Prop :=
  IdxL c2c'.Versions.a c2c'.Versions.n x7c'.Running fun q7 => ∃ n8 : Int, At w (addA (q7.add ((x7c'.Running : Int).toNat * 2)) 1) [(.int .i64 n8)] ∧ NotIn ((addA (q7.add ((x7c'.Running : Int).toNat * 2)) 1) : Addr).block [⟨B2', c2c'.cells, T2'⟩, ⟨B3', s3c'.cells, T3'⟩, ⟨B4', v4c'.cells, T4'⟩, ⟨B7', x7c'.cells, T7'⟩] ∧ IfB (decide ((n8 : Int) ≤ s3c'.High)) (Reb N w [⟨B2', c2c'.cells, T2'⟩, ⟨B3', s3c'.cells, T3'⟩, ⟨B4', v4c'.cells, T4'⟩, ⟨B7', x7c'.cells, T7'⟩] fun w9 => gQ N K1 Q B2' c2c' T2' B3' s3c' T3' B4' v4c' T4' i6' true w9) (IdxL c2c'.Versions.a c2c'.Versions.n x7c'.Wanted fun q10 => ∃ n11 : Int, At w (addA (q10.add ((x7c'.Wanted : Int).toNat * 2)) 1) [(.int .i64 n11)] ∧ NotIn ((addA (q10.add ((x7c'.Wanted : Int).toNat * 2)) 1) : Addr).block [⟨B2', c2c'.cells, T2'⟩, ⟨B3', s3c'.cells, T3'⟩, ⟨B4', v4c'.cells, T4'⟩, ⟨B7', x7c'.cells, T7'⟩] ∧ Reb N w [⟨B2', c2c'.cells, T2'⟩, ⟨B3', s3c'.cells, T3'⟩, ⟨B4', v4c'.cells, T4'⟩, ⟨B7', x7c'.cells, T7'⟩] fun w12 => gQ N K1 Q B2' c2c' T2' B3' s3c' T3' B4' v4c' T4' i6' (decide ((n11 : Int) ≤ s3c'.High)) w12)
noncomputable def aEX (N : Nat) (K1 : (Nat × aB × Nat × Nat × aA × Nat × Nat × Nat) → (aA × Int) → World → Prop) (Q : VP) : St → World → Prop := HG N 66 [.c 2 (.g aI), .c 3 (.g aG), .c 4 (.g aG), .v 6 (.i .i64), .c 7 (.g dR)] (kH N K1 Q)
theorem aOD (N : Nat) (K1 : (Nat × aB × Nat × Nat × aA × Nat × Nat × Nat) → (aA × Int) → World → Prop) (Q : VP) (s : St) (w : World) (h : aEX N K1 Q s w) : Snd (cy N [2, 3, 4, 7]) aEC (aD6 N K1 Q) s w :=
  Snd.HG h fun B2' c2c' T2' B3' s3c' T3' B4' v4c' T4' i6' B7' x7c' T7' w h => (sq (aEO N K1 Q) (dsm h) (aNY N K1 Q))
def j5 (N : Nat) (K1 : (Nat × aB × Nat × Nat × aA × Nat × Nat × Nat) → (aA × Int) → World → Prop) (Q : VP) (B2' : Nat) (c2c' : aB) (T2' B3' : Nat) (s3c' : aA) (T3' B4' : Nat) (v4c' : aA) (T4' : Nat) (i6' : Int) (w : World) : Prop :=
  IdxL s3c'.Cells.a s3c'.Cells.n i6' fun q13 => ∃ x14 : aL, At w (q13.add ((i6' : Int).toNat * 4)) x14.cells ∧ NotIn ((q13.add ((i6' : Int).toNat * 4)) : Addr).block [⟨B2', c2c'.cells, T2'⟩, ⟨B3', s3c'.cells, T3'⟩, ⟨B4', v4c'.cells, T4'⟩] ∧ ∀ b15 : Nat, w.heap.size ≤ b15 → Reb N w [⟨B2', c2c'.cells, T2'⟩, ⟨B3', s3c'.cells, T3'⟩, ⟨B4', v4c'.cells, T4'⟩, ⟨b15, x14.cells, bY⟩] fun w16 => kH N K1 Q B2' c2c' T2' B3' s3c' T3' B4' v4c' T4' i6' b15 x14 bY w16
noncomputable def aEM (N : Nat) (K1 : (Nat × aB × Nat × Nat × aA × Nat × Nat × Nat) → (aA × Int) → World → Prop) (Q : VP) : St → World → Prop := HG N 66 [.c 2 (.g aI), .c 3 (.g aG), .c 4 (.g aG), .v 6 (.i .i64)] (j5 N K1 Q)
theorem aN4 (N : Nat) (K1 : (Nat × aB × Nat × Nat × aA × Nat × Nat × Nat) → (aA × Int) → World → Prop) (Q : VP) (s : St) (w : World) (h : aEM N K1 Q s w) : Snd (cy N [2, 3, 4, 7]) (cR (cL eO)) (rO N K1 Q) s w :=
  Snd.HG h fun B2' c2c' T2' B3' s3c' T3' B4' v4c' T4' i6' w h => (sq (qV N K1 Q) (bk 2 (sq (aEX N K1 Q) (dsm h) (aOD N K1 Q))) (aNS N K1 Q))
def sS (N : Nat) (K1 : (Nat × aB × Nat × Nat × aA × Nat × Nat × Nat) → (aA × Int) → World → Prop) (Q : VP) (B2' : Nat) (c2c' : aB) (T2' B3' : Nat) (s3c' : aA) (T3' B4' : Nat) (v4c' : aA) (T4' : Nat) (i6' : Int) (w : World) : Prop :=
  IfB (decide ((i6' : Int) < ((s3c'.Cells.n : Nat) : Int))) (Reb N w [⟨B2', c2c'.cells, T2'⟩, ⟨B3', s3c'.cells, T3'⟩, ⟨B4', v4c'.cells, T4'⟩] fun w17 => j5 N K1 Q B2' c2c' T2' B3' s3c' T3' B4' v4c' T4' i6' w17) (Reb N w [⟨B2', c2c'.cells, T2'⟩, ⟨B3', s3c'.cells, T3'⟩, ⟨B4', v4c'.cells, T4'⟩] fun w18 => j6 N Q B3' s3c' T3' B4' v4c' T4' w18)
theorem aNJ {N : Nat} {K1 : (Nat × aB × Nat × Nat × aA × Nat × Nat × Nat) → (aA × Int) → World → Prop} {Q : VP} {B2' : Nat} {c2c' : aB} {T2' B3' : Nat} {s3c' : aA} {T3' B4' : Nat} {v4c' : aA} {T4' : Nat} {i6' : Int} {w : World} (h : sS N K1 Q B2' c2c' T2' B3' s3c' T3' B4' v4c' T4' i6' w) : Snd (cy N [2, 3, 4, 7]) (cL eO) (thenD (HeadK N 66 [.loc 2, .loc 3, .loc 4, .val 6] kW K1) (inBlockD 1 (kJ N Q))) (mkS 66 [.loc 2, .loc 3, .loc 4, .val 6] [(.int .i64 i6')] [⟨B2', c2c'.cells, T2'⟩, ⟨B3', s3c'.cells, T3'⟩, ⟨B4', v4c'.cells, T4'⟩]) w :=
  (sq (aEM N K1 Q) (dsm h) (aN4 N K1 Q))
def tT (N : Nat) (Q : VP) (K1 : (Nat × aB × Nat × Nat × aA × Nat × Nat × Nat) → (aA × Int) → World → Prop) (c : Nat × aB × Nat × Nat × aA × Nat × Nat × Nat) (x : aA × Int) (w : World) : Prop := match c, x with
  | (B2', c2c', T2', B3', s3c', T3', B4', T4'), (v4c', i6') => sS N K1 Q B2' c2c' T2' B3' s3c' T3' B4' v4c' T4' i6' w
theorem aN6 (N : Nat) (Q : VP) {s : St} {w : World} (h : HeadE N 66 [.loc 2, .loc 3, .loc 4, .val 6] kW (tT N Q) s w) : Snd (cy N [2, 3, 4, 7]) eO (inBlockD 1 (kJ N Q)) s w := by
  refine Snd.cast (c' := .loop (cL eO)) (by kernel_rfl) (Snd.loopC (fun (c : Nat × aB × Nat × Nat × aA × Nat × Nat × Nat) (x : aA × Int) => match c, x with | (B2', c2c', T2', B3', s3c', T3', B4', T4'), (v4c', i6') => ([(.int .i64 i6')], [⟨B2', c2c'.cells, T2'⟩, ⟨B3', s3c'.cells, T3'⟩, ⟨B4', v4c'.cells, T4'⟩])) ?_ ?_ h)
  · intro K vs ls h
    unfold kW at h
    split at h
    · obtain ⟨c2c', rfl, h0⟩ := aB.aQ h
      obtain ⟨s3c', rfl, h1⟩ := aA.aQ h0
      obtain ⟨v4c', rfl, h2⟩ := aA.aQ h1
      exact ⟨_, _, rfl, h2⟩
    · exact h.elim
  · rintro K ⟨B2', c2c', T2', B3', s3c', T3', B4', T4'⟩ ⟨v4c', i6'⟩ w h
    exact aNJ h
def kS (N : Nat) (Q : VP) (B2' : Nat) (c2c' : aB) (T2' B3' : Nat) (s3c' : aA) (T3' B4' : Nat) (v4c' : aA) (T4' : Nat) (i6' : Int) (w : World) : Prop :=
  LoopC N w [⟨B2', c2c'.cells, T2'⟩, ⟨B3', s3c'.cells, T3'⟩, ⟨B4', v4c'.cells, T4'⟩] ((B2', c2c', T2', B3', s3c', T3', B4', T4') : Nat × aB × Nat × Nat × aA × Nat × Nat × Nat) ((v4c', i6') : aA × Int) (tT N Q)
noncomputable def aEY (N : Nat) (Q : VP) : St → World → Prop := HG N 66 [.c 2 (.g aI), .c 3 (.g aG), .c 4 (.g aG), .v 6 (.i .i64)] (kS N Q)
theorem aM2 (N : Nat) (Q : VP) (s : St) (w : World) (h : aEY N Q s w) : Snd (cy N [2, 3, 4, 7]) (cR (cL (cR (cR (bodyOf Tryd.f83))))) (kJ N Q) s w :=
  Snd.HG h fun B2' c2c' T2' B3' s3c' T3' B4' v4c' T4' i6' w h => (bk 1 (aN6 N Q (mpr' (by kernel_rfl) h)))
def kP (N : Nat) (Q : VP) (B2' : Nat) (c2c' : aB) (T2' B3' : Nat) (s3c' : aA) (T3' B4' : Nat) (v4c' : aA) (T4' : Nat) (w : World) : Prop :=
  Reb N w [⟨B2', c2c'.cells, T2'⟩, ⟨B3', s3c'.cells, T3'⟩, ⟨B4', v4c'.cells, T4'⟩] fun w19 => kS N Q B2' c2c' T2' B3' s3c' T3' B4' v4c' T4' 0 w19
noncomputable def aEI (N : Nat) (Q : VP) : St → World → Prop := HG N 66 [.c 2 (.g aI), .c 3 (.g aG), .c 4 (.g aG)] (kP N Q)
theorem aNW (N : Nat) (Q : VP) (s : St) (w : World) (h : aEI N Q s w) : Snd (cy N [2, 3, 4, 7]) (cR (cR (bodyOf Tryd.f83))) (retD (cy N [2, 3, 4, 7]) Tryd.f83 Q) s w :=
  Snd.HG h fun B2' c2c' T2' B3' s3c' T3' B4' v4c' T4' w h => (sq (rD N Q) (sq (aEY N Q) (dsm h) (aM2 N Q)) (aOH N Q))
def kT (N : Nat) (Q : VP) (B2' : Nat) (c2c' : aB) (T2' B3' : Nat) (s3c' : aA) (T3' B4' : Nat) (v4c' : aA) (T4' : Nat) (w : World) : Prop :=
  IfB (decide ((s3c'.Low : Int) < s3c'.High)) (CallL PP N w [⟨B2', c2c'.cells, T2'⟩, ⟨B3', s3c'.cells, T3'⟩, ⟨B4', v4c'.cells, T4'⟩] aN [(.int .i64 4)] fun r22 w23 => ∃ x20 : aA, ∃ n21 : Int, r22 = (.tuple #[(.agg (List.toArray x20.cells)), (.int .i64 n21)]) ∧ Reb N w23 [⟨B2', c2c'.cells, T2'⟩, ⟨B3', s3c'.cells, T3'⟩, ⟨B4', x20.cells, T4'⟩] (Q (.tuple #[(.agg (List.toArray x20.cells)), (.int .i64 n21)]))) (IfB (decide ((30 : Int) ≤ s3c'.High)) (CallL PP N w [⟨B2', c2c'.cells, T2'⟩, ⟨B3', s3c'.cells, T3'⟩, ⟨B4', v4c'.cells, T4'⟩] aN [(.int .i64 2)] fun r26 w27 => ∃ x24 : aA, ∃ n25 : Int, r26 = (.tuple #[(.agg (List.toArray x24.cells)), (.int .i64 n25)]) ∧ Reb N w27 [⟨B2', c2c'.cells, T2'⟩, ⟨B3', s3c'.cells, T3'⟩, ⟨B4', x24.cells, T4'⟩] (Q (.tuple #[(.agg (List.toArray x24.cells)), (.int .i64 n25)]))) (Reb N w [⟨B2', c2c'.cells, T2'⟩, ⟨B3', s3c'.cells, T3'⟩, ⟨B4', v4c'.cells, T4'⟩] fun w28 => kP N Q B2' c2c' T2' B3' s3c' T3' B4' v4c' T4' w28))
noncomputable def aEU (N : Nat) (Q : VP) : St → World → Prop := HG N 66 [.c 2 (.g aI), .c 3 (.g aG), .c 4 (.g aG)] (kT N Q)
theorem aOY (N : Nat) (Q : VP) (s : St) (w : World) (h : aEU N Q s w) : Snd (cy N [2, 3, 4, 7]) (cR (bodyOf Tryd.f83)) (retD (cy N [2, 3, 4, 7]) Tryd.f83 Q) s w :=
  Snd.HG h fun B2' c2c' T2' B3' s3c' T3' B4' v4c' T4' w h => (sq (aEI N Q) (dsm h) (aNW N Q))
def wV (N : Nat) (c0 : aB) (s1 : aA) (Q : VP) (w : World) : Prop :=
  ∀ b29 : Nat, w.heap.size ≤ b29 → ∀ b30 : Nat, w.heap.size ≤ b30 → ∀ b31 : Nat, w.heap.size ≤ b31 → Reb N w [⟨b29, c0.cells, aH⟩, ⟨b30, s1.cells, aF⟩, ⟨b31, (⟨0, 0, (⟨none, 0, 0⟩ : Sl), (⟨none, 0, 0⟩ : Sl), 0, 0, 0, 0⟩ : aA).cells, aF⟩] fun w32 => kT N Q b29 c0 aH b30 s1 aF b31 (⟨0, 0, (⟨none, 0, 0⟩ : Sl), (⟨none, 0, 0⟩ : Sl), 0, 0, 0, 0⟩ : aA) aF w32
theorem aOL (N : Nat) (c0 : aB) (s1 : aA) (Q : VP) (w : World) (h : wV N c0 s1 Q w) : Snd (cy N [2, 3, 4, 7]) (bodyOf Tryd.f83) (retD (cy N [2, 3, 4, 7]) Tryd.f83 Q) (entry 66 [(.agg (List.toArray c0.cells)), (.agg (List.toArray s1.cells))]) w :=
  (sq (aEU N Q) (dsm h) (aOY N Q))
theorem aJ2 (c0 : aB) (s1 : aA) (Q : VP) (w : World) (h : wV w.heap.size c0 s1 Q w) : Calls PP yM [(.agg (List.toArray c0.cells)), (.agg (List.toArray s1.cells))].toArray w fun e w' => ∃ v, e = .returned v ∧ Q v w' :=
  calls_of (C := cy w.heap.size [2, 3, 4, 7]) (fn := Tryd.f83) (c := (bodyOf Tryd.f83)) (by kernel_rfl) (by kernel_rfl) (Nat.le_refl _) (aOL _ c0 s1 Q w h)
def jD (N : Nat) (Q : VP) (l0' : Sl) (i1' n2' : Int) (v13' : Bool) (w : World) : Prop :=
  IfB v13' (IdxL l0'.a l0'.n i1' fun q1 => ∃ n3 : Int, At w (q1.add ((i1' : Int).toNat * 1)) [(.int .i64 n3)] ∧ NotIn ((q1.add ((i1' : Int).toNat * 1)) : Addr).block [] ∧ IdxL l0'.a l0'.n i1' fun q4 => StL w [] (q4.add ((i1' : Int).toNat * 1)) [(.int .i64 (IntKind.i64.wrap (n3 + n2')))] fun w5 => Reb N w5 [] (Q (.tuple #[]))) (Reb N w [] (Q (.tuple #[])))
noncomputable def aHN (N : Nat) (Q : VP) : St → World → Prop := HG N 23 [.v 0 .l, .v 1 (.i .i64), .v 2 (.i .i64), .v 13 .b] (jD N Q)
theorem aT9 (N : Nat) (Q : VP) (s : St) (w : World) (h : aHN N Q s w) : Snd (cy N []) (cR (bodyOf Tryd.f95)) (retD (cy N []) Tryd.f95 Q) s w :=
  Snd.HG h fun _ _ _ _ _ h => dsm h
def aCO (N : Nat) (l0 : Sl) (i1 : Int) (n2 : Int) (Q : VP) (w : World) : Prop :=
  IfB (decide ((0 : Int) ≤ i1)) (Reb N w [] fun w6 => jD N Q l0 i1 n2 (decide ((i1 : Int) < ((l0.n : Nat) : Int))) w6) (Reb N w [] fun w7 => jD N Q l0 i1 n2 false w7)
theorem aUY (N : Nat) (l0 : Sl) (i1 : Int) (n2 : Int) (Q : VP) (w : World) (h : aCO N l0 i1 n2 Q w) : Snd (cy N []) (bodyOf Tryd.f95) (retD (cy N []) Tryd.f95 Q) (entry 23 [(.slice l0.a l0.n l0.c), (.int .i64 i1), (.int .i64 n2)]) w :=
  (sq (aHN N Q) (dsm h) (aT9 N Q))
theorem aPQ (l0 : Sl) (i1 : Int) (n2 : Int) (Q : VP) (w : World) (h : aCO w.heap.size l0 i1 n2 Q w) : Calls PP gH [(.slice l0.a l0.n l0.c), (.int .i64 i1), (.int .i64 n2)].toArray w fun e w' => ∃ v, e = .returned v ∧ Q v w' :=
  calls_of (C := cy w.heap.size []) (fn := Tryd.f95) (c := (bodyOf Tryd.f95)) (by kernel_rfl) (by kernel_rfl) (Nat.le_refl _) (aUY _ l0 i1 n2 Q w h)
def rR (N : Nat) (Q : VP) (out5' : Sl) (w : World) : Prop :=
  Reb N w [] (Q (.slice out5'.a out5'.n out5'.c))
noncomputable def sO (N : Nat) (Q : VP) : St → World → Prop := HG N 61 [.v 5 .l] (rR N Q)
theorem aNV (N : Nat) (Q : VP) (s : St) (w : World) (h : sO N Q s w) : Snd (cy N [2, 3, 7, 8]) (cR (cR (cR (bodyOf Tryd.f94)))) (retD (cy N [2, 3, 7, 8]) Tryd.f94 Q) s w :=
  Snd.HG h fun _ _ h => dsm h
noncomputable def kX (N : Nat) (Q : VP) : Cont := (thenD (sO N Q) (retD (cy N [2, 3, 7, 8]) Tryd.f94 Q))
def kK (K : (Nat × aB × Nat × Nat × aA × Nat × Sl) → (Int) → Prop) : List Value → List LB → Prop := fun vs ls => match vs, ls with
  | [.slice out5'_a out5'_n out5'_c, .int .i64 i6'], [⟨B2', c2c'_r, T2'⟩, ⟨B3', s3c'_r, T3'⟩] => aB.decL c2c'_r fun c2c' => aA.decL s3c'_r fun s3c' => K (B2', c2c', T2', B3', s3c', T3', ⟨out5'_a, out5'_n, out5'_c⟩) i6'
  | _, _ => False
noncomputable def eG : Code := (cL (cR (cL (cR (cR (bodyOf Tryd.f94))))))
noncomputable def rC (N : Nat) (K1 : (Nat × aB × Nat × Nat × aA × Nat × Sl) → (Int) → World → Prop) (Q : VP) : Cont := (thenD (HeadK N 61 [.loc 2, .loc 3, .val 5, .val 6] kK K1) (inBlockD 0 (kX N Q)))
def gV (N : Nat) (K1 : (Nat × aB × Nat × Nat × aA × Nat × Sl) → (Int) → World → Prop) (Q : VP) (B2' : Nat) (c2c' : aB) (T2' B3' : Nat) (s3c' : aA) (T3' : Nat) (out5' : Sl) (i6' : Int) (w : World) : Prop :=
  Reb N w [⟨B2', c2c'.cells, T2'⟩, ⟨B3', s3c'.cells, T3'⟩] fun w1 => K1 (B2', c2c', T2', B3', s3c', T3', out5') (IntKind.i64.wrap (i6' + 1)) w1
noncomputable def tH (N : Nat) (K1 : (Nat × aB × Nat × Nat × aA × Nat × Sl) → (Int) → World → Prop) (Q : VP) : St → World → Prop := HG N 61 [.c 2 (.g aI), .c 3 (.g aG), .v 5 .l, .v 6 (.i .i64)] (gV N K1 Q)
theorem aOO (N : Nat) (K1 : (Nat × aB × Nat × Nat × aA × Nat × Sl) → (Int) → World → Prop) (Q : VP) (s : St) (w : World) (h : tH N K1 Q s w) : Snd (cy N [2, 3, 7, 8]) (cR (cR (cL eG))) (rC N K1 Q) s w :=
  Snd.HG h fun _ _ _ _ _ _ _ _ _ h => dsm h
noncomputable def sW : Code := (cR (cL (cL (cR (cL eG)))))
noncomputable def sN (N : Nat) (K1 : (Nat × aB × Nat × Nat × aA × Nat × Sl) → (Int) → World → Prop) (Q : VP) : Cont := (inBlockD 1 (thenD (tH N K1 Q) (rC N K1 Q)))
def gI (N : Nat) (K1 : (Nat × aB × Nat × Nat × aA × Nat × Sl) → (Int) → World → Prop) (Q : VP) (B2' : Nat) (c2c' : aB) (T2' B3' : Nat) (s3c' : aA) (T3' : Nat) (out5' : Sl) (i6' : Int) (B7' : Nat) (t7c' : aJ) (T7' B8' : Nat) (d8c' : aO) (T8' : Nat) (w : World) : Prop :=
  CallL PP N w [⟨B2', c2c'.cells, T2'⟩, ⟨B3', s3c'.cells, T3'⟩, ⟨B7', t7c'.cells, T7'⟩, ⟨B8', d8c'.cells, T8'⟩] gH [(.slice out5'.a out5'.n out5'.c), (.int .i64 t7c'.Standby), (.int .i64 d8c'.Shadow)] fun r2 w3 => r2 = (.tuple #[]) ∧ CallL PP N w3 [⟨B2', c2c'.cells, T2'⟩, ⟨B3', s3c'.cells, T3'⟩, ⟨B7', t7c'.cells, T7'⟩, ⟨B8', d8c'.cells, T8'⟩] gH [(.slice out5'.a out5'.n out5'.c), (.int .i64 t7c'.Next), (.int .i64 d8c'.Shadow)] fun r4 w5 => r4 = (.tuple #[]) ∧ Reb N w5 [⟨B2', c2c'.cells, T2'⟩, ⟨B3', s3c'.cells, T3'⟩, ⟨B7', t7c'.cells, T7'⟩, ⟨B8', d8c'.cells, T8'⟩] fun w6 => gV N K1 Q B2' c2c' T2' B3' s3c' T3' out5' i6' w6
noncomputable def aCH (N : Nat) (K1 : (Nat × aB × Nat × Nat × aA × Nat × Sl) → (Int) → World → Prop) (Q : VP) : St → World → Prop := HG N 61 [.c 2 (.g aI), .c 3 (.g aG), .v 5 .l, .v 6 (.i .i64), .c 7 (.g bF), .c 8 (.g aHU)] (gI N K1 Q)
theorem aKS (N : Nat) (K1 : (Nat × aB × Nat × Nat × aA × Nat × Sl) → (Int) → World → Prop) (Q : VP) (s : St) (w : World) (h : aCH N K1 Q s w) : Snd (cy N [2, 3, 7, 8]) (cR (cR sW)) (sN N K1 Q) s w :=
  Snd.HG h fun _ _ _ _ _ _ _ _ _ _ _ _ _ _ _ h => dsm h
def rJ (N : Nat) (K1 : (Nat × aB × Nat × Nat × aA × Nat × Sl) → (Int) → World → Prop) (Q : VP) (B2' : Nat) (c2c' : aB) (T2' B3' : Nat) (s3c' : aA) (T3' : Nat) (out5' : Sl) (i6' : Int) (B7' : Nat) (t7c' : aJ) (T7' B8' : Nat) (d8c' : aO) (T8' : Nat) (w : World) : Prop :=
  IfB (!t7c'.Shed) (CallL PP N w [⟨B2', c2c'.cells, T2'⟩, ⟨B3', s3c'.cells, T3'⟩, ⟨B7', t7c'.cells, T7'⟩, ⟨B8', d8c'.cells, T8'⟩] gH [(.slice out5'.a out5'.n out5'.c), (.int .i64 t7c'.Home), (.int .i64 d8c'.Load)] fun r7 w8 => r7 = (.tuple #[]) ∧ CallL PP N w8 [⟨B2', c2c'.cells, T2'⟩, ⟨B3', s3c'.cells, T3'⟩, ⟨B7', t7c'.cells, T7'⟩, ⟨B8', d8c'.cells, T8'⟩] gH [(.slice out5'.a out5'.n out5'.c), (.int .i64 t7c'.Target), (.int .i64 d8c'.Load)] fun r9 w10 => r9 = (.tuple #[]) ∧ Reb N w10 [⟨B2', c2c'.cells, T2'⟩, ⟨B3', s3c'.cells, T3'⟩, ⟨B7', t7c'.cells, T7'⟩, ⟨B8', d8c'.cells, T8'⟩] fun w11 => gI N K1 Q B2' c2c' T2' B3' s3c' T3' out5' i6' B7' t7c' T7' B8' d8c' T8' w11) (Reb N w [⟨B2', c2c'.cells, T2'⟩, ⟨B3', s3c'.cells, T3'⟩, ⟨B7', t7c'.cells, T7'⟩, ⟨B8', d8c'.cells, T8'⟩] fun w12 => gI N K1 Q B2' c2c' T2' B3' s3c' T3' out5' i6' B7' t7c' T7' B8' d8c' T8' w12)
noncomputable def aD3 (N : Nat) (K1 : (Nat × aB × Nat × Nat × aA × Nat × Sl) → (Int) → World → Prop) (Q : VP) : St → World → Prop := HG N 61 [.c 2 (.g aI), .c 3 (.g aG), .v 5 .l, .v 6 (.i .i64), .c 7 (.g bF), .c 8 (.g aHU)] (rJ N K1 Q)
theorem aOS (N : Nat) (K1 : (Nat × aB × Nat × Nat × aA × Nat × Sl) → (Int) → World → Prop) (Q : VP) (s : St) (w : World) (h : aD3 N K1 Q s w) : Snd (cy N [2, 3, 7, 8]) (cR sW) (sN N K1 Q) s w :=
  Snd.HG h fun B2' c2c' T2' B3' s3c' T3' out5' i6' B7' t7c' T7' B8' d8c' T8' w h => (sq (aCH N K1 Q) (dsm h) (aKS N K1 Q))
def gX (N : Nat) (K1 : (Nat × aB × Nat × Nat × aA × Nat × Sl) → (Int) → World → Prop) (Q : VP) (B2' : Nat) (c2c' : aB) (T2' B3' : Nat) (s3c' : aA) (T3' : Nat) (out5' : Sl) (i6' : Int) (B7' : Nat) (t7c' : aJ) (T7' B8' : Nat) (d8c' : aO) (T8' : Nat) (w : World) : Prop :=
  IfB (!t7c'.Placed) (Reb N w [⟨B2', c2c'.cells, T2'⟩, ⟨B3', s3c'.cells, T3'⟩, ⟨B7', t7c'.cells, T7'⟩, ⟨B8', d8c'.cells, T8'⟩] fun w13 => gV N K1 Q B2' c2c' T2' B3' s3c' T3' out5' i6' w13) (Reb N w [⟨B2', c2c'.cells, T2'⟩, ⟨B3', s3c'.cells, T3'⟩, ⟨B7', t7c'.cells, T7'⟩, ⟨B8', d8c'.cells, T8'⟩] fun w14 => rJ N K1 Q B2' c2c' T2' B3' s3c' T3' out5' i6' B7' t7c' T7' B8' d8c' T8' w14)
noncomputable def aD9 (N : Nat) (K1 : (Nat × aB × Nat × Nat × aA × Nat × Sl) → (Int) → World → Prop) (Q : VP) : St → World → Prop := HG N 61 [.c 2 (.g aI), .c 3 (.g aG), .v 5 .l, .v 6 (.i .i64), .c 7 (.g bF), .c 8 (.g aHU)] (gX N K1 Q)
theorem aNF (N : Nat) (K1 : (Nat × aB × Nat × Nat × aA × Nat × Sl) → (Int) → World → Prop) (Q : VP) (s : St) (w : World) (h : aD9 N K1 Q s w) : Snd (cy N [2, 3, 7, 8]) sW (sN N K1 Q) s w :=
  Snd.HG h fun B2' c2c' T2' B3' s3c' T3' out5' i6' B7' t7c' T7' B8' d8c' T8' w h => (sq (aD3 N K1 Q) (dsm h) (aOS N K1 Q))
def tF (N : Nat) (K1 : (Nat × aB × Nat × Nat × aA × Nat × Sl) → (Int) → World → Prop) (Q : VP) (B2' : Nat) (c2c' : aB) (T2' B3' : Nat) (s3c' : aA) (T3' : Nat) (out5' : Sl) (i6' : Int) (w : World) : Prop :=
  IdxL s3c'.Tenants.a s3c'.Tenants.n i6' fun q15 => ∃ x16 : aJ, At w (q15.add ((i6' : Int).toNat * 12)) x16.cells ∧ NotIn ((q15.add ((i6' : Int).toNat * 12)) : Addr).block [⟨B2', c2c'.cells, T2'⟩, ⟨B3', s3c'.cells, T3'⟩] ∧ IdxL c2c'.Tenants.a c2c'.Tenants.n i6' fun q17 => ∃ x18 : aO, At w (q17.add ((i6' : Int).toNat * 7)) x18.cells ∧ NotIn ((q17.add ((i6' : Int).toNat * 7)) : Addr).block [⟨B2', c2c'.cells, T2'⟩, ⟨B3', s3c'.cells, T3'⟩] ∧ (∀ b19 : Nat, w.heap.size ≤ b19 → ∀ b20 : Nat, w.heap.size ≤ b20 → Reb N w [⟨B2', c2c'.cells, T2'⟩, ⟨B3', s3c'.cells, T3'⟩, ⟨b19, x16.cells, aR⟩, ⟨b20, x18.cells, aY⟩] fun w21 => gX N K1 Q B2' c2c' T2' B3' s3c' T3' out5' i6' b19 x16 aR b20 x18 aY w21) ∧ (∀ b22 : Nat, w.heap.size ≤ b22 → ∀ b23 : Nat, w.heap.size ≤ b23 → Reb N w [⟨B2', c2c'.cells, T2'⟩, ⟨B3', s3c'.cells, T3'⟩, ⟨b22, x18.cells, aY⟩, ⟨b23, x16.cells, aR⟩] fun w24 => gX N K1 Q B2' c2c' T2' B3' s3c' T3' out5' i6' b23 x16 aR b22 x18 aY w24)
noncomputable def aEJ (N : Nat) (K1 : (Nat × aB × Nat × Nat × aA × Nat × Sl) → (Int) → World → Prop) (Q : VP) : St → World → Prop := HG N 61 [.c 2 (.g aI), .c 3 (.g aG), .v 5 .l, .v 6 (.i .i64)] (tF N K1 Q)
theorem aNP (N : Nat) (K1 : (Nat × aB × Nat × Nat × aA × Nat × Sl) → (Int) → World → Prop) (Q : VP) (s : St) (w : World) (h : aEJ N K1 Q s w) : Snd (cy N [2, 3, 7, 8]) (cR (cL eG)) (rC N K1 Q) s w :=
  Snd.HG h fun B2' c2c' T2' B3' s3c' T3' out5' i6' w h => (sq (tH N K1 Q) (bk 1 (sq (aD9 N K1 Q) (dsm h) (aNF N K1 Q))) (aOO N K1 Q))
def qX (N : Nat) (K1 : (Nat × aB × Nat × Nat × aA × Nat × Sl) → (Int) → World → Prop) (Q : VP) (B2' : Nat) (c2c' : aB) (T2' B3' : Nat) (s3c' : aA) (T3' : Nat) (out5' : Sl) (i6' : Int) (w : World) : Prop :=
  IfB (decide ((i6' : Int) < ((s3c'.Tenants.n : Nat) : Int))) (Reb N w [⟨B2', c2c'.cells, T2'⟩, ⟨B3', s3c'.cells, T3'⟩] fun w25 => tF N K1 Q B2' c2c' T2' B3' s3c' T3' out5' i6' w25) (Reb N w [⟨B2', c2c'.cells, T2'⟩, ⟨B3', s3c'.cells, T3'⟩] fun w26 => rR N Q out5' w26)
theorem aNE {N : Nat} {K1 : (Nat × aB × Nat × Nat × aA × Nat × Sl) → (Int) → World → Prop} {Q : VP} {B2' : Nat} {c2c' : aB} {T2' B3' : Nat} {s3c' : aA} {T3' : Nat} {out5' : Sl} {i6' : Int} {w : World} (h : qX N K1 Q B2' c2c' T2' B3' s3c' T3' out5' i6' w) : Snd (cy N [2, 3, 7, 8]) (cL eG) (thenD (HeadK N 61 [.loc 2, .loc 3, .val 5, .val 6] kK K1) (inBlockD 0 (kX N Q))) (mkS 61 [.loc 2, .loc 3, .val 5, .val 6] [(.slice out5'.a out5'.n out5'.c), (.int .i64 i6')] [⟨B2', c2c'.cells, T2'⟩, ⟨B3', s3c'.cells, T3'⟩]) w :=
  (sq (aEJ N K1 Q) (dsm h) (aNP N K1 Q))
def tN (N : Nat) (Q : VP) (K1 : (Nat × aB × Nat × Nat × aA × Nat × Sl) → (Int) → World → Prop) (c : Nat × aB × Nat × Nat × aA × Nat × Sl) (x : Int) (w : World) : Prop := match c, x with
  | (B2', c2c', T2', B3', s3c', T3', out5'), i6' => qX N K1 Q B2' c2c' T2' B3' s3c' T3' out5' i6' w
theorem aM8 (N : Nat) (Q : VP) {s : St} {w : World} (h : HeadE N 61 [.loc 2, .loc 3, .val 5, .val 6] kK (tN N Q) s w) : Snd (cy N [2, 3, 7, 8]) eG (inBlockD 0 (kX N Q)) s w := by
  refine Snd.cast (c' := .loop (cL eG)) (by kernel_rfl) (Snd.loopC (fun (c : Nat × aB × Nat × Nat × aA × Nat × Sl) (x : Int) => match c, x with | (B2', c2c', T2', B3', s3c', T3', out5'), i6' => ([(.slice out5'.a out5'.n out5'.c), (.int .i64 i6')], [⟨B2', c2c'.cells, T2'⟩, ⟨B3', s3c'.cells, T3'⟩])) ?_ ?_ h)
  · intro K vs ls h
    unfold kK at h
    split at h
    · obtain ⟨c2c', rfl, h0⟩ := aB.aQ h
      obtain ⟨s3c', rfl, h1⟩ := aA.aQ h0
      exact ⟨_, _, rfl, h1⟩
    · exact h.elim
  · rintro K ⟨B2', c2c', T2', B3', s3c', T3', out5'⟩ i6' w h
    exact aNE h
def rM (N : Nat) (Q : VP) (B2' : Nat) (c2c' : aB) (T2' B3' : Nat) (s3c' : aA) (T3' : Nat) (out5' : Sl) (i6' : Int) (w : World) : Prop :=
  LoopC N w [⟨B2', c2c'.cells, T2'⟩, ⟨B3', s3c'.cells, T3'⟩] ((B2', c2c', T2', B3', s3c', T3', out5') : Nat × aB × Nat × Nat × aA × Nat × Sl) (i6' : Int) (tN N Q)
noncomputable def aEK (N : Nat) (Q : VP) : St → World → Prop := HG N 61 [.c 2 (.g aI), .c 3 (.g aG), .v 5 .l, .v 6 (.i .i64)] (rM N Q)
theorem aOF (N : Nat) (Q : VP) (s : St) (w : World) (h : aEK N Q s w) : Snd (cy N [2, 3, 7, 8]) (cR (cL (cR (cR (bodyOf Tryd.f94))))) (kX N Q) s w :=
  Snd.HG h fun B2' c2c' T2' B3' s3c' T3' out5' i6' w h => (bk 0 (aM8 N Q (mpr' (by kernel_rfl) h)))
def rU (N : Nat) (Q : VP) (B2' : Nat) (c2c' : aB) (T2' B3' : Nat) (s3c' : aA) (T3' : Nat) (out5' : Sl) (w : World) : Prop :=
  Reb N w [⟨B2', c2c'.cells, T2'⟩, ⟨B3', s3c'.cells, T3'⟩] fun w27 => rM N Q B2' c2c' T2' B3' s3c' T3' out5' 0 w27
noncomputable def aED (N : Nat) (Q : VP) : St → World → Prop := HG N 61 [.c 2 (.g aI), .c 3 (.g aG), .v 5 .l] (rU N Q)
theorem aN2 (N : Nat) (Q : VP) (s : St) (w : World) (h : aED N Q s w) : Snd (cy N [2, 3, 7, 8]) (cR (cR (bodyOf Tryd.f94))) (retD (cy N [2, 3, 7, 8]) Tryd.f94 Q) s w :=
  Snd.HG h fun B2' c2c' T2' B3' s3c' T3' out5' w h => (sq (sO N Q) (sq (aEK N Q) (dsm h) (aOF N Q)) (aNV N Q))
def sP (N : Nat) (Q : VP) (B2' : Nat) (c2c' : aB) (T2' B3' : Nat) (s3c' : aA) (T3' : Nat) (w : World) : Prop :=
  RunL PP N w [⟨B2', c2c'.cells, T2'⟩, ⟨B3', s3c'.cells, T3'⟩] (Instr.makeSlice lG (.int .i64 ((c2c'.Cells.n : Nat) : Int)) (.int .i64 ((c2c'.Cells.n : Nat) : Int))) fun r29 w30 => ∃ l28 : Sl, r29 = (.slice l28.a l28.n l28.c) ∧ Reb N w30 [⟨B2', c2c'.cells, T2'⟩, ⟨B3', s3c'.cells, T3'⟩] fun w31 => rU N Q B2' c2c' T2' B3' s3c' T3' l28 w31
noncomputable def aEE (N : Nat) (Q : VP) : St → World → Prop := HG N 61 [.c 2 (.g aI), .c 3 (.g aG)] (sP N Q)
theorem aOU (N : Nat) (Q : VP) (s : St) (w : World) (h : aEE N Q s w) : Snd (cy N [2, 3, 7, 8]) (cR (bodyOf Tryd.f94)) (retD (cy N [2, 3, 7, 8]) Tryd.f94 Q) s w :=
  Snd.HG h fun B2' c2c' T2' B3' s3c' T3' w h => (sq (aED N Q) (dsm h) (aN2 N Q))
def xD (N : Nat) (c0 : aB) (s1 : aA) (Q : VP) (w : World) : Prop :=
  ∀ b32 : Nat, w.heap.size ≤ b32 → ∀ b33 : Nat, w.heap.size ≤ b33 → Reb N w [⟨b32, c0.cells, aH⟩, ⟨b33, s1.cells, aF⟩] fun w34 => sP N Q b32 c0 aH b33 s1 aF w34
theorem aN5 (N : Nat) (c0 : aB) (s1 : aA) (Q : VP) (w : World) (h : xD N c0 s1 Q w) : Snd (cy N [2, 3, 7, 8]) (bodyOf Tryd.f94) (retD (cy N [2, 3, 7, 8]) Tryd.f94 Q) (entry 61 [(.agg (List.toArray c0.cells)), (.agg (List.toArray s1.cells))]) w :=
  (sq (aEE N Q) (dsm h) (aOU N Q))
theorem aJX (c0 : aB) (s1 : aA) (Q : VP) (w : World) (h : xD w.heap.size c0 s1 Q w) : Calls PP yR [(.agg (List.toArray c0.cells)), (.agg (List.toArray s1.cells))].toArray w fun e w' => ∃ v, e = .returned v ∧ Q v w' :=
  calls_of (C := cy w.heap.size [2, 3, 7, 8]) (fn := Tryd.f94) (c := (bodyOf Tryd.f94)) (by kernel_rfl) (by kernel_rfl) (Nat.le_refl _) (aN5 _ c0 s1 Q w h)
def yL (N : Nat) (Q : VP) (out5' : Sl) (w : World) : Prop :=
  Reb N w [] (Q (.slice out5'.a out5'.n out5'.c))
noncomputable def xG (N : Nat) (Q : VP) : St → World → Prop := HG N 33 [.v 5 .l] (yL N Q)
theorem aSY (N : Nat) (Q : VP) (s : St) (w : World) (h : xG N Q s w) : Snd (cy N [2, 3]) (cR (cR (cR (cR (bodyOf Tryd.f93))))) (retD (cy N [2, 3]) Tryd.f93 Q) s w :=
  Snd.HG h fun _ _ h => dsm h
noncomputable def nE : Code := (cR (cL (cR (cR (cR (bodyOf Tryd.f93))))))
noncomputable def yX (N : Nat) (Q : VP) : Cont := (thenD (xG N Q) (retD (cy N [2, 3]) Tryd.f93 Q))
def wR (K : (Nat × aB × Nat × Sl) → (Sl × Int) → Prop) : List Value → List LB → Prop := fun vs ls => match vs, ls with
  | [.slice out5'_a out5'_n out5'_c, .slice b6'_a b6'_n b6'_c, .int .i64 i7'], [⟨B2', c2c'_r, T2'⟩] => aB.decL c2c'_r fun c2c' => K (B2', c2c', T2', ⟨b6'_a, b6'_n, b6'_c⟩) (⟨out5'_a, out5'_n, out5'_c⟩, i7')
  | _, _ => False
def wX (N : Nat) (K1 : (Nat × aB × Nat × Sl) → (Sl × Int) → World → Prop) (Q : VP) (B2' : Nat) (c2c' : aB) (T2' : Nat) (out5' b6' : Sl) (i7' : Int) (w : World) : Prop :=
  IfB (decide ((i7' : Int) < ((b6'.n : Nat) : Int))) (IdxL b6'.a b6'.n i7' fun q1 => ∃ n2 : Int, At w (q1.add ((i7' : Int).toNat * 1)) [(.int .i64 n2)] ∧ NotIn ((q1.add ((i7' : Int).toNat * 1)) : Addr).block [⟨B2', c2c'.cells, T2'⟩] ∧ IdxL c2c'.Cells.a c2c'.Cells.n i7' fun q3 => ∃ n4 : Int, At w (addA (q3.add ((i7' : Int).toNat * 2)) 1) [(.int .i64 n4)] ∧ NotIn ((addA (q3.add ((i7' : Int).toNat * 2)) 1) : Addr).block [⟨B2', c2c'.cells, T2'⟩] ∧ IfB (decide ((n4 : Int) < n2)) (NewL N w [⟨B2', c2c'.cells, T2'⟩] [(.int .i64 i7')] eP fun b5 w6 => RunL PP N w6 [⟨B2', c2c'.cells, T2'⟩] (Builtin.append_ #[lG, lG] lG #[(.slice out5'.a out5'.n out5'.c), (.slice (some ⟨b5, 0, none⟩) 1 1)]) fun r8 w9 => ∃ l7 : Sl, r8 = (.slice l7.a l7.n l7.c) ∧ Reb N w9 [⟨B2', c2c'.cells, T2'⟩] fun w10 => K1 (B2', c2c', T2', b6') (l7, (IntKind.i64.wrap (i7' + 1))) w10) (Reb N w [⟨B2', c2c'.cells, T2'⟩] fun w11 => K1 (B2', c2c', T2', b6') (out5', (IntKind.i64.wrap (i7' + 1))) w11)) (Reb N w [⟨B2', c2c'.cells, T2'⟩] fun w12 => yL N Q out5' w12)
theorem aSH {N : Nat} {K1 : (Nat × aB × Nat × Sl) → (Sl × Int) → World → Prop} {Q : VP} {B2' : Nat} {c2c' : aB} {T2' : Nat} {out5' b6' : Sl} {i7' : Int} {w : World} (h : wX N K1 Q B2' c2c' T2' out5' b6' i7' w) : Snd (cy N [2, 3]) (cL (cL nE)) (thenD (HeadK N 33 [.loc 2, .val 5, .val 6, .val 7] wR K1) (inBlockD 0 (yX N Q))) (mkS 33 [.loc 2, .val 5, .val 6, .val 7] [(.slice out5'.a out5'.n out5'.c), (.slice b6'.a b6'.n b6'.c), (.int .i64 i7')] [⟨B2', c2c'.cells, T2'⟩]) w :=
  (dsm h)
def yY (N : Nat) (Q : VP) (K1 : (Nat × aB × Nat × Sl) → (Sl × Int) → World → Prop) (c : Nat × aB × Nat × Sl) (x : Sl × Int) (w : World) : Prop := match c, x with
  | (B2', c2c', T2', b6'), (out5', i7') => wX N K1 Q B2' c2c' T2' out5' b6' i7' w
theorem aS2 (N : Nat) (Q : VP) {s : St} {w : World} (h : HeadE N 33 [.loc 2, .val 5, .val 6, .val 7] wR (yY N Q) s w) : Snd (cy N [2, 3]) (cL nE) (inBlockD 0 (yX N Q)) s w := by
  refine Snd.cast (c' := .loop (cL (cL nE))) (by kernel_rfl) (Snd.loopC (fun (c : Nat × aB × Nat × Sl) (x : Sl × Int) => match c, x with | (B2', c2c', T2', b6'), (out5', i7') => ([(.slice out5'.a out5'.n out5'.c), (.slice b6'.a b6'.n b6'.c), (.int .i64 i7')], [⟨B2', c2c'.cells, T2'⟩])) ?_ ?_ h)
  · intro K vs ls h
    unfold wR at h
    split at h
    · obtain ⟨c2c', rfl, h0⟩ := aB.aQ h
      exact ⟨_, _, rfl, h0⟩
    · exact h.elim
  · rintro K ⟨B2', c2c', T2', b6'⟩ ⟨out5', i7'⟩ w h
    exact aSH h
def xR (N : Nat) (Q : VP) (B2' : Nat) (c2c' : aB) (T2' : Nat) (out5' b6' : Sl) (i7' : Int) (w : World) : Prop :=
  LoopC N w [⟨B2', c2c'.cells, T2'⟩] ((B2', c2c', T2', b6') : Nat × aB × Nat × Sl) ((out5', i7') : Sl × Int) (yY N Q)
noncomputable def aGQ (N : Nat) (Q : VP) : St → World → Prop := HG N 33 [.c 2 (.g aI), .v 5 .l, .v 6 .l, .v 7 (.i .i64)] (xR N Q)
theorem aRG (N : Nat) (Q : VP) (s : St) (w : World) (h : aGQ N Q s w) : Snd (cy N [2, 3]) nE (yX N Q) s w :=
  Snd.HG h fun B2' c2c' T2' out5' b6' i7' w h => (bk 0 (aS2 N Q (mpr' (by kernel_rfl) h)))
def xC (N : Nat) (Q : VP) (B2' : Nat) (c2c' : aB) (T2' : Nat) (out5' b6' : Sl) (w : World) : Prop :=
  Reb N w [⟨B2', c2c'.cells, T2'⟩] fun w13 => xR N Q B2' c2c' T2' out5' b6' 0 w13
noncomputable def aHH (N : Nat) (Q : VP) : St → World → Prop := HG N 33 [.c 2 (.g aI), .v 5 .l, .v 6 .l] (xC N Q)
theorem aRW (N : Nat) (Q : VP) (s : St) (w : World) (h : aHH N Q s w) : Snd (cy N [2, 3]) (cR (cR (cR (bodyOf Tryd.f93)))) (retD (cy N [2, 3]) Tryd.f93 Q) s w :=
  Snd.HG h fun B2' c2c' T2' out5' b6' w h => (sq (xG N Q) (sq (aGQ N Q) (dsm h) (aRG N Q)) (aSY N Q))
def xH (N : Nat) (Q : VP) (B2' : Nat) (c2c' : aB) (T2' B3' : Nat) (s3c' : aA) (T3' : Nat) (out5' : Sl) (w : World) : Prop :=
  CallL PP N w [⟨B2', c2c'.cells, T2'⟩, ⟨B3', s3c'.cells, T3'⟩] yR [(.agg (List.toArray c2c'.cells)), (.agg (List.toArray s3c'.cells))] fun r15 w16 => ∃ l14 : Sl, r15 = (.slice l14.a l14.n l14.c) ∧ Reb N w16 [⟨B2', c2c'.cells, T2'⟩, ⟨B3', s3c'.cells, T3'⟩] fun w17 => xC N Q B2' c2c' T2' out5' l14 w17
noncomputable def aGZ (N : Nat) (Q : VP) : St → World → Prop := HG N 33 [.c 2 (.g aI), .c 3 (.g aG), .v 5 .l] (xH N Q)
theorem aTT (N : Nat) (Q : VP) (s : St) (w : World) (h : aGZ N Q s w) : Snd (cy N [2, 3]) (cR (cR (bodyOf Tryd.f93))) (retD (cy N [2, 3]) Tryd.f93 Q) s w :=
  Snd.HG h fun B2' c2c' T2' B3' s3c' T3' out5' w h => (sq (aHH N Q) (dsm h) (aRW N Q))
def xA (N : Nat) (Q : VP) (B2' : Nat) (c2c' : aB) (T2' B3' : Nat) (s3c' : aA) (T3' : Nat) (w : World) : Prop :=
  Reb N w [⟨B2', c2c'.cells, T2'⟩, ⟨B3', s3c'.cells, T3'⟩] fun w18 => xH N Q B2' c2c' T2' B3' s3c' T3' (⟨none, 0, 0⟩ : Sl) w18
noncomputable def aGS (N : Nat) (Q : VP) : St → World → Prop := HG N 33 [.c 2 (.g aI), .c 3 (.g aG)] (xA N Q)
theorem aRP (N : Nat) (Q : VP) (s : St) (w : World) (h : aGS N Q s w) : Snd (cy N [2, 3]) (cR (bodyOf Tryd.f93)) (retD (cy N [2, 3]) Tryd.f93 Q) s w :=
  Snd.HG h fun B2' c2c' T2' B3' s3c' T3' w h => (sq (aGZ N Q) (dsm h) (aTT N Q))
def aBG (N : Nat) (c0 : aB) (s1 : aA) (Q : VP) (w : World) : Prop :=
  ∀ b19 : Nat, w.heap.size ≤ b19 → ∀ b20 : Nat, w.heap.size ≤ b20 → Reb N w [⟨b19, c0.cells, aH⟩, ⟨b20, s1.cells, aF⟩] fun w21 => xA N Q b19 c0 aH b20 s1 aF w21
theorem aTJ (N : Nat) (c0 : aB) (s1 : aA) (Q : VP) (w : World) (h : aBG N c0 s1 Q w) : Snd (cy N [2, 3]) (bodyOf Tryd.f93) (retD (cy N [2, 3]) Tryd.f93 Q) (entry 33 [(.agg (List.toArray c0.cells)), (.agg (List.toArray s1.cells))]) w :=
  (sq (aGS N Q) (dsm h) (aRP N Q))
theorem aMW (c0 : aB) (s1 : aA) (Q : VP) (w : World) (h : aBG w.heap.size c0 s1 Q w) : Calls PP aBV [(.agg (List.toArray c0.cells)), (.agg (List.toArray s1.cells))].toArray w fun e w' => ∃ v, e = .returned v ∧ Q v w' :=
  calls_of (C := cy w.heap.size [2, 3]) (fn := Tryd.f93) (c := (bodyOf Tryd.f93)) (by kernel_rfl) (by kernel_rfl) (Nat.le_refl _) (aTJ _ c0 s1 Q w h)
def aCR (N : Nat) (c0 : aB) (s1 : aA) (Q : VP) (w : World) : Prop :=
  ∀ b1 : Nat, w.heap.size ≤ b1 → ∀ b2 : Nat, w.heap.size ≤ b2 → ∀ b3 : Nat, w.heap.size ≤ b3 → CallL PP N w [⟨b1, c0.cells, aH⟩, ⟨b2, s1.cells, aF⟩, ⟨b3, (⟨0, 0, (⟨none, 0, 0⟩ : Sl), (⟨none, 0, 0⟩ : Sl), 0, 0, 0, 0⟩ : aA).cells, aF⟩] aBV [(.agg (List.toArray c0.cells)), (.agg (List.toArray s1.cells))] fun r5 w6 => ∃ l4 : Sl, r5 = (.slice l4.a l4.n l4.c) ∧ IfB (decide ((0 : Int) < ((l4.n : Nat) : Int))) (Reb N w6 [⟨b1, c0.cells, aH⟩, ⟨b2, s1.cells, aF⟩, ⟨b3, (⟨0, 0, (⟨none, 0, 0⟩ : Sl), (⟨none, 0, 0⟩ : Sl), 0, 0, 0, 0⟩ : aA).cells, aF⟩] (Q (.tuple #[(.agg (List.toArray (⟨0, 0, (⟨none, 0, 0⟩ : Sl), (⟨none, 0, 0⟩ : Sl), 0, 0, 0, 0⟩ : aA).cells)), (.int .i64 10)]))) (Reb N w6 [⟨b1, c0.cells, aH⟩, ⟨b2, s1.cells, aF⟩, ⟨b3, s1.cells, aF⟩] (Q (.tuple #[(.agg (List.toArray s1.cells)), (.int .i64 0)])))
theorem aUI (N : Nat) (c0 : aB) (s1 : aA) (Q : VP) (w : World) (h : aCR N c0 s1 Q w) : Snd (cy N [2, 3, 4]) (bodyOf Tryd.f88) (retD (cy N [2, 3, 4]) Tryd.f88 Q) (entry 13 [(.agg (List.toArray c0.cells)), (.agg (List.toArray s1.cells))]) w :=
  (dsm h)
theorem aQF (c0 : aB) (s1 : aA) (Q : VP) (w : World) (h : aCR w.heap.size c0 s1 Q w) : Calls PP fV [(.agg (List.toArray c0.cells)), (.agg (List.toArray s1.cells))].toArray w fun e w' => ∃ v, e = .returned v ∧ Q v w' :=
  calls_of (C := cy w.heap.size [2, 3, 4]) (fn := Tryd.f88) (c := (bodyOf Tryd.f88)) (by kernel_rfl) (by kernel_rfl) (Nat.le_refl _) (aUI _ c0 s1 Q w h)
noncomputable def aL9 : Code := (cR (cR (cR (cR (cR (bodyOf Tryd.f89))))))
def jK (N : Nat) (Q : VP) (w : World) : Prop :=
  Reb N w [] (Q (.int .i64 0))
noncomputable def qP (N : Nat) (Q : VP) : St → World → Prop := HG N 134 [] (jK N Q)
theorem aL8 (N : Nat) (Q : VP) (s : St) (w : World) (h : qP N Q s w) : Snd (cy N [3, 4, 5, 7, 8]) aL9 (retD (cy N [3, 4, 5, 7, 8]) Tryd.f89 Q) s w :=
  Snd.HG h fun _ h => dsm h
noncomputable def cK : Code := (cR (cL (cL (cR (cR (cR (cR (bodyOf Tryd.f89))))))))
noncomputable def jV (N : Nat) (Q : VP) : Cont := (inBlockD 0 (thenD (qP N Q) (retD (cy N [3, 4, 5, 7, 8]) Tryd.f89 Q)))
noncomputable def jQ : Code := (cR (cR (cR (cR cK))))
def dB (N : Nat) (Q : VP) (B5' : Nat) (e5c' : aC) (T5' B7' : Nat) (t7c' : aJ) (T7' : Nat) (home9' v82' : Bool) (w : World) : Prop :=
  IfB v82' (Reb N w [⟨B5', e5c'.cells, T5'⟩, ⟨B7', t7c'.cells, T7'⟩] (Q (.int .i64 9))) (IfB (!home9') (IfB (decide ((e5c'.Tick : Int) < t7c'.Window.Until)) (Reb N w [⟨B5', e5c'.cells, T5'⟩, ⟨B7', t7c'.cells, T7'⟩] (Q (.int .i64 9))) (Reb N w [⟨B5', e5c'.cells, T5'⟩, ⟨B7', t7c'.cells, T7'⟩] fun w1 => jK N Q w1)) (Reb N w [⟨B5', e5c'.cells, T5'⟩, ⟨B7', t7c'.cells, T7'⟩] fun w2 => jK N Q w2))
noncomputable def aC8 (N : Nat) (Q : VP) : St → World → Prop := HG N 134 [.c 5 (.g aK), .c 7 (.g bF), .v 9 .b, .v 82 .b] (dB N Q)
theorem aLK (N : Nat) (Q : VP) (s : St) (w : World) (h : aC8 N Q s w) : Snd (cy N [3, 4, 5, 7, 8]) (cR (cR jQ)) (jV N Q) s w :=
  Snd.HG h fun _ _ _ _ _ _ _ _ _ h => dsm h
def jX (N : Nat) (Q : VP) (B3' : Nat) (c3c' : aB) (T3' B5' : Nat) (e5c' : aC) (T5' B7' : Nat) (t7c' : aJ) (T7' : Nat) (home9' v69' : Bool) (w : World) : Prop :=
  IfB v69' (Reb N w [⟨B3', c3c'.cells, T3'⟩, ⟨B5', e5c'.cells, T5'⟩, ⟨B7', t7c'.cells, T7'⟩] (Q (.int .i64 8))) (IfB (decide ((e5c'.From : Int) < e5c'.Tick)) (Reb N w [⟨B3', c3c'.cells, T3'⟩, ⟨B5', e5c'.cells, T5'⟩, ⟨B7', t7c'.cells, T7'⟩] fun w3 => dB N Q B5' e5c' T5' B7' t7c' T7' home9' true w3) (IfB (decide (((IntKind.i64.wrap (e5c'.Tick + c3c'.Lease)) : Int) < e5c'.From)) (Reb N w [⟨B3', c3c'.cells, T3'⟩, ⟨B5', e5c'.cells, T5'⟩, ⟨B7', t7c'.cells, T7'⟩] fun w4 => dB N Q B5' e5c' T5' B7' t7c' T7' home9' true w4) (IfB (decide ((e5c'.Until : Int) ≤ e5c'.From)) (Reb N w [⟨B3', c3c'.cells, T3'⟩, ⟨B5', e5c'.cells, T5'⟩, ⟨B7', t7c'.cells, T7'⟩] fun w5 => dB N Q B5' e5c' T5' B7' t7c' T7' home9' true w5) (IfB (decide ((c3c'.Lease : Int) < (IntKind.i64.wrap (e5c'.Until - e5c'.From)))) (Reb N w [⟨B3', c3c'.cells, T3'⟩, ⟨B5', e5c'.cells, T5'⟩, ⟨B7', t7c'.cells, T7'⟩] fun w6 => dB N Q B5' e5c' T5' B7' t7c' T7' home9' true w6) (Reb N w [⟨B3', c3c'.cells, T3'⟩, ⟨B5', e5c'.cells, T5'⟩, ⟨B7', t7c'.cells, T7'⟩] fun w7 => dB N Q B5' e5c' T5' B7' t7c' T7' home9' (decide ((e5c'.From : Int) < t7c'.Window.Until)) w7)))))
noncomputable def aDB (N : Nat) (Q : VP) : St → World → Prop := HG N 134 [.c 3 (.g aI), .c 5 (.g aK), .c 7 (.g bF), .v 9 .b, .v 69 .b] (jX N Q)
theorem aKZ (N : Nat) (Q : VP) (s : St) (w : World) (h : aDB N Q s w) : Snd (cy N [3, 4, 5, 7, 8]) jQ (jV N Q) s w :=
  Snd.HG h fun B3' c3c' T3' B5' e5c' T5' B7' t7c' T7' home9' v69' w h => (Snd.cast (c' := .cond (.tmp 69) (cL jQ) (cR jQ)) (by kernel_rfl) (Snd.cond (t := v69') (by kernel_rfl) (by kernel_rfl) (fun ht => (fun h => (dsm h)) (ifb_t h ht)) (fun ht => (fun h => (sq (aC8 N Q) (dsm h) (aLK N Q))) (ifb_f h ht))))
def bR (N : Nat) (Q : VP) (B3' : Nat) (c3c' : aB) (T3' B5' : Nat) (e5c' : aC) (T5' B7' : Nat) (t7c' : aJ) (T7' B8' : Nat) (x8c' : aL) (T8' : Nat) (home9' v40' : Bool) (w : World) : Prop :=
  IfB v40' (Reb N w [⟨B3', c3c'.cells, T3'⟩, ⟨B5', e5c'.cells, T5'⟩, ⟨B7', t7c'.cells, T7'⟩, ⟨B8', x8c'.cells, T8'⟩] (Q (.int .i64 7))) (IfB (!decide ((e5c'.N : Int) = x8c'.Running)) (Reb N w [⟨B3', c3c'.cells, T3'⟩, ⟨B5', e5c'.cells, T5'⟩, ⟨B7', t7c'.cells, T7'⟩, ⟨B8', x8c'.cells, T8'⟩] fun w8 => jX N Q B3' c3c' T3' B5' e5c' T5' B7' t7c' T7' home9' true w8) (Reb N w [⟨B3', c3c'.cells, T3'⟩, ⟨B5', e5c'.cells, T5'⟩, ⟨B7', t7c'.cells, T7'⟩, ⟨B8', x8c'.cells, T8'⟩] fun w9 => jX N Q B3' c3c' T3' B5' e5c' T5' B7' t7c' T7' home9' (!decide ((x8c'.Running : Int) = x8c'.Wanted)) w9))
noncomputable def aCP (N : Nat) (Q : VP) : St → World → Prop := HG N 134 [.c 3 (.g aI), .c 5 (.g aK), .c 7 (.g bF), .c 8 (.g dR), .v 9 .b, .v 40 .b] (bR N Q)
theorem aKI (N : Nat) (Q : VP) (s : St) (w : World) (h : aCP N Q s w) : Snd (cy N [3, 4, 5, 7, 8]) (cR (cR cK)) (jV N Q) s w :=
  Snd.HG h fun B3' c3c' T3' B5' e5c' T5' B7' t7c' T7' B8' x8c' T8' home9' v40' w h => (Snd.cast (c' := .cond (.tmp 40) (cL (cR (cR cK))) (cR (cR (cR cK)))) (by kernel_rfl) (Snd.cond (t := v40') (by kernel_rfl) (by kernel_rfl) (fun ht => (fun h => (dsm h)) (ifb_t h ht)) (fun ht => (fun h => (sq (aDB N Q) (dsm h) (aKZ N Q))) (ifb_f h ht))))
def gM (N : Nat) (Q : VP) (B3' : Nat) (c3c' : aB) (T3' B5' : Nat) (e5c' : aC) (T5' B7' : Nat) (t7c' : aJ) (T7' B8' : Nat) (x8c' : aL) (T8' : Nat) (home9' v27' : Bool) (w : World) : Prop :=
  IfB v27' (Reb N w [⟨B3', c3c'.cells, T3'⟩, ⟨B5', e5c'.cells, T5'⟩, ⟨B7', t7c'.cells, T7'⟩, ⟨B8', x8c'.cells, T8'⟩] (Q (.int .i64 6))) (IfB home9' (IfB (!decide ((e5c'.Epoch : Int) = t7c'.Epoch)) (IfB (!decide ((e5c'.Epoch : Int) = (IntKind.i64.wrap (t7c'.Epoch + 1)))) (Reb N w [⟨B3', c3c'.cells, T3'⟩, ⟨B5', e5c'.cells, T5'⟩, ⟨B7', t7c'.cells, T7'⟩, ⟨B8', x8c'.cells, T8'⟩] fun w10 => bR N Q B3' c3c' T3' B5' e5c' T5' B7' t7c' T7' B8' x8c' T8' home9' true w10) (IfB (!home9') (Reb N w [⟨B3', c3c'.cells, T3'⟩, ⟨B5', e5c'.cells, T5'⟩, ⟨B7', t7c'.cells, T7'⟩, ⟨B8', x8c'.cells, T8'⟩] fun w11 => bR N Q B3' c3c' T3' B5' e5c' T5' B7' t7c' T7' B8' x8c' T8' home9' (!decide ((e5c'.Epoch : Int) = (IntKind.i64.wrap (t7c'.Epoch + 1)))) w11) (Reb N w [⟨B3', c3c'.cells, T3'⟩, ⟨B5', e5c'.cells, T5'⟩, ⟨B7', t7c'.cells, T7'⟩, ⟨B8', x8c'.cells, T8'⟩] fun w12 => bR N Q B3' c3c' T3' B5' e5c' T5' B7' t7c' T7' B8' x8c' T8' home9' false w12))) (IfB (!home9') (Reb N w [⟨B3', c3c'.cells, T3'⟩, ⟨B5', e5c'.cells, T5'⟩, ⟨B7', t7c'.cells, T7'⟩, ⟨B8', x8c'.cells, T8'⟩] fun w13 => bR N Q B3' c3c' T3' B5' e5c' T5' B7' t7c' T7' B8' x8c' T8' home9' (!decide ((e5c'.Epoch : Int) = (IntKind.i64.wrap (t7c'.Epoch + 1)))) w13) (Reb N w [⟨B3', c3c'.cells, T3'⟩, ⟨B5', e5c'.cells, T5'⟩, ⟨B7', t7c'.cells, T7'⟩, ⟨B8', x8c'.cells, T8'⟩] fun w14 => bR N Q B3' c3c' T3' B5' e5c' T5' B7' t7c' T7' B8' x8c' T8' home9' false w14))) (IfB (!home9') (Reb N w [⟨B3', c3c'.cells, T3'⟩, ⟨B5', e5c'.cells, T5'⟩, ⟨B7', t7c'.cells, T7'⟩, ⟨B8', x8c'.cells, T8'⟩] fun w15 => bR N Q B3' c3c' T3' B5' e5c' T5' B7' t7c' T7' B8' x8c' T8' home9' (!decide ((e5c'.Epoch : Int) = (IntKind.i64.wrap (t7c'.Epoch + 1)))) w15) (Reb N w [⟨B3', c3c'.cells, T3'⟩, ⟨B5', e5c'.cells, T5'⟩, ⟨B7', t7c'.cells, T7'⟩, ⟨B8', x8c'.cells, T8'⟩] fun w16 => bR N Q B3' c3c' T3' B5' e5c' T5' B7' t7c' T7' B8' x8c' T8' home9' false w16)))
noncomputable def aCX (N : Nat) (Q : VP) : St → World → Prop := HG N 134 [.c 3 (.g aI), .c 5 (.g aK), .c 7 (.g bF), .c 8 (.g dR), .v 9 .b, .v 27 .b] (gM N Q)
theorem aLP (N : Nat) (Q : VP) (s : St) (w : World) (h : aCX N Q s w) : Snd (cy N [3, 4, 5, 7, 8]) cK (jV N Q) s w :=
  Snd.HG h fun B3' c3c' T3' B5' e5c' T5' B7' t7c' T7' B8' x8c' T8' home9' v27' w h => (Snd.cast (c' := .cond (.tmp 27) (cL cK) (cR cK)) (by kernel_rfl) (Snd.cond (t := v27') (by kernel_rfl) (by kernel_rfl) (fun ht => (fun h => (dsm h)) (ifb_t h ht)) (fun ht => (fun h => (sq (aCP N Q) (dsm h) (aKI N Q))) (ifb_f h ht))))
def qH (N : Nat) (Q : VP) (B3' : Nat) (c3c' : aB) (T3' B5' : Nat) (e5c' : aC) (T5' B7' : Nat) (t7c' : aJ) (T7' B8' : Nat) (x8c' : aL) (T8' : Nat) (home9' : Bool) (w : World) : Prop :=
  IfB (decide ((x8c'.Mode : Int) = 3)) (Reb N w [⟨B3', c3c'.cells, T3'⟩, ⟨B5', e5c'.cells, T5'⟩, ⟨B7', t7c'.cells, T7'⟩, ⟨B8', x8c'.cells, T8'⟩] fun w17 => gM N Q B3' c3c' T3' B5' e5c' T5' B7' t7c' T7' B8' x8c' T8' home9' true w17) (IfB (decide ((x8c'.Mode : Int) = 2)) (Reb N w [⟨B3', c3c'.cells, T3'⟩, ⟨B5', e5c'.cells, T5'⟩, ⟨B7', t7c'.cells, T7'⟩, ⟨B8', x8c'.cells, T8'⟩] fun w18 => gM N Q B3' c3c' T3' B5' e5c' T5' B7' t7c' T7' B8' x8c' T8' home9' (!home9') w18) (Reb N w [⟨B3', c3c'.cells, T3'⟩, ⟨B5', e5c'.cells, T5'⟩, ⟨B7', t7c'.cells, T7'⟩, ⟨B8', x8c'.cells, T8'⟩] fun w19 => gM N Q B3' c3c' T3' B5' e5c' T5' B7' t7c' T7' B8' x8c' T8' home9' false w19))
noncomputable def aC4 (N : Nat) (Q : VP) : St → World → Prop := HG N 134 [.c 3 (.g aI), .c 5 (.g aK), .c 7 (.g bF), .c 8 (.g dR), .v 9 .b] (qH N Q)
theorem aK9 (N : Nat) (Q : VP) (s : St) (w : World) (h : aC4 N Q s w) : Snd (cy N [3, 4, 5, 7, 8]) (cR (cR (cR (cR (bodyOf Tryd.f89))))) (retD (cy N [3, 4, 5, 7, 8]) Tryd.f89 Q) s w :=
  Snd.HG h fun B3' c3c' T3' B5' e5c' T5' B7' t7c' T7' B8' x8c' T8' home9' w h => (sq (qP N Q) (bk 0 (sq (aCX N Q) (dsm h) (aLP N Q))) (aL8 N Q))
def pO (N : Nat) (Q : VP) (B3' : Nat) (c3c' : aB) (T3' B5' : Nat) (e5c' : aC) (T5' B7' : Nat) (t7c' : aJ) (T7' B8' : Nat) (x8c' : aL) (T8' : Nat) (w : World) : Prop :=
  Reb N w [⟨B3', c3c'.cells, T3'⟩, ⟨B5', e5c'.cells, T5'⟩, ⟨B7', t7c'.cells, T7'⟩, ⟨B8', x8c'.cells, T8'⟩] fun w20 => qH N Q B3' c3c' T3' B5' e5c' T5' B7' t7c' T7' B8' x8c' T8' (decide ((e5c'.Cell : Int) = t7c'.Home)) w20
noncomputable def aCK (N : Nat) (Q : VP) : St → World → Prop := HG N 134 [.c 3 (.g aI), .c 5 (.g aK), .c 7 (.g bF), .c 8 (.g dR)] (pO N Q)
theorem aKR (N : Nat) (Q : VP) (s : St) (w : World) (h : aCK N Q s w) : Snd (cy N [3, 4, 5, 7, 8]) (cR (cR (cR (bodyOf Tryd.f89)))) (retD (cy N [3, 4, 5, 7, 8]) Tryd.f89 Q) s w :=
  Snd.HG h fun B3' c3c' T3' B5' e5c' T5' B7' t7c' T7' B8' x8c' T8' w h => (sq (aC4 N Q) (dsm h) (aK9 N Q))
def pV (N : Nat) (Q : VP) (B3' : Nat) (c3c' : aB) (T3' B4' : Nat) (s4c' : aA) (T4' B5' : Nat) (e5c' : aC) (T5' B7' : Nat) (t7c' : aJ) (T7' : Nat) (w : World) : Prop :=
  IdxL s4c'.Cells.a s4c'.Cells.n e5c'.Cell fun q21 => ∃ x22 : aL, At w (q21.add ((e5c'.Cell : Int).toNat * 4)) x22.cells ∧ NotIn ((q21.add ((e5c'.Cell : Int).toNat * 4)) : Addr).block [⟨B3', c3c'.cells, T3'⟩, ⟨B4', s4c'.cells, T4'⟩, ⟨B5', e5c'.cells, T5'⟩, ⟨B7', t7c'.cells, T7'⟩] ∧ ∀ b23 : Nat, w.heap.size ≤ b23 → Reb N w [⟨B3', c3c'.cells, T3'⟩, ⟨B4', s4c'.cells, T4'⟩, ⟨B5', e5c'.cells, T5'⟩, ⟨B7', t7c'.cells, T7'⟩, ⟨b23, x22.cells, bY⟩] fun w24 => pO N Q B3' c3c' T3' B5' e5c' T5' B7' t7c' T7' b23 x22 bY w24
noncomputable def aDL (N : Nat) (Q : VP) : St → World → Prop := HG N 134 [.c 3 (.g aI), .c 4 (.g aG), .c 5 (.g aK), .c 7 (.g bF)] (pV N Q)
theorem aLA (N : Nat) (Q : VP) (s : St) (w : World) (h : aDL N Q s w) : Snd (cy N [3, 4, 5, 7, 8]) (cR (cR (bodyOf Tryd.f89))) (retD (cy N [3, 4, 5, 7, 8]) Tryd.f89 Q) s w :=
  Snd.HG h fun B3' c3c' T3' B4' s4c' T4' B5' e5c' T5' B7' t7c' T7' w h => (sq (aCK N Q) (dsm h) (aKR N Q))
def qL (N : Nat) (Q : VP) (B3' : Nat) (c3c' : aB) (T3' B4' : Nat) (s4c' : aA) (T4' B5' : Nat) (e5c' : aC) (T5' : Nat) (w : World) : Prop :=
  IdxL s4c'.Tenants.a s4c'.Tenants.n e5c'.Tenant fun q25 => ∃ x26 : aJ, At w (q25.add ((e5c'.Tenant : Int).toNat * 12)) x26.cells ∧ NotIn ((q25.add ((e5c'.Tenant : Int).toNat * 12)) : Addr).block [⟨B3', c3c'.cells, T3'⟩, ⟨B4', s4c'.cells, T4'⟩, ⟨B5', e5c'.cells, T5'⟩] ∧ ∀ b27 : Nat, w.heap.size ≤ b27 → Reb N w [⟨B3', c3c'.cells, T3'⟩, ⟨B4', s4c'.cells, T4'⟩, ⟨B5', e5c'.cells, T5'⟩, ⟨b27, x26.cells, aR⟩] fun w28 => pV N Q B3' c3c' T3' B4' s4c' T4' B5' e5c' T5' b27 x26 aR w28
noncomputable def aDE (N : Nat) (Q : VP) : St → World → Prop := HG N 134 [.c 3 (.g aI), .c 4 (.g aG), .c 5 (.g aK)] (qL N Q)
theorem aKW (N : Nat) (Q : VP) (s : St) (w : World) (h : aDE N Q s w) : Snd (cy N [3, 4, 5, 7, 8]) (cR (bodyOf Tryd.f89)) (retD (cy N [3, 4, 5, 7, 8]) Tryd.f89 Q) s w :=
  Snd.HG h fun B3' c3c' T3' B4' s4c' T4' B5' e5c' T5' w h => (sq (aDL N Q) (dsm h) (aLA N Q))
def wH (N : Nat) (c0 : aB) (s1 : aA) (e2 : aC) (Q : VP) (w : World) : Prop :=
  ∀ b29 : Nat, w.heap.size ≤ b29 → ∀ b30 : Nat, w.heap.size ≤ b30 → ∀ b31 : Nat, w.heap.size ≤ b31 → Reb N w [⟨b29, c0.cells, aH⟩, ⟨b30, s1.cells, aF⟩, ⟨b31, e2.cells, aD⟩] fun w32 => qL N Q b29 c0 aH b30 s1 aF b31 e2 aD w32
theorem aMO (N : Nat) (c0 : aB) (s1 : aA) (e2 : aC) (Q : VP) (w : World) (h : wH N c0 s1 e2 Q w) : Snd (cy N [3, 4, 5, 7, 8]) (bodyOf Tryd.f89) (retD (cy N [3, 4, 5, 7, 8]) Tryd.f89 Q) (entry 134 [(.agg (List.toArray c0.cells)), (.agg (List.toArray s1.cells)), (.agg (List.toArray e2.cells))]) w :=
  (sq (aDE N Q) (dsm h) (aKW N Q))
theorem aI7 (c0 : aB) (s1 : aA) (e2 : aC) (Q : VP) (w : World) (h : wH w.heap.size c0 s1 e2 Q w) : Calls PP uH [(.agg (List.toArray c0.cells)), (.agg (List.toArray s1.cells)), (.agg (List.toArray e2.cells))].toArray w fun e w' => ∃ v, e = .returned v ∧ Q v w' :=
  calls_of (C := cy w.heap.size [3, 4, 5, 7, 8]) (fn := Tryd.f89) (c := (bodyOf Tryd.f89)) (by kernel_rfl) (by kernel_rfl) (Nat.le_refl _) (aMO _ c0 s1 e2 Q w h)
noncomputable def lT : Code := (cR (cR (cR (cR (cR (bodyOf Tryd.f73))))))
def iO (N : Nat) (Q : VP) (B3' : Nat) (c3c' : aB) (T3' B4' : Nat) (s4c' : aA) (T4' B6' : Nat) (v6c' : aA) (T6' : Nat) (w : World) : Prop :=
  CallL PP N w [⟨B3', c3c'.cells, T3'⟩, ⟨B4', s4c'.cells, T4'⟩, ⟨B6', v6c'.cells, T6'⟩] fV [(.agg (List.toArray c3c'.cells)), (.agg (List.toArray s4c'.cells))] fun r3 w4 => ∃ x1 : aA, ∃ n2 : Int, r3 = (.tuple #[(.agg (List.toArray x1.cells)), (.int .i64 n2)]) ∧ Reb N w4 [⟨B3', c3c'.cells, T3'⟩, ⟨B4', s4c'.cells, T4'⟩, ⟨B6', x1.cells, T6'⟩] (Q (.tuple #[(.agg (List.toArray x1.cells)), (.int .i64 n2)]))
noncomputable def aFU (N : Nat) (Q : VP) : St → World → Prop := HG N 141 [.c 3 (.g aI), .c 4 (.g aG), .c 6 (.g aG)] (iO N Q)
theorem aQ1 (N : Nat) (Q : VP) (s : St) (w : World) (h : aFU N Q s w) : Snd (cy N [3, 4, 5, 6]) (cR (cR (cR lT))) (retD (cy N [3, 4, 5, 6]) Tryd.f73 Q) s w :=
  Snd.HG h fun _ _ _ _ _ _ _ _ _ _ h => dsm h
def wJ (N : Nat) (Q : VP) (B3' : Nat) (c3c' : aB) (T3' B4' : Nat) (s4c' : aA) (T4' B5' : Nat) (e5c' : aC) (T5' B6' : Nat) (v6c' : aA) (T6' : Nat) (t8' : Addr) (w : World) : Prop :=
  ∃ n5 : Int, At w (addA t8' 2) [(.int .i64 n5)] ∧ NotIn ((addA t8' 2) : Addr).block [⟨B3', c3c'.cells, T3'⟩, ⟨B4', s4c'.cells, T4'⟩, ⟨B5', e5c'.cells, T5'⟩, ⟨B6', v6c'.cells, T6'⟩] ∧ IfB (decide ((e5c'.Cell : Int) = n5)) (Reb N w [⟨B3', c3c'.cells, T3'⟩, ⟨B4', s4c'.cells, T4'⟩, ⟨B5', e5c'.cells, T5'⟩, ⟨B6', v6c'.cells, T6'⟩] fun w6 => iO N Q B3' c3c' T3' B4' s4c' T4' B6' v6c' T6' w6) (∃ n7 : Int, At w (addA t8' 3) [(.int .i64 n7)] ∧ NotIn ((addA t8' 3) : Addr).block [⟨B3', c3c'.cells, T3'⟩, ⟨B4', s4c'.cells, T4'⟩, ⟨B5', e5c'.cells, T5'⟩, ⟨B6', v6c'.cells, T6'⟩] ∧ IfB (decide ((e5c'.Cell : Int) = n7)) (StL w [⟨B3', c3c'.cells, T3'⟩, ⟨B4', s4c'.cells, T4'⟩, ⟨B5', e5c'.cells, T5'⟩, ⟨B6', v6c'.cells, T6'⟩] (addA t8' 2) [(.int .i64 e5c'.Cell)] fun w8 => StL w8 [⟨B3', c3c'.cells, T3'⟩, ⟨B4', s4c'.cells, T4'⟩, ⟨B5', e5c'.cells, T5'⟩, ⟨B6', v6c'.cells, T6'⟩] (addA t8' 3) [(.int .i64 (-1))] fun w9 => StL w9 [⟨B3', c3c'.cells, T3'⟩, ⟨B4', s4c'.cells, T4'⟩, ⟨B5', e5c'.cells, T5'⟩, ⟨B6', v6c'.cells, T6'⟩] (addA t8' 4) [(.int .i64 (-1))] fun w10 => StL w10 [⟨B3', c3c'.cells, T3'⟩, ⟨B4', s4c'.cells, T4'⟩, ⟨B5', e5c'.cells, T5'⟩, ⟨B6', v6c'.cells, T6'⟩] (addA t8' 5) [(.int .i64 (-1))] fun w11 => StL w11 [⟨B3', c3c'.cells, T3'⟩, ⟨B4', s4c'.cells, T4'⟩, ⟨B5', e5c'.cells, T5'⟩, ⟨B6', v6c'.cells, T6'⟩] (addA t8' 1) [(.bool false)] fun w12 => Reb N w12 [⟨B3', c3c'.cells, T3'⟩, ⟨B4', s4c'.cells, T4'⟩, ⟨B5', e5c'.cells, T5'⟩, ⟨B6', v6c'.cells, T6'⟩] fun w13 => iO N Q B3' c3c' T3' B4' s4c' T4' B6' v6c' T6' w13) (StL w [⟨B3', c3c'.cells, T3'⟩, ⟨B4', s4c'.cells, T4'⟩, ⟨B5', e5c'.cells, T5'⟩, ⟨B6', v6c'.cells, T6'⟩] (addA t8' 2) [(.int .i64 e5c'.Cell)] fun w14 => StL w14 [⟨B3', c3c'.cells, T3'⟩, ⟨B4', s4c'.cells, T4'⟩, ⟨B5', e5c'.cells, T5'⟩, ⟨B6', v6c'.cells, T6'⟩] (addA t8' 5) [(.int .i64 (-1))] fun w15 => Reb N w15 [⟨B3', c3c'.cells, T3'⟩, ⟨B4', s4c'.cells, T4'⟩, ⟨B5', e5c'.cells, T5'⟩, ⟨B6', v6c'.cells, T6'⟩] fun w16 => iO N Q B3' c3c' T3' B4' s4c' T4' B6' v6c' T6' w16))
noncomputable def aFK (N : Nat) (Q : VP) : St → World → Prop := HG N 141 [.c 3 (.g aI), .c 4 (.g aG), .c 5 (.g aK), .c 6 (.g aG), .v 8 .p] (wJ N Q)
theorem aQX (N : Nat) (Q : VP) (s : St) (w : World) (h : aFK N Q s w) : Snd (cy N [3, 4, 5, 6]) (cR (cR lT)) (retD (cy N [3, 4, 5, 6]) Tryd.f73 Q) s w :=
  Snd.HG h fun B3' c3c' T3' B4' s4c' T4' B5' e5c' T5' B6' v6c' T6' t8' w h => (sq (aFU N Q) (dsm h) (aQ1 N Q))
def vX (N : Nat) (Q : VP) (B3' : Nat) (c3c' : aB) (T3' B4' : Nat) (s4c' : aA) (T4' B5' : Nat) (e5c' : aC) (T5' B6' : Nat) (v6c' : aA) (T6' : Nat) (t8' : Addr) (w : World) : Prop :=
  StL w [⟨B3', c3c'.cells, T3'⟩, ⟨B4', s4c'.cells, T4'⟩, ⟨B5', e5c'.cells, T5'⟩, ⟨B6', v6c'.cells, T6'⟩] (addA t8' 6) [(.int .i64 e5c'.Epoch)] fun w17 => Reb N w17 [⟨B3', c3c'.cells, T3'⟩, ⟨B4', s4c'.cells, T4'⟩, ⟨B5', e5c'.cells, T5'⟩, ⟨B6', v6c'.cells, T6'⟩] fun w18 => wJ N Q B3' c3c' T3' B4' s4c' T4' B5' e5c' T5' B6' v6c' T6' t8' w18
noncomputable def aE6 (N : Nat) (Q : VP) : St → World → Prop := HG N 141 [.c 3 (.g aI), .c 4 (.g aG), .c 5 (.g aK), .c 6 (.g aG), .v 8 .p] (vX N Q)
theorem aQE (N : Nat) (Q : VP) (s : St) (w : World) (h : aE6 N Q s w) : Snd (cy N [3, 4, 5, 6]) (cR lT) (retD (cy N [3, 4, 5, 6]) Tryd.f73 Q) s w :=
  Snd.HG h fun B3' c3c' T3' B4' s4c' T4' B5' e5c' T5' B6' v6c' T6' t8' w h => (sq (aFK N Q) (dsm h) (aQX N Q))
def vM (N : Nat) (Q : VP) (B3' : Nat) (c3c' : aB) (T3' B4' : Nat) (s4c' : aA) (T4' B5' : Nat) (e5c' : aC) (T5' B6' : Nat) (v6c' : aA) (T6' : Nat) (t8' : Addr) (w : World) : Prop :=
  StL w [⟨B3', c3c'.cells, T3'⟩, ⟨B4', s4c'.cells, T4'⟩, ⟨B5', e5c'.cells, T5'⟩, ⟨B6', v6c'.cells, T6'⟩] (addA t8' 7) (⟨e5c'.Cell, e5c'.Epoch, e5c'.N, e5c'.From, e5c'.Until⟩ : aT).cells fun w19 => Reb N w19 [⟨B3', c3c'.cells, T3'⟩, ⟨B4', s4c'.cells, T4'⟩, ⟨B5', e5c'.cells, T5'⟩, ⟨B6', v6c'.cells, T6'⟩] fun w20 => vX N Q B3' c3c' T3' B4' s4c' T4' B5' e5c' T5' B6' v6c' T6' t8' w20
noncomputable def aFT (N : Nat) (Q : VP) : St → World → Prop := HG N 141 [.c 3 (.g aI), .c 4 (.g aG), .c 5 (.g aK), .c 6 (.g aG), .v 8 .p] (vM N Q)
theorem aQD (N : Nat) (Q : VP) (s : St) (w : World) (h : aFT N Q s w) : Snd (cy N [3, 4, 5, 6]) lT (retD (cy N [3, 4, 5, 6]) Tryd.f73 Q) s w :=
  Snd.HG h fun B3' c3c' T3' B4' s4c' T4' B5' e5c' T5' B6' v6c' T6' t8' w h => (sq (aE6 N Q) (dsm h) (aQE N Q))
def wC (N : Nat) (Q : VP) (B3' : Nat) (c3c' : aB) (T3' B4' : Nat) (s4c' : aA) (T4' B5' : Nat) (e5c' : aC) (T5' B6' : Nat) (v6c' : aA) (T6' : Nat) (t8' : Addr) (bad9' : Int) (w : World) : Prop :=
  IfB (!decide ((bad9' : Int) = 0)) (CallL PP N w [⟨B3', c3c'.cells, T3'⟩, ⟨B4', s4c'.cells, T4'⟩, ⟨B5', e5c'.cells, T5'⟩, ⟨B6', v6c'.cells, T6'⟩] aN [(.int .i64 bad9')] fun r23 w24 => ∃ x21 : aA, ∃ n22 : Int, r23 = (.tuple #[(.agg (List.toArray x21.cells)), (.int .i64 n22)]) ∧ Reb N w24 [⟨B3', c3c'.cells, T3'⟩, ⟨B4', s4c'.cells, T4'⟩, ⟨B5', e5c'.cells, T5'⟩, ⟨B6', x21.cells, T6'⟩] (Q (.tuple #[(.agg (List.toArray x21.cells)), (.int .i64 n22)]))) (Reb N w [⟨B3', c3c'.cells, T3'⟩, ⟨B4', s4c'.cells, T4'⟩, ⟨B5', e5c'.cells, T5'⟩, ⟨B6', v6c'.cells, T6'⟩] fun w25 => vM N Q B3' c3c' T3' B4' s4c' T4' B5' e5c' T5' B6' v6c' T6' t8' w25)
noncomputable def aFJ (N : Nat) (Q : VP) : St → World → Prop := HG N 141 [.c 3 (.g aI), .c 4 (.g aG), .c 5 (.g aK), .c 6 (.g aG), .v 8 .p, .v 9 (.i .i64)] (wC N Q)
theorem aP2 (N : Nat) (Q : VP) (s : St) (w : World) (h : aFJ N Q s w) : Snd (cy N [3, 4, 5, 6]) (cR (cR (cR (cR (bodyOf Tryd.f73))))) (retD (cy N [3, 4, 5, 6]) Tryd.f73 Q) s w :=
  Snd.HG h fun B3' c3c' T3' B4' s4c' T4' B5' e5c' T5' B6' v6c' T6' t8' bad9' w h => (sq (aFT N Q) (dsm h) (aQD N Q))
def uV (N : Nat) (Q : VP) (B3' : Nat) (c3c' : aB) (T3' B4' : Nat) (s4c' : aA) (T4' B5' : Nat) (e5c' : aC) (T5' B6' : Nat) (v6c' : aA) (T6' : Nat) (t8' : Addr) (w : World) : Prop :=
  CallL PP N w [⟨B3', c3c'.cells, T3'⟩, ⟨B4', s4c'.cells, T4'⟩, ⟨B5', e5c'.cells, T5'⟩, ⟨B6', v6c'.cells, T6'⟩] uH [(.agg (List.toArray c3c'.cells)), (.agg (List.toArray s4c'.cells)), (.agg (List.toArray e5c'.cells))] fun r27 w28 => ∃ n26 : Int, r27 = (.int .i64 n26) ∧ Reb N w28 [⟨B3', c3c'.cells, T3'⟩, ⟨B4', s4c'.cells, T4'⟩, ⟨B5', e5c'.cells, T5'⟩, ⟨B6', v6c'.cells, T6'⟩] fun w29 => wC N Q B3' c3c' T3' B4' s4c' T4' B5' e5c' T5' B6' v6c' T6' t8' n26 w29
noncomputable def uN (N : Nat) (Q : VP) : St → World → Prop := HG N 141 [.c 3 (.g aI), .c 4 (.g aG), .c 5 (.g aK), .c 6 (.g aG), .v 8 .p] (uV N Q)
theorem aRD (N : Nat) (Q : VP) (s : St) (w : World) (h : uN N Q s w) : Snd (cy N [3, 4, 5, 6]) (cR (cR (cR (bodyOf Tryd.f73)))) (retD (cy N [3, 4, 5, 6]) Tryd.f73 Q) s w :=
  Snd.HG h fun B3' c3c' T3' B4' s4c' T4' B5' e5c' T5' B6' v6c' T6' t8' w h => (sq (aFJ N Q) (dsm h) (aP2 N Q))
noncomputable def lU : Code := (cR (cL (cL (cR (cR (bodyOf Tryd.f73))))))
noncomputable def aE8 (N : Nat) (Q : VP) : Cont := (inBlockD 0 (thenD (uN N Q) (retD (cy N [3, 4, 5, 6]) Tryd.f73 Q)))
def gY (N : Nat) (Q : VP) (B3' : Nat) (c3c' : aB) (T3' B4' : Nat) (s4c' : aA) (T4' B5' : Nat) (e5c' : aC) (T5' B6' : Nat) (v6c' : aA) (T6' : Nat) (t8' : Addr) (v39' : Bool) (w : World) : Prop :=
  IfB v39' (CallL PP N w [⟨B3', c3c'.cells, T3'⟩, ⟨B4', s4c'.cells, T4'⟩, ⟨B5', e5c'.cells, T5'⟩, ⟨B6', v6c'.cells, T6'⟩] aN [(.int .i64 5)] fun r36 w37 => ∃ x34 : aA, ∃ n35 : Int, r36 = (.tuple #[(.agg (List.toArray x34.cells)), (.int .i64 n35)]) ∧ Reb N w37 [⟨B3', c3c'.cells, T3'⟩, ⟨B4', s4c'.cells, T4'⟩, ⟨B5', e5c'.cells, T5'⟩, ⟨B6', x34.cells, T6'⟩] (Q (.tuple #[(.agg (List.toArray x34.cells)), (.int .i64 n35)]))) (Reb N w [⟨B3', c3c'.cells, T3'⟩, ⟨B4', s4c'.cells, T4'⟩, ⟨B5', e5c'.cells, T5'⟩, ⟨B6', v6c'.cells, T6'⟩] fun w38 => uV N Q B3' c3c' T3' B4' s4c' T4' B5' e5c' T5' B6' v6c' T6' t8' w38)
noncomputable def aEG (N : Nat) (Q : VP) : St → World → Prop := HG N 141 [.c 3 (.g aI), .c 4 (.g aG), .c 5 (.g aK), .c 6 (.g aG), .v 8 .p, .v 39 .b] (gY N Q)
theorem aOE (N : Nat) (Q : VP) (s : St) (w : World) (h : aEG N Q s w) : Snd (cy N [3, 4, 5, 6]) (cR (cR lU)) (aE8 N Q) s w :=
  Snd.HG h fun _ _ _ _ _ _ _ _ _ _ _ _ _ _ _ h => dsm h
def iI (N : Nat) (Q : VP) (B3' : Nat) (c3c' : aB) (T3' B4' : Nat) (s4c' : aA) (T4' B5' : Nat) (e5c' : aC) (T5' B6' : Nat) (v6c' : aA) (T6' : Nat) (t8' : Addr) (v15' : Bool) (w : World) : Prop :=
  IfB v15' (CallL PP N w [⟨B3', c3c'.cells, T3'⟩, ⟨B4', s4c'.cells, T4'⟩, ⟨B5', e5c'.cells, T5'⟩, ⟨B6', v6c'.cells, T6'⟩] aN [(.int .i64 4)] fun r32 w33 => ∃ x30 : aA, ∃ n31 : Int, r32 = (.tuple #[(.agg (List.toArray x30.cells)), (.int .i64 n31)]) ∧ Reb N w33 [⟨B3', c3c'.cells, T3'⟩, ⟨B4', s4c'.cells, T4'⟩, ⟨B5', e5c'.cells, T5'⟩, ⟨B6', x30.cells, T6'⟩] (Q (.tuple #[(.agg (List.toArray x30.cells)), (.int .i64 n31)]))) (∃ n39 : Int, At w (addA t8' 2) [(.int .i64 n39)] ∧ NotIn ((addA t8' 2) : Addr).block [⟨B3', c3c'.cells, T3'⟩, ⟨B4', s4c'.cells, T4'⟩, ⟨B5', e5c'.cells, T5'⟩, ⟨B6', v6c'.cells, T6'⟩] ∧ IfB (!decide ((e5c'.Cell : Int) = n39)) (∃ n40 : Int, At w (addA t8' 3) [(.int .i64 n40)] ∧ NotIn ((addA t8' 3) : Addr).block [⟨B3', c3c'.cells, T3'⟩, ⟨B4', s4c'.cells, T4'⟩, ⟨B5', e5c'.cells, T5'⟩, ⟨B6', v6c'.cells, T6'⟩] ∧ IfB (!decide ((e5c'.Cell : Int) = n40)) (∃ n41 : Int, At w (addA t8' 5) [(.int .i64 n41)] ∧ NotIn ((addA t8' 5) : Addr).block [⟨B3', c3c'.cells, T3'⟩, ⟨B4', s4c'.cells, T4'⟩, ⟨B5', e5c'.cells, T5'⟩, ⟨B6', v6c'.cells, T6'⟩] ∧ Reb N w [⟨B3', c3c'.cells, T3'⟩, ⟨B4', s4c'.cells, T4'⟩, ⟨B5', e5c'.cells, T5'⟩, ⟨B6', v6c'.cells, T6'⟩] fun w42 => gY N Q B3' c3c' T3' B4' s4c' T4' B5' e5c' T5' B6' v6c' T6' t8' (!decide ((e5c'.Cell : Int) = n41)) w42) (Reb N w [⟨B3', c3c'.cells, T3'⟩, ⟨B4', s4c'.cells, T4'⟩, ⟨B5', e5c'.cells, T5'⟩, ⟨B6', v6c'.cells, T6'⟩] fun w43 => gY N Q B3' c3c' T3' B4' s4c' T4' B5' e5c' T5' B6' v6c' T6' t8' false w43)) (Reb N w [⟨B3', c3c'.cells, T3'⟩, ⟨B4', s4c'.cells, T4'⟩, ⟨B5', e5c'.cells, T5'⟩, ⟨B6', v6c'.cells, T6'⟩] fun w44 => gY N Q B3' c3c' T3' B4' s4c' T4' B5' e5c' T5' B6' v6c' T6' t8' false w44))
noncomputable def aFC (N : Nat) (Q : VP) : St → World → Prop := HG N 141 [.c 3 (.g aI), .c 4 (.g aG), .c 5 (.g aK), .c 6 (.g aG), .v 8 .p, .v 15 .b] (iI N Q)
theorem aQJ (N : Nat) (Q : VP) (s : St) (w : World) (h : aFC N Q s w) : Snd (cy N [3, 4, 5, 6]) lU (aE8 N Q) s w :=
  Snd.HG h fun B3' c3c' T3' B4' s4c' T4' B5' e5c' T5' B6' v6c' T6' t8' v15' w h => (Snd.cast (c' := .cond (.tmp 15) (cL lU) (cR lU)) (by kernel_rfl) (Snd.cond (t := v15') (by kernel_rfl) (by kernel_rfl) (fun ht => (fun h => (dsm h)) (ifb_t h ht)) (fun ht => (fun h => (sq (aEG N Q) (dsm h) (aOE N Q))) (ifb_f h ht))))
def vP (N : Nat) (Q : VP) (B3' : Nat) (c3c' : aB) (T3' B4' : Nat) (s4c' : aA) (T4' B5' : Nat) (e5c' : aC) (T5' B6' : Nat) (v6c' : aA) (T6' : Nat) (t8' : Addr) (w : World) : Prop :=
  ∃ b45 : Bool, At w t8' [(.bool b45)] ∧ NotIn (t8' : Addr).block [⟨B3', c3c'.cells, T3'⟩, ⟨B4', s4c'.cells, T4'⟩, ⟨B5', e5c'.cells, T5'⟩, ⟨B6', v6c'.cells, T6'⟩] ∧ IfB (!b45) (Reb N w [⟨B3', c3c'.cells, T3'⟩, ⟨B4', s4c'.cells, T4'⟩, ⟨B5', e5c'.cells, T5'⟩, ⟨B6', v6c'.cells, T6'⟩] fun w46 => iI N Q B3' c3c' T3' B4' s4c' T4' B5' e5c' T5' B6' v6c' T6' t8' true w46) (∃ b47 : Bool, At w (addA t8' 1) [(.bool b47)] ∧ NotIn ((addA t8' 1) : Addr).block [⟨B3', c3c'.cells, T3'⟩, ⟨B4', s4c'.cells, T4'⟩, ⟨B5', e5c'.cells, T5'⟩, ⟨B6', v6c'.cells, T6'⟩] ∧ IfB b47 (∃ n48 : Int, At w (addA t8' 3) [(.int .i64 n48)] ∧ NotIn ((addA t8' 3) : Addr).block [⟨B3', c3c'.cells, T3'⟩, ⟨B4', s4c'.cells, T4'⟩, ⟨B5', e5c'.cells, T5'⟩, ⟨B6', v6c'.cells, T6'⟩] ∧ Reb N w [⟨B3', c3c'.cells, T3'⟩, ⟨B4', s4c'.cells, T4'⟩, ⟨B5', e5c'.cells, T5'⟩, ⟨B6', v6c'.cells, T6'⟩] fun w49 => iI N Q B3' c3c' T3' B4' s4c' T4' B5' e5c' T5' B6' v6c' T6' t8' (!decide ((e5c'.Cell : Int) = n48)) w49) (Reb N w [⟨B3', c3c'.cells, T3'⟩, ⟨B4', s4c'.cells, T4'⟩, ⟨B5', e5c'.cells, T5'⟩, ⟨B6', v6c'.cells, T6'⟩] fun w50 => iI N Q B3' c3c' T3' B4' s4c' T4' B5' e5c' T5' B6' v6c' T6' t8' false w50))
noncomputable def aFW (N : Nat) (Q : VP) : St → World → Prop := HG N 141 [.c 3 (.g aI), .c 4 (.g aG), .c 5 (.g aK), .c 6 (.g aG), .v 8 .p] (vP N Q)
theorem aQI (N : Nat) (Q : VP) (s : St) (w : World) (h : aFW N Q s w) : Snd (cy N [3, 4, 5, 6]) (cR (cR (bodyOf Tryd.f73))) (retD (cy N [3, 4, 5, 6]) Tryd.f73 Q) s w :=
  Snd.HG h fun B3' c3c' T3' B4' s4c' T4' B5' e5c' T5' B6' v6c' T6' t8' w h => (sq (uN N Q) (bk 0 (sq (aFC N Q) (dsm h) (aQJ N Q))) (aRD N Q))
def uD (N : Nat) (Q : VP) (B3' : Nat) (c3c' : aB) (T3' B4' : Nat) (s4c' : aA) (T4' B5' : Nat) (e5c' : aC) (T5' B6' : Nat) (v6c' : aA) (T6' : Nat) (w : World) : Prop :=
  IdxL s4c'.Tenants.a s4c'.Tenants.n e5c'.Tenant fun q51 => Reb N w [⟨B3', c3c'.cells, T3'⟩, ⟨B4', s4c'.cells, T4'⟩, ⟨B5', e5c'.cells, T5'⟩, ⟨B6', v6c'.cells, T6'⟩] fun w52 => vP N Q B3' c3c' T3' B4' s4c' T4' B5' e5c' T5' B6' v6c' T6' (q51.add ((e5c'.Tenant : Int).toNat * 12)) w52
noncomputable def aF6 (N : Nat) (Q : VP) : St → World → Prop := HG N 141 [.c 3 (.g aI), .c 4 (.g aG), .c 5 (.g aK), .c 6 (.g aG)] (uD N Q)
theorem aQG (N : Nat) (Q : VP) (s : St) (w : World) (h : aF6 N Q s w) : Snd (cy N [3, 4, 5, 6]) (cR (bodyOf Tryd.f73)) (retD (cy N [3, 4, 5, 6]) Tryd.f73 Q) s w :=
  Snd.HG h fun B3' c3c' T3' B4' s4c' T4' B5' e5c' T5' B6' v6c' T6' w h => (sq (aFW N Q) (dsm h) (aQI N Q))
def zU (N : Nat) (c0 : aB) (s1 : aA) (e2 : aC) (Q : VP) (w : World) : Prop :=
  ∀ b53 : Nat, w.heap.size ≤ b53 → ∀ b54 : Nat, w.heap.size ≤ b54 → ∀ b55 : Nat, w.heap.size ≤ b55 → ∀ b56 : Nat, w.heap.size ≤ b56 → Reb N w [⟨b53, c0.cells, aH⟩, ⟨b54, s1.cells, aF⟩, ⟨b55, e2.cells, aD⟩, ⟨b56, (⟨0, 0, (⟨none, 0, 0⟩ : Sl), (⟨none, 0, 0⟩ : Sl), 0, 0, 0, 0⟩ : aA).cells, aF⟩] fun w57 => uD N Q b53 c0 aH b54 s1 aF b55 e2 aD b56 (⟨0, 0, (⟨none, 0, 0⟩ : Sl), (⟨none, 0, 0⟩ : Sl), 0, 0, 0, 0⟩ : aA) aF w57
theorem aQC (N : Nat) (c0 : aB) (s1 : aA) (e2 : aC) (Q : VP) (w : World) (h : zU N c0 s1 e2 Q w) : Snd (cy N [3, 4, 5, 6]) (bodyOf Tryd.f73) (retD (cy N [3, 4, 5, 6]) Tryd.f73 Q) (entry 141 [(.agg (List.toArray c0.cells)), (.agg (List.toArray s1.cells)), (.agg (List.toArray e2.cells))]) w :=
  (sq (aF6 N Q) (dsm h) (aQG N Q))
theorem aMS (c0 : aB) (s1 : aA) (e2 : aC) (Q : VP) (w : World) (h : zU w.heap.size c0 s1 e2 Q w) : Calls PP aAG [(.agg (List.toArray c0.cells)), (.agg (List.toArray s1.cells)), (.agg (List.toArray e2.cells))].toArray w fun e w' => ∃ v, e = .returned v ∧ Q v w' :=
  calls_of (C := cy w.heap.size [3, 4, 5, 6]) (fn := Tryd.f73) (c := (bodyOf Tryd.f73)) (by kernel_rfl) (by kernel_rfl) (Nat.le_refl _) (aQC _ c0 s1 e2 Q w h)
def yZ (N : Nat) (c0 : aB) (s1 : aA) (cell2 : Int) (Q : VP) (w : World) : Prop :=
  ∀ b1 : Nat, w.heap.size ≤ b1 → ∀ b2 : Nat, w.heap.size ≤ b2 → CallL PP N w [⟨b1, c0.cells, aH⟩, ⟨b2, s1.cells, aF⟩] eH [(.agg (List.toArray c0.cells)), (.int .i64 cell2)] fun r4 w5 => ∃ n3 : Int, r4 = (.int .i64 n3) ∧ CallL PP N w5 [⟨b1, c0.cells, aH⟩, ⟨b2, s1.cells, aF⟩] gB [(.int .i64 s1.Evacuating), (.int .i64 n3)] fun r7 w8 => ∃ b6 : Bool, r7 = (.bool b6) ∧ Reb N w8 [⟨b1, c0.cells, aH⟩, ⟨b2, s1.cells, aF⟩] (Q (.bool b6))
theorem aOT (N : Nat) (c0 : aB) (s1 : aA) (cell2 : Int) (Q : VP) (w : World) (h : yZ N c0 s1 cell2 Q w) : Snd (cy N [3, 4]) (bodyOf Tryd.f86) (retD (cy N [3, 4]) Tryd.f86 Q) (entry 13 [(.agg (List.toArray c0.cells)), (.agg (List.toArray s1.cells)), (.int .i64 cell2)]) w :=
  (dsm h)
theorem aJO (c0 : aB) (s1 : aA) (cell2 : Int) (Q : VP) (w : World) (h : yZ w.heap.size c0 s1 cell2 Q w) : Calls PP fJ [(.agg (List.toArray c0.cells)), (.agg (List.toArray s1.cells)), (.int .i64 cell2)].toArray w fun e w' => ∃ v, e = .returned v ∧ Q v w' :=
  calls_of (C := cy w.heap.size [3, 4]) (fn := Tryd.f86) (c := (bodyOf Tryd.f86)) (by kernel_rfl) (by kernel_rfl) (Nat.le_refl _) (aOT _ c0 s1 cell2 Q w h)
def rX (N : Nat) (c0 : aB) (a1 : Int) (b2 : Int) (Q : VP) (w : World) : Prop :=
  ∀ b1 : Nat, w.heap.size ≤ b1 → IfB (decide ((0 : Int) ≤ a1)) (IfB (decide ((0 : Int) ≤ b2)) (CallL PP N w [⟨b1, c0.cells, aH⟩] oO [(.agg (List.toArray c0.cells)), (.int .i64 a1), (.int .i64 b2)] fun r4 w5 => ∃ b3 : Bool, r4 = (.bool b3) ∧ Reb N w5 [⟨b1, c0.cells, aH⟩] (Q (.bool (!b3)))) (Reb N w [⟨b1, c0.cells, aH⟩] (Q (.bool false)))) (Reb N w [⟨b1, c0.cells, aH⟩] (Q (.bool false)))
theorem aJQ (N : Nat) (c0 : aB) (a1 : Int) (b2 : Int) (Q : VP) (w : World) (h : rX N c0 a1 b2 Q w) : Snd (cy N [3]) (bodyOf Tryd.f87) (retD (cy N [3]) Tryd.f87 Q) (entry 20 [(.agg (List.toArray c0.cells)), (.int .i64 a1), (.int .i64 b2)]) w :=
  (dsm h)
theorem aIY (c0 : aB) (a1 : Int) (b2 : Int) (Q : VP) (w : World) (h : rX w.heap.size c0 a1 b2 Q w) : Calls PP dI [(.agg (List.toArray c0.cells)), (.int .i64 a1), (.int .i64 b2)].toArray w fun e w' => ∃ v, e = .returned v ∧ Q v w' :=
  calls_of (C := cy w.heap.size [3]) (fn := Tryd.f87) (c := (bodyOf Tryd.f87)) (by kernel_rfl) (by kernel_rfl) (Nat.le_refl _) (aJQ _ c0 a1 b2 Q w h)
end Go.Sh
