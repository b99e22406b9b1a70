/- A part of the proof (printed smaller by a program of ours). Conditions: none. -/
import Derived.Test.YtoenaheehpjmiaaDoorKEM20
import Derived.Test.YtoenaheehpjmiaaDoorKEN
namespace Go.Sh
open Go
set_option linter.unusedSimpArgs false
set_option linter.unusedVariables false
set_option maxHeartbeats 4000000
theorem a1B {e : aC} {t c r v : Int} (h : okP e t c r v) (ht : t ≤ 32) (hc : c ≤ 16) (hr : r ≤ 4) (hv : v ≤ 30) : okP e 32 16 4 30 := by
  obtain ⟨h1, h2, ⟨p1, p2, p3⟩, ⟨n1, n2, n3⟩⟩ := h
  refine ⟨h1, h2, ⟨?_, ?_, ?_⟩, ⟨n1, n2, ?_⟩⟩
  · split at p1 <;> rename_i hk
    · rw [if_pos hk]; omega
    · rw [if_neg hk]; exact p1
  · split at p2 <;> rename_i hk
    · rw [if_pos hk]; omega
    · rw [if_neg hk]
      split at p2 <;> rename_i hk2
      · rw [if_pos hk2]; omega
      · rw [if_neg hk2]; exact p2
  · split at p3 <;> rename_i hk
    · rw [if_pos hk]; omega
    · rw [if_neg hk]
      split at p3 <;> rename_i hk2
      · rw [if_pos hk2]; omega
      · rw [if_neg hk2]; exact p3
  · split at n3 <;> rename_i hk
    · rw [if_pos hk]; omega
    · rw [if_neg hk]; exact n3
structure CV (w0 w : World) (lo hi : Nat) (c : aB) (g : Cfg) : Prop where
  T : Now noB w0 w
  C : eT w c g
  on : ∀ b, c.on b → lo ≤ b ∧ b < hi
  hs : hi ≤ w.heap.size
section
variable {w0 w w' : World} {lo hi : Nat} {c : aB} {g : Cfg} {L : List LB}
theorem CV.step (J : CV w0 w lo hi c g) (hL : ∀ b ∈ blk L, b < lo ∨ hi ≤ b) (T : Now noB w0 w') (t : Touch (fun b => b ∈ blk L) w w') : CV w0 w' lo hi c g :=
  ⟨T, J.C.tr t (fun b hb hm => by have := J.on b hb; have := hL b hm; omega), J.on, Nat.le_trans J.hs t.size⟩
theorem CV.reb {K : World → Prop} (J : CV w0 w lo hi c g) (hL : ∀ b ∈ blk L, b < lo ∨ hi ≤ b) (k : ∀ w', CV w0 w' lo hi c g → K w') : Reb w0.heap.size w L K :=
  Reb.A J.T Anc.start (fun w' T t => k w' (J.step hL T t))
theorem CV.v {f : FuncId} {args : List Value} {R : Value → World → Prop} {m : Value} (J : CV w0 w lo hi c g) (hL : ∀ b ∈ blk L, b < lo ∨ hi ≤ b)
    (h : ∀ wa, CV w0 wa lo hi c g → Spec PP f args wa noB (fun v _ => v = m)) (k : ∀ w', CV w0 w' lo hi c g → R m w') : CallL PP w0.heap.size w L f args R :=
  CallL.vA J.T Anc.start (fun wa T t => h wa (J.step hL T t)) (fun w' T t => k w' (J.step hL T t))
end
theorem aZ6 {w w1 : World} {l : Sl} {ns : List Int} {L : List LB} {R : Value → World → Prop} (T : Now noB w w1) (I : In intC 1 (fun _ => True) w l ns) (hs : l.n ≤ 200)
    (k : ∀ (lo hi : Nat) (c : aB) (g : Cfg) (e : aC) (w' : World), CV w w' lo hi c g → bU c g → (∀ b ∈ blk L, b < lo) → hi = w'.heap.size → R (.tuple #[.agg (List.toArray c.cells), .agg (List.toArray e.cells)]) w') : CallL PP w.heap.size w1 L iD [.slice l.a l.n l.c] R := by
  refine CallL.pA T Anc.start (fun wa T t => a05 (I.rd.tr T.t (by simp [noB])) (fun b hb => Nat.lt_of_lt_of_le (I.lt b hb) T.t.size) (by have := I.rd.1; omega)) ?_
  rintro wa v w3 T t _ _ y ⟨c, g, e, rfl, C, ok, f⟩
  exact k wa.heap.size w3.heap.size c g e w3 ⟨T, C, f, Nat.le_refl _⟩ ok y rfl
theorem aYV {w : World} {l : Sl} {ns : List Int} (I : In intC 1 (fun _ => True) w l ns) (raw : aC) (which by_ : Int) (hN : aIF w) :
    Spec PP aCA [.slice l.a l.n l.c, .agg (List.toArray raw.cells), .int .i64 which, .int .i64 by_] w noB (fun v _ => v = .bool true) := by
  refine aHZ l raw which by_ _ w ?_
  unfold oP
  have T : Now noB w w := Now.refl
  intro b68 h68
  refine Reb.A T Anc.start (fun w1 T t => ?_)
  unfold mQ
  refine CallL.vA T Anc.start (fun wa T t => aI6 l wa) (fun w2 T t => ⟨_, rfl, ?_⟩)
  refine ifbnd (fun h => ?_) (fun h => ?_)
  · refine CallL.vA T Anc.start (fun wa T _ => aDY (hN.now T)) (fun w3 T t => ⟨_, rfl, ?_⟩)
    exact Reb.A T Anc.start (fun w2 T t => ⟨T.t, rfl⟩)
  refine Reb.A T Anc.start (fun w1 T t => ?_)
  unfold mG
  refine aZ6 T I (by omega) (fun lo hi c g e w3 J ok y z => ?_)
  have T := J.T
  refine ⟨c, e, rfl, ?_⟩
  intro b58 h58 b59 h59
  refine Reb.A T Anc.start (fun w1 T t => ?_)
  unfold mM
  refine CallL.vA T Anc.start (fun wa T t => yD e which by_ wa) (fun w2 T t => ⟨_, rfl, ?_⟩)
  intro b52 h52
  refine Reb.A T Anc.start (fun w1 T t => ?_)
  have key5 : ∀ (b12 : Nat) (y12 : aC) (w' : World), Now noB w w' → dE w.heap.size (fun v w' => Touch noB w w' ∧ v = .bool true) b68 raw aD b59 e aD b52 (a0H e which by_) aD b12 y12 aD w' := by
    intro b12 y12 w' T
    unfold dE
    refine CallL.vA T Anc.start (fun wa T _ => aDY (hN.now T)) (fun w3 T t => ⟨_, rfl, ?_⟩)
    refine ifb (fun _ => ?_) (fun h => absurd h (by decide))
    repeat' first
      | refine CallL.vA T Anc.start (fun wa T _ => wW _ wa) (fun w3 T t => ⟨_, rfl, ?_⟩)
      | refine CallL.vA T Anc.start (fun wa T _ => aXJ _ wa) (fun w3 T t => ⟨_, rfl, ?_⟩)
      | refine ifb (fun _ => ?_) (fun h => absurd h (by simp))
      | exact Reb.A T Anc.start (fun w2 T t => ⟨T.t, by simp⟩)
  unfold mJ
  repeat' first
    | exact Reb.A T Anc.start (fun w2 T t => key5 _ _ _ T)
    | refine CallL.vA T Anc.start (fun wa T t => yD _ _ _ wa) (fun w2 T t => ⟨_, rfl, ?_⟩)
    | refine CallL.vA T Anc.start (fun wa _ _ => aHO (by omega) (by omega) (by omega) wa) (fun w1 T t => ⟨_, rfl, ?_⟩)
    | intro b hb
    | refine ⟨?_, ?_⟩
theorem a08 {w : World} {l : Sl} {ns : List Int} (I : In intC 1 (fun _ => True) w l ns) (raw : aC) (which by_ : Int) (hN : aIF w) :
    Spec PP aB8 [.slice l.a l.n l.c, .agg (List.toArray raw.cells), .int .i64 which, .int .i64 by_] w noB (fun v _ => v = .bool true) := by
  refine aHY l raw which by_ _ w ?_
  unfold oJ
  have T : Now noB w w := Now.refl
  intro b68 h68
  refine Reb.A T Anc.start (fun w1 T t => ?_)
  unfold mO
  refine CallL.vA T Anc.start (fun wa T t => aI6 l wa) (fun w2 T t => ⟨_, rfl, ?_⟩)
  refine ifbnd (fun h => ?_) (fun h => ?_)
  · refine CallL.vA T Anc.start (fun wa T _ => aDY (hN.now T)) (fun w3 T t => ⟨_, rfl, ?_⟩)
    exact Reb.A T Anc.start (fun w2 T t => ⟨T.t, rfl⟩)
  refine Reb.A T Anc.start (fun w1 T t => ?_)
  unfold mK
  refine aZ6 T I (by omega) (fun lo hi c g e w3 J ok y z => ?_)
  have y68 := y b68 (by simp [blk])
  refine ⟨c, e, rfl, ?_⟩
  intro b58 h58 b59 h59
  refine J.reb (by intro b hb; simp [blk] at hb; omega) (fun w4 J => ?_)
  unfold mP
  refine J.v (by intro b hb; simp [blk] at hb; omega) (fun wa _ => yD e which by_ wa) (fun w2 J => ⟨_, rfl, ?_⟩)
  intro b52 h52
  have s52 := J.hs
  refine J.reb (by intro b hb; simp [blk] at hb; omega) (fun w4 J => ?_)
  have hm : ∀ x : aC, (decide (okP x 32 16 4 30) && decide (okP x g.ts.length g.cs.length c.Regions g.vs.length)) = decide (okP x g.ts.length g.cs.length c.Regions g.vs.length) := by
    intro x
    have := ok.tl; have := ok.cl; have := ok.vl; have := ok.reg
    by_cases hx : okP x g.ts.length g.cs.length c.Regions g.vs.length
    · simp [hx, a1B hx (by omega) (by omega) (by omega) (by omega)]
    · simp [hx]
  have key5 : ∀ (b12 : Nat) (y12 : aC) (w' : World), CV w w' lo hi c g → hi ≤ b12 → dG w.heap.size (fun v w' => Touch noB w w' ∧ v = .bool true) b68 raw aD b58 c aH b59 e aD b52 (a0H e which by_) aD b12 y12 aD w' := by
    intro b12 y12 w' J h12
    unfold dG
    refine J.v (by intro b hb; simp [blk] at hb; omega) (fun wa J => aDY (hN.now J.T)) (fun w3 J => ⟨_, rfl, ?_⟩)
    refine ifb (fun _ => ?_) (fun h => absurd h (by decide))
    repeat' first
      | refine J.v (by intro b hb; simp [blk] at hb; omega) (fun wa J => aSB J.C ok _) (fun w3 J => ⟨_, rfl, ?_⟩)
      | refine J.v (by intro b hb; simp [blk] at hb; omega) (fun wa J => aTN J.C ok _) (fun w3 J => ⟨_, rfl, ?_⟩)
      | refine ifb (fun _ => ?_) (fun h => absurd h (by simp [hm]))
      | exact J.reb (by intro b hb; simp [blk] at hb; omega) (fun w2 J => ⟨J.T.t, by simp [hm]⟩)
  unfold mI
  repeat' first
    | exact J.reb (by intro b hb; simp [blk] at hb; have := J.hs; omega) (fun w2 J => key5 _ _ _ J (by have := J.hs; omega))
    | refine J.v (by intro b hb; simp [blk] at hb; have := J.hs; omega) (fun wa J => yD _ _ _ wa) (fun w2 J => ⟨_, rfl, ?_⟩)
    | refine J.v (by intro b hb; simp [blk] at hb; have := J.hs; omega) (fun wa _ => aHO (by omega) (by omega) (by omega) wa) (fun w1 J => ⟨_, rfl, ?_⟩)
    | (intro b hb; have := J.hs)
    | refine ⟨?_, ?_⟩
theorem a0N {w : World} {l : Sl} {ns : List Int} (I : In intC 1 (fun _ => True) w l ns) (raw : aC) (which by_ : Int) (hN : aIF w) :
    Spec PP uB [.slice l.a l.n l.c, .agg (List.toArray raw.cells), .int .i64 which, .int .i64 by_] w noB (fun v _ => v = .bool true) := by
  refine aE5 l raw which by_ _ w ?_
  unfold jH
  have T : Now noB w w := Now.refl
  intro b1 h1
  refine CallL.vA T Anc.start (fun wa T t => aI6 l wa) (fun w2 T t => ⟨_, rfl, ?_⟩)
  refine ifbnd (fun h => ?_) (fun h => ?_)
  · refine CallL.vA T Anc.start (fun wa T _ => aDY (hN.now T)) (fun w3 T t => ⟨_, rfl, ?_⟩)
    exact Reb.A T Anc.start (fun w2 T t => ⟨T.t, rfl⟩)
  refine aZ6 T I (by omega) (fun lo hi c g e w3 J ok y z => ?_)
  have y1 := y b1 (by simp [blk])
  refine ⟨c, e, rfl, ?_⟩
  intro b12 h12 b13 h13
  refine J.v (by intro b hb; simp [blk] at hb; omega) (fun wa _ => yD e which by_ wa) (fun w2 J => ⟨_, rfl, ?_⟩)
  intro b17 h17
  have s17 := J.hs
  refine J.v (by intro b hb; simp [blk] at hb; omega) (fun wa J => aDY (hN.now J.T)) (fun w3 J => ⟨_, rfl, ?_⟩)
  refine ifb (fun _ => ?_) (fun h => absurd h (by decide))
  repeat' first
    | refine J.v (by intro b hb; simp [blk] at hb; omega) (fun wa J => aSB J.C ok _) (fun w3 J => ⟨_, rfl, ?_⟩)
    | refine J.v (by intro b hb; simp [blk] at hb; omega) (fun wa J => wW _ wa) (fun w3 J => ⟨_, rfl, ?_⟩)
    | refine ifbn (fun _ => ?_) (fun h => ?_)
    | refine ifb (fun _ => ?_) (fun h => ?_)
    | exact J.reb (by intro b hb; simp [blk] at hb; omega) (fun w2 J => ⟨J.T.t, by simp_all⟩)
end Go.Sh
