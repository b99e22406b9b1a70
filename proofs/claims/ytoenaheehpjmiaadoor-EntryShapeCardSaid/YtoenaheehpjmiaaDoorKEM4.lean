/- A part of the proof (printed smaller by a program of ours). Conditions: none. -/
import Derived.Test.YtoenaheehpjmiaaDoorKEM3
import Derived.Test.YtoenaheehpjmiaaDoorKEC
namespace Go.Sh
open Go
set_option linter.unusedSimpArgs false
set_option linter.unusedVariables false
set_option maxHeartbeats 2000000
abbrev tsC : aJ → List Value := aJ.cells
abbrev csC : aL → List Value := aL.cells
theorem kI (x : aJ) : (tsC x).length = 12 := rfl
theorem qQ (x : aL) : (csC x).length = 4 := rfl
theorem a0Z (x : aJ) : ∀ u ∈ tsC x, u.oneCell' = true := by
  intro u hu; simp [tsC, aJ.cells] at hu; rcases hu with rfl | rfl | rfl | rfl | rfl | rfl | rfl | rfl | rfl | rfl | rfl | rfl <;> rfl
theorem a00 (x : aL) : ∀ u ∈ csC x, u.oneCell' = true := by
  intro u hu; simp [csC, aL.cells] at hu; rcases hu with rfl | rfl | rfl | rfl <;> rfl
theorem At.fld {w : World} {a : Addr} {cs ds : List Value} (o : Nat) (h : At w a cs) (hd : (cs.drop o).take ds.length = ds) : At w (addA a o) ds := by
  rw [addA_eq]; exact h.part o ds.length hd
theorem aIB (a : Addr) (o : Nat) : (addA a o).block = a.block := by rw [addA_eq, add_block]
theorem rdL {α : Type} {c : α → List Value} {k : Nat} {w0 w : World} {sl : Sl} {xs : List α} {i : Int} {K : Addr → Prop} (h : Rd c k w0 sl xs) (T : Now noB w0 w) (hne : ∀ x, c x ≠ []) (h0 : 0 ≤ i) (hi : i < sl.n)
    (hk : ∀ p x, xs[i.toNat]? = some x → At w (p.add (i.toNat * k)) (c x) → (p.add (i.toNat * k)).block < w0.heap.size → K p) : IdxL sl.a sl.n i K :=
  h.idx h0 hi (fun p x hp hx ha => hk p x hx (ha.touch T.t (by simp [noB])) (ha.lt (hne x)))
theorem nI {p : Addr} {o N : Nat} {L : List LB} (h : p.block < N) (hL : ∀ x ∈ blk L, N ≤ x) : NotIn (addA p o).block L := by
  rw [aIB]; exact notIn_lt hL h
theorem nI0 {p : Addr} {N : Nat} {L : List LB} (h : p.block < N) (hL : ∀ x ∈ blk L, N ≤ x) : NotIn p.block L := notIn_lt hL h
theorem eT.now {w w' : World} {c : aB} {g : Cfg} (h : eT w c g) (T : Now noB w w') : eT w' c g :=
  ⟨h.z.tr T.t (by simp [noB]), h.ce.tr T.t (by simp [noB]), h.t.tr T.t (by simp [noB]), h.v.tr T.t (by simp [noB])⟩
theorem a2S (x : bK) : zoC x ≠ [] := by simp [zoC, bK.cells]
theorem a1G (x : bJ) : ceC x ≠ [] := by simp [ceC, bJ.cells]
theorem a1H (x : aO) : teC x ≠ [] := by simp [teC, aO.cells]
theorem a3L (x : aP) : veC x ≠ [] := by simp [veC, aP.cells]
theorem a2T (x : aJ) : tsC x ≠ [] := by simp [tsC, aJ.cells]
theorem a1E (x : aL) : csC x ≠ [] := by simp [csC, aL.cells]
theorem dM (a i : Int) (w : World) : Spec PP gB [.int .i64 a, .int .i64 i] w noB (fun v _ => ∃ b : Bool, v = .bool b) := by
  refine aQ9 a i _ w ?_
  unfold aDM
  have T : Now noB w w := Now.refl
  refine ifbd (fun h => ?_) (fun h => ?_)
  · refine ifbd (fun h2 => ?_) (fun h2 => ?_)
    · refine ⟨?_, by decide, ?_⟩
      · simp [IntKind.wrap, IntKind.signed, IntKind.bits]; omega
      · exact Reb.A T Anc.nil (fun w1 T t => ⟨T.t, _, rfl⟩)
    · exact Reb.A T Anc.nil (fun w1 T t => ⟨T.t, _, rfl⟩)
  · exact Reb.A T Anc.nil (fun w1 T t => ⟨T.t, _, rfl⟩)
section
variable {w : World} {c : aB} {g : Cfg}
theorem aXA (h : eT w c g) (ok : bU c g) (i : Int) : Spec PP yO [.agg (List.toArray c.cells), .int .i64 i] w noB (fun v _ => ∃ z : Int, v = .int .i64 z ∧ (z < 0 ∨ z < g.zs.length)) := by
  refine aKE c i _ w ?_
  unfold yA
  have T : Now noB w w := Now.refl
  have hn := h.ce.1
  intro b1 hb
  refine ifbd (fun h1 => Reb.A T Anc.start (fun w1 T t => ⟨T.t, -1, rfl, .inl (by decide)⟩)) (fun h1 => ?_)
  refine ifbd (fun h2 => Reb.A T Anc.start (fun w1 T t => ⟨T.t, -1, rfl, .inl (by decide)⟩)) (fun h2 => ?_)
  refine rdL h.ce T a1G (by omega) (by omega) (fun p x hx ha hno => ?_)
  refine ⟨x.Zone, ha.fld 0 rfl, nI0 hno (by simpa [blk] using hb), Reb.A T Anc.start (fun w1 T t => ⟨T.t, x.Zone, rfl, .inr ?_⟩)⟩
  exact (ok.cr x (List.mem_of_getElem? hx)).2
theorem wO (h : eT w c g) (ok : bU c g) (i : Int) : Spec PP eH [.agg (List.toArray c.cells), .int .i64 i] w noB (fun v _ => ∃ z : Int, v = .int .i64 z) := by
  refine aIW c i _ w ?_
  unfold rA
  have T : Now noB w w := Now.refl
  have hn := h.z.1
  intro b1 hb
  refine CallL.pA T Anc.start (fun wa T t => aXA (h.now T) ok i) ?_
  rintro wa v w1 T t _ _ _ ⟨z, rfl, hz⟩
  refine ⟨z, rfl, ?_⟩
  refine ifbd (fun h1 => Reb.A T Anc.start (fun w1 T t => ⟨T.t, -1, rfl⟩)) (fun h1 => ?_)
  refine rdL h.z T a2S (by omega) (by omega) (fun p x hx ha hno => ?_)
  exact ⟨x.Region, ha.fld 0 rfl, nI0 hno (by simpa [blk] using hb), Reb.A T Anc.start (fun w1 T t => ⟨T.t, x.Region, rfl⟩)⟩
theorem bP (h : eT w c g) (ok : bU c g) (i j : Int) : Spec PP eF [.agg (List.toArray c.cells), .int .i64 i, .int .i64 j] w noB (fun v _ => ∃ z : Bool, v = .bool z) := by
  refine aQL c i j _ w ?_
  unfold aCW
  have T : Now noB w w := Now.refl
  have hn := h.t.1
  intro b1 hb
  refine ifbd (fun h1 => ?_) (fun h1 => Reb.A T Anc.start (fun w1 T t => ⟨T.t, _, rfl⟩))
  refine ifbd (fun h2 => ?_) (fun h2 => Reb.A T Anc.start (fun w1 T t => ⟨T.t, _, rfl⟩))
  refine h.t.idx h1 h2 (fun p x hp hx ha => ?_)
  have hl := ha.lt (a1H x)
  have ha4 : At w (addA (p.add (i.toNat * 7)) 4) [.int .i64 x.Allowed] := ha.fld 4 rfl
  refine ⟨x.Allowed, ha4, by rw [aIB]; exact notIn_lt (by simpa [blk] using hb) hl, ?_⟩
  refine CallL.pA T Anc.start (fun wa T t => wO (h.now T) ok j) ?_
  rintro wa v w1 T t _ _ _ ⟨z, rfl⟩
  refine ⟨z, rfl, ha4.touch T.t (by simp [noB]), ?_⟩
  refine CallL.pA T Anc.start (fun wa T t => dM _ _ wa) ?_
  rintro wa v w2 T t _ _ _ ⟨z, rfl⟩
  exact ⟨z, rfl, Reb.A T Anc.start (fun w1 T t => ⟨T.t, _, rfl⟩)⟩
theorem aRS (h : eT w c g) (ok : bU c g) (i j : Int) : Spec PP oO [.agg (List.toArray c.cells), .int .i64 i, .int .i64 j] w noB (fun v _ => ∃ z : Bool, v = .bool z) := by
  refine aK3 c i j _ w ?_
  unfold zZ
  have T : Now noB w w := Now.refl
  intro b1 hb
  refine CallL.pA T Anc.start (fun wa T t => wO (h.now T) ok i) ?_
  rintro wa v w1 T t _ _ _ ⟨z, rfl⟩
  refine ⟨z, rfl, ?_⟩
  refine CallL.pA T Anc.start (fun wa T t => wO (h.now T) ok j) ?_
  rintro wa v w1 T t _ _ _ ⟨z, rfl⟩
  refine ⟨z, rfl, ?_⟩
  refine ifbd (fun h1 => ?_) (fun h1 => Reb.A T Anc.start (fun w1 T t => ⟨T.t, _, rfl⟩))
  refine ifbd (fun h2 => ?_) (fun h2 => Reb.A T Anc.start (fun w1 T t => ⟨T.t, _, rfl⟩))
  exact Reb.A T Anc.start (fun w1 T t => ⟨T.t, _, rfl⟩)
theorem bC (h : eT w c g) (ok : bU c g) (i j : Int) : Spec PP dI [.agg (List.toArray c.cells), .int .i64 i, .int .i64 j] w noB (fun v _ => ∃ z : Bool, v = .bool z) := by
  refine aIY c i j _ w ?_
  unfold rX
  have T : Now noB w w := Now.refl
  intro b1 hb
  refine ifbd (fun h1 => ?_) (fun h1 => Reb.A T Anc.start (fun w1 T t => ⟨T.t, _, rfl⟩))
  refine ifbd (fun h2 => ?_) (fun h2 => Reb.A T Anc.start (fun w1 T t => ⟨T.t, _, rfl⟩))
  refine CallL.pA T Anc.start (fun wa T t => aRS (h.now T) ok i j) ?_
  rintro wa v w1 T t _ _ _ ⟨z, rfl⟩
  exact ⟨z, rfl, Reb.A T Anc.start (fun w1 T t => ⟨T.t, _, rfl⟩)⟩
theorem bL (h : eT w c g) (ok : bU c g) (s : aA) (j : Int) : Spec PP fJ [.agg (List.toArray c.cells), .agg (List.toArray s.cells), .int .i64 j] w noB (fun v _ => ∃ z : Bool, v = .bool z) := by
  refine aJO c s j _ w ?_
  unfold yZ
  have T : Now noB w w := Now.refl
  intro b1 hb b2 hb2
  refine CallL.pA T Anc.start (fun wa T t => wO (h.now T) ok j) ?_
  rintro wa v w1 T t _ _ _ ⟨z, rfl⟩
  refine ⟨z, rfl, ?_⟩
  refine CallL.pA T Anc.start (fun wa T t => dM _ _ wa) ?_
  rintro wa v w2 T t _ _ _ ⟨z, rfl⟩
  exact ⟨z, rfl, Reb.A T Anc.start (fun w1 T t => ⟨T.t, _, rfl⟩)⟩
theorem aTN (h : eT w c g) (ok : bU c g) (e : aC) : Spec PP eQ [.agg (List.toArray c.cells), .agg (List.toArray e.cells)] w noB (fun v _ => v = .bool (decide (okP e g.ts.length g.cs.length c.Regions g.vs.length))) := by
  refine aLM c e _ w ?_
  unfold zX
  have T : Now noB w w := Now.refl
  intro b1 hb b2 hb2
  have e1 : (if (32 : Int) < ((c.Tenants.n : Nat) : Int) then 32 else ((c.Tenants.n : Nat) : Int)) = g.ts.length := by
    have := h.t.1; have := ok.tl; rw [if_neg (by omega)]; omega
  have e2 : (if (16 : Int) < ((c.Cells.n : Nat) : Int) then 16 else ((c.Cells.n : Nat) : Int)) = g.cs.length := by
    have := h.ce.1; have := ok.cl; rw [if_neg (by omega)]; omega
  have e3 : (if (4 : Int) < c.Regions then 4 else c.Regions) = c.Regions := by
    have := ok.reg; rw [if_neg (by omega)]
  have e4 : (if (30 : Int) < ((c.Versions.n : Nat) : Int) then 30 else ((c.Versions.n : Nat) : Int)) = g.vs.length := by
    have := h.v.1; have := ok.vl; rw [if_neg (by omega)]; omega
  rw [e1, e2, e3, e4]
  have := ok.tl; have := ok.cl; have := ok.vl; have := ok.reg
  refine CallL.vA T Anc.start (fun wa T t => aSN e (by omega) (by omega) (by omega) (by omega) wa) (fun w1 T t => ⟨_, rfl, ?_⟩)
  exact Reb.A T Anc.start (fun w1 T t => ⟨T.t, rfl⟩)
theorem aSB (h : eT w c g) (ok : bU c g) (e : aC) : Spec PP fC [.agg (List.toArray c.cells), .agg (List.toArray e.cells)] w noB (fun v _ => v = .bool (decide (okP e 32 16 4 30) && decide (okP e g.ts.length g.cs.length c.Regions g.vs.length))) := by
  refine aWX c e _ w ?_
  unfold aQH
  have T : Now noB w w := Now.refl
  intro b1 hb b2 hb2
  have e1 := h.t.1; have e2 := h.ce.1; have e3 := h.v.1
  have := ok.tl; have := ok.cl; have := ok.vl; have := ok.reg
  refine CallL.vA T Anc.start (fun wa T t => wW e wa) (fun w1 T t => ⟨_, rfl, ?_⟩)
  refine ifb (fun hs => ?_) (fun hs => ?_)
  · refine CallL.vA T Anc.start (fun wa T t => aZ1 e ⟨_, _, _, _⟩ (by simp only; omega) (by simp only; omega) wa) (fun w1 T t => ⟨_, rfl, ?_⟩)
    refine Reb.A T Anc.start (fun w1 T t => ⟨T.t, ?_⟩)
    rw [hs, ← e1, ← e2, ← e3]; rfl
  · refine Reb.A T Anc.start (fun w1 T t => ⟨T.t, ?_⟩)
    rw [hs]; rfl
end
end Go.Sh
