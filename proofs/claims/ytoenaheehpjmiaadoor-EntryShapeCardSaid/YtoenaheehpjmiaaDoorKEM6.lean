/- A part of the proof (printed smaller by a program of ours). Conditions: none. -/
import Derived.Test.YtoenaheehpjmiaaDoorKEM5
namespace Go.Sh
open Go
set_option linter.unusedSimpArgs false
set_option linter.unusedVariables false
set_option maxHeartbeats 4000000
structure StAt (w : World) (s : aA) (ts : List aJ) (xs : List aL) : Prop where
  t : Own tsC 12 aR w s.Tenants ts
  x : Own csC 4 bY w s.Cells xs
def aA.on (s : aA) (b : Nat) : Prop := s.Tenants.on b ∨ s.Cells.on b
def inC (g : Cfg) (n : Int) : Prop := -1 ≤ n ∧ n < g.cs.length
structure TnOk (g : Cfg) (t : aJ) : Prop where
  h : inC g t.Home
  s : inC g t.Standby
  n : inC g t.Next
  g_ : inC g t.Target
  p : t.Placed = true → 0 ≤ t.Home
  q : t.Shed = true → 0 ≤ t.Home
structure CeOk (g : Cfg) (x : aL) : Prop where
  r : 0 ≤ x.Running ∧ x.Running < g.vs.length
  w : 0 ≤ x.Wanted ∧ x.Wanted < g.vs.length
structure StOk (g : Cfg) (ts : List aJ) (xs : List aL) : Prop where
  tl : ts.length = g.ts.length
  xl : xs.length = g.cs.length
  tr : ∀ t ∈ ts, TnOk g t
  xr : ∀ x ∈ xs, CeOk g x
theorem StAt.tr {S : Nat → Prop} {w w' : World} {s : aA} {ts : List aJ} {xs : List aL} (h : StAt w s ts xs) (t : Touch S w w') (hd : ∀ b, s.on b → ¬ S b) : StAt w' s ts xs :=
  ⟨h.t.tr t (fun b hb => hd b (.inl hb)), h.x.tr t (fun b hb => hd b (.inr hb))⟩
theorem StAt.now {w w' : World} {s : aA} {ts : List aJ} {xs : List aL} (h : StAt w s ts xs) (T : Now noB w w') : StAt w' s ts xs := h.tr T.t (by simp [noB])
theorem StAt.lt {w : World} {s : aA} {ts : List aJ} {xs : List aL} (h : StAt w s ts xs) {b : Nat} (hb : s.on b) : b < w.heap.size := hb.elim h.t.lt h.x.lt
theorem aZK {w : World} {sl : Sl} {ys : List Int} (o : Own intC 1 eP w sl ys) (i n : Int) : Spec PP gH [.slice sl.a sl.n sl.c, .int .i64 i, .int .i64 n] w (fun b => sl.on b)
    (fun v w' => v = .tuple #[] ∧ ∃ ys' : List Int, Own intC 1 eP w' sl ys' ∧ ys'.length = ys.length) := by
  refine aPQ sl i n _ w ?_
  unfold aCO
  have T : Now (fun b => sl.on b) w w := Now.refl
  have hn := o.1
  refine ifbd (fun h0 => ?_) (fun h0 => ?_)
  · refine Reb.A T Anc.nil (fun w1 T t => ?_)
    replace o := o.tr t (by simp [blk])
    unfold jD
    refine ifbd (fun h1 => ?_) (fun h1 => ?_)
    · refine (o.rd aHJ).idx h0 h1 (fun p x hp hx ha => ?_)
      refine ⟨x, ha, notIn_nil, idxL hp h0 h1 ?_⟩
      obtain ⟨q, hq, hroom, hblk, hset⟩ := o.set aHJ (i := i.toNat) (by omega) (IntKind.i64.wrap (x + n))
      obtain rfl : p = q := Option.some.inj (hp.symm.trans hq)
      refine ⟨hroom, notIn_nil, ?_⟩
      have T := T.putC (p := p.add (i.toNat * 1)) (cs := intC (IntKind.i64.wrap (x + n))) (fun _ => ⟨p, hp, hblk.symm⟩)
      exact Reb.A T Anc.nil (fun w2 T t => ⟨T.t, rfl, _, hset.tr t (by simp [blk]), by simp⟩)
    · exact Reb.A T Anc.nil (fun w2 T t => ⟨T.t, rfl, _, o.tr t (by simp [blk]), rfl⟩)
  · refine Reb.A T Anc.nil (fun w1 T t => ?_)
    replace o := o.tr t (by simp [blk])
    unfold jD
    refine ifb (fun h => by cases h) (fun _ => ?_)
    exact Reb.A T Anc.nil (fun w2 T t => ⟨T.t, rfl, _, o.tr t (by simp [blk]), rfl⟩)
def okN (w0 wM : World) (bs : List Nat) (L : List LB) : Prop := ∀ b ∈ blk L, w0.heap.size ≤ b ∧ (b < wM.heap.size → b ∈ bs)
section
variable {w0 wM w w' : World} {bs : List Nat} {L : List LB}
theorem okN.anc (h : okN w0 wM bs L) : Anc (fun i => i ∈ bs) wM w0.heap.size L := fun i hi _ hl => (h i hi).2 hl
theorem CN.rebX {K : World → Prop} (C : CN w0 wM w bs) (h : okN w0 wM bs L) (k : ∀ w', CN w0 wM w' bs → Touch (fun b => b ∈ blk L) w w' → K w') : Reb w0.heap.size w L K :=
  Reb.A C.T h.anc (fun w' T t => k w' ⟨T, C.T0, C.lt⟩ t)
theorem CN.a3H {S : Nat → Prop} {f : FuncId} {args : List Value} {R : Value → World → Prop} {R' : World → Value → World → Prop} (C : CN w0 wM w bs) (h : okN w0 wM bs L) (hS : ∀ b, S b → wM.heap.size ≤ b ∧ b < w.heap.size ∧ b ∉ blk L)
    (hs : ∀ wa, CN w0 wM wa bs → Touch (fun b => b ∈ blk L) w wa → Spec PP f args wa S (R' wa))
    (k : ∀ wa v w', CN w0 wM w' bs → Touch (fun b => b ∈ blk L ∨ S b) w w' → w.heap.size ≤ wa.heap.size → R' wa v w' → R v w') : CallL PP w0.heap.size w L f args R :=
  CallL.A S C.T h.anc (fun b hb => (hS b hb).2) (fun i hi hh => by have := (hS i hh).1; omega) (fun wa T t => hs wa ⟨T, C.T0, C.lt⟩ t) (fun wa v w' T t z1 z2 _ hr => k wa v w' ⟨T, C.T0, C.lt⟩ t z1 hr)
end
section
variable {w : World} {c : aB} {g : Cfg}
theorem aW7 {s : aA} {ts : List aJ} (h : eT w c g) (ok : bU c g) (hs : Rd tsC 12 w s.Tenants ts) (hl : ts.length = g.ts.length) : Spec PP yR [.agg (List.toArray c.cells), .agg (List.toArray s.cells)] w noB
    (aUC w g.cs.length) := by
  refine aJX c s _ w ?_
  unfold xD
  have hn := h.ce.1
  have hcl := ok.cl
  have htl := ok.tl
  have ht := h.t.1
  have hsn := hs.1
  intro b1 hb1 b2 hb2
  refine fun w1 hlc => ?_
  have C : CN w w1 w1 [b1, b2] := CN.start hlc Now.refl (by simp [blk]; omega) rfl
  have hL : ∀ {cs cs' : List Value} {ty ty' : TypeId}, ∀ b ∈ blk [⟨b1, cs, ty⟩, ⟨b2, cs', ty'⟩], b ∈ [b1, b2] := by simp [blk]
  unfold sP
  refine RunL.makeA (z0 := (0 : Int)) (c := intC) C.T (CN.anc hL) aKG (by omega) (by omega) (by simp only [maxLen]; omega) (fun sl w2 T t o hnew => ⟨sl, rfl, ?_⟩)
  have G0 : Gr intC 1 eP w1 w2 sl (List.replicate ((c.Cells.n : Nat) : Int).toNat 0) := ⟨o, fun b hb => (hnew b hb).1⟩
  replace C : CN w w1 w2 [b1, b2] := ⟨T, C.T0, C.lt⟩
  refine C.reb hL (fun w3 C t => ?_)
  replace G0 := G0.stN C t
  unfold rU
  refine C.reb hL (fun w4 C t => ?_)
  replace G0 := G0.stN C t
  unfold rM
  refine LoopC.mk (fun x w' => ∃ (ys : List Int) (k : Nat), x = (k : Int) ∧ CN w w1 w' [b1, b2] ∧ Gr intC 1 eP w1 w' sl ys ∧ ys.length = g.cs.length ∧ k ≤ ts.length) (fun x => 20 - x.toNat) ?_ ?_
  · exact C.reb hL (fun w' C t => ⟨_, 0, rfl, C, G0.stN C t, by simp; omega, by omega⟩)
  · rintro x wb ⟨ys, k, hx, C, G, hy, hk⟩
    subst hx
    unfold tN
    dsimp only
    unfold qX
    refine ifbd (fun hi => ?_) (fun hi => ?_)
    · have key7 : ∀ (w' : World) (ys : List Int), CN w w1 w' [b1, b2] → Gr intC 1 eP w1 w' sl ys → ys.length = g.cs.length →
          gV w.heap.size (fun c' x' w' => c' = (b1, c, aH, b2, s, aF, sl) ∧ (∃ (ys : List Int) (k : Nat), x' = (k : Int) ∧ CN w w1 w' [b1, b2] ∧ Gr intC 1 eP w1 w' sl ys ∧ ys.length = g.cs.length ∧ k ≤ ts.length) ∧ 20 - x'.toNat < 20 - (k : Int).toNat) (fun v w' => Touch noB w w' ∧ aUC w g.cs.length v w') b1 c aH b2 s aF sl (k : Int) w' := by
        intro w' ys C G hy
        unfold gV
        refine C.reb hL (fun w7 C t => ?_)
        exact ⟨rfl, ⟨ys, k + 1, bN (by omega), C, G.stN C t, hy, by omega⟩, by simp only [bN (show k ≤ 1000000 by omega)]; omega⟩
      have glt : ∀ b, sl.on b → b < wb.heap.size := fun b hb => G.own.lt hb
      have z1 := C.T.t.size
      have z0 := C.T0.t.size
      have gout := G.outN C (L := [⟨b1, [], 0⟩, ⟨b2, [], 0⟩]) hL
      have hok : ∀ {c1 c2 c3 c4 : List Value} {t1 t2 t3 t4 : TypeId} {b7 b8 : Nat}, wb.heap.size ≤ b7 → wb.heap.size ≤ b8 → okN w w1 [b1, b2] [⟨b1, c1, t1⟩, ⟨b2, c2, t2⟩, ⟨b7, c3, t3⟩, ⟨b8, c4, t4⟩] := by
        intro c1 c2 c3 c4 t1 t2 t3 t4 b7 b8 h7 h8 b hb
        simp [blk] at hb
        rcases hb with rfl | rfl | rfl | rfl
        · exact ⟨by omega, fun _ => by simp⟩
        · exact ⟨by omega, fun _ => by simp⟩
        · exact ⟨by omega, fun h => by omega⟩
        · exact ⟨by omega, fun h => by omega⟩
      have hout : ∀ {c1 c2 c3 c4 : List Value} {t1 t2 t3 t4 : TypeId} {b7 b8 : Nat}, wb.heap.size ≤ b7 → wb.heap.size ≤ b8 → ∀ b, sl.on b → b ∉ blk [⟨b1, c1, t1⟩, ⟨b2, c2, t2⟩, ⟨b7, c3, t3⟩, ⟨b8, c4, t4⟩] := by
        intro c1 c2 c3 c4 t1 t2 t3 t4 b7 b8 h7 h8 b hb hm
        have e1 := gout b hb
        have e2 := glt b hb
        simp [blk] at hm e1
        omega
      have addc : ∀ {L : List LB} {w' : World} {ys : List Int} {i n : Int} {R : Value → World → Prop}, okN w w1 [b1, b2] L → (∀ b, sl.on b → b ∉ blk L) → CN w w1 w' [b1, b2] → Gr intC 1 eP w1 w' sl ys → ys.length = g.cs.length →
          (∀ w2 ys', CN w w1 w2 [b1, b2] → Gr intC 1 eP w1 w2 sl ys' → ys'.length = g.cs.length → R (.tuple #[]) w2) → CallL PP w.heap.size w' L gH [.slice sl.a sl.n sl.c, .int .i64 i, .int .i64 n] R := by
        intro L w' ys i n R hk hu C G hy k
        refine C.a3H hk (fun b hb => ⟨G.on b hb, G.own.lt hb, hu b hb⟩) (fun wa C t => aZK (G.own.tr t hu) i n) ?_
        rintro wa v w2 C t z ⟨rfl, ys', o, hl⟩
        exact k w2 ys' C ⟨o, G.on⟩ (by omega)
      have key10 : ∀ (b7 b8 : Nat) (t7 : aJ) (d8 : aO) (ty7 ty8 : TypeId) (w' : World) (ys : List Int), wb.heap.size ≤ b7 → wb.heap.size ≤ b8 → CN w w1 w' [b1, b2] → Gr intC 1 eP w1 w' sl ys → ys.length = g.cs.length →
          gI w.heap.size (fun c' x' w' => c' = (b1, c, aH, b2, s, aF, sl) ∧ (∃ (ys : List Int) (k : Nat), x' = (k : Int) ∧ CN w w1 w' [b1, b2] ∧ Gr intC 1 eP w1 w' sl ys ∧ ys.length = g.cs.length ∧ k ≤ ts.length) ∧ 20 - x'.toNat < 20 - (k : Int).toNat) (fun v w' => Touch noB w w' ∧ aUC w g.cs.length v w') b1 c aH b2 s aF sl (k : Int) b7 t7 ty7 b8 d8 ty8 w' := by
        intro b7 b8 t7 d8 ty7 ty8 w' ys h7 h8 C G hy
        unfold gI
        refine addc (hok h7 h8) (hout h7 h8) C G hy (fun w2 ys C G hy => ⟨rfl, ?_⟩)
        refine addc (hok h7 h8) (hout h7 h8) C G hy (fun w2 ys C G hy => ⟨rfl, ?_⟩)
        exact C.rebX (hok h7 h8) (fun w3 C t => key7 _ _ C (G.tr t (hout h7 h8)) hy)
      have key8 : ∀ (b7 b8 : Nat) (t7 : aJ) (d8 : aO) (ty7 ty8 : TypeId) (w' : World) (ys : List Int), wb.heap.size ≤ b7 → wb.heap.size ≤ b8 → CN w w1 w' [b1, b2] → Gr intC 1 eP w1 w' sl ys → ys.length = g.cs.length →
          gX w.heap.size (fun c' x' w' => c' = (b1, c, aH, b2, s, aF, sl) ∧ (∃ (ys : List Int) (k : Nat), x' = (k : Int) ∧ CN w w1 w' [b1, b2] ∧ Gr intC 1 eP w1 w' sl ys ∧ ys.length = g.cs.length ∧ k ≤ ts.length) ∧ 20 - x'.toNat < 20 - (k : Int).toNat) (fun v w' => Touch noB w w' ∧ aUC w g.cs.length v w') b1 c aH b2 s aF sl (k : Int) b7 t7 ty7 b8 d8 ty8 w' := by
        intro b7 b8 t7 d8 ty7 ty8 w' ys h7 h8 C G hy
        unfold gX
        refine ifb (fun _ => ?_) (fun _ => ?_)
        · exact C.rebX (hok h7 h8) (fun w3 C t => key7 _ _ C (G.tr t (hout h7 h8)) hy)
        · refine C.rebX (hok h7 h8) (fun w3 C t => ?_)
          replace G := G.tr t (hout h7 h8)
          unfold rJ
          refine ifb (fun _ => ?_) (fun _ => ?_)
          · refine addc (hok h7 h8) (hout h7 h8) C G hy (fun w2 ys C G hy => ⟨rfl, ?_⟩)
            refine addc (hok h7 h8) (hout h7 h8) C G hy (fun w2 ys C G hy => ⟨rfl, ?_⟩)
            exact C.rebX (hok h7 h8) (fun w3 C t => key10 _ _ _ _ _ _ _ _ h7 h8 C (G.tr t (hout h7 h8)) hy)
          · exact C.rebX (hok h7 h8) (fun w3 C t => key10 _ _ _ _ _ _ _ _ h7 h8 C (G.tr t (hout h7 h8)) hy)
      refine C.reb hL (fun w3 C t => ?_)
      have zb := t.size
      replace G := G.stN C t
      unfold tF
      refine rdL hs C.now a2T (by omega) (by omega) (fun p x hx ha hlt => ⟨x, ha, nI0 hlt (by simp [blk]; omega), ?_⟩)
      refine rdL h.t C.now a1H (by omega) (by omega) (fun p x hx ha hlt => ⟨x, ha, nI0 hlt (by simp [blk]; omega), ?_, ?_⟩)
      · intro b7 h7 b8 h8
        exact C.rebX (hok (by omega) (by omega)) (fun w3 C t => key8 _ _ _ _ _ _ _ _ (by omega) (by omega) C (G.tr t (hout (by omega) (by omega))) hy)
      · intro b7 h7 b8 h8
        exact C.rebX (hok (by omega) (by omega)) (fun w3 C t => key8 _ _ _ _ _ _ _ _ (by omega) (by omega) C (G.tr t (hout (by omega) (by omega))) hy)
    · refine C.reb hL (fun w5 C t => ?_)
      replace G := G.stN C t
      unfold rR
      have z1 := C.T0.t.size
      refine C.reb (by simp [blk]) (fun w5 C t => ⟨C.now.t, sl, ys, rfl, (G.stN C t).own, fun b hb => by have := G.on b hb; omega, by omega⟩)
end
end Go.Sh
