/- A part of the proof (printed smaller by a program of ours). Conditions: none. -/
import Derived.Test.YtoenaheehpjmiaaDoorKEM6
namespace Go.Sh
open Go
set_option linter.unusedSimpArgs false
set_option linter.unusedVariables false
set_option maxHeartbeats 4000000
section
variable {w0 wM w w' : World} {bs : List Nat} {L : List LB}
variable {α : Type} {c : α → List Value} {kk : Nat} {e : TypeId}
theorem CN.fresh {t ty bytes bn : Nat} {q : Sl} {ys : List α} {R : Value → World → Prop} (C : CN w0 wM w bs) (h : ∀ b ∈ blk L, b ∈ bs) (E : ElemT PP t e kk bytes) (hb0 : 0 < bytes) (hk : ∀ x, (c x).length = kk) (h1 : ∀ x, ∀ u ∈ c x, u.oneCell' = true)
    (hn : Blk w bn [] e) (hbn : bn ∉ blk L) (hge : wM.heap.size ≤ bn) (hy : Rd c kk w q ys) (hc : q.a = none → q.c = 0) (hsz : q.n * bytes ≤ 140737488355328) (hyo : ∀ b, q.on b → b ∉ blk L)
    (k : ∀ s' w', CN w0 wM w' bs → Touch (fun b => b ∈ bs ∨ b = bn) w w' → Gr c kk e wM w' s' ys → R (.slice s'.a s'.n s'.c) w') :
    RunL PP w0.heap.size w L (Builtin.append_ #[t, t] ty #[.slice (some ⟨bn, 0, none⟩) 0 0, .slice q.a q.n q.c]) R := by
  have zz := C.T.t.size
  refine RunL.freshA C.T (CN.anc h) E hb0 hk h1 hn (fun hl => by omega) hbn hy hc hsz hyo (fun s' w1 T t o f n => ?_)
  refine k s' w1 ⟨T, C.T0, C.lt⟩ (t.mono (fun _ _ hb => hb.imp (h _) id)) ⟨o, fun b hb => ?_⟩
  rcases f b hb with h | h <;> omega
end
section
variable {w : World} {c : aB} {g : Cfg}
theorem aX3 {s : aA} {ts : List aJ} (h : eT w c g) (ok : bU c g) (hs : Rd tsC 12 w s.Tenants ts) (hl : ts.length = g.ts.length) : Spec PP aBV [.agg (List.toArray c.cells), .agg (List.toArray s.cells)] w noB
    (aUC w 11) := by
  refine aMW c s _ w ?_
  unfold aBG
  have hn := h.ce.1
  have hcl := ok.cl
  intro b1 hb1 b2 hb2
  refine fun w1 hlc => ?_
  have C : CN w w1 w1 [b1, b2] := CN.start hlc Now.refl (by simp [blk]; omega) rfl
  have hL : ∀ {cs cs' : List Value} {ty ty' : TypeId}, ∀ b ∈ blk [⟨b1, cs, ty⟩, ⟨b2, cs', ty'⟩], b ∈ [b1, b2] := by simp [blk]
  have hL1 : ∀ {cs : List Value} {ty : TypeId}, ∀ b ∈ blk [⟨b1, cs, ty⟩], b ∈ [b1, b2] := by simp [blk]
  unfold xA
  refine C.reb hL (fun w2 C t => ?_)
  have zt := t.size
  unfold xH
  refine C.call hL (fun wa C => aW7 (h.now C.now) ok (hs.tr C.now.t (by simp [noB])) hl) ?_
  rintro wa v w3 C t z ⟨sb, bs, rfl, ob, fb, lb⟩
  refine ⟨sb, rfl, ?_⟩
  have hbout : ∀ b, sb.on b → b ∉ [b1, b2] := fun b hb hm => by
    have e1 := fb b hb
    have e2 := C.lt b hm
    omega
  have rb : ∀ w', Now (fun i => i ∈ [b1, b2]) w3 w' → Rd intC 1 w' sb bs := fun w' T => (ob.tr T.t hbout).rd aHJ
  have nb := ob.1
  replace C := C.anchor
  refine C.reb hL (fun w4 C t => ?_)
  unfold xC
  refine C.reb hL1 (fun w5 C t => ?_)
  unfold xR
  refine LoopC.mk (fun x w' => ∃ (ys : List Int) (k : Nat), x.2 = (k : Int) ∧ CN w w3 w' [b1, b2] ∧ Gr intC 1 eP w3 w' x.1 ys ∧ x.1.n ≤ k ∧ k ≤ 11) (fun x => 20 - x.2.toNat) ?_ ?_
  · exact C.reb hL1 (fun w' C t => ⟨[], 0, rfl, C, ⟨Own.nil, by simp⟩, by simp, by omega⟩)
  · rintro ⟨sl, x⟩ wb ⟨ys, k, hx, C, G, hs2, hk⟩
    simp only at hx G hs2
    subst hx
    unfold yY
    dsimp only
    unfold wX
    refine ifbd (fun hi => ?_) (fun hi => ?_)
    · refine (rb _ C.T).idx (by omega) hi (fun p x hp hx ha => ⟨x, ha, ?_, ?_⟩)
      · rw [add_block]
        intro hm
        exact hbout p.block ⟨p, hp, rfl⟩ (hL1 _ hm)
      refine rdL h.ce C.now a1G (by omega) (by omega) (fun p x hx ha hlt => ⟨x.Capacity, ha.fld 1 rfl, nI hlt (by simp [blk]; omega), ?_⟩)
      refine ifbd (fun hz => ?_) (fun hz => ?_)
      · refine C.new hL1 (fun bn w5 C t hb _ hbn => ?_)
        replace G := G.stN C t
        refine C.app hL1 G aKG.t (by decide) aHJ aV0 hb hbn (by omega) (fun s2 w6 C G hn2 => ⟨s2, rfl, ?_⟩)
        refine C.reb hL1 (fun w7 C t => ?_)
        exact ⟨rfl, ⟨_, k + 1, bN (by omega), C, G.stN C t, by simp only; omega, by omega⟩, by simp only [bN (show k ≤ 1000000 by omega)]; omega⟩
      · refine C.reb hL1 (fun w7 C t => ?_)
        exact ⟨rfl, ⟨_, k + 1, bN (by omega), C, G.stN C t, by simp only; omega, by omega⟩, by simp only [bN (show k ≤ 1000000 by omega)]; omega⟩
    · refine C.reb hL1 (fun w4 C t => ?_)
      replace G := G.stN C t
      unfold yL
      have gl := G.own.1
      have z1 := C.T0.t.size
      refine C.reb (by simp [blk]) (fun w5 C t => ⟨C.now.t, sl, ys, rfl, (G.stN C t).own, fun b hb => by have := G.on b hb; omega, by omega⟩)
theorem bX {s : aA} {ts : List aJ} (h : eT w c g) (ok : bU c g) (hs : Rd tsC 12 w s.Tenants ts) (hl : ts.length = g.ts.length) : Spec PP fV [.agg (List.toArray c.cells), .agg (List.toArray s.cells)] w noB
    (fun v _ => ∃ (st : aA) (e : Int), v = .tuple #[.agg (List.toArray st.cells), .int .i64 e] ∧ (e = 0 → st = s)) := by
  refine aQF c s _ w ?_
  unfold aCR
  have T : Now noB w w := Now.refl
  intro b1 hb1 b2 hb2 b3 hb3
  refine CallL.pA T Anc.start (fun wa T t => aX3 (h.now T) ok (hs.tr T.t (by simp [noB])) hl) ?_
  rintro wa v w1 T t _ _ _ ⟨sl, ys, rfl, o, f, ly⟩
  refine ⟨sl, rfl, ?_⟩
  refine ifbd (fun h1 => ?_) (fun h1 => ?_)
  · exact Reb.A T Anc.start (fun w2 T t => ⟨T.t, _, _, rfl, fun h => by cases h⟩)
  · exact Reb.A T Anc.start (fun w2 T t => ⟨T.t, _, _, rfl, fun _ => rfl⟩)
theorem bV (e : Int) (w : World) : Spec PP aN [.int .i64 e] w noB
    (fun v _ => ∃ (st : aA), v = .tuple #[.agg (List.toArray st.cells), .int .i64 e]) := by
  refine aTD e _ w ?_
  unfold aE3
  have T : Now noB w w := Now.refl
  intro b1 hb1
  exact Reb.A T Anc.start (fun w2 T t => ⟨T.t, _, rfl⟩)
theorem bT (x : aT) (e : Int) (w : World) : Spec PP aDS [.agg (List.toArray x.cells), .int .i64 e] w noB
    (fun v _ => ∃ (y : aT), v = .agg (List.toArray y.cells)) := by
  refine aQT x e _ w ?_
  unfold aDJ
  have T : Now noB w w := Now.refl
  intro b1 hb1 b2 hb2
  exact Reb.A T Anc.start (fun w2 T t => ⟨T.t, _, rfl⟩)
theorem bE (s : aA) (v : Int) (w : World) : Spec PP dF [.agg (List.toArray s.cells), .int .i64 v] w noB (fun v _ => ∃ b : Bool, v = .bool b) := by
  refine aKC s v _ w ?_
  unfold yU
  have T : Now noB w w := Now.refl
  intro b1 hb1
  refine CallL.pA T Anc.start (fun wa T t => dM _ _ wa) ?_
  rintro wa v w2 T t _ _ _ ⟨z, rfl⟩
  exact ⟨z, rfl, Reb.A T Anc.start (fun w1 T t => ⟨T.t, _, rfl⟩)⟩
theorem iP {s : aA} {xs : List aL} (hx : Rd csC 4 w s.Cells xs) {i : Int} (h0 : 0 ≤ i) (h1 : i < xs.length) : Spec PP aBX [.agg (List.toArray s.cells), .int .i64 i] w noB (fun v _ => ∃ b : Bool, v = .bool b) := by
  refine aN3 s i _ w ?_
  unfold aB4
  have T : Now noB w w := Now.refl
  have hn := hx.1
  intro b1 hb1
  refine rdL hx T a1E h0 (by omega) (fun p x hx' ha hlt => ⟨x.Running, ha.fld 1 rfl, nI hlt (by simpa [blk] using hb1), ?_⟩)
  refine CallL.pA T Anc.start (fun wa T t => bE _ _ wa) ?_
  rintro wa v w2 T t _ _ _ ⟨z, rfl⟩
  refine ⟨z, rfl, ?_⟩
  refine ifbn (fun _ => Reb.A T Anc.start (fun w1 T t => ⟨T.t, _, rfl⟩)) (fun _ => ?_)
  refine rdL hx T a1E h0 (by omega) (fun p x hx' ha hlt => ⟨x.Wanted, ha.fld 2 rfl, nI hlt (by simpa [blk] using hb1), ?_⟩)
  refine CallL.pA T Anc.start (fun wa T t => bE _ _ wa) ?_
  rintro wa v w2 T t _ _ _ ⟨z, rfl⟩
  exact ⟨z, rfl, Reb.A T Anc.start (fun w1 T t => ⟨T.t, _, rfl⟩)⟩
theorem aXB {s : aA} {ts : List aJ} {xs : List aL} (hs : StAt w s ts xs) (ht : ts.length ≤ 100) (hx : xs.length ≤ 100) : Spec PP xO [.agg (List.toArray s.cells)] w noB
    (fun v w' => ∃ (st : aA), v = .agg (List.toArray st.cells) ∧ StAt w' st ts xs ∧ ∀ b, st.on b → w.heap.size ≤ b) := by
  refine aJW s _ w ?_
  unfold yJ
  have hn1 := hs.t.1
  have hn2 := hs.x.1
  intro b1 hb1 b2 hb2
  have T : Now noB w w := Now.refl
  refine NewL.A T Anc.start (fun b3 w2 T t hb3 l3 => ?_)
  have hlt1 : ∀ b, s.Tenants.on b → b < w.heap.size := fun b hb => hs.t.lt hb
  have hlt2 : ∀ b, s.Cells.on b → b < w.heap.size := fun b hb => hs.x.lt hb
  refine RunL.freshA T Anc.start aH4.t (by decide) kI a0Z hb3 (fun h => by omega) l3.2.2.2 ((hs.t.tr T.t (by simp [noB])).rd kI) hs.t.cap0 (by omega) (fun b hb hm => by have := hlt1 b hb; simp [blk] at hm; omega) (fun s1 w3 T t o1 f1 n1 => ⟨s1, rfl, ?_⟩)
  have g1 : ∀ b, s1.on b → w.heap.size ≤ b := fun b hb => by rcases f1 b hb with h | h <;> omega
  have z3 := T.t.size
  have g1l : ∀ b, s1.on b → b < w3.heap.size := fun b hb => o1.lt hb
  refine NewL.A T Anc.start (fun b4 w4 T t hb4 l4 => ?_)
  replace o1 := o1.tr t n1
  refine RunL.freshA T Anc.start aJM.t (by decide) qQ a00 hb4 (fun h => by omega) l4.2.2.2 ((hs.x.tr T.t (by simp [noB])).rd qQ) hs.x.cap0 (by omega) (fun b hb hm => by have := hlt2 b hb; simp [blk] at hm; omega) (fun s2 w5 T t o2 f2 n2 => ⟨s2, rfl, ?_⟩)
  have g2 : ∀ b, s2.on b → w.heap.size ≤ b := fun b hb => by rcases f2 b hb with h | h <;> omega
  replace o1 := o1.tr t (fun b hb hm => by
    rcases hm with hm | hm
    · exact n1 b hb hm
    · have := l4.2.1; have := g1l b hb; omega)
  refine Reb.A T Anc.start (fun w6 T t => ⟨T.t, { s with Tenants := s1, Cells := s2 }, rfl, ⟨o1.tr t n1, o2.tr t n2⟩, ?_⟩)
  rintro b (hb | hb)
  · exact g1 b hb
  · exact g2 b hb
theorem a1R (g : Cfg) : TnOk g ⟨false, false, -1, -1, -1, -1, 0, ⟨-1, 0, 0, 0, 0⟩⟩ := by
  refine ⟨?_, ?_, ?_, ?_, fun h => Bool.noConfusion h, fun h => Bool.noConfusion h⟩
  all_goals (unfold inC; simp only; omega)
theorem aV1 (h : eT w c g) (ok : bU c g) : Spec PP uA [.agg (List.toArray c.cells)] w noB
    (fun v w' => ∃ (st : aA) (ts : List aJ) (xs : List aL), v = .agg (List.toArray st.cells) ∧ StAt w' st ts xs ∧ StOk g ts xs ∧ ∀ b, st.on b → w.heap.size ≤ b) := by
  refine aPR c _ w ?_
  unfold aDT
  have hn := h.ce.1
  have hnt := h.t.1
  have hcl := ok.cl
  have htl := ok.tl
  have hvl := ok.vl
  intro b1 hb1 b2 hb2
  refine fun w1 hlc => ?_
  have C : CN w w1 w1 [b1, b2] := CN.start hlc Now.refl (by simp [blk]; omega) rfl
  have zz1 := hlc.touch.size
  unfold aAL
  intro b3 hb3
  refine fun w2 hlc2 => ?_
  have zz2 := hlc2.touch.size
  have T2 : Now noB w w2 := C.now.locA hlc2 Anc.start
  have C : CN w w2 w2 [b1, b2, b3] := ⟨Now.refl, T2, fun b hb => ⟨by simp at hb; omega, hlc2.lt (by simpa [blk] using hb)⟩⟩
  have hL : ∀ {cs cs' cs2 : List Value} {ty ty' ty2 : TypeId}, ∀ b ∈ blk [⟨b1, cs, ty⟩, ⟨b2, cs', ty'⟩, ⟨b3, cs2, ty2⟩], b ∈ [b1, b2, b3] := by simp [blk]
  have hL2 : ∀ {cs cs' : List Value} {ty ty' : TypeId}, ∀ b ∈ blk [⟨b2, cs, ty⟩, ⟨b3, cs', ty'⟩], b ∈ [b1, b2, b3] := by simp [blk]
  unfold zM
  refine C.reb hL (fun w3 C t => ?_)
  unfold aAB
  refine LoopC.mk (fun x w' => ∃ (sl : Sl) (ts : List aJ) (k : Nat), x.1 = (⟨0, 0, sl, ⟨none, 0, 0⟩, 1, 0, 0, 0⟩ : aA) ∧ x.2 = (k : Int) ∧ CN w w2 w' [b1, b2, b3] ∧ Gr tsC 12 aR w2 w' sl ts ∧ sl.n = k ∧ k ≤ g.ts.length ∧ ∀ t ∈ ts, TnOk g t) (fun x => 20 - x.2.toNat) ?_ ?_
  · exact C.reb hL (fun w' C t => ⟨⟨none, 0, 0⟩, [], 0, rfl, rfl, C, ⟨Own.nil, by simp⟩, rfl, by omega, by simp⟩)
  · rintro ⟨ss, x⟩ wb ⟨sl, ts, k, hss, hx, C, G, hs2, hk, hts⟩
    simp only at hss hx
    subst hss hx
    unfold zP
    dsimp only
    unfold zK
    dsimp only
    refine ifbd (fun hi => ?_) (fun hi => ?_)
    · refine C.new hL (fun bn w5 C t hb _ hbn => ?_)
      replace G := G.stN C t
      refine C.app hL G aH4.t (by decide) kI a0Z hb hbn (by omega) (fun s2 w6 C G hn2 => ⟨s2, rfl, ?_⟩)
      refine C.reb hL (fun w7 C t => ?_)
      refine ⟨rfl, ⟨s2, _, k + 1, rfl, bN (by omega), C, G.stN C t, by omega, by omega, ?_⟩, by simp only [bN (show k ≤ 1000000 by omega)]; omega⟩
      intro t ht
      rcases List.mem_append.1 ht with ht | ht
      · exact hts t ht
      · rw [List.mem_singleton] at ht; subst ht; exact a1R g
    · refine C.reb hL (fun w5 C t => ?_)
      replace G := G.stN C t
      have gl := G.own.1
      have gs := G.a2Y C
      have zwb := C.T.t.size
      have z0 := C.T0.t.size
      have gon := G.on
      replace C := C.anchor
      unfold aAD
      refine C.reb hL (fun w6 C t => ?_)
      unfold aAN
      refine LoopC.mk (fun x w' => ∃ (sl2 : Sl) (xs : List aL) (k : Nat), x.1 = (⟨0, 0, sl, sl2, 1, 0, 0, 0⟩ : aA) ∧ x.2 = (k : Int) ∧ CN w w5 w' [b1, b2, b3] ∧ Gr csC 4 bY w5 w' sl2 xs ∧ sl2.n = k ∧ k ≤ g.cs.length ∧ ∀ x ∈ xs, CeOk g x) (fun x => 20 - x.2.toNat) ?_ ?_
      · exact C.reb hL (fun w' C t => ⟨⟨none, 0, 0⟩, [], 0, rfl, rfl, C, ⟨Own.nil, by simp⟩, rfl, by omega, by simp⟩)
      · rintro ⟨ss, x⟩ wb ⟨sl2, xs, k2, hss, hx, C, G, hs3, hk2, hxs⟩
        simp only at hss hx
        subst hss hx
        unfold zL
        dsimp only
        unfold aAM
        dsimp only
        refine ifbd (fun hi => ?_) (fun hi => ?_)
        · refine C.new hL (fun bn w5 C t hb _ hbn => ?_)
          replace G := G.stN C t
          refine C.app hL G aJM.t (by decide) qQ a00 hb hbn (by omega) (fun s2 w6 C G hn2 => ⟨s2, rfl, ?_⟩)
          refine C.reb hL (fun w7 C t => ?_)
          refine ⟨rfl, ⟨s2, _, k2 + 1, rfl, bN (by omega), C, G.stN C t, by omega, by omega, ?_⟩, by simp only [bN (show k2 ≤ 1000000 by omega)]; omega⟩
          intro t ht
          rcases List.mem_append.1 ht with ht | ht
          · exact hxs t ht
          · rw [List.mem_singleton] at ht; subst ht; exact ⟨by simp only; omega, by simp only; omega⟩
        · refine C.reb hL (fun w7 C t => ?_)
          replace G := G.stN C t
          unfold aAT
          have gl2 := G.own.1
          have z02 := C.T0.t.size
          refine C.reb hL2 (fun w8 C t => ⟨C.now.t, ⟨0, 0, sl, sl2, 1, 0, 0, 0⟩, ts, xs, rfl, ⟨(gs _ C.T).own, (G.stN C t).own⟩, ⟨by omega, by omega, hts, hxs⟩, ?_⟩)
          rintro b (hb | hb)
          · have := gon b hb; omega
          · have := G.on b hb; omega
end
end Go.Sh
