/- A part of the proof (printed smaller by a program of ours). Conditions: none. -/
import Derived.Test.YtoenaheehpjmiaaDoorKEM19
namespace Go.Sh
open Go
set_option linter.unusedSimpArgs false
set_option linter.unusedVariables false
set_option maxHeartbeats 4000000
structure FI (w wb : World) (bs : List Nat) (g : Cfg) (s : aA) (ts : List aJ) (xs : List aL) : Prop where
  T : Now noB w wb
  st : StAt wb s ts xs
  ok : StOk g ts xs
  gs : ∀ b, s.on b → w.heap.size ≤ b
  nb : ∀ b ∈ bs, ¬ s.on b ∧ w.heap.size ≤ b
section
variable {w wb w' : World} {bs : List Nat} {c : aB} {g : Cfg} {s : aA} {ts : List aJ} {xs : List aL} {L : List LB}
theorem FI.step (I : FI w wb bs g s ts xs) (hL : ∀ b ∈ blk L, b ∈ bs) (T : Now noB w w') (t : Touch (fun b => b ∈ blk L) wb w') : FI w w' bs g s ts xs :=
  { I with T := T, st := I.st.tr t (fun b hb hm => (I.nb b (hL b hm)).1 hb) }
theorem FI.add {b : Nat} (I : FI w wb bs g s ts xs) (hb : wb.heap.size ≤ b) : FI w wb (b :: bs) g s ts xs :=
  ⟨I.T, I.st, I.ok, I.gs, fun b' hb' => by
      rcases List.mem_cons.1 hb' with rfl | h
      · have z := I.T.t.size
        exact ⟨fun h => by have := I.st.lt h; omega, by omega⟩
      · exact I.nb b' h⟩
theorem FI.less {bs' : List Nat} (I : FI w wb bs g s ts xs) (h : ∀ b ∈ bs', b ∈ bs) : FI w wb bs' g s ts xs := { I with nb := fun b hb => I.nb b (h b hb) }
end
def a2M (w : World) (g : Cfg) (v : Value) (w' : World) : Prop :=
  ∃ (st : aA) (n er : Int), v = .tuple #[.agg (List.toArray st.cells), .int .i64 n, .int .i64 er] ∧ ∃ ts xs, StAt w' st ts xs ∧ StOk g ts xs ∧ ∀ b, st.on b → w.heap.size ≤ b
theorem aX4 {w : World} {l : Sl} {ys : List aC} {c : aB} {g : Cfg} (hr : Rd enC 9 w l ys) (hlt : ∀ b, l.on b → b < w.heap.size) (hy : ys.length ≤ 400) (C : eT w c g) (ok : bU c g) (hc : ∀ b, c.on b → b < w.heap.size) :
    Spec PP iE [.agg (List.toArray c.cells), .slice l.a l.n l.c] w noB (a2M w g) := by
  refine aNU c l _ w ?_
  unfold aBH
  have T : Now noB w w := Now.refl
  have hn := hr.1
  intro b2 hb2 b4 hb4
  refine Reb.A T Anc.start (fun w1 T t1 => ?_)
  unfold wZ
  refine CallL.pA T Anc.start (fun wa T t => aV1 (C.now T) ok) ?_
  rintro wa v w2 T t z1 z2 yb ⟨s, ts, xs, rfl, st, hst, fs⟩
  refine ⟨s, rfl, ?_⟩
  intro b7 hb7
  have y2 := yb b2 (by simp [blk])
  have y4 := yb b4 (by simp [blk])
  have I : FI w w2 [b2, b4] g s ts xs := ⟨T, st, hst, fun b hb => by have := fs b hb; omega, fun b hb => by
    simp at hb
    exact ⟨fun h => by have := fs _ h; omega, by omega⟩⟩
  replace I := I.add hb7
  have hL : ∀ {c1 c2 c3 : List Value} {t1 t2 t3 : TypeId}, ∀ b ∈ blk [⟨b2, c1, t1⟩, ⟨b4, c2, t2⟩, ⟨b7, c3, t3⟩], b ∈ [b7, b2, b4] := by
    intro c1 c2 c3 t1 t2 t3 b hb; simp [blk] at hb ⊢; omega
  refine Reb.A T Anc.start (fun w3 T t => ?_)
  replace I := I.step hL T t
  unfold xP
  refine Reb.A T Anc.start (fun w4 T t => ?_)
  replace I := I.step hL T t
  unfold xM
  refine LoopC.mk (fun x w' => ∃ ts xs, ∃ k : Nat, x.2.2 = (k : Int) ∧ FI w w' [b7, b2, b4] g x.2.1 ts xs ∧ k ≤ ys.length) (fun x => ys.length - x.2.2.toNat) ?_ ?_
  · exact Reb.A T Anc.start (fun w5 T t => ⟨ts, xs, 0, rfl, I.step hL T t, by omega⟩)
  · rintro ⟨v4, s, x⟩ wb ⟨ts, xs, k, hx, I, hk⟩
    simp only at hx I
    subst hx
    unfold yK
    dsimp only
    unfold yQ
    refine ifbd (fun h1 => ?_) (fun h1 => ?_)
    · refine Reb.A I.T Anc.start (fun w5 T t => ?_)
      replace I := I.step hL T t
      unfold yV
      have hr5 := hr.tr T.t (by simp [noB])
      have ksuc : IntKind.i64.wrap ((k : Int) + 1) = ((k + 1 : Nat) : Int) := bN (by omega)
      refine hr5.idx (by omega) (by omega) (fun p e hp he ha => ?_)
      have hpl : p.block < w.heap.size := hlt _ ⟨p, hp, rfl⟩
      have key8 : ∀ (b9 : Nat) (x9 : aA) (ty9 : TypeId) (er : Int) (w' : World), FI w w' [b9, b7, b2, b4] g s ts xs → (er = 0 → ∃ ts' xs', StAt w' x9 ts' xs' ∧ StOk g ts' xs' ∧ ∀ b, x9.on b → w.heap.size ≤ b ∧ b ∉ [b9, b7, b2, b4]) →
          iV w.heap.size (fun c' x' w' => c' = (l, b2, c, aH, b4, aF, b7, aF) ∧ (∃ ts xs, ∃ k : Nat, x'.2.2 = (k : Int) ∧ FI w w' [b7, b2, b4] g x'.2.1 ts xs ∧ k ≤ ys.length) ∧ ys.length - x'.2.2.toNat < ys.length - (k : Int).toNat) (fun v w' => Touch noB w w' ∧ a2M w g v w') l b2 c aH b4 v4 aF b7 s aF (k : Int) b9 x9 ty9 er w' := by
        intro b9 x9 ty9 er w' I hx
        have hL4 : ∀ {c1 c2 c3 c4 : List Value} {t1 t2 t3 t4 : TypeId}, ∀ b ∈ blk [⟨b2, c1, t1⟩, ⟨b4, c2, t2⟩, ⟨b7, c3, t3⟩, ⟨b9, c4, t4⟩], b ∈ [b9, b7, b2, b4] := by
          intro c1 c2 c3 c4 t1 t2 t3 t4 b hb; simp [blk] at hb ⊢; omega
        unfold iV
        refine ifbnd (fun h0 => ?_) (fun h0 => ?_)
        · refine Reb.A I.T Anc.start (fun w6 T t => ?_)
          have I := I.step hL4 T t
          exact ⟨T.t, s, _, _, rfl, ts, xs, I.st, I.ok, I.gs⟩
        · obtain ⟨ts', xs', hA, hok, hf⟩ := hx h0
          have J : FI w w' [b9, b7, b2, b4] g x9 ts' xs' := ⟨I.T, hA, hok, fun b hb => (hf b hb).1, fun b hb => ⟨fun h => (hf b h).2 hb, (I.nb b hb).2⟩⟩
          refine Reb.A J.T Anc.start (fun w6 T t => ?_)
          have J := (J.step hL4 T t).less (bs' := [b7, b2, b4]) (by simp)
          unfold wY
          refine Reb.A J.T Anc.start (fun w7 T t => ?_)
          have J := J.step hL T t
          exact ⟨rfl, ⟨ts', xs', k + 1, ksuc, J, by omega⟩, by simp only [ksuc]; omega⟩
      refine ⟨e, ha, fun hm => ?_, ?_, ?_⟩
      · have := hL _ hm
        have := (I.nb _ this).2
        simp [add_block] at this
        omega
      · refine CallL.pA I.T Anc.start (fun wa T t => aIA (C.now T) ok (fun b hb => Nat.lt_of_lt_of_le (hc b hb) T.t.size) (I.step hL T t).st I.ok) ?_
        rintro wa v w6 T t z3 z4 yb' ⟨st, er, rfl, hr0⟩
        refine ⟨st, er, rfl, ?_⟩
        intro b9 hb9
        have I2 := (I.step hL T t).add hb9
        have y2 := yb' b2 (by simp [blk])
        have y4 := yb' b4 (by simp [blk])
        have y7 := yb' b7 (by simp [blk])
        refine Reb.A I2.T Anc.start (fun w7 T t => ?_)
        have hL4 : ∀ {c1 c2 c3 c4 : List Value} {t1 t2 t3 t4 : TypeId}, ∀ b ∈ blk [⟨b2, c1, t1⟩, ⟨b4, c2, t2⟩, ⟨b7, c3, t3⟩, ⟨b9, c4, t4⟩], b ∈ [b9, b7, b2, b4] := by
          intro c1 c2 c3 c4 t1 t2 t3 t4 b hb; simp [blk] at hb ⊢; omega
        refine key8 _ _ _ _ _ (I2.step hL4 T t) (fun h => ?_)
        obtain ⟨ts', xs', hA, hok, hf⟩ := hr0 h
        have hn : ∀ b, st.on b → w.heap.size ≤ b ∧ b ∉ [b9, b7, b2, b4] := fun b hb => by
          have h1 := hf b hb
          have h2 := hA.lt hb
          have := (I2.nb b2 (by simp)).2
          refine ⟨by omega, fun hm => ?_⟩
          simp at hm
          omega
        exact ⟨ts', xs', hA.tr t (fun b hb hm => (hn b hb).2 (hL4 b hm)), hok, hn⟩
      · intro b9 hb9
        have I2 := I.add hb9
        have hL4 : ∀ {c1 c2 c3 c4 : List Value} {t1 t2 t3 t4 : TypeId}, ∀ b ∈ blk [⟨b2, c1, t1⟩, ⟨b4, c2, t2⟩, ⟨b7, c3, t3⟩, ⟨b9, c4, t4⟩], b ∈ [b9, b7, b2, b4] := by
          intro c1 c2 c3 c4 t1 t2 t3 t4 b hb; simp [blk] at hb ⊢; omega
        refine CallL.pA I2.T Anc.start (fun wa T t => aIA (C.now T) ok (fun b hb => Nat.lt_of_lt_of_le (hc b hb) T.t.size) (I2.step hL4 T t).st I2.ok) ?_
        rintro wa v w6 T t z3 z4 yb' ⟨st, er, rfl, hr0⟩
        refine ⟨st, er, rfl, ?_⟩
        have I3 := I2.step hL4 T t
        have y2 := yb' b2 (by simp [blk])
        have y4 := yb' b4 (by simp [blk])
        have y7 := yb' b7 (by simp [blk])
        have y9 := yb' b9 (by simp [blk])
        refine Reb.A I3.T Anc.start (fun w7 T t => ?_)
        refine key8 _ _ _ _ _ (I3.step hL4 T t) (fun h => ?_)
        obtain ⟨ts', xs', hA, hok, hf⟩ := hr0 h
        have hn : ∀ b, st.on b → w.heap.size ≤ b ∧ b ∉ [b9, b7, b2, b4] := fun b hb => by
          have h1 := hf b hb
          have h2 := hA.lt hb
          have := (I2.nb b2 (by simp)).2
          refine ⟨by omega, fun hm => ?_⟩
          simp at hm
          omega
        exact ⟨ts', xs', hA.tr t (fun b hb hm => (hn b hb).2 (hL4 b hm)), hok, hn⟩
    · refine Reb.A I.T Anc.start (fun w5 T t => ?_)
      replace I := I.step hL T t
      unfold xV
      have I' := I.less (bs' := [b4, b7]) (by simp)
      refine Reb.A I'.T Anc.start (fun w6 T t => ?_)
      have I := I'.step (by intro b hb; simp [blk] at hb ⊢; omega) T t
      exact ⟨T.t, s, _, _, rfl, ts, xs, I.st, I.ok, I.gs⟩
def StP (w : World) (g : Cfg) (v : Value) (w' : World) : Prop := ∃ (st : aA) (ts : List aJ) (xs : List aL), v = .agg (List.toArray st.cells) ∧ StAt w' st ts xs ∧ StOk g ts xs ∧ ∀ b, st.on b → w.heap.size ≤ b
theorem aX5 {w : World} {l : Sl} {ns : List Int} {c : aB} {g : Cfg} (hr : Rd intC 1 w l ns) (hlt : ∀ b, l.on b → b < w.heap.size) (hs : ns.length ≤ 200) (C : eT w c g) (ok : bU c g) (hc : ∀ b, c.on b → b < w.heap.size) (n : Int) :
    Spec PP aBI [.slice l.a l.n l.c, .agg (List.toArray c.cells), .int .i64 n] w noB (StP w g) := by
  refine aO3 l c n _ w ?_
  unfold aBU
  have T : Now noB w w := Now.refl
  have logc : ∀ {w1 : World} {L : List LB} {K : Sl → World → Prop}, Now noB w w1 → (∀ (l3 : Sl) ys w2, Now noB w w2 → Own enC 9 aD w2 l3 ys → (∀ b, l3.on b → w.heap.size ≤ b ∧ b ∉ blk L) → ys.length ≤ 400 → K l3 w2) →
      CallL PP w.heap.size w1 L oH [.slice l.a l.n l.c, .agg (List.toArray c.cells), .int .i64 n] fun r w2 => ∃ l3 : Sl, r = .slice l3.a l3.n l3.c ∧ K l3 w2 := by
    intro w1 L K T k
    refine CallL.pA T Anc.start (fun wa T t => aZ0 (hr.tr T.t (by simp [noB])) (fun b hb => Nat.lt_of_lt_of_le (hlt b hb) T.t.size) hs (C.now T) ok (fun b hb => Nat.lt_of_lt_of_le (hc b hb) T.t.size) n) ?_
    rintro wa v w2 T2 t z1 z2 yb ⟨out, ys, rfl, o, f, hy⟩
    have z0 := T.t.size
    exact ⟨out, rfl, k out ys w2 T2 o (fun b hb => ⟨by have := f b hb; omega, fun hm => by have := f b hb; have := yb b hm; omega⟩) hy⟩
  have foldc : ∀ {w1 : World} {L : List LB} {l3 : Sl} {ys : List aC} {K : aA → World → Prop}, Now noB w w1 → Own enC 9 aD w1 l3 ys → (∀ b, l3.on b → w.heap.size ≤ b ∧ b ∉ blk L) → ys.length ≤ 400 →
      (∀ st ts xs w2, Now noB w w2 → StAt w2 st ts xs → StOk g ts xs → (∀ b, st.on b → w.heap.size ≤ b ∧ b ∉ blk L) → K st w2) →
      CallL PP w.heap.size w1 L iE [.agg (List.toArray c.cells), .slice l3.a l3.n l3.c] fun r w2 => ∃ x6 : aA, ∃ n7 : Int, ∃ n8 : Int, r = .tuple #[.agg (List.toArray x6.cells), .int .i64 n7, .int .i64 n8] ∧ K x6 w2 := by
    intro w1 L l3 ys K T o f hy k
    refine CallL.pA T Anc.start (fun wa T t => aX4 ((o.tr t (fun b hb => (f b hb).2)).rd a02) (fun b hb => (o.tr t (fun b hb => (f b hb).2)).lt hb) hy (C.now T) ok (fun b hb => Nat.lt_of_lt_of_le (hc b hb) T.t.size)) ?_
    rintro wa v w2 T2 t z1 z2 yb ⟨st, n7, n8, rfl, ts, xs, hA, hok, hf⟩
    have z0 := T.t.size
    exact ⟨st, n7, n8, rfl, k st ts xs w2 T2 hA hok (fun b hb => ⟨by have := hf b hb; omega, fun hm => by have := hf b hb; have := yb b hm; omega⟩)⟩
  have fin : ∀ {w2 : World} {st : aA} {ts : List aJ} {xs : List aL} {L : List LB}, Now noB w w2 → StAt w2 st ts xs → StOk g ts xs → (∀ b, st.on b → w.heap.size ≤ b ∧ b ∉ blk L) → Reb w.heap.size w2 L ((fun v w' => Touch noB w w' ∧ StP w g v w') (.agg (List.toArray st.cells))) := by
    intro w2 st ts xs L T hA hok hf
    exact Reb.A T Anc.start (fun w3 T t => ⟨T.t, st, ts, xs, rfl, hA.tr t (fun b hb => (hf b hb).2), hok, fun b hb => (hf b hb).1⟩)
  intro b1 hb1 b2 hb2
  refine ⟨?_, ?_⟩
  · refine logc T (fun l3 ys w2 T o f hy => ⟨?_, ?_⟩)
    · refine foldc T o f hy (fun st ts xs w3 T hA hok hf => ?_)
      intro b11 hb11
      refine fin T hA hok (fun b hb => ⟨(hf b hb).1, fun hm => ?_⟩)
      have h1 := (hf b hb).2
      have h2 := hA.lt hb
      simp [blk] at hm h1
      omega
    · intro b12 hb12
      refine foldc T o (fun b hb => ⟨(f b hb).1, fun hm => ?_⟩) hy (fun st ts xs w3 T hA hok hf => fin T hA hok (fun b hb => ⟨(hf b hb).1, fun hm => ?_⟩))
      · have h1 := (f b hb).2
        have h2 := o.lt hb
        simp [blk] at hm h1
        omega
      · have h1 := (hf b hb).2
        simp [blk] at hm h1
        omega
  · intro b18 hb18
    refine logc T (fun l3 ys w2 T o f hy => ?_)
    refine foldc T o f hy (fun st ts xs w3 T hA hok hf => fin T hA hok (fun b hb => ⟨(hf b hb).1, fun hm => ?_⟩))
    have h1 := (hf b hb).2
    simp [blk] at hm h1
    omega
def a3B (w : World) (v : Value) (w' : World) : Prop := ∃ (c : aB) (g : Cfg) (e : aC), v = .tuple #[.agg (List.toArray c.cells), .agg (List.toArray e.cells)] ∧ eT w' c g ∧ bU c g ∧ ∀ b, c.on b → w.heap.size ≤ b ∧ b < w'.heap.size
theorem a05 {w : World} {l : Sl} {ns : List Int} (hr : Rd intC 1 w l ns) (hlt : ∀ b, l.on b → b < w.heap.size) (hs : ns.length ≤ 200) : Spec PP iD [.slice l.a l.n l.c] w noB (a3B w) := by
  refine aOX l _ w ?_
  unfold aBZ
  have T : Now noB w w := Now.refl
  intro b1 hb1 b2 hb2
  have hrn : ∀ {w'}, Now noB w w' → Rd intC 1 w' l ns := fun T => hr.tr T.t (by simp [noB])
  have hln : ∀ {w'}, Now noB w w' → ∀ b, l.on b → b < w'.heap.size := fun T b hb => Nat.lt_of_lt_of_le (hlt b hb) T.t.size
  refine CallL.pA T Anc.start (fun wa T t => aXM (hrn T) (hln T) hs) ?_
  rintro wa v w1 T1 t1 z1 z2 yb ⟨c, g, rfl, C, ok, f⟩
  refine ⟨c, rfl, ?_⟩
  intro b6 hb6
  have y1 := yb b1 (by simp [blk])
  have y2 := yb b2 (by simp [blk])
  have zw := T1.t.size
  have hcn : ∀ {L : List LB}, (∀ b ∈ blk L, b = b1 ∨ b = b2 ∨ b = b6) → ∀ b, c.on b → b ∉ blk L := fun hL b hb hm => by
    have := f b hb
    have h3 := hL b hm
    omega
  refine CallL.pA T1 Anc.start (fun wa T t => aPH (hrn T) (hln T) hs) ?_
  rintro wa2 v w2 T2 t2 z3 z4 yb2 ⟨bt, rfl, tp, hbt⟩
  refine ⟨_, rfl, ?_⟩
  have x1 := yb2 b1 (by simp [blk])
  have x6 := yb2 b6 (by simp [blk])
  replace C := C.tr t2 (hcn (by intro b hb; simpa [blk] using hb))
  have hbt2 := tp.lt
  refine CallL.pA T2 Anc.start (fun wa T t => aX5 (hrn T) (hln T) hs (C.tr t (hcn (by intro b hb; simpa [blk] using hb))) ok (fun b hb => by have := f b hb; have := t.size; omega) 10) ?_
  rintro wa3 v w3 T3 t3 z5 z6 yb3 ⟨s, ts, xs, rfl, st, hst, fs⟩
  refine ⟨s, rfl, ?_⟩
  have hbL : ∀ {c1 c2 c3 : List Value} {k1 k2 k3 : TypeId}, ∀ b, b = bt ∨ l.on b → b ∉ blk [⟨b1, c1, k1⟩, ⟨b2, c2, k2⟩, ⟨b6, c3, k3⟩] := by
    intro c1 c2 c3 k1 k2 k3 b hb hm
    have y1 := yb3 b1 (by simp [blk])
    simp [blk] at hm
    rcases hb with rfl | hb
    · omega
    · have := hlt b hb; omega
  replace C := C.tr t3 (hcn (by intro b hb; simpa [blk] using hb))
  replace tp := tp.tr t3 hbL
  have y1 := yb3 b1 (by simp [blk])
  have y2 := yb3 b2 (by simp [blk])
  have y6 := yb3 b6 (by simp [blk])
  have hsL : ∀ {c1 c2 c3 : List Value} {k1 k2 k3 : TypeId}, ∀ b, s.on b → b ∉ blk [⟨b1, c1, k1⟩, ⟨b2, c2, k2⟩, ⟨b6, c3, k3⟩] := by
    intro c1 c2 c3 k1 k2 k3 b hb hm
    have := fs b hb
    simp [blk] at hm
    omega
  have hcb : ∀ b, c.on b → b ≠ bt := fun b hb => by have := f b hb; omega
  refine CallL.A (fun b => b = bt) T3 Anc.start (fun b hb => ⟨by omega, fun hm => hbL b (.inl hb) hm⟩) (fun b hb e => by omega) (fun wa T t => aUZ (i := 0) (bt := bt) (sl := l) (ns := ns)
    ⟨⟨Now.refl, C.tr t (hcn (by intro b hb; simpa [blk] using hb)), st.tr t hsL, fun b hb => by have := st.lt hb; have := t.size; omega, fun b hb h => by have := f b hb; have := fs b h; omega⟩, tp.tr t hbL, by have := t.size; omega, hln T, fun b hb => by have := f b hb; have := t.size; omega, hcb, fun b hb => by have := fs b hb; omega⟩ ok hst (by omega)) ?_
  rintro wa4 v w4 T4 t4 z7 z8 yb4 ⟨e, j, rfl, _, _⟩
  refine ⟨e, rfl, ?_⟩
  replace C := C.tr t4 (fun b hb hm => hm.elim (fun hm => hcn (by intro b hb; simpa [blk] using hb) b hb hm) (fun e => hcb b hb e))
  refine Reb.A T4 Anc.start (fun w5 T5 t5 => ⟨T5.t, c, g, e, rfl, C.tr t5 (hcn (by intro b hb; simpa [blk] using hb)), ok, fun b hb => by have := f b hb; have := t5.size; omega⟩)
end Go.Sh
