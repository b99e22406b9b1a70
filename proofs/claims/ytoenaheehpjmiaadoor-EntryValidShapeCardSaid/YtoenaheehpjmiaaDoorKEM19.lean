/- A part of the proof (printed smaller by a program of ours). Conditions: none. -/
import Derived.Test.YtoenaheehpjmiaaDoorKEM18
namespace Go.Sh
open Go
set_option linter.unusedSimpArgs false
set_option linter.unusedVariables false
set_option maxHeartbeats 4000000
abbrev enC : aC → List Value := aC.cells
theorem a02 (x : aC) : (enC x).length = 9 := rfl
theorem a11 (x : aC) : ∀ u ∈ enC x, u.oneCell' = true := by
  intro u hu; simp [enC, aC.cells] at hu; rcases hu with rfl | rfl | rfl | rfl | rfl | rfl | rfl | rfl | rfl <;> rfl
structure LI (w wb : World) (bs : List Nat) (g : Cfg) (s : aA) (ts : List aJ) (xs : List aL) (bt : Nat) (sl : Sl) (ns : List Int) (i : Nat) (out : Sl) (ys : List aC) : Prop where
  T : Now noB w wb
  st : StAt wb s ts xs
  ok : StOk g ts xs
  tp : qG wb bt sl ns i
  og : Own enC 9 aD wb out ys
  gb : w.heap.size ≤ bt
  gs : ∀ b, s.on b → w.heap.size ≤ b
  go : ∀ b, out.on b → w.heap.size ≤ b
  sb : ∀ b, s.on b → b ≠ bt
  ob : ∀ b, out.on b → b ≠ bt
  so : ∀ b, s.on b → ¬ out.on b
  nb : ∀ b ∈ bs, b ≠ bt ∧ ¬ s.on b ∧ ¬ out.on b ∧ w.heap.size ≤ b
  ls : ∀ b, sl.on b → b < w.heap.size
section
variable {w wb w' : World} {bs : List Nat} {c : aB} {g : Cfg} {s : aA} {ts : List aJ} {xs : List aL} {bt : Nat} {sl : Sl} {ns : List Int} {i : Nat} {out : Sl} {ys : List aC} {L : List LB}
theorem LI.step (I : LI w wb bs g s ts xs bt sl ns i out ys) (hL : ∀ b ∈ blk L, b ∈ bs) (T : Now noB w w') (t : Touch (fun b => b ∈ blk L) wb w') : LI w w' bs g s ts xs bt sl ns i out ys :=
  { I with
    T := T
    st := I.st.tr t (fun b hb hm => (I.nb b (hL b hm)).2.1 hb)
    tp := I.tp.tr t (fun b hb hm => by
      rcases hb with rfl | hb
      · exact (I.nb b (hL b hm)).1 rfl
      · have := I.ls b hb; have := (I.nb b (hL b hm)).2.2.2; omega)
    og := I.og.tr t (fun b hb hm => (I.nb b (hL b hm)).2.2.1 hb) }
theorem LI.stepT {j : Nat} (I : LI w wb bs g s ts xs bt sl ns i out ys) (hL : ∀ b ∈ blk L, b ∈ bs) (T : Now noB w w') (t : Touch (fun b => b ∈ blk L ∨ b = bt) wb w') (tp : qG w' bt sl ns j) : LI w w' bs g s ts xs bt sl ns j out ys :=
  { I with
    T := T
    st := I.st.tr t (fun b hb hm => hm.elim (fun hm => (I.nb b (hL b hm)).2.1 hb) (fun e => I.sb b hb e))
    tp := tp
    og := I.og.tr t (fun b hb hm => hm.elim (fun hm => (I.nb b (hL b hm)).2.2.1 hb) (fun e => I.ob b hb e)) }
theorem LI.add {b : Nat} (I : LI w wb bs g s ts xs bt sl ns i out ys) (hb : wb.heap.size ≤ b) : LI w wb (b :: bs) g s ts xs bt sl ns i out ys :=
  { I with
    nb := fun b' hb' => by
      rcases List.mem_cons.1 hb' with rfl | h
      · have z := I.T.t.size
        have z1 := I.tp.lt
        exact ⟨by omega, fun h => by have := I.st.lt h; omega, fun h => by have := I.og.lt h; omega, by omega⟩
      · exact I.nb b' h }
theorem LI.less {bs' : List Nat} (I : LI w wb bs g s ts xs bt sl ns i out ys) (h : ∀ b ∈ bs', b ∈ bs) : LI w wb bs' g s ts xs bt sl ns i out ys :=
  { I with nb := fun b hb => I.nb b (h b hb) }
theorem LI.tq (I : LI w wb bs g s ts xs bt sl ns i out ys) (C : eT w c g) (hc : ∀ b, c.on b → b < w.heap.size) : TQ wb wb c g s ts xs bt sl ns i :=
  have z := I.T.t.size
  ⟨⟨Now.refl, C.now I.T, I.st, fun b hb => I.st.lt hb, fun b hb hs => by have := hc b hb; have := I.gs b hs; omega⟩, I.tp, I.tp.lt,
    fun b hb => Nat.lt_of_lt_of_le (I.ls b hb) z, fun b hb => Nat.lt_of_lt_of_le (hc b hb) z, fun b hb e => by have := hc b hb; have := I.gb; omega, I.sb⟩
end
def a1J (w : World) (v : Value) (w' : World) : Prop := ∃ (out : Sl) (ys : List aC), v = .slice out.a out.n out.c ∧ Own enC 9 aD w' out ys ∧ (∀ b, out.on b → w.heap.size ≤ b) ∧ ys.length ≤ 400
theorem aZ0 {w : World} {l : Sl} {ns : List Int} {c : aB} {g : Cfg} (hr : Rd intC 1 w l ns) (hlt : ∀ b, l.on b → b < w.heap.size) (hs : ns.length ≤ 200) (C : eT w c g) (ok : bU c g) (hc : ∀ b, c.on b → b < w.heap.size) (n : Int) :
    Spec PP oH [.slice l.a l.n l.c, .agg (List.toArray c.cells), .int .i64 n] w noB (a1J w) := by
  refine aS0 l c n _ w ?_
  unfold aE0
  have T : Now noB w w := Now.refl
  intro b32 hb32
  refine Reb.A T Anc.start (fun w1 T t1 => ?_)
  unfold aBY
  refine CallL.pA T Anc.start (fun wa T t => aPH (hr.tr T.t (by simp [noB])) (fun b hb => Nat.lt_of_lt_of_le (hlt b hb) T.t.size) hs) ?_
  rintro wa v w2 T t z1 z2 yb ⟨bt, rfl, tp, gb⟩
  refine ⟨_, rfl, ?_⟩
  have y32 := yb b32 (by simp [blk])
  refine Reb.A T Anc.start (fun w3 T t3 => ?_)
  replace tp := tp.tr t3 (by
    intro b hb hm
    simp [blk] at hm
    rcases hb with rfl | hb
    · omega
    · have := hlt b hb; omega)
  unfold aB5
  have hbt := tp.lt
  refine CallL.pA T Anc.start (fun wa T t => aV1 (C.now T) ok) ?_
  rintro wb v w4 T t z3 z4 yb2 ⟨s, ts, xs, rfl, st, hst, fs⟩
  have y32' := yb2 b32 (by simp [blk])
  replace tp := tp.tr t (by
    intro b hb hm
    simp [blk] at hm
    rcases hb with rfl | hb
    · omega
    · have := hlt b hb; omega)
  refine ⟨s, rfl, ?_⟩
  intro b26 hb26
  have I : LI w w4 [b32] g s ts xs bt l ns 0 ⟨none, 0, 0⟩ [] :=
    ⟨T, st, hst, tp, Own.nil, by omega, fun b hb => by have := fs b hb; omega, fun b hb => by simp at hb, fun b hb => by have := fs b hb; omega, fun b hb => by simp at hb, fun b hb => by simp,
      fun b hb => by
        simp at hb; subst hb
        exact ⟨by omega, fun h => by have := fs _ h; omega, by simp, hb32⟩, hlt⟩
  replace I := I.add hb26
  have hL : ∀ {c1 c2 : List Value} {t1 t2 : TypeId}, ∀ b ∈ blk [⟨b32, c1, t1⟩, ⟨b26, c2, t2⟩], b ∈ [b26, b32] := by
    intro c1 c2 t1 t2 b hb; simp [blk] at hb ⊢; omega
  refine Reb.A T Anc.start (fun w5 T t5 => ?_)
  replace I := I.step hL T t5
  unfold aBR
  refine Reb.A T Anc.start (fun w6 T t6 => ?_)
  replace I := I.step hL T t6
  unfold aBW
  refine ⟨fun m x w' => ∃ ts xs ys i, LI w w' [b26, b32] g x.1 ts xs bt l ns i x.2 ys ∧ m = 400 - i ∧ i ≤ 365 ∧ ys.length ≤ i, 400, ?_, ?_⟩
  · exact Reb.A T Anc.start (fun w7 T t7 => ⟨ts, xs, [], 0, I.step hL T t7, rfl, by omega, by simp⟩)
  · rintro m ⟨s, out⟩ wb ⟨ts, xs, ys, i, I, rfl, hi, hy⟩
    simp only at I
    unfold aBN
    dsimp only
    unfold aBO
    have fin : ∀ w', LI w w' [b26, b32] g s ts xs bt l ns i out ys → lD w.heap.size (fun v w' => Touch noB w w' ∧ a1J w v w') out w' := by
      intro w' I
      unfold lD
      exact Reb.A I.T Anc.nil (fun w8 T t => ⟨T.t, out, ys, rfl, I.og.tr t (by simp [blk]), I.go, by omega⟩)
    refine ifbd (fun h1 => ?_) (fun h1 => Reb.A I.T Anc.start (fun w' T t => fin _ (I.step hL T t)))
    refine CallL.vA I.T Anc.start (fun wa T t => aZT (I.step hL T t).tp) (fun w1 T t => ⟨_, rfl, ?_⟩)
    replace I := I.step hL T t
    refine ifbd (fun h2 => ?_) (fun h2 => Reb.A I.T Anc.start (fun w' T t => fin _ (I.step hL T t)))
    have htl := I.tp.lt
    have hgb := I.gb
    refine CallL.A (fun b => b = bt) I.T Anc.start (fun b hb => ⟨by omega, fun hm => (I.nb b (hL b hm)).1 hb⟩) (fun b hb e => by omega) (fun wa T t => aUZ ((I.step hL T t).tq C hc) ok I.ok (by omega)) ?_
    rintro wa v w2 T t z1 z2 yb ⟨e, j, rfl, tp, hj⟩
    rw [if_neg (by omega)] at hj
    refine ⟨e, rfl, ?_⟩
    intro b7 hb7
    have I2 := (I.stepT hL T t tp).add hb7
    have hL2 : ∀ {c1 c2 c3 : List Value} {t1 t2 t3 : TypeId}, ∀ b ∈ blk [⟨b32, c1, t1⟩, ⟨b26, c2, t2⟩, ⟨b7, c3, t3⟩], b ∈ [b7, b26, b32] := by
      intro c1 c2 c3 t1 t2 t3 b hb; simp [blk] at hb ⊢; omega
    refine CallL.pA I2.T Anc.start (fun wa T t => aIA (C.now T) ok (fun b hb => Nat.lt_of_lt_of_le (hc b hb) T.t.size) (I2.step hL2 T t).st I2.ok) ?_
    rintro wa' v w3 T t z3 z4 yb' ⟨st, er, rfl, hr0⟩
    have htl2 := I2.tp.lt
    have I3 := I2.step hL2 T t
    refine ⟨st, er, rfl, ?_⟩
    intro b12 hb12
    have hL3 : ∀ {c1 c2 c3 c4 : List Value} {t1 t2 t3 t4 : TypeId}, ∀ b ∈ blk [⟨b32, c1, t1⟩, ⟨b26, c2, t2⟩, ⟨b7, c3, t3⟩, ⟨b12, c4, t4⟩], b ∈ [b12, b7, b26, b32] := by
      intro c1 c2 c3 c4 t1 t2 t3 t4 b hb; simp [blk] at hb ⊢; omega
    refine ifbd (fun h3 => ?_) (fun h3 => ?_)
    · obtain ⟨ts', xs', hA, hok, hf⟩ := hr0 h3
      have I4 : LI w w3 [b12, b7, b26, b32] g st ts' xs' bt l ns j out ys := LI.add
        { I3 with
          st := hA
          ok := hok
          gs := fun b hb => by have := hf b hb; have := I2.T.t.size; omega
          sb := fun b hb => by have := hf b hb; omega
          so := fun b hb ho => by have := hf b hb; have := I2.og.lt ho; omega
          nb := fun b hb => by
            have h := I3.nb b hb
            exact ⟨h.1, fun hs => by
              have := hf b hs
              have hb' : b ∈ blk [(⟨b32, [], 0⟩ : LB), ⟨b26, [], 0⟩, ⟨b7, [], 0⟩] := by simp [blk] at hb ⊢; omega
              have := yb' b hb'
              omega, h.2.2.1, h.2.2.2⟩ } hb12
      refine NewL.A I4.T Anc.start (fun bn w4 T t hn ln => ?_)
      have hgl : ∀ b, out.on b → b < w3.heap.size := fun b hb => I4.og.lt hb
      have I5 := I4.step hL3 T t
      have hyl := I5.og.1
      refine RunL.appA I5.T Anc.start aYJ.t (by decide) a02 a11 I5.og (Blk.rd1 (x := e) hn) (fun h => by cases h) (by omega) (fun b hlt hb => by have := I5.go b hb; omega) (fun b hb hm => (I5.nb b (hL3 b hm)).2.2.1 hb) (fun b hb => by simp at hb; rw [← hb]; exact ln.2.2.2) (fun out' w5 T t' o f nn => ⟨out', rfl, ?_⟩)
      have hst4 : ∀ b, st.on b → b < w4.heap.size := fun b hb => I5.st.lt hb
      have hbt4 := I5.tp.lt
      have z5 := I5.T.t.size
      have I6 : LI w w5 [b12, b7, b26, b32] g st ts' xs' bt l ns j out' (ys ++ [e]) :=
        { I5 with
          T := T
          st := I5.st.tr t' (fun b hb hm => hm.elim (fun hm => (I5.nb b (hL3 b hm)).2.1 hb) (fun ho => I5.so b hb ho))
          tp := I5.tp.tr t' (fun b hb hm => by
            rcases hb with rfl | hb
            · exact hm.elim (fun hm => (I5.nb _ (hL3 _ hm)).1 rfl) (fun ho => I5.ob _ ho rfl)
            · have := I5.ls b hb
              exact hm.elim (fun hm => by have := (I5.nb _ (hL3 _ hm)).2.2.2; omega) (fun ho => by have := I5.go _ ho; omega))
          og := o
          go := fun b hb => (f b hb).elim (fun h => I5.go b h) (fun h => by omega)
          ob := fun b hb => (f b hb).elim (fun h => I5.ob b h) (fun h => by omega)
          so := fun b hb ho => (f b ho).elim (fun h => I5.so b hb h) (fun h => by have := hst4 b hb; omega)
          nb := fun b hb => by
            have h := I5.nb b hb
            refine ⟨h.1, h.2.1, fun ho => nn b ho ?_, h.2.2.2⟩
            simp [blk] at hb ⊢; omega }
      exact Reb.A I6.T Anc.start (fun w6 T t => ⟨rfl, 400 - j, by omega, ts', xs', ys ++ [e], j, (I6.step hL3 T t).less (by simp), rfl, by omega, by simp; omega⟩)
    · have I4 := I3.add hb12
      exact Reb.A I4.T Anc.start (fun w6 T t => ⟨rfl, 400 - j, by omega, ts, xs, ys, j, (I4.step hL3 T t).less (by simp), rfl, by omega, by omega⟩)
end Go.Sh
