/- A part of the proof (printed smaller by a program of ours). Conditions: none. -/
import Derived.Test.YtoenaheehpjmiaaDoorKEM4
namespace Go.Sh
open Go
set_option linter.unusedSimpArgs false
set_option linter.unusedVariables false
set_option maxHeartbeats 2000000
structure CN (w0 wM w : World) (bs : List Nat) : Prop where
  T : Now (fun i => i ∈ bs) wM w
  T0 : Now noB w0 wM
  lt : ∀ b ∈ bs, w0.heap.size ≤ b ∧ b < wM.heap.size
section
variable {w0 wM w w' : World} {bs : List Nat} {L : List LB}
theorem CN.start (hl : Loc w0.heap.size w L w') (T : Now noB w0 w) (hb : ∀ b ∈ blk L, w0.heap.size ≤ b) (e : blk L = bs) : CN w0 w' w' bs :=
  ⟨Now.refl, T.locA hl Anc.start, fun b h => ⟨hb b (e ▸ h), hl.lt (e ▸ h)⟩⟩
theorem CN.now (C : CN w0 wM w bs) : Now noB w0 w := C.T0.comp C.T.t (fun i hi hs => by have := (C.lt i hs).1; omega)
theorem CN.anchor (C : CN w0 wM w bs) : CN w0 w w bs := ⟨Now.refl, C.now, fun b h => by have := C.lt b h; have := C.T.t.size; omega⟩
theorem CN.past (C : CN w0 wM w bs) (T : Now (fun i => i ∈ bs) w w') : Now (fun i => i ∈ bs) wM w' := C.T.comp T.t (fun _ _ h => h)
theorem CN.less {bs' : List Nat} (C : CN w0 wM w bs) (h : ∀ b ∈ bs', b ∈ bs) : CN w0 w w bs' :=
  ⟨Now.refl, C.now, fun b hb => by have := C.lt b (h b hb); have := C.T.t.size; omega⟩
theorem CN.anc (h : ∀ b ∈ blk L, b ∈ bs) : Anc (fun i => i ∈ bs) wM w0.heap.size L := fun i hi _ _ => h i hi
theorem CN.reb {K : World → Prop} (C : CN w0 wM w bs) (h : ∀ b ∈ blk L, b ∈ bs) (k : ∀ w', CN w0 wM w' bs → Touch (fun b => b ∈ bs) w w' → K w') : Reb w0.heap.size w L K :=
  Reb.A C.T (CN.anc h) (fun w' T t => k w' ⟨T, C.T0, C.lt⟩ (t.mono (fun _ _ hb => h _ hb)))
theorem CN.new {cs : List Value} {ty : TypeId} {K : Nat → World → Prop} (C : CN w0 wM w bs) (h : ∀ b ∈ blk L, b ∈ bs)
    (k : ∀ b w', CN w0 wM w' bs → Touch (fun b => b ∈ bs) w w' → Blk w' b cs ty → w.heap.size ≤ b → b ∉ blk L → K b w') : NewL w0.heap.size w L cs ty K :=
  NewL.A C.T (CN.anc h) (fun b w' T t hb l => k b w' ⟨T, C.T0, C.lt⟩ (t.mono (fun _ _ hb => h _ hb)) hb l.2.1 l.2.2.2)
theorem CN.call {f : FuncId} {args : List Value} {R : Value → World → Prop} {R' : World → Value → World → Prop} (C : CN w0 wM w bs) (h : ∀ b ∈ blk L, b ∈ bs)
    (hs : ∀ wa, CN w0 wM wa bs → Spec PP f args wa noB (R' wa))
    (k : ∀ wa v w', CN w0 wM w' bs → Touch (fun b => b ∈ bs) w w' → w.heap.size ≤ wa.heap.size → R' wa v w' → R v w') : CallL PP w0.heap.size w L f args R :=
  CallL.pA C.T (CN.anc h) (fun wa T t => hs wa ⟨T, C.T0, C.lt⟩) (fun wa v w' T t z1 z2 _ hr => k wa v w' ⟨T, C.T0, C.lt⟩ (t.mono (fun _ _ hb => h _ hb)) z1 hr)
variable {α : Type} {c : α → List Value} {kk : Nat} {e : TypeId} {sl : Sl} {ys : List α}
theorem Gr.stN {wc : World} (g : Gr c kk e wM w sl ys) (C : CN w0 wM wc bs) (t : Touch (fun b => b ∈ bs) w w') : Gr c kk e wM w' sl ys :=
  g.tr t (fun b hb h => by have := g.on b hb; have := C.lt b h; omega)
theorem Gr.a2Y (g : Gr c kk e wM w sl ys) (C : CN w0 wM w bs) : ∀ w', Now (fun i => i ∈ bs) w w' → Gr c kk e wM w' sl ys := fun w' T => g.stN C T.t
theorem Gr.outN (g : Gr c kk e wM w sl ys) (C : CN w0 wM w bs) (h : ∀ b ∈ blk L, b ∈ bs) : ∀ b, sl.on b → b ∉ blk L := fun b hb hm => by
  have := g.on b hb; have := C.lt b (h b hm); omega
theorem CN.app {t ty bytes bn T : Nat} {y : α} {R : Value → World → Prop} (C : CN w0 wM w bs) (h : ∀ b ∈ blk L, b ∈ bs) (g : Gr c kk e wM w sl ys) (E : ElemT PP t e kk bytes) (hb0 : 0 < bytes) (hk : ∀ x, (c x).length = kk) (h1 : ∀ x, ∀ u ∈ c x, u.oneCell' = true)
    (hn : Blk w bn (c y) T) (hbn : bn ∉ blk L) (hb : (sl.n + 1) * bytes ≤ 140737488355328)
    (k : ∀ s' w', CN w0 wM w' bs → Gr c kk e wM w' s' (ys ++ [y]) → (s'.n = sl.n + 1) → R (.slice s'.a s'.n s'.c) w') :
    RunL PP w0.heap.size w L (Builtin.append_ #[t, t] ty #[.slice sl.a sl.n sl.c, .slice (some ⟨bn, 0, none⟩) 1 1]) R := by
  refine RunL.appA C.T (CN.anc h) E hb0 hk h1 g.own (Blk.rd1 (x := y) hn) (fun h => by cases h) hb (fun b hlt hb => by have := g.on b hb; omega) (g.outN C h) (fun b hb => by simp at hb; rw [← hb]; exact hbn) (fun s' w1 T t o f n => ?_)
  have zz := C.T.t.size
  refine k s' w1 ⟨T, C.T0, C.lt⟩ ⟨o, fun b hb => ?_⟩ ?_
  · rcases f b hb with h | h
    · exact g.on b h
    · omega
  · have e1 := o.1
    have e2 := g.own.1
    rw [List.length_append, List.length_singleton] at e1
    omega
end
theorem bN {k : Nat} (h : k ≤ 1000000) : IntKind.i64.wrap ((k : Int) + 1) = ((k + 1 : Nat) : Int) := by rw [wrap_i64 (by omega) (by omega)]; omega
def aUC (w : World) (m : Nat) (v : Value) (w' : World) : Prop := ∃ (sl : Sl) (ys : List Int), v = .slice sl.a sl.n sl.c ∧ Own intC 1 eP w' sl ys ∧ (∀ b, sl.on b → w.heap.size ≤ b) ∧ ys.length ≤ m
section
variable {w : World} {c : aB} {g : Cfg}
theorem xW (h : eT w c g) (ok : bU c g) (i : Int) : Spec PP o8 [.agg (List.toArray c.cells), .int .i64 i] w noB (aUC w 11) := by
  refine aLD c i _ w ?_
  unfold zV
  have hn := h.ce.1
  have hcl := ok.cl
  intro b1 hb
  refine fun w1 hl => ?_
  have C : CN w w1 w1 [b1] := CN.start hl Now.refl (by simpa [blk] using hb) rfl
  have hL : ∀ {cs : List Value} {ty : TypeId}, ∀ b ∈ blk [⟨b1, cs, ty⟩], b ∈ [b1] := by simp [blk]
  unfold uF
  refine C.reb hL (fun w2 C t => ?_)
  unfold uS
  refine C.reb hL (fun w3 C t => ?_)
  unfold vQ
  refine LoopC.mk (fun x w' => ∃ (ys : List Int) (k : Nat), x.2 = (k : Int) ∧ CN w w1 w' [b1] ∧ Gr intC 1 eP w1 w' x.1 ys ∧ x.1.n ≤ k ∧ k ≤ 11) (fun x => 20 - x.2.toNat) ?_ ?_
  · exact C.reb hL (fun w' C t => ⟨[], 0, rfl, C, ⟨Own.nil, by simp⟩, by simp, by omega⟩)
  · rintro ⟨sl, x⟩ wb ⟨ys, k, hx, C, G, hs, hk⟩
    simp only at hx G hs
    subst hx
    unfold vE
    dsimp only
    unfold vS
    refine ifbd (fun hi => ?_) (fun hi => ?_)
    · refine C.call hL (fun wa C => bP (h.now C.now) ok i k) ?_
      rintro wa v w4 C t _ ⟨z, rfl⟩
      replace G := G.stN C t
      refine ⟨z, rfl, ?_⟩
      refine ifb (fun hz => ?_) (fun hz => ?_)
      · refine C.new hL (fun bn w5 C t hb _ hbn => ?_)
        replace G := G.stN C t
        refine C.app hL G aKG.t (by decide) aHJ aV0 hb hbn (by omega) (fun s2 w6 C G hn2 => ⟨s2, rfl, ?_⟩)
        refine C.reb hL (fun w7 C t => ?_)
        exact ⟨rfl, ⟨_, k + 1, bN (by omega), C, G.stN C t, by simp only; omega, by omega⟩, by simp only [bN (show k ≤ 1000000 by omega)]; omega⟩
      · refine C.reb hL (fun w7 C t => ?_)
        exact ⟨rfl, ⟨_, k + 1, bN (by omega), C, G.stN C t, by simp only; omega, by omega⟩, by simp only [bN (show k ≤ 1000000 by omega)]; omega⟩
    · refine C.reb hL (fun w4 C t => ?_)
      replace G := G.stN C t
      unfold uI
      have gl := G.own.1
      have z1 := C.T0.t.size
      refine C.reb (by simp [blk]) (fun w5 C t => ⟨C.now.t, sl, ys, rfl, (G.stN C t).own, fun b hb => by have := G.on b hb; omega, by omega⟩)
theorem oF (h : eT w c g) (ok : bU c g) (i j : Int) : Spec PP kR [.agg (List.toArray c.cells), .int .i64 i, .int .i64 j] w noB (aUC w 11) := by
  refine aIN c i j _ w ?_
  unfold rP
  have hn := h.ce.1
  have hcl := ok.cl
  intro b1 hb
  refine fun w1 hl => ?_
  have C : CN w w1 w1 [b1] := CN.start hl Now.refl (by simpa [blk] using hb) rfl
  have hL : ∀ {cs : List Value} {ty : TypeId}, ∀ b ∈ blk [⟨b1, cs, ty⟩], b ∈ [b1] := by simp [blk]
  unfold o7
  refine C.reb hL (fun w2 C t => ?_)
  unfold oZ
  refine C.reb hL (fun w3 C t => ?_)
  unfold oK
  refine LoopC.mk (fun x w' => ∃ (ys : List Int) (k : Nat), x.2 = (k : Int) ∧ CN w w1 w' [b1] ∧ Gr intC 1 eP w1 w' x.1 ys ∧ x.1.n ≤ k ∧ k ≤ 11) (fun x => 20 - x.2.toNat) ?_ ?_
  · exact C.reb hL (fun w' C t => ⟨[], 0, rfl, C, ⟨Own.nil, by simp⟩, by simp, by omega⟩)
  · rintro ⟨sl, x⟩ wb ⟨ys, k, hx, C, G, hs, hk⟩
    simp only at hx G hs
    subst hx
    unfold oQ
    dsimp only
    unfold oN
    refine ifbd (fun hi => ?_) (fun hi => ?_)
    · have key8 : ∀ (v : Bool) (w' : World), CN w w1 w' [b1] → Gr intC 1 eP w1 w' sl ys →
          fF w.heap.size (fun c' x' w' => c' = (i, j, b1, c, aH) ∧ (∃ (ys : List Int) (k : Nat), x'.2 = (k : Int) ∧ CN w w1 w' [b1] ∧ Gr intC 1 eP w1 w' x'.1 ys ∧ x'.1.n ≤ k ∧ k ≤ 11) ∧ 20 - x'.2.toNat < 20 - (k : Int).toNat) (fun v w' => Touch noB w w' ∧ aUC w 11 v w') i j b1 c aH sl (k : Int) v w' := by
        intro v w' C G
        unfold fF
        refine ifb (fun hz => ?_) (fun hz => ?_)
        · refine C.new hL (fun bn w5 C t hb _ hbn => ?_)
          replace G := G.stN C t
          refine C.app hL G aKG.t (by decide) aHJ aV0 hb hbn (by omega) (fun s2 w6 C G hn2 => ⟨s2, rfl, ?_⟩)
          refine C.reb hL (fun w7 C t => ?_)
          replace G := G.stN C t
          unfold fG
          refine C.reb hL (fun w7 C t => ?_)
          exact ⟨rfl, ⟨_, k + 1, bN (by omega), C, G.stN C t, by simp only; omega, by omega⟩, by simp only [bN (show k ≤ 1000000 by omega)]; omega⟩
        · refine C.reb hL (fun w7 C t => ?_)
          replace G := G.stN C t
          unfold fG
          refine C.reb hL (fun w7 C t => ?_)
          exact ⟨rfl, ⟨_, k + 1, bN (by omega), C, G.stN C t, by simp only; omega, by omega⟩, by simp only [bN (show k ≤ 1000000 by omega)]; omega⟩
      refine C.reb hL (fun w4 C t => ?_)
      replace G := G.stN C t
      unfold o6
      refine C.call hL (fun wa C => bP (h.now C.now) ok i k) ?_
      rintro wa v w4 C t _ ⟨z, rfl⟩
      replace G := G.stN C t
      refine ⟨z, rfl, ?_⟩
      refine ifb (fun hz => ?_) (fun hz => ?_)
      · refine C.call hL (fun wa C => aRS (h.now C.now) ok j k) ?_
        rintro wa v w4 C t _ ⟨z2, rfl⟩
        replace G := G.stN C t
        refine ⟨z2, rfl, ?_⟩
        refine C.reb hL (fun w7 C t => ?_)
        exact key8 _ _ C (G.stN C t)
      · refine C.reb hL (fun w7 C t => ?_)
        exact key8 _ _ C (G.stN C t)
    · refine C.reb hL (fun w4 C t => ?_)
      replace G := G.stN C t
      unfold oM
      have gl := G.own.1
      have z1 := C.T0.t.size
      refine C.reb (by simp [blk]) (fun w5 C t => ⟨C.now.t, sl, ys, rfl, (G.stN C t).own, fun b hb => by have := G.on b hb; omega, by omega⟩)
end
end Go.Sh
