/- A part of the proof (printed smaller by a program of ours). Conditions: none. -/
import Derived.Test.YtoenaheehpjmiaaDoorKEM2
namespace Go.Sh
open Go
set_option linter.unusedSimpArgs false
set_option linter.unusedVariables false
set_option maxHeartbeats 4000000
abbrev zoC : bK → List Value := bK.cells
abbrev ceC : bJ → List Value := bJ.cells
abbrev teC : aO → List Value := aO.cells
abbrev veC : aP → List Value := aP.cells
theorem a04 (x : bK) : (zoC x).length = 1 := rfl
theorem aZ8 (x : bJ) : (ceC x).length = 2 := rfl
theorem a0A (x : aO) : (teC x).length = 7 := rfl
theorem aY6 (x : aP) : (veC x).length = 2 := rfl
theorem a1O (x : bK) : ∀ u ∈ zoC x, u.oneCell' = true := by
  intro u hu; simp [zoC, bK.cells] at hu; subst hu; rfl
theorem a15 (x : bJ) : ∀ u ∈ ceC x, u.oneCell' = true := by
  intro u hu; simp [ceC, bJ.cells] at hu; rcases hu with rfl | rfl <;> rfl
theorem a13 (x : aO) : ∀ u ∈ teC x, u.oneCell' = true := by
  intro u hu; simp [teC, aO.cells] at hu; rcases hu with rfl | rfl | rfl | rfl | rfl | rfl | rfl <;> rfl
theorem a2A (x : aP) : ∀ u ∈ veC x, u.oneCell' = true := by
  intro u hu; simp [veC, aP.cells] at hu; rcases hu with rfl | rfl <;> rfl
structure Cfg where
  zs : List bK
  cs : List bJ
  ts : List aO
  vs : List aP
structure eT (w : World) (c : aB) (g : Cfg) : Prop where
  z : Rd zoC 1 w c.Zones g.zs
  ce : Rd ceC 2 w c.Cells g.cs
  t : Rd teC 7 w c.Tenants g.ts
  v : Rd veC 2 w c.Versions g.vs
structure bU (c : aB) (g : Cfg) : Prop where
  reg : 1 ≤ c.Regions ∧ c.Regions ≤ 3
  lease : 1 ≤ c.Lease ∧ c.Lease ≤ 12
  bake : 0 ≤ c.Bake ∧ c.Bake ≤ 8
  zl : 1 ≤ g.zs.length ∧ g.zs.length ≤ 10
  zr : ∀ z ∈ g.zs, 0 ≤ z.Region ∧ z.Region < c.Regions
  cl : 1 ≤ g.cs.length ∧ g.cs.length ≤ 11
  cr : ∀ x ∈ g.cs, 0 ≤ x.Zone ∧ x.Zone < g.zs.length
  tl : g.ts.length ≤ 5
  vl : 1 ≤ g.vs.length ∧ g.vs.length ≤ 3
def aB.on (c : aB) (b : Nat) : Prop := c.Zones.on b ∨ c.Cells.on b ∨ c.Tenants.on b ∨ c.Versions.on b
def aO4 (w0 : World) (v : Value) (w' : World) : Prop := Touch noB w0 w' ∧ ∃ (c : aB) (g : Cfg), v = .agg (List.toArray c.cells) ∧ eT w' c g ∧ bU c g ∧ ∀ b, c.on b → w0.heap.size ≤ b ∧ b < w'.heap.size
section
variable {w0 wM w w' : World} {bt b2 b4 : Nat} {s : Sl} {xs : List Int} {i : Nat}
theorem a1U {c : aB} {g : Cfg} {t2 t4 : TypeId} {v2 : aB} (C : CT w0 wM w bt b2 b4 s xs i) (hP : ∀ w', Now (PS bt b2 b4) wM w' → eT w' c g) (ho : bU c g) (hf : ∀ b, c.on b → w0.heap.size ≤ b ∧ b < wM.heap.size) :
    kE w0.heap.size (aO4 w0) b2 v2 t2 b4 c t4 w := by
  unfold kE
  exact C.reb C.ok2 (fun w' C t => ⟨C.now.t, c, g, rfl, hP _ C.T, ho, fun b hb => ⟨(hf b hb).1, Nat.lt_of_lt_of_le (hf b hb).2 C.T.t.size⟩⟩)
theorem a1Y {c : aB} {g : Cfg} {t2 t4 : TypeId} {v2 : aB} {n : Int} (C : CT w0 w w bt b2 b4 s xs i) (hi : i ≤ 1000) (hP : ∀ w', Now (PS bt b2 b4) w w' → eT w' c g) (ho : bU c g) (hf : ∀ b, c.on b → w0.heap.size ≤ b ∧ b < w.heap.size)
    (hO : c.Observers = ⟨none, 0, 0⟩) (hn : 0 ≤ n ∧ n ≤ 4) :
    lC w0.heap.size (aO4 w0) b2 v2 t2 (some ⟨bt, 0, none⟩) b4 c t4 n w := by
  have hzn : c.Zones.n = g.zs.length := (hP w Now.refl).z.1.symm
  have hzl := ho.zl
  unfold lC
  refine LoopC.mk (fun x w' => ∃ (sl : Sl) (ys : List Int) (j k : Nat), x.1 = { c with Observers := sl } ∧ x.2 = (k : Int) ∧ k ≤ 4 ∧ CT w0 w w' bt b2 b4 s xs j ∧ j + 2 * k ≤ 1010 ∧ Gr intC 1 eP w w' sl ys ∧ sl.n + k ≤ 10) (fun x => x.2.toNat) ?_ ?_
  · refine C.reb C.ok2 (fun w' C t => ⟨⟨none, 0, 0⟩, [], i, n.toNat, ?_, by omega, by omega, C, by omega, ⟨Own.nil, by simp⟩, by simp; omega⟩)
    rw [← hO]
  · rintro ⟨cc, x⟩ wb ⟨sl, ys, j, k, hc, hx, hk, C, hj, G, hs⟩
    simp only at hc hx
    subst hc hx
    unfold sG
    dsimp only
    unfold sM
    dsimp only
    refine ifbd (fun h => ?_) (fun h => ?_)
    · refine C.next C.ok2 (by omega) (by omega) (by omega) (fun m j' w1 g0 g1 C gj t => ⟨m, rfl, ?_⟩)
      replace G := G.st C iC t
      refine C.new C.ok2 (fun bn w2 C t hb _ hbn => ?_)
      replace G := G.st C iC t
      refine C.app C.ok2 G (C.out G.on) aKG.t (by decide) aHJ aV0 hb hbn (by omega) (fun s2 w3 C G n2 hn2 => ⟨s2, rfl, ?_⟩)
      refine C.reb C.ok2 (fun w4 C t => ?_)
      have step : IntKind.i64.wrap ((k : Int) - 1) = ((k - 1 : Nat) : Int) := by rw [wrap_i64 (by omega) (by omega)]; omega
      exact ⟨rfl, ⟨s2, _, j', k - 1, rfl, step, by omega, C, by omega, G.st C iC t, by omega⟩, by simp only [step]; omega⟩
    · refine C.reb C.ok2 (fun w1 C t => ?_)
      exact a1U C (fun w' T => ⟨(hP w' T).z, (hP w' T).ce, (hP w' T).t, (hP w' T).v⟩) ⟨ho.reg, ho.lease, ho.bake, ho.zl, ho.zr, ho.cl, ho.cr, ho.tl, ho.vl⟩ hf
theorem CT.back {w1 : World} {j : Nat} (C : CT w0 wM w bt b2 b4 s xs i) (C1 : CT w0 w w1 bt b2 b4 s xs j) : CT w0 wM w1 bt b2 b4 s xs j :=
  ⟨C.past C1.T, C.T0, C1.tp, C.lt, C.ge, C.on, C.ne⟩
theorem CT.ok3 (C : CT w0 wM w bt b2 b4 s xs i) {c1 c2 c3 : List Value} {t1 t2 t3 : TypeId} {b9 : Nat} (h9 : wM.heap.size ≤ b9) : okL w0 wM bt b2 b4 [⟨b2, c1, t1⟩, ⟨b4, c2, t2⟩, ⟨b9, c3, t3⟩] := by
  intro b hb
  have := C.ge
  have := C.ne
  have := C.lt
  have := C.T0.t.size
  simp [blk] at hb
  rcases hb with rfl | rfl | rfl
  · exact ⟨fun h => C.ne.1 h.symm, C.ge.2.1, fun _ => .inl rfl⟩
  · exact ⟨fun h => C.ne.2 h.symm, C.ge.2.2, fun _ => .inr rfl⟩
  · exact ⟨by omega, by omega, fun h => by omega⟩
theorem Gr.stay {α : Type} {c : α → List Value} {kk : Nat} {e : TypeId} {sl : Sl} {ys : List α} (C : CT w0 wM w bt b2 b4 s xs i) (g : Gr c kk e wM w sl ys) : ∀ w', Now (PS bt b2 b4) w w' → Gr c kk e wM w' sl ys :=
  fun w' T => g.tr T.t (fun b hb h => by
    have h1 := g.on b hb
    have h2 := C.lt
    rcases h with rfl | rfl | rfl <;> omega)
theorem Blk.own1 {α : Type} {c : α → List Value} {k : Nat} (hk : ∀ x, (c x).length = k) {b : Nat} {e : TypeId} {x : α} (h : Blk w b (c x) e) : Own c k e w ⟨some ⟨b, 0, none⟩, 1, 1⟩ [x] :=
  ⟨rfl, .inr ⟨b, c x, rfl, h, Nat.le_refl _, by simp [maxLen], by rw [hk]; simp, by rw [List.take_of_length_le (by rw [hk]; simp)]; simp⟩⟩
theorem a10 {c : aB} {g : Cfg} {t2 t4 : TypeId} {v2 : aB} {n : Int} (C : CT w0 w w bt b2 b4 s xs i) (hi : i ≤ 900) (hP : ∀ w', Now (PS bt b2 b4) w w' → eT w' c g) (ho : bU c g) (hf : ∀ b, c.on b → w0.heap.size ≤ b ∧ b < w.heap.size)
    (hO : c.Observers = ⟨none, 0, 0⟩) (hR : c.Replicas = ⟨none, 0, 0⟩) (hn : 0 ≤ n ∧ n ≤ 4) :
    kZ w0.heap.size (aO4 w0) b2 v2 t2 (some ⟨bt, 0, none⟩) b4 c t4 n w := by
  have hzn : c.Zones.n = g.zs.length := (hP w Now.refl).z.1.symm
  have hzl := ho.zl
  unfold kZ
  refine LoopC.mk (fun x w' => ∃ (sl : Sl) (ys : List Int) (j k : Nat), x.1 = { c with Replicas := sl } ∧ x.2 = (k : Int) ∧ k ≤ 4 ∧ CT w0 w w' bt b2 b4 s xs j ∧ j + 2 * k ≤ 910 ∧ Gr intC 1 eP w w' sl ys ∧ sl.n + k ≤ 10) (fun x => x.2.toNat) ?_ ?_
  · refine C.reb C.ok2 (fun w' C t => ⟨⟨none, 0, 0⟩, [], i, n.toNat, ?_, by omega, by omega, C, by omega, ⟨Own.nil, by simp⟩, by simp; omega⟩)
    rw [← hR]
  · rintro ⟨cc, x⟩ wb ⟨sl, ys, j, k, hc, hx, hk, C, hj, G, hs⟩
    simp only at hc hx
    subst hc hx
    unfold qY
    dsimp only
    unfold tO
    dsimp only
    refine ifbd (fun h => ?_) (fun h => ?_)
    · refine C.next C.ok2 (by omega) (by omega) (by omega) (fun m j' w1 g0 g1 C gj t => ⟨m, rfl, ?_⟩)
      replace G := G.st C iC t
      refine C.new C.ok2 (fun bn w2 C t hb _ hbn => ?_)
      replace G := G.st C iC t
      refine C.app C.ok2 G (C.out G.on) aKG.t (by decide) aHJ aV0 hb hbn (by omega) (fun s2 w3 C G n2 hn2 => ⟨s2, rfl, ?_⟩)
      refine C.reb C.ok2 (fun w4 C t => ?_)
      have step : IntKind.i64.wrap ((k : Int) - 1) = ((k - 1 : Nat) : Int) := by rw [wrap_i64 (by omega) (by omega)]; omega
      exact ⟨rfl, ⟨s2, _, j', k - 1, rfl, step, by omega, C, by omega, G.st C iC t, by omega⟩, by simp only [step]; omega⟩
    · refine C.reb C.ok2 (fun w1 C t => ?_)
      unfold uY
      refine C.range C.ok2 (by omega) (by omega) (by omega) (by omega) (fun m j' w2 g0 g1 C gj t => ⟨m, rfl, ?_⟩)
      refine C.reb C.ok2 (fun w3 C t => ?_)
      exact a1Y C.anchor (by omega) (fun w' T => ⟨(hP w' (C.past T)).z, (hP w' (C.past T)).ce, (hP w' (C.past T)).t, (hP w' (C.past T)).v⟩) ⟨ho.reg, ho.lease, ho.bake, ho.zl, ho.zr, ho.cl, ho.cr, ho.tl, ho.vl⟩ (fun b hb => ⟨(hf b hb).1, Nat.lt_of_lt_of_le (hf b hb).2 C.T.t.size⟩) hO (by omega)
theorem a1Q {c : aB} {g : Cfg} {t2 t4 : TypeId} {v2 : aB} (C : CT w0 w w bt b2 b4 s xs i) (hi : i ≤ 800) (hP : ∀ w', Now (PS bt b2 b4) w w' → eT w' c g) (ho : ∀ vs : List aP, 1 ≤ vs.length → vs.length ≤ 3 → bU c { g with vs := vs }) (hf : ∀ b, c.on b → w0.heap.size ≤ b ∧ b < w.heap.size)
    (hO : c.Observers = ⟨none, 0, 0⟩) (hR : c.Replicas = ⟨none, 0, 0⟩) :
    lN w0.heap.size (aO4 w0) b2 v2 t2 (some ⟨bt, 0, none⟩) b4 c t4 w := by
  unfold lN
  refine C.next C.ok2 (by omega) (by omega) (by omega) (fun m j' w1 g0 g1 C gj t => ⟨m, rfl, ?_⟩)
  have z1 := C.T.t.size
  refine C.new C.ok2 (fun bn w2 C t hb hbl hbn => ?_)
  have G : Gr veC 2 vD w w2 ⟨some ⟨bn, 0, none⟩, 1, 1⟩ [⟨0, m⟩] := ⟨Blk.own1 aY6 hb, fun b hb => by
    simp at hb; omega⟩
  refine C.reb C.ok2 (fun w3 C t => ?_)
  replace G := G.st C iC t
  unfold uM
  refine C.next C.ok2 (by omega) (by omega) (by omega) (fun n j2 w4 f0 f1 C gj2 t => ⟨n, rfl, ?_⟩)
  replace G := G.st C iC t
  refine C.reb C.ok2 (fun w5 C t => ?_)
  replace G := G.st C iC t
  unfold rF
  refine LoopC.mk (fun x w' => ∃ (sl : Sl) (ys : List aP) (j k : Nat), x.1 = { c with Versions := sl } ∧ x.2 = (k : Int) ∧ CT w0 w w' bt b2 b4 s xs j ∧ j + 3 * k ≤ 820 ∧ Gr veC 2 vD w w' sl ys ∧ 1 ≤ sl.n ∧ sl.n + k ≤ 3) (fun x => x.2.toNat) ?_ ?_
  · exact C.reb C.ok2 (fun w' C t => ⟨⟨some ⟨bn, 0, none⟩, 1, 1⟩, _, j2, n.toNat, rfl, by omega, C, by omega, G.st C iC t, by simp, by simp; omega⟩)
  · rintro ⟨cc, x⟩ wb ⟨sl, ys, j, k, hc, hx, C, hj, G, hs1, hs⟩
    simp only at hc hx
    subst hc hx
    unfold sH
    dsimp only
    unfold qU
    dsimp only
    refine ifbd (fun h => ?_) (fun h => ?_)
    · refine C.next C.ok2 (by omega) (by omega) (by omega) (fun m j' w1 g0 g1 C gj t => ⟨m, rfl, ?_⟩)
      replace G := G.st C iC t
      refine C.next C.ok2 (by omega) (by omega) (by omega) (fun m2 j2 w1 g0 g1 C gj t => ⟨m2, rfl, ?_⟩)
      replace G := G.st C iC t
      refine C.new C.ok2 (fun bn w2 C t hb _ hbn => ?_)
      replace G := G.st C iC t
      refine C.app C.ok2 G (C.out G.on) aW6.t (by decide) aY6 a2A hb hbn (by omega) (fun s2 w3 C G n2 hn2 => ⟨s2, rfl, ?_⟩)
      refine C.reb C.ok2 (fun w4 C t => ?_)
      have step : IntKind.i64.wrap ((k : Int) - 1) = ((k - 1 : Nat) : Int) := by rw [wrap_i64 (by omega) (by omega)]; omega
      exact ⟨rfl, ⟨s2, _, j2, k - 1, rfl, step, C, by omega, G.st C iC t, by omega, by omega⟩, by simp only [step]; omega⟩
    · refine C.reb C.ok2 (fun w1 C t => ?_)
      replace G := G.st C iC t
      have gn := G.own.1
      have gs := G.stay C
      unfold vI
      have C0 := C
      replace C := C.anchor
      refine C.next C.ok2 (by omega) (by omega) (by omega) (fun m j' w2 g0 g1 C gj t => ⟨m, rfl, ?_⟩)
      refine C.reb C.ok2 (fun w3 C t => ?_)
      have hn : 0 ≤ IntKind.i64.wrap (IntKind.i64.wrap (2 * m) + 1) ∧ IntKind.i64.wrap (IntKind.i64.wrap (2 * m) + 1) ≤ 4 := by
        rw [wrap_i64 (x := 2 * m) (by omega) (by omega), wrap_i64 (by omega) (by omega)]; omega
      have o := ho ys (by omega) (by omega)
      exact a10 (g := { g with vs := ys }) C.anchor (by omega) (fun w' T => ⟨(hP w' (C0.past (C.past T))).z, (hP w' (C0.past (C.past T))).ce, (hP w' (C0.past (C.past T))).t, (gs w' (C.past T)).own.rd aY6⟩) ⟨o.reg, o.lease, o.bake, o.zl, o.zr, o.cl, o.cr, o.tl, o.vl⟩
        (fun b hb => by
          rcases hb with h | h | h | h
          · have h1 := hf b (.inl h); have := C.T.t.size; have := C0.T.t.size; omega
          · have h1 := hf b (.inr (.inl h)); have := C.T.t.size; have := C0.T.t.size; omega
          · have h1 := hf b (.inr (.inr (.inl h))); have := C.T.t.size; have := C0.T.t.size; omega
          · have := G.on b h; have := G.own.lt h; have := C0.T0.t.size; have := C.T.t.size; omega) hO hR hn
theorem a2W {r : Int} (h : 1 ≤ r ∧ r ≤ 3) : 1 ≤ IntKind.i64.wrap ((IntKind.i64.wrap (1 * 2 ^ (min (Int.toNat (IntKind.u64.wrap r)) (IntKind.i64).bits))) - 1) ∧ IntKind.i64.wrap ((IntKind.i64.wrap (1 * 2 ^ (min (Int.toNat (IntKind.u64.wrap r)) (IntKind.i64).bits))) - 1) ≤ 7 := by
  rcases (by omega : r = 1 ∨ r = 2 ∨ r = 3) with rfl | rfl | rfl <;> decide
theorem a1X {c : aB} {g : Cfg} {t2 t4 : TypeId} {v2 : aB} (C : CT w0 w w bt b2 b4 s xs i) (hi : i ≤ 600) (hP : ∀ w', Now (PS bt b2 b4) w w' → eT w' c g)
    (ho : ∀ (ts : List aO) (vs : List aP), ts.length ≤ 5 → 1 ≤ vs.length → vs.length ≤ 3 → bU c { g with ts := ts, vs := vs }) (hf : ∀ b, c.on b → w0.heap.size ≤ b ∧ b < w.heap.size) (hr : 1 ≤ c.Regions ∧ c.Regions ≤ 3)
    (hO : c.Observers = ⟨none, 0, 0⟩) (hR : c.Replicas = ⟨none, 0, 0⟩) (hT : c.Tenants = ⟨none, 0, 0⟩) :
    eY w0.heap.size (aO4 w0) b2 v2 t2 (some ⟨bt, 0, none⟩) b4 c t4 w := by
  unfold eY
  refine C.next C.ok2 (by omega) (by omega) (by omega) (fun m j' w1 g0 g1 C gj t => ⟨m, rfl, ?_⟩)
  refine C.reb C.ok2 (fun w2 C t => ?_)
  unfold sI
  refine LoopC.mk (fun x w' => ∃ (sl : Sl) (ys : List aO) (j k : Nat), x.1 = { c with Tenants := sl } ∧ x.2 = (k : Int) ∧ CT w0 w w' bt b2 b4 s xs j ∧ j + 20 * k ≤ 720 ∧ Gr teC 7 aY w w' sl ys ∧ sl.n + k ≤ 5) (fun x => x.2.toNat) ?_ ?_
  · refine C.reb C.ok2 (fun w' C t => ⟨⟨none, 0, 0⟩, [], j', m.toNat, ?_, by omega, C, by omega, ⟨Own.nil, by simp⟩, by simp; omega⟩)
    rw [← hT]
  · rintro ⟨cc, x⟩ wb ⟨sl, ys, j, k, hc, hx, C, hj, G, hs⟩
    simp only at hc hx
    subst hc hx
    unfold rY
    dsimp only
    unfold sU
    refine ifbd (fun h => ?_) (fun h => ?_)
    · have gs := G.stay C
      have glt : ∀ b, sl.on b → b < wb.heap.size := fun b hb => G.own.lt hb
      have Cb := C
      replace C := C.anchor
      have key23 : ∀ (b9 : Nat) (x9 : aO) (t9 : TypeId) (jj : Nat) (w' : World), CT w0 wb w' bt b2 b4 s xs jj → jj ≤ j + 15 → wb.heap.size ≤ b9 →
          iA w0.heap.size (fun c' x' w' => c' = (b2, v2, t2, some ⟨bt, 0, none⟩, b4, t4) ∧ (∃ (sl : Sl) (ys : List aO) (j k : Nat), x'.1 = { c with Tenants := sl } ∧ x'.2 = (k : Int) ∧ CT w0 w w' bt b2 b4 s xs j ∧ j + 20 * k ≤ 720 ∧ Gr teC 7 aY w w' sl ys ∧ sl.n + k ≤ 5) ∧ x'.2.toNat < (k : Int).toNat) (aO4 w0) b2 v2 t2 (some ⟨bt, 0, none⟩) b4 { c with Tenants := sl } t4 (k : Int) b9 x9 t9 w' := by
        intro b9 x9 t9 jj w' C1 hjj h9
        have G := gs w' C1.T
        have C := Cb.back C1
        have zb := Cb.T.t.size
        have hout : ∀ {c1 c2 c3 : List Value} {t1 t2 t3 : TypeId} (b : Nat), sl.on b → b ∉ blk [⟨b2, c1, t1⟩, ⟨b4, c2, t2⟩, ⟨b9, c3, t3⟩] := by
          intro c1 c2 c3 t1 t2 t3 b hb hm
          have := glt b hb
          have := G.on b hb
          have := C.lt
          simp [blk] at hm
          omega
        unfold iA
        dsimp only
        refine C.new (C.ok3 (by omega)) (fun bn w2 C t hb _ hbn => ?_)
        have G := G.tr t (fun b hb hm => by
          rcases hm with hm | rfl
          · exact hout b hb hm
          · have := G.on b hb; have := C.lt; omega)
        refine C.app (C.ok3 (by omega)) G (fun b hb => hout b hb) aXS.t (by decide) a0A a13 hb hbn (by omega) (fun s2 w3 C G n2 hn2 => ⟨s2, rfl, ?_⟩)
        refine C.reb (C.ok3 (by omega)) (fun w4 C t => ?_)
        replace G := G.tr t (fun b hb hm => by
          rcases hm with hm | rfl
          · exact n2 b hb hm
          · have := G.on b hb; have := C.lt; omega)
        unfold rH
        refine C.reb C.ok2 (fun w5 C t => ?_)
        have step : IntKind.i64.wrap ((k : Int) - 1) = ((k - 1 : Nat) : Int) := by rw [wrap_i64 (by omega) (by omega)]; omega
        exact ⟨rfl, ⟨s2, _, jj, k - 1, rfl, step, C, by omega, G.st C iC t, by omega⟩, by simp only [step]; omega⟩
      have key22 : ∀ (b9 : Nat) (x9 : aO) (t9 : TypeId) (jj : Nat) (w' : World), CT w0 wb w' bt b2 b4 s xs jj → jj ≤ j + 10 → wb.heap.size ≤ b9 →
          bS w0.heap.size (fun c' x' w' => c' = (b2, v2, t2, some ⟨bt, 0, none⟩, b4, t4) ∧ (∃ (sl : Sl) (ys : List aO) (j k : Nat), x'.1 = { c with Tenants := sl } ∧ x'.2 = (k : Int) ∧ CT w0 w w' bt b2 b4 s xs j ∧ j + 20 * k ≤ 720 ∧ Gr teC 7 aY w w' sl ys ∧ sl.n + k ≤ 5) ∧ x'.2.toNat < (k : Int).toNat) (aO4 w0) b2 v2 t2 (some ⟨bt, 0, none⟩) b4 { c with Tenants := sl } t4 (k : Int) b9 x9 t9 w' := by
        intro b9 x9 t9 jj w' C hjj h9
        unfold bS
        have zb := C.T.t.size
        refine C.yes (C.ok3 (by omega)) (by omega) (by omega) (by omega) (fun m jy w2 C gj t => ⟨m, rfl, ?_⟩)
        refine ifb (fun hm => ?_) (fun hm => ?_)
        · refine ⟨?_, ?_⟩
          · show (0 : Int) ≤ IntKind.u64.wrap c.Regions
            rcases (by omega : c.Regions = 1 ∨ c.Regions = 2 ∨ c.Regions = 3) with h | h | h <;> rw [h] <;> decide
          have hp := a2W hr
          refine C.range (C.ok3 (by omega)) (by omega) hp.1 (by omega) (by have := hp.2; show _ ≤ _; exact Int.le_trans hp.2 (by decide)) (fun m jr w3 f0 f1 C gj t => ⟨m, rfl, ?_⟩)
          refine C.reb (C.ok3 (by omega)) (fun w4 C t => ?_)
          exact key23 _ _ _ _ _ C (by omega) h9
        · refine C.reb (C.ok3 (by omega)) (fun w4 C t => ?_)
          exact key23 _ _ _ _ _ C (by omega) h9
      refine C.reb C.ok2 (fun w3 C t => ?_)
      unfold rV
      refine C.range C.ok2 (by omega) (by omega) (by omega) (by omega) (fun m jr w4 f0 f1 C gj t => ⟨m, rfl, ?_⟩)
      refine C.reb C.ok2 (fun w5 C t => ?_)
      have hu : (0 : Int) ≤ IntKind.u64.wrap c.Regions := by
        rcases (by omega : c.Regions = 1 ∨ c.Regions = 2 ∨ c.Regions = 3) with h | h | h <;> rw [h] <;> decide
      unfold rT
      dsimp only
      refine ⟨hu, ?_⟩
      rw [wrap_i64 (x := m + 1) (by omega) (by omega)]
      repeat' first
        | refine And.intro ?_ ?_
        | (refine C.reb (C.ok3 (by omega)) (fun w7 C t => ?_); exact key22 _ _ _ _ _ C (by omega) (by omega))
        | (intro b9 h9; have zz := C.T.t.size)
        | refine C.next C.ok2 (by omega) (by omega) (by omega) (fun m jj w6 f0 f1 C gj t => ⟨m, rfl, ?_⟩)
        | refine C.range C.ok2 (by omega) (by omega) (by omega) (by omega) (fun m jj w6 f0 f1 C gj t => ⟨m, rfl, ?_⟩)
        | refine C.yes C.ok2 (by omega) (by omega) (by omega) (fun m jj w6 C gj t => ⟨m, rfl, ?_⟩)
        | refine C.next (C.ok3 (by omega)) (by omega) (by omega) (by omega) (fun m jj w6 f0 f1 C gj t => ⟨m, rfl, ?_⟩)
        | refine C.range (C.ok3 (by omega)) (by omega) (by omega) (by omega) (by omega) (fun m jj w6 f0 f1 C gj t => ⟨m, rfl, ?_⟩)
        | refine C.yes (C.ok3 (by omega)) (by omega) (by omega) (by omega) (fun m jj w6 C gj t => ⟨m, rfl, ?_⟩)
    · refine C.reb C.ok2 (fun w1 C t => ?_)
      replace G := G.st C iC t
      have gn := G.own.1
      have gs := G.stay C
      exact a1Q (g := { g with ts := ys }) C.anchor (by omega) (fun w' T => ⟨(hP w' (C.past T)).z, (hP w' (C.past T)).ce, (gs w' T).own.rd a0A, (hP w' (C.past T)).v⟩)
        (fun vs h1 h2 => by have o := ho ys vs (by omega) h1 h2; exact ⟨o.reg, o.lease, o.bake, o.zl, o.zr, o.cl, o.cr, o.tl, o.vl⟩)
        (fun b hb => by
          rcases hb with h | h | h | h
          · have h1 := hf b (.inl h); have := C.T.t.size; omega
          · have h1 := hf b (.inr (.inl h)); have := C.T.t.size; omega
          · have := G.on b h; have := G.own.lt h; have := C.T0.t.size; omega
          · have h1 := hf b (.inr (.inr (.inr h))); have := C.T.t.size; omega) hO hR
theorem a03 {a n : Int} (h : 0 ≤ a) (hn : 0 < n) : 0 ≤ Int.tmod a n ∧ Int.tmod a n < n := by
  rw [Int.tmod_eq_emod_of_nonneg h]
  exact ⟨Int.emod_nonneg _ (by omega), Int.emod_lt_of_pos _ hn⟩
theorem a1W {c : aB} {g : Cfg} {t2 t4 : TypeId} {v2 : aB} (C : CT w0 w w bt b2 b4 s xs i) (hi : i ≤ 400) (hP : ∀ w', Now (PS bt b2 b4) w w' → eT w' c g) (hzl : 1 ≤ g.zs.length ∧ g.zs.length ≤ 10)
    (ho : ∀ (cs : List bJ) (ts : List aO) (vs : List aP), 1 ≤ cs.length → cs.length ≤ 11 → (∀ x ∈ cs, 0 ≤ x.Zone ∧ x.Zone < g.zs.length) → ts.length ≤ 5 → 1 ≤ vs.length → vs.length ≤ 3 → bU c { g with cs := cs, ts := ts, vs := vs }) (hf : ∀ b, c.on b → w0.heap.size ≤ b ∧ b < w.heap.size) (hr : 1 ≤ c.Regions ∧ c.Regions ≤ 3)
    (hO : c.Observers = ⟨none, 0, 0⟩) (hR : c.Replicas = ⟨none, 0, 0⟩) (hT : c.Tenants = ⟨none, 0, 0⟩) (hC : c.Cells = ⟨none, 0, 0⟩) :
    eX w0.heap.size (aO4 w0) b2 v2 t2 (some ⟨bt, 0, none⟩) b4 c t4 w := by
  have hzn : c.Zones.n = g.zs.length := (hP w Now.refl).z.1.symm
  unfold eX
  refine C.reb C.ok2 (fun w2 C t => ?_)
  unfold tC
  refine LoopC.mk (fun x w' => ∃ (sl : Sl) (ys : List bJ) (j k : Nat), x.1 = { c with Cells := sl } ∧ x.2 = (k : Int) ∧ CT w0 w w' bt b2 b4 s xs j ∧ j ≤ 400 + 5 * k ∧ Gr ceC 2 aIC w w' sl ys ∧ sl.n = k ∧ k ≤ 11 ∧ (∀ x ∈ ys, 0 ≤ x.Zone ∧ x.Zone < g.zs.length)) (fun x => 20 - x.2.toNat) ?_ ?_
  · refine C.reb C.ok2 (fun w' C t => ⟨⟨none, 0, 0⟩, [], i, 0, ?_, by omega, C, by omega, ⟨Own.nil, by simp⟩, rfl, by omega, by simp⟩)
    rw [← hC]
  · rintro ⟨cc, x⟩ wb ⟨sl, ys, j, k, hc, hx, C, hj, G, hs, hk, hy⟩
    simp only at hc hx
    subst hc hx
    unfold tQ
    dsimp only
    unfold tK
    have key26 : ∀ (jj : Nat) (w' : World), CT w0 w w' bt b2 b4 s xs jj → jj ≤ j + 2 → Gr ceC 2 aIC w w' sl ys → k ≤ 10 →
        gZ w0.heap.size (fun c' x' w' => c' = (b2, v2, t2, some ⟨bt, 0, none⟩, b4, t4) ∧ (∃ (sl : Sl) (ys : List bJ) (j k : Nat), x'.1 = { c with Cells := sl } ∧ x'.2 = (k : Int) ∧ CT w0 w w' bt b2 b4 s xs j ∧ j ≤ 400 + 5 * k ∧ Gr ceC 2 aIC w w' sl ys ∧ sl.n = k ∧ k ≤ 11 ∧ (∀ x ∈ ys, 0 ≤ x.Zone ∧ x.Zone < g.zs.length)) ∧ 20 - x'.2.toNat < 20 - (k : Int).toNat) (aO4 w0) b2 v2 t2 (some ⟨bt, 0, none⟩) b4 { c with Cells := sl } t4 (k : Int) w' := by
      intro jj w' C hjj G hk
      unfold gZ
      dsimp only
      refine ⟨by omega, ?_⟩
      refine C.range C.ok2 (by omega) (by omega) (by omega) (by omega) (fun m jr w4 f0 f1 C gj t => ⟨m, rfl, ?_⟩)
      replace G := G.st C iC t
      refine C.new C.ok2 (fun bn w2 C t hb _ hbn => ?_)
      replace G := G.st C iC t
      refine C.app C.ok2 G (C.out G.on) aZM.t (by decide) aZ8 a15 (y := ⟨Int.tmod (k : Int) ((c.Zones.n : Nat) : Int), IntKind.i64.wrap (m * 10)⟩) hb hbn (by omega) (fun s2 w3 C G n2 hn2 => ⟨s2, rfl, ?_⟩)
      refine C.reb C.ok2 (fun w4 C t => ?_)
      have step : IntKind.i64.wrap ((k : Int) + 1) = ((k + 1 : Nat) : Int) := by rw [wrap_i64 (by omega) (by omega)]; omega
      refine ⟨rfl, ⟨s2, _, jr, k + 1, rfl, step, C, by omega, G.st C iC t, by omega, by omega, ?_⟩, by simp only [step]; omega⟩
      intro x hx
      rcases List.mem_append.1 hx with hx | hx
      · exact hy x hx
      · rw [List.mem_singleton] at hx
        subst hx
        have := a03 (a := (k : Int)) (n := ((c.Zones.n : Nat) : Int)) (by omega) (by omega)
        rw [hzn] at this
        rw [hzn]
        exact this
    have key5 : ∀ (jj : Nat) (w' : World), CT w0 w w' bt b2 b4 s xs jj → jj ≤ 500 → Gr ceC 2 aIC w w' sl ys → ¬ ((k : Int) < ((c.Zones.n : Nat) : Int)) →
        eY w0.heap.size (aO4 w0) b2 v2 t2 (some ⟨bt, 0, none⟩) b4 { c with Cells := sl } t4 w' := by
      intro jj w' C hjj G hkz
      have gn := G.own.1
      have gs := G.stay C
      exact a1X (g := { g with cs := ys }) C.anchor (by omega) (fun w' T => ⟨(hP w' (C.past T)).z, (gs w' T).own.rd aZ8, (hP w' (C.past T)).t, (hP w' (C.past T)).v⟩)
        (fun ts vs h0 h1 h2 => by have o := ho ys ts vs (by omega) (by omega) hy h0 h1 h2; exact ⟨o.reg, o.lease, o.bake, o.zl, o.zr, o.cl, o.cr, o.tl, o.vl⟩)
        (fun b hb => by
          rcases hb with h | h | h | h
          · have h1 := hf b (.inl h); have := C.T.t.size; omega
          · have := G.on b h; have := G.own.lt h; have := C.T0.t.size; omega
          · have h1 := hf b (.inr (.inr (.inl h))); have := C.T.t.size; omega
          · have h1 := hf b (.inr (.inr (.inr h))); have := C.T.t.size; omega) hr hO hR hT
    refine ifbd (fun h => ?_) (fun h => ?_)
    · simp only at h
      refine C.reb C.ok2 (fun w3 C t => ?_)
      exact key26 _ _ C (by omega) (G.st C iC t) (by omega)
    · simp only at h
      refine C.yes C.ok2 (by omega) (by omega) (by omega) (fun m jy w3 C gj t => ⟨m, rfl, ?_⟩)
      replace G := G.st C iC t
      refine ifb (fun hm => ?_) (fun hm => ?_)
      · refine ifbd (fun h7 => ?_) (fun h7 => ?_)
        · refine C.reb C.ok2 (fun w3 C t => ?_)
          exact key26 _ _ C (by omega) (G.st C iC t) (by omega)
        · refine C.reb C.ok2 (fun w3 C t => ?_)
          exact key5 _ _ C (by omega) (G.st C iC t) h
      · refine C.reb C.ok2 (fun w3 C t => ?_)
        exact key5 _ _ C (by omega) (G.st C iC t) h
theorem a1T {c : aB} {t2 t4 : TypeId} {v2 : aB} (C : CT w0 w w bt b2 b4 s xs i) (hi : i ≤ 100) (hr : 1 ≤ c.Regions ∧ c.Regions ≤ 3) (hle : 1 ≤ c.Lease ∧ c.Lease ≤ 12) (hba : 0 ≤ c.Bake ∧ c.Bake ≤ 8)
    (hO : c.Observers = ⟨none, 0, 0⟩) (hR : c.Replicas = ⟨none, 0, 0⟩) (hT : c.Tenants = ⟨none, 0, 0⟩) (hC : c.Cells = ⟨none, 0, 0⟩) (hV : c.Versions = ⟨none, 0, 0⟩) (hZ : c.Zones = ⟨none, 0, 0⟩) :
    mF w0.heap.size (aO4 w0) b2 v2 t2 (some ⟨bt, 0, none⟩) b4 c t4 w := by
  unfold mF
  refine C.reb C.ok2 (fun w2 C t => ?_)
  unfold rW
  refine LoopC.mk (fun x w' => ∃ (sl : Sl) (ys : List bK) (j k : Nat), x.1 = { c with Zones := sl } ∧ x.2 = (k : Int) ∧ CT w0 w w' bt b2 b4 s xs j ∧ j ≤ 100 + 5 * k ∧ Gr zoC 1 aH8 w w' sl ys ∧ sl.n = k ∧ k ≤ 9 ∧ (∀ x ∈ ys, 0 ≤ x.Region ∧ x.Region < c.Regions)) (fun x => 20 - x.2.toNat) ?_ ?_
  · refine C.reb C.ok2 (fun w' C t => ⟨⟨none, 0, 0⟩, [], i, 0, ?_, by omega, C, by omega, ⟨Own.nil, by simp⟩, rfl, by omega, by simp⟩)
    rw [← hZ]
  · rintro ⟨cc, x⟩ wb ⟨sl, ys, j, k, hc, hx, C, hj, G, hs, hk, hy⟩
    simp only at hc hx
    subst hc hx
    unfold sF
    dsimp only
    unfold sQ
    have key29 : ∀ (jj : Nat) (w' : World), CT w0 w w' bt b2 b4 s xs jj → jj ≤ j + 2 → Gr zoC 1 aH8 w w' sl ys → k ≤ 8 →
        gT w0.heap.size (fun c' x' w' => c' = (b2, v2, t2, some ⟨bt, 0, none⟩, b4, t4) ∧ (∃ (sl : Sl) (ys : List bK) (j k : Nat), x'.1 = { c with Zones := sl } ∧ x'.2 = (k : Int) ∧ CT w0 w w' bt b2 b4 s xs j ∧ j ≤ 100 + 5 * k ∧ Gr zoC 1 aH8 w w' sl ys ∧ sl.n = k ∧ k ≤ 9 ∧ (∀ x ∈ ys, 0 ≤ x.Region ∧ x.Region < c.Regions)) ∧ 20 - x'.2.toNat < 20 - (k : Int).toNat) (aO4 w0) b2 v2 t2 (some ⟨bt, 0, none⟩) b4 { c with Zones := sl } t4 (k : Int) w' := by
      intro jj w' C hjj G hk
      unfold gT
      dsimp only
      refine ⟨by omega, ?_⟩
      refine C.new C.ok2 (fun bn w2 C t hb _ hbn => ?_)
      replace G := G.st C iC t
      refine C.app C.ok2 G (C.out G.on) aZF.t (by decide) a04 a1O (y := ⟨Int.tmod (k : Int) c.Regions⟩) hb hbn (by omega) (fun s2 w3 C G n2 hn2 => ⟨s2, rfl, ?_⟩)
      refine C.reb C.ok2 (fun w4 C t => ?_)
      have step : IntKind.i64.wrap ((k : Int) + 1) = ((k + 1 : Nat) : Int) := by rw [wrap_i64 (by omega) (by omega)]; omega
      refine ⟨rfl, ⟨s2, _, jj, k + 1, rfl, step, C, by omega, G.st C iC t, by omega, by omega, ?_⟩, by simp only [step]; omega⟩
      intro x hx
      rcases List.mem_append.1 hx with hx | hx
      · exact hy x hx
      · rw [List.mem_singleton] at hx
        subst hx
        exact a03 (a := (k : Int)) (n := c.Regions) (by omega) (by omega)
    have key4 : ∀ (jj : Nat) (w' : World), CT w0 w w' bt b2 b4 s xs jj → jj ≤ 200 → Gr zoC 1 aH8 w w' sl ys → ¬ ((k : Int) < c.Regions) →
        eX w0.heap.size (aO4 w0) b2 v2 t2 (some ⟨bt, 0, none⟩) b4 { c with Zones := sl } t4 w' := by
      intro jj w' C hjj G hkz
      have gn := G.own.1
      have gs := G.stay C
      refine a1W (g := ⟨ys, [], [], []⟩) C.anchor (by omega) (fun w' T => ⟨(gs w' T).own.rd a04, ?_, ?_, ?_⟩) (by simp only; omega)
        (fun cs ts vs h1 h2 h3 h4 h5 h6 => ⟨hr, hle, hba, by simp only; omega, hy, ⟨h1, h2⟩, h3, h4, ⟨h5, h6⟩⟩)
        (fun b hb => by
          rcases hb with h | h | h | h
          · have := G.on b h; have := G.own.lt h; have := C.T0.t.size; omega
          · have h' : c.Cells.on b := h
            rw [hC] at h'; simp at h'
          · have h' : c.Tenants.on b := h
            rw [hT] at h'; simp at h'
          · have h' : c.Versions.on b := h
            rw [hV] at h'; simp at h') hr hO hR hT hC
      · show Rd ceC 2 w' c.Cells []
        rw [hC]; exact Own.nil.rd (e := 0) aZ8
      · show Rd teC 7 w' c.Tenants []
        rw [hT]; exact Own.nil.rd (e := 0) a0A
      · show Rd veC 2 w' c.Versions []
        rw [hV]; exact Own.nil.rd (e := 0) aY6
    refine ifbd (fun h => ?_) (fun h => ?_)
    · simp only at h
      refine C.reb C.ok2 (fun w3 C t => ?_)
      exact key29 _ _ C (by omega) (G.st C iC t) (by omega)
    · simp only at h
      refine C.yes C.ok2 (by omega) (by omega) (by omega) (fun m jy w3 C gj t => ⟨m, rfl, ?_⟩)
      replace G := G.st C iC t
      refine ifb (fun hm => ?_) (fun hm => ?_)
      · refine ifbd (fun h7 => ?_) (fun h7 => ?_)
        · refine C.reb C.ok2 (fun w3 C t => ?_)
          exact key29 _ _ C (by omega) (G.st C iC t) (by omega)
        · refine C.reb C.ok2 (fun w3 C t => ?_)
          exact key4 _ _ C (by omega) (G.st C iC t) h
      · refine C.reb C.ok2 (fun w3 C t => ?_)
        exact key4 _ _ C (by omega) (G.st C iC t) h
end
theorem aXM {w : World} {s : Sl} {xs : List Int} (hr : Rd intC 1 w s xs) (hlt : ∀ b, s.on b → b < w.heap.size) (hs : xs.length ≤ 200) : Spec PP aAC [.slice s.a s.n s.c] w noB
    (fun v w' => ∃ (c : aB) (g : Cfg), v = .agg (List.toArray c.cells) ∧ eT w' c g ∧ bU c g ∧ ∀ b, c.on b → w.heap.size ≤ b ∧ b < w'.heap.size) := by
  refine aLF s _ w ?_
  show oW w.heap.size s (aO4 w) w
  unfold oW
  have T : Now noB w w := Now.refl
  intro b2 hb2
  refine fun w1 hl => ?_
  have hb2' : b2 < w1.heap.size := hl.lt (by simp [blk])
  have T := T.locA hl Anc.start
  have t := hl.touch
  unfold uR
  refine CallL.pA T Anc.start (fun wa T t => aPH (hr.tr T.t (by simp [noB])) (fun b hb => Nat.lt_of_lt_of_le (hlt b hb) T.t.size) hs) ?_
  rintro wa v w2 T t2 z1 z2 l2 ⟨bt, rfl, tp, hbt⟩
  refine ⟨_, rfl, ?_⟩
  have h2bt : b2 < bt := Nat.lt_of_lt_of_le (l2 b2 (by simp [blk])) hbt
  have hav : ∀ c, (c = bt ∨ s.on c) → ¬ c ∈ blk [⟨b2, (⟨0, ⟨none, 0, 0⟩, ⟨none, 0, 0⟩, ⟨none, 0, 0⟩, ⟨none, 0, 0⟩, ⟨none, 0, 0⟩, ⟨none, 0, 0⟩, 0, 0, 0⟩ : aB).cells, aH⟩] := by
    rintro c (rfl | hc) hm
    · simp [blk] at hm; omega
    · simp [blk] at hm; subst hm; have := hlt _ hc; omega
  refine Reb.A T Anc.start (fun w3 T t3 => ?_)
  have z3 := t3.size
  have C : CT w w3 w3 bt b2 b2 s xs 0 := ⟨Now.refl, T, tp.tr t3 hav, by have := tp.lt; omega, by omega, hlt, by omega⟩
  unfold wF
  refine C.next C.ok1 (by omega) (by omega) (by omega) (fun m1 j1 w4 f0 f1 C gj1 t => ⟨m1, rfl, ?_⟩)
  refine CallL.vA C.T C.ok1.anc (fun wa _ _ => aHO (by omega) (by omega) (by omega) wa) (fun w5 T t => ⟨_, rfl, ?_⟩)
  replace C : CT w w3 w5 bt b2 b2 s xs j1 := ⟨T, C.T0, C.tp.tr t (C.av C.ok1), C.lt, C.ge, C.on, C.ne⟩
  have hreg := a0T (v := IntKind.i64.wrap (m1 + 1)) (a := 1) (b := 3) (by omega)
  refine C.range C.ok1 (by omega) (by omega) (by omega) (by omega) (fun m2 j2 w6 e0 e1 C gj2 t => ⟨m2, rfl, ?_⟩)
  refine C.range C.ok1 (by omega) (by omega) (by omega) (by omega) (fun m3 j3 w7 d0 d1 C gj3 t => ⟨m3, rfl, ?_⟩)
  refine C.next C.ok1 (by omega) (by omega) (by omega) (fun m4 j4 w8 c0 c1 C gj4 t => ⟨m4, rfl, ?_⟩)
  intro b4 hb4
  refine fun w9 hl => ?_
  have hb4' : b4 < w9.heap.size := hl.lt (by simp [blk])
  have zz := C.T.t.size
  have z0 := C.T0.t.size
  have zl := hl.touch.size
  have hok : okL w w3 bt b2 b2 [⟨b2, (⟨0, ⟨none, 0, 0⟩, ⟨none, 0, 0⟩, ⟨none, 0, 0⟩, ⟨none, 0, 0⟩, ⟨none, 0, 0⟩, ⟨none, 0, 0⟩, 0, 0, 0⟩ : aB).cells, aH⟩, ⟨b4, (⟨betM (IntKind.i64.wrap (m1 + 1)) 1 3, ⟨none, 0, 0⟩, ⟨none, 0, 0⟩, ⟨none, 0, 0⟩, ⟨none, 0, 0⟩, ⟨none, 0, 0⟩, ⟨none, 0, 0⟩, m2, m3, m4⟩ : aB).cells, aH⟩] := by
    intro b hb
    have := C.lt
    simp [blk] at hb
    rcases hb with rfl | rfl
    · exact ⟨by omega, by omega, fun _ => .inl rfl⟩
    · exact ⟨by omega, by omega, fun h => by omega⟩
  have T9 := C.T.locA hl hok.anc
  have C9 : CT w w9 w9 bt b2 b4 s xs j4 := ⟨Now.refl, C.T0.comp T9.t (fun i hi hh => by have := C.ge; rcases hh with rfl | rfl | rfl <;> omega), C.tp.tr hl.touch (C.av hok), by have := C.lt; omega, by have := C.ge; omega, C.on, by have := C.lt; omega⟩
  exact a1T C9 (by omega) hreg (by simp only; omega) (by simp only; omega) rfl rfl rfl rfl rfl rfl
end Go.Sh
