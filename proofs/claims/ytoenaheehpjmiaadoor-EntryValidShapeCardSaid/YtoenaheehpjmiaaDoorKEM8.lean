/- A part of the proof (printed smaller by a program of ours). Conditions: none. -/
import Derived.Test.YtoenaheehpjmiaaDoorKEM7
namespace Go.Sh
open Go
set_option linter.unusedSimpArgs false
set_option linter.unusedVariables false
set_option maxHeartbeats 4000000
theorem a2R {cs ds y : List Value} {o k a : Nat} (hk : a + k ≤ cs.length) (ho : o + ds.length ≤ k) (hy : lspl ((cs.drop a).take k) o ds = y) : lspl cs (a + o) ds = lspl cs a y := by
  subst hy
  have l1 : ((cs.drop a).take k).length = k := by simp; omega
  have l2 : (lspl ((cs.drop a).take k) o ds).length = k := by rw [lspl_length, l1]
  rw [lspl_eq _ _ _ (by omega), lspl_eq _ _ _ (by omega), l2, lspl_eq _ _ _ (by rw [l1]; omega)]
  apply List.ext_getElem?
  intro j
  simp only [List.getElem?_append, List.getElem?_take, List.getElem?_drop, List.length_append, List.length_take, List.length_drop]
  grind
theorem Own.setF {α : Type} {c : α → List Value} {k : Nat} {e : TypeId} {w : World} {s : Sl} {xs : List α} (h : Own c k e w s xs) (hk : ∀ x, (c x).length = k) {i : Nat} {x y : α} (hx : xs[i]? = some x) {o : Nat} {ds : List Value} (hy : lspl (c x) o ds = c y) (ho : o + ds.length ≤ k) {p : Addr} (hp : s.a = some p) :
    RoomAt w (addA (p.add (i * k)) o) ds.length ∧ Own c k e (putC w (addA (p.add (i * k)) o) ds) s (xs.set i y) := by
  have hi : i < xs.length := (List.getElem?_eq_some_iff.1 hx).1
  have hlen := h.1
  rcases h.2 with hs | ⟨b, cs, ha, hb, hc, hm, hl, ht⟩
  · rw [hs] at hlen; simp only at hlen; omega
  · obtain rfl : p = ⟨b, 0, none⟩ := Option.some.inj (hp.symm.trans ha)
    have hik : i * k + k ≤ s.n * k := by rw [← Nat.succ_mul]; exact Nat.mul_le_mul_right _ (by omega)
    have hck : s.n * k ≤ s.c * k := Nat.mul_le_mul_right _ hc
    have e1 : addA (Addr.add ⟨b, 0, none⟩ (i * k)) o = ⟨b, i * k + o, none⟩ := by
      rw [addA_eq, add_plain, add_plain, Nat.zero_add]
    rw [e1]
    refine ⟨hb.room (by omega), by simpa using hlen, .inr ⟨b, lspl cs (i * k + o) ds, ha, hb.putC _ _, hc, hm, by rw [lspl_length]; exact hl, ?_⟩⟩
    have hcx : (cs.drop (i * k)).take k = c x := by
      have := flat_at hk hx
      rw [← ht, List.drop_take, List.take_take, Nat.min_eq_left (by omega)] at this
      exact this
    obtain ⟨q, hq, hroom, hblk, hset⟩ := h.set hk hi y
    obtain rfl : (⟨b, 0, none⟩ : Addr) = q := Option.some.inj (ha.symm.trans hq)
    rw [add_plain, Nat.zero_add] at hset
    rcases hset.2 with hs | ⟨b', cs', ha', hb', hc', hm', hl', ht'⟩
    · rw [hs] at ha; cases ha
    · have eb : b = b' := by
        have := ha.symm.trans ha'
        simpa using this
      subst eb
      have h2 := hb.putC (i * k) (c y)
      have h3 : cs' = lspl cs (i * k) (c y) := by
        have := h2.symm.trans hb'
        simpa using this.symm
      rw [a2R (k := k) (y := c y) (by omega) ho (by rw [hcx]; exact hy), ← h3]
      exact ht'
structure AP (S : Nat → Prop) (w0 w : World) (c : aB) (g : Cfg) (s : aA) (ts : List aJ) (xs : List aL) : Prop where
  T : Now S w0 w
  cf : eT w c g
  st : StAt w s ts xs
  lt : ∀ b, s.on b → b < w0.heap.size
  sep : ∀ b, c.on b → ¬ s.on b
section
variable {S : Nat → Prop} {w0 w w' : World} {c : aB} {g : Cfg} {s : aA} {ts : List aJ} {xs : List aL} {L : List LB}
theorem eT.tr (h : eT w c g) (t : Touch S w w') (hd : ∀ b, c.on b → ¬ S b) : eT w' c g :=
  ⟨h.z.tr t (fun b hb => hd b (.inl hb)), h.ce.tr t (fun b hb => hd b (.inr (.inl hb))), h.t.tr t (fun b hb => hd b (.inr (.inr (.inl hb)))), h.v.tr t (fun b hb => hd b (.inr (.inr (.inr hb))))⟩
abbrev newL (w0 : World) (L : List LB) : Prop := ∀ b ∈ blk L, w0.heap.size ≤ b
theorem newL.anc (h : newL w0 L) : Anc S w0 w0.heap.size L := Anc.start
theorem AP.step (A : AP S w0 w c g s ts xs) (hL : newL w0 L) (hc : ∀ b, c.on b → b < w0.heap.size) (T : Now S w0 w') (t : Touch (fun b => b ∈ blk L) w w') : AP S w0 w' c g s ts xs :=
  ⟨T, A.cf.tr t (fun b hb hm => by have := hL b hm; have := hc b hb; omega), A.st.tr t (fun b hb hm => by have := hL b hm; have := A.lt b hb; omega), A.lt, A.sep⟩
theorem AP.reb {K : World → Prop} (A : AP S w0 w c g s ts xs) (hL : newL w0 L) (hc : ∀ b, c.on b → b < w0.heap.size) (k : ∀ w', AP S w0 w' c g s ts xs → K w') : Reb w0.heap.size w L K :=
  Reb.A A.T Anc.start (fun w' T t => k w' (A.step hL hc T t))
theorem AP.call {f : FuncId} {args : List Value} {R : Value → World → Prop} {R' : World → Value → World → Prop} (A : AP S w0 w c g s ts xs) (hL : newL w0 L) (hc : ∀ b, c.on b → b < w0.heap.size)
    (hs : ∀ wa, AP S w0 wa c g s ts xs → Spec PP f args wa noB (R' wa)) (k : ∀ wa v w', AP S w0 w' c g s ts xs → R' wa v w' → R v w') : CallL PP w0.heap.size w L f args R :=
  CallL.pA A.T Anc.start (fun wa T t => hs wa (A.step hL hc T t)) (fun wa v w' T t z1 z2 _ hr => k wa v w' (A.step hL hc T t) hr)
theorem AP.tn {i : Int} {K : Addr → Prop} (A : AP S w0 w c g s ts xs) (h0 : 0 ≤ i) (h1 : i < ts.length) (k : ∀ q x, s.Tenants.a = some q → ts[i.toNat]? = some x → K q) : IdxL s.Tenants.a s.Tenants.n i K :=
  (A.st.t.rd kI).idx h0 (by have := A.st.t.1; omega) (fun p x hp hx _ => k p x hp hx)
theorem AP.ce {i : Int} {K : Addr → Prop} (A : AP S w0 w c g s ts xs) (h0 : 0 ≤ i) (h1 : i < xs.length) (k : ∀ q x, s.Cells.a = some q → xs[i.toNat]? = some x → K q) : IdxL s.Cells.a s.Cells.n i K :=
  (A.st.x.rd qQ).idx h0 (by have := A.st.x.1; omega) (fun p x hp hx _ => k p x hp hx)
theorem AP.rdT {q : Addr} {i o : Nat} {x : aJ} {ds : List Value} (A : AP S w0 w c g s ts xs) (hq : s.Tenants.a = some q) (hx : ts[i]? = some x) (hd : (x.cells.drop o).take ds.length = ds) : At w (addA (q.add (i * 12)) o) ds :=
  ((A.st.t.rd kI).2.2 q hq i x hx).fld o hd
theorem AP.rdX {q : Addr} {i o : Nat} {x : aL} {ds : List Value} (A : AP S w0 w c g s ts xs) (hq : s.Cells.a = some q) (hx : xs[i]? = some x) (hd : (x.cells.drop o).take ds.length = ds) : At w (addA (q.add (i * 4)) o) ds :=
  ((A.st.x.rd qQ).2.2 q hq i x hx).fld o hd
theorem AP.niT {q : Addr} {i o k : Nat} (A : AP S w0 w c g s ts xs) (hq : s.Tenants.a = some q) (hL : newL w0 L) : NotIn (addA (q.add (i * k)) o).block L :=
  nI (N := w0.heap.size) (by rw [add_block]; exact A.lt _ (.inl ⟨q, hq, rfl⟩)) hL
theorem AP.niX {q : Addr} {i o k : Nat} (A : AP S w0 w c g s ts xs) (hq : s.Cells.a = some q) (hL : newL w0 L) : NotIn (addA (q.add (i * k)) o).block L :=
  nI (N := w0.heap.size) (by rw [add_block]; exact A.lt _ (.inr ⟨q, hq, rfl⟩)) hL
theorem a1L : aR ≠ bY := by decide
theorem AP.stT {q : Addr} {i o : Nat} {x x' : aJ} {ds : List Value} {K : World → Prop} (A : AP S w0 w c g s ts xs) (hS : ∀ b, s.on b → S b) (hq : s.Tenants.a = some q) (hL : newL w0 L) (hx : ts[i]? = some x) (hy : lspl x.cells o ds = x'.cells) (ho : o + ds.length ≤ 12)
    (k : ∀ w', AP S w0 w' c g s (ts.set i x') xs → (ts.set i x')[i]? = some x' → K w') : StL w L (addA (q.add (i * 12)) o) ds K := by
  obtain ⟨hr, hset⟩ := A.st.t.setF kI hx hy ho hq
  have hb : (addA (q.add (i * 12)) o).block = q.block := by rw [aIB, add_block]
  have hon : s.Tenants.on q.block := ⟨q, hq, rfl⟩
  have tp := (Touch.refl (fun b => b = q.block) w).putC (p := addA (q.add (i * 12)) o) (cs := ds) (fun _ => hb)
  have T := A.T.putC (p := addA (q.add (i * 12)) o) (cs := ds) (fun _ => hS _ (.inl (by rw [hb]; exact hon)))
  have hi : i < ts.length := (List.getElem?_eq_some_iff.1 hx).1
  refine ⟨hr, A.niT hq hL, k _ ⟨T, A.cf.tr tp (fun b hb e => A.sep b hb (.inl (e ▸ hon))), ⟨hset, A.st.x.tr tp (fun b hb e => ?_)⟩, A.lt, A.sep⟩ (by simp [hi])⟩
  subst e
  obtain ⟨b1, c1, a1, k1, _⟩ := A.st.t.2.resolve_left (fun h => by rw [h] at hq; cases hq)
  obtain ⟨q2, hq2, e2⟩ := hb
  obtain ⟨b2, c2, a2, k2, _⟩ := A.st.x.2.resolve_left (fun h => by rw [h] at hq2; cases hq2)
  obtain rfl := Option.some.inj (hq.symm.trans a1)
  obtain rfl := Option.some.inj (hq2.symm.trans a2)
  simp only at e2
  subst e2
  have := k1.symm.trans k2
  simp at this
  exact absurd this.2 a1L
theorem AP.stX {q : Addr} {i o : Nat} {x x' : aL} {ds : List Value} {K : World → Prop} (A : AP S w0 w c g s ts xs) (hS : ∀ b, s.on b → S b) (hq : s.Cells.a = some q) (hL : newL w0 L) (hx : xs[i]? = some x) (hy : lspl x.cells o ds = x'.cells) (ho : o + ds.length ≤ 4)
    (k : ∀ w', AP S w0 w' c g s ts (xs.set i x') → (xs.set i x')[i]? = some x' → K w') : StL w L (addA (q.add (i * 4)) o) ds K := by
  obtain ⟨hr, hset⟩ := A.st.x.setF qQ hx hy ho hq
  have hb : (addA (q.add (i * 4)) o).block = q.block := by rw [aIB, add_block]
  have hon : s.Cells.on q.block := ⟨q, hq, rfl⟩
  have tp := (Touch.refl (fun b => b = q.block) w).putC (p := addA (q.add (i * 4)) o) (cs := ds) (fun _ => hb)
  have T := A.T.putC (p := addA (q.add (i * 4)) o) (cs := ds) (fun _ => hS _ (.inr (by rw [hb]; exact hon)))
  have hi : i < xs.length := (List.getElem?_eq_some_iff.1 hx).1
  refine ⟨hr, A.niX hq hL, k _ ⟨T, A.cf.tr tp (fun b hb e => A.sep b hb (.inr (e ▸ hon))), ⟨A.st.t.tr tp (fun b hb e => ?_), hset⟩, A.lt, A.sep⟩ (by simp [hi])⟩
  subst e
  obtain ⟨b1, c1, a1, k1, _⟩ := A.st.x.2.resolve_left (fun h => by rw [h] at hq; cases hq)
  obtain ⟨q2, hq2, e2⟩ := hb
  obtain ⟨b2, c2, a2, k2, _⟩ := A.st.t.2.resolve_left (fun h => by rw [h] at hq2; cases hq2)
  obtain rfl := Option.some.inj (hq.symm.trans a1)
  obtain rfl := Option.some.inj (hq2.symm.trans a2)
  simp only at e2
  subst e2
  have := k1.symm.trans k2
  simp at this
  exact absurd this.2.symm a1L
theorem AP.t0 {q : Addr} {i : Nat} {x : aJ} {v : Bool} {K : World → Prop} (A : AP S w0 w c g s ts xs) (hS : ∀ b, s.on b → S b) (hq : s.Tenants.a = some q) (hL : newL w0 L) (hx : ts[i]? = some x)
    (k : ∀ w', AP S w0 w' c g s (ts.set i { x with Placed := v }) xs → (ts.set i { x with Placed := v })[i]? = some { x with Placed := v } → K w') : StL w L (addA (q.add (i * 12)) 0) [.bool v] K := A.stT hS hq hL hx rfl (by simp) k
theorem AP.t1 {q : Addr} {i : Nat} {x : aJ} {v : Bool} {K : World → Prop} (A : AP S w0 w c g s ts xs) (hS : ∀ b, s.on b → S b) (hq : s.Tenants.a = some q) (hL : newL w0 L) (hx : ts[i]? = some x)
    (k : ∀ w', AP S w0 w' c g s (ts.set i { x with Shed := v }) xs → (ts.set i { x with Shed := v })[i]? = some { x with Shed := v } → K w') : StL w L (addA (q.add (i * 12)) 1) [.bool v] K := A.stT hS hq hL hx rfl (by simp) k
theorem AP.t2 {q : Addr} {i : Nat} {x : aJ} {v : Int} {K : World → Prop} (A : AP S w0 w c g s ts xs) (hS : ∀ b, s.on b → S b) (hq : s.Tenants.a = some q) (hL : newL w0 L) (hx : ts[i]? = some x)
    (k : ∀ w', AP S w0 w' c g s (ts.set i { x with Home := v }) xs → (ts.set i { x with Home := v })[i]? = some { x with Home := v } → K w') : StL w L (addA (q.add (i * 12)) 2) [.int .i64 v] K := A.stT hS hq hL hx rfl (by simp) k
theorem AP.t3 {q : Addr} {i : Nat} {x : aJ} {v : Int} {K : World → Prop} (A : AP S w0 w c g s ts xs) (hS : ∀ b, s.on b → S b) (hq : s.Tenants.a = some q) (hL : newL w0 L) (hx : ts[i]? = some x)
    (k : ∀ w', AP S w0 w' c g s (ts.set i { x with Standby := v }) xs → (ts.set i { x with Standby := v })[i]? = some { x with Standby := v } → K w') : StL w L (addA (q.add (i * 12)) 3) [.int .i64 v] K := A.stT hS hq hL hx rfl (by simp) k
theorem AP.t4 {q : Addr} {i : Nat} {x : aJ} {v : Int} {K : World → Prop} (A : AP S w0 w c g s ts xs) (hS : ∀ b, s.on b → S b) (hq : s.Tenants.a = some q) (hL : newL w0 L) (hx : ts[i]? = some x)
    (k : ∀ w', AP S w0 w' c g s (ts.set i { x with Next := v }) xs → (ts.set i { x with Next := v })[i]? = some { x with Next := v } → K w') : StL w L (addA (q.add (i * 12)) 4) [.int .i64 v] K := A.stT hS hq hL hx rfl (by simp) k
theorem AP.t5 {q : Addr} {i : Nat} {x : aJ} {v : Int} {K : World → Prop} (A : AP S w0 w c g s ts xs) (hS : ∀ b, s.on b → S b) (hq : s.Tenants.a = some q) (hL : newL w0 L) (hx : ts[i]? = some x)
    (k : ∀ w', AP S w0 w' c g s (ts.set i { x with Target := v }) xs → (ts.set i { x with Target := v })[i]? = some { x with Target := v } → K w') : StL w L (addA (q.add (i * 12)) 5) [.int .i64 v] K := A.stT hS hq hL hx rfl (by simp) k
theorem AP.t6 {q : Addr} {i : Nat} {x : aJ} {v : Int} {K : World → Prop} (A : AP S w0 w c g s ts xs) (hS : ∀ b, s.on b → S b) (hq : s.Tenants.a = some q) (hL : newL w0 L) (hx : ts[i]? = some x)
    (k : ∀ w', AP S w0 w' c g s (ts.set i { x with Epoch := v }) xs → (ts.set i { x with Epoch := v })[i]? = some { x with Epoch := v } → K w') : StL w L (addA (q.add (i * 12)) 6) [.int .i64 v] K := A.stT hS hq hL hx rfl (by simp) k
theorem AP.t7 {q : Addr} {i : Nat} {x : aJ} {v : aT} {K : World → Prop} (A : AP S w0 w c g s ts xs) (hS : ∀ b, s.on b → S b) (hq : s.Tenants.a = some q) (hL : newL w0 L) (hx : ts[i]? = some x)
    (k : ∀ w', AP S w0 w' c g s (ts.set i { x with Window := v }) xs → (ts.set i { x with Window := v })[i]? = some { x with Window := v } → K w') : StL w L (addA (q.add (i * 12)) 7) v.cells K := A.stT hS hq hL hx rfl (by simp [aT.cells]) k
theorem AP.x0 {q : Addr} {i : Nat} {x : aL} {v : Int} {K : World → Prop} (A : AP S w0 w c g s ts xs) (hS : ∀ b, s.on b → S b) (hq : s.Cells.a = some q) (hL : newL w0 L) (hx : xs[i]? = some x)
    (k : ∀ w', AP S w0 w' c g s ts (xs.set i { x with Mode := v }) → (xs.set i { x with Mode := v })[i]? = some { x with Mode := v } → K w') : StL w L (addA (q.add (i * 4)) 0) [.int .i64 v] K := A.stX hS hq hL hx rfl (by simp) k
theorem AP.x1 {q : Addr} {i : Nat} {x : aL} {v : Int} {K : World → Prop} (A : AP S w0 w c g s ts xs) (hS : ∀ b, s.on b → S b) (hq : s.Cells.a = some q) (hL : newL w0 L) (hx : xs[i]? = some x)
    (k : ∀ w', AP S w0 w' c g s ts (xs.set i { x with Running := v }) → (xs.set i { x with Running := v })[i]? = some { x with Running := v } → K w') : StL w L (addA (q.add (i * 4)) 1) [.int .i64 v] K := A.stX hS hq hL hx rfl (by simp) k
theorem AP.x2 {q : Addr} {i : Nat} {x : aL} {v : Int} {K : World → Prop} (A : AP S w0 w c g s ts xs) (hS : ∀ b, s.on b → S b) (hq : s.Cells.a = some q) (hL : newL w0 L) (hx : xs[i]? = some x)
    (k : ∀ w', AP S w0 w' c g s ts (xs.set i { x with Wanted := v }) → (xs.set i { x with Wanted := v })[i]? = some { x with Wanted := v } → K w') : StL w L (addA (q.add (i * 4)) 2) [.int .i64 v] K := A.stX hS hq hL hx rfl (by simp) k
theorem AP.x3 {q : Addr} {i : Nat} {x : aL} {v : Int} {K : World → Prop} (A : AP S w0 w c g s ts xs) (hS : ∀ b, s.on b → S b) (hq : s.Cells.a = some q) (hL : newL w0 L) (hx : xs[i]? = some x)
    (k : ∀ w', AP S w0 w' c g s ts (xs.set i { x with Since := v }) → (xs.set i { x with Since := v })[i]? = some { x with Since := v } → K w') : StL w L (addA (q.add (i * 4)) 3) [.int .i64 v] K := A.stX hS hq hL hx rfl (by simp) k
theorem StOk.setT {i : Nat} {x : aJ} (h : StOk g ts xs) (hx : TnOk g x) : StOk g (ts.set i x) xs :=
  ⟨by rw [List.length_set]; exact h.tl, h.xl, fun t ht => (List.mem_or_eq_of_mem_set ht).elim (h.tr t) (fun e => e ▸ hx), h.xr⟩
theorem StOk.setX {i : Nat} {x : aL} (h : StOk g ts xs) (hx : CeOk g x) : StOk g ts (xs.set i x) :=
  ⟨h.tl, by rw [List.length_set]; exact h.xl, h.tr, fun t ht => (List.mem_or_eq_of_mem_set ht).elim (h.xr t) (fun e => e ▸ hx)⟩
def ResS (g : Cfg) (s : aA) (v : Value) (w' : World) : Prop :=
  ∃ (st : aA) (e : Int), v = .tuple #[.agg (List.toArray st.cells), .int .i64 e] ∧ (e = 0 → ∃ ts xs, StAt w' st ts xs ∧ StOk g ts xs ∧ ∀ b, st.on b → s.on b)
end
end Go.Sh
