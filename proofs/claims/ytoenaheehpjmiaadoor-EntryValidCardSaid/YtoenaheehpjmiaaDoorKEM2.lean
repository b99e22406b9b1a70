/- A part of the proof (printed smaller by a program of ours). Conditions: none. -/
import Derived.Test.YtoenaheehpjmiaaDoorKEM1
namespace Go.Sh
open Go
set_option linter.unusedSimpArgs false
set_option linter.unusedVariables false
def PS (bt b2 b4 : Nat) : Nat → Prop := fun i => i = bt ∨ i = b2 ∨ i = b4
structure CT (w0 wM w : World) (bt b2 b4 : Nat) (s : Sl) (xs : List Int) (i : Nat) : Prop where
  T : Now (PS bt b2 b4) wM w
  T0 : Now noB w0 wM
  tp : qG w bt s xs i
  lt : bt < wM.heap.size ∧ b2 < wM.heap.size ∧ b4 < wM.heap.size
  ge : w0.heap.size ≤ bt ∧ w0.heap.size ≤ b2 ∧ w0.heap.size ≤ b4
  on : ∀ b, s.on b → b < w0.heap.size
  ne : bt ≠ b2 ∧ bt ≠ b4
def okL (w0 wM : World) (bt b2 b4 : Nat) (L : List LB) : Prop := ∀ b ∈ blk L, b ≠ bt ∧ w0.heap.size ≤ b ∧ (b < wM.heap.size → b = b2 ∨ b = b4)
section
variable {w0 wM w w' : World} {bt b2 b4 : Nat} {s : Sl} {xs : List Int} {i : Nat} {L : List LB}
theorem okL.anc (h : okL w0 wM bt b2 b4 L) : Anc (PS bt b2 b4) wM w0.heap.size L := fun i hi _ hl => .inr ((h i hi).2.2 hl)
theorem CT.av (C : CT w0 wM w bt b2 b4 s xs i) (h : okL w0 wM bt b2 b4 L) : ∀ c, (c = bt ∨ s.on c) → ¬ c ∈ blk L := by
  rintro c (rfl | hc) hm
  · exact (h _ hm).1 rfl
  · have := C.on c hc; have := (h c hm).2.1; omega
theorem CT.now (C : CT w0 wM w bt b2 b4 s xs i) : Now noB w0 w := C.T0.comp C.T.t (fun i hi hs => by
  have := C.ge; rcases hs with rfl | rfl | rfl <;> omega)
theorem CT.anchor (C : CT w0 wM w bt b2 b4 s xs i) : CT w0 w w bt b2 b4 s xs i :=
  ⟨Now.refl, C.now, C.tp, by have := C.T.t.size; have := C.lt; omega, C.ge, C.on, C.ne⟩
theorem CT.past (C : CT w0 wM w bt b2 b4 s xs i) (T : Now (PS bt b2 b4) w w') : Now (PS bt b2 b4) wM w' := C.T.comp T.t (fun _ _ h => h)
theorem CT.reb {K : World → Prop} (C : CT w0 wM w bt b2 b4 s xs i) (h : okL w0 wM bt b2 b4 L) (k : ∀ w', CT w0 wM w' bt b2 b4 s xs i → Touch (fun b => b ∈ blk L ∨ b = bt) w w' → K w') : Reb w0.heap.size w L K :=
  Reb.A C.T h.anc (fun w' T t => k w' ⟨T, C.T0, C.tp.tr t (C.av h), C.lt, C.ge, C.on, C.ne⟩ (t.mono (fun _ _ h => .inl h)))
theorem CT.next {n : Int} {R : Value → World → Prop} (C : CT w0 wM w bt b2 b4 s xs i) (h : okL w0 wM bt b2 b4 L) (hi : i < 1000000) (h1 : 1 ≤ n) (h2 : n ≤ 1000000000)
    (k : ∀ m j w', 0 ≤ m → m < n → CT w0 wM w' bt b2 b4 s xs j → (i ≤ j ∧ j ≤ i + 1) → Touch (fun b => b ∈ blk L ∨ b = bt) w w' → R (.int .i64 m) w') :
    CallL PP w0.heap.size w L aM [.pointer (some ⟨bt, 0, none⟩), .int .i64 n] R := by
  have z := C.tp.lt
  refine CallL.A (fun c => c = bt) C.T h.anc (fun c hc => ⟨by omega, fun hm => (h c hm).1 hc⟩) (fun _ _ h => .inl h) (fun wa _ t => xX (C.tp.tr t (C.av h)) hi h1 h2) ?_
  rintro wa v w1 T t _ _ _ ⟨m, j, rfl, g0, g1, tp, gj, _⟩
  exact k m j w1 g0 g1 ⟨T, C.T0, tp, C.lt, C.ge, C.on, C.ne⟩ gj t
theorem CT.range {lo hi' : Int} {R : Value → World → Prop} (C : CT w0 wM w bt b2 b4 s xs i) (h : okL w0 wM bt b2 b4 L) (hi : i < 1000000) (h0 : lo ≤ hi') (h1 : -100000000 ≤ lo) (h2 : hi' ≤ 100000000)
    (k : ∀ m j w', lo ≤ m → m ≤ hi' → CT w0 wM w' bt b2 b4 s xs j → (i ≤ j ∧ j ≤ i + 1) → Touch (fun b => b ∈ blk L ∨ b = bt) w w' → R (.int .i64 m) w') :
    CallL PP w0.heap.size w L aV [.pointer (some ⟨bt, 0, none⟩), .int .i64 lo, .int .i64 hi'] R := by
  have z := C.tp.lt
  refine CallL.A (fun c => c = bt) C.T h.anc (fun c hc => ⟨by omega, fun hm => (h c hm).1 hc⟩) (fun _ _ h => .inl h) (fun wa _ t => aU5 (C.tp.tr t (C.av h)) hi h0 h1 h2) ?_
  rintro wa v w1 T t _ _ _ ⟨m, j, rfl, g0, g1, tp, gj⟩
  exact k m j w1 g0 g1 ⟨T, C.T0, tp, C.lt, C.ge, C.on, C.ne⟩ gj t
theorem CT.yes {n : Int} {R : Value → World → Prop} (C : CT w0 wM w bt b2 b4 s xs i) (h : okL w0 wM bt b2 b4 L) (hi : i < 1000000) (h1 : 1 ≤ n) (h2 : n ≤ 1000000000)
    (k : ∀ m j w', CT w0 wM w' bt b2 b4 s xs j → (i ≤ j ∧ j ≤ i + 1) → Touch (fun b => b ∈ blk L ∨ b = bt) w w' → R (.bool m) w') :
    CallL PP w0.heap.size w L aS [.pointer (some ⟨bt, 0, none⟩), .int .i64 n] R := by
  have z := C.tp.lt
  refine CallL.A (fun c => c = bt) C.T h.anc (fun c hc => ⟨by omega, fun hm => (h c hm).1 hc⟩) (fun _ _ h => .inl h) (fun wa _ t => aWC (C.tp.tr t (C.av h)) hi h1 h2) ?_
  rintro wa v w1 T t _ _ _ ⟨m, j, rfl, tp, gj⟩
  exact k m j w1 ⟨T, C.T0, tp, C.lt, C.ge, C.on, C.ne⟩ gj t
theorem CT.new {cs : List Value} {ty : TypeId} {K : Nat → World → Prop} (C : CT w0 wM w bt b2 b4 s xs i) (h : okL w0 wM bt b2 b4 L)
    (k : ∀ b w', CT w0 wM w' bt b2 b4 s xs i → Touch (fun b => b ∈ blk L ∨ b = bt) w w' → Blk w' b cs ty → w.heap.size ≤ b → b ∉ blk L → K b w') : NewL w0.heap.size w L cs ty K :=
  NewL.A C.T h.anc (fun b w' T t hb l => k b w' ⟨T, C.T0, C.tp.tr t (C.av h), C.lt, C.ge, C.on, C.ne⟩ (t.mono (fun _ _ h => .inl h)) hb l.2.1 l.2.2.2)
theorem CT.ok2 (C : CT w0 wM w bt b2 b4 s xs i) {c1 c2 : List Value} {t1 t2 : TypeId} : okL w0 wM bt b2 b4 [⟨b2, c1, t1⟩, ⟨b4, c2, t2⟩] := by
  intro b hb
  have := C.ge
  have := C.ne
  simp [blk] at hb
  rcases hb with rfl | rfl
  · exact ⟨fun h => C.ne.1 h.symm, C.ge.2.1, fun _ => .inl rfl⟩
  · exact ⟨fun h => C.ne.2 h.symm, C.ge.2.2, fun _ => .inr rfl⟩
theorem CT.ok1 (C : CT w0 wM w bt b2 b4 s xs i) {c1 : List Value} {t1 : TypeId} : okL w0 wM bt b2 b4 [⟨b2, c1, t1⟩] := by
  intro b hb
  simp [blk] at hb
  subst hb
  exact ⟨fun h => C.ne.1 h.symm, C.ge.2.1, fun _ => .inl rfl⟩
theorem iC {b2 b4 : Nat} {c1 c2 : List Value} {t1 t2 : TypeId} : ∀ b ∈ blk [⟨b2, c1, t1⟩, ⟨b4, c2, t2⟩], b = b2 ∨ b = b4 := by
  intro b hb; simpa [blk] using hb
theorem CT.out (C : CT w0 wM w bt b2 b4 s xs i) {c1 c2 : List Value} {t1 t2 : TypeId} {sl : Sl} (h : ∀ b, sl.on b → wM.heap.size ≤ b) : ∀ b, sl.on b → b ∉ blk [⟨b2, c1, t1⟩, ⟨b4, c2, t2⟩] := by
  intro b hb hm
  have := h b hb
  have := C.lt
  rcases iC b hm with rfl | rfl <;> omega
structure Gr {α : Type} (c : α → List Value) (kk : Nat) (e : TypeId) (wM w : World) (sl : Sl) (ys : List α) : Prop where
  own : Own c kk e w sl ys
  on : ∀ b, sl.on b → wM.heap.size ≤ b
variable {α : Type} {c : α → List Value} {kk : Nat} {e : TypeId} {sl : Sl} {ys : List α}
theorem Gr.tr {S : Nat → Prop} (g : Gr c kk e wM w sl ys) (t : Touch S w w') (hd : ∀ b, sl.on b → ¬ S b) : Gr c kk e wM w' sl ys := ⟨g.own.tr t hd, g.on⟩
theorem Gr.st {wc : World} {ic : Nat} (g : Gr c kk e wM w sl ys) (C : CT w0 wM wc bt b2 b4 s xs ic) (hL : ∀ b ∈ blk L, b = b2 ∨ b = b4) (t : Touch (fun b => b ∈ blk L ∨ b = bt) w w') : Gr c kk e wM w' sl ys :=
  g.tr t (fun b hb h => by
    have h1 := g.on b hb
    have h2 := C.lt
    rcases h with h | rfl
    · rcases hL b h with rfl | rfl <;> omega
    · omega)
theorem CT.app {t ty bytes bn T : Nat} {y : α} {R : Value → World → Prop} (C : CT w0 wM w bt b2 b4 s xs i) (h : okL w0 wM bt b2 b4 L) (g : Gr c kk e wM w sl ys) (hg : ∀ b, sl.on b → b ∉ blk L) (E : ElemT PP t e kk bytes) (hb0 : 0 < bytes) (hk : ∀ x, (c x).length = kk) (h1 : ∀ x, ∀ u ∈ c x, u.oneCell' = true)
    (hn : Blk w bn (c y) T) (hbn : bn ∉ blk L) (hb : (sl.n + 1) * bytes ≤ 140737488355328)
    (k : ∀ s' w', CT w0 wM w' bt b2 b4 s xs i → Gr c kk e wM w' s' (ys ++ [y]) → (∀ b, s'.on b → b ∉ blk L) → (s'.n = sl.n + 1) → R (.slice s'.a s'.n s'.c) w') :
    RunL PP w0.heap.size w L (Builtin.append_ #[t, t] ty #[.slice sl.a sl.n sl.c, .slice (some ⟨bn, 0, none⟩) 1 1]) R := by
  refine RunL.appA C.T h.anc E hb0 hk h1 g.own (Blk.rd1 (x := y) hn) (fun h => by cases h) hb (fun b hlt hb => by have := g.on b hb; omega) hg (fun b hb => by simp at hb; rw [← hb]; exact hbn) (fun s' w1 T t o f n => ?_)
  have zz := C.T.t.size
  refine k s' w1 ⟨T, C.T0, C.tp.tr t ?_, C.lt, C.ge, C.on, C.ne⟩ ⟨o, fun b hb => ?_⟩ n ?_
  · rintro b hb (hm | hm)
    · exact C.av h b hb hm
    · have := g.on b hm
      have h2 := C.lt
      have h3 := C.T0.t.size
      rcases hb with rfl | hb
      · omega
      · have := C.on b hb; omega
  · rcases f b hb with h | h
    · exact g.on b h
    · omega
  · have e1 := o.1
    have e2 := g.own.1
    rw [List.length_append, List.length_singleton] at e1
    omega
end
end Go.Sh
