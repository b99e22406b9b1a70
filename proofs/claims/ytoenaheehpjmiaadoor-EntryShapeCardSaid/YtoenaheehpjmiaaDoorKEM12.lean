/- A part of the proof (printed smaller by a program of ours). Conditions: none. -/
import Derived.Test.YtoenaheehpjmiaaDoorKEM11
namespace Go.Sh
open Go
set_option linter.unusedSimpArgs false
set_option linter.unusedVariables false
set_option maxHeartbeats 8000000
section
variable {e : aC} {t c r v : Int}
theorem okP.tn (h : okP e t c r v) (hk : e.Kind ≤ 8) : 0 ≤ e.Tenant ∧ e.Tenant < t := by
  obtain ⟨⟨k1, _⟩, _, hp, _⟩ := h
  have := hp.1
  rwa [if_pos (by omega)] at this
theorem okP.ce (h : okP e t c r v) (hk : e.Kind = 1 ∨ e.Kind = 2 ∨ e.Kind = 5 ∨ e.Kind = 6 ∨ e.Kind = 9 ∨ e.Kind = 10 ∨ e.Kind = 11) : 0 ≤ e.Cell ∧ e.Cell < c := by
  obtain ⟨_, _, hp, _⟩ := h
  have := hp.2.1
  rwa [if_pos hk] at this
theorem okP.ce4 (h : okP e t c r v) (hk : e.Kind = 4) : -1 ≤ e.Cell ∧ e.Cell < c := by
  obtain ⟨_, _, hp, _⟩ := h
  have := hp.2.1
  rwa [if_neg (by omega), if_pos hk] at this
theorem okP.ot (h : okP e t c r v) (hk : e.Kind = 1) : -1 ≤ e.Other ∧ e.Other < c := by
  obtain ⟨_, _, hp, _⟩ := h
  have := hp.2.2
  rw [if_pos hk] at this
  exact ⟨this.1, this.2.1⟩
theorem okP.nn (h : okP e t c r v) (hk : e.Kind = 2 ∨ e.Kind = 10 ∨ e.Kind = 11 ∨ e.Kind = 12) : 0 ≤ e.N ∧ e.N < v := by
  obtain ⟨_, _, _, hn⟩ := h
  have := hn.2.2
  rwa [if_pos hk] at this
end
def a01 (w0 : World) (g : Cfg) (v : Value) (w' : World) : Prop :=
  ∃ (st : aA) (er : Int), v = .tuple #[.agg (List.toArray st.cells), .int .i64 er] ∧ (er = 0 → ∃ ts xs, StAt w' st ts xs ∧ StOk g ts xs ∧ ∀ b, st.on b → w0.heap.size ≤ b)
theorem aVC {w0 w : World} {c : aB} {g : Cfg} {s1 : aA} {ts : List aJ} {xs : List aL} {L : List LB} {L' : aA → List LB} {f : FuncId} {args : List Value}
    (T : Now noB w0 w) (C : eT w0 c g) (hc : ∀ b, c.on b → b < w0.heap.size) (A : StAt w s1 ts xs) (g1 : ∀ b, s1.on b → w0.heap.size ≤ b ∧ b ∉ blk L) (hL : ∀ x, blk (L' x) = blk L)
    (spec : ∀ wa, eT wa c g → (∀ b, c.on b → b < wa.heap.size) → (∀ b, c.on b → ¬ s1.on b) → StAt wa s1 ts xs → Spec PP f args wa (fun b => s1.on b) (ResS g s1)) :
    CallL PP w0.heap.size w L f args fun r w' => ∃ x : aA, ∃ n : Int, r = .tuple #[.agg (List.toArray x.cells), .int .i64 n] ∧ Reb w0.heap.size w' (L' x) ((fun v w' => Touch noB w0 w' ∧ a01 w0 g v w') (.tuple #[.agg (List.toArray x.cells), .int .i64 n])) := by
  refine CallL.A (fun b => s1.on b) T Anc.start (fun b hb => ⟨A.lt hb, (g1 b hb).2⟩) (fun i hi hh => by have := (g1 i hh).1; omega)
    (fun wa Ta t => spec wa (C.now Ta) (fun b hb => Nat.lt_of_lt_of_le (hc b hb) Ta.t.size) (fun b hb hs => by have := hc b hb; have := (g1 b hs).1; omega) (A.tr t (fun b hb => (g1 b hb).2))) ?_
  rintro wa v w1 T t _ _ _ ⟨st, er, rfl, hr⟩
  refine ⟨st, er, rfl, Reb.A T Anc.start (fun w2 T t2 => ⟨T.t, st, er, rfl, fun h => ?_⟩)⟩
  obtain ⟨ts', xs', h1, h2, h3⟩ := hr h
  exact ⟨ts', xs', h1.tr t2 (fun b hb => by rw [hL]; exact (g1 b (h3 b hb)).2), h2, fun b hb => (g1 b (h3 b hb)).1⟩
theorem aXN {w0 w : World} {g : Cfg} {L : List LB} {L' : aA → List LB} {k : Int} (T : Now noB w0 w) (hk : k ≠ 0) :
    CallL PP w0.heap.size w L aN [.int .i64 k] fun r w' => ∃ x : aA, ∃ n : Int, r = .tuple #[.agg (List.toArray x.cells), .int .i64 n] ∧ Reb w0.heap.size w' (L' x) ((fun v w' => Touch noB w0 w' ∧ a01 w0 g v w') (.tuple #[.agg (List.toArray x.cells), .int .i64 n])) := by
  refine CallL.pA T Anc.start (fun wa _ _ => bV k wa) ?_
  rintro wa v w1 T t _ _ _ ⟨st, rfl⟩
  exact ⟨st, k, rfl, Reb.A T Anc.start (fun w2 T t2 => ⟨T.t, st, k, rfl, fun h => absurd h hk⟩)⟩
theorem a0Y {w0 w : World} {g : Cfg} {s1 st : aA} {ts : List aJ} {xs : List aL} {L : List LB} {bs : List Nat}
    (T : Now noB w0 w) (A : StAt w s1 ts xs) (hs : StOk g ts xs) (g1 : ∀ b, s1.on b → w0.heap.size ≤ b ∧ b ∉ bs) (hL : blk L = bs) (e1 : st.Tenants = s1.Tenants) (e2 : st.Cells = s1.Cells) :
    Reb w0.heap.size w L ((fun v w' => Touch noB w0 w' ∧ a01 w0 g v w') (.tuple #[.agg (List.toArray st.cells), .int .i64 0])) := by
  refine Reb.A T Anc.start (fun w2 T t2 => ⟨T.t, st, 0, rfl, fun _ => ⟨ts, xs, ?_, hs, fun b hb => ?_⟩⟩)
  · have := A.tr t2 (fun b hb => by rw [hL]; exact (g1 b hb).2)
    exact ⟨e1 ▸ this.t, e2 ▸ this.x⟩
  · unfold aA.on at hb
    rw [e1, e2] at hb
    exact (g1 b hb).1
theorem aIA {w : World} {c : aB} {g : Cfg} {s : aA} {e : aC} {ts : List aJ} {xs : List aL} (h : eT w c g) (ok : bU c g) (hc : ∀ b, c.on b → b < w.heap.size) (st : StAt w s ts xs) (hs : StOk g ts xs) :
    Spec PP jG [.agg (List.toArray c.cells), .agg (List.toArray s.cells), .agg (List.toArray e.cells)] w noB (a01 w g) := by
  refine aK4 c s e _ w ?_
  unfold aAZ
  have T : Now noB w w := Now.refl
  have htl := hs.tl
  have hxl := hs.xl
  have hcl := ok.cl
  have htl5 := ok.tl
  intro b1 hb1 b2 hb2 b3 hb3 b4 hb4
  refine CallL.vA T Anc.start (fun wa T _ => aTN (h.now T) ok e) (fun w1 T t => ⟨_, rfl, ?_⟩)
  refine ifbnd (fun _ => aXN T (by decide)) (fun hP => ?_)
  refine ifbd (fun _ => aXN T (by decide)) (fun _ => ?_)
  refine ifbd (fun _ => aXN T (by decide)) (fun _ => ?_)
  refine CallL.pA T Anc.start (fun wa T _ => aXB (st.now T) (by omega) (by omega)) ?_
  rintro wa v w2 T t _ _ yb ⟨s1, rfl, A, f1⟩
  have g1 : ∀ b, s1.on b → w.heap.size ≤ b ∧ b ∉ [b1, b2, b3, b4] := fun b hb => by
    have e1 := f1 b hb
    refine ⟨?_, fun hm => ?_⟩
    · have := yb b1 (by simp [blk]); omega
    · have := yb b hm; omega
  refine ⟨s1, rfl, ?_⟩
  refine ifbd (fun hk => aVC (s1 := { s1 with Tick := e.Tick, Count := IntKind.i64.wrap (s1.Count + 1) }) T h hc ⟨A.t, A.x⟩ g1 (fun _ => rfl) (fun wa C hc sep A => aXT C ok hc sep A hs (hP.tn (by omega)) (hP.ce (by omega)) (hP.ot hk))) (fun _ => ?_)
  refine ifbd (fun hk => aVC (s1 := { s1 with Tick := e.Tick, Count := IntKind.i64.wrap (s1.Count + 1) }) T h hc ⟨A.t, A.x⟩ g1 (fun _ => rfl) (fun wa C hc sep A => aXD C ok hc sep A hs (hP.tn (by omega)) (hP.ce (by omega)))) (fun _ => ?_)
  refine ifbd (fun hk => aVC (s1 := { s1 with Tick := e.Tick, Count := IntKind.i64.wrap (s1.Count + 1) }) T h hc ⟨A.t, A.x⟩ g1 (fun _ => rfl) (fun wa C hc sep A => aZV C ok hc sep A hs (hP.tn (by omega)))) (fun _ => ?_)
  refine ifbd (fun hk => aVC (s1 := { s1 with Tick := e.Tick, Count := IntKind.i64.wrap (s1.Count + 1) }) T h hc ⟨A.t, A.x⟩ g1 (fun _ => rfl) (fun wa C hc sep A => aWH C ok hc sep A hs (hP.tn (by omega)) (hP.ce4 hk))) (fun _ => ?_)
  refine ifbd (fun hk => aVC (s1 := { s1 with Tick := e.Tick, Count := IntKind.i64.wrap (s1.Count + 1) }) T h hc ⟨A.t, A.x⟩ g1 (fun _ => rfl) (fun wa C hc sep A => aXQ C ok hc sep A hs (hP.tn (by omega)) (hP.ce (by omega)))) (fun _ => ?_)
  refine ifbd (fun hk => aVC (s1 := { s1 with Tick := e.Tick, Count := IntKind.i64.wrap (s1.Count + 1) }) T h hc ⟨A.t, A.x⟩ g1 (fun _ => rfl) (fun wa C hc sep A => aWM C ok hc sep A hs (hP.tn (by omega)) (hP.ce (by omega)))) (fun _ => ?_)
  refine ifbd (fun hk => aVC (s1 := { s1 with Tick := e.Tick, Count := IntKind.i64.wrap (s1.Count + 1) }) T h hc ⟨A.t, A.x⟩ g1 (fun _ => rfl) (fun wa C hc sep A => aWR C ok hc sep A hs (hP.tn (by omega)))) (fun _ => ?_)
  refine ifbd (fun hk => aVC (s1 := { s1 with Tick := e.Tick, Count := IntKind.i64.wrap (s1.Count + 1) }) T h hc ⟨A.t, A.x⟩ g1 (fun _ => rfl) (fun wa C hc sep A => aY0 C ok hc sep A hs (hP.tn (by omega)))) (fun _ => ?_)
  refine ifbd (fun hk => ?_) (fun _ => ?_)
  · have hC := hP.ce (by omega)
    have hxn := A.x.1
    refine (A.x.rd qQ).idx hC.1 (by omega) (fun p x hp hx ha => ?_)
    have hon : s1.on p.block := .inr ⟨p, hp, rfl⟩
    have hni : ∀ o, (addA (p.add (e.Cell.toNat * 4)) o).block ∉ [b1, b2, b3, b4] := fun o => by rw [aIB, add_block]; exact (g1 _ hon).2
    refine ⟨x.Mode, ha.fld 0 rfl, hni 0, ?_⟩
    refine ifbd (fun _ => aXN T (by decide)) (fun _ => ?_)
    refine idxL hp hC.1 (by omega) ?_
    obtain ⟨r1, o1⟩ := A.x.setF qQ hx (o := 0) (ds := [.int .i64 e.N]) (y := { x with Mode := e.N }) rfl (by simp) hp
    refine ⟨r1, hni 0, ?_⟩
    have hb : ∀ o, (addA (p.add (e.Cell.toNat * 4)) o).block = p.block := fun o => by rw [aIB, add_block]
    have T1 := T.putC (p := addA (p.add (e.Cell.toNat * 4)) 0) (cs := [.int .i64 e.N]) (fun hl => by rw [hb] at hl; have := (g1 _ hon).1; omega)
    have tp1 := (Touch.refl (fun b => b = p.block) w2).putC (p := addA (p.add (e.Cell.toNat * 4)) 0) (cs := [.int .i64 e.N]) (fun _ => hb 0)
    have hneq : ∀ b, s1.Tenants.on b → ¬ b = p.block := by
      rintro b hb' rfl
      obtain ⟨c1, d1, a1, k1, _⟩ := A.x.2.resolve_left (fun h => by rw [h] at hp; cases hp)
      obtain ⟨q2, hq2, e2⟩ := hb'
      obtain ⟨c2, d2, a2, k2, _⟩ := A.t.2.resolve_left (fun h => by rw [h] at hq2; cases hq2)
      obtain rfl := Option.some.inj (hp.symm.trans a1)
      obtain rfl := Option.some.inj (hq2.symm.trans a2)
      simp only at e2
      subst e2
      have := k1.symm.trans k2
      simp at this
      exact absurd this.2.symm a1L
    have t1 := A.t.tr tp1 hneq
    refine idxL hp hC.1 (by omega) ?_
    have hi : e.Cell.toNat < xs.length := (List.getElem?_eq_some_iff.1 hx).1
    obtain ⟨r2, o2⟩ := o1.setF qQ (i := e.Cell.toNat) (x := { x with Mode := e.N }) (by simp [hi]) (o := 3) (ds := [.int .i64 e.Tick]) (y := { x with Mode := e.N, Since := e.Tick }) rfl (by simp) hp
    refine ⟨r2, hni 3, ?_⟩
    have T2 := T1.putC (p := addA (p.add (e.Cell.toNat * 4)) 3) (cs := [.int .i64 e.Tick]) (fun hl => by rw [hb] at hl; have := (g1 _ hon).1; omega)
    have tp2 := (Touch.refl (fun b => b = p.block) (putC w2 (addA (p.add (e.Cell.toNat * 4)) 0) [.int .i64 e.N])).putC (p := addA (p.add (e.Cell.toNat * 4)) 3) (cs := [.int .i64 e.Tick]) (fun _ => hb 3)
    have hxo := hs.xr x (List.mem_of_getElem? hx)
    have A2 : StAt (putC (putC w2 (addA (p.add (e.Cell.toNat * 4)) 0) [.int .i64 e.N]) (addA (p.add (e.Cell.toNat * 4)) 3) [.int .i64 e.Tick]) s1 ts ((xs.set e.Cell.toNat { x with Mode := e.N }).set e.Cell.toNat { x with Mode := e.N, Since := e.Tick }) := ⟨t1.tr tp2 hneq, o2⟩
    refine a0Y T2 A2 ?_ g1 rfl rfl rfl
    rw [List.set_set]
    exact hs.setX ⟨hxo.r, hxo.w⟩
  refine ifbd (fun hk => aVC (s1 := { s1 with Tick := e.Tick, Count := IntKind.i64.wrap (s1.Count + 1) }) T h hc ⟨A.t, A.x⟩ g1 (fun _ => rfl) (fun wa C hc sep A => aXY C ok hc sep A hs (hP.ce (by omega)) (hP.nn (by omega)))) (fun _ => ?_)
  refine ifbd (fun hk => aVC (s1 := { s1 with Tick := e.Tick, Count := IntKind.i64.wrap (s1.Count + 1) }) T h hc ⟨A.t, A.x⟩ g1 (fun _ => rfl) (fun wa C hc sep A => aYY C ok hc sep A hs (hP.ce (by omega)))) (fun _ => ?_)
  refine ifbd (fun hk => aVC (s1 := { s1 with Tick := e.Tick, Count := IntKind.i64.wrap (s1.Count + 1) }) T h hc ⟨A.t, A.x⟩ g1 (fun _ => rfl) (fun wa C hc sep A => aXR C ok hc sep A hs)) (fun _ => ?_)
  refine ifbd (fun hk => ?_) (fun _ => ?_)
  · refine CallL.pA T Anc.start (fun wa T _ => dM _ _ wa) ?_
    rintro wa v w3 T t _ _ _ ⟨z, rfl⟩
    refine ⟨z, rfl, ?_⟩
    replace A := A.tr t (fun b hb => (g1 b hb).2)
    refine ifb (fun _ => aXN T (by decide)) (fun _ => ?_)
    exact ⟨aHG, a0Y T A hs g1 rfl rfl rfl⟩
  refine ifbd (fun hk => aVC (s1 := { s1 with Tick := e.Tick, Count := IntKind.i64.wrap (s1.Count + 1) }) T h hc ⟨A.t, A.x⟩ g1 (fun _ => rfl) (fun wa C hc sep A => aW1 C ok hc sep A hs)) (fun _ => ?_)
  refine ifbd (fun hk => ?_) (fun _ => ?_)
  · refine ifbd (fun _ => aXN T (by decide)) (fun _ => ?_)
    exact a0Y T A hs g1 rfl rfl rfl
  exact a0Y T A hs g1 rfl rfl rfl
end Go.Sh
