/- A part of the proof (printed smaller by a program of ours). Conditions: none. -/
import Derived.Test.YtoenaheehpjmiaaDoorKEM12
namespace Go.Sh
open Go
set_option linter.unusedSimpArgs false
set_option linter.unusedVariables false
set_option maxHeartbeats 4000000
structure TQ (w0 w : World) (c : aB) (g : Cfg) (s : aA) (ts : List aJ) (xs : List aL) (bt : Nat) (sl : Sl) (ns : List Int) (i : Nat) : Prop where
  A : AP (fun b => b = bt) w0 w c g s ts xs
  tp : qG w bt sl ns i
  lb : bt < w0.heap.size
  ls : ∀ b, sl.on b → b < w0.heap.size
  lc : ∀ b, c.on b → b < w0.heap.size
  cb : ∀ b, c.on b → b ≠ bt
  sb : ∀ b, s.on b → b ≠ bt
section
variable {w0 w w' : World} {c : aB} {g : Cfg} {s : aA} {ts : List aJ} {xs : List aL} {bt : Nat} {sl : Sl} {ns : List Int} {i : Nat} {L : List LB}
theorem TQ.step (B : TQ w0 w c g s ts xs bt sl ns i) (hL : newL w0 L) (T : Now (fun b => b = bt) w0 w') (t : Touch (fun b => b ∈ blk L) w w') : TQ w0 w' c g s ts xs bt sl ns i :=
  ⟨B.A.step hL B.lc T t, B.tp.tr t (fun b hb hm => by
    have := hL b hm
    rcases hb with rfl | hb
    · have := B.lb; omega
    · have := B.ls b hb; omega), B.lb, B.ls, B.lc, B.cb, B.sb⟩
theorem TQ.stepT {j : Nat} (B : TQ w0 w c g s ts xs bt sl ns i) (hL : newL w0 L) (T : Now (fun b => b = bt) w0 w') (t : Touch (fun b => b ∈ blk L ∨ b = bt) w w') (tp : qG w' bt sl ns j) : TQ w0 w' c g s ts xs bt sl ns j :=
  ⟨⟨T, B.A.cf.tr t (fun b hb hm => by
      rcases hm with hm | hm
      · have := hL b hm; have := B.lc b hb; omega
      · exact B.cb b hb hm), B.A.st.tr t (fun b hb hm => by
      rcases hm with hm | hm
      · have := hL b hm; have := B.A.lt b hb; omega
      · exact B.sb b hb hm), B.A.lt, B.A.sep⟩, tp, B.lb, B.ls, B.lc, B.cb, B.sb⟩
theorem TQ.reb {K : World → Prop} (B : TQ w0 w c g s ts xs bt sl ns i) (hL : newL w0 L) (k : ∀ w', TQ w0 w' c g s ts xs bt sl ns i → K w') : Reb w0.heap.size w L K :=
  Reb.A B.A.T Anc.start (fun w' T t => k w' (B.step hL T t))
theorem TQ.call {f : FuncId} {args : List Value} {R : Value → World → Prop} {R' : World → Value → World → Prop} (B : TQ w0 w c g s ts xs bt sl ns i) (hL : newL w0 L)
    (hs : ∀ wa, TQ w0 wa c g s ts xs bt sl ns i → Spec PP f args wa noB (R' wa)) (k : ∀ wa v w', TQ w0 w' c g s ts xs bt sl ns i → w.heap.size ≤ wa.heap.size → R' wa v w' → R v w') : CallL PP w0.heap.size w L f args R :=
  CallL.pA B.A.T Anc.start (fun wa T t => hs wa (B.step hL T t)) (fun wa v w' T t z1 z2 _ hr => k wa v w' (B.step hL T t) z1 hr)
theorem TQ.tape {f : FuncId} {args : List Value} {R : Value → World → Prop} {P : Value → Prop} {m : Nat} (B : TQ w0 w c g s ts xs bt sl ns i) (hL : newL w0 L)
    (hs : ∀ wa, TQ w0 wa c g s ts xs bt sl ns i → Spec PP f args wa (fun b => b = bt) (fun v w' => ∃ j : Nat, P v ∧ qG w' bt sl ns j ∧ (i ≤ j ∧ j ≤ i + m)))
    (k : ∀ v j w', TQ w0 w' c g s ts xs bt sl ns j → (i ≤ j ∧ j ≤ i + m) → P v → R v w') : CallL PP w0.heap.size w L f args R := by
  have hlt := B.tp.lt
  refine CallL.A (fun b => b = bt) B.A.T Anc.start (fun b hb => ⟨by omega, fun hm => by have := hL b hm; have := B.lb; omega⟩) (fun _ _ h => h) (fun wa T t => hs wa (B.step hL T t)) ?_
  rintro wa v w1 T t _ _ _ ⟨j, hp, tp, hj⟩
  exact k v j w1 (B.stepT hL T t tp) hj hp
theorem TQ.next {n : Int} {R : Value → World → Prop} (B : TQ w0 w c g s ts xs bt sl ns i) (hL : newL w0 L) (hi : i < 1000000) (h1 : 1 ≤ n) (h2 : n ≤ 1000000000)
    (k : ∀ m j w', 0 ≤ m → m < n → TQ w0 w' c g s ts xs bt sl ns j → (i ≤ j ∧ j ≤ i + 1) → R (.int .i64 m) w') : CallL PP w0.heap.size w L aM [.pointer (some ⟨bt, 0, none⟩), .int .i64 n] R :=
  B.tape (m := 1) (P := fun v => ∃ m : Int, v = .int .i64 m ∧ 0 ≤ m ∧ m < n) hL (fun wa B => Calls.mono (xX B.tp hi h1 h2) fun e w' ⟨v, he, ht, m, j, hv, g0, g1, tp, gj, _⟩ => ⟨v, he, ht, j, ⟨m, hv, g0, g1⟩, tp, gj⟩)
    (fun v j w' B hj ⟨m, hv, g0, g1⟩ => hv ▸ k m j w' g0 g1 B hj)
theorem TQ.range {lo hi' : Int} {R : Value → World → Prop} (B : TQ w0 w c g s ts xs bt sl ns i) (hL : newL w0 L) (hi : i < 1000000) (h0 : lo ≤ hi') (h1 : -100000000 ≤ lo) (h2 : hi' ≤ 100000000)
    (k : ∀ m j w', lo ≤ m → m ≤ hi' → TQ w0 w' c g s ts xs bt sl ns j → (i ≤ j ∧ j ≤ i + 1) → R (.int .i64 m) w') : CallL PP w0.heap.size w L aV [.pointer (some ⟨bt, 0, none⟩), .int .i64 lo, .int .i64 hi'] R :=
  B.tape (m := 1) (P := fun v => ∃ m : Int, v = .int .i64 m ∧ lo ≤ m ∧ m ≤ hi') hL (fun wa B => Calls.mono (aU5 B.tp hi h0 h1 h2) fun e w' ⟨v, he, ht, m, j, hv, g0, g1, tp, gj⟩ => ⟨v, he, ht, j, ⟨m, hv, g0, g1⟩, tp, gj⟩)
    (fun v j w' B hj ⟨m, hv, g0, g1⟩ => hv ▸ k m j w' g0 g1 B hj)
theorem TQ.yes {n : Int} {R : Value → World → Prop} (B : TQ w0 w c g s ts xs bt sl ns i) (hL : newL w0 L) (hi : i < 1000000) (h1 : 1 ≤ n) (h2 : n ≤ 1000000000)
    (k : ∀ m j w', TQ w0 w' c g s ts xs bt sl ns j → (i ≤ j ∧ j ≤ i + 1) → R (.bool m) w') : CallL PP w0.heap.size w L aS [.pointer (some ⟨bt, 0, none⟩), .int .i64 n] R :=
  B.tape (m := 1) (P := fun v => ∃ m : Bool, v = .bool m) hL (fun wa B => Calls.mono (aWC B.tp hi h1 h2) fun e w' ⟨v, he, ht, m, j, hv, tp, gj⟩ => ⟨v, he, ht, j, ⟨m, hv⟩, tp, gj⟩)
    (fun v j w' B hj ⟨m, hv⟩ => hv ▸ k m j w' B hj)
end
def ResE (bt : Nat) (sl : Sl) (ns : List Int) (i m : Nat) (v : Value) (w' : World) : Prop := ∃ (e : aC) (j : Nat), v = .agg (List.toArray e.cells) ∧ qG w' bt sl ns j ∧ (i ≤ j ∧ j ≤ i + m)
end Go.Sh
