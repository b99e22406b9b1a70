/- A part of the proof (printed smaller by a program of ours). Conditions: none. -/
import Derived.Test.YtoenaheehpjmiaaDoorKEM15
namespace Go.Sh
open Go
set_option linter.unusedSimpArgs false
set_option linter.unusedVariables false
set_option maxHeartbeats 8000000
section
variable {w0 w w' : World} {c : aB} {g : Cfg} {s : aA} {ts : List aJ} {xs : List aL} {bt : Nat} {sl : Sl} {ns : List Int} {i : Nat} {L : List LB}
theorem TQ.again (B : TQ w0 w c g s ts xs bt sl ns i) : TQ w w c g s ts xs bt sl ns i :=
  have z := B.A.T.t.size
  ⟨⟨Now.refl, B.A.cf, B.A.st, fun b hb => Nat.lt_of_lt_of_le (B.A.lt b hb) z, B.A.sep⟩, B.tp, Nat.lt_of_lt_of_le B.lb z, fun b hb => Nat.lt_of_lt_of_le (B.ls b hb) z, fun b hb => Nat.lt_of_lt_of_le (B.lc b hb) z, B.cb, B.sb⟩
theorem TQ.list {f : FuncId} {args : List Value} {R : Value → World → Prop} {m : Nat} (B : TQ w0 w c g s ts xs bt sl ns i) (hL : newL w0 L)
    (hs : ∀ wa, TQ w0 wa c g s ts xs bt sl ns i → Spec PP f args wa noB (aUC wa m))
    (k : ∀ (l : Sl) ys w', TQ w0 w' c g s ts xs bt sl ns i → Own intC 1 eP w' l ys → (∀ b, l.on b → w0.heap.size ≤ b ∧ b ∉ blk L) → ys.length ≤ m → R (.slice l.a l.n l.c) w') : CallL PP w0.heap.size w L f args R := by
  refine CallL.pA B.A.T Anc.start (fun wa T t => hs wa (B.step hL T t)) ?_
  rintro wa v w' T t z1 z2 y ⟨l, ys, rfl, o, hf, hl⟩
  have z0 := B.A.T.t.size
  exact k l ys w' (B.step hL T t) o (fun b hb => ⟨by have := hf b hb; omega, fun hm => by have := hf b hb; have := y b hm; omega⟩) hl
theorem TQ.pick {l : Sl} {ys : List Int} {R : Value → World → Prop} (B : TQ w0 w c g s ts xs bt sl ns i) (hL : newL w0 L) (hi : i < 1000000) (o : Own intC 1 eP w l ys) (ho : ∀ b, l.on b → w0.heap.size ≤ b ∧ b ∉ blk L) (hl : ys.length ≤ 100)
    (k : ∀ m j w', TQ w0 w' c g s ts xs bt sl ns j → (i ≤ j ∧ j ≤ i + 1) → R (.int .i64 m) w') : CallL PP w0.heap.size w L gG [.pointer (some ⟨bt, 0, none⟩), .slice l.a l.n l.c] R := by
  have hlt := B.tp.lt
  refine CallL.A (fun b => b = bt) B.A.T Anc.start (fun b hb => ⟨by omega, fun hm => by have := hL b hm; have := B.lb; omega⟩) (fun _ _ h => h)
    (fun wa T t => aZI (B.step hL T t).tp hi ((o.tr t (fun b hb => (ho b hb).2)).rd aHJ) (fun hb => by have := (ho _ hb).1; have := B.lb; omega) (by omega)) ?_
  rintro wa v w1 T t _ _ _ ⟨m, j, rfl, _, tp, hj⟩
  exact k m j w1 (B.stepT hL T t tp) hj
end
end Go.Sh
