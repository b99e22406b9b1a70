/- A part of the proof (printed smaller by a program of ours). Conditions: none. -/
import Derived.Test.YtoenaheehpjmiaaDoorKEM17
namespace Go.Sh
open Go
set_option linter.unusedSimpArgs false
set_option linter.unusedVariables false
theorem aUZ {w : World} {c : aB} {g : Cfg} {s : aA} {ts : List aJ} {xs : List aL} {bt i : Nat} {sl : Sl} {ns : List Int} (B : TQ w w c g s ts xs bt sl ns i) (ok : bU c g) (hs : StOk g ts xs) (hi : i ≤ 500000) :
    Spec PP qR [.pointer (some ⟨bt, 0, none⟩), .agg (List.toArray c.cells), .agg (List.toArray s.cells)] w (fun b => b = bt) (ResE bt sl ns (i + (if ns.length = 0 then 0 else 1)) 160) := by
  refine aOG (some ⟨bt, 0, none⟩) c s _ w ?_
  unfold aB3
  intro b0 hb0 b1 hb1 b2 hb2
  have hL : ∀ {c0 c1 c2 : List Value} {t0 t1 t2 : TypeId}, newL w [⟨b0, c0, t0⟩, ⟨b1, c1, t1⟩, ⟨b2, c2, t2⟩] := by
    intro c0 c1 c2 t0 t1 t2 b hb; simp [blk] at hb; omega
  refine B.reb hL (fun w1 B => ?_)
  unfold iY
  have hlt := B.tp.lt
  refine CallL.A (fun b => b = bt) B.A.T Anc.start (fun b hb => ⟨by omega, fun hm => by have := hL b hm; have := B.lb; omega⟩) (fun _ _ h => h) (fun wa T t => xX (B.step hL T t).tp (by omega) (by omega) (by omega)) ?_
  rintro wa v w2 T t _ _ _ ⟨m, j, rfl, g0, g1, tp, hj, hp⟩
  replace B := B.stepT hL T t tp
  refine ⟨m, rfl, ?_⟩
  refine B.reb hL (fun w3 B => ?_)
  by_cases hz : ns.length = 0
  · rw [if_pos hz]
    exact me_2 B ok hs (by omega) (by omega) (by omega) (by omega) (by omega)
  · rw [if_neg hz]
    have := hp hz
    exact me_2 B ok hs (by omega) (by omega) (by omega) (by omega) (by omega)
end Go.Sh
