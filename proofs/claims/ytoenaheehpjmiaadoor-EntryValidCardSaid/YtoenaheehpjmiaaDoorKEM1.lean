/- A part of the proof (printed smaller by a program of ours). Conditions: none. -/
import Derived.Test.YtoenaheehpjmiaaDoorKEW
import Derived.Test.YtoenaheehpjmiaaDoorKP0
import Derived.Test.YtoenaheehpjmiaaDoorKP1
import Derived.Test.YtoenaheehpjmiaaDoorKP2
import Derived.Test.YtoenaheehpjmiaaDoorKP3
import Derived.Test.YtoenaheehpjmiaaDoorKP4
import Derived.Test.YtoenaheehpjmiaaDoorKP5
import Derived.Test.YtoenaheehpjmiaaDoorKP6
import Derived.Test.YtoenaheehpjmiaaDoorKP7
namespace Go.Sh
open Go
set_option linter.unusedSimpArgs false
set_option linter.unusedVariables false
abbrev intC : Int → List Value := fun n => [.int .i64 n]
theorem aHJ (n : Int) : (intC n).length = 1 := rfl
theorem aV0 (x : Int) : ∀ u ∈ intC x, u.oneCell' = true := by
  intro u hu; simp [intC] at hu; subst hu; rfl
structure qG (w : World) (b : Nat) (s : Sl) (xs : List Int) (i : Nat) : Prop where
  at_ : Blk w b (⟨s, i⟩ : aU).cells aIR
  rd : Rd intC 1 w s xs
  apart : ¬ s.on b
  le : i ≤ 1000000
  small : xs.length ≤ 200
theorem qG.tr {w w' : World} {b : Nat} {s : Sl} {xs : List Int} {i : Nat} {S : Nat → Prop} (h : qG w b s xs i) (t : Touch S w w') (hd : ∀ c, (c = b ∨ s.on c) → ¬ S c) : qG w' b s xs i :=
  ⟨h.at_.tr t (fun c hc => hd c (.inl hc)), h.rd.tr t (fun c hc => hd c (.inr hc)), h.apart, h.le, h.small⟩
theorem qG.lt {w : World} {b : Nat} {s : Sl} {xs : List Int} {i : Nat} (h : qG w b s xs i) : b < w.heap.size := h.at_.lt
theorem aPH {w : World} {s : Sl} {xs : List Int} (hr : Rd intC 1 w s xs) (hlt : ∀ b, s.on b → b < w.heap.size) (hs : xs.length ≤ 200) : Spec PP oG [.slice s.a s.n s.c] w noB
    (fun v w' => ∃ b, v = .pointer (some ⟨b, 0, none⟩) ∧ qG w' b s xs 0 ∧ w.heap.size ≤ b) := by
  refine aTF s _ w ?_
  unfold aE4
  have T : Now noB w w := Now.refl
  refine NewL.A T Anc.nil (fun b w1 T t h1 l1 => ?_)
  refine Reb.A T Anc.nil (fun w2 T t2 => ⟨T.t, b, rfl, ⟨h1.tr t2 (by simp [blk]), hr.tr T.t (by simp [noB]), fun hb => ?_, by omega, hs⟩, l1.1⟩)
  have := hlt b hb
  omega
theorem xX {w : World} {b : Nat} {s : Sl} {xs : List Int} {i : Nat} (h : qG w b s xs i) (hi : i < 1000000) {n : Int} (h1 : 1 ≤ n) (h2 : n ≤ 1000000000) : Spec PP aM [.pointer (some ⟨b, 0, none⟩), .int .i64 n] w (fun c => c = b)
    (fun v w' => ∃ (m : Int) (j : Nat), v = .int .i64 m ∧ 0 ≤ m ∧ m < n ∧ qG w' b s xs j ∧ (i ≤ j ∧ j ≤ i + 1) ∧ (xs.length ≠ 0 → j = i + 1)) := by
  refine aI1 (some ⟨b, 0, none⟩) n _ w ?_
  unfold sV
  have T : Now (fun c => c = b) w w := Now.refl
  have hn := h.rd.1
  refine nilL ⟨s, h.at_.at 0 rfl, notIn_nil, ?_⟩
  refine ifbd (fun h0 => ?_) (fun h0 => ?_)
  · exact Reb.A T Anc.nil (fun w1 T t => ⟨T.t, 0, i, rfl, by omega, by omega, h.tr t (by simp [blk]), by omega, fun hx => by omega⟩)
  refine nilL ⟨s, h.at_.at 0 rfl, notIn_nil, ?_⟩
  refine nilL ⟨i, h.at_.at 1 rfl, notIn_nil, ?_⟩
  refine nilL ⟨s, h.at_.at 0 rfl, notIn_nil, ?_⟩
  refine ⟨by omega, ?_⟩
  obtain ⟨p, hp⟩ : ∃ p, s.a = some p := by
    cases hs : s.a with
    | none => exact absurd (h.rd.2.1 hs) (by omega)
    | some p => exact ⟨p, rfl⟩
  have hm : Int.tmod (i : Int) ((s.n : Nat) : Int) = ((i % s.n : Nat) : Int) := by
    rw [Int.tmod_eq_emod_of_nonneg (by omega)]; rfl
  have hml : i % s.n < s.n := Nat.mod_lt _ (by omega)
  rw [hm]
  refine idxL hp (by omega) (by omega) ?_
  refine ⟨xs[i % s.n]'(by omega), ?_, notIn_nil, ?_⟩
  · rw [Int.toNat_natCast]
    exact h.rd.2.2 p hp _ _ (List.getElem?_eq_getElem (by omega))
  refine nilL ⟨i, h.at_.at 1 rfl, notIn_nil, ?_⟩
  refine nilL ⟨s, h.at_.at 0 rfl, notIn_nil, ?_⟩
  refine ⟨by omega, ?_⟩
  refine nilL ⟨i, h.at_.at 1 rfl, notIn_nil, nilL ⟨h.at_.room (by simp [aU.cells, addA]), notIn_nil, ?_⟩⟩
  rw [wrap_i64 (x := (i : Int) + 1) (by omega) (by omega)]
  have T := T.putC (p := addA ⟨b, 0, none⟩ 1) (cs := [.int .i64 ((i : Int) + 1)]) (fun _ => rfl)
  have tp := (Touch.refl (fun c => c = b) w).putC (p := addA ⟨b, 0, none⟩ 1) (cs := [.int .i64 ((i : Int) + 1)]) (fun _ => rfl)
  have h' : qG (putC w (addA ⟨b, 0, none⟩ 1) [.int .i64 ((i : Int) + 1)]) b s xs (i + 1) :=
    ⟨h.at_.putC 1 [.int .i64 ((i : Int) + 1)], h.rd.tr tp (fun c hc e => h.apart (e ▸ hc)), h.apart, by omega, h.small⟩
  refine CallL.vA T Anc.nil (fun wa _ _ => aIE (by omega) (by omega) wa) (fun w1 T t => ⟨_, rfl, ?_⟩)
  replace h' := h'.tr t (by simp [blk])
  refine CallL.vA T Anc.nil (fun wa _ _ => aIE (by omega) (by omega) wa) (fun w2 T t => ⟨_, rfl, ?_⟩)
  replace h' := h'.tr t (by simp [blk])
  have hr := aWI (v := IntKind.i64.wrap (modM (xs[i % s.n]'(by omega)) 1073741824 + IntKind.i64.wrap (IntKind.i64.wrap (Int.tdiv (i : Int) ((s.n : Nat) : Int)) * 7))) (n := n) (by omega)
  exact Reb.A T Anc.nil (fun w3 T t => ⟨T.t, _, i + 1, rfl, hr.1, hr.2, h'.tr t (by simp [blk]), by omega, fun _ => rfl⟩)
theorem aU5 {w : World} {b : Nat} {s : Sl} {xs : List Int} {i : Nat} (h : qG w b s xs i) (hi : i < 1000000) {lo hi' : Int} (h0 : lo ≤ hi') (h1 : -100000000 ≤ lo) (h2 : hi' ≤ 100000000) : Spec PP aV [.pointer (some ⟨b, 0, none⟩), .int .i64 lo, .int .i64 hi'] w (fun c => c = b)
    (fun v w' => ∃ (m : Int) (j : Nat), v = .int .i64 m ∧ lo ≤ m ∧ m ≤ hi' ∧ qG w' b s xs j ∧ (i ≤ j ∧ j ≤ i + 1)) := by
  refine aH7 (some ⟨b, 0, none⟩) lo hi' _ w ?_
  unfold pG
  have T : Now (fun c => c = b) w w := Now.refl
  have z := h.lt
  rw [wrap_i64 (x := hi' - lo) (by omega) (by omega), wrap_i64 (x := hi' - lo + 1) (by omega) (by omega)]
  refine CallL.A (fun c => c = b) T Anc.nil (fun c hc => ⟨by omega, by simp [blk]⟩) (fun _ _ h => h) (fun wa _ t => xX (h.tr t (by simp [blk])) hi (by omega) (by omega)) ?_
  rintro wa v w1 T t _ _ _ ⟨m, j, rfl, g0, g1, h', gj, _⟩
  refine ⟨m, rfl, ?_⟩
  rw [wrap_i64 (x := lo + m) (by omega) (by omega)]
  exact Reb.A T Anc.nil (fun w2 T t => ⟨T.t, _, j, rfl, by omega, by omega, h'.tr t (by simp [blk]), gj⟩)
theorem aWC {w : World} {b : Nat} {s : Sl} {xs : List Int} {i : Nat} (h : qG w b s xs i) (hi : i < 1000000) {n : Int} (h1 : 1 ≤ n) (h2 : n ≤ 1000000000) : Spec PP aS [.pointer (some ⟨b, 0, none⟩), .int .i64 n] w (fun c => c = b)
    (fun v w' => ∃ (m : Bool) (j : Nat), v = .bool m ∧ qG w' b s xs j ∧ (i ≤ j ∧ j ≤ i + 1)) := by
  refine aJK (some ⟨b, 0, none⟩) n _ w ?_
  unfold uX
  have T : Now (fun c => c = b) w w := Now.refl
  have z := h.lt
  refine CallL.A (fun c => c = b) T Anc.nil (fun c hc => ⟨by omega, by simp [blk]⟩) (fun _ _ h => h) (fun wa _ t => xX (h.tr t (by simp [blk])) hi h1 h2) ?_
  rintro wa v w1 T t _ _ _ ⟨m, j, rfl, g0, g1, h', gj, _⟩
  refine ⟨m, rfl, ?_⟩
  exact Reb.A T Anc.nil (fun w2 T t => ⟨T.t, _, j, rfl, h'.tr t (by simp [blk]), gj⟩)
theorem aZT {w : World} {b : Nat} {s : Sl} {xs : List Int} {i : Nat} (h : qG w b s xs i) : Spec PP qW [.pointer (some ⟨b, 0, none⟩)] w noB
    (fun v _ => v = .bool (decide (i < xs.length))) := by
  refine aIS (some ⟨b, 0, none⟩) _ w ?_
  unfold sJ
  have T : Now noB w w := Now.refl
  have hn := h.rd.1
  refine nilL ⟨i, h.at_.at 1 rfl, notIn_nil, nilL ⟨s, h.at_.at 0 rfl, notIn_nil, ?_⟩⟩
  refine Reb.A T Anc.nil (fun w1 T t => ⟨T.t, ?_⟩)
  rw [hn]; congr 1
  rw [Bool.eq_iff_iff]; simp
theorem aI6 (s : Sl) (w : World) : Spec PP lF [.slice s.a s.n s.c] w noB (fun v _ => v = .bool (decide (s.n ≤ 200))) := by
  refine aOW s _ w ?_
  unfold aB2
  have T : Now noB w w := Now.refl
  refine Reb.A T Anc.nil (fun w1 T t => ⟨T.t, ?_⟩)
  congr 1
  rw [Bool.eq_iff_iff]; simp; omega
theorem aZI {w : World} {b : Nat} {s : Sl} {xs : List Int} {i : Nat} (h : qG w b s xs i) (hi : i < 1000000) {l : Sl} {ys : List Int} (hl : Rd intC 1 w l ys) (hla : ¬ l.on b) (hs : ys.length ≤ 100000000) : Spec PP gG [.pointer (some ⟨b, 0, none⟩), .slice l.a l.n l.c] w (fun c => c = b)
    (fun v w' => ∃ (m : Int) (j : Nat), v = .int .i64 m ∧ (m = -1 ∨ m ∈ ys) ∧ qG w' b s xs j ∧ (i ≤ j ∧ j ≤ i + 1)) := by
  refine aQU (some ⟨b, 0, none⟩) l _ w ?_
  unfold aCV
  have T : Now (fun c => c = b) w w := Now.refl
  have z := h.lt
  have hn := hl.1
  refine ifbd (fun h0 => ?_) (fun h0 => ?_)
  · exact Reb.A T Anc.nil (fun w1 T t => ⟨T.t, -1, i, rfl, .inl rfl, h.tr t (by simp [blk]), by omega⟩)
  refine CallL.A (fun c => c = b) T Anc.nil (fun c hc => ⟨by omega, by simp [blk]⟩) (fun _ _ h => h) (fun wa _ t => xX (h.tr t (by simp [blk])) hi (by omega) (by omega)) ?_
  rintro wa v w1 T t _ _ _ ⟨m, j, rfl, g0, g1, h', gj, _⟩
  refine ⟨m, rfl, ?_⟩
  replace hl := hl.tr t (by intro c hc e; simp [blk] at e; exact hla (e ▸ hc))
  obtain ⟨p, hp⟩ : ∃ p, l.a = some p := by
    cases hs : l.a with
    | none => exact absurd (hl.2.1 hs) (by omega)
    | some p => exact ⟨p, rfl⟩
  refine idxL hp g0 g1 ?_
  refine ⟨ys[m.toNat]'(by omega), hl.2.2 p hp _ _ (List.getElem?_eq_getElem (by omega)), notIn_nil, ?_⟩
  exact Reb.A T Anc.nil (fun w2 T t => ⟨T.t, _, j, rfl, .inr (List.getElem_mem _), h'.tr t (by simp [blk]), gj⟩)
theorem cO (k t : Int) (w : World) : Spec PP mH [.int .i64 k, .int .i64 t] w noB (fun v _ => v = .agg (List.toArray (⟨k, t, -1, -1, -1, 0, 0, 0, 0⟩ : aC).cells)) := by
  refine aQO k t _ w ?_
  unfold aCL
  have T : Now noB w w := Now.refl
  intro b hb
  exact Reb.A T Anc.start (fun w1 T t => ⟨T.t, rfl⟩)
end Go.Sh
