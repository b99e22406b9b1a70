/- A part of the proof (printed smaller by a program of ours). Conditions: none. -/
import Derived.Test.YtoenaheehpjmiaaDoorKEM10
namespace Go.Sh
open Go
set_option linter.unusedSimpArgs false
set_option linter.unusedVariables false
set_option maxHeartbeats 8000000
section
variable {w : World} {c : aB} {g : Cfg} {s : aA} {e : aC} {ts : List aJ} {xs : List aL}
theorem aW1 (h : eT w c g) (ok : bU c g) (hc : ∀ b, c.on b → b < w.heap.size) (sep : ∀ b, c.on b → ¬ s.on b) (st : StAt w s ts xs) (hs : StOk g ts xs)  : Spec PP yM [.agg (List.toArray c.cells), .agg (List.toArray s.cells)] w (fun b => s.on b) (ResS g s) := by
  refine aJ2 c s _ w ?_
  unfold wV
  have htl := hs.tl
  have hxl := hs.xl
  have A : AP (fun b => s.on b) w w c g s ts xs := ⟨Now.refl, h, st, fun b hb => st.lt hb, sep⟩
  intro b0 hb0 b1 hb1 b2 hb2
  have hcl := ok.cl
  have htl5 := ok.tl
  have hsn := st.t.1
  have hxn := st.x.1
  repeat' first
    | refine A.reb (by intro b hb; simp [blk] at hb <;> omega) hc (fun w' A => ?_)
    | (intro bb hbb; have zz := A.T.t.size)
    | exact ⟨rfl, ⟨_, bN (by omega), by omega, A⟩, by simp only [bN (show k ≤ 1000000 by omega)]; omega⟩
    | refine ⟨x, A.rdT (o := 0) hq hx rfl, A.niT (o := 0) hq (by intro b hb; simp [blk] at hb <;> omega), ?_⟩
    | refine ⟨x2, A.rdX (o := 0) hq2 hx2 rfl, A.niX (o := 0) hq2 (by intro b hb; simp [blk] at hb <;> omega), ?_⟩
    | refine ⟨x.Window, A.rdT hq hx rfl, A.niT hq (by intro b hb; simp [blk] at hb <;> omega), ?_⟩
    | (refine A.vn hxo2.r.1 (by have := hxo2.r.2; omega) (fun q3 x3 hq3 hx3 => ?_))
    | (refine A.vn hxo2.w.1 (by have := hxo2.w.2; omega) (fun q3 x3 hq3 hx3 => ?_))
    | (refine A.vn (by omega) (by omega) (fun q3 x3 hq3 hx3 => ?_))
    | refine ⟨x3, A.rdV (o := 0) hq3 hx3 rfl, A.niV (o := 0) hc hq3 (by intro b hb; simp [blk] at hb <;> omega), ?_⟩
    | refine ⟨_, A.rdV hq3 hx3 rfl, A.niV hc hq3 (by intro b hb; simp [blk] at hb <;> omega), ?_⟩
    | refine ⟨aHG, ?_⟩
    | (refine A.call (by intro b hb; simp [blk] at hb <;> omega) hc (fun wa A => iP (A.st.x.rd qQ) (by omega) (by omega)) ?_; rintro wa v w' A ⟨z, rfl⟩; refine ⟨z, rfl, ?_⟩)
    | unfold kT
    | unfold kP
    | unfold j6
    | unfold kS
    | unfold j5
    | unfold kM
    | unfold kH
    | unfold gQ
    | exact ⟨A.T.t, _, _, rfl, fun h => absurd h (by decide)⟩
    | exact ⟨A.T.t, _, _, rfl, fun h => absurd h (by assumption)⟩
    | with_reducible refine ifT ?_
    | with_reducible refine ifF ?_
    | (with_reducible refine ifbd (fun h => ?_) (fun h => ?_))
    | (with_reducible refine ifbnd (fun h => ?_) (fun h => ?_))
    | (with_reducible refine ifbn (fun h => ?_) (fun h => ?_))
    | (refine ifb (fun h => ?_) (fun h => ?_))
    | (refine A.call (by intro b hb; simp [blk] at hb <;> omega) hc (fun wa A => bV _ wa) ?_; rintro wa v w' A ⟨st, rfl⟩; refine ⟨st, _, rfl, ?_⟩)
    | (refine A.call (by intro b hb; simp [blk] at hb <;> omega) hc (fun wa A => bL A.cf ok _ _) ?_; rintro wa v w' A ⟨z, rfl⟩; refine ⟨z, rfl, ?_⟩)
    | (refine A.call (by intro b hb; simp [blk] at hb <;> omega) hc (fun wa A => bP A.cf ok _ _) ?_; rintro wa v w' A ⟨z, rfl⟩; refine ⟨z, rfl, ?_⟩)
    | (refine A.call (by intro b hb; simp [blk] at hb <;> omega) hc (fun wa A => bC A.cf ok _ _) ?_; rintro wa v w' A ⟨z, rfl⟩; refine ⟨z, rfl, ?_⟩)
    | (refine A.call (by intro b hb; simp [blk] at hb <;> omega) hc (fun wa A => bE _ _ wa) ?_; rintro wa v w' A ⟨z, rfl⟩; refine ⟨z, rfl, ?_⟩)
    | (refine A.call (by intro b hb; simp [blk] at hb <;> omega) hc (fun wa A => bT _ _ wa) ?_; rintro wa v w' A ⟨z, rfl⟩; refine ⟨z, rfl, ?_⟩)
    | (refine A.call (by intro b hb; simp [blk] at hb <;> omega) hc (fun wa A => bX A.cf ok (A.st.t.rd kI) (by simp only [List.length_set]; exact hs.tl)) ?_; rintro wa v w' A ⟨st, er, rfl, her⟩; refine ⟨st, er, rfl, ?_⟩)
    | (refine A.tn (by omega) (by omega) (fun q x hq hx => ?_); have hxo := hs.tr x (List.mem_of_getElem? hx))
    | (refine A.ce (hxo.q (by assumption)) (by have := hxo.h.2; omega) (fun q2 x2 hq2 hx2 => ?_); have hxo2 := hs.xr x2 (List.mem_of_getElem? hx2))
    | (refine A.ce (by omega) (by omega) (fun q2 x2 hq2 hx2 => ?_); have hxo2 := hs.xr x2 (List.mem_of_getElem? hx2))
    | refine ⟨_, A.rdT hq hx rfl, A.niT hq (by intro b hb; simp [blk] at hb <;> omega), ?_⟩
    | refine ⟨_, A.rdT (o := 0) hq hx rfl, A.niT (o := 0) hq (by intro b hb; simp [blk] at hb <;> omega), ?_⟩
    | refine ⟨_, A.rdX hq2 hx2 rfl, A.niX hq2 (by intro b hb; simp [blk] at hb <;> omega), ?_⟩
    | refine ⟨_, A.rdX (o := 0) hq2 hx2 rfl, A.niX (o := 0) hq2 (by intro b hb; simp [blk] at hb <;> omega), ?_⟩
    | refine ⟨_, A.rdT2 hq hx rfl, A.niT2 hq (by intro b hb; simp [blk] at hb <;> omega), ?_⟩
    | refine A.t0 (fun _ h => h) hq (by intro b hb; simp [blk] at hb <;> omega) hx (fun w' A hx => ?_)
    | refine A.t1 (fun _ h => h) hq (by intro b hb; simp [blk] at hb <;> omega) hx (fun w' A hx => ?_)
    | refine A.t2 (fun _ h => h) hq (by intro b hb; simp [blk] at hb <;> omega) hx (fun w' A hx => ?_)
    | refine A.t3 (fun _ h => h) hq (by intro b hb; simp [blk] at hb <;> omega) hx (fun w' A hx => ?_)
    | refine A.t4 (fun _ h => h) hq (by intro b hb; simp [blk] at hb <;> omega) hx (fun w' A hx => ?_)
    | refine A.t5 (fun _ h => h) hq (by intro b hb; simp [blk] at hb <;> omega) hx (fun w' A hx => ?_)
    | refine A.t6 (fun _ h => h) hq (by intro b hb; simp [blk] at hb <;> omega) hx (fun w' A hx => ?_)
    | refine A.t7 (fun _ h => h) hq (by intro b hb; simp [blk] at hb <;> omega) hx (fun w' A hx => ?_)
    | refine A.x0 (fun _ h => h) hq2 (by intro b hb; simp [blk] at hb <;> omega) hx2 (fun w' A hx2 => ?_)
    | refine A.x1 (fun _ h => h) hq2 (by intro b hb; simp [blk] at hb <;> omega) hx2 (fun w' A hx2 => ?_)
    | refine A.x2 (fun _ h => h) hq2 (by intro b hb; simp [blk] at hb <;> omega) hx2 (fun w' A hx2 => ?_)
    | refine A.x3 (fun _ h => h) hq2 (by intro b hb; simp [blk] at hb <;> omega) hx2 (fun w' A hx2 => ?_)
  all_goals try (first | exact fin0 A rfl rfl hs)
  all_goals
    refine LoopC.mk (fun x w' => ∃ k : Nat, x.2 = (k : Int) ∧ k ≤ xs.length ∧ AP (fun b => s.on b) w w' c g s ts xs) (fun x => 50 - (x.2).toNat) ?_ ?_
    · exact A.reb (by intro b hb; simp [blk] at hb <;> omega) hc (fun w' A => ⟨0, rfl, by omega, A⟩)
    · rintro ⟨vv, x⟩ wb ⟨k, hx0, hk, A⟩
      simp only at hx0
      subst hx0
      unfold tT
      dsimp only
      unfold sS
      repeat' first
        | refine A.reb (by intro b hb; simp [blk] at hb <;> omega) hc (fun w' A => ?_)
        | (intro bb hbb; have zz := A.T.t.size)
        | exact ⟨rfl, ⟨_, bN (by omega), by omega, A⟩, by simp only [bN (show k ≤ 1000000 by omega)]; omega⟩
        | refine ⟨x, A.rdT (o := 0) hq hx rfl, A.niT (o := 0) hq (by intro b hb; simp [blk] at hb <;> omega), ?_⟩
        | refine ⟨x2, A.rdX (o := 0) hq2 hx2 rfl, A.niX (o := 0) hq2 (by intro b hb; simp [blk] at hb <;> omega), ?_⟩
        | refine ⟨x.Window, A.rdT hq hx rfl, A.niT hq (by intro b hb; simp [blk] at hb <;> omega), ?_⟩
        | (refine A.vn hxo2.r.1 (by have := hxo2.r.2; omega) (fun q3 x3 hq3 hx3 => ?_))
        | (refine A.vn hxo2.w.1 (by have := hxo2.w.2; omega) (fun q3 x3 hq3 hx3 => ?_))
        | (refine A.vn (by omega) (by omega) (fun q3 x3 hq3 hx3 => ?_))
        | refine ⟨x3, A.rdV (o := 0) hq3 hx3 rfl, A.niV (o := 0) hc hq3 (by intro b hb; simp [blk] at hb <;> omega), ?_⟩
        | refine ⟨_, A.rdV hq3 hx3 rfl, A.niV hc hq3 (by intro b hb; simp [blk] at hb <;> omega), ?_⟩
        | refine ⟨aHG, ?_⟩
        | (refine A.call (by intro b hb; simp [blk] at hb <;> omega) hc (fun wa A => iP (A.st.x.rd qQ) (by omega) (by omega)) ?_; rintro wa v w' A ⟨z, rfl⟩; refine ⟨z, rfl, ?_⟩)
        | unfold kT
        | unfold kP
        | unfold j6
        | unfold kS
        | unfold j5
        | unfold kM
        | unfold kH
        | unfold gQ
        | exact ⟨A.T.t, _, _, rfl, fun h => absurd h (by decide)⟩
        | exact ⟨A.T.t, _, _, rfl, fun h => absurd h (by assumption)⟩
        | with_reducible refine ifT ?_
        | with_reducible refine ifF ?_
        | (with_reducible refine ifbd (fun h => ?_) (fun h => ?_))
        | (with_reducible refine ifbnd (fun h => ?_) (fun h => ?_))
        | (with_reducible refine ifbn (fun h => ?_) (fun h => ?_))
        | (refine ifb (fun h => ?_) (fun h => ?_))
        | (refine A.call (by intro b hb; simp [blk] at hb <;> omega) hc (fun wa A => bV _ wa) ?_; rintro wa v w' A ⟨st, rfl⟩; refine ⟨st, _, rfl, ?_⟩)
        | (refine A.call (by intro b hb; simp [blk] at hb <;> omega) hc (fun wa A => bL A.cf ok _ _) ?_; rintro wa v w' A ⟨z, rfl⟩; refine ⟨z, rfl, ?_⟩)
        | (refine A.call (by intro b hb; simp [blk] at hb <;> omega) hc (fun wa A => bP A.cf ok _ _) ?_; rintro wa v w' A ⟨z, rfl⟩; refine ⟨z, rfl, ?_⟩)
        | (refine A.call (by intro b hb; simp [blk] at hb <;> omega) hc (fun wa A => bC A.cf ok _ _) ?_; rintro wa v w' A ⟨z, rfl⟩; refine ⟨z, rfl, ?_⟩)
        | (refine A.call (by intro b hb; simp [blk] at hb <;> omega) hc (fun wa A => bE _ _ wa) ?_; rintro wa v w' A ⟨z, rfl⟩; refine ⟨z, rfl, ?_⟩)
        | (refine A.call (by intro b hb; simp [blk] at hb <;> omega) hc (fun wa A => bT _ _ wa) ?_; rintro wa v w' A ⟨z, rfl⟩; refine ⟨z, rfl, ?_⟩)
        | (refine A.call (by intro b hb; simp [blk] at hb <;> omega) hc (fun wa A => bX A.cf ok (A.st.t.rd kI) (by simp only [List.length_set]; exact hs.tl)) ?_; rintro wa v w' A ⟨st, er, rfl, her⟩; refine ⟨st, er, rfl, ?_⟩)
        | (refine A.tn (by omega) (by omega) (fun q x hq hx => ?_); have hxo := hs.tr x (List.mem_of_getElem? hx))
        | (refine A.ce (hxo.q (by assumption)) (by have := hxo.h.2; omega) (fun q2 x2 hq2 hx2 => ?_); have hxo2 := hs.xr x2 (List.mem_of_getElem? hx2))
        | (refine A.ce (by omega) (by omega) (fun q2 x2 hq2 hx2 => ?_); have hxo2 := hs.xr x2 (List.mem_of_getElem? hx2))
        | refine ⟨_, A.rdT hq hx rfl, A.niT hq (by intro b hb; simp [blk] at hb <;> omega), ?_⟩
        | refine ⟨_, A.rdT (o := 0) hq hx rfl, A.niT (o := 0) hq (by intro b hb; simp [blk] at hb <;> omega), ?_⟩
        | refine ⟨_, A.rdX hq2 hx2 rfl, A.niX hq2 (by intro b hb; simp [blk] at hb <;> omega), ?_⟩
        | refine ⟨_, A.rdX (o := 0) hq2 hx2 rfl, A.niX (o := 0) hq2 (by intro b hb; simp [blk] at hb <;> omega), ?_⟩
        | refine ⟨_, A.rdT2 hq hx rfl, A.niT2 hq (by intro b hb; simp [blk] at hb <;> omega), ?_⟩
        | refine A.t0 (fun _ h => h) hq (by intro b hb; simp [blk] at hb <;> omega) hx (fun w' A hx => ?_)
        | refine A.t1 (fun _ h => h) hq (by intro b hb; simp [blk] at hb <;> omega) hx (fun w' A hx => ?_)
        | refine A.t2 (fun _ h => h) hq (by intro b hb; simp [blk] at hb <;> omega) hx (fun w' A hx => ?_)
        | refine A.t3 (fun _ h => h) hq (by intro b hb; simp [blk] at hb <;> omega) hx (fun w' A hx => ?_)
        | refine A.t4 (fun _ h => h) hq (by intro b hb; simp [blk] at hb <;> omega) hx (fun w' A hx => ?_)
        | refine A.t5 (fun _ h => h) hq (by intro b hb; simp [blk] at hb <;> omega) hx (fun w' A hx => ?_)
        | refine A.t6 (fun _ h => h) hq (by intro b hb; simp [blk] at hb <;> omega) hx (fun w' A hx => ?_)
        | refine A.t7 (fun _ h => h) hq (by intro b hb; simp [blk] at hb <;> omega) hx (fun w' A hx => ?_)
        | refine A.x0 (fun _ h => h) hq2 (by intro b hb; simp [blk] at hb <;> omega) hx2 (fun w' A hx2 => ?_)
        | refine A.x1 (fun _ h => h) hq2 (by intro b hb; simp [blk] at hb <;> omega) hx2 (fun w' A hx2 => ?_)
        | refine A.x2 (fun _ h => h) hq2 (by intro b hb; simp [blk] at hb <;> omega) hx2 (fun w' A hx2 => ?_)
        | refine A.x3 (fun _ h => h) hq2 (by intro b hb; simp [blk] at hb <;> omega) hx2 (fun w' A hx2 => ?_)
      all_goals first
        | exact fin0 A rfl rfl hs
        | (refine fin0 A rfl rfl ?_; (try simp only [List.set_set]); refine hs.setX ?_; refine ⟨?_, ?_⟩ <;> first | exact hxo2.r | exact hxo2.w | (have := hxo2.w; dsimp only; omega) | (dsimp only; omega))
theorem aYY (h : eT w c g) (ok : bU c g) (hc : ∀ b, c.on b → b < w.heap.size) (sep : ∀ b, c.on b → ¬ s.on b) (st : StAt w s ts xs) (hs : StOk g ts xs) (hC : 0 ≤ e.Cell ∧ e.Cell < g.cs.length)  : Spec PP aBE [.agg (List.toArray s.cells), .agg (List.toArray e.cells)] w (fun b => s.on b) (ResS g s) := by
  refine aNH s e _ w ?_
  unfold aBD
  have htl := hs.tl
  have hxl := hs.xl
  have A : AP (fun b => s.on b) w w c g s ts xs := ⟨Now.refl, h, st, fun b hb => st.lt hb, sep⟩
  intro b0 hb0 b1 hb1 b2 hb2
  have hcl := ok.cl
  have htl5 := ok.tl
  have hsn := st.t.1
  have hxn := st.x.1
  repeat' first
    | refine A.reb (by intro b hb; simp [blk] at hb <;> omega) hc (fun w' A => ?_)
    | (intro bb hbb; have zz := A.T.t.size)
    | exact ⟨rfl, ⟨_, bN (by omega), by omega, A⟩, by simp only [bN (show k ≤ 1000000 by omega)]; omega⟩
    | refine ⟨x, A.rdT (o := 0) hq hx rfl, A.niT (o := 0) hq (by intro b hb; simp [blk] at hb <;> omega), ?_⟩
    | refine ⟨x2, A.rdX (o := 0) hq2 hx2 rfl, A.niX (o := 0) hq2 (by intro b hb; simp [blk] at hb <;> omega), ?_⟩
    | refine ⟨x.Window, A.rdT hq hx rfl, A.niT hq (by intro b hb; simp [blk] at hb <;> omega), ?_⟩
    | (refine A.vn hxo2.r.1 (by have := hxo2.r.2; omega) (fun q3 x3 hq3 hx3 => ?_))
    | (refine A.vn hxo2.w.1 (by have := hxo2.w.2; omega) (fun q3 x3 hq3 hx3 => ?_))
    | (refine A.vn (by omega) (by omega) (fun q3 x3 hq3 hx3 => ?_))
    | refine ⟨x3, A.rdV (o := 0) hq3 hx3 rfl, A.niV (o := 0) hc hq3 (by intro b hb; simp [blk] at hb <;> omega), ?_⟩
    | refine ⟨_, A.rdV hq3 hx3 rfl, A.niV hc hq3 (by intro b hb; simp [blk] at hb <;> omega), ?_⟩
    | refine ⟨aHG, ?_⟩
    | (refine A.call (by intro b hb; simp [blk] at hb <;> omega) hc (fun wa A => iP (A.st.x.rd qQ) (by omega) (by omega)) ?_; rintro wa v w' A ⟨z, rfl⟩; refine ⟨z, rfl, ?_⟩)
    | unfold nP
    | unfold nR
    | unfold mY
    | unfold mV
    | unfold nN
    | unfold nA
    | unfold nZ
    | unfold nC
    | unfold iM
    | unfold iG
    | unfold iJ
    | exact ⟨A.T.t, _, _, rfl, fun h => absurd h (by decide)⟩
    | exact ⟨A.T.t, _, _, rfl, fun h => absurd h (by assumption)⟩
    | with_reducible refine ifT ?_
    | with_reducible refine ifF ?_
    | (with_reducible refine ifbd (fun h => ?_) (fun h => ?_))
    | (with_reducible refine ifbnd (fun h => ?_) (fun h => ?_))
    | (with_reducible refine ifbn (fun h => ?_) (fun h => ?_))
    | (refine ifb (fun h => ?_) (fun h => ?_))
    | (refine A.call (by intro b hb; simp [blk] at hb <;> omega) hc (fun wa A => bV _ wa) ?_; rintro wa v w' A ⟨st, rfl⟩; refine ⟨st, _, rfl, ?_⟩)
    | (refine A.call (by intro b hb; simp [blk] at hb <;> omega) hc (fun wa A => bL A.cf ok _ _) ?_; rintro wa v w' A ⟨z, rfl⟩; refine ⟨z, rfl, ?_⟩)
    | (refine A.call (by intro b hb; simp [blk] at hb <;> omega) hc (fun wa A => bP A.cf ok _ _) ?_; rintro wa v w' A ⟨z, rfl⟩; refine ⟨z, rfl, ?_⟩)
    | (refine A.call (by intro b hb; simp [blk] at hb <;> omega) hc (fun wa A => bC A.cf ok _ _) ?_; rintro wa v w' A ⟨z, rfl⟩; refine ⟨z, rfl, ?_⟩)
    | (refine A.call (by intro b hb; simp [blk] at hb <;> omega) hc (fun wa A => bE _ _ wa) ?_; rintro wa v w' A ⟨z, rfl⟩; refine ⟨z, rfl, ?_⟩)
    | (refine A.call (by intro b hb; simp [blk] at hb <;> omega) hc (fun wa A => bT _ _ wa) ?_; rintro wa v w' A ⟨z, rfl⟩; refine ⟨z, rfl, ?_⟩)
    | (refine A.call (by intro b hb; simp [blk] at hb <;> omega) hc (fun wa A => bX A.cf ok (A.st.t.rd kI) (by simp only [List.length_set]; exact hs.tl)) ?_; rintro wa v w' A ⟨st, er, rfl, her⟩; refine ⟨st, er, rfl, ?_⟩)
    | (refine A.tn (by omega) (by omega) (fun q x hq hx => ?_); have hxo := hs.tr x (List.mem_of_getElem? hx))
    | (refine A.ce (hxo.q (by assumption)) (by have := hxo.h.2; omega) (fun q2 x2 hq2 hx2 => ?_); have hxo2 := hs.xr x2 (List.mem_of_getElem? hx2))
    | (refine A.ce (by omega) (by omega) (fun q2 x2 hq2 hx2 => ?_); have hxo2 := hs.xr x2 (List.mem_of_getElem? hx2))
    | refine ⟨_, A.rdT hq hx rfl, A.niT hq (by intro b hb; simp [blk] at hb <;> omega), ?_⟩
    | refine ⟨_, A.rdT (o := 0) hq hx rfl, A.niT (o := 0) hq (by intro b hb; simp [blk] at hb <;> omega), ?_⟩
    | refine ⟨_, A.rdX hq2 hx2 rfl, A.niX hq2 (by intro b hb; simp [blk] at hb <;> omega), ?_⟩
    | refine ⟨_, A.rdX (o := 0) hq2 hx2 rfl, A.niX (o := 0) hq2 (by intro b hb; simp [blk] at hb <;> omega), ?_⟩
    | refine ⟨_, A.rdT2 hq hx rfl, A.niT2 hq (by intro b hb; simp [blk] at hb <;> omega), ?_⟩
    | refine A.t0 (fun _ h => h) hq (by intro b hb; simp [blk] at hb <;> omega) hx (fun w' A hx => ?_)
    | refine A.t1 (fun _ h => h) hq (by intro b hb; simp [blk] at hb <;> omega) hx (fun w' A hx => ?_)
    | refine A.t2 (fun _ h => h) hq (by intro b hb; simp [blk] at hb <;> omega) hx (fun w' A hx => ?_)
    | refine A.t3 (fun _ h => h) hq (by intro b hb; simp [blk] at hb <;> omega) hx (fun w' A hx => ?_)
    | refine A.t4 (fun _ h => h) hq (by intro b hb; simp [blk] at hb <;> omega) hx (fun w' A hx => ?_)
    | refine A.t5 (fun _ h => h) hq (by intro b hb; simp [blk] at hb <;> omega) hx (fun w' A hx => ?_)
    | refine A.t6 (fun _ h => h) hq (by intro b hb; simp [blk] at hb <;> omega) hx (fun w' A hx => ?_)
    | refine A.t7 (fun _ h => h) hq (by intro b hb; simp [blk] at hb <;> omega) hx (fun w' A hx => ?_)
    | refine A.x0 (fun _ h => h) hq2 (by intro b hb; simp [blk] at hb <;> omega) hx2 (fun w' A hx2 => ?_)
    | refine A.x1 (fun _ h => h) hq2 (by intro b hb; simp [blk] at hb <;> omega) hx2 (fun w' A hx2 => ?_)
    | refine A.x2 (fun _ h => h) hq2 (by intro b hb; simp [blk] at hb <;> omega) hx2 (fun w' A hx2 => ?_)
    | refine A.x3 (fun _ h => h) hq2 (by intro b hb; simp [blk] at hb <;> omega) hx2 (fun w' A hx2 => ?_)
  all_goals try (first | exact fin0 A rfl rfl hs)
  all_goals
    refine LoopC.mk (fun x w' => ∃ k : Nat, x.2 = (k : Int) ∧ k ≤ ts.length ∧ AP (fun b => s.on b) w w' c g s ts xs) (fun x => 50 - (x.2).toNat) ?_ ?_
    · exact A.reb (by intro b hb; simp [blk] at hb <;> omega) hc (fun w' A => ⟨0, rfl, by omega, A⟩)
    · rintro ⟨vv, x⟩ wb ⟨k, hx0, hk, A⟩
      simp only at hx0
      subst hx0
      unfold xQ
      dsimp only
      unfold wQ
      repeat' first
        | refine A.reb (by intro b hb; simp [blk] at hb <;> omega) hc (fun w' A => ?_)
        | (intro bb hbb; have zz := A.T.t.size)
        | exact ⟨rfl, ⟨_, bN (by omega), by omega, A⟩, by simp only [bN (show k ≤ 1000000 by omega)]; omega⟩
        | refine ⟨x, A.rdT (o := 0) hq hx rfl, A.niT (o := 0) hq (by intro b hb; simp [blk] at hb <;> omega), ?_⟩
        | refine ⟨x2, A.rdX (o := 0) hq2 hx2 rfl, A.niX (o := 0) hq2 (by intro b hb; simp [blk] at hb <;> omega), ?_⟩
        | refine ⟨x.Window, A.rdT hq hx rfl, A.niT hq (by intro b hb; simp [blk] at hb <;> omega), ?_⟩
        | (refine A.vn hxo2.r.1 (by have := hxo2.r.2; omega) (fun q3 x3 hq3 hx3 => ?_))
        | (refine A.vn hxo2.w.1 (by have := hxo2.w.2; omega) (fun q3 x3 hq3 hx3 => ?_))
        | (refine A.vn (by omega) (by omega) (fun q3 x3 hq3 hx3 => ?_))
        | refine ⟨x3, A.rdV (o := 0) hq3 hx3 rfl, A.niV (o := 0) hc hq3 (by intro b hb; simp [blk] at hb <;> omega), ?_⟩
        | refine ⟨_, A.rdV hq3 hx3 rfl, A.niV hc hq3 (by intro b hb; simp [blk] at hb <;> omega), ?_⟩
        | refine ⟨aHG, ?_⟩
        | (refine A.call (by intro b hb; simp [blk] at hb <;> omega) hc (fun wa A => iP (A.st.x.rd qQ) (by omega) (by omega)) ?_; rintro wa v w' A ⟨z, rfl⟩; refine ⟨z, rfl, ?_⟩)
        | unfold nP
        | unfold nR
        | unfold mY
        | unfold mV
        | unfold nN
        | unfold nA
        | unfold nZ
        | unfold nC
        | unfold iM
        | unfold iG
        | unfold iJ
        | exact ⟨A.T.t, _, _, rfl, fun h => absurd h (by decide)⟩
        | exact ⟨A.T.t, _, _, rfl, fun h => absurd h (by assumption)⟩
        | with_reducible refine ifT ?_
        | with_reducible refine ifF ?_
        | (with_reducible refine ifbd (fun h => ?_) (fun h => ?_))
        | (with_reducible refine ifbnd (fun h => ?_) (fun h => ?_))
        | (with_reducible refine ifbn (fun h => ?_) (fun h => ?_))
        | (refine ifb (fun h => ?_) (fun h => ?_))
        | (refine A.call (by intro b hb; simp [blk] at hb <;> omega) hc (fun wa A => bV _ wa) ?_; rintro wa v w' A ⟨st, rfl⟩; refine ⟨st, _, rfl, ?_⟩)
        | (refine A.call (by intro b hb; simp [blk] at hb <;> omega) hc (fun wa A => bL A.cf ok _ _) ?_; rintro wa v w' A ⟨z, rfl⟩; refine ⟨z, rfl, ?_⟩)
        | (refine A.call (by intro b hb; simp [blk] at hb <;> omega) hc (fun wa A => bP A.cf ok _ _) ?_; rintro wa v w' A ⟨z, rfl⟩; refine ⟨z, rfl, ?_⟩)
        | (refine A.call (by intro b hb; simp [blk] at hb <;> omega) hc (fun wa A => bC A.cf ok _ _) ?_; rintro wa v w' A ⟨z, rfl⟩; refine ⟨z, rfl, ?_⟩)
        | (refine A.call (by intro b hb; simp [blk] at hb <;> omega) hc (fun wa A => bE _ _ wa) ?_; rintro wa v w' A ⟨z, rfl⟩; refine ⟨z, rfl, ?_⟩)
        | (refine A.call (by intro b hb; simp [blk] at hb <;> omega) hc (fun wa A => bT _ _ wa) ?_; rintro wa v w' A ⟨z, rfl⟩; refine ⟨z, rfl, ?_⟩)
        | (refine A.call (by intro b hb; simp [blk] at hb <;> omega) hc (fun wa A => bX A.cf ok (A.st.t.rd kI) (by simp only [List.length_set]; exact hs.tl)) ?_; rintro wa v w' A ⟨st, er, rfl, her⟩; refine ⟨st, er, rfl, ?_⟩)
        | (refine A.tn (by omega) (by omega) (fun q x hq hx => ?_); have hxo := hs.tr x (List.mem_of_getElem? hx))
        | (refine A.ce (hxo.q (by assumption)) (by have := hxo.h.2; omega) (fun q2 x2 hq2 hx2 => ?_); have hxo2 := hs.xr x2 (List.mem_of_getElem? hx2))
        | (refine A.ce (by omega) (by omega) (fun q2 x2 hq2 hx2 => ?_); have hxo2 := hs.xr x2 (List.mem_of_getElem? hx2))
        | refine ⟨_, A.rdT hq hx rfl, A.niT hq (by intro b hb; simp [blk] at hb <;> omega), ?_⟩
        | refine ⟨_, A.rdT (o := 0) hq hx rfl, A.niT (o := 0) hq (by intro b hb; simp [blk] at hb <;> omega), ?_⟩
        | refine ⟨_, A.rdX hq2 hx2 rfl, A.niX hq2 (by intro b hb; simp [blk] at hb <;> omega), ?_⟩
        | refine ⟨_, A.rdX (o := 0) hq2 hx2 rfl, A.niX (o := 0) hq2 (by intro b hb; simp [blk] at hb <;> omega), ?_⟩
        | refine ⟨_, A.rdT2 hq hx rfl, A.niT2 hq (by intro b hb; simp [blk] at hb <;> omega), ?_⟩
        | refine A.t0 (fun _ h => h) hq (by intro b hb; simp [blk] at hb <;> omega) hx (fun w' A hx => ?_)
        | refine A.t1 (fun _ h => h) hq (by intro b hb; simp [blk] at hb <;> omega) hx (fun w' A hx => ?_)
        | refine A.t2 (fun _ h => h) hq (by intro b hb; simp [blk] at hb <;> omega) hx (fun w' A hx => ?_)
        | refine A.t3 (fun _ h => h) hq (by intro b hb; simp [blk] at hb <;> omega) hx (fun w' A hx => ?_)
        | refine A.t4 (fun _ h => h) hq (by intro b hb; simp [blk] at hb <;> omega) hx (fun w' A hx => ?_)
        | refine A.t5 (fun _ h => h) hq (by intro b hb; simp [blk] at hb <;> omega) hx (fun w' A hx => ?_)
        | refine A.t6 (fun _ h => h) hq (by intro b hb; simp [blk] at hb <;> omega) hx (fun w' A hx => ?_)
        | refine A.t7 (fun _ h => h) hq (by intro b hb; simp [blk] at hb <;> omega) hx (fun w' A hx => ?_)
        | refine A.x0 (fun _ h => h) hq2 (by intro b hb; simp [blk] at hb <;> omega) hx2 (fun w' A hx2 => ?_)
        | refine A.x1 (fun _ h => h) hq2 (by intro b hb; simp [blk] at hb <;> omega) hx2 (fun w' A hx2 => ?_)
        | refine A.x2 (fun _ h => h) hq2 (by intro b hb; simp [blk] at hb <;> omega) hx2 (fun w' A hx2 => ?_)
        | refine A.x3 (fun _ h => h) hq2 (by intro b hb; simp [blk] at hb <;> omega) hx2 (fun w' A hx2 => ?_)
      all_goals first
        | exact fin0 A rfl rfl hs
        | (refine fin0 A rfl rfl ?_; (try simp only [List.set_set]); refine hs.setX ?_; refine ⟨?_, ?_⟩ <;> first | exact hxo2.r | exact hxo2.w | (have := hxo2.w; dsimp only; omega) | (dsimp only; omega))
theorem aXR (h : eT w c g) (ok : bU c g) (hc : ∀ b, c.on b → b < w.heap.size) (sep : ∀ b, c.on b → ¬ s.on b) (st : StAt w s ts xs) (hs : StOk g ts xs)  : Spec PP zY [.agg (List.toArray c.cells), .agg (List.toArray s.cells), .agg (List.toArray e.cells)] w (fun b => s.on b) (ResS g s) := by
  refine aL2 c s e _ w ?_
  unfold aA1
  have htl := hs.tl
  have hxl := hs.xl
  have A : AP (fun b => s.on b) w w c g s ts xs := ⟨Now.refl, h, st, fun b hb => st.lt hb, sep⟩
  intro b0 hb0 b1 hb1 b2 hb2 b3 hb3
  have hcl := ok.cl
  have htl5 := ok.tl
  have hsn := st.t.1
  have hxn := st.x.1
  repeat' first
    | refine A.reb (by intro b hb; simp [blk] at hb <;> omega) hc (fun w' A => ?_)
    | (intro bb hbb; have zz := A.T.t.size)
    | exact ⟨rfl, ⟨_, bN (by omega), by omega, A, rfl⟩, by simp only [bN (show k ≤ 1000000 by omega)]; omega⟩
    | refine ⟨x, A.rdT (o := 0) hq hx rfl, A.niT (o := 0) hq (by intro b hb; simp [blk] at hb <;> omega), ?_⟩
    | refine ⟨x2, A.rdX (o := 0) hq2 hx2 rfl, A.niX (o := 0) hq2 (by intro b hb; simp [blk] at hb <;> omega), ?_⟩
    | refine ⟨x.Window, A.rdT hq hx rfl, A.niT hq (by intro b hb; simp [blk] at hb <;> omega), ?_⟩
    | (refine A.vn hxo2.r.1 (by have := hxo2.r.2; omega) (fun q3 x3 hq3 hx3 => ?_))
    | (refine A.vn hxo2.w.1 (by have := hxo2.w.2; omega) (fun q3 x3 hq3 hx3 => ?_))
    | (refine A.vn (by omega) (by omega) (fun q3 x3 hq3 hx3 => ?_))
    | refine ⟨x3, A.rdV (o := 0) hq3 hx3 rfl, A.niV (o := 0) hc hq3 (by intro b hb; simp [blk] at hb <;> omega), ?_⟩
    | refine ⟨_, A.rdV hq3 hx3 rfl, A.niV hc hq3 (by intro b hb; simp [blk] at hb <;> omega), ?_⟩
    | refine ⟨aHG, ?_⟩
    | (refine A.call (by intro b hb; simp [blk] at hb <;> omega) hc (fun wa A => iP (A.st.x.rd qQ) (by omega) (by omega)) ?_; rintro wa v w' A ⟨z, rfl⟩; refine ⟨z, rfl, ?_⟩)
    | unfold lI
    | unfold lH
    | unfold lY
    | unfold mD
    | unfold lX
    | unfold lQ
    | unfold lM
    | unfold dN
    | exact ⟨A.T.t, _, _, rfl, fun h => absurd h (by decide)⟩
    | exact ⟨A.T.t, _, _, rfl, fun h => absurd h (by assumption)⟩
    | with_reducible refine ifT ?_
    | with_reducible refine ifF ?_
    | (with_reducible refine ifbd (fun h => ?_) (fun h => ?_))
    | (with_reducible refine ifbnd (fun h => ?_) (fun h => ?_))
    | (with_reducible refine ifbn (fun h => ?_) (fun h => ?_))
    | (refine ifb (fun h => ?_) (fun h => ?_))
    | (refine A.call (by intro b hb; simp [blk] at hb <;> omega) hc (fun wa A => bV _ wa) ?_; rintro wa v w' A ⟨st, rfl⟩; refine ⟨st, _, rfl, ?_⟩)
    | (refine A.call (by intro b hb; simp [blk] at hb <;> omega) hc (fun wa A => bL A.cf ok _ _) ?_; rintro wa v w' A ⟨z, rfl⟩; refine ⟨z, rfl, ?_⟩)
    | (refine A.call (by intro b hb; simp [blk] at hb <;> omega) hc (fun wa A => bP A.cf ok _ _) ?_; rintro wa v w' A ⟨z, rfl⟩; refine ⟨z, rfl, ?_⟩)
    | (refine A.call (by intro b hb; simp [blk] at hb <;> omega) hc (fun wa A => bC A.cf ok _ _) ?_; rintro wa v w' A ⟨z, rfl⟩; refine ⟨z, rfl, ?_⟩)
    | (refine A.call (by intro b hb; simp [blk] at hb <;> omega) hc (fun wa A => bE _ _ wa) ?_; rintro wa v w' A ⟨z, rfl⟩; refine ⟨z, rfl, ?_⟩)
    | (refine A.call (by intro b hb; simp [blk] at hb <;> omega) hc (fun wa A => bT _ _ wa) ?_; rintro wa v w' A ⟨z, rfl⟩; refine ⟨z, rfl, ?_⟩)
    | (refine A.call (by intro b hb; simp [blk] at hb <;> omega) hc (fun wa A => bX A.cf ok (A.st.t.rd kI) (by simp only [List.length_set]; exact hs.tl)) ?_; rintro wa v w' A ⟨st, er, rfl, her⟩; refine ⟨st, er, rfl, ?_⟩)
    | (refine A.tn (by omega) (by omega) (fun q x hq hx => ?_); have hxo := hs.tr x (List.mem_of_getElem? hx))
    | (refine A.ce (hxo.q (by assumption)) (by have := hxo.h.2; omega) (fun q2 x2 hq2 hx2 => ?_); have hxo2 := hs.xr x2 (List.mem_of_getElem? hx2))
    | (refine A.ce (by omega) (by omega) (fun q2 x2 hq2 hx2 => ?_); have hxo2 := hs.xr x2 (List.mem_of_getElem? hx2))
    | refine ⟨_, A.rdT hq hx rfl, A.niT hq (by intro b hb; simp [blk] at hb <;> omega), ?_⟩
    | refine ⟨_, A.rdT (o := 0) hq hx rfl, A.niT (o := 0) hq (by intro b hb; simp [blk] at hb <;> omega), ?_⟩
    | refine ⟨_, A.rdX hq2 hx2 rfl, A.niX hq2 (by intro b hb; simp [blk] at hb <;> omega), ?_⟩
    | refine ⟨_, A.rdX (o := 0) hq2 hx2 rfl, A.niX (o := 0) hq2 (by intro b hb; simp [blk] at hb <;> omega), ?_⟩
    | refine ⟨_, A.rdT2 hq hx rfl, A.niT2 hq (by intro b hb; simp [blk] at hb <;> omega), ?_⟩
    | refine A.t0 (fun _ h => h) hq (by intro b hb; simp [blk] at hb <;> omega) hx (fun w' A hx => ?_)
    | refine A.t1 (fun _ h => h) hq (by intro b hb; simp [blk] at hb <;> omega) hx (fun w' A hx => ?_)
    | refine A.t2 (fun _ h => h) hq (by intro b hb; simp [blk] at hb <;> omega) hx (fun w' A hx => ?_)
    | refine A.t3 (fun _ h => h) hq (by intro b hb; simp [blk] at hb <;> omega) hx (fun w' A hx => ?_)
    | refine A.t4 (fun _ h => h) hq (by intro b hb; simp [blk] at hb <;> omega) hx (fun w' A hx => ?_)
    | refine A.t5 (fun _ h => h) hq (by intro b hb; simp [blk] at hb <;> omega) hx (fun w' A hx => ?_)
    | refine A.t6 (fun _ h => h) hq (by intro b hb; simp [blk] at hb <;> omega) hx (fun w' A hx => ?_)
    | refine A.t7 (fun _ h => h) hq (by intro b hb; simp [blk] at hb <;> omega) hx (fun w' A hx => ?_)
    | refine A.x0 (fun _ h => h) hq2 (by intro b hb; simp [blk] at hb <;> omega) hx2 (fun w' A hx2 => ?_)
    | refine A.x1 (fun _ h => h) hq2 (by intro b hb; simp [blk] at hb <;> omega) hx2 (fun w' A hx2 => ?_)
    | refine A.x2 (fun _ h => h) hq2 (by intro b hb; simp [blk] at hb <;> omega) hx2 (fun w' A hx2 => ?_)
    | refine A.x3 (fun _ h => h) hq2 (by intro b hb; simp [blk] at hb <;> omega) hx2 (fun w' A hx2 => ?_)
  all_goals try (first | exact fin0 A rfl rfl hs)
  all_goals
    refine LoopC.mk (fun x w' => ∃ k : Nat, x.2.2 = (k : Int) ∧ k ≤ xs.length ∧ AP (fun b => s.on b) w w' c g s ts xs ∧ x.1 = s) (fun x => 50 - (x.2.2).toNat) ?_ ?_
    · exact A.reb (by intro b hb; simp [blk] at hb <;> omega) hc (fun w' A => ⟨0, rfl, by omega, A, rfl⟩)
    · rintro ⟨ss, vv, x⟩ wb ⟨k, hx0, hk, A, hst⟩
      simp only at hx0 hst
      subst hx0
      subst hst
      unfold uT
      dsimp only
      unfold wD
      repeat' first
        | refine A.reb (by intro b hb; simp [blk] at hb <;> omega) hc (fun w' A => ?_)
        | (intro bb hbb; have zz := A.T.t.size)
        | exact ⟨rfl, ⟨_, bN (by omega), by omega, A, rfl⟩, by simp only [bN (show k ≤ 1000000 by omega)]; omega⟩
        | refine ⟨x, A.rdT (o := 0) hq hx rfl, A.niT (o := 0) hq (by intro b hb; simp [blk] at hb <;> omega), ?_⟩
        | refine ⟨x2, A.rdX (o := 0) hq2 hx2 rfl, A.niX (o := 0) hq2 (by intro b hb; simp [blk] at hb <;> omega), ?_⟩
        | refine ⟨x.Window, A.rdT hq hx rfl, A.niT hq (by intro b hb; simp [blk] at hb <;> omega), ?_⟩
        | (refine A.vn hxo2.r.1 (by have := hxo2.r.2; omega) (fun q3 x3 hq3 hx3 => ?_))
        | (refine A.vn hxo2.w.1 (by have := hxo2.w.2; omega) (fun q3 x3 hq3 hx3 => ?_))
        | (refine A.vn (by omega) (by omega) (fun q3 x3 hq3 hx3 => ?_))
        | refine ⟨x3, A.rdV (o := 0) hq3 hx3 rfl, A.niV (o := 0) hc hq3 (by intro b hb; simp [blk] at hb <;> omega), ?_⟩
        | refine ⟨_, A.rdV hq3 hx3 rfl, A.niV hc hq3 (by intro b hb; simp [blk] at hb <;> omega), ?_⟩
        | refine ⟨aHG, ?_⟩
        | (refine A.call (by intro b hb; simp [blk] at hb <;> omega) hc (fun wa A => iP (A.st.x.rd qQ) (by omega) (by omega)) ?_; rintro wa v w' A ⟨z, rfl⟩; refine ⟨z, rfl, ?_⟩)
        | unfold lI
        | unfold lH
        | unfold lY
        | unfold mD
        | unfold lX
        | unfold lQ
        | unfold lM
        | unfold dN
        | exact ⟨A.T.t, _, _, rfl, fun h => absurd h (by decide)⟩
        | exact ⟨A.T.t, _, _, rfl, fun h => absurd h (by assumption)⟩
        | with_reducible refine ifT ?_
        | with_reducible refine ifF ?_
        | (with_reducible refine ifbd (fun h => ?_) (fun h => ?_))
        | (with_reducible refine ifbnd (fun h => ?_) (fun h => ?_))
        | (with_reducible refine ifbn (fun h => ?_) (fun h => ?_))
        | (refine ifb (fun h => ?_) (fun h => ?_))
        | (refine A.call (by intro b hb; simp [blk] at hb <;> omega) hc (fun wa A => bV _ wa) ?_; rintro wa v w' A ⟨st, rfl⟩; refine ⟨st, _, rfl, ?_⟩)
        | (refine A.call (by intro b hb; simp [blk] at hb <;> omega) hc (fun wa A => bL A.cf ok _ _) ?_; rintro wa v w' A ⟨z, rfl⟩; refine ⟨z, rfl, ?_⟩)
        | (refine A.call (by intro b hb; simp [blk] at hb <;> omega) hc (fun wa A => bP A.cf ok _ _) ?_; rintro wa v w' A ⟨z, rfl⟩; refine ⟨z, rfl, ?_⟩)
        | (refine A.call (by intro b hb; simp [blk] at hb <;> omega) hc (fun wa A => bC A.cf ok _ _) ?_; rintro wa v w' A ⟨z, rfl⟩; refine ⟨z, rfl, ?_⟩)
        | (refine A.call (by intro b hb; simp [blk] at hb <;> omega) hc (fun wa A => bE _ _ wa) ?_; rintro wa v w' A ⟨z, rfl⟩; refine ⟨z, rfl, ?_⟩)
        | (refine A.call (by intro b hb; simp [blk] at hb <;> omega) hc (fun wa A => bT _ _ wa) ?_; rintro wa v w' A ⟨z, rfl⟩; refine ⟨z, rfl, ?_⟩)
        | (refine A.call (by intro b hb; simp [blk] at hb <;> omega) hc (fun wa A => bX A.cf ok (A.st.t.rd kI) (by simp only [List.length_set]; exact hs.tl)) ?_; rintro wa v w' A ⟨st, er, rfl, her⟩; refine ⟨st, er, rfl, ?_⟩)
        | (refine A.tn (by omega) (by omega) (fun q x hq hx => ?_); have hxo := hs.tr x (List.mem_of_getElem? hx))
        | (refine A.ce (hxo.q (by assumption)) (by have := hxo.h.2; omega) (fun q2 x2 hq2 hx2 => ?_); have hxo2 := hs.xr x2 (List.mem_of_getElem? hx2))
        | (refine A.ce (by omega) (by omega) (fun q2 x2 hq2 hx2 => ?_); have hxo2 := hs.xr x2 (List.mem_of_getElem? hx2))
        | refine ⟨_, A.rdT hq hx rfl, A.niT hq (by intro b hb; simp [blk] at hb <;> omega), ?_⟩
        | refine ⟨_, A.rdT (o := 0) hq hx rfl, A.niT (o := 0) hq (by intro b hb; simp [blk] at hb <;> omega), ?_⟩
        | refine ⟨_, A.rdX hq2 hx2 rfl, A.niX hq2 (by intro b hb; simp [blk] at hb <;> omega), ?_⟩
        | refine ⟨_, A.rdX (o := 0) hq2 hx2 rfl, A.niX (o := 0) hq2 (by intro b hb; simp [blk] at hb <;> omega), ?_⟩
        | refine ⟨_, A.rdT2 hq hx rfl, A.niT2 hq (by intro b hb; simp [blk] at hb <;> omega), ?_⟩
        | refine A.t0 (fun _ h => h) hq (by intro b hb; simp [blk] at hb <;> omega) hx (fun w' A hx => ?_)
        | refine A.t1 (fun _ h => h) hq (by intro b hb; simp [blk] at hb <;> omega) hx (fun w' A hx => ?_)
        | refine A.t2 (fun _ h => h) hq (by intro b hb; simp [blk] at hb <;> omega) hx (fun w' A hx => ?_)
        | refine A.t3 (fun _ h => h) hq (by intro b hb; simp [blk] at hb <;> omega) hx (fun w' A hx => ?_)
        | refine A.t4 (fun _ h => h) hq (by intro b hb; simp [blk] at hb <;> omega) hx (fun w' A hx => ?_)
        | refine A.t5 (fun _ h => h) hq (by intro b hb; simp [blk] at hb <;> omega) hx (fun w' A hx => ?_)
        | refine A.t6 (fun _ h => h) hq (by intro b hb; simp [blk] at hb <;> omega) hx (fun w' A hx => ?_)
        | refine A.t7 (fun _ h => h) hq (by intro b hb; simp [blk] at hb <;> omega) hx (fun w' A hx => ?_)
        | refine A.x0 (fun _ h => h) hq2 (by intro b hb; simp [blk] at hb <;> omega) hx2 (fun w' A hx2 => ?_)
        | refine A.x1 (fun _ h => h) hq2 (by intro b hb; simp [blk] at hb <;> omega) hx2 (fun w' A hx2 => ?_)
        | refine A.x2 (fun _ h => h) hq2 (by intro b hb; simp [blk] at hb <;> omega) hx2 (fun w' A hx2 => ?_)
        | refine A.x3 (fun _ h => h) hq2 (by intro b hb; simp [blk] at hb <;> omega) hx2 (fun w' A hx2 => ?_)
      all_goals first
        | exact fin0 A rfl rfl hs
        | (refine fin0 A rfl rfl ?_; (try simp only [List.set_set]); refine hs.setX ?_; refine ⟨?_, ?_⟩ <;> first | exact hxo2.r | exact hxo2.w | (have := hxo2.w; dsimp only; omega) | (dsimp only; omega))
theorem aXY (h : eT w c g) (ok : bU c g) (hc : ∀ b, c.on b → b < w.heap.size) (sep : ∀ b, c.on b → ¬ s.on b) (st : StAt w s ts xs) (hs : StOk g ts xs) (hC : 0 ≤ e.Cell ∧ e.Cell < g.cs.length) (hN : 0 ≤ e.N ∧ e.N < g.vs.length)  : Spec PP aBJ [.agg (List.toArray c.cells), .agg (List.toArray s.cells), .agg (List.toArray e.cells)] w (fun b => s.on b) (ResS g s) := by
  refine aNI c s e _ w ?_
  unfold aBK
  have htl := hs.tl
  have hxl := hs.xl
  have A : AP (fun b => s.on b) w w c g s ts xs := ⟨Now.refl, h, st, fun b hb => st.lt hb, sep⟩
  intro b0 hb0 b1 hb1 b2 hb2 b3 hb3
  have hcl := ok.cl
  have htl5 := ok.tl
  have hsn := st.t.1
  have hxn := st.x.1
  repeat' first
    | refine A.reb (by intro b hb; simp [blk] at hb <;> omega) hc (fun w' A => ?_)
    | (intro bb hbb; have zz := A.T.t.size)
    | exact ⟨rfl, ⟨_, bN (by omega), by omega, A⟩, by simp only [bN (show k ≤ 1000000 by omega)]; omega⟩
    | refine ⟨x, A.rdT (o := 0) hq hx rfl, A.niT (o := 0) hq (by intro b hb; simp [blk] at hb <;> omega), ?_⟩
    | refine ⟨x2, A.rdX (o := 0) hq2 hx2 rfl, A.niX (o := 0) hq2 (by intro b hb; simp [blk] at hb <;> omega), ?_⟩
    | refine ⟨x.Window, A.rdT hq hx rfl, A.niT hq (by intro b hb; simp [blk] at hb <;> omega), ?_⟩
    | (refine A.vn hxo2.r.1 (by have := hxo2.r.2; omega) (fun q3 x3 hq3 hx3 => ?_))
    | (refine A.vn hxo2.w.1 (by have := hxo2.w.2; omega) (fun q3 x3 hq3 hx3 => ?_))
    | (refine A.vn (by omega) (by omega) (fun q3 x3 hq3 hx3 => ?_))
    | refine ⟨x3, A.rdV (o := 0) hq3 hx3 rfl, A.niV (o := 0) hc hq3 (by intro b hb; simp [blk] at hb <;> omega), ?_⟩
    | refine ⟨_, A.rdV hq3 hx3 rfl, A.niV hc hq3 (by intro b hb; simp [blk] at hb <;> omega), ?_⟩
    | refine ⟨aHG, ?_⟩
    | (refine A.call (by intro b hb; simp [blk] at hb <;> omega) hc (fun wa A => iP (A.st.x.rd qQ) (by omega) (by omega)) ?_; rintro wa v w' A ⟨z, rfl⟩; refine ⟨z, rfl, ?_⟩)
    | unfold nM
    | unfold nK
    | unfold mZ
    | unfold nJ
    | unfold nO
    | unfold nG
    | unfold nU
    | unfold iR
    | unfold fK
    | unfold eZ
    | unfold lK
    | exact ⟨A.T.t, _, _, rfl, fun h => absurd h (by decide)⟩
    | exact ⟨A.T.t, _, _, rfl, fun h => absurd h (by assumption)⟩
    | with_reducible refine ifT ?_
    | with_reducible refine ifF ?_
    | (with_reducible refine ifbd (fun h => ?_) (fun h => ?_))
    | (with_reducible refine ifbnd (fun h => ?_) (fun h => ?_))
    | (with_reducible refine ifbn (fun h => ?_) (fun h => ?_))
    | (refine ifb (fun h => ?_) (fun h => ?_))
    | (refine A.call (by intro b hb; simp [blk] at hb <;> omega) hc (fun wa A => bV _ wa) ?_; rintro wa v w' A ⟨st, rfl⟩; refine ⟨st, _, rfl, ?_⟩)
    | (refine A.call (by intro b hb; simp [blk] at hb <;> omega) hc (fun wa A => bL A.cf ok _ _) ?_; rintro wa v w' A ⟨z, rfl⟩; refine ⟨z, rfl, ?_⟩)
    | (refine A.call (by intro b hb; simp [blk] at hb <;> omega) hc (fun wa A => bP A.cf ok _ _) ?_; rintro wa v w' A ⟨z, rfl⟩; refine ⟨z, rfl, ?_⟩)
    | (refine A.call (by intro b hb; simp [blk] at hb <;> omega) hc (fun wa A => bC A.cf ok _ _) ?_; rintro wa v w' A ⟨z, rfl⟩; refine ⟨z, rfl, ?_⟩)
    | (refine A.call (by intro b hb; simp [blk] at hb <;> omega) hc (fun wa A => bE _ _ wa) ?_; rintro wa v w' A ⟨z, rfl⟩; refine ⟨z, rfl, ?_⟩)
    | (refine A.call (by intro b hb; simp [blk] at hb <;> omega) hc (fun wa A => bT _ _ wa) ?_; rintro wa v w' A ⟨z, rfl⟩; refine ⟨z, rfl, ?_⟩)
    | (refine A.call (by intro b hb; simp [blk] at hb <;> omega) hc (fun wa A => bX A.cf ok (A.st.t.rd kI) (by simp only [List.length_set]; exact hs.tl)) ?_; rintro wa v w' A ⟨st, er, rfl, her⟩; refine ⟨st, er, rfl, ?_⟩)
    | (refine A.tn (by omega) (by omega) (fun q x hq hx => ?_); have hxo := hs.tr x (List.mem_of_getElem? hx))
    | (refine A.ce (hxo.q (by assumption)) (by have := hxo.h.2; omega) (fun q2 x2 hq2 hx2 => ?_); have hxo2 := hs.xr x2 (List.mem_of_getElem? hx2))
    | (refine A.ce (by omega) (by omega) (fun q2 x2 hq2 hx2 => ?_); have hxo2 := hs.xr x2 (List.mem_of_getElem? hx2))
    | refine ⟨_, A.rdT hq hx rfl, A.niT hq (by intro b hb; simp [blk] at hb <;> omega), ?_⟩
    | refine ⟨_, A.rdT (o := 0) hq hx rfl, A.niT (o := 0) hq (by intro b hb; simp [blk] at hb <;> omega), ?_⟩
    | refine ⟨_, A.rdX hq2 hx2 rfl, A.niX hq2 (by intro b hb; simp [blk] at hb <;> omega), ?_⟩
    | refine ⟨_, A.rdX (o := 0) hq2 hx2 rfl, A.niX (o := 0) hq2 (by intro b hb; simp [blk] at hb <;> omega), ?_⟩
    | refine ⟨_, A.rdT2 hq hx rfl, A.niT2 hq (by intro b hb; simp [blk] at hb <;> omega), ?_⟩
    | refine A.t0 (fun _ h => h) hq (by intro b hb; simp [blk] at hb <;> omega) hx (fun w' A hx => ?_)
    | refine A.t1 (fun _ h => h) hq (by intro b hb; simp [blk] at hb <;> omega) hx (fun w' A hx => ?_)
    | refine A.t2 (fun _ h => h) hq (by intro b hb; simp [blk] at hb <;> omega) hx (fun w' A hx => ?_)
    | refine A.t3 (fun _ h => h) hq (by intro b hb; simp [blk] at hb <;> omega) hx (fun w' A hx => ?_)
    | refine A.t4 (fun _ h => h) hq (by intro b hb; simp [blk] at hb <;> omega) hx (fun w' A hx => ?_)
    | refine A.t5 (fun _ h => h) hq (by intro b hb; simp [blk] at hb <;> omega) hx (fun w' A hx => ?_)
    | refine A.t6 (fun _ h => h) hq (by intro b hb; simp [blk] at hb <;> omega) hx (fun w' A hx => ?_)
    | refine A.t7 (fun _ h => h) hq (by intro b hb; simp [blk] at hb <;> omega) hx (fun w' A hx => ?_)
    | refine A.x0 (fun _ h => h) hq2 (by intro b hb; simp [blk] at hb <;> omega) hx2 (fun w' A hx2 => ?_)
    | refine A.x1 (fun _ h => h) hq2 (by intro b hb; simp [blk] at hb <;> omega) hx2 (fun w' A hx2 => ?_)
    | refine A.x2 (fun _ h => h) hq2 (by intro b hb; simp [blk] at hb <;> omega) hx2 (fun w' A hx2 => ?_)
    | refine A.x3 (fun _ h => h) hq2 (by intro b hb; simp [blk] at hb <;> omega) hx2 (fun w' A hx2 => ?_)
  all_goals try (first | exact fin0 A rfl rfl hs)
  all_goals
    refine LoopC.mk (fun x w' => ∃ k : Nat, x.2 = (k : Int) ∧ k ≤ xs.length ∧ AP (fun b => s.on b) w w' c g s ts xs) (fun x => 50 - (x.2).toNat) ?_ ?_
    · exact A.reb (by intro b hb; simp [blk] at hb <;> omega) hc (fun w' A => ⟨0, rfl, by omega, A⟩)
    · rintro ⟨vv, x⟩ wb ⟨k, hx0, hk, A⟩
      simp only at hx0
      subst hx0
      unfold uW
      dsimp only
      unfold vO
      repeat' first
        | refine A.reb (by intro b hb; simp [blk] at hb <;> omega) hc (fun w' A => ?_)
        | (intro bb hbb; have zz := A.T.t.size)
        | exact ⟨rfl, ⟨_, bN (by omega), by omega, A⟩, by simp only [bN (show k ≤ 1000000 by omega)]; omega⟩
        | refine ⟨x, A.rdT (o := 0) hq hx rfl, A.niT (o := 0) hq (by intro b hb; simp [blk] at hb <;> omega), ?_⟩
        | refine ⟨x2, A.rdX (o := 0) hq2 hx2 rfl, A.niX (o := 0) hq2 (by intro b hb; simp [blk] at hb <;> omega), ?_⟩
        | refine ⟨x.Window, A.rdT hq hx rfl, A.niT hq (by intro b hb; simp [blk] at hb <;> omega), ?_⟩
        | (refine A.vn hxo2.r.1 (by have := hxo2.r.2; omega) (fun q3 x3 hq3 hx3 => ?_))
        | (refine A.vn hxo2.w.1 (by have := hxo2.w.2; omega) (fun q3 x3 hq3 hx3 => ?_))
        | (refine A.vn (by omega) (by omega) (fun q3 x3 hq3 hx3 => ?_))
        | refine ⟨x3, A.rdV (o := 0) hq3 hx3 rfl, A.niV (o := 0) hc hq3 (by intro b hb; simp [blk] at hb <;> omega), ?_⟩
        | refine ⟨_, A.rdV hq3 hx3 rfl, A.niV hc hq3 (by intro b hb; simp [blk] at hb <;> omega), ?_⟩
        | refine ⟨aHG, ?_⟩
        | (refine A.call (by intro b hb; simp [blk] at hb <;> omega) hc (fun wa A => iP (A.st.x.rd qQ) (by omega) (by omega)) ?_; rintro wa v w' A ⟨z, rfl⟩; refine ⟨z, rfl, ?_⟩)
        | unfold nM
        | unfold nK
        | unfold mZ
        | unfold nJ
        | unfold nO
        | unfold nG
        | unfold nU
        | unfold iR
        | unfold fK
        | unfold eZ
        | unfold lK
        | exact ⟨A.T.t, _, _, rfl, fun h => absurd h (by decide)⟩
        | exact ⟨A.T.t, _, _, rfl, fun h => absurd h (by assumption)⟩
        | with_reducible refine ifT ?_
        | with_reducible refine ifF ?_
        | (with_reducible refine ifbd (fun h => ?_) (fun h => ?_))
        | (with_reducible refine ifbnd (fun h => ?_) (fun h => ?_))
        | (with_reducible refine ifbn (fun h => ?_) (fun h => ?_))
        | (refine ifb (fun h => ?_) (fun h => ?_))
        | (refine A.call (by intro b hb; simp [blk] at hb <;> omega) hc (fun wa A => bV _ wa) ?_; rintro wa v w' A ⟨st, rfl⟩; refine ⟨st, _, rfl, ?_⟩)
        | (refine A.call (by intro b hb; simp [blk] at hb <;> omega) hc (fun wa A => bL A.cf ok _ _) ?_; rintro wa v w' A ⟨z, rfl⟩; refine ⟨z, rfl, ?_⟩)
        | (refine A.call (by intro b hb; simp [blk] at hb <;> omega) hc (fun wa A => bP A.cf ok _ _) ?_; rintro wa v w' A ⟨z, rfl⟩; refine ⟨z, rfl, ?_⟩)
        | (refine A.call (by intro b hb; simp [blk] at hb <;> omega) hc (fun wa A => bC A.cf ok _ _) ?_; rintro wa v w' A ⟨z, rfl⟩; refine ⟨z, rfl, ?_⟩)
        | (refine A.call (by intro b hb; simp [blk] at hb <;> omega) hc (fun wa A => bE _ _ wa) ?_; rintro wa v w' A ⟨z, rfl⟩; refine ⟨z, rfl, ?_⟩)
        | (refine A.call (by intro b hb; simp [blk] at hb <;> omega) hc (fun wa A => bT _ _ wa) ?_; rintro wa v w' A ⟨z, rfl⟩; refine ⟨z, rfl, ?_⟩)
        | (refine A.call (by intro b hb; simp [blk] at hb <;> omega) hc (fun wa A => bX A.cf ok (A.st.t.rd kI) (by simp only [List.length_set]; exact hs.tl)) ?_; rintro wa v w' A ⟨st, er, rfl, her⟩; refine ⟨st, er, rfl, ?_⟩)
        | (refine A.tn (by omega) (by omega) (fun q x hq hx => ?_); have hxo := hs.tr x (List.mem_of_getElem? hx))
        | (refine A.ce (hxo.q (by assumption)) (by have := hxo.h.2; omega) (fun q2 x2 hq2 hx2 => ?_); have hxo2 := hs.xr x2 (List.mem_of_getElem? hx2))
        | (refine A.ce (by omega) (by omega) (fun q2 x2 hq2 hx2 => ?_); have hxo2 := hs.xr x2 (List.mem_of_getElem? hx2))
        | refine ⟨_, A.rdT hq hx rfl, A.niT hq (by intro b hb; simp [blk] at hb <;> omega), ?_⟩
        | refine ⟨_, A.rdT (o := 0) hq hx rfl, A.niT (o := 0) hq (by intro b hb; simp [blk] at hb <;> omega), ?_⟩
        | refine ⟨_, A.rdX hq2 hx2 rfl, A.niX hq2 (by intro b hb; simp [blk] at hb <;> omega), ?_⟩
        | refine ⟨_, A.rdX (o := 0) hq2 hx2 rfl, A.niX (o := 0) hq2 (by intro b hb; simp [blk] at hb <;> omega), ?_⟩
        | refine ⟨_, A.rdT2 hq hx rfl, A.niT2 hq (by intro b hb; simp [blk] at hb <;> omega), ?_⟩
        | refine A.t0 (fun _ h => h) hq (by intro b hb; simp [blk] at hb <;> omega) hx (fun w' A hx => ?_)
        | refine A.t1 (fun _ h => h) hq (by intro b hb; simp [blk] at hb <;> omega) hx (fun w' A hx => ?_)
        | refine A.t2 (fun _ h => h) hq (by intro b hb; simp [blk] at hb <;> omega) hx (fun w' A hx => ?_)
        | refine A.t3 (fun _ h => h) hq (by intro b hb; simp [blk] at hb <;> omega) hx (fun w' A hx => ?_)
        | refine A.t4 (fun _ h => h) hq (by intro b hb; simp [blk] at hb <;> omega) hx (fun w' A hx => ?_)
        | refine A.t5 (fun _ h => h) hq (by intro b hb; simp [blk] at hb <;> omega) hx (fun w' A hx => ?_)
        | refine A.t6 (fun _ h => h) hq (by intro b hb; simp [blk] at hb <;> omega) hx (fun w' A hx => ?_)
        | refine A.t7 (fun _ h => h) hq (by intro b hb; simp [blk] at hb <;> omega) hx (fun w' A hx => ?_)
        | refine A.x0 (fun _ h => h) hq2 (by intro b hb; simp [blk] at hb <;> omega) hx2 (fun w' A hx2 => ?_)
        | refine A.x1 (fun _ h => h) hq2 (by intro b hb; simp [blk] at hb <;> omega) hx2 (fun w' A hx2 => ?_)
        | refine A.x2 (fun _ h => h) hq2 (by intro b hb; simp [blk] at hb <;> omega) hx2 (fun w' A hx2 => ?_)
        | refine A.x3 (fun _ h => h) hq2 (by intro b hb; simp [blk] at hb <;> omega) hx2 (fun w' A hx2 => ?_)
      all_goals first
        | exact fin0 A rfl rfl hs
        | (refine fin0 A rfl rfl ?_; (try simp only [List.set_set]); refine hs.setX ?_; refine ⟨?_, ?_⟩ <;> first | exact hxo2.r | exact hxo2.w | (have := hxo2.w; dsimp only; omega) | (dsimp only; omega))
end
end Go.Sh
