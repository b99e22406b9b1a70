/- A part of the proof (printed smaller by a program of ours). Conditions: none. -/
import Derived.Test.YtoenaheehpjmiaaDoorKEM16
namespace Go.Sh
open Go
set_option linter.unusedSimpArgs false
set_option linter.unusedVariables false
set_option maxHeartbeats 8000000
section
variable {w0 w : World} {c : aB} {g : Cfg} {s : aA} {ts : List aJ} {xs : List aL} {bt i0 : Nat} {sl : Sl} {ns : List Int}
theorem me_4 {blk4 : Nat} {Ty4 : Nat} {blk5 : Nat} {Ty5 : Nat} {blk6 : Nat} {v6c : aC} {Ty6 : Nat} {tick7 : Int} {i : Nat} (B : TQ w0 w c g s ts xs bt sl ns i) (ok : bU c g) (hs : StOk g ts xs) (hM : i0 + 160 ≤ 700000) (hi : i0 ≤ i ∧ i + 46 ≤ i0 + 160) (hblk4 : w0.heap.size ≤ blk4) (hblk5 : w0.heap.size ≤ blk5) (hblk6 : w0.heap.size ≤ blk6) (hnz : ¬ (((c.Tenants.n : Nat) : Int) = 0)) :
    nQ w0.heap.size (fun v w' => Touch (fun b => b = bt) w0 w' ∧ ResE bt sl ns i0 160 v w') (some ⟨bt, 0, none⟩) blk4 c Ty4 blk5 s Ty5 blk6 v6c Ty6 tick7 w := by
  have A := B.A
  have hcl := ok.cl
  have hvl := ok.vl
  have htl := hs.tl
  have hxl := hs.xl
  have hle := ok.lease
  have hba := ok.bake
  have hre := ok.reg
  have hgt := ok.tl
  have hcn := B.A.cf.ce.1
  have hvn := B.A.cf.v.1
  have htn := B.A.cf.t.1
  unfold nQ
  repeat' first
    | exact ⟨B.A.T.t, _, _, rfl, B.tp, by omega⟩
    | (refine B.reb (by intro b hb; simp [blk] at hb <;> omega) (fun w' B => ?_); have A := B.A)
    | (intro bb hbb; have zz := B.A.T.t.size)
    | with_reducible refine ifT ?_
    | with_reducible refine ifF ?_
    | (with_reducible refine ifbd (fun h => ?_) (fun h => ?_))
    | (with_reducible refine ifbnd (fun h => ?_) (fun h => ?_))
    | (with_reducible refine ifbn (fun h => ?_) (fun h => ?_))
    | (refine ifb (fun h => ?_) (fun h => ?_))
    | (refine B.next (by intro b hb; simp [blk] at hb <;> omega) (by omega) (by omega) (by omega) (fun m j w' g0 g1 B hj => ?_); have A := B.A; refine ⟨m, rfl, ?_⟩)
    | (refine B.range (by intro b hb; simp [blk] at hb <;> omega) (by omega) (by omega) (by omega) (by omega) (fun m j w' g0 g1 B hj => ?_); have A := B.A; refine ⟨m, rfl, ?_⟩)
    | (refine B.yes (by intro b hb; simp [blk] at hb <;> omega) (by omega) (by omega) (by omega) (fun m j w' B hj => ?_); have A := B.A; refine ⟨m, rfl, ?_⟩)
    | (refine A.tn (by omega) (by omega) (fun q x hq hx => ?_); have hxo := hs.tr x (List.mem_of_getElem? hx))
    | (refine A.ce (by dsimp only; omega) (by dsimp only; omega) (fun q2 x2 hq2 hx2 => ?_); have hxo2 := hs.xr x2 (List.mem_of_getElem? hx2))
    | (refine A.ce (by omega) (by omega) (fun q2 x2 hq2 hx2 => ?_); have hxo2 := hs.xr x2 (List.mem_of_getElem? hx2))
    | refine ⟨x, A.rdT (o := 0) hq hx rfl, A.niT (o := 0) hq (by intro b hb; simp [blk] at hb <;> omega), ?_⟩
    | refine ⟨x2, A.rdX (o := 0) hq2 hx2 rfl, A.niX (o := 0) hq2 (by intro b hb; simp [blk] at hb <;> omega), ?_⟩
    | refine ⟨_, A.rdT hq hx rfl, A.niT hq (by intro b hb; simp [blk] at hb <;> omega), ?_⟩
    | refine ⟨_, A.rdT (o := 0) hq hx rfl, A.niT (o := 0) hq (by intro b hb; simp [blk] at hb <;> omega), ?_⟩
    | refine ⟨_, A.rdX hq2 hx2 rfl, A.niX hq2 (by intro b hb; simp [blk] at hb <;> omega), ?_⟩
    | refine ⟨_, A.rdX (o := 0) hq2 hx2 rfl, A.niX (o := 0) hq2 (by intro b hb; simp [blk] at hb <;> omega), ?_⟩
    | (refine B.pick (by intro b hb; simp [blk] at hb <;> omega) (by omega) lo lf (by omega) (fun m j w' B hj => ?_); have A := B.A; refine ⟨m, rfl, ?_⟩)
    | (refine B.list (by intro b hb; simp [blk] at hb <;> omega) (fun wa B => xW B.A.cf ok _) (fun l ys w' B lo lf ll => ?_); have A := B.A; refine ⟨l, rfl, ?_⟩)
    | (refine B.list (by intro b hb; simp [blk] at hb <;> omega) (fun wa B => oF B.A.cf ok _ _) (fun l ys w' B lo lf ll => ?_); have A := B.A; refine ⟨l, rfl, ?_⟩)
    | (refine B.tape (m := 20) (P := fun v => ∃ e : aC, v = .agg (List.toArray e.cells)) (by intro b hb; simp [blk] at hb <;> omega) (fun wa B => Calls.mono (pM B.again ok hs (by omega)) fun e w' ⟨v, he, ht, en, j, hv, tp, gj⟩ => ⟨v, he, ht, j, ⟨en, hv⟩, tp, gj⟩) (fun v j w' B hj ⟨en, hv⟩ => ?_); subst hv; have A := B.A; refine ⟨en, rfl, ?_⟩)
    | (refine B.tape (m := 40) (P := fun v => ∃ e : aC, v = .agg (List.toArray e.cells)) (by intro b hb; simp [blk] at hb <;> omega) (fun wa B => Calls.mono (aA5 B.again ok hs (by omega) (by dsimp only; omega) (fun y hy => by have := Option.some.inj (hx.symm.trans hy); subst this; assumption)) fun e w' ⟨v, he, ht, en, j, hv, tp, gj⟩ => ⟨v, he, ht, j, ⟨en, hv⟩, tp, gj⟩) (fun v j w' B hj ⟨en, hv⟩ => ?_); subst hv; have A := B.A; refine ⟨en, rfl, ?_⟩)
    | (refine B.call (by intro b hb; simp [blk] at hb <;> omega) (fun wa B => cO _ _ wa) ?_; rintro wa v w' B _ rfl; have A := B.A; refine ⟨_, rfl, ?_⟩)
theorem me_5 {blk4 : Nat} {Ty4 : Nat} {blk5 : Nat} {Ty5 : Nat} {blk6 : Nat} {v6c : aC} {Ty6 : Nat} {tick7 : Int} {v30 : Bool} {i : Nat} (B : TQ w0 w c g s ts xs bt sl ns i) (ok : bU c g) (hs : StOk g ts xs) (hM : i0 + 160 ≤ 700000) (hi : i0 ≤ i ∧ i + 66 ≤ i0 + 160) (hblk4 : w0.heap.size ≤ blk4) (hblk5 : w0.heap.size ≤ blk5) (hblk6 : w0.heap.size ≤ blk6) (hnz : v30 = false → ¬ (((c.Tenants.n : Nat) : Int) = 0)) :
    iW w0.heap.size (fun v w' => Touch (fun b => b = bt) w0 w' ∧ ResE bt sl ns i0 160 v w') (some ⟨bt, 0, none⟩) blk4 c Ty4 blk5 s Ty5 blk6 v6c Ty6 tick7 v30 w := by
  have A := B.A
  have hcl := ok.cl
  have hvl := ok.vl
  have htl := hs.tl
  have hxl := hs.xl
  have hle := ok.lease
  have hba := ok.bake
  have hre := ok.reg
  have hgt := ok.tl
  have hcn := B.A.cf.ce.1
  have hvn := B.A.cf.v.1
  have htn := B.A.cf.t.1
  unfold iW
  repeat' first
    | exact me_4 B ok hs hM (by omega) (by omega) (by omega) (by omega) (hnz (by assumption))
    | exact ⟨B.A.T.t, _, _, rfl, B.tp, by omega⟩
    | (refine B.reb (by intro b hb; simp [blk] at hb <;> omega) (fun w' B => ?_); have A := B.A)
    | (intro bb hbb; have zz := B.A.T.t.size)
    | with_reducible refine ifT ?_
    | with_reducible refine ifF ?_
    | (with_reducible refine ifbd (fun h => ?_) (fun h => ?_))
    | (with_reducible refine ifbnd (fun h => ?_) (fun h => ?_))
    | (with_reducible refine ifbn (fun h => ?_) (fun h => ?_))
    | (refine ifb (fun h => ?_) (fun h => ?_))
    | (refine B.next (by intro b hb; simp [blk] at hb <;> omega) (by omega) (by omega) (by omega) (fun m j w' g0 g1 B hj => ?_); have A := B.A; refine ⟨m, rfl, ?_⟩)
    | (refine B.range (by intro b hb; simp [blk] at hb <;> omega) (by omega) (by omega) (by omega) (by omega) (fun m j w' g0 g1 B hj => ?_); have A := B.A; refine ⟨m, rfl, ?_⟩)
    | (refine B.yes (by intro b hb; simp [blk] at hb <;> omega) (by omega) (by omega) (by omega) (fun m j w' B hj => ?_); have A := B.A; refine ⟨m, rfl, ?_⟩)
    | (refine A.tn (by omega) (by omega) (fun q x hq hx => ?_); have hxo := hs.tr x (List.mem_of_getElem? hx))
    | (refine A.ce (by dsimp only; omega) (by dsimp only; omega) (fun q2 x2 hq2 hx2 => ?_); have hxo2 := hs.xr x2 (List.mem_of_getElem? hx2))
    | (refine A.ce (by omega) (by omega) (fun q2 x2 hq2 hx2 => ?_); have hxo2 := hs.xr x2 (List.mem_of_getElem? hx2))
    | refine ⟨x, A.rdT (o := 0) hq hx rfl, A.niT (o := 0) hq (by intro b hb; simp [blk] at hb <;> omega), ?_⟩
    | refine ⟨x2, A.rdX (o := 0) hq2 hx2 rfl, A.niX (o := 0) hq2 (by intro b hb; simp [blk] at hb <;> omega), ?_⟩
    | refine ⟨_, A.rdT hq hx rfl, A.niT hq (by intro b hb; simp [blk] at hb <;> omega), ?_⟩
    | refine ⟨_, A.rdT (o := 0) hq hx rfl, A.niT (o := 0) hq (by intro b hb; simp [blk] at hb <;> omega), ?_⟩
    | refine ⟨_, A.rdX hq2 hx2 rfl, A.niX hq2 (by intro b hb; simp [blk] at hb <;> omega), ?_⟩
    | refine ⟨_, A.rdX (o := 0) hq2 hx2 rfl, A.niX (o := 0) hq2 (by intro b hb; simp [blk] at hb <;> omega), ?_⟩
    | (refine B.pick (by intro b hb; simp [blk] at hb <;> omega) (by omega) lo lf (by omega) (fun m j w' B hj => ?_); have A := B.A; refine ⟨m, rfl, ?_⟩)
    | (refine B.list (by intro b hb; simp [blk] at hb <;> omega) (fun wa B => xW B.A.cf ok _) (fun l ys w' B lo lf ll => ?_); have A := B.A; refine ⟨l, rfl, ?_⟩)
    | (refine B.list (by intro b hb; simp [blk] at hb <;> omega) (fun wa B => oF B.A.cf ok _ _) (fun l ys w' B lo lf ll => ?_); have A := B.A; refine ⟨l, rfl, ?_⟩)
    | (refine B.tape (m := 20) (P := fun v => ∃ e : aC, v = .agg (List.toArray e.cells)) (by intro b hb; simp [blk] at hb <;> omega) (fun wa B => Calls.mono (pM B.again ok hs (by omega)) fun e w' ⟨v, he, ht, en, j, hv, tp, gj⟩ => ⟨v, he, ht, j, ⟨en, hv⟩, tp, gj⟩) (fun v j w' B hj ⟨en, hv⟩ => ?_); subst hv; have A := B.A; refine ⟨en, rfl, ?_⟩)
    | (refine B.tape (m := 40) (P := fun v => ∃ e : aC, v = .agg (List.toArray e.cells)) (by intro b hb; simp [blk] at hb <;> omega) (fun wa B => Calls.mono (aA5 B.again ok hs (by omega) (by dsimp only; omega) (fun y hy => by have := Option.some.inj (hx.symm.trans hy); subst this; assumption)) fun e w' ⟨v, he, ht, en, j, hv, tp, gj⟩ => ⟨v, he, ht, j, ⟨en, hv⟩, tp, gj⟩) (fun v j w' B hj ⟨en, hv⟩ => ?_); subst hv; have A := B.A; refine ⟨en, rfl, ?_⟩)
    | (refine B.call (by intro b hb; simp [blk] at hb <;> omega) (fun wa B => cO _ _ wa) ?_; rintro wa v w' B _ rfl; have A := B.A; refine ⟨_, rfl, ?_⟩)
theorem me_3 {blk4 : Nat} {Ty4 : Nat} {blk5 : Nat} {Ty5 : Nat} {blk6 : Nat} {v6c : aC} {Ty6 : Nat} {tick7 : Int} {i : Nat} (B : TQ w0 w c g s ts xs bt sl ns i) (ok : bU c g) (hs : StOk g ts xs) (hM : i0 + 160 ≤ 700000) (hi : i0 ≤ i ∧ i + 67 ≤ i0 + 160) (hblk4 : w0.heap.size ≤ blk4) (hblk5 : w0.heap.size ≤ blk5) (hblk6 : w0.heap.size ≤ blk6) :
    iX w0.heap.size (fun v w' => Touch (fun b => b = bt) w0 w' ∧ ResE bt sl ns i0 160 v w') (some ⟨bt, 0, none⟩) blk4 c Ty4 blk5 s Ty5 blk6 v6c Ty6 tick7 w := by
  have A := B.A
  have hcl := ok.cl
  have hvl := ok.vl
  have htl := hs.tl
  have hxl := hs.xl
  have hle := ok.lease
  have hba := ok.bake
  have hre := ok.reg
  have hgt := ok.tl
  have hcn := B.A.cf.ce.1
  have hvn := B.A.cf.v.1
  have htn := B.A.cf.t.1
  unfold iX
  repeat' first
    | exact me_5 B ok hs hM (by omega) (by omega) (by omega) (by omega) (by first | (intro _; assumption) | exact fun hh => Bool.noConfusion hh)
    | exact ⟨B.A.T.t, _, _, rfl, B.tp, by omega⟩
    | (refine B.reb (by intro b hb; simp [blk] at hb <;> omega) (fun w' B => ?_); have A := B.A)
    | (intro bb hbb; have zz := B.A.T.t.size)
    | with_reducible refine ifT ?_
    | with_reducible refine ifF ?_
    | (with_reducible refine ifbd (fun h => ?_) (fun h => ?_))
    | (with_reducible refine ifbnd (fun h => ?_) (fun h => ?_))
    | (with_reducible refine ifbn (fun h => ?_) (fun h => ?_))
    | (refine ifb (fun h => ?_) (fun h => ?_))
    | (refine B.next (by intro b hb; simp [blk] at hb <;> omega) (by omega) (by omega) (by omega) (fun m j w' g0 g1 B hj => ?_); have A := B.A; refine ⟨m, rfl, ?_⟩)
    | (refine B.range (by intro b hb; simp [blk] at hb <;> omega) (by omega) (by omega) (by omega) (by omega) (fun m j w' g0 g1 B hj => ?_); have A := B.A; refine ⟨m, rfl, ?_⟩)
    | (refine B.yes (by intro b hb; simp [blk] at hb <;> omega) (by omega) (by omega) (by omega) (fun m j w' B hj => ?_); have A := B.A; refine ⟨m, rfl, ?_⟩)
    | (refine A.tn (by omega) (by omega) (fun q x hq hx => ?_); have hxo := hs.tr x (List.mem_of_getElem? hx))
    | (refine A.ce (by dsimp only; omega) (by dsimp only; omega) (fun q2 x2 hq2 hx2 => ?_); have hxo2 := hs.xr x2 (List.mem_of_getElem? hx2))
    | (refine A.ce (by omega) (by omega) (fun q2 x2 hq2 hx2 => ?_); have hxo2 := hs.xr x2 (List.mem_of_getElem? hx2))
    | refine ⟨x, A.rdT (o := 0) hq hx rfl, A.niT (o := 0) hq (by intro b hb; simp [blk] at hb <;> omega), ?_⟩
    | refine ⟨x2, A.rdX (o := 0) hq2 hx2 rfl, A.niX (o := 0) hq2 (by intro b hb; simp [blk] at hb <;> omega), ?_⟩
    | refine ⟨_, A.rdT hq hx rfl, A.niT hq (by intro b hb; simp [blk] at hb <;> omega), ?_⟩
    | refine ⟨_, A.rdT (o := 0) hq hx rfl, A.niT (o := 0) hq (by intro b hb; simp [blk] at hb <;> omega), ?_⟩
    | refine ⟨_, A.rdX hq2 hx2 rfl, A.niX hq2 (by intro b hb; simp [blk] at hb <;> omega), ?_⟩
    | refine ⟨_, A.rdX (o := 0) hq2 hx2 rfl, A.niX (o := 0) hq2 (by intro b hb; simp [blk] at hb <;> omega), ?_⟩
    | (refine B.pick (by intro b hb; simp [blk] at hb <;> omega) (by omega) lo lf (by omega) (fun m j w' B hj => ?_); have A := B.A; refine ⟨m, rfl, ?_⟩)
    | (refine B.list (by intro b hb; simp [blk] at hb <;> omega) (fun wa B => xW B.A.cf ok _) (fun l ys w' B lo lf ll => ?_); have A := B.A; refine ⟨l, rfl, ?_⟩)
    | (refine B.list (by intro b hb; simp [blk] at hb <;> omega) (fun wa B => oF B.A.cf ok _ _) (fun l ys w' B lo lf ll => ?_); have A := B.A; refine ⟨l, rfl, ?_⟩)
    | (refine B.tape (m := 20) (P := fun v => ∃ e : aC, v = .agg (List.toArray e.cells)) (by intro b hb; simp [blk] at hb <;> omega) (fun wa B => Calls.mono (pM B.again ok hs (by omega)) fun e w' ⟨v, he, ht, en, j, hv, tp, gj⟩ => ⟨v, he, ht, j, ⟨en, hv⟩, tp, gj⟩) (fun v j w' B hj ⟨en, hv⟩ => ?_); subst hv; have A := B.A; refine ⟨en, rfl, ?_⟩)
    | (refine B.tape (m := 40) (P := fun v => ∃ e : aC, v = .agg (List.toArray e.cells)) (by intro b hb; simp [blk] at hb <;> omega) (fun wa B => Calls.mono (aA5 B.again ok hs (by omega) (by dsimp only; omega) (fun y hy => by have := Option.some.inj (hx.symm.trans hy); subst this; assumption)) fun e w' ⟨v, he, ht, en, j, hv, tp, gj⟩ => ⟨v, he, ht, j, ⟨en, hv⟩, tp, gj⟩) (fun v j w' B hj ⟨en, hv⟩ => ?_); subst hv; have A := B.A; refine ⟨en, rfl, ?_⟩)
    | (refine B.call (by intro b hb; simp [blk] at hb <;> omega) (fun wa B => cO _ _ wa) ?_; rintro wa v w' B _ rfl; have A := B.A; refine ⟨_, rfl, ?_⟩)
theorem me_2 {blk4 : Nat} {Ty4 : Nat} {blk5 : Nat} {Ty5 : Nat} {blk6 : Nat} {v6c : aC} {Ty6 : Nat} {tick7 : Int} {i : Nat} (B : TQ w0 w c g s ts xs bt sl ns i) (ok : bU c g) (hs : StOk g ts xs) (hM : i0 + 160 ≤ 700000) (hi : i0 ≤ i ∧ i + 68 ≤ i0 + 160) (hblk4 : w0.heap.size ≤ blk4) (hblk5 : w0.heap.size ≤ blk5) (hblk6 : w0.heap.size ≤ blk6) :
    nV w0.heap.size (fun v w' => Touch (fun b => b = bt) w0 w' ∧ ResE bt sl ns i0 160 v w') (some ⟨bt, 0, none⟩) blk4 c Ty4 blk5 s Ty5 blk6 v6c Ty6 tick7 w := by
  have A := B.A
  have hcl := ok.cl
  have hvl := ok.vl
  have htl := hs.tl
  have hxl := hs.xl
  have hle := ok.lease
  have hba := ok.bake
  have hre := ok.reg
  have hgt := ok.tl
  have hcn := B.A.cf.ce.1
  have hvn := B.A.cf.v.1
  have htn := B.A.cf.t.1
  unfold nV
  repeat' first
    | exact me_3 B ok hs hM (by omega) (by omega) (by omega) (by omega)
    | exact ⟨B.A.T.t, _, _, rfl, B.tp, by omega⟩
    | (refine B.reb (by intro b hb; simp [blk] at hb <;> omega) (fun w' B => ?_); have A := B.A)
    | (intro bb hbb; have zz := B.A.T.t.size)
    | with_reducible refine ifT ?_
    | with_reducible refine ifF ?_
    | (with_reducible refine ifbd (fun h => ?_) (fun h => ?_))
    | (with_reducible refine ifbnd (fun h => ?_) (fun h => ?_))
    | (with_reducible refine ifbn (fun h => ?_) (fun h => ?_))
    | (refine ifb (fun h => ?_) (fun h => ?_))
    | (refine B.next (by intro b hb; simp [blk] at hb <;> omega) (by omega) (by omega) (by omega) (fun m j w' g0 g1 B hj => ?_); have A := B.A; refine ⟨m, rfl, ?_⟩)
    | (refine B.range (by intro b hb; simp [blk] at hb <;> omega) (by omega) (by omega) (by omega) (by omega) (fun m j w' g0 g1 B hj => ?_); have A := B.A; refine ⟨m, rfl, ?_⟩)
    | (refine B.yes (by intro b hb; simp [blk] at hb <;> omega) (by omega) (by omega) (by omega) (fun m j w' B hj => ?_); have A := B.A; refine ⟨m, rfl, ?_⟩)
    | (refine A.tn (by omega) (by omega) (fun q x hq hx => ?_); have hxo := hs.tr x (List.mem_of_getElem? hx))
    | (refine A.ce (by dsimp only; omega) (by dsimp only; omega) (fun q2 x2 hq2 hx2 => ?_); have hxo2 := hs.xr x2 (List.mem_of_getElem? hx2))
    | (refine A.ce (by omega) (by omega) (fun q2 x2 hq2 hx2 => ?_); have hxo2 := hs.xr x2 (List.mem_of_getElem? hx2))
    | refine ⟨x, A.rdT (o := 0) hq hx rfl, A.niT (o := 0) hq (by intro b hb; simp [blk] at hb <;> omega), ?_⟩
    | refine ⟨x2, A.rdX (o := 0) hq2 hx2 rfl, A.niX (o := 0) hq2 (by intro b hb; simp [blk] at hb <;> omega), ?_⟩
    | refine ⟨_, A.rdT hq hx rfl, A.niT hq (by intro b hb; simp [blk] at hb <;> omega), ?_⟩
    | refine ⟨_, A.rdT (o := 0) hq hx rfl, A.niT (o := 0) hq (by intro b hb; simp [blk] at hb <;> omega), ?_⟩
    | refine ⟨_, A.rdX hq2 hx2 rfl, A.niX hq2 (by intro b hb; simp [blk] at hb <;> omega), ?_⟩
    | refine ⟨_, A.rdX (o := 0) hq2 hx2 rfl, A.niX (o := 0) hq2 (by intro b hb; simp [blk] at hb <;> omega), ?_⟩
    | (refine B.pick (by intro b hb; simp [blk] at hb <;> omega) (by omega) lo lf (by omega) (fun m j w' B hj => ?_); have A := B.A; refine ⟨m, rfl, ?_⟩)
    | (refine B.list (by intro b hb; simp [blk] at hb <;> omega) (fun wa B => xW B.A.cf ok _) (fun l ys w' B lo lf ll => ?_); have A := B.A; refine ⟨l, rfl, ?_⟩)
    | (refine B.list (by intro b hb; simp [blk] at hb <;> omega) (fun wa B => oF B.A.cf ok _ _) (fun l ys w' B lo lf ll => ?_); have A := B.A; refine ⟨l, rfl, ?_⟩)
    | (refine B.tape (m := 20) (P := fun v => ∃ e : aC, v = .agg (List.toArray e.cells)) (by intro b hb; simp [blk] at hb <;> omega) (fun wa B => Calls.mono (pM B.again ok hs (by omega)) fun e w' ⟨v, he, ht, en, j, hv, tp, gj⟩ => ⟨v, he, ht, j, ⟨en, hv⟩, tp, gj⟩) (fun v j w' B hj ⟨en, hv⟩ => ?_); subst hv; have A := B.A; refine ⟨en, rfl, ?_⟩)
    | (refine B.tape (m := 40) (P := fun v => ∃ e : aC, v = .agg (List.toArray e.cells)) (by intro b hb; simp [blk] at hb <;> omega) (fun wa B => Calls.mono (aA5 B.again ok hs (by omega) (by dsimp only; omega) (fun y hy => by have := Option.some.inj (hx.symm.trans hy); subst this; assumption)) fun e w' ⟨v, he, ht, en, j, hv, tp, gj⟩ => ⟨v, he, ht, j, ⟨en, hv⟩, tp, gj⟩) (fun v j w' B hj ⟨en, hv⟩ => ?_); subst hv; have A := B.A; refine ⟨en, rfl, ?_⟩)
    | (refine B.call (by intro b hb; simp [blk] at hb <;> omega) (fun wa B => cO _ _ wa) ?_; rintro wa v w' B _ rfl; have A := B.A; refine ⟨_, rfl, ?_⟩)
theorem me_1 {blk4 : Nat} {Ty4 : Nat} {blk5 : Nat} {Ty5 : Nat} {blk6 : Nat} {v6c : aC} {Ty6 : Nat} {i : Nat} (B : TQ w0 w c g s ts xs bt sl ns i) (ok : bU c g) (hs : StOk g ts xs) (hM : i0 + 160 ≤ 700000) (hi : i0 ≤ i ∧ i + 69 ≤ i0 + 160) (hblk4 : w0.heap.size ≤ blk4) (hblk5 : w0.heap.size ≤ blk5) (hblk6 : w0.heap.size ≤ blk6) :
    iY w0.heap.size (fun v w' => Touch (fun b => b = bt) w0 w' ∧ ResE bt sl ns i0 160 v w') (some ⟨bt, 0, none⟩) blk4 c Ty4 blk5 s Ty5 blk6 v6c Ty6 w := by
  have A := B.A
  have hcl := ok.cl
  have hvl := ok.vl
  have htl := hs.tl
  have hxl := hs.xl
  have hle := ok.lease
  have hba := ok.bake
  have hre := ok.reg
  have hgt := ok.tl
  have hcn := B.A.cf.ce.1
  have hvn := B.A.cf.v.1
  have htn := B.A.cf.t.1
  unfold iY
  repeat' first
    | exact me_2 B ok hs hM (by omega) (by omega) (by omega) (by omega)
    | exact ⟨B.A.T.t, _, _, rfl, B.tp, by omega⟩
    | (refine B.reb (by intro b hb; simp [blk] at hb <;> omega) (fun w' B => ?_); have A := B.A)
    | (intro bb hbb; have zz := B.A.T.t.size)
    | with_reducible refine ifT ?_
    | with_reducible refine ifF ?_
    | (with_reducible refine ifbd (fun h => ?_) (fun h => ?_))
    | (with_reducible refine ifbnd (fun h => ?_) (fun h => ?_))
    | (with_reducible refine ifbn (fun h => ?_) (fun h => ?_))
    | (refine ifb (fun h => ?_) (fun h => ?_))
    | (refine B.next (by intro b hb; simp [blk] at hb <;> omega) (by omega) (by omega) (by omega) (fun m j w' g0 g1 B hj => ?_); have A := B.A; refine ⟨m, rfl, ?_⟩)
    | (refine B.range (by intro b hb; simp [blk] at hb <;> omega) (by omega) (by omega) (by omega) (by omega) (fun m j w' g0 g1 B hj => ?_); have A := B.A; refine ⟨m, rfl, ?_⟩)
    | (refine B.yes (by intro b hb; simp [blk] at hb <;> omega) (by omega) (by omega) (by omega) (fun m j w' B hj => ?_); have A := B.A; refine ⟨m, rfl, ?_⟩)
    | (refine A.tn (by omega) (by omega) (fun q x hq hx => ?_); have hxo := hs.tr x (List.mem_of_getElem? hx))
    | (refine A.ce (by dsimp only; omega) (by dsimp only; omega) (fun q2 x2 hq2 hx2 => ?_); have hxo2 := hs.xr x2 (List.mem_of_getElem? hx2))
    | (refine A.ce (by omega) (by omega) (fun q2 x2 hq2 hx2 => ?_); have hxo2 := hs.xr x2 (List.mem_of_getElem? hx2))
    | refine ⟨x, A.rdT (o := 0) hq hx rfl, A.niT (o := 0) hq (by intro b hb; simp [blk] at hb <;> omega), ?_⟩
    | refine ⟨x2, A.rdX (o := 0) hq2 hx2 rfl, A.niX (o := 0) hq2 (by intro b hb; simp [blk] at hb <;> omega), ?_⟩
    | refine ⟨_, A.rdT hq hx rfl, A.niT hq (by intro b hb; simp [blk] at hb <;> omega), ?_⟩
    | refine ⟨_, A.rdT (o := 0) hq hx rfl, A.niT (o := 0) hq (by intro b hb; simp [blk] at hb <;> omega), ?_⟩
    | refine ⟨_, A.rdX hq2 hx2 rfl, A.niX hq2 (by intro b hb; simp [blk] at hb <;> omega), ?_⟩
    | refine ⟨_, A.rdX (o := 0) hq2 hx2 rfl, A.niX (o := 0) hq2 (by intro b hb; simp [blk] at hb <;> omega), ?_⟩
    | (refine B.pick (by intro b hb; simp [blk] at hb <;> omega) (by omega) lo lf (by omega) (fun m j w' B hj => ?_); have A := B.A; refine ⟨m, rfl, ?_⟩)
    | (refine B.list (by intro b hb; simp [blk] at hb <;> omega) (fun wa B => xW B.A.cf ok _) (fun l ys w' B lo lf ll => ?_); have A := B.A; refine ⟨l, rfl, ?_⟩)
    | (refine B.list (by intro b hb; simp [blk] at hb <;> omega) (fun wa B => oF B.A.cf ok _ _) (fun l ys w' B lo lf ll => ?_); have A := B.A; refine ⟨l, rfl, ?_⟩)
    | (refine B.tape (m := 20) (P := fun v => ∃ e : aC, v = .agg (List.toArray e.cells)) (by intro b hb; simp [blk] at hb <;> omega) (fun wa B => Calls.mono (pM B.again ok hs (by omega)) fun e w' ⟨v, he, ht, en, j, hv, tp, gj⟩ => ⟨v, he, ht, j, ⟨en, hv⟩, tp, gj⟩) (fun v j w' B hj ⟨en, hv⟩ => ?_); subst hv; have A := B.A; refine ⟨en, rfl, ?_⟩)
    | (refine B.tape (m := 40) (P := fun v => ∃ e : aC, v = .agg (List.toArray e.cells)) (by intro b hb; simp [blk] at hb <;> omega) (fun wa B => Calls.mono (aA5 B.again ok hs (by omega) (by dsimp only; omega) (fun y hy => by have := Option.some.inj (hx.symm.trans hy); subst this; assumption)) fun e w' ⟨v, he, ht, en, j, hv, tp, gj⟩ => ⟨v, he, ht, j, ⟨en, hv⟩, tp, gj⟩) (fun v j w' B hj ⟨en, hv⟩ => ?_); subst hv; have A := B.A; refine ⟨en, rfl, ?_⟩)
    | (refine B.call (by intro b hb; simp [blk] at hb <;> omega) (fun wa B => cO _ _ wa) ?_; rintro wa v w' B _ rfl; have A := B.A; refine ⟨_, rfl, ?_⟩)
end
end Go.Sh
