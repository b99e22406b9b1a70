/- A part of the proof (printed smaller by a program of ours). Conditions: none. -/
import Derived.Test.YtoenaheehpjmiaaDoorKEM13
namespace Go.Sh
open Go
set_option linter.unusedSimpArgs false
set_option linter.unusedVariables false
set_option maxHeartbeats 8000000
section
variable {w0 w : World} {c : aB} {g : Cfg} {s : aA} {ts : List aJ} {xs : List aL} {bt i0 : Nat} {sl : Sl} {ns : List Int}
theorem mg_9 {blk5 : Nat} {Ty5 : Nat} {blk6 : Nat} {Ty6 : Nat} {blk7 : Nat} {e7c : aC} {Ty7 : Nat} {blk8 : Nat} {v8c : aC} {Ty8 : Nat} {i : Nat} (B : TQ w0 w c g s ts xs bt sl ns i) (ok : bU c g) (hs : StOk g ts xs) (hM : i0 + 40 ≤ 900000) (hi : i0 ≤ i ∧ i + 3 ≤ i0 + 40) (hblk5 : w0.heap.size ≤ blk5) (hblk6 : w0.heap.size ≤ blk6) (hblk7 : w0.heap.size ≤ blk7) (hblk8 : w0.heap.size ≤ blk8) (he : 0 ≤ e7c.Cell ∧ e7c.Cell < g.cs.length) :
    iU w0.heap.size (fun v w' => Touch (fun b => b = bt) w0 w' ∧ ResE bt sl ns i0 40 v w') (some ⟨bt, 0, none⟩) blk5 c Ty5 blk6 s Ty6 blk7 e7c Ty7 blk8 v8c Ty8 w := by
  have A := B.A
  have hcl := ok.cl
  have hvl := ok.vl
  have htl := hs.tl
  have hxl := hs.xl
  have hle := ok.lease
  have hba := ok.bake
  have hre := ok.reg
  have hcn := B.A.cf.ce.1
  have hvn := B.A.cf.v.1
  have htn := B.A.cf.t.1
  unfold iU
  repeat' first
    | exact ⟨B.A.T.t, _, _, rfl, B.tp, by omega⟩
    | (refine B.reb (by intro b hb; simp [blk] at hb <;> omega) (fun w' B => ?_); have A := B.A)
    | (intro bb hbb; have zz := B.A.T.t.size)
    | with_reducible refine ifT ?_
    | with_reducible refine ifF ?_
    | (with_reducible refine ifbd (fun h => ?_) (fun h => ?_))
    | (with_reducible refine ifbnd (fun h => ?_) (fun h => ?_))
    | (with_reducible refine ifbn (fun h => ?_) (fun h => ?_))
    | (refine ifb (fun h => ?_) (fun h => ?_))
    | (refine B.next (by intro b hb; simp [blk] at hb <;> omega) (by omega) (by omega) (by omega) (fun m j w' g0 g1 B hj => ?_); have A := B.A; refine ⟨m, rfl, ?_⟩)
    | (refine B.range (by intro b hb; simp [blk] at hb <;> omega) (by omega) (by omega) (by omega) (by omega) (fun m j w' g0 g1 B hj => ?_); have A := B.A; refine ⟨m, rfl, ?_⟩)
    | (refine B.yes (by intro b hb; simp [blk] at hb <;> omega) (by omega) (by omega) (by omega) (fun m j w' B hj => ?_); have A := B.A; refine ⟨m, rfl, ?_⟩)
    | (refine A.tn (by omega) (by omega) (fun q x hq hx => ?_); have hxo := hs.tr x (List.mem_of_getElem? hx))
    | (refine A.ce (by dsimp only; omega) (by dsimp only; omega) (fun q2 x2 hq2 hx2 => ?_); have hxo2 := hs.xr x2 (List.mem_of_getElem? hx2))
    | (refine A.ce (by omega) (by omega) (fun q2 x2 hq2 hx2 => ?_); have hxo2 := hs.xr x2 (List.mem_of_getElem? hx2))
    | refine ⟨x, A.rdT (o := 0) hq hx rfl, A.niT (o := 0) hq (by intro b hb; simp [blk] at hb <;> omega), ?_⟩
    | refine ⟨x2, A.rdX (o := 0) hq2 hx2 rfl, A.niX (o := 0) hq2 (by intro b hb; simp [blk] at hb <;> omega), ?_⟩
    | refine ⟨_, A.rdT hq hx rfl, A.niT hq (by intro b hb; simp [blk] at hb <;> omega), ?_⟩
    | refine ⟨_, A.rdT (o := 0) hq hx rfl, A.niT (o := 0) hq (by intro b hb; simp [blk] at hb <;> omega), ?_⟩
    | refine ⟨_, A.rdX hq2 hx2 rfl, A.niX hq2 (by intro b hb; simp [blk] at hb <;> omega), ?_⟩
    | refine ⟨_, A.rdX (o := 0) hq2 hx2 rfl, A.niX (o := 0) hq2 (by intro b hb; simp [blk] at hb <;> omega), ?_⟩
theorem mg_8 {blk5 : Nat} {Ty5 : Nat} {blk6 : Nat} {Ty6 : Nat} {blk7 : Nat} {e7c : aC} {Ty7 : Nat} {blk8 : Nat} {v8c : aC} {Ty8 : Nat} {i : Nat} (B : TQ w0 w c g s ts xs bt sl ns i) (ok : bU c g) (hs : StOk g ts xs) (hM : i0 + 40 ≤ 900000) (hi : i0 ≤ i ∧ i + 5 ≤ i0 + 40) (hblk5 : w0.heap.size ≤ blk5) (hblk6 : w0.heap.size ≤ blk6) (hblk7 : w0.heap.size ≤ blk7) (hblk8 : w0.heap.size ≤ blk8) (he : 0 ≤ e7c.Cell ∧ e7c.Cell < g.cs.length) :
    nY w0.heap.size (fun v w' => Touch (fun b => b = bt) w0 w' ∧ ResE bt sl ns i0 40 v w') (some ⟨bt, 0, none⟩) blk5 c Ty5 blk6 s Ty6 blk7 e7c Ty7 blk8 v8c Ty8 w := by
  have A := B.A
  have hcl := ok.cl
  have hvl := ok.vl
  have htl := hs.tl
  have hxl := hs.xl
  have hle := ok.lease
  have hba := ok.bake
  have hre := ok.reg
  have hcn := B.A.cf.ce.1
  have hvn := B.A.cf.v.1
  have htn := B.A.cf.t.1
  unfold nY
  repeat' first
    | exact mg_9 B ok hs hM (by omega) (by omega) (by omega) (by omega) (by omega) (by first | assumption | (dsimp only; omega))
    | exact ⟨B.A.T.t, _, _, rfl, B.tp, by omega⟩
    | (refine B.reb (by intro b hb; simp [blk] at hb <;> omega) (fun w' B => ?_); have A := B.A)
    | (intro bb hbb; have zz := B.A.T.t.size)
    | with_reducible refine ifT ?_
    | with_reducible refine ifF ?_
    | (with_reducible refine ifbd (fun h => ?_) (fun h => ?_))
    | (with_reducible refine ifbnd (fun h => ?_) (fun h => ?_))
    | (with_reducible refine ifbn (fun h => ?_) (fun h => ?_))
    | (refine ifb (fun h => ?_) (fun h => ?_))
    | (refine B.next (by intro b hb; simp [blk] at hb <;> omega) (by omega) (by omega) (by omega) (fun m j w' g0 g1 B hj => ?_); have A := B.A; refine ⟨m, rfl, ?_⟩)
    | (refine B.range (by intro b hb; simp [blk] at hb <;> omega) (by omega) (by omega) (by omega) (by omega) (fun m j w' g0 g1 B hj => ?_); have A := B.A; refine ⟨m, rfl, ?_⟩)
    | (refine B.yes (by intro b hb; simp [blk] at hb <;> omega) (by omega) (by omega) (by omega) (fun m j w' B hj => ?_); have A := B.A; refine ⟨m, rfl, ?_⟩)
    | (refine A.tn (by omega) (by omega) (fun q x hq hx => ?_); have hxo := hs.tr x (List.mem_of_getElem? hx))
    | (refine A.ce (by dsimp only; omega) (by dsimp only; omega) (fun q2 x2 hq2 hx2 => ?_); have hxo2 := hs.xr x2 (List.mem_of_getElem? hx2))
    | (refine A.ce (by omega) (by omega) (fun q2 x2 hq2 hx2 => ?_); have hxo2 := hs.xr x2 (List.mem_of_getElem? hx2))
    | refine ⟨x, A.rdT (o := 0) hq hx rfl, A.niT (o := 0) hq (by intro b hb; simp [blk] at hb <;> omega), ?_⟩
    | refine ⟨x2, A.rdX (o := 0) hq2 hx2 rfl, A.niX (o := 0) hq2 (by intro b hb; simp [blk] at hb <;> omega), ?_⟩
    | refine ⟨_, A.rdT hq hx rfl, A.niT hq (by intro b hb; simp [blk] at hb <;> omega), ?_⟩
    | refine ⟨_, A.rdT (o := 0) hq hx rfl, A.niT (o := 0) hq (by intro b hb; simp [blk] at hb <;> omega), ?_⟩
    | refine ⟨_, A.rdX hq2 hx2 rfl, A.niX hq2 (by intro b hb; simp [blk] at hb <;> omega), ?_⟩
    | refine ⟨_, A.rdX (o := 0) hq2 hx2 rfl, A.niX (o := 0) hq2 (by intro b hb; simp [blk] at hb <;> omega), ?_⟩
theorem mg_7 {blk5 : Nat} {Ty5 : Nat} {blk6 : Nat} {Ty6 : Nat} {blk7 : Nat} {e7c : aC} {Ty7 : Nat} {blk8 : Nat} {v8c : aC} {Ty8 : Nat} {blk9 : Nat} {x9c : aJ} {Ty9 : Nat} {i : Nat} (B : TQ w0 w c g s ts xs bt sl ns i) (ok : bU c g) (hs : StOk g ts xs) (hM : i0 + 40 ≤ 900000) (hi : i0 ≤ i ∧ i + 5 ≤ i0 + 40) (hblk5 : w0.heap.size ≤ blk5) (hblk6 : w0.heap.size ≤ blk6) (hblk7 : w0.heap.size ≤ blk7) (hblk8 : w0.heap.size ≤ blk8) (hblk9 : w0.heap.size ≤ blk9) (hx9 : TnOk g x9c) (hH : 0 ≤ x9c.Home) (he : 0 ≤ e7c.Cell ∧ e7c.Cell < g.cs.length) :
    iT w0.heap.size (fun v w' => Touch (fun b => b = bt) w0 w' ∧ ResE bt sl ns i0 40 v w') (some ⟨bt, 0, none⟩) blk5 c Ty5 blk6 s Ty6 blk7 e7c Ty7 blk8 v8c Ty8 blk9 x9c Ty9 w := by
  have A := B.A
  have hcl := ok.cl
  have hvl := ok.vl
  have htl := hs.tl
  have hxl := hs.xl
  have hle := ok.lease
  have hba := ok.bake
  have hre := ok.reg
  have hcn := B.A.cf.ce.1
  have hvn := B.A.cf.v.1
  have htn := B.A.cf.t.1
  have hc1 := hx9.h
  have hc2 := hx9.s
  have hc3 := hx9.g_
  unfold inC at hc1 hc2 hc3
  unfold iT
  repeat' first
    | exact mg_8 B ok hs hM (by omega) (by omega) (by omega) (by omega) (by omega) (by first | assumption | (dsimp only; omega))
    | exact ⟨B.A.T.t, _, _, rfl, B.tp, by omega⟩
    | (refine B.reb (by intro b hb; simp [blk] at hb <;> omega) (fun w' B => ?_); have A := B.A)
    | (intro bb hbb; have zz := B.A.T.t.size)
    | with_reducible refine ifT ?_
    | with_reducible refine ifF ?_
    | (with_reducible refine ifbd (fun h => ?_) (fun h => ?_))
    | (with_reducible refine ifbnd (fun h => ?_) (fun h => ?_))
    | (with_reducible refine ifbn (fun h => ?_) (fun h => ?_))
    | (refine ifb (fun h => ?_) (fun h => ?_))
    | (refine B.next (by intro b hb; simp [blk] at hb <;> omega) (by omega) (by omega) (by omega) (fun m j w' g0 g1 B hj => ?_); have A := B.A; refine ⟨m, rfl, ?_⟩)
    | (refine B.range (by intro b hb; simp [blk] at hb <;> omega) (by omega) (by omega) (by omega) (by omega) (fun m j w' g0 g1 B hj => ?_); have A := B.A; refine ⟨m, rfl, ?_⟩)
    | (refine B.yes (by intro b hb; simp [blk] at hb <;> omega) (by omega) (by omega) (by omega) (fun m j w' B hj => ?_); have A := B.A; refine ⟨m, rfl, ?_⟩)
    | (refine A.tn (by omega) (by omega) (fun q x hq hx => ?_); have hxo := hs.tr x (List.mem_of_getElem? hx))
    | (refine A.ce (by dsimp only; omega) (by dsimp only; omega) (fun q2 x2 hq2 hx2 => ?_); have hxo2 := hs.xr x2 (List.mem_of_getElem? hx2))
    | (refine A.ce (by omega) (by omega) (fun q2 x2 hq2 hx2 => ?_); have hxo2 := hs.xr x2 (List.mem_of_getElem? hx2))
    | refine ⟨x, A.rdT (o := 0) hq hx rfl, A.niT (o := 0) hq (by intro b hb; simp [blk] at hb <;> omega), ?_⟩
    | refine ⟨x2, A.rdX (o := 0) hq2 hx2 rfl, A.niX (o := 0) hq2 (by intro b hb; simp [blk] at hb <;> omega), ?_⟩
    | refine ⟨_, A.rdT hq hx rfl, A.niT hq (by intro b hb; simp [blk] at hb <;> omega), ?_⟩
    | refine ⟨_, A.rdT (o := 0) hq hx rfl, A.niT (o := 0) hq (by intro b hb; simp [blk] at hb <;> omega), ?_⟩
    | refine ⟨_, A.rdX hq2 hx2 rfl, A.niX hq2 (by intro b hb; simp [blk] at hb <;> omega), ?_⟩
    | refine ⟨_, A.rdX (o := 0) hq2 hx2 rfl, A.niX (o := 0) hq2 (by intro b hb; simp [blk] at hb <;> omega), ?_⟩
theorem a3I {blk5 : Nat} {Ty5 : Nat} {blk6 : Nat} {Ty6 : Nat} {blk7 : Nat} {e7c : aC} {Ty7 : Nat} {blk8 : Nat} {v8c : aC} {Ty8 : Nat} {blk9 : Nat} {x9c : aJ} {Ty9 : Nat} {v73 : Bool} {i : Nat} (B : TQ w0 w c g s ts xs bt sl ns i) (ok : bU c g) (hs : StOk g ts xs) (hM : i0 + 40 ≤ 900000) (hi : i0 ≤ i ∧ i + 5 ≤ i0 + 40) (hblk5 : w0.heap.size ≤ blk5) (hblk6 : w0.heap.size ≤ blk6) (hblk7 : w0.heap.size ≤ blk7) (hblk8 : w0.heap.size ≤ blk8) (hblk9 : w0.heap.size ≤ blk9) (hx9 : TnOk g x9c) (hH : 0 ≤ x9c.Home) (he : 0 ≤ e7c.Cell ∧ e7c.Cell < g.cs.length) :
    iN w0.heap.size (fun v w' => Touch (fun b => b = bt) w0 w' ∧ ResE bt sl ns i0 40 v w') (some ⟨bt, 0, none⟩) blk5 c Ty5 blk6 s Ty6 blk7 e7c Ty7 blk8 v8c Ty8 blk9 x9c Ty9 v73 w := by
  have A := B.A
  have hcl := ok.cl
  have hvl := ok.vl
  have htl := hs.tl
  have hxl := hs.xl
  have hle := ok.lease
  have hba := ok.bake
  have hre := ok.reg
  have hcn := B.A.cf.ce.1
  have hvn := B.A.cf.v.1
  have htn := B.A.cf.t.1
  have hc1 := hx9.h
  have hc2 := hx9.s
  have hc3 := hx9.g_
  unfold inC at hc1 hc2 hc3
  unfold iN
  repeat' first
    | exact mg_7 B ok hs hM (by omega) (by omega) (by omega) (by omega) (by omega) (by omega) hx9 hH (by first | assumption | (dsimp only; omega))
    | exact ⟨B.A.T.t, _, _, rfl, B.tp, by omega⟩
    | (refine B.reb (by intro b hb; simp [blk] at hb <;> omega) (fun w' B => ?_); have A := B.A)
    | (intro bb hbb; have zz := B.A.T.t.size)
    | with_reducible refine ifT ?_
    | with_reducible refine ifF ?_
    | (with_reducible refine ifbd (fun h => ?_) (fun h => ?_))
    | (with_reducible refine ifbnd (fun h => ?_) (fun h => ?_))
    | (with_reducible refine ifbn (fun h => ?_) (fun h => ?_))
    | (refine ifb (fun h => ?_) (fun h => ?_))
    | (refine B.next (by intro b hb; simp [blk] at hb <;> omega) (by omega) (by omega) (by omega) (fun m j w' g0 g1 B hj => ?_); have A := B.A; refine ⟨m, rfl, ?_⟩)
    | (refine B.range (by intro b hb; simp [blk] at hb <;> omega) (by omega) (by omega) (by omega) (by omega) (fun m j w' g0 g1 B hj => ?_); have A := B.A; refine ⟨m, rfl, ?_⟩)
    | (refine B.yes (by intro b hb; simp [blk] at hb <;> omega) (by omega) (by omega) (by omega) (fun m j w' B hj => ?_); have A := B.A; refine ⟨m, rfl, ?_⟩)
    | (refine A.tn (by omega) (by omega) (fun q x hq hx => ?_); have hxo := hs.tr x (List.mem_of_getElem? hx))
    | (refine A.ce (by dsimp only; omega) (by dsimp only; omega) (fun q2 x2 hq2 hx2 => ?_); have hxo2 := hs.xr x2 (List.mem_of_getElem? hx2))
    | (refine A.ce (by omega) (by omega) (fun q2 x2 hq2 hx2 => ?_); have hxo2 := hs.xr x2 (List.mem_of_getElem? hx2))
    | refine ⟨x, A.rdT (o := 0) hq hx rfl, A.niT (o := 0) hq (by intro b hb; simp [blk] at hb <;> omega), ?_⟩
    | refine ⟨x2, A.rdX (o := 0) hq2 hx2 rfl, A.niX (o := 0) hq2 (by intro b hb; simp [blk] at hb <;> omega), ?_⟩
    | refine ⟨_, A.rdT hq hx rfl, A.niT hq (by intro b hb; simp [blk] at hb <;> omega), ?_⟩
    | refine ⟨_, A.rdT (o := 0) hq hx rfl, A.niT (o := 0) hq (by intro b hb; simp [blk] at hb <;> omega), ?_⟩
    | refine ⟨_, A.rdX hq2 hx2 rfl, A.niX hq2 (by intro b hb; simp [blk] at hb <;> omega), ?_⟩
    | refine ⟨_, A.rdX (o := 0) hq2 hx2 rfl, A.niX (o := 0) hq2 (by intro b hb; simp [blk] at hb <;> omega), ?_⟩
theorem mg_6 {blk5 : Nat} {Ty5 : Nat} {blk6 : Nat} {Ty6 : Nat} {blk7 : Nat} {e7c : aC} {Ty7 : Nat} {blk8 : Nat} {v8c : aC} {Ty8 : Nat} {blk9 : Nat} {x9c : aJ} {Ty9 : Nat} {i : Nat} (B : TQ w0 w c g s ts xs bt sl ns i) (ok : bU c g) (hs : StOk g ts xs) (hM : i0 + 40 ≤ 900000) (hi : i0 ≤ i ∧ i + 6 ≤ i0 + 40) (hblk5 : w0.heap.size ≤ blk5) (hblk6 : w0.heap.size ≤ blk6) (hblk7 : w0.heap.size ≤ blk7) (hblk8 : w0.heap.size ≤ blk8) (hblk9 : w0.heap.size ≤ blk9) (hx9 : TnOk g x9c) (hH : 0 ≤ x9c.Home) (he : 0 ≤ e7c.Cell ∧ e7c.Cell < g.cs.length) :
    iZ w0.heap.size (fun v w' => Touch (fun b => b = bt) w0 w' ∧ ResE bt sl ns i0 40 v w') (some ⟨bt, 0, none⟩) blk5 c Ty5 blk6 s Ty6 blk7 e7c Ty7 blk8 v8c Ty8 blk9 x9c Ty9 w := by
  have A := B.A
  have hcl := ok.cl
  have hvl := ok.vl
  have htl := hs.tl
  have hxl := hs.xl
  have hle := ok.lease
  have hba := ok.bake
  have hre := ok.reg
  have hcn := B.A.cf.ce.1
  have hvn := B.A.cf.v.1
  have htn := B.A.cf.t.1
  have hc1 := hx9.h
  have hc2 := hx9.s
  have hc3 := hx9.g_
  unfold inC at hc1 hc2 hc3
  unfold iZ
  repeat' first
    | exact a3I B ok hs hM (by omega) (by omega) (by omega) (by omega) (by omega) (by omega) hx9 hH (by first | assumption | (dsimp only; omega))
    | exact ⟨B.A.T.t, _, _, rfl, B.tp, by omega⟩
    | (refine B.reb (by intro b hb; simp [blk] at hb <;> omega) (fun w' B => ?_); have A := B.A)
    | (intro bb hbb; have zz := B.A.T.t.size)
    | with_reducible refine ifT ?_
    | with_reducible refine ifF ?_
    | (with_reducible refine ifbd (fun h => ?_) (fun h => ?_))
    | (with_reducible refine ifbnd (fun h => ?_) (fun h => ?_))
    | (with_reducible refine ifbn (fun h => ?_) (fun h => ?_))
    | (refine ifb (fun h => ?_) (fun h => ?_))
    | (refine B.next (by intro b hb; simp [blk] at hb <;> omega) (by omega) (by omega) (by omega) (fun m j w' g0 g1 B hj => ?_); have A := B.A; refine ⟨m, rfl, ?_⟩)
    | (refine B.range (by intro b hb; simp [blk] at hb <;> omega) (by omega) (by omega) (by omega) (by omega) (fun m j w' g0 g1 B hj => ?_); have A := B.A; refine ⟨m, rfl, ?_⟩)
    | (refine B.yes (by intro b hb; simp [blk] at hb <;> omega) (by omega) (by omega) (by omega) (fun m j w' B hj => ?_); have A := B.A; refine ⟨m, rfl, ?_⟩)
    | (refine A.tn (by omega) (by omega) (fun q x hq hx => ?_); have hxo := hs.tr x (List.mem_of_getElem? hx))
    | (refine A.ce (by dsimp only; omega) (by dsimp only; omega) (fun q2 x2 hq2 hx2 => ?_); have hxo2 := hs.xr x2 (List.mem_of_getElem? hx2))
    | (refine A.ce (by omega) (by omega) (fun q2 x2 hq2 hx2 => ?_); have hxo2 := hs.xr x2 (List.mem_of_getElem? hx2))
    | refine ⟨x, A.rdT (o := 0) hq hx rfl, A.niT (o := 0) hq (by intro b hb; simp [blk] at hb <;> omega), ?_⟩
    | refine ⟨x2, A.rdX (o := 0) hq2 hx2 rfl, A.niX (o := 0) hq2 (by intro b hb; simp [blk] at hb <;> omega), ?_⟩
    | refine ⟨_, A.rdT hq hx rfl, A.niT hq (by intro b hb; simp [blk] at hb <;> omega), ?_⟩
    | refine ⟨_, A.rdT (o := 0) hq hx rfl, A.niT (o := 0) hq (by intro b hb; simp [blk] at hb <;> omega), ?_⟩
    | refine ⟨_, A.rdX hq2 hx2 rfl, A.niX hq2 (by intro b hb; simp [blk] at hb <;> omega), ?_⟩
    | refine ⟨_, A.rdX (o := 0) hq2 hx2 rfl, A.niX (o := 0) hq2 (by intro b hb; simp [blk] at hb <;> omega), ?_⟩
theorem a3F {blk5 : Nat} {Ty5 : Nat} {blk6 : Nat} {Ty6 : Nat} {blk7 : Nat} {e7c : aC} {Ty7 : Nat} {blk8 : Nat} {v8c : aC} {Ty8 : Nat} {blk9 : Nat} {x9c : aJ} {Ty9 : Nat} {v59 : Bool} {i : Nat} (B : TQ w0 w c g s ts xs bt sl ns i) (ok : bU c g) (hs : StOk g ts xs) (hM : i0 + 40 ≤ 900000) (hi : i0 ≤ i ∧ i + 6 ≤ i0 + 40) (hblk5 : w0.heap.size ≤ blk5) (hblk6 : w0.heap.size ≤ blk6) (hblk7 : w0.heap.size ≤ blk7) (hblk8 : w0.heap.size ≤ blk8) (hblk9 : w0.heap.size ≤ blk9) (hx9 : TnOk g x9c) (hH : 0 ≤ x9c.Home) (he : 0 ≤ e7c.Cell ∧ e7c.Cell < g.cs.length) :
    fD w0.heap.size (fun v w' => Touch (fun b => b = bt) w0 w' ∧ ResE bt sl ns i0 40 v w') (some ⟨bt, 0, none⟩) blk5 c Ty5 blk6 s Ty6 blk7 e7c Ty7 blk8 v8c Ty8 blk9 x9c Ty9 v59 w := by
  have A := B.A
  have hcl := ok.cl
  have hvl := ok.vl
  have htl := hs.tl
  have hxl := hs.xl
  have hle := ok.lease
  have hba := ok.bake
  have hre := ok.reg
  have hcn := B.A.cf.ce.1
  have hvn := B.A.cf.v.1
  have htn := B.A.cf.t.1
  have hc1 := hx9.h
  have hc2 := hx9.s
  have hc3 := hx9.g_
  unfold inC at hc1 hc2 hc3
  unfold fD
  repeat' first
    | exact mg_6 B ok hs hM (by omega) (by omega) (by omega) (by omega) (by omega) (by omega) hx9 hH (by first | assumption | (dsimp only; omega))
    | exact ⟨B.A.T.t, _, _, rfl, B.tp, by omega⟩
    | (refine B.reb (by intro b hb; simp [blk] at hb <;> omega) (fun w' B => ?_); have A := B.A)
    | (intro bb hbb; have zz := B.A.T.t.size)
    | with_reducible refine ifT ?_
    | with_reducible refine ifF ?_
    | (with_reducible refine ifbd (fun h => ?_) (fun h => ?_))
    | (with_reducible refine ifbnd (fun h => ?_) (fun h => ?_))
    | (with_reducible refine ifbn (fun h => ?_) (fun h => ?_))
    | (refine ifb (fun h => ?_) (fun h => ?_))
    | (refine B.next (by intro b hb; simp [blk] at hb <;> omega) (by omega) (by omega) (by omega) (fun m j w' g0 g1 B hj => ?_); have A := B.A; refine ⟨m, rfl, ?_⟩)
    | (refine B.range (by intro b hb; simp [blk] at hb <;> omega) (by omega) (by omega) (by omega) (by omega) (fun m j w' g0 g1 B hj => ?_); have A := B.A; refine ⟨m, rfl, ?_⟩)
    | (refine B.yes (by intro b hb; simp [blk] at hb <;> omega) (by omega) (by omega) (by omega) (fun m j w' B hj => ?_); have A := B.A; refine ⟨m, rfl, ?_⟩)
    | (refine A.tn (by omega) (by omega) (fun q x hq hx => ?_); have hxo := hs.tr x (List.mem_of_getElem? hx))
    | (refine A.ce (by dsimp only; omega) (by dsimp only; omega) (fun q2 x2 hq2 hx2 => ?_); have hxo2 := hs.xr x2 (List.mem_of_getElem? hx2))
    | (refine A.ce (by omega) (by omega) (fun q2 x2 hq2 hx2 => ?_); have hxo2 := hs.xr x2 (List.mem_of_getElem? hx2))
    | refine ⟨x, A.rdT (o := 0) hq hx rfl, A.niT (o := 0) hq (by intro b hb; simp [blk] at hb <;> omega), ?_⟩
    | refine ⟨x2, A.rdX (o := 0) hq2 hx2 rfl, A.niX (o := 0) hq2 (by intro b hb; simp [blk] at hb <;> omega), ?_⟩
    | refine ⟨_, A.rdT hq hx rfl, A.niT hq (by intro b hb; simp [blk] at hb <;> omega), ?_⟩
    | refine ⟨_, A.rdT (o := 0) hq hx rfl, A.niT (o := 0) hq (by intro b hb; simp [blk] at hb <;> omega), ?_⟩
    | refine ⟨_, A.rdX hq2 hx2 rfl, A.niX hq2 (by intro b hb; simp [blk] at hb <;> omega), ?_⟩
    | refine ⟨_, A.rdX (o := 0) hq2 hx2 rfl, A.niX (o := 0) hq2 (by intro b hb; simp [blk] at hb <;> omega), ?_⟩
theorem mg_5 {blk5 : Nat} {Ty5 : Nat} {blk6 : Nat} {Ty6 : Nat} {blk7 : Nat} {e7c : aC} {Ty7 : Nat} {blk8 : Nat} {v8c : aC} {Ty8 : Nat} {blk9 : Nat} {x9c : aJ} {Ty9 : Nat} {i : Nat} (B : TQ w0 w c g s ts xs bt sl ns i) (ok : bU c g) (hs : StOk g ts xs) (hM : i0 + 40 ≤ 900000) (hi : i0 ≤ i ∧ i + 7 ≤ i0 + 40) (hblk5 : w0.heap.size ≤ blk5) (hblk6 : w0.heap.size ≤ blk6) (hblk7 : w0.heap.size ≤ blk7) (hblk8 : w0.heap.size ≤ blk8) (hblk9 : w0.heap.size ≤ blk9) (hx9 : TnOk g x9c) (hH : 0 ≤ x9c.Home) (he : 0 ≤ e7c.Cell ∧ e7c.Cell < g.cs.length) :
    oC w0.heap.size (fun v w' => Touch (fun b => b = bt) w0 w' ∧ ResE bt sl ns i0 40 v w') (some ⟨bt, 0, none⟩) blk5 c Ty5 blk6 s Ty6 blk7 e7c Ty7 blk8 v8c Ty8 blk9 x9c Ty9 w := by
  have A := B.A
  have hcl := ok.cl
  have hvl := ok.vl
  have htl := hs.tl
  have hxl := hs.xl
  have hle := ok.lease
  have hba := ok.bake
  have hre := ok.reg
  have hcn := B.A.cf.ce.1
  have hvn := B.A.cf.v.1
  have htn := B.A.cf.t.1
  have hc1 := hx9.h
  have hc2 := hx9.s
  have hc3 := hx9.g_
  unfold inC at hc1 hc2 hc3
  unfold oC
  repeat' first
    | exact a3F B ok hs hM (by omega) (by omega) (by omega) (by omega) (by omega) (by omega) hx9 hH (by first | assumption | (dsimp only; omega))
    | exact ⟨B.A.T.t, _, _, rfl, B.tp, by omega⟩
    | (refine B.reb (by intro b hb; simp [blk] at hb <;> omega) (fun w' B => ?_); have A := B.A)
    | (intro bb hbb; have zz := B.A.T.t.size)
    | with_reducible refine ifT ?_
    | with_reducible refine ifF ?_
    | (with_reducible refine ifbd (fun h => ?_) (fun h => ?_))
    | (with_reducible refine ifbnd (fun h => ?_) (fun h => ?_))
    | (with_reducible refine ifbn (fun h => ?_) (fun h => ?_))
    | (refine ifb (fun h => ?_) (fun h => ?_))
    | (refine B.next (by intro b hb; simp [blk] at hb <;> omega) (by omega) (by omega) (by omega) (fun m j w' g0 g1 B hj => ?_); have A := B.A; refine ⟨m, rfl, ?_⟩)
    | (refine B.range (by intro b hb; simp [blk] at hb <;> omega) (by omega) (by omega) (by omega) (by omega) (fun m j w' g0 g1 B hj => ?_); have A := B.A; refine ⟨m, rfl, ?_⟩)
    | (refine B.yes (by intro b hb; simp [blk] at hb <;> omega) (by omega) (by omega) (by omega) (fun m j w' B hj => ?_); have A := B.A; refine ⟨m, rfl, ?_⟩)
    | (refine A.tn (by omega) (by omega) (fun q x hq hx => ?_); have hxo := hs.tr x (List.mem_of_getElem? hx))
    | (refine A.ce (by dsimp only; omega) (by dsimp only; omega) (fun q2 x2 hq2 hx2 => ?_); have hxo2 := hs.xr x2 (List.mem_of_getElem? hx2))
    | (refine A.ce (by omega) (by omega) (fun q2 x2 hq2 hx2 => ?_); have hxo2 := hs.xr x2 (List.mem_of_getElem? hx2))
    | refine ⟨x, A.rdT (o := 0) hq hx rfl, A.niT (o := 0) hq (by intro b hb; simp [blk] at hb <;> omega), ?_⟩
    | refine ⟨x2, A.rdX (o := 0) hq2 hx2 rfl, A.niX (o := 0) hq2 (by intro b hb; simp [blk] at hb <;> omega), ?_⟩
    | refine ⟨_, A.rdT hq hx rfl, A.niT hq (by intro b hb; simp [blk] at hb <;> omega), ?_⟩
    | refine ⟨_, A.rdT (o := 0) hq hx rfl, A.niT (o := 0) hq (by intro b hb; simp [blk] at hb <;> omega), ?_⟩
    | refine ⟨_, A.rdX hq2 hx2 rfl, A.niX hq2 (by intro b hb; simp [blk] at hb <;> omega), ?_⟩
    | refine ⟨_, A.rdX (o := 0) hq2 hx2 rfl, A.niX (o := 0) hq2 (by intro b hb; simp [blk] at hb <;> omega), ?_⟩
theorem mg_4 {blk5 : Nat} {Ty5 : Nat} {blk6 : Nat} {Ty6 : Nat} {blk7 : Nat} {e7c : aC} {Ty7 : Nat} {blk8 : Nat} {v8c : aC} {Ty8 : Nat} {blk9 : Nat} {x9c : aJ} {Ty9 : Nat} {i : Nat} (B : TQ w0 w c g s ts xs bt sl ns i) (ok : bU c g) (hs : StOk g ts xs) (hM : i0 + 40 ≤ 900000) (hi : i0 ≤ i ∧ i + 7 ≤ i0 + 40) (hblk5 : w0.heap.size ≤ blk5) (hblk6 : w0.heap.size ≤ blk6) (hblk7 : w0.heap.size ≤ blk7) (hblk8 : w0.heap.size ≤ blk8) (hblk9 : w0.heap.size ≤ blk9) (hx9 : TnOk g x9c) (hH : 0 ≤ x9c.Home) (he : 0 ≤ e7c.Cell ∧ e7c.Cell < g.cs.length) :
    dD w0.heap.size (fun v w' => Touch (fun b => b = bt) w0 w' ∧ ResE bt sl ns i0 40 v w') (some ⟨bt, 0, none⟩) blk5 c Ty5 blk6 s Ty6 blk7 e7c Ty7 blk8 v8c Ty8 blk9 x9c Ty9 w := by
  have A := B.A
  have hcl := ok.cl
  have hvl := ok.vl
  have htl := hs.tl
  have hxl := hs.xl
  have hle := ok.lease
  have hba := ok.bake
  have hre := ok.reg
  have hcn := B.A.cf.ce.1
  have hvn := B.A.cf.v.1
  have htn := B.A.cf.t.1
  have hc1 := hx9.h
  have hc2 := hx9.s
  have hc3 := hx9.g_
  unfold inC at hc1 hc2 hc3
  unfold dD
  repeat' first
    | exact mg_5 B ok hs hM (by omega) (by omega) (by omega) (by omega) (by omega) (by omega) hx9 hH (by first | assumption | (dsimp only; omega))
    | exact ⟨B.A.T.t, _, _, rfl, B.tp, by omega⟩
    | (refine B.reb (by intro b hb; simp [blk] at hb <;> omega) (fun w' B => ?_); have A := B.A)
    | (intro bb hbb; have zz := B.A.T.t.size)
    | with_reducible refine ifT ?_
    | with_reducible refine ifF ?_
    | (with_reducible refine ifbd (fun h => ?_) (fun h => ?_))
    | (with_reducible refine ifbnd (fun h => ?_) (fun h => ?_))
    | (with_reducible refine ifbn (fun h => ?_) (fun h => ?_))
    | (refine ifb (fun h => ?_) (fun h => ?_))
    | (refine B.next (by intro b hb; simp [blk] at hb <;> omega) (by omega) (by omega) (by omega) (fun m j w' g0 g1 B hj => ?_); have A := B.A; refine ⟨m, rfl, ?_⟩)
    | (refine B.range (by intro b hb; simp [blk] at hb <;> omega) (by omega) (by omega) (by omega) (by omega) (fun m j w' g0 g1 B hj => ?_); have A := B.A; refine ⟨m, rfl, ?_⟩)
    | (refine B.yes (by intro b hb; simp [blk] at hb <;> omega) (by omega) (by omega) (by omega) (fun m j w' B hj => ?_); have A := B.A; refine ⟨m, rfl, ?_⟩)
    | (refine A.tn (by omega) (by omega) (fun q x hq hx => ?_); have hxo := hs.tr x (List.mem_of_getElem? hx))
    | (refine A.ce (by dsimp only; omega) (by dsimp only; omega) (fun q2 x2 hq2 hx2 => ?_); have hxo2 := hs.xr x2 (List.mem_of_getElem? hx2))
    | (refine A.ce (by omega) (by omega) (fun q2 x2 hq2 hx2 => ?_); have hxo2 := hs.xr x2 (List.mem_of_getElem? hx2))
    | refine ⟨x, A.rdT (o := 0) hq hx rfl, A.niT (o := 0) hq (by intro b hb; simp [blk] at hb <;> omega), ?_⟩
    | refine ⟨x2, A.rdX (o := 0) hq2 hx2 rfl, A.niX (o := 0) hq2 (by intro b hb; simp [blk] at hb <;> omega), ?_⟩
    | refine ⟨_, A.rdT hq hx rfl, A.niT hq (by intro b hb; simp [blk] at hb <;> omega), ?_⟩
    | refine ⟨_, A.rdT (o := 0) hq hx rfl, A.niT (o := 0) hq (by intro b hb; simp [blk] at hb <;> omega), ?_⟩
    | refine ⟨_, A.rdX hq2 hx2 rfl, A.niX hq2 (by intro b hb; simp [blk] at hb <;> omega), ?_⟩
    | refine ⟨_, A.rdX (o := 0) hq2 hx2 rfl, A.niX (o := 0) hq2 (by intro b hb; simp [blk] at hb <;> omega), ?_⟩
theorem a2Z {blk5 : Nat} {Ty5 : Nat} {blk6 : Nat} {Ty6 : Nat} {blk7 : Nat} {e7c : aC} {Ty7 : Nat} {blk8 : Nat} {v8c : aC} {Ty8 : Nat} {blk9 : Nat} {x9c : aJ} {Ty9 : Nat} {v25 : Bool} {i : Nat} (B : TQ w0 w c g s ts xs bt sl ns i) (ok : bU c g) (hs : StOk g ts xs) (hM : i0 + 40 ≤ 900000) (hi : i0 ≤ i ∧ i + 8 ≤ i0 + 40) (hblk5 : w0.heap.size ≤ blk5) (hblk6 : w0.heap.size ≤ blk6) (hblk7 : w0.heap.size ≤ blk7) (hblk8 : w0.heap.size ≤ blk8) (hblk9 : w0.heap.size ≤ blk9) (hx9 : TnOk g x9c) (hH : 0 ≤ x9c.Home) (he : 0 ≤ e7c.Cell ∧ e7c.Cell < g.cs.length) (hv : v25 = true → 0 ≤ x9c.Target) :
    iH w0.heap.size (fun v w' => Touch (fun b => b = bt) w0 w' ∧ ResE bt sl ns i0 40 v w') (some ⟨bt, 0, none⟩) blk5 c Ty5 blk6 s Ty6 blk7 e7c Ty7 blk8 v8c Ty8 blk9 x9c Ty9 v25 w := by
  have A := B.A
  have hcl := ok.cl
  have hvl := ok.vl
  have htl := hs.tl
  have hxl := hs.xl
  have hle := ok.lease
  have hba := ok.bake
  have hre := ok.reg
  have hcn := B.A.cf.ce.1
  have hvn := B.A.cf.v.1
  have htn := B.A.cf.t.1
  have hc1 := hx9.h
  have hc2 := hx9.s
  have hc3 := hx9.g_
  unfold inC at hc1 hc2 hc3
  unfold iH
  rcases Bool.eq_false_or_eq_true v25 with hvv | hvv
  all_goals (try have hTg := hv hvv)
  all_goals subst hvv
  all_goals
   repeat' first
    | exact mg_4 B ok hs hM (by omega) (by omega) (by omega) (by omega) (by omega) (by omega) hx9 hH (by first | assumption | (dsimp only; omega))
    | exact ⟨B.A.T.t, _, _, rfl, B.tp, by omega⟩
    | (refine B.reb (by intro b hb; simp [blk] at hb <;> omega) (fun w' B => ?_); have A := B.A)
    | (intro bb hbb; have zz := B.A.T.t.size)
    | with_reducible refine ifT ?_
    | with_reducible refine ifF ?_
    | (with_reducible refine ifbd (fun h => ?_) (fun h => ?_))
    | (with_reducible refine ifbnd (fun h => ?_) (fun h => ?_))
    | (with_reducible refine ifbn (fun h => ?_) (fun h => ?_))
    | (refine ifb (fun h => ?_) (fun h => ?_))
    | (refine B.next (by intro b hb; simp [blk] at hb <;> omega) (by omega) (by omega) (by omega) (fun m j w' g0 g1 B hj => ?_); have A := B.A; refine ⟨m, rfl, ?_⟩)
    | (refine B.range (by intro b hb; simp [blk] at hb <;> omega) (by omega) (by omega) (by omega) (by omega) (fun m j w' g0 g1 B hj => ?_); have A := B.A; refine ⟨m, rfl, ?_⟩)
    | (refine B.yes (by intro b hb; simp [blk] at hb <;> omega) (by omega) (by omega) (by omega) (fun m j w' B hj => ?_); have A := B.A; refine ⟨m, rfl, ?_⟩)
    | (refine A.tn (by omega) (by omega) (fun q x hq hx => ?_); have hxo := hs.tr x (List.mem_of_getElem? hx))
    | (refine A.ce (by dsimp only; omega) (by dsimp only; omega) (fun q2 x2 hq2 hx2 => ?_); have hxo2 := hs.xr x2 (List.mem_of_getElem? hx2))
    | (refine A.ce (by omega) (by omega) (fun q2 x2 hq2 hx2 => ?_); have hxo2 := hs.xr x2 (List.mem_of_getElem? hx2))
    | refine ⟨x, A.rdT (o := 0) hq hx rfl, A.niT (o := 0) hq (by intro b hb; simp [blk] at hb <;> omega), ?_⟩
    | refine ⟨x2, A.rdX (o := 0) hq2 hx2 rfl, A.niX (o := 0) hq2 (by intro b hb; simp [blk] at hb <;> omega), ?_⟩
    | refine ⟨_, A.rdT hq hx rfl, A.niT hq (by intro b hb; simp [blk] at hb <;> omega), ?_⟩
    | refine ⟨_, A.rdT (o := 0) hq hx rfl, A.niT (o := 0) hq (by intro b hb; simp [blk] at hb <;> omega), ?_⟩
    | refine ⟨_, A.rdX hq2 hx2 rfl, A.niX hq2 (by intro b hb; simp [blk] at hb <;> omega), ?_⟩
    | refine ⟨_, A.rdX (o := 0) hq2 hx2 rfl, A.niX (o := 0) hq2 (by intro b hb; simp [blk] at hb <;> omega), ?_⟩
theorem mg_3 {blk5 : Nat} {Ty5 : Nat} {blk6 : Nat} {Ty6 : Nat} {blk7 : Nat} {e7c : aC} {Ty7 : Nat} {blk8 : Nat} {v8c : aC} {Ty8 : Nat} {blk9 : Nat} {x9c : aJ} {Ty9 : Nat} {i : Nat} (B : TQ w0 w c g s ts xs bt sl ns i) (ok : bU c g) (hs : StOk g ts xs) (hM : i0 + 40 ≤ 900000) (hi : i0 ≤ i ∧ i + 9 ≤ i0 + 40) (hblk5 : w0.heap.size ≤ blk5) (hblk6 : w0.heap.size ≤ blk6) (hblk7 : w0.heap.size ≤ blk7) (hblk8 : w0.heap.size ≤ blk8) (hblk9 : w0.heap.size ≤ blk9) (hx9 : TnOk g x9c) (hH : 0 ≤ x9c.Home) (he : 0 ≤ e7c.Cell ∧ e7c.Cell < g.cs.length) :
    nT w0.heap.size (fun v w' => Touch (fun b => b = bt) w0 w' ∧ ResE bt sl ns i0 40 v w') (some ⟨bt, 0, none⟩) blk5 c Ty5 blk6 s Ty6 blk7 e7c Ty7 blk8 v8c Ty8 blk9 x9c Ty9 w := by
  have A := B.A
  have hcl := ok.cl
  have hvl := ok.vl
  have htl := hs.tl
  have hxl := hs.xl
  have hle := ok.lease
  have hba := ok.bake
  have hre := ok.reg
  have hcn := B.A.cf.ce.1
  have hvn := B.A.cf.v.1
  have htn := B.A.cf.t.1
  have hc1 := hx9.h
  have hc2 := hx9.s
  have hc3 := hx9.g_
  unfold inC at hc1 hc2 hc3
  unfold nT
  repeat' first
    | exact a2Z B ok hs hM (by omega) (by omega) (by omega) (by omega) (by omega) (by omega) hx9 hH (by first | assumption | (dsimp only; omega)) (by first | (intro _; assumption) | exact fun hh => Bool.noConfusion hh)
    | exact ⟨B.A.T.t, _, _, rfl, B.tp, by omega⟩
    | (refine B.reb (by intro b hb; simp [blk] at hb <;> omega) (fun w' B => ?_); have A := B.A)
    | (intro bb hbb; have zz := B.A.T.t.size)
    | with_reducible refine ifT ?_
    | with_reducible refine ifF ?_
    | (with_reducible refine ifbd (fun h => ?_) (fun h => ?_))
    | (with_reducible refine ifbnd (fun h => ?_) (fun h => ?_))
    | (with_reducible refine ifbn (fun h => ?_) (fun h => ?_))
    | (refine ifb (fun h => ?_) (fun h => ?_))
    | (refine B.next (by intro b hb; simp [blk] at hb <;> omega) (by omega) (by omega) (by omega) (fun m j w' g0 g1 B hj => ?_); have A := B.A; refine ⟨m, rfl, ?_⟩)
    | (refine B.range (by intro b hb; simp [blk] at hb <;> omega) (by omega) (by omega) (by omega) (by omega) (fun m j w' g0 g1 B hj => ?_); have A := B.A; refine ⟨m, rfl, ?_⟩)
    | (refine B.yes (by intro b hb; simp [blk] at hb <;> omega) (by omega) (by omega) (by omega) (fun m j w' B hj => ?_); have A := B.A; refine ⟨m, rfl, ?_⟩)
    | (refine A.tn (by omega) (by omega) (fun q x hq hx => ?_); have hxo := hs.tr x (List.mem_of_getElem? hx))
    | (refine A.ce (by dsimp only; omega) (by dsimp only; omega) (fun q2 x2 hq2 hx2 => ?_); have hxo2 := hs.xr x2 (List.mem_of_getElem? hx2))
    | (refine A.ce (by omega) (by omega) (fun q2 x2 hq2 hx2 => ?_); have hxo2 := hs.xr x2 (List.mem_of_getElem? hx2))
    | refine ⟨x, A.rdT (o := 0) hq hx rfl, A.niT (o := 0) hq (by intro b hb; simp [blk] at hb <;> omega), ?_⟩
    | refine ⟨x2, A.rdX (o := 0) hq2 hx2 rfl, A.niX (o := 0) hq2 (by intro b hb; simp [blk] at hb <;> omega), ?_⟩
    | refine ⟨_, A.rdT hq hx rfl, A.niT hq (by intro b hb; simp [blk] at hb <;> omega), ?_⟩
    | refine ⟨_, A.rdT (o := 0) hq hx rfl, A.niT (o := 0) hq (by intro b hb; simp [blk] at hb <;> omega), ?_⟩
    | refine ⟨_, A.rdX hq2 hx2 rfl, A.niX hq2 (by intro b hb; simp [blk] at hb <;> omega), ?_⟩
    | refine ⟨_, A.rdX (o := 0) hq2 hx2 rfl, A.niX (o := 0) hq2 (by intro b hb; simp [blk] at hb <;> omega), ?_⟩
theorem mg_2 {blk5 : Nat} {Ty5 : Nat} {blk6 : Nat} {Ty6 : Nat} {blk7 : Nat} {e7c : aC} {Ty7 : Nat} {blk8 : Nat} {v8c : aC} {Ty8 : Nat} {blk9 : Nat} {x9c : aJ} {Ty9 : Nat} {i : Nat} (B : TQ w0 w c g s ts xs bt sl ns i) (ok : bU c g) (hs : StOk g ts xs) (hM : i0 + 40 ≤ 900000) (hi : i0 ≤ i ∧ i + 9 ≤ i0 + 40) (hblk5 : w0.heap.size ≤ blk5) (hblk6 : w0.heap.size ≤ blk6) (hblk7 : w0.heap.size ≤ blk7) (hblk8 : w0.heap.size ≤ blk8) (hblk9 : w0.heap.size ≤ blk9) (hx9 : TnOk g x9c) (hH : 0 ≤ x9c.Home) :
    nS w0.heap.size (fun v w' => Touch (fun b => b = bt) w0 w' ∧ ResE bt sl ns i0 40 v w') (some ⟨bt, 0, none⟩) blk5 c Ty5 blk6 s Ty6 blk7 e7c Ty7 blk8 v8c Ty8 blk9 x9c Ty9 w := by
  have A := B.A
  have hcl := ok.cl
  have hvl := ok.vl
  have htl := hs.tl
  have hxl := hs.xl
  have hle := ok.lease
  have hba := ok.bake
  have hre := ok.reg
  have hcn := B.A.cf.ce.1
  have hvn := B.A.cf.v.1
  have htn := B.A.cf.t.1
  have hc1 := hx9.h
  have hc2 := hx9.s
  have hc3 := hx9.g_
  unfold inC at hc1 hc2 hc3
  unfold nS
  repeat' first
    | exact mg_3 B ok hs hM (by omega) (by omega) (by omega) (by omega) (by omega) (by omega) hx9 hH (by first | assumption | (dsimp only; omega))
    | exact ⟨B.A.T.t, _, _, rfl, B.tp, by omega⟩
    | (refine B.reb (by intro b hb; simp [blk] at hb <;> omega) (fun w' B => ?_); have A := B.A)
    | (intro bb hbb; have zz := B.A.T.t.size)
    | with_reducible refine ifT ?_
    | with_reducible refine ifF ?_
    | (with_reducible refine ifbd (fun h => ?_) (fun h => ?_))
    | (with_reducible refine ifbnd (fun h => ?_) (fun h => ?_))
    | (with_reducible refine ifbn (fun h => ?_) (fun h => ?_))
    | (refine ifb (fun h => ?_) (fun h => ?_))
    | (refine B.next (by intro b hb; simp [blk] at hb <;> omega) (by omega) (by omega) (by omega) (fun m j w' g0 g1 B hj => ?_); have A := B.A; refine ⟨m, rfl, ?_⟩)
    | (refine B.range (by intro b hb; simp [blk] at hb <;> omega) (by omega) (by omega) (by omega) (by omega) (fun m j w' g0 g1 B hj => ?_); have A := B.A; refine ⟨m, rfl, ?_⟩)
    | (refine B.yes (by intro b hb; simp [blk] at hb <;> omega) (by omega) (by omega) (by omega) (fun m j w' B hj => ?_); have A := B.A; refine ⟨m, rfl, ?_⟩)
    | (refine A.tn (by omega) (by omega) (fun q x hq hx => ?_); have hxo := hs.tr x (List.mem_of_getElem? hx))
    | (refine A.ce (by dsimp only; omega) (by dsimp only; omega) (fun q2 x2 hq2 hx2 => ?_); have hxo2 := hs.xr x2 (List.mem_of_getElem? hx2))
    | (refine A.ce (by omega) (by omega) (fun q2 x2 hq2 hx2 => ?_); have hxo2 := hs.xr x2 (List.mem_of_getElem? hx2))
    | refine ⟨x, A.rdT (o := 0) hq hx rfl, A.niT (o := 0) hq (by intro b hb; simp [blk] at hb <;> omega), ?_⟩
    | refine ⟨x2, A.rdX (o := 0) hq2 hx2 rfl, A.niX (o := 0) hq2 (by intro b hb; simp [blk] at hb <;> omega), ?_⟩
    | refine ⟨_, A.rdT hq hx rfl, A.niT hq (by intro b hb; simp [blk] at hb <;> omega), ?_⟩
    | refine ⟨_, A.rdT (o := 0) hq hx rfl, A.niT (o := 0) hq (by intro b hb; simp [blk] at hb <;> omega), ?_⟩
    | refine ⟨_, A.rdX hq2 hx2 rfl, A.niX hq2 (by intro b hb; simp [blk] at hb <;> omega), ?_⟩
    | refine ⟨_, A.rdX (o := 0) hq2 hx2 rfl, A.niX (o := 0) hq2 (by intro b hb; simp [blk] at hb <;> omega), ?_⟩
theorem mg_1 {blk5 : Nat} {Ty5 : Nat} {blk6 : Nat} {Ty6 : Nat} {blk7 : Nat} {e7c : aC} {Ty7 : Nat} {blk8 : Nat} {v8c : aC} {Ty8 : Nat} {i : Nat} (B : TQ w0 w c g s ts xs bt sl ns i) (ok : bU c g) (hs : StOk g ts xs) (hM : i0 + 40 ≤ 900000) (hi : i0 ≤ i ∧ i + 9 ≤ i0 + 40) (hblk5 : w0.heap.size ≤ blk5) (hblk6 : w0.heap.size ≤ blk6) (hblk7 : w0.heap.size ≤ blk7) (hblk8 : w0.heap.size ≤ blk8) (hT : 0 ≤ e7c.Tenant ∧ e7c.Tenant < g.ts.length) (hPl : ∀ x, ts[e7c.Tenant.toNat]? = some x → x.Placed = true) :
    nD w0.heap.size (fun v w' => Touch (fun b => b = bt) w0 w' ∧ ResE bt sl ns i0 40 v w') (some ⟨bt, 0, none⟩) blk5 c Ty5 blk6 s Ty6 blk7 e7c Ty7 blk8 v8c Ty8 w := by
  have A := B.A
  have hcl := ok.cl
  have hvl := ok.vl
  have htl := hs.tl
  have hxl := hs.xl
  have hle := ok.lease
  have hba := ok.bake
  have hre := ok.reg
  have hcn := B.A.cf.ce.1
  have hvn := B.A.cf.v.1
  have htn := B.A.cf.t.1
  unfold nD
  repeat' first
    | exact mg_2 B ok hs hM (by omega) (by omega) (by omega) (by omega) (by omega) (by omega) hx9 hH
    | exact ⟨B.A.T.t, _, _, rfl, B.tp, by omega⟩
    | (refine B.reb (by intro b hb; simp [blk] at hb <;> omega) (fun w' B => ?_); have A := B.A)
    | (intro bb hbb; have zz := B.A.T.t.size)
    | with_reducible refine ifT ?_
    | with_reducible refine ifF ?_
    | (with_reducible refine ifbd (fun h => ?_) (fun h => ?_))
    | (with_reducible refine ifbnd (fun h => ?_) (fun h => ?_))
    | (with_reducible refine ifbn (fun h => ?_) (fun h => ?_))
    | (refine ifb (fun h => ?_) (fun h => ?_))
    | (refine B.next (by intro b hb; simp [blk] at hb <;> omega) (by omega) (by omega) (by omega) (fun m j w' g0 g1 B hj => ?_); have A := B.A; refine ⟨m, rfl, ?_⟩)
    | (refine B.range (by intro b hb; simp [blk] at hb <;> omega) (by omega) (by omega) (by omega) (by omega) (fun m j w' g0 g1 B hj => ?_); have A := B.A; refine ⟨m, rfl, ?_⟩)
    | (refine B.yes (by intro b hb; simp [blk] at hb <;> omega) (by omega) (by omega) (by omega) (fun m j w' B hj => ?_); have A := B.A; refine ⟨m, rfl, ?_⟩)
    | (refine A.tn (by omega) (by omega) (fun q x hq hx => ?_); have hxo := hs.tr x (List.mem_of_getElem? hx); have hx9 := hxo; have hH := hxo.p (hPl x hx))
    | (refine A.ce (by dsimp only; omega) (by dsimp only; omega) (fun q2 x2 hq2 hx2 => ?_); have hxo2 := hs.xr x2 (List.mem_of_getElem? hx2))
    | (refine A.ce (by omega) (by omega) (fun q2 x2 hq2 hx2 => ?_); have hxo2 := hs.xr x2 (List.mem_of_getElem? hx2))
    | refine ⟨x, A.rdT (o := 0) hq hx rfl, A.niT (o := 0) hq (by intro b hb; simp [blk] at hb <;> omega), ?_⟩
    | refine ⟨x2, A.rdX (o := 0) hq2 hx2 rfl, A.niX (o := 0) hq2 (by intro b hb; simp [blk] at hb <;> omega), ?_⟩
    | refine ⟨_, A.rdT hq hx rfl, A.niT hq (by intro b hb; simp [blk] at hb <;> omega), ?_⟩
    | refine ⟨_, A.rdT (o := 0) hq hx rfl, A.niT (o := 0) hq (by intro b hb; simp [blk] at hb <;> omega), ?_⟩
    | refine ⟨_, A.rdX hq2 hx2 rfl, A.niX hq2 (by intro b hb; simp [blk] at hb <;> omega), ?_⟩
    | refine ⟨_, A.rdX (o := 0) hq2 hx2 rfl, A.niX (o := 0) hq2 (by intro b hb; simp [blk] at hb <;> omega), ?_⟩
end
end Go.Sh
