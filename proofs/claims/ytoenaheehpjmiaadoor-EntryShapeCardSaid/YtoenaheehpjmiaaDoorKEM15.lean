/- A part of the proof (printed smaller by a program of ours). Conditions: none. -/
import Derived.Test.YtoenaheehpjmiaaDoorKEM14
namespace Go.Sh
open Go
set_option linter.unusedSimpArgs false
set_option linter.unusedVariables false
set_option maxHeartbeats 8000000
section
variable {w0 w : World} {c : aB} {g : Cfg} {s : aA} {ts : List aJ} {xs : List aL} {bt i0 : Nat} {sl : Sl} {ns : List Int}
theorem aA5 {e : aC} {i : Nat} (B : TQ w w c g s ts xs bt sl ns i) (ok : bU c g) (hs : StOk g ts xs) (hi : i ≤ 800000) (hT : 0 ≤ e.Tenant ∧ e.Tenant < g.ts.length) (hPl : ∀ x, ts[e.Tenant.toNat]? = some x → x.Placed = true) :
    Spec PP aB1 [.pointer (some ⟨bt, 0, none⟩), .agg (List.toArray c.cells), .agg (List.toArray s.cells), .agg (List.toArray e.cells)] w (fun b => b = bt) (ResE bt sl ns i 40) := by
  refine aO2 (some ⟨bt, 0, none⟩) c s e _ w ?_
  unfold aBT
  intro b0 hb0 b1 hb1 b2 hb2 b3 hb3
  refine B.reb (by intro b hb; simp [blk] at hb <;> omega) (fun w' B => ?_)
  exact mg_1 B ok hs (by omega) (by omega) (by omega) (by omega) (by omega) (by omega) hT hPl
theorem mp_5 {blk8 : Nat} {v8c : aC} {Ty8 : Nat} {blk9 : Nat} {e9c : aC} {Ty9 : Nat} {i : Nat} (B : TQ w0 w c g s ts xs bt sl ns i) (ok : bU c g) (hs : StOk g ts xs) (hM : i0 + 20 ≤ 900000) (hi : i0 ≤ i ∧ i + 0 ≤ i0 + 20) (hblk8 : w0.heap.size ≤ blk8) (hblk9 : w0.heap.size ≤ blk9) :
    bA w0.heap.size (fun v w' => Touch (fun b => b = bt) w0 w' ∧ ResE bt sl ns i0 20 v w') blk8 v8c Ty8 blk9 e9c Ty9 w := by
  have A := B.A
  have hcl := ok.cl
  have hvl := ok.vl
  have htl := hs.tl
  have hxl := hs.xl
  have hle := ok.lease
  have hba := ok.bake
  have hre := ok.reg
  have hcn := B.A.cf.ce.1
  have hvn := B.A.cf.v.1
  have htn := B.A.cf.t.1
  unfold bA
  repeat' first
    | exact ⟨B.A.T.t, _, _, rfl, B.tp, by omega⟩
    | (refine B.reb (by intro b hb; simp [blk] at hb <;> omega) (fun w' B => ?_); have A := B.A)
    | (intro bb hbb; have zz := B.A.T.t.size)
    | with_reducible refine ifT ?_
    | with_reducible refine ifF ?_
    | (with_reducible refine ifbd (fun h => ?_) (fun h => ?_))
    | (with_reducible refine ifbnd (fun h => ?_) (fun h => ?_))
    | (with_reducible refine ifbn (fun h => ?_) (fun h => ?_))
    | (refine ifb (fun h => ?_) (fun h => ?_))
    | (refine B.next (by intro b hb; simp [blk] at hb <;> omega) (by omega) (by omega) (by omega) (fun m j w' g0 g1 B hj => ?_); have A := B.A; refine ⟨m, rfl, ?_⟩)
    | (refine B.range (by intro b hb; simp [blk] at hb <;> omega) (by omega) (by omega) (by omega) (by omega) (fun m j w' g0 g1 B hj => ?_); have A := B.A; refine ⟨m, rfl, ?_⟩)
    | (refine B.yes (by intro b hb; simp [blk] at hb <;> omega) (by omega) (by omega) (by omega) (fun m j w' B hj => ?_); have A := B.A; refine ⟨m, rfl, ?_⟩)
    | (refine A.tn (by omega) (by omega) (fun q x hq hx => ?_); have hxo := hs.tr x (List.mem_of_getElem? hx))
    | (refine A.ce (by dsimp only; omega) (by dsimp only; omega) (fun q2 x2 hq2 hx2 => ?_); have hxo2 := hs.xr x2 (List.mem_of_getElem? hx2))
    | (refine A.ce (by omega) (by omega) (fun q2 x2 hq2 hx2 => ?_); have hxo2 := hs.xr x2 (List.mem_of_getElem? hx2))
    | refine ⟨x, A.rdT (o := 0) hq hx rfl, A.niT (o := 0) hq (by intro b hb; simp [blk] at hb <;> omega), ?_⟩
    | refine ⟨x2, A.rdX (o := 0) hq2 hx2 rfl, A.niX (o := 0) hq2 (by intro b hb; simp [blk] at hb <;> omega), ?_⟩
    | refine ⟨_, A.rdT hq hx rfl, A.niT hq (by intro b hb; simp [blk] at hb <;> omega), ?_⟩
    | refine ⟨_, A.rdT (o := 0) hq hx rfl, A.niT (o := 0) hq (by intro b hb; simp [blk] at hb <;> omega), ?_⟩
    | refine ⟨_, A.rdX hq2 hx2 rfl, A.niX hq2 (by intro b hb; simp [blk] at hb <;> omega), ?_⟩
    | refine ⟨_, A.rdX (o := 0) hq2 hx2 rfl, A.niX (o := 0) hq2 (by intro b hb; simp [blk] at hb <;> omega), ?_⟩
    | (refine B.call (by intro b hb; simp [blk] at hb <;> omega) (fun wa B => dM _ _ wa) ?_; rintro wa v w' B _ ⟨z, rfl⟩; have A := B.A; refine ⟨z, rfl, ?_⟩)
    | (refine B.call (by intro b hb; simp [blk] at hb <;> omega) (fun wa B => cO _ _ wa) ?_; rintro wa v w' B _ rfl; have A := B.A; refine ⟨_, rfl, ?_⟩)
    | refine ⟨aHG, ?_⟩
    | rw [wrap_i64 (x := c.Bake + 1) (by omega) (by omega)]
theorem a3J {tick3 : Int} {blk5 : Nat} {Ty5 : Nat} {blk6 : Nat} {Ty6 : Nat} {blk8 : Nat} {v8c : aC} {Ty8 : Nat} {blk9 : Nat} {e9c : aC} {Ty9 : Nat} {k10 : Int} {blk11 : Nat} {x11c : aL} {Ty11 : Nat} {v25 : Int} {v56 : Bool} {i : Nat} (B : TQ w0 w c g s ts xs bt sl ns i) (ok : bU c g) (hs : StOk g ts xs) (hM : i0 + 20 ≤ 900000) (hi : i0 ≤ i ∧ i + 4 ≤ i0 + 20) (hblk5 : w0.heap.size ≤ blk5) (hblk6 : w0.heap.size ≤ blk6) (hblk8 : w0.heap.size ≤ blk8) (hblk9 : w0.heap.size ≤ blk9) (hblk11 : w0.heap.size ≤ blk11) :
    dP w0.heap.size (fun v w' => Touch (fun b => b = bt) w0 w' ∧ ResE bt sl ns i0 20 v w') (some ⟨bt, 0, none⟩) tick3 blk5 c Ty5 blk6 s Ty6 blk8 v8c Ty8 blk9 e9c Ty9 k10 blk11 x11c Ty11 v25 v56 w := by
  have A := B.A
  have hcl := ok.cl
  have hvl := ok.vl
  have htl := hs.tl
  have hxl := hs.xl
  have hle := ok.lease
  have hba := ok.bake
  have hre := ok.reg
  have hcn := B.A.cf.ce.1
  have hvn := B.A.cf.v.1
  have htn := B.A.cf.t.1
  unfold dP
  repeat' first
    | exact mp_5 B ok hs hM (by omega) (by omega) (by omega)
    | exact ⟨B.A.T.t, _, _, rfl, B.tp, by omega⟩
    | (refine B.reb (by intro b hb; simp [blk] at hb <;> omega) (fun w' B => ?_); have A := B.A)
    | (intro bb hbb; have zz := B.A.T.t.size)
    | with_reducible refine ifT ?_
    | with_reducible refine ifF ?_
    | (with_reducible refine ifbd (fun h => ?_) (fun h => ?_))
    | (with_reducible refine ifbnd (fun h => ?_) (fun h => ?_))
    | (with_reducible refine ifbn (fun h => ?_) (fun h => ?_))
    | (refine ifb (fun h => ?_) (fun h => ?_))
    | (refine B.next (by intro b hb; simp [blk] at hb <;> omega) (by omega) (by omega) (by omega) (fun m j w' g0 g1 B hj => ?_); have A := B.A; refine ⟨m, rfl, ?_⟩)
    | (refine B.range (by intro b hb; simp [blk] at hb <;> omega) (by omega) (by omega) (by omega) (by omega) (fun m j w' g0 g1 B hj => ?_); have A := B.A; refine ⟨m, rfl, ?_⟩)
    | (refine B.yes (by intro b hb; simp [blk] at hb <;> omega) (by omega) (by omega) (by omega) (fun m j w' B hj => ?_); have A := B.A; refine ⟨m, rfl, ?_⟩)
    | (refine A.tn (by omega) (by omega) (fun q x hq hx => ?_); have hxo := hs.tr x (List.mem_of_getElem? hx))
    | (refine A.ce (by dsimp only; omega) (by dsimp only; omega) (fun q2 x2 hq2 hx2 => ?_); have hxo2 := hs.xr x2 (List.mem_of_getElem? hx2))
    | (refine A.ce (by omega) (by omega) (fun q2 x2 hq2 hx2 => ?_); have hxo2 := hs.xr x2 (List.mem_of_getElem? hx2))
    | refine ⟨x, A.rdT (o := 0) hq hx rfl, A.niT (o := 0) hq (by intro b hb; simp [blk] at hb <;> omega), ?_⟩
    | refine ⟨x2, A.rdX (o := 0) hq2 hx2 rfl, A.niX (o := 0) hq2 (by intro b hb; simp [blk] at hb <;> omega), ?_⟩
    | refine ⟨_, A.rdT hq hx rfl, A.niT hq (by intro b hb; simp [blk] at hb <;> omega), ?_⟩
    | refine ⟨_, A.rdT (o := 0) hq hx rfl, A.niT (o := 0) hq (by intro b hb; simp [blk] at hb <;> omega), ?_⟩
    | refine ⟨_, A.rdX hq2 hx2 rfl, A.niX hq2 (by intro b hb; simp [blk] at hb <;> omega), ?_⟩
    | refine ⟨_, A.rdX (o := 0) hq2 hx2 rfl, A.niX (o := 0) hq2 (by intro b hb; simp [blk] at hb <;> omega), ?_⟩
    | (refine B.call (by intro b hb; simp [blk] at hb <;> omega) (fun wa B => dM _ _ wa) ?_; rintro wa v w' B _ ⟨z, rfl⟩; have A := B.A; refine ⟨z, rfl, ?_⟩)
    | (refine B.call (by intro b hb; simp [blk] at hb <;> omega) (fun wa B => cO _ _ wa) ?_; rintro wa v w' B _ rfl; have A := B.A; refine ⟨_, rfl, ?_⟩)
    | refine ⟨aHG, ?_⟩
    | rw [wrap_i64 (x := c.Bake + 1) (by omega) (by omega)]
theorem mp_9 {tick3 : Int} {blk5 : Nat} {Ty5 : Nat} {blk6 : Nat} {Ty6 : Nat} {blk8 : Nat} {v8c : aC} {Ty8 : Nat} {blk9 : Nat} {e9c : aC} {Ty9 : Nat} {k10 : Int} {blk11 : Nat} {x11c : aL} {Ty11 : Nat} {v25 : Int} {v43 : Bool} {i : Nat} (B : TQ w0 w c g s ts xs bt sl ns i) (ok : bU c g) (hs : StOk g ts xs) (hM : i0 + 20 ≤ 900000) (hi : i0 ≤ i ∧ i + 5 ≤ i0 + 20) (hblk5 : w0.heap.size ≤ blk5) (hblk6 : w0.heap.size ≤ blk6) (hblk8 : w0.heap.size ≤ blk8) (hblk9 : w0.heap.size ≤ blk9) (hblk11 : w0.heap.size ≤ blk11) :
    eB w0.heap.size (fun v w' => Touch (fun b => b = bt) w0 w' ∧ ResE bt sl ns i0 20 v w') (some ⟨bt, 0, none⟩) tick3 blk5 c Ty5 blk6 s Ty6 blk8 v8c Ty8 blk9 e9c Ty9 k10 blk11 x11c Ty11 v25 v43 w := by
  have A := B.A
  have hcl := ok.cl
  have hvl := ok.vl
  have htl := hs.tl
  have hxl := hs.xl
  have hle := ok.lease
  have hba := ok.bake
  have hre := ok.reg
  have hcn := B.A.cf.ce.1
  have hvn := B.A.cf.v.1
  have htn := B.A.cf.t.1
  unfold eB
  repeat' first
    | exact mp_5 B ok hs hM (by omega) (by omega) (by omega)
    | exact a3J B ok hs hM (by omega) (by omega) (by omega) (by omega) (by omega) (by omega)
    | exact ⟨B.A.T.t, _, _, rfl, B.tp, by omega⟩
    | (refine B.reb (by intro b hb; simp [blk] at hb <;> omega) (fun w' B => ?_); have A := B.A)
    | (intro bb hbb; have zz := B.A.T.t.size)
    | with_reducible refine ifT ?_
    | with_reducible refine ifF ?_
    | (with_reducible refine ifbd (fun h => ?_) (fun h => ?_))
    | (with_reducible refine ifbnd (fun h => ?_) (fun h => ?_))
    | (with_reducible refine ifbn (fun h => ?_) (fun h => ?_))
    | (refine ifb (fun h => ?_) (fun h => ?_))
    | (refine B.next (by intro b hb; simp [blk] at hb <;> omega) (by omega) (by omega) (by omega) (fun m j w' g0 g1 B hj => ?_); have A := B.A; refine ⟨m, rfl, ?_⟩)
    | (refine B.range (by intro b hb; simp [blk] at hb <;> omega) (by omega) (by omega) (by omega) (by omega) (fun m j w' g0 g1 B hj => ?_); have A := B.A; refine ⟨m, rfl, ?_⟩)
    | (refine B.yes (by intro b hb; simp [blk] at hb <;> omega) (by omega) (by omega) (by omega) (fun m j w' B hj => ?_); have A := B.A; refine ⟨m, rfl, ?_⟩)
    | (refine A.tn (by omega) (by omega) (fun q x hq hx => ?_); have hxo := hs.tr x (List.mem_of_getElem? hx))
    | (refine A.ce (by dsimp only; omega) (by dsimp only; omega) (fun q2 x2 hq2 hx2 => ?_); have hxo2 := hs.xr x2 (List.mem_of_getElem? hx2))
    | (refine A.ce (by omega) (by omega) (fun q2 x2 hq2 hx2 => ?_); have hxo2 := hs.xr x2 (List.mem_of_getElem? hx2))
    | refine ⟨x, A.rdT (o := 0) hq hx rfl, A.niT (o := 0) hq (by intro b hb; simp [blk] at hb <;> omega), ?_⟩
    | refine ⟨x2, A.rdX (o := 0) hq2 hx2 rfl, A.niX (o := 0) hq2 (by intro b hb; simp [blk] at hb <;> omega), ?_⟩
    | refine ⟨_, A.rdT hq hx rfl, A.niT hq (by intro b hb; simp [blk] at hb <;> omega), ?_⟩
    | refine ⟨_, A.rdT (o := 0) hq hx rfl, A.niT (o := 0) hq (by intro b hb; simp [blk] at hb <;> omega), ?_⟩
    | refine ⟨_, A.rdX hq2 hx2 rfl, A.niX hq2 (by intro b hb; simp [blk] at hb <;> omega), ?_⟩
    | refine ⟨_, A.rdX (o := 0) hq2 hx2 rfl, A.niX (o := 0) hq2 (by intro b hb; simp [blk] at hb <;> omega), ?_⟩
    | (refine B.call (by intro b hb; simp [blk] at hb <;> omega) (fun wa B => dM _ _ wa) ?_; rintro wa v w' B _ ⟨z, rfl⟩; have A := B.A; refine ⟨z, rfl, ?_⟩)
    | (refine B.call (by intro b hb; simp [blk] at hb <;> omega) (fun wa B => cO _ _ wa) ?_; rintro wa v w' B _ rfl; have A := B.A; refine ⟨_, rfl, ?_⟩)
    | refine ⟨aHG, ?_⟩
    | rw [wrap_i64 (x := c.Bake + 1) (by omega) (by omega)]
theorem mp_8 {tick3 : Int} {blk5 : Nat} {Ty5 : Nat} {blk6 : Nat} {Ty6 : Nat} {blk8 : Nat} {v8c : aC} {Ty8 : Nat} {blk9 : Nat} {e9c : aC} {Ty9 : Nat} {k10 : Int} {blk11 : Nat} {x11c : aL} {Ty11 : Nat} {v25 : Int} {v37 : Bool} {i : Nat} (B : TQ w0 w c g s ts xs bt sl ns i) (ok : bU c g) (hs : StOk g ts xs) (hM : i0 + 20 ≤ 900000) (hi : i0 ≤ i ∧ i + 5 ≤ i0 + 20) (hblk5 : w0.heap.size ≤ blk5) (hblk6 : w0.heap.size ≤ blk6) (hblk8 : w0.heap.size ≤ blk8) (hblk9 : w0.heap.size ≤ blk9) (hblk11 : w0.heap.size ≤ blk11) :
    jO w0.heap.size (fun v w' => Touch (fun b => b = bt) w0 w' ∧ ResE bt sl ns i0 20 v w') (some ⟨bt, 0, none⟩) tick3 blk5 c Ty5 blk6 s Ty6 blk8 v8c Ty8 blk9 e9c Ty9 k10 blk11 x11c Ty11 v25 v37 w := by
  have A := B.A
  have hcl := ok.cl
  have hvl := ok.vl
  have htl := hs.tl
  have hxl := hs.xl
  have hle := ok.lease
  have hba := ok.bake
  have hre := ok.reg
  have hcn := B.A.cf.ce.1
  have hvn := B.A.cf.v.1
  have htn := B.A.cf.t.1
  unfold jO
  repeat' first
    | exact mp_5 B ok hs hM (by omega) (by omega) (by omega)
    | exact mp_9 B ok hs hM (by omega) (by omega) (by omega) (by omega) (by omega) (by omega)
    | exact ⟨B.A.T.t, _, _, rfl, B.tp, by omega⟩
    | (refine B.reb (by intro b hb; simp [blk] at hb <;> omega) (fun w' B => ?_); have A := B.A)
    | (intro bb hbb; have zz := B.A.T.t.size)
    | with_reducible refine ifT ?_
    | with_reducible refine ifF ?_
    | (with_reducible refine ifbd (fun h => ?_) (fun h => ?_))
    | (with_reducible refine ifbnd (fun h => ?_) (fun h => ?_))
    | (with_reducible refine ifbn (fun h => ?_) (fun h => ?_))
    | (refine ifb (fun h => ?_) (fun h => ?_))
    | (refine B.next (by intro b hb; simp [blk] at hb <;> omega) (by omega) (by omega) (by omega) (fun m j w' g0 g1 B hj => ?_); have A := B.A; refine ⟨m, rfl, ?_⟩)
    | (refine B.range (by intro b hb; simp [blk] at hb <;> omega) (by omega) (by omega) (by omega) (by omega) (fun m j w' g0 g1 B hj => ?_); have A := B.A; refine ⟨m, rfl, ?_⟩)
    | (refine B.yes (by intro b hb; simp [blk] at hb <;> omega) (by omega) (by omega) (by omega) (fun m j w' B hj => ?_); have A := B.A; refine ⟨m, rfl, ?_⟩)
    | (refine A.tn (by omega) (by omega) (fun q x hq hx => ?_); have hxo := hs.tr x (List.mem_of_getElem? hx))
    | (refine A.ce (by dsimp only; omega) (by dsimp only; omega) (fun q2 x2 hq2 hx2 => ?_); have hxo2 := hs.xr x2 (List.mem_of_getElem? hx2))
    | (refine A.ce (by omega) (by omega) (fun q2 x2 hq2 hx2 => ?_); have hxo2 := hs.xr x2 (List.mem_of_getElem? hx2))
    | refine ⟨x, A.rdT (o := 0) hq hx rfl, A.niT (o := 0) hq (by intro b hb; simp [blk] at hb <;> omega), ?_⟩
    | refine ⟨x2, A.rdX (o := 0) hq2 hx2 rfl, A.niX (o := 0) hq2 (by intro b hb; simp [blk] at hb <;> omega), ?_⟩
    | refine ⟨_, A.rdT hq hx rfl, A.niT hq (by intro b hb; simp [blk] at hb <;> omega), ?_⟩
    | refine ⟨_, A.rdT (o := 0) hq hx rfl, A.niT (o := 0) hq (by intro b hb; simp [blk] at hb <;> omega), ?_⟩
    | refine ⟨_, A.rdX hq2 hx2 rfl, A.niX hq2 (by intro b hb; simp [blk] at hb <;> omega), ?_⟩
    | refine ⟨_, A.rdX (o := 0) hq2 hx2 rfl, A.niX (o := 0) hq2 (by intro b hb; simp [blk] at hb <;> omega), ?_⟩
    | (refine B.call (by intro b hb; simp [blk] at hb <;> omega) (fun wa B => dM _ _ wa) ?_; rintro wa v w' B _ ⟨z, rfl⟩; have A := B.A; refine ⟨z, rfl, ?_⟩)
    | (refine B.call (by intro b hb; simp [blk] at hb <;> omega) (fun wa B => cO _ _ wa) ?_; rintro wa v w' B _ rfl; have A := B.A; refine ⟨_, rfl, ?_⟩)
    | refine ⟨aHG, ?_⟩
    | rw [wrap_i64 (x := c.Bake + 1) (by omega) (by omega)]
theorem mp_7 {tick3 : Int} {blk5 : Nat} {Ty5 : Nat} {blk6 : Nat} {Ty6 : Nat} {blk8 : Nat} {v8c : aC} {Ty8 : Nat} {blk9 : Nat} {e9c : aC} {Ty9 : Nat} {k10 : Int} {blk11 : Nat} {x11c : aL} {Ty11 : Nat} {v25 : Int} {v29 : Bool} {i : Nat} (B : TQ w0 w c g s ts xs bt sl ns i) (ok : bU c g) (hs : StOk g ts xs) (hM : i0 + 20 ≤ 900000) (hi : i0 ≤ i ∧ i + 6 ≤ i0 + 20) (hblk5 : w0.heap.size ≤ blk5) (hblk6 : w0.heap.size ≤ blk6) (hblk8 : w0.heap.size ≤ blk8) (hblk9 : w0.heap.size ≤ blk9) (hblk11 : w0.heap.size ≤ blk11) :
    jW w0.heap.size (fun v w' => Touch (fun b => b = bt) w0 w' ∧ ResE bt sl ns i0 20 v w') (some ⟨bt, 0, none⟩) tick3 blk5 c Ty5 blk6 s Ty6 blk8 v8c Ty8 blk9 e9c Ty9 k10 blk11 x11c Ty11 v25 v29 w := by
  have A := B.A
  have hcl := ok.cl
  have hvl := ok.vl
  have htl := hs.tl
  have hxl := hs.xl
  have hle := ok.lease
  have hba := ok.bake
  have hre := ok.reg
  have hcn := B.A.cf.ce.1
  have hvn := B.A.cf.v.1
  have htn := B.A.cf.t.1
  unfold jW
  repeat' first
    | exact mp_5 B ok hs hM (by omega) (by omega) (by omega)
    | exact mp_8 B ok hs hM (by omega) (by omega) (by omega) (by omega) (by omega) (by omega)
    | exact ⟨B.A.T.t, _, _, rfl, B.tp, by omega⟩
    | (refine B.reb (by intro b hb; simp [blk] at hb <;> omega) (fun w' B => ?_); have A := B.A)
    | (intro bb hbb; have zz := B.A.T.t.size)
    | with_reducible refine ifT ?_
    | with_reducible refine ifF ?_
    | (with_reducible refine ifbd (fun h => ?_) (fun h => ?_))
    | (with_reducible refine ifbnd (fun h => ?_) (fun h => ?_))
    | (with_reducible refine ifbn (fun h => ?_) (fun h => ?_))
    | (refine ifb (fun h => ?_) (fun h => ?_))
    | (refine B.next (by intro b hb; simp [blk] at hb <;> omega) (by omega) (by omega) (by omega) (fun m j w' g0 g1 B hj => ?_); have A := B.A; refine ⟨m, rfl, ?_⟩)
    | (refine B.range (by intro b hb; simp [blk] at hb <;> omega) (by omega) (by omega) (by omega) (by omega) (fun m j w' g0 g1 B hj => ?_); have A := B.A; refine ⟨m, rfl, ?_⟩)
    | (refine B.yes (by intro b hb; simp [blk] at hb <;> omega) (by omega) (by omega) (by omega) (fun m j w' B hj => ?_); have A := B.A; refine ⟨m, rfl, ?_⟩)
    | (refine A.tn (by omega) (by omega) (fun q x hq hx => ?_); have hxo := hs.tr x (List.mem_of_getElem? hx))
    | (refine A.ce (by dsimp only; omega) (by dsimp only; omega) (fun q2 x2 hq2 hx2 => ?_); have hxo2 := hs.xr x2 (List.mem_of_getElem? hx2))
    | (refine A.ce (by omega) (by omega) (fun q2 x2 hq2 hx2 => ?_); have hxo2 := hs.xr x2 (List.mem_of_getElem? hx2))
    | refine ⟨x, A.rdT (o := 0) hq hx rfl, A.niT (o := 0) hq (by intro b hb; simp [blk] at hb <;> omega), ?_⟩
    | refine ⟨x2, A.rdX (o := 0) hq2 hx2 rfl, A.niX (o := 0) hq2 (by intro b hb; simp [blk] at hb <;> omega), ?_⟩
    | refine ⟨_, A.rdT hq hx rfl, A.niT hq (by intro b hb; simp [blk] at hb <;> omega), ?_⟩
    | refine ⟨_, A.rdT (o := 0) hq hx rfl, A.niT (o := 0) hq (by intro b hb; simp [blk] at hb <;> omega), ?_⟩
    | refine ⟨_, A.rdX hq2 hx2 rfl, A.niX hq2 (by intro b hb; simp [blk] at hb <;> omega), ?_⟩
    | refine ⟨_, A.rdX (o := 0) hq2 hx2 rfl, A.niX (o := 0) hq2 (by intro b hb; simp [blk] at hb <;> omega), ?_⟩
    | (refine B.call (by intro b hb; simp [blk] at hb <;> omega) (fun wa B => dM _ _ wa) ?_; rintro wa v w' B _ ⟨z, rfl⟩; have A := B.A; refine ⟨z, rfl, ?_⟩)
    | (refine B.call (by intro b hb; simp [blk] at hb <;> omega) (fun wa B => cO _ _ wa) ?_; rintro wa v w' B _ rfl; have A := B.A; refine ⟨_, rfl, ?_⟩)
    | refine ⟨aHG, ?_⟩
    | rw [wrap_i64 (x := c.Bake + 1) (by omega) (by omega)]
theorem mp_6 {tick3 : Int} {blk5 : Nat} {Ty5 : Nat} {blk6 : Nat} {Ty6 : Nat} {blk8 : Nat} {v8c : aC} {Ty8 : Nat} {blk9 : Nat} {e9c : aC} {Ty9 : Nat} {k10 : Int} {blk11 : Nat} {x11c : aL} {Ty11 : Nat} {v25 : Int} {i : Nat} (B : TQ w0 w c g s ts xs bt sl ns i) (ok : bU c g) (hs : StOk g ts xs) (hM : i0 + 20 ≤ 900000) (hi : i0 ≤ i ∧ i + 6 ≤ i0 + 20) (hblk5 : w0.heap.size ≤ blk5) (hblk6 : w0.heap.size ≤ blk6) (hblk8 : w0.heap.size ≤ blk8) (hblk9 : w0.heap.size ≤ blk9) (hblk11 : w0.heap.size ≤ blk11) :
    jR w0.heap.size (fun v w' => Touch (fun b => b = bt) w0 w' ∧ ResE bt sl ns i0 20 v w') (some ⟨bt, 0, none⟩) tick3 blk5 c Ty5 blk6 s Ty6 blk8 v8c Ty8 blk9 e9c Ty9 k10 blk11 x11c Ty11 v25 w := by
  have A := B.A
  have hcl := ok.cl
  have hvl := ok.vl
  have htl := hs.tl
  have hxl := hs.xl
  have hle := ok.lease
  have hba := ok.bake
  have hre := ok.reg
  have hcn := B.A.cf.ce.1
  have hvn := B.A.cf.v.1
  have htn := B.A.cf.t.1
  unfold jR
  repeat' first
    | exact mp_7 B ok hs hM (by omega) (by omega) (by omega) (by omega) (by omega) (by omega)
    | exact ⟨B.A.T.t, _, _, rfl, B.tp, by omega⟩
    | (refine B.reb (by intro b hb; simp [blk] at hb <;> omega) (fun w' B => ?_); have A := B.A)
    | (intro bb hbb; have zz := B.A.T.t.size)
    | with_reducible refine ifT ?_
    | with_reducible refine ifF ?_
    | (with_reducible refine ifbd (fun h => ?_) (fun h => ?_))
    | (with_reducible refine ifbnd (fun h => ?_) (fun h => ?_))
    | (with_reducible refine ifbn (fun h => ?_) (fun h => ?_))
    | (refine ifb (fun h => ?_) (fun h => ?_))
    | (refine B.next (by intro b hb; simp [blk] at hb <;> omega) (by omega) (by omega) (by omega) (fun m j w' g0 g1 B hj => ?_); have A := B.A; refine ⟨m, rfl, ?_⟩)
    | (refine B.range (by intro b hb; simp [blk] at hb <;> omega) (by omega) (by omega) (by omega) (by omega) (fun m j w' g0 g1 B hj => ?_); have A := B.A; refine ⟨m, rfl, ?_⟩)
    | (refine B.yes (by intro b hb; simp [blk] at hb <;> omega) (by omega) (by omega) (by omega) (fun m j w' B hj => ?_); have A := B.A; refine ⟨m, rfl, ?_⟩)
    | (refine A.tn (by omega) (by omega) (fun q x hq hx => ?_); have hxo := hs.tr x (List.mem_of_getElem? hx))
    | (refine A.ce (by dsimp only; omega) (by dsimp only; omega) (fun q2 x2 hq2 hx2 => ?_); have hxo2 := hs.xr x2 (List.mem_of_getElem? hx2))
    | (refine A.ce (by omega) (by omega) (fun q2 x2 hq2 hx2 => ?_); have hxo2 := hs.xr x2 (List.mem_of_getElem? hx2))
    | refine ⟨x, A.rdT (o := 0) hq hx rfl, A.niT (o := 0) hq (by intro b hb; simp [blk] at hb <;> omega), ?_⟩
    | refine ⟨x2, A.rdX (o := 0) hq2 hx2 rfl, A.niX (o := 0) hq2 (by intro b hb; simp [blk] at hb <;> omega), ?_⟩
    | refine ⟨_, A.rdT hq hx rfl, A.niT hq (by intro b hb; simp [blk] at hb <;> omega), ?_⟩
    | refine ⟨_, A.rdT (o := 0) hq hx rfl, A.niT (o := 0) hq (by intro b hb; simp [blk] at hb <;> omega), ?_⟩
    | refine ⟨_, A.rdX hq2 hx2 rfl, A.niX hq2 (by intro b hb; simp [blk] at hb <;> omega), ?_⟩
    | refine ⟨_, A.rdX (o := 0) hq2 hx2 rfl, A.niX (o := 0) hq2 (by intro b hb; simp [blk] at hb <;> omega), ?_⟩
    | (refine B.call (by intro b hb; simp [blk] at hb <;> omega) (fun wa B => dM _ _ wa) ?_; rintro wa v w' B _ ⟨z, rfl⟩; have A := B.A; refine ⟨z, rfl, ?_⟩)
    | (refine B.call (by intro b hb; simp [blk] at hb <;> omega) (fun wa B => cO _ _ wa) ?_; rintro wa v w' B _ rfl; have A := B.A; refine ⟨_, rfl, ?_⟩)
    | refine ⟨aHG, ?_⟩
    | rw [wrap_i64 (x := c.Bake + 1) (by omega) (by omega)]
theorem mp_4 {tick3 : Int} {blk5 : Nat} {Ty5 : Nat} {blk6 : Nat} {Ty6 : Nat} {blk8 : Nat} {v8c : aC} {Ty8 : Nat} {blk9 : Nat} {e9c : aC} {Ty9 : Nat} {k10 : Int} {blk11 : Nat} {x11c : aL} {Ty11 : Nat} {i : Nat} (B : TQ w0 w c g s ts xs bt sl ns i) (ok : bU c g) (hs : StOk g ts xs) (hM : i0 + 20 ≤ 900000) (hi : i0 ≤ i ∧ i + 7 ≤ i0 + 20) (hblk5 : w0.heap.size ≤ blk5) (hblk6 : w0.heap.size ≤ blk6) (hblk8 : w0.heap.size ≤ blk8) (hblk9 : w0.heap.size ≤ blk9) (hblk11 : w0.heap.size ≤ blk11) :
    jL w0.heap.size (fun v w' => Touch (fun b => b = bt) w0 w' ∧ ResE bt sl ns i0 20 v w') (some ⟨bt, 0, none⟩) tick3 blk5 c Ty5 blk6 s Ty6 blk8 v8c Ty8 blk9 e9c Ty9 k10 blk11 x11c Ty11 w := by
  have A := B.A
  have hcl := ok.cl
  have hvl := ok.vl
  have htl := hs.tl
  have hxl := hs.xl
  have hle := ok.lease
  have hba := ok.bake
  have hre := ok.reg
  have hcn := B.A.cf.ce.1
  have hvn := B.A.cf.v.1
  have htn := B.A.cf.t.1
  unfold jL
  repeat' first
    | exact mp_6 B ok hs hM (by omega) (by omega) (by omega) (by omega) (by omega) (by omega)
    | exact ⟨B.A.T.t, _, _, rfl, B.tp, by omega⟩
    | (refine B.reb (by intro b hb; simp [blk] at hb <;> omega) (fun w' B => ?_); have A := B.A)
    | (intro bb hbb; have zz := B.A.T.t.size)
    | with_reducible refine ifT ?_
    | with_reducible refine ifF ?_
    | (with_reducible refine ifbd (fun h => ?_) (fun h => ?_))
    | (with_reducible refine ifbnd (fun h => ?_) (fun h => ?_))
    | (with_reducible refine ifbn (fun h => ?_) (fun h => ?_))
    | (refine ifb (fun h => ?_) (fun h => ?_))
    | (refine B.next (by intro b hb; simp [blk] at hb <;> omega) (by omega) (by omega) (by omega) (fun m j w' g0 g1 B hj => ?_); have A := B.A; refine ⟨m, rfl, ?_⟩)
    | (refine B.range (by intro b hb; simp [blk] at hb <;> omega) (by omega) (by omega) (by omega) (by omega) (fun m j w' g0 g1 B hj => ?_); have A := B.A; refine ⟨m, rfl, ?_⟩)
    | (refine B.yes (by intro b hb; simp [blk] at hb <;> omega) (by omega) (by omega) (by omega) (fun m j w' B hj => ?_); have A := B.A; refine ⟨m, rfl, ?_⟩)
    | (refine A.tn (by omega) (by omega) (fun q x hq hx => ?_); have hxo := hs.tr x (List.mem_of_getElem? hx))
    | (refine A.ce (by dsimp only; omega) (by dsimp only; omega) (fun q2 x2 hq2 hx2 => ?_); have hxo2 := hs.xr x2 (List.mem_of_getElem? hx2))
    | (refine A.ce (by omega) (by omega) (fun q2 x2 hq2 hx2 => ?_); have hxo2 := hs.xr x2 (List.mem_of_getElem? hx2))
    | refine ⟨x, A.rdT (o := 0) hq hx rfl, A.niT (o := 0) hq (by intro b hb; simp [blk] at hb <;> omega), ?_⟩
    | refine ⟨x2, A.rdX (o := 0) hq2 hx2 rfl, A.niX (o := 0) hq2 (by intro b hb; simp [blk] at hb <;> omega), ?_⟩
    | refine ⟨_, A.rdT hq hx rfl, A.niT hq (by intro b hb; simp [blk] at hb <;> omega), ?_⟩
    | refine ⟨_, A.rdT (o := 0) hq hx rfl, A.niT (o := 0) hq (by intro b hb; simp [blk] at hb <;> omega), ?_⟩
    | refine ⟨_, A.rdX hq2 hx2 rfl, A.niX hq2 (by intro b hb; simp [blk] at hb <;> omega), ?_⟩
    | refine ⟨_, A.rdX (o := 0) hq2 hx2 rfl, A.niX (o := 0) hq2 (by intro b hb; simp [blk] at hb <;> omega), ?_⟩
    | (refine B.call (by intro b hb; simp [blk] at hb <;> omega) (fun wa B => dM _ _ wa) ?_; rintro wa v w' B _ ⟨z, rfl⟩; have A := B.A; refine ⟨z, rfl, ?_⟩)
    | (refine B.call (by intro b hb; simp [blk] at hb <;> omega) (fun wa B => cO _ _ wa) ?_; rintro wa v w' B _ rfl; have A := B.A; refine ⟨_, rfl, ?_⟩)
    | refine ⟨aHG, ?_⟩
    | rw [wrap_i64 (x := c.Bake + 1) (by omega) (by omega)]
theorem mp_3 {tick3 : Int} {blk5 : Nat} {Ty5 : Nat} {blk6 : Nat} {Ty6 : Nat} {blk8 : Nat} {v8c : aC} {Ty8 : Nat} {blk9 : Nat} {e9c : aC} {Ty9 : Nat} {k10 : Int} {i : Nat} (B : TQ w0 w c g s ts xs bt sl ns i) (ok : bU c g) (hs : StOk g ts xs) (hM : i0 + 20 ≤ 900000) (hi : i0 ≤ i ∧ i + 7 ≤ i0 + 20) (hblk5 : w0.heap.size ≤ blk5) (hblk6 : w0.heap.size ≤ blk6) (hblk8 : w0.heap.size ≤ blk8) (hblk9 : w0.heap.size ≤ blk9) (hk : 0 ≤ k10 ∧ k10 < g.cs.length) :
    jF w0.heap.size (fun v w' => Touch (fun b => b = bt) w0 w' ∧ ResE bt sl ns i0 20 v w') (some ⟨bt, 0, none⟩) tick3 blk5 c Ty5 blk6 s Ty6 blk8 v8c Ty8 blk9 e9c Ty9 k10 w := by
  have A := B.A
  have hcl := ok.cl
  have hvl := ok.vl
  have htl := hs.tl
  have hxl := hs.xl
  have hle := ok.lease
  have hba := ok.bake
  have hre := ok.reg
  have hcn := B.A.cf.ce.1
  have hvn := B.A.cf.v.1
  have htn := B.A.cf.t.1
  unfold jF
  repeat' first
    | exact mp_4 B ok hs hM (by omega) (by omega) (by omega) (by omega) (by omega) (by omega)
    | exact ⟨B.A.T.t, _, _, rfl, B.tp, by omega⟩
    | (refine B.reb (by intro b hb; simp [blk] at hb <;> omega) (fun w' B => ?_); have A := B.A)
    | (intro bb hbb; have zz := B.A.T.t.size)
    | with_reducible refine ifT ?_
    | with_reducible refine ifF ?_
    | (with_reducible refine ifbd (fun h => ?_) (fun h => ?_))
    | (with_reducible refine ifbnd (fun h => ?_) (fun h => ?_))
    | (with_reducible refine ifbn (fun h => ?_) (fun h => ?_))
    | (refine ifb (fun h => ?_) (fun h => ?_))
    | (refine B.next (by intro b hb; simp [blk] at hb <;> omega) (by omega) (by omega) (by omega) (fun m j w' g0 g1 B hj => ?_); have A := B.A; refine ⟨m, rfl, ?_⟩)
    | (refine B.range (by intro b hb; simp [blk] at hb <;> omega) (by omega) (by omega) (by omega) (by omega) (fun m j w' g0 g1 B hj => ?_); have A := B.A; refine ⟨m, rfl, ?_⟩)
    | (refine B.yes (by intro b hb; simp [blk] at hb <;> omega) (by omega) (by omega) (by omega) (fun m j w' B hj => ?_); have A := B.A; refine ⟨m, rfl, ?_⟩)
    | (refine A.tn (by omega) (by omega) (fun q x hq hx => ?_); have hxo := hs.tr x (List.mem_of_getElem? hx))
    | (refine A.ce (by dsimp only; omega) (by dsimp only; omega) (fun q2 x2 hq2 hx2 => ?_); have hxo2 := hs.xr x2 (List.mem_of_getElem? hx2))
    | (refine A.ce (by omega) (by omega) (fun q2 x2 hq2 hx2 => ?_); have hxo2 := hs.xr x2 (List.mem_of_getElem? hx2))
    | refine ⟨x, A.rdT (o := 0) hq hx rfl, A.niT (o := 0) hq (by intro b hb; simp [blk] at hb <;> omega), ?_⟩
    | refine ⟨x2, A.rdX (o := 0) hq2 hx2 rfl, A.niX (o := 0) hq2 (by intro b hb; simp [blk] at hb <;> omega), ?_⟩
    | refine ⟨_, A.rdT hq hx rfl, A.niT hq (by intro b hb; simp [blk] at hb <;> omega), ?_⟩
    | refine ⟨_, A.rdT (o := 0) hq hx rfl, A.niT (o := 0) hq (by intro b hb; simp [blk] at hb <;> omega), ?_⟩
    | refine ⟨_, A.rdX hq2 hx2 rfl, A.niX hq2 (by intro b hb; simp [blk] at hb <;> omega), ?_⟩
    | refine ⟨_, A.rdX (o := 0) hq2 hx2 rfl, A.niX (o := 0) hq2 (by intro b hb; simp [blk] at hb <;> omega), ?_⟩
    | (refine B.call (by intro b hb; simp [blk] at hb <;> omega) (fun wa B => dM _ _ wa) ?_; rintro wa v w' B _ ⟨z, rfl⟩; have A := B.A; refine ⟨z, rfl, ?_⟩)
    | (refine B.call (by intro b hb; simp [blk] at hb <;> omega) (fun wa B => cO _ _ wa) ?_; rintro wa v w' B _ rfl; have A := B.A; refine ⟨_, rfl, ?_⟩)
    | refine ⟨aHG, ?_⟩
    | rw [wrap_i64 (x := c.Bake + 1) (by omega) (by omega)]
theorem mp_2 {tick3 : Int} {blk5 : Nat} {Ty5 : Nat} {blk6 : Nat} {Ty6 : Nat} {blk8 : Nat} {v8c : aC} {Ty8 : Nat} {blk9 : Nat} {e9c : aC} {Ty9 : Nat} {i : Nat} (B : TQ w0 w c g s ts xs bt sl ns i) (ok : bU c g) (hs : StOk g ts xs) (hM : i0 + 20 ≤ 900000) (hi : i0 ≤ i ∧ i + 8 ≤ i0 + 20) (hblk5 : w0.heap.size ≤ blk5) (hblk6 : w0.heap.size ≤ blk6) (hblk8 : w0.heap.size ≤ blk8) (hblk9 : w0.heap.size ≤ blk9) :
    jE w0.heap.size (fun v w' => Touch (fun b => b = bt) w0 w' ∧ ResE bt sl ns i0 20 v w') (some ⟨bt, 0, none⟩) tick3 blk5 c Ty5 blk6 s Ty6 blk8 v8c Ty8 blk9 e9c Ty9 w := by
  have A := B.A
  have hcl := ok.cl
  have hvl := ok.vl
  have htl := hs.tl
  have hxl := hs.xl
  have hle := ok.lease
  have hba := ok.bake
  have hre := ok.reg
  have hcn := B.A.cf.ce.1
  have hvn := B.A.cf.v.1
  have htn := B.A.cf.t.1
  unfold jE
  repeat' first
    | exact mp_3 B ok hs hM (by omega) (by omega) (by omega) (by omega) (by omega) (by omega)
    | exact ⟨B.A.T.t, _, _, rfl, B.tp, by omega⟩
    | (refine B.reb (by intro b hb; simp [blk] at hb <;> omega) (fun w' B => ?_); have A := B.A)
    | (intro bb hbb; have zz := B.A.T.t.size)
    | with_reducible refine ifT ?_
    | with_reducible refine ifF ?_
    | (with_reducible refine ifbd (fun h => ?_) (fun h => ?_))
    | (with_reducible refine ifbnd (fun h => ?_) (fun h => ?_))
    | (with_reducible refine ifbn (fun h => ?_) (fun h => ?_))
    | (refine ifb (fun h => ?_) (fun h => ?_))
    | (refine B.next (by intro b hb; simp [blk] at hb <;> omega) (by omega) (by omega) (by omega) (fun m j w' g0 g1 B hj => ?_); have A := B.A; refine ⟨m, rfl, ?_⟩)
    | (refine B.range (by intro b hb; simp [blk] at hb <;> omega) (by omega) (by omega) (by omega) (by omega) (fun m j w' g0 g1 B hj => ?_); have A := B.A; refine ⟨m, rfl, ?_⟩)
    | (refine B.yes (by intro b hb; simp [blk] at hb <;> omega) (by omega) (by omega) (by omega) (fun m j w' B hj => ?_); have A := B.A; refine ⟨m, rfl, ?_⟩)
    | (refine A.tn (by omega) (by omega) (fun q x hq hx => ?_); have hxo := hs.tr x (List.mem_of_getElem? hx))
    | (refine A.ce (by dsimp only; omega) (by dsimp only; omega) (fun q2 x2 hq2 hx2 => ?_); have hxo2 := hs.xr x2 (List.mem_of_getElem? hx2))
    | (refine A.ce (by omega) (by omega) (fun q2 x2 hq2 hx2 => ?_); have hxo2 := hs.xr x2 (List.mem_of_getElem? hx2))
    | refine ⟨x, A.rdT (o := 0) hq hx rfl, A.niT (o := 0) hq (by intro b hb; simp [blk] at hb <;> omega), ?_⟩
    | refine ⟨x2, A.rdX (o := 0) hq2 hx2 rfl, A.niX (o := 0) hq2 (by intro b hb; simp [blk] at hb <;> omega), ?_⟩
    | refine ⟨_, A.rdT hq hx rfl, A.niT hq (by intro b hb; simp [blk] at hb <;> omega), ?_⟩
    | refine ⟨_, A.rdT (o := 0) hq hx rfl, A.niT (o := 0) hq (by intro b hb; simp [blk] at hb <;> omega), ?_⟩
    | refine ⟨_, A.rdX hq2 hx2 rfl, A.niX hq2 (by intro b hb; simp [blk] at hb <;> omega), ?_⟩
    | refine ⟨_, A.rdX (o := 0) hq2 hx2 rfl, A.niX (o := 0) hq2 (by intro b hb; simp [blk] at hb <;> omega), ?_⟩
    | (refine B.call (by intro b hb; simp [blk] at hb <;> omega) (fun wa B => dM _ _ wa) ?_; rintro wa v w' B _ ⟨z, rfl⟩; have A := B.A; refine ⟨z, rfl, ?_⟩)
    | (refine B.call (by intro b hb; simp [blk] at hb <;> omega) (fun wa B => cO _ _ wa) ?_; rintro wa v w' B _ rfl; have A := B.A; refine ⟨_, rfl, ?_⟩)
    | refine ⟨aHG, ?_⟩
    | rw [wrap_i64 (x := c.Bake + 1) (by omega) (by omega)]
theorem mp_1 {tick3 : Int} {blk5 : Nat} {Ty5 : Nat} {blk6 : Nat} {Ty6 : Nat} {blk8 : Nat} {v8c : aC} {Ty8 : Nat} {i : Nat} (B : TQ w0 w c g s ts xs bt sl ns i) (ok : bU c g) (hs : StOk g ts xs) (hM : i0 + 20 ≤ 900000) (hi : i0 ≤ i ∧ i + 8 ≤ i0 + 20) (hblk5 : w0.heap.size ≤ blk5) (hblk6 : w0.heap.size ≤ blk6) (hblk8 : w0.heap.size ≤ blk8) :
    jP w0.heap.size (fun v w' => Touch (fun b => b = bt) w0 w' ∧ ResE bt sl ns i0 20 v w') (some ⟨bt, 0, none⟩) tick3 blk5 c Ty5 blk6 s Ty6 blk8 v8c Ty8 w := by
  have A := B.A
  have hcl := ok.cl
  have hvl := ok.vl
  have htl := hs.tl
  have hxl := hs.xl
  have hle := ok.lease
  have hba := ok.bake
  have hre := ok.reg
  have hcn := B.A.cf.ce.1
  have hvn := B.A.cf.v.1
  have htn := B.A.cf.t.1
  unfold jP
  repeat' first
    | exact mp_2 B ok hs hM (by omega) (by omega) (by omega) (by omega) (by omega)
    | exact ⟨B.A.T.t, _, _, rfl, B.tp, by omega⟩
    | (refine B.reb (by intro b hb; simp [blk] at hb <;> omega) (fun w' B => ?_); have A := B.A)
    | (intro bb hbb; have zz := B.A.T.t.size)
    | with_reducible refine ifT ?_
    | with_reducible refine ifF ?_
    | (with_reducible refine ifbd (fun h => ?_) (fun h => ?_))
    | (with_reducible refine ifbnd (fun h => ?_) (fun h => ?_))
    | (with_reducible refine ifbn (fun h => ?_) (fun h => ?_))
    | (refine ifb (fun h => ?_) (fun h => ?_))
    | (refine B.next (by intro b hb; simp [blk] at hb <;> omega) (by omega) (by omega) (by omega) (fun m j w' g0 g1 B hj => ?_); have A := B.A; refine ⟨m, rfl, ?_⟩)
    | (refine B.range (by intro b hb; simp [blk] at hb <;> omega) (by omega) (by omega) (by omega) (by omega) (fun m j w' g0 g1 B hj => ?_); have A := B.A; refine ⟨m, rfl, ?_⟩)
    | (refine B.yes (by intro b hb; simp [blk] at hb <;> omega) (by omega) (by omega) (by omega) (fun m j w' B hj => ?_); have A := B.A; refine ⟨m, rfl, ?_⟩)
    | (refine A.tn (by omega) (by omega) (fun q x hq hx => ?_); have hxo := hs.tr x (List.mem_of_getElem? hx))
    | (refine A.ce (by dsimp only; omega) (by dsimp only; omega) (fun q2 x2 hq2 hx2 => ?_); have hxo2 := hs.xr x2 (List.mem_of_getElem? hx2))
    | (refine A.ce (by omega) (by omega) (fun q2 x2 hq2 hx2 => ?_); have hxo2 := hs.xr x2 (List.mem_of_getElem? hx2))
    | refine ⟨x, A.rdT (o := 0) hq hx rfl, A.niT (o := 0) hq (by intro b hb; simp [blk] at hb <;> omega), ?_⟩
    | refine ⟨x2, A.rdX (o := 0) hq2 hx2 rfl, A.niX (o := 0) hq2 (by intro b hb; simp [blk] at hb <;> omega), ?_⟩
    | refine ⟨_, A.rdT hq hx rfl, A.niT hq (by intro b hb; simp [blk] at hb <;> omega), ?_⟩
    | refine ⟨_, A.rdT (o := 0) hq hx rfl, A.niT (o := 0) hq (by intro b hb; simp [blk] at hb <;> omega), ?_⟩
    | refine ⟨_, A.rdX hq2 hx2 rfl, A.niX hq2 (by intro b hb; simp [blk] at hb <;> omega), ?_⟩
    | refine ⟨_, A.rdX (o := 0) hq2 hx2 rfl, A.niX (o := 0) hq2 (by intro b hb; simp [blk] at hb <;> omega), ?_⟩
    | (refine B.call (by intro b hb; simp [blk] at hb <;> omega) (fun wa B => dM _ _ wa) ?_; rintro wa v w' B _ ⟨z, rfl⟩; have A := B.A; refine ⟨z, rfl, ?_⟩)
    | (refine B.call (by intro b hb; simp [blk] at hb <;> omega) (fun wa B => cO _ _ wa) ?_; rintro wa v w' B _ rfl; have A := B.A; refine ⟨_, rfl, ?_⟩)
    | refine ⟨aHG, ?_⟩
    | rw [wrap_i64 (x := c.Bake + 1) (by omega) (by omega)]
theorem pM {tick : Int} {i : Nat} (B : TQ w w c g s ts xs bt sl ns i) (ok : bU c g) (hs : StOk g ts xs) (hi : i ≤ 800000) :
    Spec PP wB [.pointer (some ⟨bt, 0, none⟩), .agg (List.toArray c.cells), .agg (List.toArray s.cells), .int .i64 tick] w (fun b => b = bt) (ResE bt sl ns i 20) := by
  refine aI4 (some ⟨bt, 0, none⟩) c s tick _ w ?_
  unfold uL
  intro b0 hb0 b1 hb1 b2 hb2
  refine B.reb (by intro b hb; simp [blk] at hb <;> omega) (fun w' B => ?_)
  exact mp_1 B ok hs (by omega) (by omega) (by omega) (by omega) (by omega)
end
end Go.Sh
