/- A part of the proof (printed smaller by a program of ours). Conditions: none. -/
import Derived.Test.YtoenaheehpjmiaaDoorKEM9
namespace Go.Sh
open Go
set_option linter.unusedSimpArgs false
set_option linter.unusedVariables false
set_option maxHeartbeats 8000000
theorem aHG {n : Int} : (0 : Int) ≤ IntKind.u64.wrap n := by
  simp [IntKind.wrap, IntKind.signed, IntKind.bits]; omega
section
variable {S : Nat → Prop} {w0 w w' : World} {c : aB} {g : Cfg} {s : aA} {ts : List aJ} {xs : List aL} {L : List LB}
theorem AP.vn {i : Int} {K : Addr → Prop} (A : AP S w0 w c g s ts xs) (h0 : 0 ≤ i) (h1 : i < g.vs.length) (k : ∀ q x, c.Versions.a = some q → g.vs[i.toNat]? = some x → K q) : IdxL c.Versions.a c.Versions.n i K :=
  A.cf.v.idx h0 (by have := A.cf.v.1; omega) (fun p x hp hx _ => k p x hp hx)
theorem AP.rdV {q : Addr} {i o : Nat} {x : aP} {ds : List Value} (A : AP S w0 w c g s ts xs) (hq : c.Versions.a = some q) (hx : g.vs[i]? = some x) (hd : (x.cells.drop o).take ds.length = ds) : At w (addA (q.add (i * 2)) o) ds :=
  (A.cf.v.2.2 q hq i x hx).fld o hd
theorem AP.niV {q : Addr} {i o k : Nat} (A : AP S w0 w c g s ts xs) (hc : ∀ b, c.on b → b < w0.heap.size) (hq : c.Versions.a = some q) (hL : newL w0 L) : NotIn (addA (q.add (i * k)) o).block L :=
  nI (N := w0.heap.size) (by rw [add_block]; exact hc _ (.inr (.inr (.inr ⟨q, hq, rfl⟩)))) hL
end
section
variable {w : World} {c : aB} {g : Cfg} {s : aA} {e : aC} {ts : List aJ} {xs : List aL}
theorem aWS (h : eT w c g) (ok : bU c g) (hc : ∀ b, c.on b → b < w.heap.size) (sep : ∀ b, c.on b → ¬ s.on b) (st : StAt w s ts xs) (hsT : ts.length = g.ts.length) (hsX : xs.length = g.cs.length) (hlt : ∀ b, s.on b → b < w.heap.size) (hT : 0 ≤ e.Tenant ∧ e.Tenant < g.ts.length) (hC : 0 ≤ e.Cell ∧ e.Cell < g.cs.length) : Spec PP uH [.agg (List.toArray c.cells), .agg (List.toArray s.cells), .agg (List.toArray e.cells)] w noB (fun v _ => ∃ n : Int, v = .int .i64 n) := by
  refine aI7 c s e _ w ?_
  unfold wH
  have A : AP noB w w c g s ts xs := ⟨Now.refl, h, st, hlt, sep⟩
  intro b0 hb0 b1 hb1 b2 hb2
  repeat' first
    | exact ⟨A.T.t, _, rfl⟩
    | refine A.reb (by intro b hb; simp [blk] at hb <;> omega) hc (fun w' A => ?_)
    | (intro bb hbb; have zz := A.T.t.size)
    | refine ⟨x, A.rdT (o := 0) hq hx rfl, A.niT (o := 0) hq (by intro b hb; simp [blk] at hb <;> omega), ?_⟩
    | refine ⟨x2, A.rdX (o := 0) hq2 hx2 rfl, A.niX (o := 0) hq2 (by intro b hb; simp [blk] at hb <;> omega), ?_⟩
    | refine ⟨x.Window, A.rdT hq hx rfl, A.niT hq (by intro b hb; simp [blk] at hb <;> omega), ?_⟩
    | (refine A.vn (by omega) (by omega) (fun q3 x3 hq3 hx3 => ?_))
    | refine ⟨x3, A.rdV (o := 0) hq3 hx3 rfl, A.niV (o := 0) hc hq3 (by intro b hb; simp [blk] at hb <;> omega), ?_⟩
    | refine ⟨_, A.rdV hq3 hx3 rfl, A.niV hc hq3 (by intro b hb; simp [blk] at hb <;> omega), ?_⟩
    | refine ⟨aHG, ?_⟩
    | (refine A.call (by intro b hb; simp [blk] at hb <;> omega) hc (fun wa A => iP (A.st.x.rd qQ) (by omega) (by omega)) ?_; rintro wa v w' A ⟨z, rfl⟩; refine ⟨z, rfl, ?_⟩)
    | unfold qL
    | unfold pV
    | unfold pO
    | unfold qH
    | unfold jK
    | unfold gM
    | unfold bR
    | unfold jX
    | unfold dB
    | exact ⟨A.T.t, _, _, rfl, fun h => absurd h (by decide)⟩
    | exact ⟨A.T.t, _, _, rfl, fun h => absurd h (by assumption)⟩
    | with_reducible refine ifT ?_
    | with_reducible refine ifF ?_
    | (with_reducible refine ifbd (fun h => ?_) (fun h => ?_))
    | (with_reducible refine ifbnd (fun h => ?_) (fun h => ?_))
    | (with_reducible refine ifbn (fun h => ?_) (fun h => ?_))
    | (refine ifb (fun h => ?_) (fun h => ?_))
    | (refine A.call (by intro b hb; simp [blk] at hb <;> omega) hc (fun wa A => bV _ wa) ?_; rintro wa v w' A ⟨st, rfl⟩; refine ⟨st, _, rfl, ?_⟩)
    | (refine A.call (by intro b hb; simp [blk] at hb <;> omega) hc (fun wa A => bL A.cf ok _ _) ?_; rintro wa v w' A ⟨z, rfl⟩; refine ⟨z, rfl, ?_⟩)
    | (refine A.call (by intro b hb; simp [blk] at hb <;> omega) hc (fun wa A => bP A.cf ok _ _) ?_; rintro wa v w' A ⟨z, rfl⟩; refine ⟨z, rfl, ?_⟩)
    | (refine A.call (by intro b hb; simp [blk] at hb <;> omega) hc (fun wa A => bC A.cf ok _ _) ?_; rintro wa v w' A ⟨z, rfl⟩; refine ⟨z, rfl, ?_⟩)
    | (refine A.call (by intro b hb; simp [blk] at hb <;> omega) hc (fun wa A => bE _ _ wa) ?_; rintro wa v w' A ⟨z, rfl⟩; refine ⟨z, rfl, ?_⟩)
    | (refine A.call (by intro b hb; simp [blk] at hb <;> omega) hc (fun wa A => bT _ _ wa) ?_; rintro wa v w' A ⟨z, rfl⟩; refine ⟨z, rfl, ?_⟩)
    | (refine A.tn (by omega) (by omega) (fun q x hq hx => ?_))
    | (refine A.ce (by omega) (by omega) (fun q2 x2 hq2 hx2 => ?_))
    | refine ⟨_, A.rdT hq hx rfl, A.niT hq (by intro b hb; simp [blk] at hb <;> omega), ?_⟩
    | refine ⟨_, A.rdT (o := 0) hq hx rfl, A.niT (o := 0) hq (by intro b hb; simp [blk] at hb <;> omega), ?_⟩
    | refine ⟨_, A.rdX hq2 hx2 rfl, A.niX hq2 (by intro b hb; simp [blk] at hb <;> omega), ?_⟩
    | refine ⟨_, A.rdX (o := 0) hq2 hx2 rfl, A.niX (o := 0) hq2 (by intro b hb; simp [blk] at hb <;> omega), ?_⟩
    | refine ⟨_, A.rdT2 hq hx rfl, A.niT2 hq (by intro b hb; simp [blk] at hb <;> omega), ?_⟩
    | refine A.t1 (fun _ h => h) hq (by intro b hb; simp [blk] at hb <;> omega) hx (fun w' A hx => ?_)
    | refine A.t2 (fun _ h => h) hq (by intro b hb; simp [blk] at hb <;> omega) hx (fun w' A hx => ?_)
    | refine A.t3 (fun _ h => h) hq (by intro b hb; simp [blk] at hb <;> omega) hx (fun w' A hx => ?_)
    | refine A.t4 (fun _ h => h) hq (by intro b hb; simp [blk] at hb <;> omega) hx (fun w' A hx => ?_)
    | refine A.t5 (fun _ h => h) hq (by intro b hb; simp [blk] at hb <;> omega) hx (fun w' A hx => ?_)
    | refine A.t6 (fun _ h => h) hq (by intro b hb; simp [blk] at hb <;> omega) hx (fun w' A hx => ?_)
    | refine A.t7 (fun _ h => h) hq (by intro b hb; simp [blk] at hb <;> omega) hx (fun w' A hx => ?_)
    | refine A.x0 (fun _ h => h) hq2 (by intro b hb; simp [blk] at hb <;> omega) hx2 (fun w' A hx2 => ?_)
    | refine A.x1 (fun _ h => h) hq2 (by intro b hb; simp [blk] at hb <;> omega) hx2 (fun w' A hx2 => ?_)
    | refine A.x2 (fun _ h => h) hq2 (by intro b hb; simp [blk] at hb <;> omega) hx2 (fun w' A hx2 => ?_)
    | refine A.x3 (fun _ h => h) hq2 (by intro b hb; simp [blk] at hb <;> omega) hx2 (fun w' A hx2 => ?_)
theorem aXD (h : eT w c g) (ok : bU c g) (hc : ∀ b, c.on b → b < w.heap.size) (sep : ∀ b, c.on b → ¬ s.on b) (st : StAt w s ts xs) (hs : StOk g ts xs) (hT : 0 ≤ e.Tenant ∧ e.Tenant < g.ts.length) (hC : 0 ≤ e.Cell ∧ e.Cell < g.cs.length)  : Spec PP aAG [.agg (List.toArray c.cells), .agg (List.toArray s.cells), .agg (List.toArray e.cells)] w (fun b => s.on b) (ResS g s) := by
  refine aMS c s e _ w ?_
  unfold zU
  have htl := hs.tl
  have hxl := hs.xl
  have A : AP (fun b => s.on b) w w c g s ts xs := ⟨Now.refl, h, st, fun b hb => st.lt hb, sep⟩
  intro b0 hb0 b1 hb1 b2 hb2 b3 hb3
  repeat' first
    | refine A.reb (by intro b hb; simp [blk] at hb <;> omega) hc (fun w' A => ?_)
    | unfold uD
    | unfold vP
    | unfold uV
    | unfold wC
    | unfold vM
    | unfold vX
    | unfold wJ
    | unfold iO
    | unfold iI
    | unfold gY
    | exact ⟨A.T.t, _, _, rfl, fun h => absurd h (by decide)⟩
    | exact ⟨A.T.t, _, _, rfl, fun h => absurd h (by assumption)⟩
    | with_reducible refine ifT ?_
    | with_reducible refine ifF ?_
    | (with_reducible refine ifbd (fun h => ?_) (fun h => ?_))
    | (with_reducible refine ifbnd (fun h => ?_) (fun h => ?_))
    | (with_reducible refine ifbn (fun h => ?_) (fun h => ?_))
    | (refine ifb (fun h => ?_) (fun h => ?_))
    | (refine A.call (by intro b hb; simp [blk] at hb <;> omega) hc (fun wa A => bV _ wa) ?_; rintro wa v w' A ⟨st, rfl⟩; refine ⟨st, _, rfl, ?_⟩)
    | (refine A.call (by intro b hb; simp [blk] at hb <;> omega) hc (fun wa A => bL A.cf ok _ _) ?_; rintro wa v w' A ⟨z, rfl⟩; refine ⟨z, rfl, ?_⟩)
    | (refine A.call (by intro b hb; simp [blk] at hb <;> omega) hc (fun wa A => bP A.cf ok _ _) ?_; rintro wa v w' A ⟨z, rfl⟩; refine ⟨z, rfl, ?_⟩)
    | (refine A.call (by intro b hb; simp [blk] at hb <;> omega) hc (fun wa A => bC A.cf ok _ _) ?_; rintro wa v w' A ⟨z, rfl⟩; refine ⟨z, rfl, ?_⟩)
    | (refine A.call (by intro b hb; simp [blk] at hb <;> omega) hc (fun wa A => bE _ _ wa) ?_; rintro wa v w' A ⟨z, rfl⟩; refine ⟨z, rfl, ?_⟩)
    | (refine A.call (by intro b hb; simp [blk] at hb <;> omega) hc (fun wa A => bT _ _ wa) ?_; rintro wa v w' A ⟨z, rfl⟩; refine ⟨z, rfl, ?_⟩)
    | (refine A.call (by intro b hb; simp [blk] at hb <;> omega) hc (fun wa A => aWS A.cf ok (fun b hb => Nat.lt_of_lt_of_le (hc b hb) A.T.t.size) sep A.st htl hxl (fun b hb => A.st.lt hb) hT hC) ?_; rintro wa v w' A ⟨z, rfl⟩; refine ⟨z, rfl, ?_⟩)
    | (refine A.call (by intro b hb; simp [blk] at hb <;> omega) hc (fun wa A => bX A.cf ok (A.st.t.rd kI) (by simp only [List.length_set]; exact hs.tl)) ?_; rintro wa v w' A ⟨st, er, rfl, her⟩; refine ⟨st, er, rfl, ?_⟩)
    | (refine A.tn (by omega) (by omega) (fun q x hq hx => ?_); have hxo := hs.tr x (List.mem_of_getElem? hx))
    | (refine A.ce (hxo.q (by assumption)) (by have := hxo.h.2; omega) (fun q2 x2 hq2 hx2 => ?_); have hxo2 := hs.xr x2 (List.mem_of_getElem? hx2))
    | (refine A.ce (by omega) (by omega) (fun q2 x2 hq2 hx2 => ?_); have hxo2 := hs.xr x2 (List.mem_of_getElem? hx2))
    | refine ⟨_, A.rdT hq hx rfl, A.niT hq (by intro b hb; simp [blk] at hb <;> omega), ?_⟩
    | refine ⟨_, A.rdT (o := 0) hq hx rfl, A.niT (o := 0) hq (by intro b hb; simp [blk] at hb <;> omega), ?_⟩
    | refine ⟨_, A.rdX hq2 hx2 rfl, A.niX hq2 (by intro b hb; simp [blk] at hb <;> omega), ?_⟩
    | refine ⟨_, A.rdX (o := 0) hq2 hx2 rfl, A.niX (o := 0) hq2 (by intro b hb; simp [blk] at hb <;> omega), ?_⟩
    | refine ⟨_, A.rdT2 hq hx rfl, A.niT2 hq (by intro b hb; simp [blk] at hb <;> omega), ?_⟩
    | refine A.t0 (fun _ h => h) hq (by intro b hb; simp [blk] at hb <;> omega) hx (fun w' A hx => ?_)
    | refine A.t1 (fun _ h => h) hq (by intro b hb; simp [blk] at hb <;> omega) hx (fun w' A hx => ?_)
    | refine A.t2 (fun _ h => h) hq (by intro b hb; simp [blk] at hb <;> omega) hx (fun w' A hx => ?_)
    | refine A.t3 (fun _ h => h) hq (by intro b hb; simp [blk] at hb <;> omega) hx (fun w' A hx => ?_)
    | refine A.t4 (fun _ h => h) hq (by intro b hb; simp [blk] at hb <;> omega) hx (fun w' A hx => ?_)
    | refine A.t5 (fun _ h => h) hq (by intro b hb; simp [blk] at hb <;> omega) hx (fun w' A hx => ?_)
    | refine A.t6 (fun _ h => h) hq (by intro b hb; simp [blk] at hb <;> omega) hx (fun w' A hx => ?_)
    | refine A.t7 (fun _ h => h) hq (by intro b hb; simp [blk] at hb <;> omega) hx (fun w' A hx => ?_)
    | refine A.x0 (fun _ h => h) hq2 (by intro b hb; simp [blk] at hb <;> omega) hx2 (fun w' A hx2 => ?_)
    | refine A.x1 (fun _ h => h) hq2 (by intro b hb; simp [blk] at hb <;> omega) hx2 (fun w' A hx2 => ?_)
    | refine A.x2 (fun _ h => h) hq2 (by intro b hb; simp [blk] at hb <;> omega) hx2 (fun w' A hx2 => ?_)
    | refine A.x3 (fun _ h => h) hq2 (by intro b hb; simp [blk] at hb <;> omega) hx2 (fun w' A hx2 => ?_)
  all_goals first
    | exact wP A her hs
    | (refine wP A her ?_; (try simp only [List.set_set]); refine hs.setT ?_; refine ⟨?_, ?_, ?_, ?_, ?_, ?_⟩ <;> first | exact hxo.h | exact hxo.s | exact hxo.n | exact hxo.g_ | exact hxo.p | exact hxo.q | exact m1 | (unfold inC; dsimp only; omega) | (intro _; dsimp only; omega) | exact fun _ => hxo.p (by assumption) | exact fun hh => Bool.noConfusion hh)
    | exact fin0 A rfl rfl hs
    | (refine fin0 A rfl rfl ?_; (try simp only [List.set_set]); refine hs.setT ?_; refine ⟨?_, ?_, ?_, ?_, ?_, ?_⟩ <;> first | exact hxo.h | exact hxo.s | exact hxo.n | exact hxo.g_ | exact hxo.p | exact hxo.q | exact m1 | (unfold inC; dsimp only; omega) | (intro _; dsimp only; omega) | exact fun _ => hxo.p (by assumption) | exact fun hh => Bool.noConfusion hh)
end
end Go.Sh
