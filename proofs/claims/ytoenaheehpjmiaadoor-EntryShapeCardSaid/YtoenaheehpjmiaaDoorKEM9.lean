/- A part of the proof (printed smaller by a program of ours). Conditions: none. -/
import Derived.Test.YtoenaheehpjmiaaDoorKEM8
namespace Go.Sh
open Go
set_option linter.unusedSimpArgs false
set_option linter.unusedVariables false
set_option maxHeartbeats 8000000
theorem wP {S : Nat → Prop} {w0 w' : World} {c : aB} {g : Cfg} {s st : aA} {er : Int} {ts : List aJ} {xs : List aL} (A : AP S w0 w' c g s ts xs) (her : er = 0 → st = s) (ho : StOk g ts xs) :
    Touch S w0 w' ∧ ResS g s (.tuple #[.agg (List.toArray st.cells), .int .i64 er]) w' :=
  ⟨A.T.t, st, er, rfl, fun h => ⟨ts, xs, her h ▸ A.st, ho, fun b hb => her h ▸ hb⟩⟩
theorem fin0 {S : Nat → Prop} {w0 w' : World} {c : aB} {g : Cfg} {s st : aA} {er : Int} {ts : List aJ} {xs : List aL} (A : AP S w0 w' c g s ts xs) (h1 : st.Tenants = s.Tenants) (h2 : st.Cells = s.Cells) (ho : StOk g ts xs) :
    Touch S w0 w' ∧ ResS g s (.tuple #[.agg (List.toArray st.cells), .int .i64 er]) w' :=
  ⟨A.T.t, st, er, rfl, fun h => ⟨ts, xs, ⟨h1 ▸ A.st.t, h2 ▸ A.st.x⟩, ho, fun b hb => by unfold aA.on at hb ⊢; rwa [h1, h2] at hb⟩⟩
theorem m1 {g : Cfg} : inC g (-1) := ⟨by omega, by omega⟩
theorem a2H (p : Addr) (a b : Nat) : addA (addA p a) b = addA p (a + b) := by
  rw [addA_eq, addA_eq, addA_eq]
  unfold Addr.add
  cases a <;> cases b <;> simp <;> omega
theorem AP.rdT2 {S : Nat → Prop} {w0 w : World} {c : aB} {g : Cfg} {s : aA} {ts : List aJ} {xs : List aL} {q : Addr} {i o o2 : Nat} {x : aJ} {ds : List Value} (A : AP S w0 w c g s ts xs) (hq : s.Tenants.a = some q) (hx : ts[i]? = some x) (hd : (x.cells.drop (o + o2)).take ds.length = ds) : At w (addA (addA (q.add (i * 12)) o) o2) ds := by
  rw [a2H]; exact A.rdT hq hx hd
theorem AP.niT2 {S : Nat → Prop} {w0 w : World} {c : aB} {g : Cfg} {s : aA} {ts : List aJ} {xs : List aL} {L : List LB} {q : Addr} {i o o2 k : Nat} (A : AP S w0 w c g s ts xs) (hq : s.Tenants.a = some q) (hL : newL w0 L) : NotIn (addA (addA (q.add (i * k)) o) o2).block L := by
  rw [a2H]; exact A.niT hq hL
theorem ifT {p q : Prop} (h : p) : IfB true p q := ifb (fun _ => h) (fun h => Bool.noConfusion h)
theorem ifF {p q : Prop} (h : q) : IfB false p q := ifb (fun h => Bool.noConfusion h) (fun _ => h)
section
variable {w : World} {c : aB} {g : Cfg} {s : aA} {e : aC} {ts : List aJ} {xs : List aL}
theorem aXT (h : eT w c g) (ok : bU c g) (hc : ∀ b, c.on b → b < w.heap.size) (sep : ∀ b, c.on b → ¬ s.on b) (st : StAt w s ts xs) (hs : StOk g ts xs) (hT : 0 ≤ e.Tenant ∧ e.Tenant < g.ts.length) (hC : 0 ≤ e.Cell ∧ e.Cell < g.cs.length) (hO : -1 ≤ e.Other ∧ e.Other < g.cs.length) : Spec PP zT [.agg (List.toArray c.cells), .agg (List.toArray s.cells), .agg (List.toArray e.cells)] w (fun b => s.on b) (ResS g s) := by
  refine aL3 c s e _ w ?_
  unfold aAQ
  have htl := hs.tl
  have hxl := hs.xl
  have A : AP (fun b => s.on b) w w c g s ts xs := ⟨Now.refl, h, st, fun b hb => st.lt hb, sep⟩
  intro b0 hb0 b1 hb1 b2 hb2 b3 hb3
  repeat' first
    | refine A.reb (by intro b hb; simp [blk] at hb; omega) hc (fun w' A => ?_)
    | unfold vK
    | unfold wK
    | unfold u6
    | unfold vB
    | unfold vR
    | unfold iF
    | unfold iL
    | unfold fE
    | exact ⟨A.T.t, _, _, rfl, fun h => absurd h (by decide)⟩
    | exact ⟨A.T.t, _, _, rfl, fun h => absurd h (by assumption)⟩
    | with_reducible refine ifT ?_
    | with_reducible refine ifF ?_
    | (with_reducible refine ifbd (fun h => ?_) (fun h => ?_))
    | (with_reducible refine ifbnd (fun h => ?_) (fun h => ?_))
    | (with_reducible refine ifbn (fun h => ?_) (fun h => ?_))
    | (refine ifb (fun h => ?_) (fun h => ?_))
    | (refine A.call (by intro b hb; simp [blk] at hb; omega) hc (fun wa A => bV _ wa) ?_; rintro wa v w' A ⟨st, rfl⟩; refine ⟨st, _, rfl, ?_⟩)
    | (refine A.call (by intro b hb; simp [blk] at hb; omega) hc (fun wa A => bL A.cf ok _ _) ?_; rintro wa v w' A ⟨z, rfl⟩; refine ⟨z, rfl, ?_⟩)
    | (refine A.call (by intro b hb; simp [blk] at hb; omega) hc (fun wa A => bP A.cf ok _ _) ?_; rintro wa v w' A ⟨z, rfl⟩; refine ⟨z, rfl, ?_⟩)
    | (refine A.call (by intro b hb; simp [blk] at hb; omega) hc (fun wa A => bC A.cf ok _ _) ?_; rintro wa v w' A ⟨z, rfl⟩; refine ⟨z, rfl, ?_⟩)
    | (refine A.call (by intro b hb; simp [blk] at hb; omega) hc (fun wa A => bE _ _ wa) ?_; rintro wa v w' A ⟨z, rfl⟩; refine ⟨z, rfl, ?_⟩)
    | (refine A.call (by intro b hb; simp [blk] at hb; omega) hc (fun wa A => bT _ _ wa) ?_; rintro wa v w' A ⟨z, rfl⟩; refine ⟨z, rfl, ?_⟩)
    | (refine A.call (by intro b hb; simp [blk] at hb; omega) hc (fun wa A => bX A.cf ok (A.st.t.rd kI) (by simp only [List.length_set]; exact hs.tl)) ?_; rintro wa v w' A ⟨st, er, rfl, her⟩; refine ⟨st, er, rfl, ?_⟩)
    | (refine A.tn (by omega) (by omega) (fun q x hq hx => ?_); have hxo := hs.tr x (List.mem_of_getElem? hx))
    | (refine A.ce (hxo.q (by assumption)) (by have := hxo.h.2; omega) (fun q2 x2 hq2 hx2 => ?_); have hxo2 := hs.xr x2 (List.mem_of_getElem? hx2))
    | (refine A.ce (by omega) (by omega) (fun q2 x2 hq2 hx2 => ?_); have hxo2 := hs.xr x2 (List.mem_of_getElem? hx2))
    | refine ⟨_, A.rdT hq hx rfl, A.niT hq (by intro b hb; simp [blk] at hb; omega), ?_⟩
    | refine ⟨_, A.rdT (o := 0) hq hx rfl, A.niT (o := 0) hq (by intro b hb; simp [blk] at hb; omega), ?_⟩
    | refine ⟨_, A.rdX hq2 hx2 rfl, A.niX hq2 (by intro b hb; simp [blk] at hb; omega), ?_⟩
    | refine ⟨_, A.rdX (o := 0) hq2 hx2 rfl, A.niX (o := 0) hq2 (by intro b hb; simp [blk] at hb; omega), ?_⟩
    | refine ⟨_, A.rdT2 hq hx rfl, A.niT2 hq (by intro b hb; simp [blk] at hb; omega), ?_⟩
    | refine A.t0 (fun _ h => h) hq (by intro b hb; simp [blk] at hb; omega) hx (fun w' A hx => ?_)
    | refine A.t1 (fun _ h => h) hq (by intro b hb; simp [blk] at hb; omega) hx (fun w' A hx => ?_)
    | refine A.t2 (fun _ h => h) hq (by intro b hb; simp [blk] at hb; omega) hx (fun w' A hx => ?_)
    | refine A.t3 (fun _ h => h) hq (by intro b hb; simp [blk] at hb; omega) hx (fun w' A hx => ?_)
    | refine A.t4 (fun _ h => h) hq (by intro b hb; simp [blk] at hb; omega) hx (fun w' A hx => ?_)
    | refine A.t5 (fun _ h => h) hq (by intro b hb; simp [blk] at hb; omega) hx (fun w' A hx => ?_)
    | refine A.t6 (fun _ h => h) hq (by intro b hb; simp [blk] at hb; omega) hx (fun w' A hx => ?_)
    | refine A.t7 (fun _ h => h) hq (by intro b hb; simp [blk] at hb; omega) hx (fun w' A hx => ?_)
    | refine A.x0 (fun _ h => h) hq2 (by intro b hb; simp [blk] at hb; omega) hx2 (fun w' A hx2 => ?_)
    | refine A.x1 (fun _ h => h) hq2 (by intro b hb; simp [blk] at hb; omega) hx2 (fun w' A hx2 => ?_)
    | refine A.x2 (fun _ h => h) hq2 (by intro b hb; simp [blk] at hb; omega) hx2 (fun w' A hx2 => ?_)
    | refine A.x3 (fun _ h => h) hq2 (by intro b hb; simp [blk] at hb; omega) hx2 (fun w' A hx2 => ?_)
  all_goals first
    | exact wP A her hs
    | (refine wP A her ?_; (try simp only [List.set_set]); refine hs.setT ?_; refine ⟨?_, ?_, ?_, ?_, ?_, ?_⟩ <;> first | exact hxo.h | exact hxo.s | exact hxo.n | exact hxo.g_ | exact hxo.p | exact hxo.q | exact m1 | (unfold inC; dsimp only; omega) | (intro _; dsimp only; omega) | exact fun _ => hxo.p (by assumption) | exact fun hh => Bool.noConfusion hh)
    | exact fin0 A rfl rfl hs
    | (refine fin0 A rfl rfl ?_; (try simp only [List.set_set]); refine hs.setT ?_; refine ⟨?_, ?_, ?_, ?_, ?_, ?_⟩ <;> first | exact hxo.h | exact hxo.s | exact hxo.n | exact hxo.g_ | exact hxo.p | exact hxo.q | exact m1 | (unfold inC; dsimp only; omega) | (intro _; dsimp only; omega) | exact fun _ => hxo.p (by assumption) | exact fun hh => Bool.noConfusion hh)
theorem aWH (h : eT w c g) (ok : bU c g) (hc : ∀ b, c.on b → b < w.heap.size) (sep : ∀ b, c.on b → ¬ s.on b) (st : StAt w s ts xs) (hs : StOk g ts xs) (hT : 0 ≤ e.Tenant ∧ e.Tenant < g.ts.length) (hC : -1 ≤ e.Cell ∧ e.Cell < g.cs.length)  : Spec PP vT [.agg (List.toArray c.cells), .agg (List.toArray s.cells), .agg (List.toArray e.cells)] w (fun b => s.on b) (ResS g s) := by
  refine aJL c s e _ w ?_
  unfold vC
  have htl := hs.tl
  have hxl := hs.xl
  have A : AP (fun b => s.on b) w w c g s ts xs := ⟨Now.refl, h, st, fun b hb => st.lt hb, sep⟩
  intro b0 hb0 b1 hb1 b2 hb2 b3 hb3
  repeat' first
    | refine A.reb (by intro b hb; simp [blk] at hb; omega) hc (fun w' A => ?_)
    | unfold qC
    | unfold pK
    | unfold jI
    | unfold pJ
    | unfold qN
    | unfold gK
    | unfold qO
    | unfold qF
    | unfold fZ
    | exact ⟨A.T.t, _, _, rfl, fun h => absurd h (by decide)⟩
    | exact ⟨A.T.t, _, _, rfl, fun h => absurd h (by assumption)⟩
    | with_reducible refine ifT ?_
    | with_reducible refine ifF ?_
    | (with_reducible refine ifbd (fun h => ?_) (fun h => ?_))
    | (with_reducible refine ifbnd (fun h => ?_) (fun h => ?_))
    | (with_reducible refine ifbn (fun h => ?_) (fun h => ?_))
    | (refine ifb (fun h => ?_) (fun h => ?_))
    | (refine A.call (by intro b hb; simp [blk] at hb; omega) hc (fun wa A => bV _ wa) ?_; rintro wa v w' A ⟨st, rfl⟩; refine ⟨st, _, rfl, ?_⟩)
    | (refine A.call (by intro b hb; simp [blk] at hb; omega) hc (fun wa A => bL A.cf ok _ _) ?_; rintro wa v w' A ⟨z, rfl⟩; refine ⟨z, rfl, ?_⟩)
    | (refine A.call (by intro b hb; simp [blk] at hb; omega) hc (fun wa A => bP A.cf ok _ _) ?_; rintro wa v w' A ⟨z, rfl⟩; refine ⟨z, rfl, ?_⟩)
    | (refine A.call (by intro b hb; simp [blk] at hb; omega) hc (fun wa A => bC A.cf ok _ _) ?_; rintro wa v w' A ⟨z, rfl⟩; refine ⟨z, rfl, ?_⟩)
    | (refine A.call (by intro b hb; simp [blk] at hb; omega) hc (fun wa A => bE _ _ wa) ?_; rintro wa v w' A ⟨z, rfl⟩; refine ⟨z, rfl, ?_⟩)
    | (refine A.call (by intro b hb; simp [blk] at hb; omega) hc (fun wa A => bT _ _ wa) ?_; rintro wa v w' A ⟨z, rfl⟩; refine ⟨z, rfl, ?_⟩)
    | (refine A.call (by intro b hb; simp [blk] at hb; omega) hc (fun wa A => bX A.cf ok (A.st.t.rd kI) (by simp only [List.length_set]; exact hs.tl)) ?_; rintro wa v w' A ⟨st, er, rfl, her⟩; refine ⟨st, er, rfl, ?_⟩)
    | (refine A.tn (by omega) (by omega) (fun q x hq hx => ?_); have hxo := hs.tr x (List.mem_of_getElem? hx))
    | (refine A.ce (hxo.q (by assumption)) (by have := hxo.h.2; omega) (fun q2 x2 hq2 hx2 => ?_); have hxo2 := hs.xr x2 (List.mem_of_getElem? hx2))
    | (refine A.ce (by omega) (by omega) (fun q2 x2 hq2 hx2 => ?_); have hxo2 := hs.xr x2 (List.mem_of_getElem? hx2))
    | refine ⟨_, A.rdT hq hx rfl, A.niT hq (by intro b hb; simp [blk] at hb; omega), ?_⟩
    | refine ⟨_, A.rdT (o := 0) hq hx rfl, A.niT (o := 0) hq (by intro b hb; simp [blk] at hb; omega), ?_⟩
    | refine ⟨_, A.rdX hq2 hx2 rfl, A.niX hq2 (by intro b hb; simp [blk] at hb; omega), ?_⟩
    | refine ⟨_, A.rdX (o := 0) hq2 hx2 rfl, A.niX (o := 0) hq2 (by intro b hb; simp [blk] at hb; omega), ?_⟩
    | refine ⟨_, A.rdT2 hq hx rfl, A.niT2 hq (by intro b hb; simp [blk] at hb; omega), ?_⟩
    | refine A.t0 (fun _ h => h) hq (by intro b hb; simp [blk] at hb; omega) hx (fun w' A hx => ?_)
    | refine A.t1 (fun _ h => h) hq (by intro b hb; simp [blk] at hb; omega) hx (fun w' A hx => ?_)
    | refine A.t2 (fun _ h => h) hq (by intro b hb; simp [blk] at hb; omega) hx (fun w' A hx => ?_)
    | refine A.t3 (fun _ h => h) hq (by intro b hb; simp [blk] at hb; omega) hx (fun w' A hx => ?_)
    | refine A.t4 (fun _ h => h) hq (by intro b hb; simp [blk] at hb; omega) hx (fun w' A hx => ?_)
    | refine A.t5 (fun _ h => h) hq (by intro b hb; simp [blk] at hb; omega) hx (fun w' A hx => ?_)
    | refine A.t6 (fun _ h => h) hq (by intro b hb; simp [blk] at hb; omega) hx (fun w' A hx => ?_)
    | refine A.t7 (fun _ h => h) hq (by intro b hb; simp [blk] at hb; omega) hx (fun w' A hx => ?_)
    | refine A.x0 (fun _ h => h) hq2 (by intro b hb; simp [blk] at hb; omega) hx2 (fun w' A hx2 => ?_)
    | refine A.x1 (fun _ h => h) hq2 (by intro b hb; simp [blk] at hb; omega) hx2 (fun w' A hx2 => ?_)
    | refine A.x2 (fun _ h => h) hq2 (by intro b hb; simp [blk] at hb; omega) hx2 (fun w' A hx2 => ?_)
    | refine A.x3 (fun _ h => h) hq2 (by intro b hb; simp [blk] at hb; omega) hx2 (fun w' A hx2 => ?_)
  all_goals first
    | exact wP A her hs
    | (refine wP A her ?_; (try simp only [List.set_set]); refine hs.setT ?_; refine ⟨?_, ?_, ?_, ?_, ?_, ?_⟩ <;> first | exact hxo.h | exact hxo.s | exact hxo.n | exact hxo.g_ | exact hxo.p | exact hxo.q | exact m1 | (unfold inC; dsimp only; omega) | (intro _; dsimp only; omega) | exact fun _ => hxo.p (by assumption) | exact fun hh => Bool.noConfusion hh)
    | exact fin0 A rfl rfl hs
    | (refine fin0 A rfl rfl ?_; (try simp only [List.set_set]); refine hs.setT ?_; refine ⟨?_, ?_, ?_, ?_, ?_, ?_⟩ <;> first | exact hxo.h | exact hxo.s | exact hxo.n | exact hxo.g_ | exact hxo.p | exact hxo.q | exact m1 | (unfold inC; dsimp only; omega) | (intro _; dsimp only; omega) | exact fun _ => hxo.p (by assumption) | exact fun hh => Bool.noConfusion hh)
theorem aWM (h : eT w c g) (ok : bU c g) (hc : ∀ b, c.on b → b < w.heap.size) (sep : ∀ b, c.on b → ¬ s.on b) (st : StAt w s ts xs) (hs : StOk g ts xs) (hT : 0 ≤ e.Tenant ∧ e.Tenant < g.ts.length) (hC : 0 ≤ e.Cell ∧ e.Cell < g.cs.length)  : Spec PP uG [.agg (List.toArray c.cells), .agg (List.toArray s.cells), .agg (List.toArray e.cells)] w (fun b => s.on b) (ResS g s) := by
  refine aI5 c s e _ w ?_
  unfold vV
  have htl := hs.tl
  have hxl := hs.xl
  have A : AP (fun b => s.on b) w w c g s ts xs := ⟨Now.refl, h, st, fun b hb => st.lt hb, sep⟩
  intro b0 hb0 b1 hb1 b2 hb2 b3 hb3
  repeat' first
    | refine A.reb (by intro b hb; simp [blk] at hb; omega) hc (fun w' A => ?_)
    | unfold pX
    | unfold p8
    | unfold pW
    | unfold fM
    | unfold gF
    | unfold p9
    | unfold pF
    | unfold fQ
    | exact ⟨A.T.t, _, _, rfl, fun h => absurd h (by decide)⟩
    | exact ⟨A.T.t, _, _, rfl, fun h => absurd h (by assumption)⟩
    | with_reducible refine ifT ?_
    | with_reducible refine ifF ?_
    | (with_reducible refine ifbd (fun h => ?_) (fun h => ?_))
    | (with_reducible refine ifbnd (fun h => ?_) (fun h => ?_))
    | (with_reducible refine ifbn (fun h => ?_) (fun h => ?_))
    | (refine ifb (fun h => ?_) (fun h => ?_))
    | (refine A.call (by intro b hb; simp [blk] at hb; omega) hc (fun wa A => bV _ wa) ?_; rintro wa v w' A ⟨st, rfl⟩; refine ⟨st, _, rfl, ?_⟩)
    | (refine A.call (by intro b hb; simp [blk] at hb; omega) hc (fun wa A => bL A.cf ok _ _) ?_; rintro wa v w' A ⟨z, rfl⟩; refine ⟨z, rfl, ?_⟩)
    | (refine A.call (by intro b hb; simp [blk] at hb; omega) hc (fun wa A => bP A.cf ok _ _) ?_; rintro wa v w' A ⟨z, rfl⟩; refine ⟨z, rfl, ?_⟩)
    | (refine A.call (by intro b hb; simp [blk] at hb; omega) hc (fun wa A => bC A.cf ok _ _) ?_; rintro wa v w' A ⟨z, rfl⟩; refine ⟨z, rfl, ?_⟩)
    | (refine A.call (by intro b hb; simp [blk] at hb; omega) hc (fun wa A => bE _ _ wa) ?_; rintro wa v w' A ⟨z, rfl⟩; refine ⟨z, rfl, ?_⟩)
    | (refine A.call (by intro b hb; simp [blk] at hb; omega) hc (fun wa A => bT _ _ wa) ?_; rintro wa v w' A ⟨z, rfl⟩; refine ⟨z, rfl, ?_⟩)
    | (refine A.call (by intro b hb; simp [blk] at hb; omega) hc (fun wa A => bX A.cf ok (A.st.t.rd kI) (by simp only [List.length_set]; exact hs.tl)) ?_; rintro wa v w' A ⟨st, er, rfl, her⟩; refine ⟨st, er, rfl, ?_⟩)
    | (refine A.tn (by omega) (by omega) (fun q x hq hx => ?_); have hxo := hs.tr x (List.mem_of_getElem? hx))
    | (refine A.ce (hxo.q (by assumption)) (by have := hxo.h.2; omega) (fun q2 x2 hq2 hx2 => ?_); have hxo2 := hs.xr x2 (List.mem_of_getElem? hx2))
    | (refine A.ce (by omega) (by omega) (fun q2 x2 hq2 hx2 => ?_); have hxo2 := hs.xr x2 (List.mem_of_getElem? hx2))
    | refine ⟨_, A.rdT hq hx rfl, A.niT hq (by intro b hb; simp [blk] at hb; omega), ?_⟩
    | refine ⟨_, A.rdT (o := 0) hq hx rfl, A.niT (o := 0) hq (by intro b hb; simp [blk] at hb; omega), ?_⟩
    | refine ⟨_, A.rdX hq2 hx2 rfl, A.niX hq2 (by intro b hb; simp [blk] at hb; omega), ?_⟩
    | refine ⟨_, A.rdX (o := 0) hq2 hx2 rfl, A.niX (o := 0) hq2 (by intro b hb; simp [blk] at hb; omega), ?_⟩
    | refine ⟨_, A.rdT2 hq hx rfl, A.niT2 hq (by intro b hb; simp [blk] at hb; omega), ?_⟩
    | refine A.t0 (fun _ h => h) hq (by intro b hb; simp [blk] at hb; omega) hx (fun w' A hx => ?_)
    | refine A.t1 (fun _ h => h) hq (by intro b hb; simp [blk] at hb; omega) hx (fun w' A hx => ?_)
    | refine A.t2 (fun _ h => h) hq (by intro b hb; simp [blk] at hb; omega) hx (fun w' A hx => ?_)
    | refine A.t3 (fun _ h => h) hq (by intro b hb; simp [blk] at hb; omega) hx (fun w' A hx => ?_)
    | refine A.t4 (fun _ h => h) hq (by intro b hb; simp [blk] at hb; omega) hx (fun w' A hx => ?_)
    | refine A.t5 (fun _ h => h) hq (by intro b hb; simp [blk] at hb; omega) hx (fun w' A hx => ?_)
    | refine A.t6 (fun _ h => h) hq (by intro b hb; simp [blk] at hb; omega) hx (fun w' A hx => ?_)
    | refine A.t7 (fun _ h => h) hq (by intro b hb; simp [blk] at hb; omega) hx (fun w' A hx => ?_)
    | refine A.x0 (fun _ h => h) hq2 (by intro b hb; simp [blk] at hb; omega) hx2 (fun w' A hx2 => ?_)
    | refine A.x1 (fun _ h => h) hq2 (by intro b hb; simp [blk] at hb; omega) hx2 (fun w' A hx2 => ?_)
    | refine A.x2 (fun _ h => h) hq2 (by intro b hb; simp [blk] at hb; omega) hx2 (fun w' A hx2 => ?_)
    | refine A.x3 (fun _ h => h) hq2 (by intro b hb; simp [blk] at hb; omega) hx2 (fun w' A hx2 => ?_)
  all_goals first
    | exact wP A her hs
    | (refine wP A her ?_; (try simp only [List.set_set]); refine hs.setT ?_; refine ⟨?_, ?_, ?_, ?_, ?_, ?_⟩ <;> first | exact hxo.h | exact hxo.s | exact hxo.n | exact hxo.g_ | exact hxo.p | exact hxo.q | exact m1 | (unfold inC; dsimp only; omega) | (intro _; dsimp only; omega) | exact fun _ => hxo.p (by assumption) | exact fun hh => Bool.noConfusion hh)
    | exact fin0 A rfl rfl hs
    | (refine fin0 A rfl rfl ?_; (try simp only [List.set_set]); refine hs.setT ?_; refine ⟨?_, ?_, ?_, ?_, ?_, ?_⟩ <;> first | exact hxo.h | exact hxo.s | exact hxo.n | exact hxo.g_ | exact hxo.p | exact hxo.q | exact m1 | (unfold inC; dsimp only; omega) | (intro _; dsimp only; omega) | exact fun _ => hxo.p (by assumption) | exact fun hh => Bool.noConfusion hh)
theorem aWR (h : eT w c g) (ok : bU c g) (hc : ∀ b, c.on b → b < w.heap.size) (sep : ∀ b, c.on b → ¬ s.on b) (st : StAt w s ts xs) (hs : StOk g ts xs) (hT : 0 ≤ e.Tenant ∧ e.Tenant < g.ts.length)  : Spec PP uO [.agg (List.toArray s.cells), .agg (List.toArray e.cells)] w (fun b => s.on b) (ResS g s) := by
  refine aJI s e _ w ?_
  unfold wN
  have htl := hs.tl
  have hxl := hs.xl
  have A : AP (fun b => s.on b) w w c g s ts xs := ⟨Now.refl, h, st, fun b hb => st.lt hb, sep⟩
  intro b0 hb0 b1 hb1 b2 hb2
  repeat' first
    | refine A.reb (by intro b hb; simp [blk] at hb; omega) hc (fun w' A => ?_)
    | unfold qD
    | unfold qK
    | unfold pY
    | unfold jU
    | exact ⟨A.T.t, _, _, rfl, fun h => absurd h (by decide)⟩
    | exact ⟨A.T.t, _, _, rfl, fun h => absurd h (by assumption)⟩
    | with_reducible refine ifT ?_
    | with_reducible refine ifF ?_
    | (with_reducible refine ifbd (fun h => ?_) (fun h => ?_))
    | (with_reducible refine ifbnd (fun h => ?_) (fun h => ?_))
    | (with_reducible refine ifbn (fun h => ?_) (fun h => ?_))
    | (refine ifb (fun h => ?_) (fun h => ?_))
    | (refine A.call (by intro b hb; simp [blk] at hb; omega) hc (fun wa A => bV _ wa) ?_; rintro wa v w' A ⟨st, rfl⟩; refine ⟨st, _, rfl, ?_⟩)
    | (refine A.call (by intro b hb; simp [blk] at hb; omega) hc (fun wa A => bL A.cf ok _ _) ?_; rintro wa v w' A ⟨z, rfl⟩; refine ⟨z, rfl, ?_⟩)
    | (refine A.call (by intro b hb; simp [blk] at hb; omega) hc (fun wa A => bP A.cf ok _ _) ?_; rintro wa v w' A ⟨z, rfl⟩; refine ⟨z, rfl, ?_⟩)
    | (refine A.call (by intro b hb; simp [blk] at hb; omega) hc (fun wa A => bC A.cf ok _ _) ?_; rintro wa v w' A ⟨z, rfl⟩; refine ⟨z, rfl, ?_⟩)
    | (refine A.call (by intro b hb; simp [blk] at hb; omega) hc (fun wa A => bE _ _ wa) ?_; rintro wa v w' A ⟨z, rfl⟩; refine ⟨z, rfl, ?_⟩)
    | (refine A.call (by intro b hb; simp [blk] at hb; omega) hc (fun wa A => bT _ _ wa) ?_; rintro wa v w' A ⟨z, rfl⟩; refine ⟨z, rfl, ?_⟩)
    | (refine A.call (by intro b hb; simp [blk] at hb; omega) hc (fun wa A => bX A.cf ok (A.st.t.rd kI) (by simp only [List.length_set]; exact hs.tl)) ?_; rintro wa v w' A ⟨st, er, rfl, her⟩; refine ⟨st, er, rfl, ?_⟩)
    | (refine A.tn (by omega) (by omega) (fun q x hq hx => ?_); have hxo := hs.tr x (List.mem_of_getElem? hx))
    | (refine A.ce (hxo.q (by assumption)) (by have := hxo.h.2; omega) (fun q2 x2 hq2 hx2 => ?_); have hxo2 := hs.xr x2 (List.mem_of_getElem? hx2))
    | (refine A.ce (by omega) (by omega) (fun q2 x2 hq2 hx2 => ?_); have hxo2 := hs.xr x2 (List.mem_of_getElem? hx2))
    | refine ⟨_, A.rdT hq hx rfl, A.niT hq (by intro b hb; simp [blk] at hb; omega), ?_⟩
    | refine ⟨_, A.rdT (o := 0) hq hx rfl, A.niT (o := 0) hq (by intro b hb; simp [blk] at hb; omega), ?_⟩
    | refine ⟨_, A.rdX hq2 hx2 rfl, A.niX hq2 (by intro b hb; simp [blk] at hb; omega), ?_⟩
    | refine ⟨_, A.rdX (o := 0) hq2 hx2 rfl, A.niX (o := 0) hq2 (by intro b hb; simp [blk] at hb; omega), ?_⟩
    | refine ⟨_, A.rdT2 hq hx rfl, A.niT2 hq (by intro b hb; simp [blk] at hb; omega), ?_⟩
    | refine A.t0 (fun _ h => h) hq (by intro b hb; simp [blk] at hb; omega) hx (fun w' A hx => ?_)
    | refine A.t1 (fun _ h => h) hq (by intro b hb; simp [blk] at hb; omega) hx (fun w' A hx => ?_)
    | refine A.t2 (fun _ h => h) hq (by intro b hb; simp [blk] at hb; omega) hx (fun w' A hx => ?_)
    | refine A.t3 (fun _ h => h) hq (by intro b hb; simp [blk] at hb; omega) hx (fun w' A hx => ?_)
    | refine A.t4 (fun _ h => h) hq (by intro b hb; simp [blk] at hb; omega) hx (fun w' A hx => ?_)
    | refine A.t5 (fun _ h => h) hq (by intro b hb; simp [blk] at hb; omega) hx (fun w' A hx => ?_)
    | refine A.t6 (fun _ h => h) hq (by intro b hb; simp [blk] at hb; omega) hx (fun w' A hx => ?_)
    | refine A.t7 (fun _ h => h) hq (by intro b hb; simp [blk] at hb; omega) hx (fun w' A hx => ?_)
    | refine A.x0 (fun _ h => h) hq2 (by intro b hb; simp [blk] at hb; omega) hx2 (fun w' A hx2 => ?_)
    | refine A.x1 (fun _ h => h) hq2 (by intro b hb; simp [blk] at hb; omega) hx2 (fun w' A hx2 => ?_)
    | refine A.x2 (fun _ h => h) hq2 (by intro b hb; simp [blk] at hb; omega) hx2 (fun w' A hx2 => ?_)
    | refine A.x3 (fun _ h => h) hq2 (by intro b hb; simp [blk] at hb; omega) hx2 (fun w' A hx2 => ?_)
  all_goals first
    | exact wP A her hs
    | (refine wP A her ?_; (try simp only [List.set_set]); refine hs.setT ?_; refine ⟨?_, ?_, ?_, ?_, ?_, ?_⟩ <;> first | exact hxo.h | exact hxo.s | exact hxo.n | exact hxo.g_ | exact hxo.p | exact hxo.q | exact m1 | (unfold inC; dsimp only; omega) | (intro _; dsimp only; omega) | exact fun _ => hxo.p (by assumption) | exact fun hh => Bool.noConfusion hh)
    | exact fin0 A rfl rfl hs
    | (refine fin0 A rfl rfl ?_; (try simp only [List.set_set]); refine hs.setT ?_; refine ⟨?_, ?_, ?_, ?_, ?_, ?_⟩ <;> first | exact hxo.h | exact hxo.s | exact hxo.n | exact hxo.g_ | exact hxo.p | exact hxo.q | exact m1 | (unfold inC; dsimp only; omega) | (intro _; dsimp only; omega) | exact fun _ => hxo.p (by assumption) | exact fun hh => Bool.noConfusion hh)
theorem aZV (h : eT w c g) (ok : bU c g) (hc : ∀ b, c.on b → b < w.heap.size) (sep : ∀ b, c.on b → ¬ s.on b) (st : StAt w s ts xs) (hs : StOk g ts xs) (hT : 0 ≤ e.Tenant ∧ e.Tenant < g.ts.length)  : Spec PP aDF [.agg (List.toArray s.cells), .agg (List.toArray e.cells)] w (fun b => s.on b) (ResS g s) := by
  refine aPS s e _ w ?_
  unfold aCI
  have htl := hs.tl
  have hxl := hs.xl
  have A : AP (fun b => s.on b) w w c g s ts xs := ⟨Now.refl, h, st, fun b hb => st.lt hb, sep⟩
  intro b0 hb0 b1 hb1 b2 hb2
  repeat' first
    | refine A.reb (by intro b hb; simp [blk] at hb; omega) hc (fun w' A => ?_)
    | exact ⟨A.T.t, _, _, rfl, fun h => absurd h (by decide)⟩
    | exact ⟨A.T.t, _, _, rfl, fun h => absurd h (by assumption)⟩
    | with_reducible refine ifT ?_
    | with_reducible refine ifF ?_
    | (with_reducible refine ifbd (fun h => ?_) (fun h => ?_))
    | (with_reducible refine ifbnd (fun h => ?_) (fun h => ?_))
    | (with_reducible refine ifbn (fun h => ?_) (fun h => ?_))
    | (refine ifb (fun h => ?_) (fun h => ?_))
    | (refine A.call (by intro b hb; simp [blk] at hb; omega) hc (fun wa A => bV _ wa) ?_; rintro wa v w' A ⟨st, rfl⟩; refine ⟨st, _, rfl, ?_⟩)
    | (refine A.call (by intro b hb; simp [blk] at hb; omega) hc (fun wa A => bL A.cf ok _ _) ?_; rintro wa v w' A ⟨z, rfl⟩; refine ⟨z, rfl, ?_⟩)
    | (refine A.call (by intro b hb; simp [blk] at hb; omega) hc (fun wa A => bP A.cf ok _ _) ?_; rintro wa v w' A ⟨z, rfl⟩; refine ⟨z, rfl, ?_⟩)
    | (refine A.call (by intro b hb; simp [blk] at hb; omega) hc (fun wa A => bC A.cf ok _ _) ?_; rintro wa v w' A ⟨z, rfl⟩; refine ⟨z, rfl, ?_⟩)
    | (refine A.call (by intro b hb; simp [blk] at hb; omega) hc (fun wa A => bE _ _ wa) ?_; rintro wa v w' A ⟨z, rfl⟩; refine ⟨z, rfl, ?_⟩)
    | (refine A.call (by intro b hb; simp [blk] at hb; omega) hc (fun wa A => bT _ _ wa) ?_; rintro wa v w' A ⟨z, rfl⟩; refine ⟨z, rfl, ?_⟩)
    | (refine A.call (by intro b hb; simp [blk] at hb; omega) hc (fun wa A => bX A.cf ok (A.st.t.rd kI) (by simp only [List.length_set]; exact hs.tl)) ?_; rintro wa v w' A ⟨st, er, rfl, her⟩; refine ⟨st, er, rfl, ?_⟩)
    | (refine A.tn (by omega) (by omega) (fun q x hq hx => ?_); have hxo := hs.tr x (List.mem_of_getElem? hx))
    | (refine A.ce (hxo.q (by assumption)) (by have := hxo.h.2; omega) (fun q2 x2 hq2 hx2 => ?_); have hxo2 := hs.xr x2 (List.mem_of_getElem? hx2))
    | (refine A.ce (by omega) (by omega) (fun q2 x2 hq2 hx2 => ?_); have hxo2 := hs.xr x2 (List.mem_of_getElem? hx2))
    | refine ⟨_, A.rdT hq hx rfl, A.niT hq (by intro b hb; simp [blk] at hb; omega), ?_⟩
    | refine ⟨_, A.rdT (o := 0) hq hx rfl, A.niT (o := 0) hq (by intro b hb; simp [blk] at hb; omega), ?_⟩
    | refine ⟨_, A.rdX hq2 hx2 rfl, A.niX hq2 (by intro b hb; simp [blk] at hb; omega), ?_⟩
    | refine ⟨_, A.rdX (o := 0) hq2 hx2 rfl, A.niX (o := 0) hq2 (by intro b hb; simp [blk] at hb; omega), ?_⟩
    | refine ⟨_, A.rdT2 hq hx rfl, A.niT2 hq (by intro b hb; simp [blk] at hb; omega), ?_⟩
    | refine A.t0 (fun _ h => h) hq (by intro b hb; simp [blk] at hb; omega) hx (fun w' A hx => ?_)
    | refine A.t1 (fun _ h => h) hq (by intro b hb; simp [blk] at hb; omega) hx (fun w' A hx => ?_)
    | refine A.t2 (fun _ h => h) hq (by intro b hb; simp [blk] at hb; omega) hx (fun w' A hx => ?_)
    | refine A.t3 (fun _ h => h) hq (by intro b hb; simp [blk] at hb; omega) hx (fun w' A hx => ?_)
    | refine A.t4 (fun _ h => h) hq (by intro b hb; simp [blk] at hb; omega) hx (fun w' A hx => ?_)
    | refine A.t5 (fun _ h => h) hq (by intro b hb; simp [blk] at hb; omega) hx (fun w' A hx => ?_)
    | refine A.t6 (fun _ h => h) hq (by intro b hb; simp [blk] at hb; omega) hx (fun w' A hx => ?_)
    | refine A.t7 (fun _ h => h) hq (by intro b hb; simp [blk] at hb; omega) hx (fun w' A hx => ?_)
    | refine A.x0 (fun _ h => h) hq2 (by intro b hb; simp [blk] at hb; omega) hx2 (fun w' A hx2 => ?_)
    | refine A.x1 (fun _ h => h) hq2 (by intro b hb; simp [blk] at hb; omega) hx2 (fun w' A hx2 => ?_)
    | refine A.x2 (fun _ h => h) hq2 (by intro b hb; simp [blk] at hb; omega) hx2 (fun w' A hx2 => ?_)
    | refine A.x3 (fun _ h => h) hq2 (by intro b hb; simp [blk] at hb; omega) hx2 (fun w' A hx2 => ?_)
  all_goals first
    | exact wP A her hs
    | (refine wP A her ?_; (try simp only [List.set_set]); refine hs.setT ?_; refine ⟨?_, ?_, ?_, ?_, ?_, ?_⟩ <;> first | exact hxo.h | exact hxo.s | exact hxo.n | exact hxo.g_ | exact hxo.p | exact hxo.q | exact m1 | (unfold inC; dsimp only; omega) | (intro _; dsimp only; omega) | exact fun _ => hxo.p (by assumption) | exact fun hh => Bool.noConfusion hh)
    | exact fin0 A rfl rfl hs
    | (refine fin0 A rfl rfl ?_; (try simp only [List.set_set]); refine hs.setT ?_; refine ⟨?_, ?_, ?_, ?_, ?_, ?_⟩ <;> first | exact hxo.h | exact hxo.s | exact hxo.n | exact hxo.g_ | exact hxo.p | exact hxo.q | exact m1 | (unfold inC; dsimp only; omega) | (intro _; dsimp only; omega) | exact fun _ => hxo.p (by assumption) | exact fun hh => Bool.noConfusion hh)
theorem aXQ (h : eT w c g) (ok : bU c g) (hc : ∀ b, c.on b → b < w.heap.size) (sep : ∀ b, c.on b → ¬ s.on b) (st : StAt w s ts xs) (hs : StOk g ts xs) (hT : 0 ≤ e.Tenant ∧ e.Tenant < g.ts.length) (hC : 0 ≤ e.Cell ∧ e.Cell < g.cs.length)  : Spec PP aAY [.agg (List.toArray s.cells), .agg (List.toArray e.cells)] w (fun b => s.on b) (ResS g s) := by
  refine aL4 s e _ w ?_
  unfold aAA
  have htl := hs.tl
  have hxl := hs.xl
  have A : AP (fun b => s.on b) w w c g s ts xs := ⟨Now.refl, h, st, fun b hb => st.lt hb, sep⟩
  intro b0 hb0 b1 hb1 b2 hb2
  repeat' first
    | refine A.reb (by intro b hb; simp [blk] at hb; omega) hc (fun w' A => ?_)
    | exact ⟨A.T.t, _, _, rfl, fun h => absurd h (by decide)⟩
    | exact ⟨A.T.t, _, _, rfl, fun h => absurd h (by assumption)⟩
    | with_reducible refine ifT ?_
    | with_reducible refine ifF ?_
    | (with_reducible refine ifbd (fun h => ?_) (fun h => ?_))
    | (with_reducible refine ifbnd (fun h => ?_) (fun h => ?_))
    | (with_reducible refine ifbn (fun h => ?_) (fun h => ?_))
    | (refine ifb (fun h => ?_) (fun h => ?_))
    | (refine A.call (by intro b hb; simp [blk] at hb; omega) hc (fun wa A => bV _ wa) ?_; rintro wa v w' A ⟨st, rfl⟩; refine ⟨st, _, rfl, ?_⟩)
    | (refine A.call (by intro b hb; simp [blk] at hb; omega) hc (fun wa A => bL A.cf ok _ _) ?_; rintro wa v w' A ⟨z, rfl⟩; refine ⟨z, rfl, ?_⟩)
    | (refine A.call (by intro b hb; simp [blk] at hb; omega) hc (fun wa A => bP A.cf ok _ _) ?_; rintro wa v w' A ⟨z, rfl⟩; refine ⟨z, rfl, ?_⟩)
    | (refine A.call (by intro b hb; simp [blk] at hb; omega) hc (fun wa A => bC A.cf ok _ _) ?_; rintro wa v w' A ⟨z, rfl⟩; refine ⟨z, rfl, ?_⟩)
    | (refine A.call (by intro b hb; simp [blk] at hb; omega) hc (fun wa A => bE _ _ wa) ?_; rintro wa v w' A ⟨z, rfl⟩; refine ⟨z, rfl, ?_⟩)
    | (refine A.call (by intro b hb; simp [blk] at hb; omega) hc (fun wa A => bT _ _ wa) ?_; rintro wa v w' A ⟨z, rfl⟩; refine ⟨z, rfl, ?_⟩)
    | (refine A.call (by intro b hb; simp [blk] at hb; omega) hc (fun wa A => bX A.cf ok (A.st.t.rd kI) (by simp only [List.length_set]; exact hs.tl)) ?_; rintro wa v w' A ⟨st, er, rfl, her⟩; refine ⟨st, er, rfl, ?_⟩)
    | (refine A.tn (by omega) (by omega) (fun q x hq hx => ?_); have hxo := hs.tr x (List.mem_of_getElem? hx))
    | (refine A.ce (hxo.q (by assumption)) (by have := hxo.h.2; omega) (fun q2 x2 hq2 hx2 => ?_); have hxo2 := hs.xr x2 (List.mem_of_getElem? hx2))
    | (refine A.ce (by omega) (by omega) (fun q2 x2 hq2 hx2 => ?_); have hxo2 := hs.xr x2 (List.mem_of_getElem? hx2))
    | refine ⟨_, A.rdT hq hx rfl, A.niT hq (by intro b hb; simp [blk] at hb; omega), ?_⟩
    | refine ⟨_, A.rdT (o := 0) hq hx rfl, A.niT (o := 0) hq (by intro b hb; simp [blk] at hb; omega), ?_⟩
    | refine ⟨_, A.rdX hq2 hx2 rfl, A.niX hq2 (by intro b hb; simp [blk] at hb; omega), ?_⟩
    | refine ⟨_, A.rdX (o := 0) hq2 hx2 rfl, A.niX (o := 0) hq2 (by intro b hb; simp [blk] at hb; omega), ?_⟩
    | refine ⟨_, A.rdT2 hq hx rfl, A.niT2 hq (by intro b hb; simp [blk] at hb; omega), ?_⟩
    | refine A.t0 (fun _ h => h) hq (by intro b hb; simp [blk] at hb; omega) hx (fun w' A hx => ?_)
    | refine A.t1 (fun _ h => h) hq (by intro b hb; simp [blk] at hb; omega) hx (fun w' A hx => ?_)
    | refine A.t2 (fun _ h => h) hq (by intro b hb; simp [blk] at hb; omega) hx (fun w' A hx => ?_)
    | refine A.t3 (fun _ h => h) hq (by intro b hb; simp [blk] at hb; omega) hx (fun w' A hx => ?_)
    | refine A.t4 (fun _ h => h) hq (by intro b hb; simp [blk] at hb; omega) hx (fun w' A hx => ?_)
    | refine A.t5 (fun _ h => h) hq (by intro b hb; simp [blk] at hb; omega) hx (fun w' A hx => ?_)
    | refine A.t6 (fun _ h => h) hq (by intro b hb; simp [blk] at hb; omega) hx (fun w' A hx => ?_)
    | refine A.t7 (fun _ h => h) hq (by intro b hb; simp [blk] at hb; omega) hx (fun w' A hx => ?_)
    | refine A.x0 (fun _ h => h) hq2 (by intro b hb; simp [blk] at hb; omega) hx2 (fun w' A hx2 => ?_)
    | refine A.x1 (fun _ h => h) hq2 (by intro b hb; simp [blk] at hb; omega) hx2 (fun w' A hx2 => ?_)
    | refine A.x2 (fun _ h => h) hq2 (by intro b hb; simp [blk] at hb; omega) hx2 (fun w' A hx2 => ?_)
    | refine A.x3 (fun _ h => h) hq2 (by intro b hb; simp [blk] at hb; omega) hx2 (fun w' A hx2 => ?_)
  all_goals first
    | exact wP A her hs
    | (refine wP A her ?_; (try simp only [List.set_set]); refine hs.setT ?_; refine ⟨?_, ?_, ?_, ?_, ?_, ?_⟩ <;> first | exact hxo.h | exact hxo.s | exact hxo.n | exact hxo.g_ | exact hxo.p | exact hxo.q | exact m1 | (unfold inC; dsimp only; omega) | (intro _; dsimp only; omega) | exact fun _ => hxo.p (by assumption) | exact fun hh => Bool.noConfusion hh)
    | exact fin0 A rfl rfl hs
    | (refine fin0 A rfl rfl ?_; (try simp only [List.set_set]); refine hs.setT ?_; refine ⟨?_, ?_, ?_, ?_, ?_, ?_⟩ <;> first | exact hxo.h | exact hxo.s | exact hxo.n | exact hxo.g_ | exact hxo.p | exact hxo.q | exact m1 | (unfold inC; dsimp only; omega) | (intro _; dsimp only; omega) | exact fun _ => hxo.p (by assumption) | exact fun hh => Bool.noConfusion hh)
theorem aY0 (h : eT w c g) (ok : bU c g) (hc : ∀ b, c.on b → b < w.heap.size) (sep : ∀ b, c.on b → ¬ s.on b) (st : StAt w s ts xs) (hs : StOk g ts xs) (hT : 0 ≤ e.Tenant ∧ e.Tenant < g.ts.length)  : Spec PP aBC [.agg (List.toArray c.cells), .agg (List.toArray s.cells), .agg (List.toArray e.cells)] w (fun b => s.on b) (ResS g s) := by
  refine aM4 c s e _ w ?_
  unfold aBP
  have htl := hs.tl
  have hxl := hs.xl
  have A : AP (fun b => s.on b) w w c g s ts xs := ⟨Now.refl, h, st, fun b hb => st.lt hb, sep⟩
  intro b0 hb0 b1 hb1 b2 hb2 b3 hb3
  repeat' first
    | refine A.reb (by intro b hb; simp [blk] at hb; omega) hc (fun w' A => ?_)
    | unfold wS
    | unfold yP
    | unfold xZ
    | unfold yI
    | unfold xE
    | unfold nH
    | exact ⟨A.T.t, _, _, rfl, fun h => absurd h (by decide)⟩
    | exact ⟨A.T.t, _, _, rfl, fun h => absurd h (by assumption)⟩
    | with_reducible refine ifT ?_
    | with_reducible refine ifF ?_
    | (with_reducible refine ifbd (fun h => ?_) (fun h => ?_))
    | (with_reducible refine ifbnd (fun h => ?_) (fun h => ?_))
    | (with_reducible refine ifbn (fun h => ?_) (fun h => ?_))
    | (refine ifb (fun h => ?_) (fun h => ?_))
    | (refine A.call (by intro b hb; simp [blk] at hb; omega) hc (fun wa A => bV _ wa) ?_; rintro wa v w' A ⟨st, rfl⟩; refine ⟨st, _, rfl, ?_⟩)
    | (refine A.call (by intro b hb; simp [blk] at hb; omega) hc (fun wa A => bL A.cf ok _ _) ?_; rintro wa v w' A ⟨z, rfl⟩; refine ⟨z, rfl, ?_⟩)
    | (refine A.call (by intro b hb; simp [blk] at hb; omega) hc (fun wa A => bP A.cf ok _ _) ?_; rintro wa v w' A ⟨z, rfl⟩; refine ⟨z, rfl, ?_⟩)
    | (refine A.call (by intro b hb; simp [blk] at hb; omega) hc (fun wa A => bC A.cf ok _ _) ?_; rintro wa v w' A ⟨z, rfl⟩; refine ⟨z, rfl, ?_⟩)
    | (refine A.call (by intro b hb; simp [blk] at hb; omega) hc (fun wa A => bE _ _ wa) ?_; rintro wa v w' A ⟨z, rfl⟩; refine ⟨z, rfl, ?_⟩)
    | (refine A.call (by intro b hb; simp [blk] at hb; omega) hc (fun wa A => bT _ _ wa) ?_; rintro wa v w' A ⟨z, rfl⟩; refine ⟨z, rfl, ?_⟩)
    | (refine A.call (by intro b hb; simp [blk] at hb; omega) hc (fun wa A => bX A.cf ok (A.st.t.rd kI) (by simp only [List.length_set]; exact hs.tl)) ?_; rintro wa v w' A ⟨st, er, rfl, her⟩; refine ⟨st, er, rfl, ?_⟩)
    | (refine A.tn (by omega) (by omega) (fun q x hq hx => ?_); have hxo := hs.tr x (List.mem_of_getElem? hx))
    | (refine A.ce (hxo.q (by assumption)) (by have := hxo.h.2; omega) (fun q2 x2 hq2 hx2 => ?_); have hxo2 := hs.xr x2 (List.mem_of_getElem? hx2))
    | (refine A.ce (by omega) (by omega) (fun q2 x2 hq2 hx2 => ?_); have hxo2 := hs.xr x2 (List.mem_of_getElem? hx2))
    | refine ⟨_, A.rdT hq hx rfl, A.niT hq (by intro b hb; simp [blk] at hb; omega), ?_⟩
    | refine ⟨_, A.rdT (o := 0) hq hx rfl, A.niT (o := 0) hq (by intro b hb; simp [blk] at hb; omega), ?_⟩
    | refine ⟨_, A.rdX hq2 hx2 rfl, A.niX hq2 (by intro b hb; simp [blk] at hb; omega), ?_⟩
    | refine ⟨_, A.rdX (o := 0) hq2 hx2 rfl, A.niX (o := 0) hq2 (by intro b hb; simp [blk] at hb; omega), ?_⟩
    | refine ⟨_, A.rdT2 hq hx rfl, A.niT2 hq (by intro b hb; simp [blk] at hb; omega), ?_⟩
    | refine A.t0 (fun _ h => h) hq (by intro b hb; simp [blk] at hb; omega) hx (fun w' A hx => ?_)
    | refine A.t1 (fun _ h => h) hq (by intro b hb; simp [blk] at hb; omega) hx (fun w' A hx => ?_)
    | refine A.t2 (fun _ h => h) hq (by intro b hb; simp [blk] at hb; omega) hx (fun w' A hx => ?_)
    | refine A.t3 (fun _ h => h) hq (by intro b hb; simp [blk] at hb; omega) hx (fun w' A hx => ?_)
    | refine A.t4 (fun _ h => h) hq (by intro b hb; simp [blk] at hb; omega) hx (fun w' A hx => ?_)
    | refine A.t5 (fun _ h => h) hq (by intro b hb; simp [blk] at hb; omega) hx (fun w' A hx => ?_)
    | refine A.t6 (fun _ h => h) hq (by intro b hb; simp [blk] at hb; omega) hx (fun w' A hx => ?_)
    | refine A.t7 (fun _ h => h) hq (by intro b hb; simp [blk] at hb; omega) hx (fun w' A hx => ?_)
    | refine A.x0 (fun _ h => h) hq2 (by intro b hb; simp [blk] at hb; omega) hx2 (fun w' A hx2 => ?_)
    | refine A.x1 (fun _ h => h) hq2 (by intro b hb; simp [blk] at hb; omega) hx2 (fun w' A hx2 => ?_)
    | refine A.x2 (fun _ h => h) hq2 (by intro b hb; simp [blk] at hb; omega) hx2 (fun w' A hx2 => ?_)
    | refine A.x3 (fun _ h => h) hq2 (by intro b hb; simp [blk] at hb; omega) hx2 (fun w' A hx2 => ?_)
  all_goals first
    | exact wP A her hs
    | (refine wP A her ?_; (try simp only [List.set_set]); refine hs.setT ?_; refine ⟨?_, ?_, ?_, ?_, ?_, ?_⟩ <;> first | exact hxo.h | exact hxo.s | exact hxo.n | exact hxo.g_ | exact hxo.p | exact hxo.q | exact m1 | (unfold inC; dsimp only; omega) | (intro _; dsimp only; omega) | exact fun _ => hxo.p (by assumption) | exact fun hh => Bool.noConfusion hh)
    | exact fin0 A rfl rfl hs
    | (refine fin0 A rfl rfl ?_; (try simp only [List.set_set]); refine hs.setT ?_; refine ⟨?_, ?_, ?_, ?_, ?_, ?_⟩ <;> first | exact hxo.h | exact hxo.s | exact hxo.n | exact hxo.g_ | exact hxo.p | exact hxo.q | exact m1 | (unfold inC; dsimp only; omega) | (intro _; dsimp only; omega) | exact fun _ => hxo.p (by assumption) | exact fun hh => Bool.noConfusion hh)
end
end Go.Sh
