/- A part of the proof (printed smaller by a program of ours). Conditions: none. -/
import Derived.Test.YtoenaheehpjmiaaDoorKBase
namespace Go.Sh
open Go Go.Proofs
set_option linter.unusedVariables false
set_option maxRecDepth 100000
def aA0 (N : Nat)  (Q : VP) (w : World) : Prop :=
  CallL PP N w [] dH [(.agg (List.toArray (⟨14, 0, (-1), (-1), (-1), 0, 0, 0, 0⟩ : aC).cells))] fun r2 w3 => ∃ b1 : Bool, r2 = (.bool b1) ∧ IfB b1 (CallL PP N w3 [] dH [(.agg (List.toArray (⟨0, 0, 0, 0, 0, 0, 0, 0, 0⟩ : aC).cells))] fun r5 w6 => ∃ b4 : Bool, r5 = (.bool b4) ∧ IfB (!b4) (CallL PP N w6 [] aJ5 [(.int .i64 3)] fun r8 w9 => ∃ s7 : ByteArray, r8 = (.string s7) ∧ IfB (strEq s7 { data := #[99, 117, 116] }) (CallL PP N w9 [] aJ5 [(.int .i64 0)] fun r11 w12 => ∃ s10 : ByteArray, r11 = (.string s10) ∧ Reb N w12 [] (Q (.bool (strEq s10 { data := #[] })))) (Reb N w9 [] (Q (.bool false)))) (Reb N w6 [] (Q (.bool false)))) (Reb N w3 [] (Q (.bool false)))
theorem aP9 (N : Nat)  (Q : VP) (w : World) (h : aA0 N  Q w) : Snd (cy N []) (bodyOf Tryd.f12) (retD (cy N []) Tryd.f12 Q) (entry 16 []) w :=
  (dsm h)
theorem aK5  (Q : VP) (w : World) (h : aA0 w.heap.size  Q w) : Calls PP dL [].toArray w fun e w' => ∃ v, e = .returned v ∧ Q v w' :=
  calls_of (C := cy w.heap.size []) (fn := Tryd.f12) (c := (bodyOf Tryd.f12)) (by kernel_rfl) (by kernel_rfl) (Nat.le_refl _) (aP9 _  Q w h)
def aAK (N : Nat) (e0 : aC) (which1 : Int) (by2 : Int) (Q : VP) (w : World) : Prop :=
  ∀ b1 : Nat, w.heap.size ≤ b1 → ∀ b2 : Nat, w.heap.size ≤ b2 → CallL PP N w [⟨b1, e0.cells, aD⟩, ⟨b2, (⟨0, 0, 0, 0, 0, 0, 0, 0, 0⟩ : aC).cells, aD⟩] jY [(.int .i64 which1), (.int .i64 9)] fun r4 w5 => ∃ n3 : Int, r4 = (.int .i64 n3) ∧ IfB (decide ((n3 : Int) = 0)) (Reb N w5 [⟨b1, ({ e0 with Kind := by2 } : aC).cells, aD⟩, ⟨b2, ({ e0 with Kind := by2 } : aC).cells, aD⟩] (Q (.agg (List.toArray ({ e0 with Kind := by2 } : aC).cells)))) (IfB (decide ((n3 : Int) = 1)) (Reb N w5 [⟨b1, ({ e0 with Tick := by2 } : aC).cells, aD⟩, ⟨b2, ({ e0 with Tick := by2 } : aC).cells, aD⟩] (Q (.agg (List.toArray ({ e0 with Tick := by2 } : aC).cells)))) (IfB (decide ((n3 : Int) = 2)) (Reb N w5 [⟨b1, ({ e0 with Tenant := by2 } : aC).cells, aD⟩, ⟨b2, ({ e0 with Tenant := by2 } : aC).cells, aD⟩] (Q (.agg (List.toArray ({ e0 with Tenant := by2 } : aC).cells)))) (IfB (decide ((n3 : Int) = 3)) (Reb N w5 [⟨b1, ({ e0 with Cell := by2 } : aC).cells, aD⟩, ⟨b2, ({ e0 with Cell := by2 } : aC).cells, aD⟩] (Q (.agg (List.toArray ({ e0 with Cell := by2 } : aC).cells)))) (IfB (decide ((n3 : Int) = 4)) (Reb N w5 [⟨b1, ({ e0 with Other := by2 } : aC).cells, aD⟩, ⟨b2, ({ e0 with Other := by2 } : aC).cells, aD⟩] (Q (.agg (List.toArray ({ e0 with Other := by2 } : aC).cells)))) (IfB (decide ((n3 : Int) = 5)) (Reb N w5 [⟨b1, ({ e0 with Epoch := by2 } : aC).cells, aD⟩, ⟨b2, ({ e0 with Epoch := by2 } : aC).cells, aD⟩] (Q (.agg (List.toArray ({ e0 with Epoch := by2 } : aC).cells)))) (IfB (decide ((n3 : Int) = 6)) (Reb N w5 [⟨b1, ({ e0 with From := by2 } : aC).cells, aD⟩, ⟨b2, ({ e0 with From := by2 } : aC).cells, aD⟩] (Q (.agg (List.toArray ({ e0 with From := by2 } : aC).cells)))) (IfB (decide ((n3 : Int) = 7)) (Reb N w5 [⟨b1, ({ e0 with Until := by2 } : aC).cells, aD⟩, ⟨b2, ({ e0 with Until := by2 } : aC).cells, aD⟩] (Q (.agg (List.toArray ({ e0 with Until := by2 } : aC).cells)))) (Reb N w5 [⟨b1, ({ e0 with N := by2 } : aC).cells, aD⟩, ⟨b2, ({ e0 with N := by2 } : aC).cells, aD⟩] (Q (.agg (List.toArray ({ e0 with N := by2 } : aC).cells)))))))))))
theorem aPE (N : Nat) (e0 : aC) (which1 : Int) (by2 : Int) (Q : VP) (w : World) (h : aAK N e0 which1 by2 Q w) : Snd (cy N [3, 6]) (bodyOf Tryd.f14) (retD (cy N [3, 6]) Tryd.f14 Q) (entry 44 [(.agg (List.toArray e0.cells)), (.int .i64 which1), (.int .i64 by2)]) w :=
  (dsm h)
theorem aLO (e0 : aC) (which1 : Int) (by2 : Int) (Q : VP) (w : World) (h : aAK w.heap.size e0 which1 by2 Q w) : Calls PP bQ [(.agg (List.toArray e0.cells)), (.int .i64 which1), (.int .i64 by2)].toArray w fun e w' => ∃ v, e = .returned v ∧ Q v w' :=
  calls_of (C := cy w.heap.size [3, 6]) (fn := Tryd.f14) (c := (bodyOf Tryd.f14)) (by kernel_rfl) (by kernel_rfl) (Nat.le_refl _) (aPE _ e0 which1 by2 Q w h)
def yE (N : Nat) (v0 : Int) (low1 : Int) (high2 : Int) (Q : VP) (w : World) : Prop :=
  CallL PP N w [] jY [(.int .i64 v0), (.int .i64 (IntKind.i64.wrap ((IntKind.i64.wrap (high2 - low1)) + 1)))] fun r2 w3 => ∃ n1 : Int, r2 = (.int .i64 n1) ∧ Reb N w3 [] (Q (.int .i64 (IntKind.i64.wrap (low1 + n1))))
theorem aO1 (N : Nat) (v0 : Int) (low1 : Int) (high2 : Int) (Q : VP) (w : World) (h : yE N v0 low1 high2 Q w) : Snd (cy N []) (bodyOf Tryd.f15) (retD (cy N []) Tryd.f15 Q) (entry 15 [(.int .i64 v0), (.int .i64 low1), (.int .i64 high2)]) w :=
  (dsm h)
theorem aJN (v0 : Int) (low1 : Int) (high2 : Int) (Q : VP) (w : World) (h : yE w.heap.size v0 low1 high2 Q w) : Calls PP dZ [(.int .i64 v0), (.int .i64 low1), (.int .i64 high2)].toArray w fun e w' => ∃ v, e = .returned v ∧ Q v w' :=
  calls_of (C := cy w.heap.size []) (fn := Tryd.f15) (c := (bodyOf Tryd.f15)) (by kernel_rfl) (by kernel_rfl) (Nat.le_refl _) (aO1 _ v0 low1 high2 Q w h)
def aE2 (N : Nat) (v0 : Int) (n1 : Int) (Q : VP) (w : World) : Prop :=
  (n1 : Int) ≠ 0 ∧ (n1 : Int) ≠ 0 ∧ Reb N w [] (Q (.int .i64 (Int.tmod (IntKind.i64.wrap ((Int.tmod v0 n1) + n1)) n1)))
theorem aVT (N : Nat) (v0 : Int) (n1 : Int) (Q : VP) (w : World) (h : aE2 N v0 n1 Q w) : Snd (cy N []) (bodyOf Tryd.f31) (retD (cy N []) Tryd.f31 Q) (entry 12 [(.int .i64 v0), (.int .i64 n1)]) w :=
  (dsm h)
theorem aRX (v0 : Int) (n1 : Int) (Q : VP) (w : World) (h : aE2 w.heap.size v0 n1 Q w) : Calls PP jY [(.int .i64 v0), (.int .i64 n1)].toArray w fun e w' => ∃ v, e = .returned v ∧ Q v w' :=
  calls_of (C := cy w.heap.size []) (fn := Tryd.f31) (c := (bodyOf Tryd.f31)) (by kernel_rfl) (by kernel_rfl) (Nat.le_refl _) (aVT _ v0 n1 Q w h)
def aO9 (N : Nat) (e0 : aC) (Q : VP) (w : World) : Prop :=
  ∀ b1 : Nat, w.heap.size ≤ b1 → CallL PP N w [⟨b1, e0.cells, aD⟩] aJU [(.agg (List.toArray e0.cells)), (.agg (List.toArray (⟨32, 16, 4, 30⟩ : aW).cells))] fun r3 w4 => ∃ b2 : Bool, r3 = (.bool b2) ∧ Reb N w4 [⟨b1, e0.cells, aD⟩] (Q (.bool b2))
theorem aYG (N : Nat) (e0 : aC) (Q : VP) (w : World) (h : aO9 N e0 Q w) : Snd (cy N [1]) (bodyOf Tryd.f16) (retD (cy N [1]) Tryd.f16 Q) (entry 6 [(.agg (List.toArray e0.cells))]) w :=
  (dsm h)
theorem aWZ (e0 : aC) (Q : VP) (w : World) (h : aO9 w.heap.size e0 Q w) : Calls PP dH [(.agg (List.toArray e0.cells))].toArray w fun e w' => ∃ v, e = .returned v ∧ Q v w' :=
  calls_of (C := cy w.heap.size [1]) (fn := Tryd.f16) (c := (bodyOf Tryd.f16)) (by kernel_rfl) (by kernel_rfl) (Nat.le_refl _) (aYG _ e0 Q w h)
def zW (N : Nat) (e0 : aC) (Q : VP) (w : World) : Prop :=
  ∀ b1 : Nat, w.heap.size ≤ b1 → CallL PP N w [⟨b1, e0.cells, aD⟩] oI [(.agg (List.toArray e0.cells)), (.int .i64 32), (.int .i64 16), (.int .i64 4), (.int .i64 30)] fun r3 w4 => ∃ b2 : Bool, r3 = (.bool b2) ∧ Reb N w4 [⟨b1, e0.cells, aD⟩] (Q (.bool b2))
theorem aRC (N : Nat) (e0 : aC) (Q : VP) (w : World) (h : zW N e0 Q w) : Snd (cy N [1]) (bodyOf Tryd.f17) (retD (cy N [1]) Tryd.f17 Q) (entry 5 [(.agg (List.toArray e0.cells))]) w :=
  (dsm h)
theorem aLT (e0 : aC) (Q : VP) (w : World) (h : zW w.heap.size e0 Q w) : Calls PP gP [(.agg (List.toArray e0.cells))].toArray w fun e w' => ∃ v, e = .returned v ∧ Q v w' :=
  calls_of (C := cy w.heap.size [1]) (fn := Tryd.f17) (c := (bodyOf Tryd.f17)) (by kernel_rfl) (by kernel_rfl) (Nat.le_refl _) (aRC _ e0 Q w h)
def aUB (N : Nat) (kind0 : Int) (Q : VP) (w : World) : Prop :=
  CallL PP N w [] o9 [(.int .i64 (IntKind.i64.wrap (kind0 - 1))), (.int .i64 16)] fun r2 w3 => ∃ b1 : Bool, r2 = (.bool b1) ∧ IfB (!b1) (Reb N w3 [] (Q (.string { data := #[] }))) ((0 : Int) ≤ (IntKind.i64.wrap (kind0 - 1)) ∧ ((IntKind.i64.wrap (kind0 - 1)) : Int) < (16 : Nat) ∧ ∃ s4 : ByteArray, At w3 ((⟨0, 0, none⟩ : Addr).add (((IntKind.i64.wrap (kind0 - 1)) : Int).toNat * 1)) [(.string s4)] ∧ NotIn (((⟨0, 0, none⟩ : Addr).add (((IntKind.i64.wrap (kind0 - 1)) : Int).toNat * 1)) : Addr).block [] ∧ Reb N w3 [] (Q (.string s4)))
theorem aZU (N : Nat) (kind0 : Int) (Q : VP) (w : World) (h : aUB N kind0 Q w) : Snd (cy N []) (bodyOf Tryd.f18) (retD (cy N []) Tryd.f18 Q) (entry 11 [(.int .i64 kind0)]) w :=
  (dsm h)
theorem aXP (kind0 : Int) (Q : VP) (w : World) (h : aUB w.heap.size kind0 Q w) : Calls PP aJ5 [(.int .i64 kind0)].toArray w fun e w' => ∃ v, e = .returned v ∧ Q v w' :=
  calls_of (C := cy w.heap.size []) (fn := Tryd.f18) (c := (bodyOf Tryd.f18)) (by kernel_rfl) (by kernel_rfl) (Nat.le_refl _) (aZU _ kind0 Q w h)
def aBL (N : Nat) (kind0 : Int) (Q : VP) (w : World) : Prop :=
  NewL N w [] [(.string { data := #[] }), (.string { data := #[112, 108, 97, 99, 101] }), (.string { data := #[103, 114, 97, 110, 116] }), (.string { data := #[99, 117, 116] }), (.string { data := #[115, 116, 97, 110, 100, 98, 121] }), (.string { data := #[114, 101, 97, 100, 121] }), (.string { data := #[109, 105, 103, 114, 97, 116, 101] }), (.string { data := #[97, 98, 97, 110, 100, 111, 110] }), (.string { data := #[115, 104, 101, 100] }), (.string { data := #[109, 111, 100, 101] }), (.string { data := #[119, 97, 110, 116] }), (.string { data := #[114, 117, 110, 115] }), (.string { data := #[112, 114, 111, 118, 101] }), (.string { data := #[101, 118, 97, 99, 117, 97, 116, 101] }), (.string { data := #[101, 120, 112, 97, 110, 100] }), (.string { data := #[99, 111, 110, 116, 114, 97, 99, 116] }), (.string { data := #[110, 111, 116, 101] })] aFS fun b1 w2 => IfB (decide ((kind0 : Int) < 1)) (Reb N w2 [] (Q (.string { data := #[] }))) (IfB (decide ((17 : Int) ≤ kind0)) (Reb N w2 [] (Q (.string { data := #[] }))) (0 ≤ kind0 ∧ (kind0 : Int) < (17 : Nat) ∧ ∃ s4 : ByteArray, At w2 ((⟨b1, 0, none⟩ : Addr).add ((kind0 : Int).toNat * 1)) [(.string s4)] ∧ NotIn (((⟨b1, 0, none⟩ : Addr).add ((kind0 : Int).toNat * 1)) : Addr).block [] ∧ Reb N w2 [] (Q (.string s4))))
theorem aSD (N : Nat) (kind0 : Int) (Q : VP) (w : World) (h : aBL N kind0 Q w) : Snd (cy N []) (bodyOf Tryd.f19) (retD (cy N []) Tryd.f19 Q) (entry 17 [(.int .i64 kind0)]) w :=
  (dsm h)
theorem aM3 (kind0 : Int) (Q : VP) (w : World) (h : aBL w.heap.size kind0 Q w) : Calls PP aH2 [(.int .i64 kind0)].toArray w fun e w' => ∃ v, e = .returned v ∧ Q v w' :=
  calls_of (C := cy w.heap.size []) (fn := Tryd.f19) (c := (bodyOf Tryd.f19)) (by kernel_rfl) (by kernel_rfl) (Nat.le_refl _) (aSD _ kind0 Q w h)
def pU (N : Nat) (a0 : Sl) (b1 : Sl) (Q : VP) (w : World) : Prop :=
  RunL PP N w [] (convert aDX aFS (.slice a0.a a0.n a0.c)) fun r2 w3 => ∃ s1 : ByteArray, r2 = (.string s1) ∧ RunL PP N w3 [] (convert aDX aFS (.slice b1.a b1.n b1.c)) fun r5 w6 => ∃ s4 : ByteArray, r5 = (.string s4) ∧ Reb N w6 [] (Q (.bool (strEq s1 s4)))
theorem aJC (N : Nat) (a0 : Sl) (b1 : Sl) (Q : VP) (w : World) (h : pU N a0 b1 Q w) : Snd (cy N []) (bodyOf Tryd.f22) (retD (cy N []) Tryd.f22 Q) (entry 10 [(.slice a0.a a0.n a0.c), (.slice b1.a b1.n b1.c)]) w :=
  (dsm h)
theorem aH9 (a0 : Sl) (b1 : Sl) (Q : VP) (w : World) (h : pU w.heap.size a0 b1 Q w) : Calls PP aDA [(.slice a0.a a0.n a0.c), (.slice b1.a b1.n b1.c)].toArray w fun e w' => ∃ v, e = .returned v ∧ Q v w' :=
  calls_of (C := cy w.heap.size []) (fn := Tryd.f22) (c := (bodyOf Tryd.f22)) (by kernel_rfl) (by kernel_rfl) (Nat.le_refl _) (aJC _ a0 b1 Q w h)
def aJG (N : Nat) (Q : VP) (out3' : Sl) (w : World) : Prop :=
  Reb N w [] (Q (.slice out3'.a out3'.n out3'.c))
noncomputable def aGC (N : Nat) (Q : VP) : St → World → Prop := HG N 17 [.v 3 .l] (aJG N Q)
theorem aYU (N : Nat) (Q : VP) (s : St) (w : World) (h : aGC N Q s w) : Snd (cy N []) (cR (cR (cR (bodyOf Tryd.f23)))) (retD (cy N []) Tryd.f23 Q) s w :=
  Snd.HG h fun _ _ h => dsm h
def aJA (K : (aZ) → (Sl × Int) → Prop) : List Value → List LB → Prop := fun vs ls => match vs, ls with
  | [.slice out3'_a out3'_n out3'_c, .agg v6'_r, .int .i64 v7'], [] => aZ.decA v6'_r fun v6' => K v6' (⟨out3'_a, out3'_n, out3'_c⟩, v7')
  | _, _ => False
noncomputable def aU3 (N : Nat) (Q : VP) : Cont := (inBlockD 0 (thenD (aGC N Q) (retD (cy N []) Tryd.f23 Q)))
noncomputable def aJB : Code := (cL (cR (cL (cR (cR (bodyOf Tryd.f23))))))
def aI3 (N : Nat) (K1 : (aZ) → (Sl × Int) → World → Prop) (Q : VP) (out3' : Sl) (v6' : aZ) (v7' : Int) (w : World) : Prop :=
  IfB (decide ((v7' : Int) < 9)) (∃ p1 : Option Addr, (∀ wr : World, (Instr.index aXU (.agg (List.toArray v6'.cells)) (.int .i64 v7')).run PP wr = .ok (.pointer p1) wr) ∧ NilL p1 fun q2 => ∃ n3 : Int, At w q2 [(.int .i64 n3)] ∧ NotIn (q2 : Addr).block [] ∧ CallL PP N w [] aWK [(.slice out3'.a out3'.n out3'.c), (.int .i64 n3)] fun r5 w6 => ∃ l4 : Sl, r5 = (.slice l4.a l4.n l4.c) ∧ Reb N w6 [] fun w7 => K1 v6' (l4, (IntKind.i64.wrap (v7' + 1))) w7) (Reb N w [] fun w8 => aJG N Q out3' w8)
theorem aYM {N : Nat} {K1 : (aZ) → (Sl × Int) → World → Prop} {Q : VP} {out3' : Sl} {v6' : aZ} {v7' : Int} {w : World} (h : aI3 N K1 Q out3' v6' v7' w) : Snd (cy N []) (cL aJB) (thenD (HeadK N 17 [.val 3, .val 6, .val 7] aJA K1) (aU3 N Q)) (mkS 17 [.val 3, .val 6, .val 7] [(.slice out3'.a out3'.n out3'.c), (.agg (List.toArray v6'.cells)), (.int .i64 v7')] []) w :=
  (dsm h)
def aJD (N : Nat) (Q : VP) (K1 : (aZ) → (Sl × Int) → World → Prop) (c : aZ) (x : Sl × Int) (w : World) : Prop := match c, x with
  | v6', (out3', v7') => aI3 N K1 Q out3' v6' v7' w
theorem aYK (N : Nat) (Q : VP) {s : St} {w : World} (h : HeadE N 17 [.val 3, .val 6, .val 7] aJA (aJD N Q) s w) : Snd (cy N []) aJB (aU3 N Q) s w := by
  refine Snd.cast (c' := .loop (cL aJB)) (by kernel_rfl) (Snd.loopC (fun (c : aZ) (x : Sl × Int) => match c, x with | v6', (out3', v7') => ([(.slice out3'.a out3'.n out3'.c), (.agg (List.toArray v6'.cells)), (.int .i64 v7')], [])) ?_ ?_ h)
  · intro K vs ls h
    unfold aJA at h
    split at h
    · obtain ⟨v6', rfl, h0⟩ := aZ.pE h
      exact ⟨_, _, rfl, h0⟩
    · exact h.elim
  · rintro K v6' ⟨out3', v7'⟩ w h
    exact aYM h
def aJJ (N : Nat) (Q : VP) (out3' : Sl) (v6' : aZ) (v7' : Int) (w : World) : Prop :=
  LoopC N w [] (v6' : aZ) ((out3', v7') : Sl × Int) (aJD N Q)
noncomputable def aVG (N : Nat) (Q : VP) : St → World → Prop := HG N 17 [.v 3 .l, .v 6 (.g a0O), .v 7 (.i .i64)] (aJJ N Q)
theorem aY2 (N : Nat) (Q : VP) (s : St) (w : World) (h : aVG N Q s w) : Snd (cy N []) (cR (cL (cR (cR (bodyOf Tryd.f23))))) (thenD (aGC N Q) (retD (cy N []) Tryd.f23 Q)) s w :=
  Snd.HG h fun out3' v6' v7' w h => (bk 0 (aYK N Q (mpr' (by kernel_rfl) h)))
def aJF (N : Nat) (Q : VP) (e1' : Addr) (out3' : Sl) (w : World) : Prop :=
  CallL PP N w [] aMC [(.pointer (some e1'))] fun r10 w11 => ∃ x9 : aZ, r10 = (.agg (List.toArray x9.cells)) ∧ Reb N w11 [] fun w12 => aJJ N Q out3' x9 0 w12
noncomputable def aVH (N : Nat) (Q : VP) : St → World → Prop := HG N 17 [.v 1 .p, .v 3 .l] (aJF N Q)
theorem aYH (N : Nat) (Q : VP) (s : St) (w : World) (h : aVH N Q s w) : Snd (cy N []) (cR (cR (bodyOf Tryd.f23))) (retD (cy N []) Tryd.f23 Q) s w :=
  Snd.HG h fun e1' out3' w h => (sq (aGC N Q) (sq (aVG N Q) (dsm h) (aY2 N Q)) (aYU N Q))
def aJE (N : Nat) (Q : VP) (e1' : Addr) (w : World) : Prop :=
  Reb N w [] fun w13 => aJF N Q e1' (⟨none, 0, 0⟩ : Sl) w13
noncomputable def aU7 (N : Nat) (Q : VP) : St → World → Prop := HG N 17 [.v 1 .p] (aJE N Q)
theorem aYW (N : Nat) (Q : VP) (s : St) (w : World) (h : aU7 N Q s w) : Snd (cy N []) (cR (bodyOf Tryd.f23)) (retD (cy N []) Tryd.f23 Q) s w :=
  Snd.HG h fun e1' w h => (sq (aVH N Q) (dsm h) (aYH N Q))
def aPP (N : Nat) (e0 : aC) (Q : VP) (w : World) : Prop :=
  NewL N w [] e0.cells aD fun b14 w15 => Reb N w15 [] fun w16 => aJE N Q ⟨b14, 0, none⟩ w16
theorem aYB (N : Nat) (e0 : aC) (Q : VP) (w : World) (h : aPP N e0 Q w) : Snd (cy N []) (bodyOf Tryd.f23) (retD (cy N []) Tryd.f23 Q) (entry 17 [(.agg (List.toArray e0.cells))]) w :=
  (sq (aU7 N Q) (dsm h) (aYW N Q))
theorem aW2 (e0 : aC) (Q : VP) (w : World) (h : aPP w.heap.size e0 Q w) : Calls PP aWE [(.agg (List.toArray e0.cells))].toArray w fun e w' => ∃ v, e = .returned v ∧ Q v w' :=
  calls_of (C := cy w.heap.size []) (fn := Tryd.f23) (c := (bodyOf Tryd.f23)) (by kernel_rfl) (by kernel_rfl) (Nat.le_refl _) (aYB _ e0 Q w h)
def zR (N : Nat) (Q : VP) (w : World) : Prop :=
  Reb N w [] (Q (.bool false))
noncomputable def aAI (N : Nat) (Q : VP) : St → World → Prop := HG N 20 [] (zR N Q)
theorem aUF (N : Nat) (Q : VP) (s : St) (w : World) (h : aAI N Q s w) : Snd (cy N []) (cR (cR (cR (bodyOf Tryd.f68)))) (retD (cy N []) Tryd.f68 Q) s w :=
  Snd.HG h fun _ h => dsm h
noncomputable def aAV (N : Nat) (Q : VP) : Cont := (thenD (aAI N Q) (retD (cy N []) Tryd.f68 Q))
def aAF (K : (Int × ByteArray) → (Int) → Prop) : List Value → List LB → Prop := fun vs ls => match vs, ls with
  | [.int .u8 what1', .string s5', .int .i64 i6'], [] => K (what1', s5') i6'
  | _, _ => False
noncomputable def aAU : Code := (cL (cR (cL (cR (cR (bodyOf Tryd.f68))))))
def aAW (N : Nat) (K1 : (Int × ByteArray) → (Int) → World → Prop) (Q : VP) (what1' : Int) (s5' : ByteArray) (i6' : Int) (w : World) : Prop :=
  IfB (decide ((i6' : Int) < (s5'.size : Int))) ((0 : Int) ≤ i6' ∧ (i6' : Int) < (s5').size ∧ IfB (decide (((bt s5' (i6' : Int).toNat) : Int) = what1')) (Reb N w [] (Q (.bool true))) (Reb N w [] fun w1 => K1 (what1', s5') (IntKind.i64.wrap (i6' + 1)) w1)) (Reb N w [] fun w2 => zR N Q w2)
theorem aUJ {N : Nat} {K1 : (Int × ByteArray) → (Int) → World → Prop} {Q : VP} {what1' : Int} {s5' : ByteArray} {i6' : Int} {w : World} (h : aAW N K1 Q what1' s5' i6' w) : Snd (cy N []) (cL aAU) (thenD (HeadK N 20 [.val 1, .val 5, .val 6] aAF K1) (inBlockD 0 (aAV N Q))) (mkS 20 [.val 1, .val 5, .val 6] [(.int .u8 what1'), (.string s5'), (.int .i64 i6')] []) w :=
  (dsm h)
def aAR (N : Nat) (Q : VP) (K1 : (Int × ByteArray) → (Int) → World → Prop) (c : Int × ByteArray) (x : Int) (w : World) : Prop := match c, x with
  | (what1', s5'), i6' => aAW N K1 Q what1' s5' i6' w
theorem aUH (N : Nat) (Q : VP) {s : St} {w : World} (h : HeadE N 20 [.val 1, .val 5, .val 6] aAF (aAR N Q) s w) : Snd (cy N []) aAU (inBlockD 0 (aAV N Q)) s w := by
  refine Snd.cast (c' := .loop (cL aAU)) (by kernel_rfl) (Snd.loopC (fun (c : Int × ByteArray) (x : Int) => match c, x with | (what1', s5'), i6' => ([(.int .u8 what1'), (.string s5'), (.int .i64 i6')], [])) ?_ ?_ h)
  · intro K vs ls h
    unfold aAF at h
    split at h
    · exact ⟨_, _, rfl, h⟩
    · exact h.elim
  · rintro K ⟨what1', s5'⟩ i6' w h
    exact aUJ h
def aAX (N : Nat) (Q : VP) (what1' : Int) (s5' : ByteArray) (i6' : Int) (w : World) : Prop :=
  LoopC N w [] ((what1', s5') : Int × ByteArray) (i6' : Int) (aAR N Q)
noncomputable def aHW (N : Nat) (Q : VP) : St → World → Prop := HG N 20 [.v 1 (.i .u8), .v 5 .s, .v 6 (.i .i64)] (aAX N Q)
theorem aT3 (N : Nat) (Q : VP) (s : St) (w : World) (h : aHW N Q s w) : Snd (cy N []) (cR (cL (cR (cR (bodyOf Tryd.f68))))) (aAV N Q) s w :=
  Snd.HG h fun what1' s5' i6' w h => (bk 0 (aUH N Q (mpr' (by kernel_rfl) h)))
def zN (N : Nat) (Q : VP) (what1' : Int) (s5' : ByteArray) (w : World) : Prop :=
  Reb N w [] fun w3 => aAX N Q what1' s5' 0 w3
noncomputable def aHX (N : Nat) (Q : VP) : St → World → Prop := HG N 20 [.v 1 (.i .u8), .v 5 .s] (zN N Q)
theorem aUA (N : Nat) (Q : VP) (s : St) (w : World) (h : aHX N Q s w) : Snd (cy N []) (cR (cR (bodyOf Tryd.f68))) (retD (cy N []) Tryd.f68 Q) s w :=
  Snd.HG h fun what1' s5' w h => (sq (aAI N Q) (sq (aHW N Q) (dsm h) (aT3 N Q)) (aUF N Q))
def zJ (N : Nat) (Q : VP) (kind0' what1' : Int) (w : World) : Prop :=
  CallL PP N w [] aBF [(.int .i64 kind0')] fun r5 w6 => ∃ s4 : ByteArray, r5 = (.string s4) ∧ Reb N w6 [] fun w7 => zN N Q what1' s4 w7
noncomputable def aHI (N : Nat) (Q : VP) : St → World → Prop := HG N 20 [.v 0 (.i .i64), .v 1 (.i .u8)] (zJ N Q)
theorem aUP (N : Nat) (Q : VP) (s : St) (w : World) (h : aHI N Q s w) : Snd (cy N []) (cR (bodyOf Tryd.f68)) (retD (cy N []) Tryd.f68 Q) s w :=
  Snd.HG h fun kind0' what1' w h => (sq (aHX N Q) (dsm h) (aUA N Q))
def aDN (N : Nat) (kind0 : Int) (what1 : Int) (Q : VP) (w : World) : Prop :=
  Reb N w [] fun w8 => zJ N Q kind0 what1 w8
theorem aT1 (N : Nat) (kind0 : Int) (what1 : Int) (Q : VP) (w : World) (h : aDN N kind0 what1 Q w) : Snd (cy N []) (bodyOf Tryd.f68) (retD (cy N []) Tryd.f68 Q) (entry 20 [(.int .i64 kind0), (.int .u8 what1)]) w :=
  (sq (aHI N Q) (dsm h) (aUP N Q))
theorem aQ8 (kind0 : Int) (what1 : Int) (Q : VP) (w : World) (h : aDN w.heap.size kind0 what1 Q w) : Calls PP aX [(.int .i64 kind0), (.int .u8 what1)].toArray w fun e w' => ∃ v, e = .returned v ∧ Q v w' :=
  calls_of (C := cy w.heap.size []) (fn := Tryd.f68) (c := (bodyOf Tryd.f68)) (by kernel_rfl) (by kernel_rfl) (Nat.le_refl _) (aT1 _ kind0 what1 Q w h)
def aBQ (N : Nat) (kind0 : Int) (Q : VP) (w : World) : Prop :=
  NewL N w [] [(.string { data := #[] }), (.string { data := #[116, 99, 111] }), (.string { data := #[116, 99, 101, 119, 118] }), (.string { data := #[116, 101] }), (.string { data := #[116, 67] }), (.string { data := #[116, 99] }), (.string { data := #[116, 99] }), (.string { data := #[116] }), (.string { data := #[116, 98] }), (.string { data := #[99, 109] }), (.string { data := #[99, 118] }), (.string { data := #[99, 118] }), (.string { data := #[118] }), (.string { data := #[114, 98] }), (.string { data := #[] }), (.string { data := #[] }), (.string { data := #[110] })] aFS fun b1 w2 => IfB (decide ((kind0 : Int) < 1)) (Reb N w2 [] (Q (.string { data := #[63] }))) (IfB (decide ((17 : Int) ≤ kind0)) (Reb N w2 [] (Q (.string { data := #[63] }))) (0 ≤ kind0 ∧ (kind0 : Int) < (17 : Nat) ∧ ∃ s4 : ByteArray, At w2 ((⟨b1, 0, none⟩ : Addr).add ((kind0 : Int).toNat * 1)) [(.string s4)] ∧ NotIn (((⟨b1, 0, none⟩ : Addr).add ((kind0 : Int).toNat * 1)) : Addr).block [] ∧ Reb N w2 [] (Q (.string s4))))
theorem aSO (N : Nat) (kind0 : Int) (Q : VP) (w : World) (h : aBQ N kind0 Q w) : Snd (cy N []) (bodyOf Tryd.f84) (retD (cy N []) Tryd.f84 Q) (entry 17 [(.int .i64 kind0)]) w :=
  (dsm h)
theorem aN0 (kind0 : Int) (Q : VP) (w : World) (h : aBQ w.heap.size kind0 Q w) : Calls PP aBF [(.int .i64 kind0)].toArray w fun e w' => ∃ v, e = .returned v ∧ Q v w' :=
  calls_of (C := cy w.heap.size []) (fn := Tryd.f84) (c := (bodyOf Tryd.f84)) (by kernel_rfl) (by kernel_rfl) (Nat.le_refl _) (aSO _ kind0 Q w h)
def aAP (N : Nat) (e0 : aC) (tenants1 : Int) (cells2 : Int) (regions3 : Int) (versions4 : Int) (Q : VP) (w : World) : Prop :=
  ∀ b1 : Nat, w.heap.size ≤ b1 → CallL PP N w [⟨b1, e0.cells, aD⟩] bH [(.int .i64 e0.Kind), (.int .i64 1), (.int .i64 16)] fun r3 w4 => ∃ b2 : Bool, r3 = (.bool b2) ∧ IfB b2 (CallL PP N w4 [⟨b1, e0.cells, aD⟩] bH [(.int .i64 e0.Tick), (.int .i64 0), (.int .i64 1073741824)] fun r6 w7 => ∃ b5 : Bool, r6 = (.bool b5) ∧ IfB b5 (CallL PP N w7 [⟨b1, e0.cells, aD⟩] xY [(.agg (List.toArray e0.cells)), (.int .i64 tenants1), (.int .i64 cells2), (.int .i64 regions3)] fun r9 w10 => ∃ b8 : Bool, r9 = (.bool b8) ∧ IfB b8 (CallL PP N w10 [⟨b1, e0.cells, aD⟩] vZ [(.agg (List.toArray e0.cells)), (.int .i64 versions4)] fun r12 w13 => ∃ b11 : Bool, r12 = (.bool b11) ∧ Reb N w13 [⟨b1, e0.cells, aD⟩] (Q (.bool b11))) (Reb N w10 [⟨b1, e0.cells, aD⟩] (Q (.bool false)))) (Reb N w7 [⟨b1, e0.cells, aD⟩] (Q (.bool false)))) (Reb N w4 [⟨b1, e0.cells, aD⟩] (Q (.bool false)))
theorem aP7 (N : Nat) (e0 : aC) (tenants1 : Int) (cells2 : Int) (regions3 : Int) (versions4 : Int) (Q : VP) (w : World) (h : aAP N e0 tenants1 cells2 regions3 versions4 Q w) : Snd (cy N [5]) (bodyOf Tryd.f33) (retD (cy N [5]) Tryd.f33 Q) (entry 31 [(.agg (List.toArray e0.cells)), (.int .i64 tenants1), (.int .i64 cells2), (.int .i64 regions3), (.int .i64 versions4)]) w :=
  (dsm h)
theorem aMB (e0 : aC) (tenants1 : Int) (cells2 : Int) (regions3 : Int) (versions4 : Int) (Q : VP) (w : World) (h : aAP w.heap.size e0 tenants1 cells2 regions3 versions4 Q w) : Calls PP oI [(.agg (List.toArray e0.cells)), (.int .i64 tenants1), (.int .i64 cells2), (.int .i64 regions3), (.int .i64 versions4)].toArray w fun e w' => ∃ v, e = .returned v ∧ Q v w' :=
  calls_of (C := cy w.heap.size [5]) (fn := Tryd.f33) (c := (bodyOf Tryd.f33)) (by kernel_rfl) (by kernel_rfl) (Nat.le_refl _) (aP7 _ e0 tenants1 cells2 regions3 versions4 Q w h)
def rZ (N : Nat) (Q : VP) (w : World) : Prop :=
  Reb N w [] (Q (.bool true))
noncomputable def kF (N : Nat) (Q : VP) : St → World → Prop := HG N 105 [] (rZ N Q)
theorem aMX (N : Nat) (Q : VP) (s : St) (w : World) (h : kF N Q s w) : Snd (cy N [4]) (cR (cR (cR (cR (bodyOf Tryd.f57))))) (retD (cy N [4]) Tryd.f57 Q) s w :=
  Snd.HG h fun _ h => dsm h
noncomputable def bW : Code := (cR (cL (cL (cR (cR (cR (bodyOf Tryd.f57)))))))
noncomputable def tV (N : Nat) (Q : VP) : Cont := (inBlockD 0 (thenD (kF N Q) (retD (cy N [4]) Tryd.f57 Q)))
def dJ (N : Nat) (Q : VP) (v64' : Bool) (w : World) : Prop :=
  IfB v64' (Reb N w [] (Q (.bool false))) (Reb N w [] fun w1 => rZ N Q w1)
noncomputable def sK (N : Nat) (Q : VP) : St → World → Prop := HG N 105 [.v 64 .b] (dJ N Q)
theorem aM7 (N : Nat) (Q : VP) (s : St) (w : World) (h : sK N Q s w) : Snd (cy N [4]) (cR (cR bW)) (tV N Q) s w :=
  Snd.HG h fun _ _ h => dsm h
noncomputable def aEQ (N : Nat) (Q : VP) : Cont := (thenD (sK N Q) (tV N Q))
noncomputable def aOV : Code := (cR (cR (cR (cL (cR bW)))))
def kN (N : Nat) (Q : VP) (B4' : Nat) (e4c' : aC) (T4' : Nat) (k9' : Int) (v64' : Bool) (w : World) : Prop :=
  IfB v64' (Reb N w [⟨B4', e4c'.cells, T4'⟩] fun w3 => dJ N Q v64' w3) (CallL PP N w [⟨B4', e4c'.cells, T4'⟩] aX [(.int .i64 k9'), (.int .u8 111)] fun r5 w6 => ∃ b4 : Bool, r5 = (.bool b4) ∧ IfB (!b4) (CallL PP N w6 [⟨B4', e4c'.cells, T4'⟩] aX [(.int .i64 k9'), (.int .u8 114)] fun r8 w9 => ∃ b7 : Bool, r8 = (.bool b7) ∧ IfB (!b7) (Reb N w9 [⟨B4', e4c'.cells, T4'⟩] fun w10 => dJ N Q (!decide ((e4c'.Other : Int) = (-1))) w10) (Reb N w9 [⟨B4', e4c'.cells, T4'⟩] fun w11 => dJ N Q false w11)) (Reb N w6 [⟨B4', e4c'.cells, T4'⟩] fun w12 => dJ N Q false w12))
noncomputable def aD7 (N : Nat) (Q : VP) : St → World → Prop := HG N 105 [.c 4 (.g aK), .v 9 (.i .i64), .v 64 .b] (kN N Q)
theorem aOC (N : Nat) (Q : VP) (s : St) (w : World) (h : aD7 N Q s w) : Snd (cy N [4]) aOV (aEQ N Q) s w :=
  Snd.HG h fun _ _ _ _ _ _ h => dsm h
def gW (N : Nat) (Q : VP) (regions3' : Int) (B4' : Nat) (e4c' : aC) (T4' : Nat) (k9' : Int) (v64' : Bool) (w : World) : Prop :=
  IfB v64' (Reb N w [⟨B4', e4c'.cells, T4'⟩] fun w2 => dJ N Q v64' w2) (CallL PP N w [⟨B4', e4c'.cells, T4'⟩] aX [(.int .i64 k9'), (.int .u8 114)] fun r14 w15 => ∃ b13 : Bool, r14 = (.bool b13) ∧ IfB b13 (CallL PP N w15 [⟨B4', e4c'.cells, T4'⟩] bH [(.int .i64 e4c'.Other), (.int .i64 0), (.int .i64 (IntKind.i64.wrap (regions3' - 1)))] fun r17 w18 => ∃ b16 : Bool, r17 = (.bool b16) ∧ Reb N w18 [⟨B4', e4c'.cells, T4'⟩] fun w19 => kN N Q B4' e4c' T4' k9' (!b16) w19) (Reb N w15 [⟨B4', e4c'.cells, T4'⟩] fun w20 => kN N Q B4' e4c' T4' k9' false w20))
noncomputable def aEP (N : Nat) (Q : VP) : St → World → Prop := HG N 105 [.v 3 (.i .i64), .c 4 (.g aK), .v 9 (.i .i64), .v 64 .b] (gW N Q)
theorem aOK (N : Nat) (Q : VP) (s : St) (w : World) (h : aEP N Q s w) : Snd (cy N [4]) (cR (cL (cR bW))) (aEQ N Q) s w :=
  Snd.HG h fun regions3' B4' e4c' T4' k9' v64' w h => (Snd.cast (c' := .cond (.tmp 64) (cL (cR (cL (cR bW)))) (cR (cR (cL (cR bW))))) (by kernel_rfl) (Snd.cond (t := v64') (by kernel_rfl) (by kernel_rfl) (fun ht => (fun h => (dsm h)) (ifb_t h ht)) (fun ht => (fun h => (sq (aD7 N Q) (dsm h) (aOC N Q))) (ifb_f h ht))))
def dK (N : Nat) (Q : VP) (cells2' regions3' : Int) (B4' : Nat) (e4c' : aC) (T4' : Nat) (k9' : Int) (v30' : Bool) (w : World) : Prop :=
  IfB v30' (Reb N w [⟨B4', e4c'.cells, T4'⟩] (Q (.bool false))) (CallL PP N w [⟨B4', e4c'.cells, T4'⟩] aX [(.int .i64 k9'), (.int .u8 111)] fun r22 w23 => ∃ b21 : Bool, r22 = (.bool b21) ∧ IfB b21 (CallL PP N w23 [⟨B4', e4c'.cells, T4'⟩] bH [(.int .i64 e4c'.Other), (.int .i64 (-1)), (.int .i64 (IntKind.i64.wrap (cells2' - 1)))] fun r25 w26 => ∃ b24 : Bool, r25 = (.bool b24) ∧ IfB (!b24) (Reb N w26 [⟨B4', e4c'.cells, T4'⟩] fun w27 => gW N Q regions3' B4' e4c' T4' k9' true w27) (Reb N w26 [⟨B4', e4c'.cells, T4'⟩] fun w28 => gW N Q regions3' B4' e4c' T4' k9' (decide ((e4c'.Other : Int) = e4c'.Cell)) w28)) (Reb N w23 [⟨B4', e4c'.cells, T4'⟩] fun w29 => gW N Q regions3' B4' e4c' T4' k9' false w29))
noncomputable def sD (N : Nat) (Q : VP) : St → World → Prop := HG N 105 [.v 2 (.i .i64), .v 3 (.i .i64), .c 4 (.g aK), .v 9 (.i .i64), .v 30 .b] (dK N Q)
theorem aND (N : Nat) (Q : VP) (s : St) (w : World) (h : sD N Q s w) : Snd (cy N [4]) bW (tV N Q) s w :=
  Snd.HG h fun cells2' regions3' B4' e4c' T4' k9' v30' w h => (Snd.cast (c' := .cond (.tmp 30) (cL bW) (cR bW)) (by kernel_rfl) (Snd.cond (t := v30') (by kernel_rfl) (by kernel_rfl) (fun ht => (fun h => (dsm h)) (ifb_t h ht)) (fun ht => (fun h => (sq (sK N Q) (sq (aEP N Q) (dsm h) (aOK N Q)) (aM7 N Q))) (ifb_f h ht))))
noncomputable def kU : Code := (cR (cL (cL (cL (cR (cR (cR (bodyOf Tryd.f57))))))))
noncomputable def aD5 (N : Nat) (Q : VP) : Cont := (thenD (sD N Q) (inBlockD 0 (thenD (kF N Q) (retD (cy N [4]) Tryd.f57 Q))))
def jS (N : Nat) (Q : VP) (cells2' regions3' : Int) (B4' : Nat) (e4c' : aC) (T4' : Nat) (k9' : Int) (v30' : Bool) (w : World) : Prop :=
  IfB v30' (Reb N w [⟨B4', e4c'.cells, T4'⟩] fun w31 => dK N Q cells2' regions3' B4' e4c' T4' k9' v30' w31) (CallL PP N w [⟨B4', e4c'.cells, T4'⟩] aX [(.int .i64 k9'), (.int .u8 99)] fun r33 w34 => ∃ b32 : Bool, r33 = (.bool b32) ∧ IfB (!b32) (CallL PP N w34 [⟨B4', e4c'.cells, T4'⟩] aX [(.int .i64 k9'), (.int .u8 67)] fun r36 w37 => ∃ b35 : Bool, r36 = (.bool b35) ∧ IfB (!b35) (Reb N w37 [⟨B4', e4c'.cells, T4'⟩] fun w38 => dK N Q cells2' regions3' B4' e4c' T4' k9' (!decide ((e4c'.Cell : Int) = (-1))) w38) (Reb N w37 [⟨B4', e4c'.cells, T4'⟩] fun w39 => dK N Q cells2' regions3' B4' e4c' T4' k9' false w39)) (Reb N w34 [⟨B4', e4c'.cells, T4'⟩] fun w40 => dK N Q cells2' regions3' B4' e4c' T4' k9' false w40))
noncomputable def aCT (N : Nat) (Q : VP) : St → World → Prop := HG N 105 [.v 2 (.i .i64), .v 3 (.i .i64), .c 4 (.g aK), .v 9 (.i .i64), .v 30 .b] (jS N Q)
theorem aKP (N : Nat) (Q : VP) (s : St) (w : World) (h : aCT N Q s w) : Snd (cy N [4]) (cR (cR kU)) (aD5 N Q) s w :=
  Snd.HG h fun _ _ _ _ _ _ _ _ h => dsm h
def kQ (N : Nat) (Q : VP) (cells2' regions3' : Int) (B4' : Nat) (e4c' : aC) (T4' : Nat) (k9' : Int) (v30' : Bool) (w : World) : Prop :=
  IfB v30' (Reb N w [⟨B4', e4c'.cells, T4'⟩] fun w30 => dK N Q cells2' regions3' B4' e4c' T4' k9' v30' w30) (CallL PP N w [⟨B4', e4c'.cells, T4'⟩] aX [(.int .i64 k9'), (.int .u8 67)] fun r42 w43 => ∃ b41 : Bool, r42 = (.bool b41) ∧ IfB b41 (CallL PP N w43 [⟨B4', e4c'.cells, T4'⟩] bH [(.int .i64 e4c'.Cell), (.int .i64 (-1)), (.int .i64 (IntKind.i64.wrap (cells2' - 1)))] fun r45 w46 => ∃ b44 : Bool, r45 = (.bool b44) ∧ Reb N w46 [⟨B4', e4c'.cells, T4'⟩] fun w47 => jS N Q cells2' regions3' B4' e4c' T4' k9' (!b44) w47) (Reb N w43 [⟨B4', e4c'.cells, T4'⟩] fun w48 => jS N Q cells2' regions3' B4' e4c' T4' k9' false w48))
noncomputable def aD4 (N : Nat) (Q : VP) : St → World → Prop := HG N 105 [.v 2 (.i .i64), .v 3 (.i .i64), .c 4 (.g aK), .v 9 (.i .i64), .v 30 .b] (kQ N Q)
theorem aNG (N : Nat) (Q : VP) (s : St) (w : World) (h : aD4 N Q s w) : Snd (cy N [4]) kU (aD5 N Q) s w :=
  Snd.HG h fun cells2' regions3' B4' e4c' T4' k9' v30' w h => (Snd.cast (c' := .cond (.tmp 30) (cL kU) (cR kU)) (by kernel_rfl) (Snd.cond (t := v30') (by kernel_rfl) (by kernel_rfl) (fun ht => (fun h => (dsm h)) (ifb_t h ht)) (fun ht => (fun h => (sq (aCT N Q) (dsm h) (aKP N Q))) (ifb_f h ht))))
def kY (N : Nat) (Q : VP) (cells2' regions3' : Int) (B4' : Nat) (e4c' : aC) (T4' : Nat) (k9' : Int) (w : World) : Prop :=
  CallL PP N w [⟨B4', e4c'.cells, T4'⟩] aX [(.int .i64 k9'), (.int .u8 99)] fun r50 w51 => ∃ b49 : Bool, r50 = (.bool b49) ∧ IfB b49 (CallL PP N w51 [⟨B4', e4c'.cells, T4'⟩] bH [(.int .i64 e4c'.Cell), (.int .i64 0), (.int .i64 (IntKind.i64.wrap (cells2' - 1)))] fun r53 w54 => ∃ b52 : Bool, r53 = (.bool b52) ∧ Reb N w54 [⟨B4', e4c'.cells, T4'⟩] fun w55 => kQ N Q cells2' regions3' B4' e4c' T4' k9' (!b52) w55) (Reb N w51 [⟨B4', e4c'.cells, T4'⟩] fun w56 => kQ N Q cells2' regions3' B4' e4c' T4' k9' false w56)
noncomputable def aEF (N : Nat) (Q : VP) : St → World → Prop := HG N 105 [.v 2 (.i .i64), .v 3 (.i .i64), .c 4 (.g aK), .v 9 (.i .i64)] (kY N Q)
theorem aNA (N : Nat) (Q : VP) (s : St) (w : World) (h : aEF N Q s w) : Snd (cy N [4]) (cR (cR (cR (bodyOf Tryd.f57)))) (retD (cy N [4]) Tryd.f57 Q) s w :=
  Snd.HG h fun cells2' regions3' B4' e4c' T4' k9' w h => (sq (kF N Q) (bk 0 (sq (sD N Q) (sq (aD4 N Q) (dsm h) (aNG N Q)) (aND N Q))) (aMX N Q))
def rQ (N : Nat) (Q : VP) (tenants1' cells2' regions3' : Int) (B4' : Nat) (e4c' : aC) (T4' : Nat) (k9' : Int) (w : World) : Prop :=
  CallL PP N w [⟨B4', e4c'.cells, T4'⟩] aX [(.int .i64 k9'), (.int .u8 116)] fun r58 w59 => ∃ b57 : Bool, r58 = (.bool b57) ∧ IfB (!(b57 == (!decide ((e4c'.Tenant : Int) = (-1))))) (Reb N w59 [⟨B4', e4c'.cells, T4'⟩] (Q (.bool false))) (CallL PP N w59 [⟨B4', e4c'.cells, T4'⟩] aX [(.int .i64 k9'), (.int .u8 116)] fun r61 w62 => ∃ b60 : Bool, r61 = (.bool b60) ∧ IfB b60 (CallL PP N w62 [⟨B4', e4c'.cells, T4'⟩] bH [(.int .i64 e4c'.Tenant), (.int .i64 0), (.int .i64 (IntKind.i64.wrap (tenants1' - 1)))] fun r64 w65 => ∃ b63 : Bool, r64 = (.bool b63) ∧ IfB (!b63) (Reb N w65 [⟨B4', e4c'.cells, T4'⟩] (Q (.bool false))) (Reb N w65 [⟨B4', e4c'.cells, T4'⟩] fun w66 => kY N Q cells2' regions3' B4' e4c' T4' k9' w66)) (Reb N w62 [⟨B4', e4c'.cells, T4'⟩] fun w67 => kY N Q cells2' regions3' B4' e4c' T4' k9' w67))
noncomputable def aEW (N : Nat) (Q : VP) : St → World → Prop := HG N 105 [.v 1 (.i .i64), .v 2 (.i .i64), .v 3 (.i .i64), .c 4 (.g aK), .v 9 (.i .i64)] (rQ N Q)
theorem aNK (N : Nat) (Q : VP) (s : St) (w : World) (h : aEW N Q s w) : Snd (cy N [4]) (cR (cR (bodyOf Tryd.f57))) (retD (cy N [4]) Tryd.f57 Q) s w :=
  Snd.HG h fun tenants1' cells2' regions3' B4' e4c' T4' k9' w h => (sq (aEF N Q) (dsm h) (aNA N Q))
def kL (N : Nat) (Q : VP) (tenants1' cells2' regions3' : Int) (B4' : Nat) (e4c' : aC) (T4' : Nat) (w : World) : Prop :=
  Reb N w [⟨B4', e4c'.cells, T4'⟩] fun w68 => rQ N Q tenants1' cells2' regions3' B4' e4c' T4' e4c'.Kind w68
noncomputable def aEB (N : Nat) (Q : VP) : St → World → Prop := HG N 105 [.v 1 (.i .i64), .v 2 (.i .i64), .v 3 (.i .i64), .c 4 (.g aK)] (kL N Q)
theorem aM0 (N : Nat) (Q : VP) (s : St) (w : World) (h : aEB N Q s w) : Snd (cy N [4]) (cR (bodyOf Tryd.f57)) (retD (cy N [4]) Tryd.f57 Q) s w :=
  Snd.HG h fun tenants1' cells2' regions3' B4' e4c' T4' w h => (sq (aEW N Q) (dsm h) (aNK N Q))
def xI (N : Nat) (e0 : aC) (tenants1 : Int) (cells2 : Int) (regions3 : Int) (Q : VP) (w : World) : Prop :=
  ∀ b69 : Nat, w.heap.size ≤ b69 → Reb N w [⟨b69, e0.cells, aD⟩] fun w70 => kL N Q tenants1 cells2 regions3 b69 e0 aD w70
theorem aNN (N : Nat) (e0 : aC) (tenants1 : Int) (cells2 : Int) (regions3 : Int) (Q : VP) (w : World) (h : xI N e0 tenants1 cells2 regions3 Q w) : Snd (cy N [4]) (bodyOf Tryd.f57) (retD (cy N [4]) Tryd.f57 Q) (entry 105 [(.agg (List.toArray e0.cells)), (.int .i64 tenants1), (.int .i64 cells2), (.int .i64 regions3)]) w :=
  (sq (aEB N Q) (dsm h) (aM0 N Q))
theorem aJ3 (e0 : aC) (tenants1 : Int) (cells2 : Int) (regions3 : Int) (Q : VP) (w : World) (h : xI w.heap.size e0 tenants1 cells2 regions3 Q w) : Calls PP xY [(.agg (List.toArray e0.cells)), (.int .i64 tenants1), (.int .i64 cells2), (.int .i64 regions3)].toArray w fun e w' => ∃ v, e = .returned v ∧ Q v w' :=
  calls_of (C := cy w.heap.size [4]) (fn := Tryd.f57) (c := (bodyOf Tryd.f57)) (by kernel_rfl) (by kernel_rfl) (Nat.le_refl _) (aNN _ e0 tenants1 cells2 regions3 Q w h)
def qB (N : Nat) (Q : VP) (B2' : Nat) (e2c' : aC) (T2' : Nat) (w : World) : Prop :=
  Reb N w [⟨B2', e2c'.cells, T2'⟩] (Q (.bool (decide ((e2c'.N : Int) = 0))))
noncomputable def jN (N : Nat) (Q : VP) : St → World → Prop := HG N 82 [.c 2 (.g aK)] (qB N Q)
theorem aLG (N : Nat) (Q : VP) (s : St) (w : World) (h : jN N Q s w) : Snd (cy N [2]) (cR (cR (cR (bodyOf Tryd.f58)))) (retD (cy N [2]) Tryd.f58 Q) s w :=
  Snd.HG h fun _ _ _ _ h => dsm h
noncomputable def gL : Code := (cR (cL (cL (cR (cR (bodyOf Tryd.f58))))))
noncomputable def qI (N : Nat) (Q : VP) : Cont := (inBlockD 0 (thenD (jN N Q) (retD (cy N [2]) Tryd.f58 Q)))
def dU (N : Nat) (Q : VP) (versions1' : Int) (B2' : Nat) (e2c' : aC) (T2' : Nat) (k5' : Int) (v25' : Bool) (w : World) : Prop :=
  IfB v25' (Reb N w [⟨B2', e2c'.cells, T2'⟩] (Q (.bool false))) (CallL PP N w [⟨B2', e2c'.cells, T2'⟩] aX [(.int .i64 k5'), (.int .u8 118)] fun r2 w3 => ∃ b1 : Bool, r2 = (.bool b1) ∧ IfB b1 (CallL PP N w3 [⟨B2', e2c'.cells, T2'⟩] bH [(.int .i64 e2c'.N), (.int .i64 0), (.int .i64 (IntKind.i64.wrap (versions1' - 1)))] fun r5 w6 => ∃ b4 : Bool, r5 = (.bool b4) ∧ Reb N w6 [⟨B2', e2c'.cells, T2'⟩] (Q (.bool b4))) (CallL PP N w3 [⟨B2', e2c'.cells, T2'⟩] aX [(.int .i64 k5'), (.int .u8 98)] fun r8 w9 => ∃ b7 : Bool, r8 = (.bool b7) ∧ IfB b7 (CallL PP N w9 [⟨B2', e2c'.cells, T2'⟩] bH [(.int .i64 e2c'.N), (.int .i64 0), (.int .i64 1)] fun r11 w12 => ∃ b10 : Bool, r11 = (.bool b10) ∧ Reb N w12 [⟨B2', e2c'.cells, T2'⟩] (Q (.bool b10))) (CallL PP N w9 [⟨B2', e2c'.cells, T2'⟩] aX [(.int .i64 k5'), (.int .u8 109)] fun r14 w15 => ∃ b13 : Bool, r14 = (.bool b13) ∧ IfB b13 (CallL PP N w15 [⟨B2', e2c'.cells, T2'⟩] bH [(.int .i64 e2c'.N), (.int .i64 1), (.int .i64 3)] fun r17 w18 => ∃ b16 : Bool, r17 = (.bool b16) ∧ Reb N w18 [⟨B2', e2c'.cells, T2'⟩] (Q (.bool b16))) (CallL PP N w15 [⟨B2', e2c'.cells, T2'⟩] aX [(.int .i64 k5'), (.int .u8 110)] fun r20 w21 => ∃ b19 : Bool, r20 = (.bool b19) ∧ IfB b19 (CallL PP N w21 [⟨B2', e2c'.cells, T2'⟩] bH [(.int .i64 e2c'.N), (.int .i64 0), (.int .i64 1073741824)] fun r23 w24 => ∃ b22 : Bool, r23 = (.bool b22) ∧ Reb N w24 [⟨B2', e2c'.cells, T2'⟩] (Q (.bool b22))) (Reb N w21 [⟨B2', e2c'.cells, T2'⟩] fun w25 => qB N Q B2' e2c' T2' w25)))))
noncomputable def pR (N : Nat) (Q : VP) : St → World → Prop := HG N 82 [.v 1 (.i .i64), .c 2 (.g aK), .v 5 (.i .i64), .v 25 .b] (dU N Q)
theorem aMI (N : Nat) (Q : VP) (s : St) (w : World) (h : pR N Q s w) : Snd (cy N [2]) (cR (cR gL)) (qI N Q) s w :=
  Snd.HG h fun _ _ _ _ _ _ _ h => dsm h
noncomputable def aKK : Code := (cR (cL (cR gL)))
noncomputable def aLJ (N : Nat) (Q : VP) : Cont := (thenD (pR N Q) (qI N Q))
def gJ (N : Nat) (Q : VP) (versions1' : Int) (B2' : Nat) (e2c' : aC) (T2' : Nat) (k5' : Int) (v25' : Bool) (w : World) : Prop :=
  IfB v25' (Reb N w [⟨B2', e2c'.cells, T2'⟩] fun w26 => dU N Q versions1' B2' e2c' T2' k5' v25' w26) (CallL PP N w [⟨B2', e2c'.cells, T2'⟩] aX [(.int .i64 k5'), (.int .u8 119)] fun r28 w29 => ∃ b27 : Bool, r28 = (.bool b27) ∧ IfB (!b27) (IfB (!decide ((e2c'.From : Int) = 0)) (Reb N w29 [⟨B2', e2c'.cells, T2'⟩] fun w30 => dU N Q versions1' B2' e2c' T2' k5' true w30) (Reb N w29 [⟨B2', e2c'.cells, T2'⟩] fun w31 => dU N Q versions1' B2' e2c' T2' k5' (!decide ((e2c'.Until : Int) = 0)) w31)) (Reb N w29 [⟨B2', e2c'.cells, T2'⟩] fun w32 => dU N Q versions1' B2' e2c' T2' k5' false w32))
noncomputable def aC6 (N : Nat) (Q : VP) : St → World → Prop := HG N 82 [.v 1 (.i .i64), .c 2 (.g aK), .v 5 (.i .i64), .v 25 .b] (gJ N Q)
theorem aKT (N : Nat) (Q : VP) (s : St) (w : World) (h : aC6 N Q s w) : Snd (cy N [2]) aKK (aLJ N Q) s w :=
  Snd.HG h fun _ _ _ _ _ _ _ h => dsm h
def fT (N : Nat) (Q : VP) (versions1' : Int) (B2' : Nat) (e2c' : aC) (T2' : Nat) (k5' : Int) (v8' : Bool) (w : World) : Prop :=
  IfB v8' (Reb N w [⟨B2', e2c'.cells, T2'⟩] (Q (.bool false))) (CallL PP N w [⟨B2', e2c'.cells, T2'⟩] aX [(.int .i64 k5'), (.int .u8 119)] fun r34 w35 => ∃ b33 : Bool, r34 = (.bool b33) ∧ IfB b33 (CallL PP N w35 [⟨B2', e2c'.cells, T2'⟩] bH [(.int .i64 e2c'.From), (.int .i64 0), (.int .i64 1073741824)] fun r37 w38 => ∃ b36 : Bool, r37 = (.bool b36) ∧ IfB (!b36) (Reb N w38 [⟨B2', e2c'.cells, T2'⟩] fun w39 => gJ N Q versions1' B2' e2c' T2' k5' true w39) (CallL PP N w38 [⟨B2', e2c'.cells, T2'⟩] bH [(.int .i64 e2c'.Until), (.int .i64 0), (.int .i64 1073741824)] fun r41 w42 => ∃ b40 : Bool, r41 = (.bool b40) ∧ Reb N w42 [⟨B2', e2c'.cells, T2'⟩] fun w43 => gJ N Q versions1' B2' e2c' T2' k5' (!b40) w43)) (Reb N w35 [⟨B2', e2c'.cells, T2'⟩] fun w44 => gJ N Q versions1' B2' e2c' T2' k5' false w44))
noncomputable def qA (N : Nat) (Q : VP) : St → World → Prop := HG N 82 [.v 1 (.i .i64), .c 2 (.g aK), .v 5 (.i .i64), .v 8 .b] (fT N Q)
theorem aLL (N : Nat) (Q : VP) (s : St) (w : World) (h : qA N Q s w) : Snd (cy N [2]) gL (qI N Q) s w :=
  Snd.HG h fun versions1' B2' e2c' T2' k5' v8' w h => (Snd.cast (c' := .cond (.tmp 8) (cL gL) (cR gL)) (by kernel_rfl) (Snd.cond (t := v8') (by kernel_rfl) (by kernel_rfl) (fun ht => (fun h => (dsm h)) (ifb_t h ht)) (fun ht => (fun h => (sq (pR N Q) (sq (aC6 N Q) (dsm h) (aKT N Q)) (aMI N Q))) (ifb_f h ht))))
noncomputable def aMD : Code := (cR (cL (cL (cL (cR (cR (bodyOf Tryd.f58)))))))
noncomputable def aK6 (N : Nat) (Q : VP) : Cont := (thenD (qA N Q) (inBlockD 0 (thenD (jN N Q) (retD (cy N [2]) Tryd.f58 Q))))
def jT (N : Nat) (Q : VP) (versions1' : Int) (B2' : Nat) (e2c' : aC) (T2' : Nat) (k5' : Int) (v8' : Bool) (w : World) : Prop :=
  IfB v8' (Reb N w [⟨B2', e2c'.cells, T2'⟩] fun w45 => fT N Q versions1' B2' e2c' T2' k5' v8' w45) (CallL PP N w [⟨B2', e2c'.cells, T2'⟩] aX [(.int .i64 k5'), (.int .u8 101)] fun r47 w48 => ∃ b46 : Bool, r47 = (.bool b46) ∧ IfB (!b46) (Reb N w48 [⟨B2', e2c'.cells, T2'⟩] fun w49 => fT N Q versions1' B2' e2c' T2' k5' (!decide ((e2c'.Epoch : Int) = 0)) w49) (Reb N w48 [⟨B2', e2c'.cells, T2'⟩] fun w50 => fT N Q versions1' B2' e2c' T2' k5' false w50))
noncomputable def aDO (N : Nat) (Q : VP) : St → World → Prop := HG N 82 [.v 1 (.i .i64), .c 2 (.g aK), .v 5 (.i .i64), .v 8 .b] (jT N Q)
theorem aMN (N : Nat) (Q : VP) (s : St) (w : World) (h : aDO N Q s w) : Snd (cy N [2]) aMD (aK6 N Q) s w :=
  Snd.HG h fun _ _ _ _ _ _ _ h => dsm h
def pI (N : Nat) (Q : VP) (versions1' : Int) (B2' : Nat) (e2c' : aC) (T2' : Nat) (k5' : Int) (w : World) : Prop :=
  CallL PP N w [⟨B2', e2c'.cells, T2'⟩] aX [(.int .i64 k5'), (.int .u8 101)] fun r52 w53 => ∃ b51 : Bool, r52 = (.bool b51) ∧ IfB b51 (CallL PP N w53 [⟨B2', e2c'.cells, T2'⟩] bH [(.int .i64 e2c'.Epoch), (.int .i64 1), (.int .i64 1048576)] fun r55 w56 => ∃ b54 : Bool, r55 = (.bool b54) ∧ Reb N w56 [⟨B2', e2c'.cells, T2'⟩] fun w57 => jT N Q versions1' B2' e2c' T2' k5' (!b54) w57) (Reb N w53 [⟨B2', e2c'.cells, T2'⟩] fun w58 => jT N Q versions1' B2' e2c' T2' k5' false w58)
noncomputable def aC3 (N : Nat) (Q : VP) : St → World → Prop := HG N 82 [.v 1 (.i .i64), .c 2 (.g aK), .v 5 (.i .i64)] (pI N Q)
theorem aMK (N : Nat) (Q : VP) (s : St) (w : World) (h : aC3 N Q s w) : Snd (cy N [2]) (cR (cR (bodyOf Tryd.f58))) (retD (cy N [2]) Tryd.f58 Q) s w :=
  Snd.HG h fun versions1' B2' e2c' T2' k5' w h => (sq (jN N Q) (bk 0 (sq (qA N Q) (sq (aDO N Q) (dsm h) (aMN N Q)) (aLL N Q))) (aLG N Q))
def jM (N : Nat) (Q : VP) (versions1' : Int) (B2' : Nat) (e2c' : aC) (T2' : Nat) (w : World) : Prop :=
  Reb N w [⟨B2', e2c'.cells, T2'⟩] fun w59 => pI N Q versions1' B2' e2c' T2' e2c'.Kind w59
noncomputable def aDK (N : Nat) (Q : VP) : St → World → Prop := HG N 82 [.v 1 (.i .i64), .c 2 (.g aK)] (jM N Q)
theorem aKJ (N : Nat) (Q : VP) (s : St) (w : World) (h : aDK N Q s w) : Snd (cy N [2]) (cR (bodyOf Tryd.f58)) (retD (cy N [2]) Tryd.f58 Q) s w :=
  Snd.HG h fun versions1' B2' e2c' T2' w h => (sq (aC3 N Q) (dsm h) (aMK N Q))
def vY (N : Nat) (e0 : aC) (versions1 : Int) (Q : VP) (w : World) : Prop :=
  ∀ b60 : Nat, w.heap.size ≤ b60 → Reb N w [⟨b60, e0.cells, aD⟩] fun w61 => jM N Q versions1 b60 e0 aD w61
theorem aME (N : Nat) (e0 : aC) (versions1 : Int) (Q : VP) (w : World) (h : vY N e0 versions1 Q w) : Snd (cy N [2]) (bodyOf Tryd.f58) (retD (cy N [2]) Tryd.f58 Q) (entry 82 [(.agg (List.toArray e0.cells)), (.int .i64 versions1)]) w :=
  (sq (aDK N Q) (dsm h) (aKJ N Q))
theorem aI8 (e0 : aC) (versions1 : Int) (Q : VP) (w : World) (h : vY w.heap.size e0 versions1 Q w) : Calls PP vZ [(.agg (List.toArray e0.cells)), (.int .i64 versions1)].toArray w fun e w' => ∃ v, e = .returned v ∧ Q v w' :=
  calls_of (C := cy w.heap.size [2]) (fn := Tryd.f58) (c := (bodyOf Tryd.f58)) (by kernel_rfl) (by kernel_rfl) (Nat.le_refl _) (aME _ e0 versions1 Q w h)
def aE1 (N : Nat) (n0 : Int) (low1 : Int) (high2 : Int) (Q : VP) (w : World) : Prop :=
  IfB (decide ((low1 : Int) ≤ n0)) (Reb N w [] (Q (.bool (decide ((n0 : Int) ≤ high2))))) (Reb N w [] (Q (.bool false)))
theorem aVS (N : Nat) (n0 : Int) (low1 : Int) (high2 : Int) (Q : VP) (w : World) (h : aE1 N n0 low1 high2 Q w) : Snd (cy N []) (bodyOf Tryd.f56) (retD (cy N []) Tryd.f56 Q) (entry 15 [(.int .i64 n0), (.int .i64 low1), (.int .i64 high2)]) w :=
  (dsm h)
theorem aS3 (n0 : Int) (low1 : Int) (high2 : Int) (Q : VP) (w : World) (h : aE1 w.heap.size n0 low1 high2 Q w) : Calls PP bH [(.int .i64 n0), (.int .i64 low1), (.int .i64 high2)].toArray w fun e w' => ∃ v, e = .returned v ∧ Q v w' :=
  calls_of (C := cy w.heap.size []) (fn := Tryd.f56) (c := (bodyOf Tryd.f56)) (by kernel_rfl) (by kernel_rfl) (Nat.le_refl _) (aVS _ n0 low1 high2 Q w h)
end Go.Sh
