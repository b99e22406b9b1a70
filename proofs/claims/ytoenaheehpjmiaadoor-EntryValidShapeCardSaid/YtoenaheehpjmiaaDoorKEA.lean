/- A part of the proof (printed smaller by a program of ours). Conditions: none. -/
import Derived.Test.YtoenaheehpjmiaaDoorKL
import Derived.Test.YtoenaheehpjmiaaDoorKElem
import Derived.Test.YtoenaheehpjmiaaDoorKP0
import Derived.Test.YtoenaheehpjmiaaDoorKP1
import Derived.Test.YtoenaheehpjmiaaDoorKP2
import Derived.Test.YtoenaheehpjmiaaDoorKP3
import Derived.Test.YtoenaheehpjmiaaDoorKP4
import Derived.Test.YtoenaheehpjmiaaDoorKP5
import Derived.Test.YtoenaheehpjmiaaDoorKP6
import Derived.Test.YtoenaheehpjmiaaDoorKP7
namespace Go.Sh
open Go
set_option linter.unusedSimpArgs false
set_option linter.unusedVariables false
set_option maxHeartbeats 4000000
abbrev noB : Nat → Prop := fun _ => False
theorem a1V {b : Nat} {l : LB} {L : List LB} : b ∈ blk (l :: L) ↔ b = l.b ∨ b ∈ blk L := by simp [blk]
theorem a2G {b : Nat} : b ∈ blk [] ↔ False := by simp [blk]
theorem Blk.tr {S : Nat → Prop} {w w' : World} {b : Nat} {cs : List Value} {T : TypeId} (h : Blk w b cs T) (t : Touch S w w') (hd : ∀ c, c = b → ¬ S c) : Blk w' b cs T := h.touch t (hd b rfl)
theorem Now.mono {S S' : Nat → Prop} {a b : World} (h : Now S a b) (hs : ∀ i, i < a.heap.size → S i → S' i) : Now S' a b := ⟨h.t.mono hs⟩
def inM (n a b : Int) : Bool := decide (a ≤ n ∧ n ≤ b)
def idxM (n s : Int) : Bool := decide (0 ≤ n ∧ n < s)
theorem aDZ (n s : Int) (w : World) : Spec PP o9 [.int .i64 n, .int .i64 s] w noB (fun v _ => v = .bool (idxM n s)) := by
  refine aW5 n s _ w ?_
  unfold aP1
  have T : Now noB w w := Now.refl
  repeat' first
    | refine Reb.val (by assumption) (Nat.le_refl _) ?_
    | with_reducible refine ifbd (fun h => ?_) (fun h => ?_)
    | with_reducible refine ifbnd (fun h => ?_) (fun h => ?_)
    | with_reducible refine ifbn (fun h => ?_) (fun h => ?_)
    | refine ifb (fun h => ?_) (fun h => ?_)
  all_goals grind [idxM]
theorem aAJ (n a b : Int) (w : World) : Spec PP oD [.int .i64 n, .int .i64 a, .int .i64 b] w noB (fun v _ => v = .bool (inM n a b)) := by
  refine aWB n a b _ w ?_
  unfold aI9
  have T : Now noB w w := Now.refl
  repeat' first
    | refine Reb.val (by assumption) (Nat.le_refl _) ?_
    | with_reducible refine ifbd (fun h => ?_) (fun h => ?_)
    | with_reducible refine ifbnd (fun h => ?_) (fun h => ?_)
    | with_reducible refine ifbn (fun h => ?_) (fun h => ?_)
    | refine ifb (fun h => ?_) (fun h => ?_)
  all_goals grind [inM]
theorem aID (n a b : Int) (w : World) : Spec PP bH [.int .i64 n, .int .i64 a, .int .i64 b] w noB (fun v _ => v = .bool (inM n a b)) := by
  refine aS3 n a b _ w ?_
  unfold aE1
  have T : Now noB w w := Now.refl
  repeat' first
    | refine Reb.val (by assumption) (Nat.le_refl _) ?_
    | with_reducible refine ifbd (fun h => ?_) (fun h => ?_)
    | with_reducible refine ifbnd (fun h => ?_) (fun h => ?_)
    | with_reducible refine ifbn (fun h => ?_) (fun h => ?_)
    | refine ifb (fun h => ?_) (fun h => ?_)
  all_goals grind [inM]
def modM (v n : Int) : Int := Int.tmod (Int.tmod v n + n) n
theorem aWI {v n : Int} (h : 1 ≤ n) : 0 ≤ modM v n ∧ modM v n < n := by
  unfold modM
  have h1 : -n < Int.tmod v n := by
    have := Int.tmod_lt_of_pos (-v) (show 0 < n by omega)
    rw [Int.neg_tmod] at this
    omega
  exact ⟨Int.tmod_nonneg _ (by omega), Int.tmod_lt_of_pos _ (by omega)⟩
theorem aIE {v n : Int} (h : 1 ≤ n) (h' : n ≤ 4611686018427387904) (w : World) : Spec PP jY [.int .i64 v, .int .i64 n] w noB (fun r _ => r = .int .i64 (modM v n)) := by
  refine aRX v n _ w ?_
  unfold aE2
  have T : Now noB w w := Now.refl
  have h1 := Int.tmod_lt_of_pos v (show 0 < n by omega)
  have h2 : -n < Int.tmod v n := by
    have := Int.tmod_lt_of_pos (-v) (show 0 < n by omega)
    rw [Int.neg_tmod] at this
    omega
  refine ⟨by omega, by omega, Reb.val T (Nat.le_refl _) ?_⟩
  rw [wrap_i64 (by omega) (by omega)]
  rfl
def betM (v a b : Int) : Int := a + modM v (b - a + 1)
theorem a0T {v a b : Int} (h : a ≤ b) : a ≤ betM v a b ∧ betM v a b ≤ b := by
  unfold betM
  have := aWI (v := v) (n := b - a + 1) (by omega)
  omega
theorem aHO {v a b : Int} (h : a ≤ b) (h1 : -1000000000 ≤ a) (h2 : b ≤ 1000000000) (w : World) : Spec PP dZ [.int .i64 v, .int .i64 a, .int .i64 b] w noB (fun r _ => r = .int .i64 (betM v a b)) := by
  refine aJN v a b _ w ?_
  unfold yE
  have T : Now noB w w := Now.refl
  rw [wrap_i64 (x := b - a) (by omega) (by omega), wrap_i64 (x := b - a + 1) (by omega) (by omega)]
  refine CallL.vA T Anc.nil (fun wa _ _ => aIE (by omega) (by omega) wa) (fun w1 T t => ⟨_, rfl, ?_⟩)
  have := aWI (v := v) (n := b - a + 1) (by omega)
  rw [wrap_i64 (by omega) (by omega)]
  exact Reb.A T Anc.nil (fun w2 T t => ⟨T.t, rfl⟩)
def a0H (e : aC) (which by_ : Int) : aC :=
  let m := modM which 9
  if m = 0 then { e with Kind := by_ } else if m = 1 then { e with Tick := by_ } else if m = 2 then { e with Tenant := by_ } else if m = 3 then { e with Cell := by_ } else if m = 4 then { e with Other := by_ }
  else if m = 5 then { e with Epoch := by_ } else if m = 6 then { e with From := by_ } else if m = 7 then { e with Until := by_ } else { e with N := by_ }
theorem yD (e : aC) (which by_ : Int) (w : World) : Spec PP bQ [.agg (List.toArray e.cells), .int .i64 which, .int .i64 by_] w noB (fun v _ => v = .agg (List.toArray (a0H e which by_).cells)) := by
  refine aLO e which by_ _ w ?_
  unfold aAK
  have T : Now noB w w := Now.refl
  intro b1 l1 b2 l2
  refine CallL.vA T Anc.start (fun wa _ _ => aIE (by omega) (by omega) wa) (fun w1 T t => ⟨_, rfl, ?_⟩)
  repeat' first
    | exact Reb.A T Anc.start (fun w2 T t => ⟨T.t, by simp [a0H, *]⟩)
    | refine ifbd (fun h => ?_) (fun h => ?_)
def a0I : List ByteArray := [⟨#[]⟩, ⟨#[116, 99, 111]⟩, ⟨#[116, 99, 101, 119, 118]⟩, ⟨#[116, 101]⟩, ⟨#[116, 67]⟩, ⟨#[116, 99]⟩, ⟨#[116, 99]⟩, ⟨#[116]⟩, ⟨#[116, 98]⟩, ⟨#[99, 109]⟩, ⟨#[99, 118]⟩, ⟨#[99, 118]⟩, ⟨#[118]⟩, ⟨#[114, 98]⟩, ⟨#[]⟩, ⟨#[]⟩, ⟨#[110]⟩]
def aWA (k : Int) : ByteArray := if 1 ≤ k ∧ k ≤ 16 then a0I.getD k.toNat ⟨#[]⟩ else ⟨#[63]⟩
abbrev strC : ByteArray → List Value := fun s => [.string s]
theorem aZE (s : ByteArray) : (strC s).length = 1 := rfl
theorem Blk.one {α : Type} {c : α → List Value} {k : Nat} (hk : ∀ x, (c x).length = k) {w : World} {b : Nat} {T : TypeId} {xs : List α} (h : Blk w b (xs.flatMap c) T) {i : Nat} {x : α} (hx : xs[i]? = some x) : At w ((⟨b, 0, none⟩ : Addr).add (i * k)) (c x) := by
  rw [add_plain]
  have := Blk.elem hk (pre := []) (post := []) (w := w) (b := b) (T := T) (xs := xs) (by simpa using h) hx
  simpa using this
theorem aYI (k : Int) (w : World) : Spec PP aBF [.int .i64 k] w noB (fun v _ => v = .string (aWA k)) := by
  refine aN0 k _ w ?_
  unfold aBQ
  have T : Now noB w w := Now.refl
  refine NewL.A T Anc.nil (fun b1 w1 T t h1 l1 => ?_)
  have h1' : Blk w1 b1 (a0I.flatMap strC) aFS := h1
  refine ifbd (fun h => ?_) (fun h => ?_)
  · exact Reb.A T Anc.nil (fun w2 T t => ⟨T.t, by simp [aWA]; omega⟩)
  refine ifbd (fun h' => ?_) (fun h' => ?_)
  · exact Reb.A T Anc.nil (fun w2 T t => ⟨T.t, by simp [aWA]; omega⟩)
  have hlen : a0I.length = 17 := rfl
  have hx : a0I[k.toNat]? = some (a0I.getD k.toNat ⟨#[]⟩) := by
    rw [List.getElem?_eq_getElem (by omega), List.getD_eq_getElem?_getD, List.getElem?_eq_getElem (by omega)]; rfl
  refine ⟨by omega, by omega, _, Blk.one aZE h1' hx, notIn_nil, ?_⟩
  exact Reb.A T Anc.nil (fun w2 T t => ⟨T.t, by rw [aWA, if_pos ⟨by omega, by omega⟩]⟩)
def hasM (k c : Int) : Bool := (List.range (aWA k).size).any fun i => decide (bt (aWA k) i = c)
theorem aV6 (k c : Int) (w : World) : Spec PP aX [.int .i64 k, .int .u8 c] w noB (fun v _ => v = .bool (hasM k c)) := by
  refine aQ8 k c _ w ?_
  unfold aDN
  have T : Now noB w w := Now.refl
  refine Reb.A T Anc.nil (fun w1 T _ => ?_)
  unfold zJ
  refine CallL.vA T Anc.nil (fun wa _ _ => aYI k wa) (fun w2 T _ => ⟨_, rfl, ?_⟩)
  refine Reb.A T Anc.nil (fun w3 T _ => ?_)
  unfold zN
  refine Reb.A T Anc.nil (fun w4 T _ => ?_)
  unfold aAX
  have hsz : (aWA k).size ≤ 100 := by
    unfold aWA
    split
    · have : k.toNat = 0 ∨ k.toNat = 1 ∨ k.toNat = 2 ∨ k.toNat = 3 ∨ k.toNat = 4 ∨ k.toNat = 5 ∨ k.toNat = 6 ∨ k.toNat = 7 ∨ k.toNat = 8 ∨ k.toNat = 9 ∨ k.toNat = 10 ∨ k.toNat = 11 ∨ k.toNat = 12 ∨ k.toNat = 13 ∨ k.toNat = 14 ∨ k.toNat = 15 ∨ k.toNat = 16 := by omega
      rcases this with h | h | h | h | h | h | h | h | h | h | h | h | h | h | h | h | h <;> rw [h] <;> decide
    · decide
  refine LoopC.mk (fun x w' => ∃ m : Nat, x = (m : Int) ∧ m ≤ (aWA k).size ∧ Now noB w w' ∧ (∀ j, j < m → bt (aWA k) j ≠ c)) (fun x => (aWA k).size - x.toNat) ?_ ?_
  · exact Reb.A T Anc.nil (fun w5 T _ => ⟨0, rfl, Nat.zero_le _, T, fun j hj => by omega⟩)
  rintro x wb ⟨m, rfl, hm, T, hall⟩
  unfold aAR
  dsimp only
  unfold aAW
  refine ifbd (fun h1 => ?_) (fun h1 => ?_)
  · refine ⟨by omega, by omega, ?_⟩
    rw [Int.toNat_natCast]
    refine ifbd (fun h2 => ?_) (fun h2 => ?_)
    · refine Reb.A T Anc.nil (fun w5 T _ => ⟨T.t, ?_⟩)
      have : hasM k c = true := by
        unfold hasM
        rw [List.any_eq_true]
        exact ⟨m, by simp; omega, by simp [h2]⟩
      rw [this]
    · have step : IntKind.i64.wrap ((m : Int) + 1) = ((m + 1 : Nat) : Int) := by rw [wrap_i64 (by omega) (by omega)]; simp
      refine Reb.A T Anc.nil (fun w5 T _ => ⟨rfl, ⟨m + 1, step, by omega, T, fun j hj => ?_⟩, by rw [step]; omega⟩)
      rcases Nat.lt_or_ge j m with h' | h'
      · exact hall j h'
      · have : j = m := by omega
        subst this; exact h2
  · refine Reb.A T Anc.nil (fun w5 T _ => ?_)
    unfold zR
    refine Reb.A T Anc.nil (fun w6 T _ => ⟨T.t, ?_⟩)
    have : hasM k c = false := by
      unfold hasM
      rw [List.any_eq_false]
      intro j hj
      simp at hj
      simp [hall j (by omega)]
    rw [this]
def vW : List ByteArray := [⟨#[112, 108, 97, 99, 101]⟩, ⟨#[103, 114, 97, 110, 116]⟩, ⟨#[99, 117, 116]⟩, ⟨#[115, 116, 97, 110, 100, 98, 121]⟩, ⟨#[114, 101, 97, 100, 121]⟩, ⟨#[109, 105, 103, 114, 97, 116, 101]⟩, ⟨#[97, 98, 97, 110, 100, 111, 110]⟩, ⟨#[115, 104, 101, 100]⟩, ⟨#[109, 111, 100, 101]⟩, ⟨#[119, 97, 110, 116]⟩, ⟨#[114, 117, 110, 115]⟩, ⟨#[112, 114, 111, 118, 101]⟩, ⟨#[101, 118, 97, 99, 117, 97, 116, 101]⟩, ⟨#[101, 120, 112, 97, 110, 100]⟩, ⟨#[99, 111, 110, 116, 114, 97, 99, 116]⟩, ⟨#[110, 111, 116, 101]⟩]
def aV5 (k : Int) : ByteArray := if 1 ≤ k ∧ k ≤ 16 then vW.getD (k - 1).toNat ⟨#[]⟩ else ⟨#[]⟩
def aIF (w : World) : Prop := 0 < w.heap.size ∧ At w ⟨0, 0, none⟩ (vW.flatMap strC)
theorem aIF.now {w w' : World} (h : aIF w) (T : Now noB w w') : aIF w' := ⟨Nat.lt_of_lt_of_le h.1 T.t.size, h.2.touch T.t (by simp)⟩
theorem aU9 {k : Int} (h1 : -9223372036854775808 ≤ k) (h2 : k ≤ 9223372036854775807) {w : World} (hN : aIF w) : Spec PP aJ5 [.int .i64 k] w noB (fun v _ => v = .string (aV5 k)) := by
  refine aXP k _ w ?_
  unfold aUB
  have T : Now noB w w := Now.refl
  refine CallL.vA T Anc.nil (fun wa _ _ => aDZ _ _ wa) (fun w1 T _ => ⟨_, rfl, ?_⟩)
  refine ifbn (fun h => ?_) (fun h => ?_)
  · refine Reb.A T Anc.nil (fun w2 T _ => ⟨T.t, ?_⟩)
    have : ¬ (1 ≤ k ∧ k ≤ 16) := by
      intro hk
      rw [wrap_i64 (by omega) (by omega)] at h
      simp [idxM] at h
      omega
    rw [aV5, if_neg this]
  · have hw : 0 ≤ IntKind.i64.wrap (k - 1) ∧ IntKind.i64.wrap (k - 1) < 16 := by simpa [idxM] using h
    have hk : 1 ≤ k ∧ k ≤ 16 := by
      by_cases hm : k = -9223372036854775808
      · subst hm
        simp [IntKind.wrap, IntKind.signed, IntKind.bits] at hw
      · rw [wrap_i64 (by omega) (by omega)] at hw; omega
    rw [wrap_i64 (by omega) (by omega)]
    have hlen : vW.length = 16 := rfl
    have hx : vW[(k - 1).toNat]? = some (vW.getD (k - 1).toNat ⟨#[]⟩) := by
      rw [List.getElem?_eq_getElem (by omega), List.getD_eq_getElem?_getD, List.getElem?_eq_getElem (by omega)]; rfl
    refine ⟨by omega, by omega, vW.getD (k - 1).toNat ⟨#[]⟩, (hN.now T).2.part ((k - 1).toNat * 1) 1 ?_, notIn_nil, ?_⟩
    · exact flat_at aZE hx
    · exact Reb.A T Anc.nil (fun w2 T _ => ⟨T.t, by rw [aV5, if_pos hk]⟩)
theorem a09 (k : Int) (w : World) : Spec PP aH2 [.int .i64 k] w noB (fun v _ => v = .string (aV5 k)) := by
  refine aM3 k _ w ?_
  unfold aBL
  have T : Now noB w w := Now.refl
  refine NewL.A T Anc.nil (fun b1 w1 T t h1 l1 => ?_)
  have h1' : Blk w1 b1 (((⟨#[]⟩ : ByteArray) :: vW).flatMap strC) aFS := h1
  refine ifbd (fun h => ?_) (fun h => ?_)
  · exact Reb.A T Anc.nil (fun w2 T t => ⟨T.t, by simp [aV5]; omega⟩)
  refine ifbd (fun h' => ?_) (fun h' => ?_)
  · exact Reb.A T Anc.nil (fun w2 T t => ⟨T.t, by simp [aV5]; omega⟩)
  have hlen : vW.length = 16 := rfl
  have hx : ((⟨#[]⟩ : ByteArray) :: vW)[k.toNat]? = some (vW.getD (k - 1).toNat ⟨#[]⟩) := by
    have e : k.toNat = (k - 1).toNat + 1 := by omega
    rw [e, List.getElem?_cons_succ, List.getElem?_eq_getElem (by omega), List.getD_eq_getElem?_getD, List.getElem?_eq_getElem (by omega)]; rfl
  refine ⟨by omega, by omega, _, Blk.one aZE h1' hx, notIn_nil, ?_⟩
  exact Reb.A T Anc.nil (fun w2 T t => ⟨T.t, by rw [aV5, if_pos ⟨by omega, by omega⟩]⟩)
end Go.Sh
