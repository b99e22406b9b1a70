/- Contracts of the entries' tests: small functions.
   Conditions: none. -/
import Derived.Test.YtoenaheehpjmiaaLib6
import Derived.Test.YtoenaheehpjmiaaElem
import Derived.Test.YtoenaheehpjmiaaFA
namespace Go.Sh
open Go
set_option linter.unusedSimpArgs false
set_option linter.unusedVariables false
set_option maxHeartbeats 4000000

abbrev noB : Nat → Prop := fun _ => False
theorem mem_blk_cons {b : Nat} {l : LB} {L : List LB} : b ∈ blk (l :: L) ↔ b = l.b ∨ b ∈ blk L := by simp [blk]
theorem mem_blk_nil {b : Nat} : b ∈ blk [] ↔ False := by simp [blk]
theorem Blk.tr {S : Nat → Prop} {w w' : World} {b : Nat} {cs : List Value} {T : TypeId} (h : Blk w b cs T) (t : Touch S w w') (hd : ∀ c, c = b → ¬ S c) : Blk w' b cs T := h.touch t (hd b rfl)
theorem Now.mono {S S' : Nat → Prop} {a b : World} (h : Now S a b) (hs : ∀ i, i < a.heap.size → S i → S' i) : Now S' a b := ⟨h.t.mono hs⟩

def inM (n a b : Int) : Bool := decide (a ≤ n ∧ n ≤ b)
def idxM (n s : Int) : Bool := decide (0 ≤ n ∧ n < s)

theorem entry_index_spec (n s : Int) (w : World) : Spec PP n_entry_index [.int .i64 n, .int .i64 s] w noB (fun v _ => v = .bool (idxM n s)) := by
  refine entry_index_calls n s _ w ?_
  unfold F_entry_index
  have T : Now noB w w := Now.refl
  repeat' first
    | refine Reb.val (by assumption) (Nat.le_refl _) ?_
    | with_reducible refine ifbd (fun h => ?_) (fun h => ?_)
    | with_reducible refine ifbnd (fun h => ?_) (fun h => ?_)
    | with_reducible refine ifbn (fun h => ?_) (fun h => ?_)
    | refine ifb (fun h => ?_) (fun h => ?_)
  all_goals grind [idxM]

theorem entry_between_spec (n a b : Int) (w : World) : Spec PP n_entry_between [.int .i64 n, .int .i64 a, .int .i64 b] w noB (fun v _ => v = .bool (inM n a b)) := by
  refine entry_between_calls n a b _ w ?_
  unfold F_entry_between
  have T : Now noB w w := Now.refl
  repeat' first
    | refine Reb.val (by assumption) (Nat.le_refl _) ?_
    | with_reducible refine ifbd (fun h => ?_) (fun h => ?_)
    | with_reducible refine ifbnd (fun h => ?_) (fun h => ?_)
    | with_reducible refine ifbn (fun h => ?_) (fun h => ?_)
    | refine ifb (fun h => ?_) (fun h => ?_)
  all_goals grind [inM]

theorem ref06_in_spec (n a b : Int) (w : World) : Spec PP n_cellplaneref06_in [.int .i64 n, .int .i64 a, .int .i64 b] w noB (fun v _ => v = .bool (inM n a b)) := by
  refine cellplaneref06_in_calls n a b _ w ?_
  unfold F_cellplaneref06_in
  have T : Now noB w w := Now.refl
  repeat' first
    | refine Reb.val (by assumption) (Nat.le_refl _) ?_
    | with_reducible refine ifbd (fun h => ?_) (fun h => ?_)
    | with_reducible refine ifbnd (fun h => ?_) (fun h => ?_)
    | with_reducible refine ifbn (fun h => ?_) (fun h => ?_)
    | refine ifb (fun h => ?_) (fun h => ?_)
  all_goals grind [inM]

def modM (v n : Int) : Int := Int.tmod (Int.tmod v n + n) n
theorem modM_range {v n : Int} (h : 1 ≤ n) : 0 ≤ modM v n ∧ modM v n < n := by
  unfold modM
  have h1 : -n < Int.tmod v n := by
    have := Int.tmod_lt_of_pos (-v) (show 0 < n by omega)
    rw [Int.neg_tmod] at this
    omega
  exact ⟨Int.tmod_nonneg _ (by omega), Int.tmod_lt_of_pos _ (by omega)⟩

theorem make_Mod_spec {v n : Int} (h : 1 ≤ n) (h' : n ≤ 4611686018427387904) (w : World) : Spec PP n_cellplanemake_Mod [.int .i64 v, .int .i64 n] w noB (fun r _ => r = .int .i64 (modM v n)) := by
  refine cellplanemake_Mod_calls v n _ w ?_
  unfold F_cellplanemake_Mod
  have T : Now noB w w := Now.refl
  have h1 := Int.tmod_lt_of_pos v (show 0 < n by omega)
  have h2 : -n < Int.tmod v n := by
    have := Int.tmod_lt_of_pos (-v) (show 0 < n by omega)
    rw [Int.neg_tmod] at this
    omega
  refine ⟨by omega, by omega, Reb.val T (Nat.le_refl _) ?_⟩
  rw [wrap_i64 (by omega) (by omega)]
  rfl

def betM (v a b : Int) : Int := a + modM v (b - a + 1)
theorem betM_range {v a b : Int} (h : a ≤ b) : a ≤ betM v a b ∧ betM v a b ≤ b := by
  unfold betM
  have := modM_range (v := v) (n := b - a + 1) (by omega)
  omega

theorem make_Between_spec {v a b : Int} (h : a ≤ b) (h1 : -1000000000 ≤ a) (h2 : b ≤ 1000000000) (w : World) : Spec PP n_cellplanemake_Between [.int .i64 v, .int .i64 a, .int .i64 b] w noB (fun r _ => r = .int .i64 (betM v a b)) := by
  refine cellplanemake_Between_calls v a b _ w ?_
  unfold F_cellplanemake_Between
  have T : Now noB w w := Now.refl
  rw [wrap_i64 (x := b - a) (by omega) (by omega), wrap_i64 (x := b - a + 1) (by omega) (by omega)]
  refine CallL.vA T Anc.nil (fun wa _ _ => make_Mod_spec (by omega) (by omega) wa) (fun w1 T t => ⟨_, rfl, ?_⟩)
  have := modM_range (v := v) (n := b - a + 1) (by omega)
  rw [wrap_i64 (by omega) (by omega)]
  exact Reb.A T Anc.nil (fun w2 T t => ⟨T.t, rfl⟩)

def spoilM (e : G_api_Entry) (which by_ : Int) : G_api_Entry :=
  let m := modM which 9
  if m = 0 then { e with Kind := by_ } else if m = 1 then { e with Tick := by_ } else if m = 2 then { e with Tenant := by_ } else if m = 3 then { e with Cell := by_ } else if m = 4 then { e with Other := by_ }
  else if m = 5 then { e with Epoch := by_ } else if m = 6 then { e with From := by_ } else if m = 7 then { e with Until := by_ } else { e with N := by_ }

theorem make_Spoilt_spec (e : G_api_Entry) (which by_ : Int) (w : World) : Spec PP n_cellplanemake_Spoilt [.agg (List.toArray e.cells), .int .i64 which, .int .i64 by_] w noB (fun v _ => v = .agg (List.toArray (spoilM e which by_).cells)) := by
  refine cellplanemake_Spoilt_calls e which by_ _ w ?_
  unfold F_cellplanemake_Spoilt
  have T : Now noB w w := Now.refl
  intro b1 l1 b2 l2
  refine CallL.vA T Anc.start (fun wa _ _ => make_Mod_spec (by omega) (by omega) wa) (fun w1 T t => ⟨_, rfl, ?_⟩)
  repeat' first
    | exact Reb.A T Anc.start (fun w2 T t => ⟨T.t, by simp [spoilM, *]⟩)
    | refine ifbd (fun h => ?_) (fun h => ?_)

/-! ### what a kind uses -/
def usesL : List ByteArray := [⟨#[]⟩, ⟨#[116, 99, 111]⟩, ⟨#[116, 99, 101, 119, 118]⟩, ⟨#[116, 101]⟩, ⟨#[116, 67]⟩, ⟨#[116, 99]⟩, ⟨#[116, 99]⟩, ⟨#[116]⟩, ⟨#[116, 98]⟩, ⟨#[99, 109]⟩, ⟨#[99, 118]⟩, ⟨#[99, 118]⟩, ⟨#[118]⟩, ⟨#[114, 98]⟩, ⟨#[]⟩, ⟨#[]⟩, ⟨#[110]⟩]
def usesM (k : Int) : ByteArray := if 1 ≤ k ∧ k ≤ 16 then usesL.getD k.toNat ⟨#[]⟩ else ⟨#[63]⟩
abbrev strC : ByteArray → List Value := fun s => [.string s]
theorem strC_len (s : ByteArray) : (strC s).length = 1 := rfl

theorem Blk.one {α : Type} {c : α → List Value} {k : Nat} (hk : ∀ x, (c x).length = k) {w : World} {b : Nat} {T : TypeId} {xs : List α} (h : Blk w b (xs.flatMap c) T) {i : Nat} {x : α} (hx : xs[i]? = some x) : At w ((⟨b, 0, none⟩ : Addr).add (i * k)) (c x) := by
  rw [add_plain]
  have := Blk.elem hk (pre := []) (post := []) (w := w) (b := b) (T := T) (xs := xs) (by simpa using h) hx
  simpa using this

theorem ref06_uses_spec (k : Int) (w : World) : Spec PP n_cellplaneref06_uses [.int .i64 k] w noB (fun v _ => v = .string (usesM k)) := by
  refine cellplaneref06_uses_calls k _ w ?_
  unfold F_cellplaneref06_uses
  have T : Now noB w w := Now.refl
  refine NewL.A T Anc.nil (fun b1 w1 T t h1 l1 => ?_)
  have h1' : Blk w1 b1 (usesL.flatMap strC) t_string := h1
  refine ifbd (fun h => ?_) (fun h => ?_)
  · exact Reb.A T Anc.nil (fun w2 T t => ⟨T.t, by simp [usesM]; omega⟩)
  refine ifbd (fun h' => ?_) (fun h' => ?_)
  · exact Reb.A T Anc.nil (fun w2 T t => ⟨T.t, by simp [usesM]; omega⟩)
  have hlen : usesL.length = 17 := rfl
  have hx : usesL[k.toNat]? = some (usesL.getD k.toNat ⟨#[]⟩) := by
    rw [List.getElem?_eq_getElem (by omega), List.getD_eq_getElem?_getD, List.getElem?_eq_getElem (by omega)]; rfl
  refine ⟨by omega, by omega, _, Blk.one strC_len h1' hx, notIn_nil, ?_⟩
  exact Reb.A T Anc.nil (fun w2 T t => ⟨T.t, by rw [usesM, if_pos ⟨by omega, by omega⟩]⟩)

def hasM (k c : Int) : Bool := (List.range (usesM k).size).any fun i => decide (bt (usesM k) i = c)

theorem ref06_has_spec (k c : Int) (w : World) : Spec PP n_cellplaneref06_has [.int .i64 k, .int .u8 c] w noB (fun v _ => v = .bool (hasM k c)) := by
  refine cellplaneref06_has_calls k c _ w ?_
  unfold F_cellplaneref06_has
  have T : Now noB w w := Now.refl
  refine Reb.A T Anc.nil (fun w1 T _ => ?_)
  unfold C_cellplaneref06_has_1
  refine CallL.vA T Anc.nil (fun wa _ _ => ref06_uses_spec k wa) (fun w2 T _ => ⟨_, rfl, ?_⟩)
  refine Reb.A T Anc.nil (fun w3 T _ => ?_)
  unfold C_cellplaneref06_has_2
  refine Reb.A T Anc.nil (fun w4 T _ => ?_)
  unfold C_cellplaneref06_has_4
  have hsz : (usesM k).size ≤ 100 := by
    unfold usesM
    split
    · have : k.toNat = 0 ∨ k.toNat = 1 ∨ k.toNat = 2 ∨ k.toNat = 3 ∨ k.toNat = 4 ∨ k.toNat = 5 ∨ k.toNat = 6 ∨ k.toNat = 7 ∨ k.toNat = 8 ∨ k.toNat = 9 ∨ k.toNat = 10 ∨ k.toNat = 11 ∨ k.toNat = 12 ∨ k.toNat = 13 ∨ k.toNat = 14 ∨ k.toNat = 15 ∨ k.toNat = 16 := by omega
      rcases this with h | h | h | h | h | h | h | h | h | h | h | h | h | h | h | h | h <;> rw [h] <;> decide
    · decide
  refine LoopC.mk (fun x w' => ∃ m : Nat, x = (m : Int) ∧ m ≤ (usesM k).size ∧ Now noB w w' ∧ (∀ j, j < m → bt (usesM k) j ≠ c)) (fun x => (usesM k).size - x.toNat) ?_ ?_
  · exact Reb.A T Anc.nil (fun w5 T _ => ⟨0, rfl, Nat.zero_le _, T, fun j hj => by omega⟩)
  rintro x wb ⟨m, rfl, hm, T, hall⟩
  unfold L_cellplaneref06_has_5
  dsimp only
  unfold B_cellplaneref06_has_5
  refine ifbd (fun h1 => ?_) (fun h1 => ?_)
  · refine ⟨by omega, by omega, ?_⟩
    rw [Int.toNat_natCast]
    refine ifbd (fun h2 => ?_) (fun h2 => ?_)
    · refine Reb.A T Anc.nil (fun w5 T _ => ⟨T.t, ?_⟩)
      have : hasM k c = true := by
        unfold hasM
        rw [List.any_eq_true]
        exact ⟨m, by simp; omega, by simp [h2]⟩
      rw [this]
    · have step : IntKind.i64.wrap ((m : Int) + 1) = ((m + 1 : Nat) : Int) := by rw [wrap_i64 (by omega) (by omega)]; simp
      refine Reb.A T Anc.nil (fun w5 T _ => ⟨rfl, ⟨m + 1, step, by omega, T, fun j hj => ?_⟩, by rw [step]; omega⟩)
      rcases Nat.lt_or_ge j m with h' | h'
      · exact hall j h'
      · have : j = m := by omega
        subst this; exact h2
  · refine Reb.A T Anc.nil (fun w5 T _ => ?_)
    unfold C_cellplaneref06_has_3
    refine Reb.A T Anc.nil (fun w6 T _ => ⟨T.t, ?_⟩)
    have : hasM k c = false := by
      unfold hasM
      rw [List.any_eq_false]
      intro j hj
      simp at hj
      simp [hall j (by omega)]
    rw [this]

end Go.Sh
