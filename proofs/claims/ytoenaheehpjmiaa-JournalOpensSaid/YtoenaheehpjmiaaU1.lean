/- Frames, records and what a journal remembers: the plain law.
   Conditions: none. -/
import Derived.Test.YtoenaheehpjmiaaEP1
import Derived.Test.YtoenaheehpjmiaaEB
namespace Go.Sh
open Go
set_option linter.unusedSimpArgs false
set_option linter.unusedVariables false

/-! ### eight bytes -/
def eightM (h : Nat) : List UInt8 := [UInt8.ofNat h, UInt8.ofNat (h / 256), UInt8.ofNat (h / 65536), UInt8.ofNat (h / 16777216), UInt8.ofNat (h / 4294967296), UInt8.ofNat (h / 1099511627776), UInt8.ofNat (h / 281474976710656), UInt8.ofNat (h / 72057594037927936)]
def numM : List UInt8 → Nat
  | [] => 0
  | c :: r => c.toNat + 256 * numM r
theorem eightM_len (h : Nat) : (eightM h).length = 8 := rfl
theorem numM_eight {h : Nat} (hh : h < 18446744073709551616) : numM (eightM h) = h := by
  simp only [eightM, numM, UInt8.toNat_ofNat']
  omega
theorem ofNat_mod {x : UInt8} {n : Nat} (h : n % 256 = x.toNat) : UInt8.ofNat n = x := by
  apply UInt8.toNat_inj.1
  rw [UInt8.toNat_ofNat']
  exact h
theorem num_mod {a r : Nat} (h : a < 256) : (a + 256 * r) % 256 = a ∧ (a + 256 * r) / 256 = r := by omega
theorem eight_numM {bs : List UInt8} (h : bs.length = 8) : eightM (numM bs) = bs := by
  match bs, h with
  | [a, b, c, d, e, f, g, i], _ =>
    have ha := a.toNat_lt; have hb := b.toNat_lt; have hc := c.toNat_lt; have hd := d.toNat_lt
    have he := e.toNat_lt; have hf := f.toNat_lt; have hg := g.toNat_lt; have hi := i.toNat_lt
    have r1 : ∀ (x : UInt8) (l : List UInt8), numM (x :: l) % 256 = x.toNat ∧ numM (x :: l) / 256 = numM l := fun x l => num_mod x.toNat_lt
    have q1 := (r1 a [b, c, d, e, f, g, i]).2
    have q2 : numM [a, b, c, d, e, f, g, i] / 65536 = numM [c, d, e, f, g, i] := by rw [show 65536 = 256 * 256 from rfl, ← Nat.div_div_eq_div_mul, q1, (r1 _ _).2]
    have q3 : numM [a, b, c, d, e, f, g, i] / 16777216 = numM [d, e, f, g, i] := by rw [show 16777216 = 65536 * 256 from rfl, ← Nat.div_div_eq_div_mul, q2, (r1 _ _).2]
    have q4 : numM [a, b, c, d, e, f, g, i] / 4294967296 = numM [e, f, g, i] := by rw [show 4294967296 = 16777216 * 256 from rfl, ← Nat.div_div_eq_div_mul, q3, (r1 _ _).2]
    have q5 : numM [a, b, c, d, e, f, g, i] / 1099511627776 = numM [f, g, i] := by rw [show 1099511627776 = 4294967296 * 256 from rfl, ← Nat.div_div_eq_div_mul, q4, (r1 _ _).2]
    have q6 : numM [a, b, c, d, e, f, g, i] / 281474976710656 = numM [g, i] := by rw [show 281474976710656 = 1099511627776 * 256 from rfl, ← Nat.div_div_eq_div_mul, q5, (r1 _ _).2]
    have q7 : numM [a, b, c, d, e, f, g, i] / 72057594037927936 = numM [i] := by rw [show 72057594037927936 = 281474976710656 * 256 from rfl, ← Nat.div_div_eq_div_mul, q6, (r1 _ _).2]
    unfold eightM
    rw [q1, q2, q3, q4, q5, q6, q7, ofNat_mod (r1 _ _).1, ofNat_mod (r1 _ _).1, ofNat_mod (r1 _ _).1, ofNat_mod (r1 _ _).1, ofNat_mod (r1 _ _).1, ofNat_mod (r1 _ _).1, ofNat_mod (r1 _ _).1, ofNat_mod (r1 _ _).1]
theorem numM_bound : ∀ l : List UInt8, numM l < 256 ^ l.length
  | [] => by simp [numM]
  | x :: l => by
    have h := numM_bound l
    have hx := x.toNat_lt
    rw [numM, List.length_cons, Nat.pow_succ]
    generalize 256 ^ l.length = p at h ⊢
    omega
theorem numM_lt {bs : List UInt8} (h : bs.length = 8) : numM bs < 18446744073709551616 := by
  have := numM_bound bs
  rw [h] at this
  exact this

/-! ### sums -/
def mixM (h n : Int) : Int :=
  let y := IntKind.u64.wrap (IntKind.u64.wrap ((BitVec.ofInt (IntKind.u64).bits h ^^^ BitVec.ofInt (IntKind.u64).bits (IntKind.u64.wrap n)).toNat) * 1099511628211)
  IntKind.u64.wrap ((BitVec.ofInt (IntKind.u64).bits y ^^^ BitVec.ofInt (IntKind.u64).bits (Int.fdiv y (2 ^ (min (Int.toNat 29) (IntKind.u64).bits)))).toNat)
def foldM (h : Int) (bs : List UInt8) : Int := bs.foldl (fun h c => mixM h (c.toNat : Int)) h
def sumI (key : Int) (bs : List UInt8) : Int := mixM (foldM (mixM 14695981039346656037 key) bs) (bs.length : Int)
theorem mixM_nn (h n : Int) : 0 ≤ mixM h n ∧ mixM h n < 18446744073709551616 := by
  unfold mixM
  have hw : ∀ x : Int, IntKind.u64.wrap x = x % 18446744073709551616 := by
    intro x; simp [IntKind.wrap, IntKind.signed, IntKind.bits]
  simp only [hw]
  omega
/-- the sum under the journal's key -/
def sumM (bs : List UInt8) : Nat := (sumI 8 bs).toNat
theorem sumM_lt (bs : List UInt8) : sumM bs < 18446744073709551616 := by
  have := mixM_nn (foldM (mixM 14695981039346656037 8) bs) (bs.length : Int)
  unfold sumM sumI; omega
theorem sumM_eq (bs : List UInt8) : sumI 8 bs = (sumM bs : Int) := by
  have := mixM_nn (foldM (mixM 14695981039346656037 8) bs) (bs.length : Int)
  unfold sumM sumI at *; omega

/-! ### frames -/
def putF (p : List UInt8) : List UInt8 := vb (zz (p.length : Int)) ++ (eightM (sumM p) ++ p)
theorem putF_inj {p q r s : List UInt8} (h : putF p ++ r = putF q ++ s) : p = q ∧ r = s := by
  have e : ∀ (p r : List UInt8), putF p ++ r = vb (zz (p.length : Int)) ++ (eightM (sumM p) ++ (p ++ r)) := by intro p r; simp [putF]
  rw [e, e] at h
  obtain ⟨h1, h2⟩ := vb_inj _ _ _ _ h
  have hl := zz_inj h1
  obtain ⟨_, h3⟩ := List.append_inj h2 (by rw [eightM_len, eightM_len])
  obtain ⟨h4, h5⟩ := List.append_inj h3 (by omega)
  exact ⟨h4, h5⟩
theorem putF_len (p : List UInt8) : (putF p).length = (vb (zz (p.length : Int))).length + 8 + p.length := by
  unfold putF; rw [List.length_append, List.length_append, eightM_len]; omega
theorem putF_pos (p : List UInt8) : 9 ≤ (putF p).length := by
  rw [putF_len]; have := vb_pos (zz (p.length : Int)); omega

open Classical in
/-- the frame that bytes begin with: its bytes, and how many it has -/
noncomputable def takeM (b : List UInt8) : Option (List UInt8 × Nat) :=
  if h : ∃ p r, p.length ≤ 65536 ∧ b = putF p ++ r then some (Classical.choose h, (putF (Classical.choose h)).length) else none
theorem takeM_put {p r : List UInt8} (h : p.length ≤ 65536) : takeM (putF p ++ r) = some (p, (putF p).length) := by
  unfold takeM
  have hx : ∃ q s, q.length ≤ 65536 ∧ putF p ++ r = putF q ++ s := ⟨p, r, h, rfl⟩
  rw [dif_pos hx]
  obtain ⟨s, _, hs⟩ := Classical.choose_spec hx
  rw [← (putF_inj hs).1]
theorem takeM_some {b p : List UInt8} {n : Nat} (h : takeM b = some (p, n)) : p.length ≤ 65536 ∧ n = (putF p).length ∧ ∃ r, b = putF p ++ r := by
  unfold takeM at h
  split at h
  · rename_i hx
    obtain ⟨s, h1, h2⟩ := Classical.choose_spec hx
    simp only [Option.some.injEq, Prod.mk.injEq] at h
    rw [← h.1, ← h.2]
    exact ⟨h1, rfl, s, h2⟩
  · cases h
theorem takeM_none {b : List UInt8} (h : ∀ p r, p.length ≤ 65536 → b ≠ putF p ++ r) : takeM b = none := by
  unfold takeM
  rw [dif_neg]
  rintro ⟨p, r, h1, h2⟩
  exact h p r h1 h2
theorem takeM_le {b p : List UInt8} {n : Nat} (h : takeM b = some (p, n)) : 9 ≤ n ∧ n ≤ b.length := by
  obtain ⟨_, rfl, r, rfl⟩ := takeM_some h
  exact ⟨putF_pos p, by rw [List.length_append]; omega⟩
theorem takeM_nil : takeM [] = none := takeM_none (fun p r _ h => by
  have := congrArg List.length h
  have := putF_pos p
  simp at *; omega)

/-- how the program finds a frame -/
theorem takeM_spec (b : List UInt8) :
    takeM b = if (tkI b).2.2 ≠ 0 then none else if (tkI b).1 < 0 then none else if 65536 < (tkI b).1 then none else if (b.length : Int) - (tkI b).2.1 < (tkI b).1 + 8 then none
      else if (numM ((b.drop (tkI b).2.1).take 8) : Int) ≠ sumI 8 ((b.drop ((tkI b).2.1 + 8)).take (tkI b).1.toNat) then none else some ((b.drop ((tkI b).2.1 + 8)).take (tkI b).1.toNat, (tkI b).2.1 + 8 + (tkI b).1.toNat) := by
  by_cases hx : ∃ p r, p.length ≤ 65536 ∧ b = putF p ++ r
  · obtain ⟨p, r, h1, rfl⟩ := hx
    rw [takeM_put h1]
    have e : putF p ++ r = vb (zz (p.length : Int)) ++ ((eightM (sumM p) ++ p) ++ r) := by simp [putF]
    have ht : tkI (putF p ++ r) = ((p.length : Int), (vb (zz (p.length : Int))).length, 0) := by
      rw [e]; exact tkI_vb (by unfold okI; omega) _
    have hl := putF_len p
    rw [ht]
    simp only [ne_eq, not_true_eq_false, if_false]
    rw [if_neg (by omega), if_neg (by omega), if_neg (by rw [List.length_append]; omega)]
    have d1 : (putF p ++ r).drop (vb (zz (p.length : Int))).length = eightM (sumM p) ++ (p ++ r) := by
      rw [e, List.drop_left' rfl, List.append_assoc]
    have d2 : (putF p ++ r).drop ((vb (zz (p.length : Int))).length + 8) = p ++ r := by
      rw [← List.drop_drop, d1, List.drop_left' (eightM_len _)]
    rw [d1, d2, List.take_left' (eightM_len _), Int.toNat_natCast, List.take_left' rfl, numM_eight (sumM_lt p), sumM_eq, if_neg (by simp), hl]
  · rw [takeM_none (fun p r h h' => hx ⟨p, r, h, h'⟩)]
    split
    · rfl
    rename_i h0
    split
    · rfl
    rename_i h1
    split
    · rfl
    rename_i h2
    split
    · rfl
    rename_i h3
    split
    · rfl
    rename_i h4
    exfalso
    apply hx
    obtain ⟨r, g1, g2, g3⟩ := tkI_ok (bs := b) (by omega)
    have hlen := congrArg List.length g2
    rw [List.length_append] at hlen
    have hr : b.drop (tkI b).2.1 = r := by
      conv => lhs; arg 2; rw [g2]
      rw [g3]; exact List.drop_left' rfl
    have hr8 : b.drop ((tkI b).2.1 + 8) = r.drop 8 := by rw [← List.drop_drop, hr]
    rw [hr, hr8] at h4
    have hpl : ((r.drop 8).take (tkI b).1.toNat).length = (tkI b).1.toNat := by
      rw [List.length_take, List.length_drop]; omega
    refine ⟨(r.drop 8).take (tkI b).1.toNat, (r.drop 8).drop (tkI b).1.toNat, by omega, ?_⟩
    have h8 : (r.take 8).length = 8 := by rw [List.length_take]; omega
    have hs : eightM (sumM ((r.drop 8).take (tkI b).1.toNat)) = r.take 8 := by
      have : numM (r.take 8) = sumM ((r.drop 8).take (tkI b).1.toNat) := by
        rw [sumM_eq] at h4
        omega
      rw [← this, eight_numM h8]
    unfold putF
    rw [hpl, Int.toNat_of_nonneg (by omega), hs]
    conv => lhs; rw [g2]
    rw [List.append_assoc, List.append_assoc, List.take_append_drop, List.take_append_drop]

/-! ### records -/
abbrev shapeP (e : G_api_Entry) : Prop := okP e 32 16 4 30
inductive Rec where
  | st (t v : Int)
  | ap (t : Int) (e : G_api_Entry)
  | ct (n : Int)
def Rec.nums : Rec → List Int
  | .st t v => [1, t, v]
  | .ap t e => 2 :: t :: flds e
  | .ct n => [3, n]
def recB (r : Rec) : List UInt8 := ebL r.nums
def Rec.ok : Rec → Prop
  | .st t v => okI t ∧ okI v
  | .ap t e => okI t ∧ (∀ n ∈ flds e, okI n) ∧ shapeP e
  | .ct n => okI n
theorem Rec.ok.nums {r : Rec} (h : r.ok) : ∀ n ∈ r.nums, okI n := by
  have k1 : okI 1 := by unfold okI; omega
  have k2 : okI 2 := by unfold okI; omega
  have k3 : okI 3 := by unfold okI; omega
  cases r with
  | st t v =>
    obtain ⟨h1, h2⟩ := h
    intro n hn
    simp only [Rec.nums, List.mem_cons, List.not_mem_nil, or_false] at hn
    rcases hn with rfl | rfl | rfl
    · exact k1
    · exact h1
    · exact h2
  | ap t e =>
    obtain ⟨h1, h2, _⟩ := h
    intro n hn
    simp only [Rec.nums, List.mem_cons] at hn
    rcases hn with rfl | rfl | hn
    · exact k2
    · exact h1
    · exact h2 n hn
  | ct m =>
    have h1 : okI m := h
    intro n hn
    simp only [Rec.nums, List.mem_cons, List.not_mem_nil, or_false] at hn
    rcases hn with rfl | rfl
    · exact k3
    · exact h1
theorem nums_inj {r s : Rec} (h : r.nums = s.nums) : r = s := by
  cases r <;> cases s <;> simp [Rec.nums] at h <;> first | (obtain ⟨rfl, rfl⟩ := h; rfl) | (obtain ⟨rfl, h⟩ := h; rw [flds_inj h]) | (subst h; rfl) | skip
theorem ebL_pre : ∀ {a b : List Int} {r : List UInt8}, a.length ≤ b.length → ebL a ++ r = ebL b → b.take a.length = a ∧ r = ebL (b.drop a.length)
  | [], b, r, _, h => by simpa [ebL] using h
  | x :: a, [], r, hl, h => by simp at hl
  | x :: a, y :: b, r, hl, h => by
    simp only [ebL, List.flatMap_cons, List.append_assoc] at h
    obtain ⟨e1, e2⟩ := vb_inj _ _ _ _ h
    obtain ⟨e3, e4⟩ := ebL_pre (a := a) (b := b) (r := r) (by simpa using hl) e2
    simp [zz_inj e1, e3, e4]
theorem ebL_nil_of : ∀ {a : List Int}, ebL a = [] → a = []
  | [], _ => rfl
  | x :: a, h => by
    have := congrArg List.length h
    simp only [ebL, List.flatMap_cons, List.length_append, List.length_nil] at this
    have := vb_pos (zz x)
    omega
theorem ebL_inj' {a b : List Int} (h : ebL a = ebL b) : a = b := by
  rcases Nat.le_total a.length b.length with hl | hl
  · obtain ⟨h1, h2⟩ := ebL_pre (r := []) hl (by simpa using h)
    have := ebL_nil_of h2.symm
    have e := List.take_append_drop a.length b
    rw [h1, this] at e
    simpa using e
  · obtain ⟨h1, h2⟩ := ebL_pre (r := []) hl (by simpa using h.symm)
    have := ebL_nil_of h2.symm
    have e := List.take_append_drop b.length a
    rw [h1, this] at e
    simpa using e.symm
theorem recB_inj {r s : Rec} (h : recB r = recB s) : r = s := nums_inj (ebL_inj' h)
theorem recB_len {r : Rec} (h : r.ok) : (recB r).length ≤ 110 := by
  have key : ∀ ns : List Int, (∀ n ∈ ns, okI n) → (ebL ns).length ≤ ns.length * 10 := by
    intro ns
    induction ns with
    | nil => intro _; simp [ebL]
    | cons n ns ih =>
      intro h
      have h1 := ih (fun x hx => h x (by simp [hx]))
      have hn := h n (by simp)
      have h2 := vb_len10 (zz_lt hn.1 hn.2)
      simp only [ebL, List.flatMap_cons, List.length_append, List.length_cons] at h1 ⊢
      omega
  have h1 := key r.nums h.nums
  have : r.nums.length ≤ 11 := by cases r <;> simp [Rec.nums, flds]
  unfold recB
  omega

/-- what a journal remembers -/
structure JC where
  term : Int
  vote : Int
  log : List G_api_Logged
def j0 : JC := ⟨0, -1, []⟩
def lastT (l : List G_api_Logged) : Int := match l.getLast? with | some x => x.Term | none => 0
/-- what a record's call returns -/
def errR (J : JC) : Rec → Int
  | .st t v => if t < 0 ∨ 1073741824 < t ∨ v < -1 ∨ 5 ≤ v then 1 else if t < J.term ∨ (t = J.term ∧ J.vote ≠ -1 ∧ J.vote ≠ v) then 20 else 0
  | .ap t e => if t < 1 ∨ 1073741824 < t ∨ ¬ shapeP e then 1 else if J.term < t ∨ t < lastT J.log then 20 else if 4096 ≤ J.log.length then 2 else 0
  | .ct n => if n < 0 ∨ (J.log.length : Int) < n then 1 else 0
/-- what it does -/
def doR (J : JC) : Rec → JC
  | .st t v => { J with term := t, vote := v }
  | .ap t e => { J with log := J.log ++ [⟨t, e⟩] }
  | .ct n => { J with log := J.log.take n.toNat }

open Classical in
/-- a record read: what it makes of the journal, if it is right -/
noncomputable def readM (J : JC) (p : List UInt8) : Option JC :=
  if h : ∃ r, Rec.ok r ∧ p = recB r ∧ errR J r = 0 then some (doR J (Classical.choose h)) else none
theorem readM_rec {J : JC} {r : Rec} (h : r.ok) (h0 : errR J r = 0) : readM J (recB r) = some (doR J r) := by
  unfold readM
  have hx : ∃ s, Rec.ok s ∧ recB r = recB s ∧ errR J s = 0 := ⟨r, h, rfl, h0⟩
  rw [dif_pos hx]
  obtain ⟨_, h2, _⟩ := Classical.choose_spec hx
  rw [← recB_inj h2]
theorem readM_some {J J' : JC} {p : List UInt8} (h : readM J p = some J') : ∃ r, Rec.ok r ∧ p = recB r ∧ errR J r = 0 ∧ J' = doR J r := by
  unfold readM at h
  split at h
  · rename_i hx
    obtain ⟨h1, h2, h3⟩ := Classical.choose_spec hx
    exact ⟨_, h1, h2, h3, (Option.some.inj h).symm⟩
  · cases h
theorem readM_none {J : JC} {p : List UInt8} (h : ∀ r, Rec.ok r → p = recB r → errR J r ≠ 0) : readM J p = none := by
  unfold readM
  rw [dif_neg]
  rintro ⟨r, h1, h2, h3⟩
  exact h r h1 h2 h3
theorem readM_bad {J : JC} {r : Rec} (h0 : errR J r ≠ 0) : readM J (recB r) = none := readM_none (fun s _ h2 => by rw [← recB_inj h2]; exact h0)

/-- a disk's bytes read: what the journal is then, and how many bytes were used -/
noncomputable def replayF : Nat → JC → List UInt8 → JC × Nat
  | 0, J, _ => (J, 0)
  | f + 1, J, b => match takeM b with
    | none => (J, 0)
    | some (p, n) => match readM J p with
      | none => (J, 0)
      | some J' => ((replayF f J' (b.drop n)).1, n + (replayF f J' (b.drop n)).2)
theorem replayF_fuel : ∀ (f g : Nat) (J : JC) (b : List UInt8), b.length ≤ f → b.length ≤ g → replayF f J b = replayF g J b
  | 0, 0, J, b, _, _ => rfl
  | 0, g + 1, J, b, h, _ => by
    have : b = [] := List.eq_nil_of_length_eq_zero (by omega)
    subst this; simp [replayF, takeM_nil]
  | f + 1, 0, J, b, _, h => by
    have : b = [] := List.eq_nil_of_length_eq_zero (by omega)
    subst this; simp [replayF, takeM_nil]
  | f + 1, g + 1, J, b, h1, h2 => by
    simp only [replayF]
    cases ht : takeM b with
    | none => rfl
    | some x =>
      obtain ⟨p, n⟩ := x
      simp only
      cases hr : readM J p with
      | none => rfl
      | some J' =>
        simp only
        have hn := takeM_le ht
        have hd : (b.drop n).length = b.length - n := List.length_drop
        rw [replayF_fuel f g J' (b.drop n) (by omega) (by omega)]
noncomputable def replay (J : JC) (b : List UInt8) : JC × Nat := replayF b.length J b
theorem replay_none {J : JC} {b : List UInt8} (h : takeM b = none) : replay J b = (J, 0) := by
  unfold replay
  cases hb : b.length with
  | zero => rfl
  | succ f => simp only [replayF, h]
theorem replay_bad {J : JC} {b p : List UInt8} {n : Nat} (h : takeM b = some (p, n)) (hr : readM J p = none) : replay J b = (J, 0) := by
  unfold replay
  cases hb : b.length with
  | zero => rfl
  | succ f => simp only [replayF, h, hr]
theorem replay_step {J J' : JC} {b p : List UInt8} {n : Nat} (h : takeM b = some (p, n)) (hr : readM J p = some J') : replay J b = ((replay J' (b.drop n)).1, n + (replay J' (b.drop n)).2) := by
  have hn := takeM_le h
  have hd : (b.drop n).length = b.length - n := List.length_drop
  unfold replay
  cases hb : b.length with
  | zero => omega
  | succ f =>
    simp only [replayF, h, hr]
    rw [replayF_fuel f (b.drop n).length J' _ (by omega) (by omega)]
theorem replay_le : ∀ (k : Nat) (J : JC) (b : List UInt8), b.length ≤ k → (replay J b).2 ≤ b.length := by
  intro k
  induction k with
  | zero =>
    intro J b hb
    have : b = [] := List.eq_nil_of_length_eq_zero (by omega)
    subst this
    rw [replay_none takeM_nil]; simp
  | succ k ih =>
    intro J b hb
    cases ht : takeM b with
    | none => rw [replay_none ht]; simp
    | some x =>
      obtain ⟨p, n⟩ := x
      cases hr : readM J p with
      | none => rw [replay_bad ht hr]; simp
      | some J' =>
        rw [replay_step ht hr]
        have hn := takeM_le ht
        have hd : (b.drop n).length = b.length - n := List.length_drop
        have := ih J' (b.drop n) (by omega)
        simp only
        omega

end Go.Sh
