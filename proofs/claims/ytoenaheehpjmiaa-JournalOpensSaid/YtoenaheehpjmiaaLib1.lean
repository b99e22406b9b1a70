/- Words and laws for contracts: frames, blocks, slices that read as lists, loops.
   Conditions: none. -/
import Derived.Test.YtoenaheehpjmiaaCore
import Derived.Laws.OwnMore
import Derived.Laws.MakeOwn
namespace Go.Sh
open Go
set_option linter.unusedSimpArgs false
set_option linter.unusedVariables false

/-! ### frames -/
theorem Touch.comp {S T : Nat → Prop} {a b c : World} (h : Touch S a b) (k : Touch T b c) (hs : ∀ i, i < a.heap.size → T i → S i) : Touch S a c :=
  ⟨k.os.trans h.os, k.tape.trans h.tape, k.output.trans h.output, Nat.le_trans h.size k.size, fun i hi hn =>
    (k.block i (Nat.lt_of_lt_of_le hi h.size) (fun ht => hn (hs i hi ht))).trans (h.block i hi hn)⟩

theorem Touch.loc {S : Nat → Prop} {a b c : World} {N : Nat} {L : List LB} (h : Touch S a b) (hl : Loc N b L c) (hN : a.heap.size ≤ N) : Touch S a c :=
  h.comp hl.touch (fun i hi hb => absurd (hl.low i hb) (by omega))

theorem Touch.alloc {S : Nat → Prop} {a b : World} (h : Touch S a b) (o : Obj) : Touch S a (b.alloc o) :=
  h.comp (T := fun _ => False) ⟨rfl, rfl, rfl, by simp, fun i hi _ => by
    show (b.heap.push o)[i]? = _
    rw [Array.getElem?_push, if_neg (by omega)]⟩ (fun _ _ h => h.elim)

theorem Touch.putC {S : Nat → Prop} {a b : World} (h : Touch S a b) {p : Addr} {cs : List Value} (hs : p.block < a.heap.size → S p.block) : Touch S a (putC b p cs) :=
  h.comp (T := fun i => i = p.block) ⟨rfl, rfl, rfl, Nat.le_of_eq (putC_size b p cs).symm, fun i _ hi => putC_other b p cs i hi⟩ (fun i hi e => by subst e; exact hs hi)

theorem At.touch {S : Nat → Prop} {w w' : World} {a : Addr} {cs : List Value} (h : At w a cs) (t : Touch S w w') (hn : ¬ S a.block) : At w' a cs := by
  rcases cs with _ | ⟨v, r⟩
  · exact At.nil _ _
  · exact h.cellsOf (t.block _ (h.lt (by simp)) hn)

/-- Where the call stands: of what was there when it began, only 'S' may have turned. -/
structure Now (S : Nat → Prop) (w0 w : World) : Prop where
  t : Touch S w0 w
theorem Now.refl {S : Nat → Prop} {w : World} : Now S w w := ⟨Touch.refl _ _⟩
theorem Now.loc {S : Nat → Prop} {a b c : World} {N : Nat} {L : List LB} (h : Now S a b) (hl : Loc N b L c) (hN : a.heap.size ≤ N) : Now S a c := ⟨h.t.loc hl hN⟩
theorem Now.comp {S T : Nat → Prop} {a b c : World} (h : Now S a b) (k : Touch T b c) (hs : ∀ i, i < a.heap.size → T i → S i) : Now S a c := ⟨h.t.comp k hs⟩
theorem Now.putC {S : Nat → Prop} {a b : World} (h : Now S a b) {p : Addr} {cs : List Value} (hs : p.block < a.heap.size → S p.block) : Now S a (putC b p cs) := ⟨h.t.putC hs⟩
theorem Now.alloc {S : Nat → Prop} {a b : World} (h : Now S a b) (o : Obj) : Now S a (b.alloc o) := ⟨h.t.alloc o⟩

/-- A contract. -/
def Spec (P : Program) (f : FuncId) (args : List Value) (w : World) (S : Nat → Prop) (R : Value → World → Prop) : Prop :=
  Calls P f args.toArray w fun e w' => ∃ v, e = .returned v ∧ Touch S w w' ∧ R v w'

theorem Spec.mono {P : Program} {f : FuncId} {args : List Value} {w : World} {S S' : Nat → Prop} {R R' : Value → World → Prop} (h : Spec P f args w S R) (hs : ∀ i, i < w.heap.size → S i → S' i)
    (k : ∀ v w', Touch S w w' → R v w' → R' v w') : Spec P f args w S' R' :=
  Calls.mono h fun e w' ⟨v, he, ht, hr⟩ => ⟨v, he, ht.mono hs, k v w' ht hr⟩

theorem CallL.use {P : Program} {N : Nat} {w : World} {L : List LB} {f : FuncId} {args : List Value} {R : Value → World → Prop} {R' : World → Value → World → Prop} {S : Nat → Prop} (hok : Ok S w L)
    (h : ∀ wa, Loc N w L wa → Spec P f args wa S (R' wa)) (k : ∀ wa v w', Loc N w L wa → Touch S wa w' → R' wa v w' → R v w') : CallL P N w L f args R :=
  ⟨S, hok, fun wa hl => Calls.mono (h wa hl) fun e w' ⟨v, he, ht, hr⟩ => ⟨ht, v, he, k wa v w' hl ht hr⟩⟩

theorem Ok.none {w : World} {L : List LB} : Ok (fun _ => False) w L := fun _ h => h.elim

/-- A call that turns nothing that is there. -/
theorem CallL.pure {P : Program} {N : Nat} {w w0 : World} {L : List LB} {f : FuncId} {args : List Value} {R : Value → World → Prop} {R' : World → Value → World → Prop} {S0 : Nat → Prop} (T : Now S0 w0 w) (hN : w0.heap.size ≤ N)
    (h : ∀ wa, Now S0 w0 wa → Touch (fun b => b ∈ blk L) w wa → Spec P f args wa (fun _ => False) (R' wa))
    (k : ∀ wa v w', Now S0 w0 w' → Touch (fun b => b ∈ blk L) w w' → Touch (fun b => b ∈ blk L) w wa → (∀ b ∈ blk L, b < wa.heap.size) → R' wa v w' → R v w') : CallL P N w L f args R :=
  CallL.use Ok.none (fun wa hl => h wa (T.loc hl hN) hl.touch)
    (fun wa v w' hl ht hr => k wa v w' ((T.loc hl hN).comp ht (fun _ _ h => h.elim)) (hl.touch.comp ht (fun _ _ h => h.elim)) hl.touch (fun b hb => hl.lt hb) hr)

/-- A call that may turn the blocks 'S'. -/
theorem CallL.turn {P : Program} {N : Nat} {w w0 : World} {L : List LB} {f : FuncId} {args : List Value} {R : Value → World → Prop} {R' : World → Value → World → Prop} {S0 : Nat → Prop} (S : Nat → Prop) (T : Now S0 w0 w) (hN : w0.heap.size ≤ N)
    (hok : Ok S w L) (hs : ∀ i, i < w0.heap.size → S i → S0 i)
    (h : ∀ wa, Now S0 w0 wa → Touch (fun b => b ∈ blk L) w wa → Spec P f args wa S (R' wa))
    (k : ∀ wa v w', Now S0 w0 w' → Touch (fun b => b ∈ blk L ∨ S b) w w' → Touch (fun b => b ∈ blk L) w wa → Touch S wa w' → R' wa v w' → R v w') : CallL P N w L f args R :=
  CallL.use hok (fun wa hl => h wa (T.loc hl hN) hl.touch)
    (fun wa v w' hl ht hr => k wa v w' ((T.loc hl hN).comp ht hs) ((hl.touch.mono (fun _ _ h => Or.inl h)).comp ht (fun _ _ h => Or.inr h)) hl.touch ht hr)

theorem Reb.use {N : Nat} {w w0 : World} {L : List LB} {k : World → Prop} {S0 : Nat → Prop} (T : Now S0 w0 w) (hN : w0.heap.size ≤ N)
    (h : ∀ wa, Now S0 w0 wa → Touch (fun b => b ∈ blk L) w wa → (∀ b ∈ blk L, N ≤ b) → k wa) : Reb N w L k :=
  fun wa hl => h wa (T.loc hl hN) hl.touch hl.low

theorem NewL.use {N : Nat} {w w0 : World} {L : List LB} {cs : List Value} {T : TypeId} {k : Nat → World → Prop} {S0 : Nat → Prop} (ht : Now S0 w0 w) (hN : w0.heap.size ≤ N)
    (h : ∀ b w', w.heap.size ≤ b → N ≤ b → Now S0 w0 w' → Touch (fun b => b ∈ blk L) w w' → w'.heap[b]? = some (.cells cs.toArray T (0, 0)) → b < w'.heap.size → b ∉ blk L → k b w') : NewL N w L cs T k :=
  fun wa hl => h _ _ hl.touch.size (Nat.le_trans hl.base hl.touch.size) ((ht.loc hl hN).alloc _) (hl.touch.alloc _) (by
    show (wa.heap.push _)[wa.heap.size]? = _
    simp) (by simp) (fun hm => Nat.lt_irrefl _ (hl.lt hm))

/-! ### blocks -/
/-- A whole block: its cells and its type. -/
def Blk (w : World) (b : Nat) (cs : List Value) (T : TypeId) : Prop := w.heap[b]? = some (.cells cs.toArray T (0, 0))

theorem Blk.lt {w : World} {b : Nat} {cs : List Value} {T : TypeId} (h : Blk w b cs T) : b < w.heap.size := by
  unfold Blk at h
  exact (Array.getElem?_eq_some_iff.1 h).1

theorem Blk.touch {S : Nat → Prop} {w w' : World} {b : Nat} {cs : List Value} {T : TypeId} (h : Blk w b cs T) (t : Touch S w w') (hn : ¬ S b) : Blk w' b cs T :=
  (t.block _ h.lt hn).trans h

theorem add_plain (b o j : Nat) : (⟨b, o, none⟩ : Addr).add j = ⟨b, o + j, none⟩ := by unfold Addr.add; split <;> simp_all

theorem Blk.at' {w : World} {b : Nat} {cs : List Value} {T : TypeId} (h : Blk w b cs T) {o : Nat} {ds : List Value} (hd : ∀ j v, ds[j]? = some v → cs[o + j]? = some v) : At w ⟨b, o, none⟩ ds := by
  intro j v hv
  rw [add_plain, cell_of_row w b (o + j) cs.toArray T (0, 0) h]
  simpa using hd j v hv

theorem Blk.at {w : World} {b : Nat} {cs : List Value} {T : TypeId} (h : Blk w b cs T) (o : Nat) {ds : List Value} (hd : (cs.drop o).take ds.length = ds) : At w ⟨b, o, none⟩ ds := by
  refine h.at' fun j v hv => ?_
  have hj : j < ds.length := by
    rcases Nat.lt_or_ge j ds.length with h' | h'
    · exact h'
    · rw [List.getElem?_eq_none h'] at hv; cases hv
  rw [← hd, List.getElem?_take, if_pos hj, List.getElem?_drop] at hv
  exact hv

theorem Blk.room {w : World} {b : Nat} {cs : List Value} {T : TypeId} (h : Blk w b cs T) {o n : Nat} (hn : o + n ≤ cs.length) : RoomAt w ⟨b, o, none⟩ n :=
  ⟨cs.toArray, T, (0, 0), h, rfl, by simpa using hn, Or.inl (Nat.zero_le _)⟩

theorem Blk.putC {w : World} {b : Nat} {cs : List Value} {T : TypeId} (h : Blk w b cs T) (o : Nat) (ds : List Value) : Blk (putC w ⟨b, o, none⟩ ds) b (lspl cs o ds) T := by
  have := putC_same w ⟨b, o, none⟩ ds h
  rw [spl_lspl] at this
  exact this

theorem Blk.putO {w : World} {b : Nat} {cs : List Value} {T : TypeId} (h : Blk w b cs T) {p : Addr} (hp : p.block ≠ b) (ds : List Value) : Blk (Sh.putC w p ds) b cs T :=
  (putC_other w p ds b (fun e => hp e.symm)).trans h

theorem At.putO {w : World} {a p : Addr} {cs ds : List Value} (h : At w a cs) (hp : a.block ≠ p.block) : At (putC w p ds) a cs :=
  h.cellsOf (putC_other w p ds _ hp)

theorem lspl_eq : ∀ (ds cs : List Value) (o : Nat), o + ds.length ≤ cs.length → lspl cs o ds = cs.take o ++ ds ++ cs.drop (o + ds.length)
  | [], cs, o, _ => by simp [lspl]
  | v :: r, cs, o, h => by
    show lspl (cs.set o v) (o + 1) r = _
    simp only [List.length_cons] at h
    rw [lspl_eq r (cs.set o v) (o + 1) (by simp; omega)]
    rw [List.take_set, List.drop_set, if_pos (by omega)]
    rw [List.take_succ_eq_append_getElem (by omega), List.set_append_right _ _ (by simp; omega)]
    simp [Nat.min_eq_left (show o ≤ cs.length by omega)]
    congr 1
    omega

/-! ### rows of equal cells -/
theorem flat_length {α : Type} {c : α → List Value} {k : Nat} (hk : ∀ x, (c x).length = k) : ∀ xs : List α, (xs.flatMap c).length = xs.length * k
  | [] => by simp
  | x :: r => by simp [flat_length hk r, hk, Nat.succ_mul, Nat.add_comm]

theorem flat_drop {α : Type} {c : α → List Value} {k : Nat} (hk : ∀ x, (c x).length = k) : ∀ (xs : List α) (i : Nat), (xs.flatMap c).drop (i * k) = (xs.drop i).flatMap c
  | xs, 0 => by simp
  | [], i + 1 => by simp
  | x :: r, i + 1 => by
    simp only [List.flatMap_cons, List.drop_succ_cons]
    rw [Nat.succ_mul, Nat.add_comm, ← List.drop_drop, List.drop_left' (by exact hk x), flat_drop hk r i]

theorem flat_take {α : Type} {c : α → List Value} {k : Nat} (hk : ∀ x, (c x).length = k) : ∀ (xs : List α) (i : Nat), (xs.flatMap c).take (i * k) = (xs.take i).flatMap c
  | xs, 0 => by simp
  | [], i + 1 => by simp
  | x :: r, i + 1 => by
    simp only [List.flatMap_cons, List.take_succ_cons]
    rw [Nat.succ_mul, Nat.add_comm, ← hk x, List.take_length_add_append, hk x, flat_take hk r i]

theorem flat_at {α : Type} {c : α → List Value} {k : Nat} (hk : ∀ x, (c x).length = k) {xs : List α} {i : Nat} {x : α} (hx : xs[i]? = some x) : ((xs.flatMap c).drop (i * k)).take k = c x := by
  rw [flat_drop hk]
  have hlt : i < xs.length := by
    rcases Nat.lt_or_ge i xs.length with h' | h'
    · exact h'
    · rw [List.getElem?_eq_none h'] at hx; cases hx
  rw [List.drop_eq_getElem_cons hlt, List.flatMap_cons]
  rw [List.getElem?_eq_getElem hlt] at hx
  cases hx
  exact List.take_left' (hk _)

theorem flat_set {α : Type} {c : α → List Value} {k : Nat} (hk : ∀ x, (c x).length = k) {xs : List α} {i : Nat} (hi : i < xs.length) (y : α) : lspl (xs.flatMap c) (i * k) (c y) = (xs.set i y).flatMap c := by
  have hb : i * k + k ≤ xs.length * k := by rw [← Nat.succ_mul]; exact Nat.mul_le_mul_right _ hi
  rw [lspl_eq _ _ _ (by rw [flat_length hk, hk]; exact hb), hk, ← Nat.succ_mul, flat_drop hk, flat_take hk, List.set_eq_take_append_cons_drop, if_pos hi]
  simp

/-! ### words of a formula, taken -/
theorem ifb {b : Bool} {p q : Prop} (ht : b = true → p) (hf : b = false → q) : IfB b p q := by
  cases b
  · exact hf rfl
  · exact ht rfl

theorem ifbd {d p q : Prop} [Decidable d] (ht : d → p) (hf : ¬ d → q) : IfB (decide d) p q := ifb (fun h => ht (of_decide_eq_true h)) (fun h => hf (of_decide_eq_false h))
theorem ifbnd {d p q : Prop} [Decidable d] (ht : ¬ d → p) (hf : d → q) : IfB (!decide d) p q := ifb (fun h => ht (by simpa using h)) (fun h => hf (by simpa using h))
theorem ifbn {b : Bool} {p q : Prop} (ht : b = false → p) (hf : b = true → q) : IfB (!b) p q := ifb (fun h => ht (by simpa using h)) (fun h => hf (by simpa using h))

/-- A call whose value is known and that turns nothing. -/
theorem CallL.val {P : Program} {N : Nat} {w w0 : World} {L : List LB} {f : FuncId} {args : List Value} {R : Value → World → Prop} {S0 : Nat → Prop} {m : Value} (T : Now S0 w0 w) (hN : w0.heap.size ≤ N)
    (h : ∀ wa, Now S0 w0 wa → Touch (fun b => b ∈ blk L) w wa → Spec P f args wa (fun _ => False) (fun v _ => v = m))
    (k : ∀ w', Now S0 w0 w' → Touch (fun b => b ∈ blk L) w w' → R m w') : CallL P N w L f args R :=
  CallL.pure (R' := fun _ v _ => v = m) T hN h (fun _ v w' t1 t2 _ _ hv => hv ▸ k w' t1 t2)

/-- The end of a function that turns nothing. -/
theorem Reb.val {N : Nat} {w w0 : World} {L : List LB} {S0 : Nat → Prop} {v m : Value} (T : Now S0 w0 w) (hN : w0.heap.size ≤ N) (h : v = m) : Reb N w L ((fun v w' => Touch S0 w0 w' ∧ v = m) v) :=
  Reb.use T hN (fun wa t _ _ => ⟨t.t, h⟩)

theorem nilL {p : Addr} {k : Addr → Prop} (h : k p) : NilL (some p) k := h

theorem idxL {a : Option Addr} {p : Addr} {n : Nat} {i : Int} {k : Addr → Prop} (h : a = some p) (h0 : 0 ≤ i) (h1 : i < n) (hk : k p) : IdxL a n i k := by subst h; exact ⟨h0, h1, hk⟩

theorem At.take {w : World} {a : Addr} {cs : List Value} (n : Nat) (h : At w a cs) {ds : List Value} (hd : cs.take n = ds) : At w a ds := by
  subst hd
  intro j v hv
  rw [List.getElem?_take] at hv
  split at hv
  · exact h j v hv
  · cases hv

theorem addr_add_add (a : Addr) (m n : Nat) : (a.add m).add n = a.add (m + n) := by
  unfold Addr.add
  by_cases hm : m = 0 <;> by_cases hn : n = 0 <;> simp [hm, hn, Nat.add_assoc]

theorem At.part {w : World} {a : Addr} {cs : List Value} (o n : Nat) (h : At w a cs) {ds : List Value} (hd : (cs.drop o).take n = ds) : At w (a.add o) ds := by
  subst hd
  intro j v hv
  rw [List.getElem?_take] at hv
  split at hv
  · rw [List.getElem?_drop] at hv
    rw [addr_add_add]
    exact h (o + j) v hv
  · cases hv

theorem notIn_lt {b : Nat} {L : List LB} {N : Nat} (h : ∀ x ∈ blk L, N ≤ x) (hb : b < N) : NotIn b L := fun hm => absurd (h b hm) (by omega)
@[simp] theorem notIn_nil {b : Nat} : NotIn b [] := by simp [NotIn, blk]
@[simp] theorem notIn_cons {b : Nat} {l : LB} {L : List LB} : NotIn b (l :: L) ↔ b ≠ l.b ∧ NotIn b L := by simp [NotIn, blk]

/-- a row of equal pieces in one block -/
theorem Blk.elem {α : Type} {c : α → List Value} {k : Nat} (hk : ∀ x, (c x).length = k) {w : World} {b : Nat} {T : TypeId} {xs : List α} {pre post : List Value} (h : Blk w b (pre ++ xs.flatMap c ++ post) T) {i : Nat} {x : α} (hx : xs[i]? = some x) :
    At w ⟨b, pre.length + i * k, none⟩ (c x) := by
  refine h.at' fun j v hv => ?_
  have hlt : i < xs.length := by
    rcases Nat.lt_or_ge i xs.length with h' | h'
    · exact h'
    · rw [List.getElem?_eq_none h'] at hx; cases hx
  have hj : j < k := by
    rw [← hk x]
    rcases Nat.lt_or_ge j (c x).length with h' | h'
    · exact h'
    · rw [List.getElem?_eq_none h'] at hv; cases hv
  have hb : i * k + k ≤ xs.length * k := by rw [← Nat.succ_mul]; exact Nat.mul_le_mul_right _ hlt
  have hfl := flat_length hk xs
  rw [List.append_assoc, List.getElem?_append_right (by omega), List.getElem?_append_left (by omega)]
  have := flat_at hk hx
  rw [← this, List.getElem?_take, if_pos hj, List.getElem?_drop] at hv
  rw [← hv]
  congr 1
  omega

theorem lspl_mid (pre post : List Value) : ∀ (ds m : List Value) (o : Nat), o + ds.length ≤ m.length → lspl (pre ++ m ++ post) (pre.length + o) ds = pre ++ lspl m o ds ++ post
  | [], m, o, _ => rfl
  | v :: r, m, o, h => by
    simp only [List.length_cons] at h
    show lspl ((pre ++ m ++ post).set (pre.length + o) v) (pre.length + o + 1) r = pre ++ lspl (m.set o v) (o + 1) r ++ post
    rw [← lspl_mid pre post r (m.set o v) (o + 1) (by simp; omega)]
    congr 1
    rw [List.append_assoc, List.set_append_right _ _ (by omega), List.set_append_left _ _ (by omega), List.append_assoc]
    congr 3
    omega

theorem lspl_flat {α : Type} {c : α → List Value} {k : Nat} (hk : ∀ x, (c x).length = k) {xs : List α} {i : Nat} (hi : i < xs.length) (y : α) (pre post : List Value) :
    lspl (pre ++ xs.flatMap c ++ post) (pre.length + i * k) (c y) = pre ++ (xs.set i y).flatMap c ++ post := by
  have hb : i * k + k ≤ xs.length * k := by rw [← Nat.succ_mul]; exact Nat.mul_le_mul_right _ hi
  rw [lspl_mid _ _ _ _ _ (by rw [hk, flat_length hk]; exact hb), flat_set hk hi y]

/-- a part of one piece of a row is written -/
theorem lspl_in {α : Type} {c : α → List Value} {k : Nat} (hk : ∀ x, (c x).length = k) {xs : List α} {i : Nat} {y y' : α} (hy : xs[i]? = some y) {o : Nat} {ds : List Value} (ho : o + ds.length ≤ k) (h : lspl (c y) o ds = c y') (pre post : List Value) :
    lspl (pre ++ xs.flatMap c ++ post) (pre.length + (i * k + o)) ds = pre ++ (xs.set i y').flatMap c ++ post := by
  have hi : i < xs.length := by
    rcases Nat.lt_or_ge i xs.length with h' | h'
    · exact h'
    · rw [List.getElem?_eq_none h'] at hy; cases hy
  have hb : i * k + k ≤ xs.length * k := by rw [← Nat.succ_mul]; exact Nat.mul_le_mul_right _ hi
  rw [lspl_mid _ _ _ _ _ (by rw [flat_length hk]; omega)]
  congr 2
  have e1 : xs = xs.take i ++ y :: xs.drop (i + 1) := by
    rw [List.getElem?_eq_getElem hi] at hy
    cases hy
    rw [← List.drop_eq_getElem_cons hi, List.take_append_drop]
  have e2 : xs.set i y' = xs.take i ++ y' :: xs.drop (i + 1) := by rw [List.set_eq_take_append_cons_drop, if_pos hi]
  rw [e2]
  have hl : ((xs.take i).flatMap c).length = i * k := by rw [flat_length hk, List.length_take, Nat.min_eq_left (by omega)]
  calc lspl (xs.flatMap c) (i * k + o) ds = lspl ((xs.take i).flatMap c ++ c y ++ (xs.drop (i + 1)).flatMap c) (((xs.take i).flatMap c).length + o) ds := by
        rw [hl]; congr 1; conv => lhs; rw [e1]
        simp
    _ = _ := by
        rw [lspl_mid _ _ _ _ _ (by rw [hk]; exact ho), h]
        simp

theorem wrap_i64 {x : Int} (h : -9223372036854775808 ≤ x) (h' : x ≤ 9223372036854775807) : IntKind.i64.wrap x = x := by
  simp [IntKind.wrap, IntKind.signed, IntKind.bits]; omega

end Go.Sh
