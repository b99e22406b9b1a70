/- A part of the proof (printed smaller by a program of ours). Conditions: none. -/
import Derived.Laws.OwnMore
import Derived.Laws.MakeOwn
import Derived.Laws.IdiomStrings
import Derived.ProofKit
import GoSem.Claim
import GoSem.ClaimJoined
import Derived.DeepKeys
import Derived.DeepKeys2
import Derived.Test.YtoenaheehpjmiaaDoorKCore
namespace Go.Sh
section
open Go
set_option linter.unusedSimpArgs false
set_option linter.unusedVariables false
theorem Touch.comp {S T : Nat → Prop} {a b c : World} (h : Touch S a b) (k : Touch T b c) (hs : ∀ i, i < a.heap.size → T i → S i) : Touch S a c :=
  ⟨k.os.trans h.os, k.tape.trans h.tape, k.output.trans h.output, Nat.le_trans h.size k.size, fun i hi hn =>
    (k.block i (Nat.lt_of_lt_of_le hi h.size) (fun ht => hn (hs i hi ht))).trans (h.block i hi hn)⟩
theorem Touch.loc {S : Nat → Prop} {a b c : World} {N : Nat} {L : List LB} (h : Touch S a b) (hl : Loc N b L c) (hN : a.heap.size ≤ N) : Touch S a c :=
  h.comp hl.touch (fun i hi hb => absurd (hl.low i hb) (by omega))
theorem Touch.alloc {S : Nat → Prop} {a b : World} (h : Touch S a b) (o : Obj) : Touch S a (b.alloc o) :=
  h.comp (T := fun _ => False) ⟨rfl, rfl, rfl, by simp, fun i hi _ => by
    show (b.heap.push o)[i]? = _
    rw [Array.getElem?_push, if_neg (by omega)]⟩ (fun _ _ h => h.elim)
theorem Touch.putC {S : Nat → Prop} {a b : World} (h : Touch S a b) {p : Addr} {cs : List Value} (hs : p.block < a.heap.size → S p.block) : Touch S a (putC b p cs) :=
  h.comp (T := fun i => i = p.block) ⟨rfl, rfl, rfl, Nat.le_of_eq (putC_size b p cs).symm, fun i _ hi => putC_other b p cs i hi⟩ (fun i hi e => by subst e; exact hs hi)
theorem At.touch {S : Nat → Prop} {w w' : World} {a : Addr} {cs : List Value} (h : At w a cs) (t : Touch S w w') (hn : ¬ S a.block) : At w' a cs := by
  rcases cs with _ | ⟨v, r⟩
  · exact At.nil _ _
  · exact h.cellsOf (t.block _ (h.lt (by simp)) hn)
structure Now (S : Nat → Prop) (w0 w : World) : Prop where
  t : Touch S w0 w
theorem Now.refl {S : Nat → Prop} {w : World} : Now S w w := ⟨Touch.refl _ _⟩
theorem Now.loc {S : Nat → Prop} {a b c : World} {N : Nat} {L : List LB} (h : Now S a b) (hl : Loc N b L c) (hN : a.heap.size ≤ N) : Now S a c := ⟨h.t.loc hl hN⟩
theorem Now.comp {S T : Nat → Prop} {a b c : World} (h : Now S a b) (k : Touch T b c) (hs : ∀ i, i < a.heap.size → T i → S i) : Now S a c := ⟨h.t.comp k hs⟩
theorem Now.putC {S : Nat → Prop} {a b : World} (h : Now S a b) {p : Addr} {cs : List Value} (hs : p.block < a.heap.size → S p.block) : Now S a (putC b p cs) := ⟨h.t.putC hs⟩
theorem Now.alloc {S : Nat → Prop} {a b : World} (h : Now S a b) (o : Obj) : Now S a (b.alloc o) := ⟨h.t.alloc o⟩
def Spec (P : Program) (f : FuncId) (args : List Value) (w : World) (S : Nat → Prop) (R : Value → World → Prop) : Prop :=
  Calls P f args.toArray w fun e w' => ∃ v, e = .returned v ∧ Touch S w w' ∧ R v w'
theorem Spec.mono {P : Program} {f : FuncId} {args : List Value} {w : World} {S S' : Nat → Prop} {R R' : Value → World → Prop} (h : Spec P f args w S R) (hs : ∀ i, i < w.heap.size → S i → S' i)
    (k : ∀ v w', Touch S w w' → R v w' → R' v w') : Spec P f args w S' R' :=
  Calls.mono h fun e w' ⟨v, he, ht, hr⟩ => ⟨v, he, ht.mono hs, k v w' ht hr⟩
theorem CallL.use {P : Program} {N : Nat} {w : World} {L : List LB} {f : FuncId} {args : List Value} {R : Value → World → Prop} {R' : World → Value → World → Prop} {S : Nat → Prop} (hok : Ok S w L)
    (h : ∀ wa, Loc N w L wa → Spec P f args wa S (R' wa)) (k : ∀ wa v w', Loc N w L wa → Touch S wa w' → R' wa v w' → R v w') : CallL P N w L f args R :=
  ⟨S, hok, fun wa hl => Calls.mono (h wa hl) fun e w' ⟨v, he, ht, hr⟩ => ⟨ht, v, he, k wa v w' hl ht hr⟩⟩
theorem Ok.none {w : World} {L : List LB} : Ok (fun _ => False) w L := fun _ h => h.elim
theorem CallL.pure {P : Program} {N : Nat} {w w0 : World} {L : List LB} {f : FuncId} {args : List Value} {R : Value → World → Prop} {R' : World → Value → World → Prop} {S0 : Nat → Prop} (T : Now S0 w0 w) (hN : w0.heap.size ≤ N)
    (h : ∀ wa, Now S0 w0 wa → Touch (fun b => b ∈ blk L) w wa → Spec P f args wa (fun _ => False) (R' wa))
    (k : ∀ wa v w', Now S0 w0 w' → Touch (fun b => b ∈ blk L) w w' → Touch (fun b => b ∈ blk L) w wa → (∀ b ∈ blk L, b < wa.heap.size) → R' wa v w' → R v w') : CallL P N w L f args R :=
  CallL.use Ok.none (fun wa hl => h wa (T.loc hl hN) hl.touch)
    (fun wa v w' hl ht hr => k wa v w' ((T.loc hl hN).comp ht (fun _ _ h => h.elim)) (hl.touch.comp ht (fun _ _ h => h.elim)) hl.touch (fun b hb => hl.lt hb) hr)
theorem CallL.turn {P : Program} {N : Nat} {w w0 : World} {L : List LB} {f : FuncId} {args : List Value} {R : Value → World → Prop} {R' : World → Value → World → Prop} {S0 : Nat → Prop} (S : Nat → Prop) (T : Now S0 w0 w) (hN : w0.heap.size ≤ N)
    (hok : Ok S w L) (hs : ∀ i, i < w0.heap.size → S i → S0 i)
    (h : ∀ wa, Now S0 w0 wa → Touch (fun b => b ∈ blk L) w wa → Spec P f args wa S (R' wa))
    (k : ∀ wa v w', Now S0 w0 w' → Touch (fun b => b ∈ blk L ∨ S b) w w' → Touch (fun b => b ∈ blk L) w wa → Touch S wa w' → R' wa v w' → R v w') : CallL P N w L f args R :=
  CallL.use hok (fun wa hl => h wa (T.loc hl hN) hl.touch)
    (fun wa v w' hl ht hr => k wa v w' ((T.loc hl hN).comp ht hs) ((hl.touch.mono (fun _ _ h => Or.inl h)).comp ht (fun _ _ h => Or.inr h)) hl.touch ht hr)
theorem Reb.use {N : Nat} {w w0 : World} {L : List LB} {k : World → Prop} {S0 : Nat → Prop} (T : Now S0 w0 w) (hN : w0.heap.size ≤ N)
    (h : ∀ wa, Now S0 w0 wa → Touch (fun b => b ∈ blk L) w wa → (∀ b ∈ blk L, N ≤ b) → k wa) : Reb N w L k :=
  fun wa hl => h wa (T.loc hl hN) hl.touch hl.low
theorem NewL.use {N : Nat} {w w0 : World} {L : List LB} {cs : List Value} {T : TypeId} {k : Nat → World → Prop} {S0 : Nat → Prop} (ht : Now S0 w0 w) (hN : w0.heap.size ≤ N)
    (h : ∀ b w', w.heap.size ≤ b → N ≤ b → Now S0 w0 w' → Touch (fun b => b ∈ blk L) w w' → w'.heap[b]? = some (.cells cs.toArray T (0, 0)) → b < w'.heap.size → b ∉ blk L → k b w') : NewL N w L cs T k :=
  fun wa hl => h _ _ hl.touch.size (Nat.le_trans hl.base hl.touch.size) ((ht.loc hl hN).alloc _) (hl.touch.alloc _) (by
    show (wa.heap.push _)[wa.heap.size]? = _
    simp) (by simp) (fun hm => Nat.lt_irrefl _ (hl.lt hm))
def Blk (w : World) (b : Nat) (cs : List Value) (T : TypeId) : Prop := w.heap[b]? = some (.cells cs.toArray T (0, 0))
theorem Blk.lt {w : World} {b : Nat} {cs : List Value} {T : TypeId} (h : Blk w b cs T) : b < w.heap.size := by
  unfold Blk at h
  exact (Array.getElem?_eq_some_iff.1 h).1
theorem Blk.touch {S : Nat → Prop} {w w' : World} {b : Nat} {cs : List Value} {T : TypeId} (h : Blk w b cs T) (t : Touch S w w') (hn : ¬ S b) : Blk w' b cs T :=
  (t.block _ h.lt hn).trans h
theorem add_plain (b o j : Nat) : (⟨b, o, none⟩ : Addr).add j = ⟨b, o + j, none⟩ := by unfold Addr.add; split <;> simp_all
theorem Blk.at' {w : World} {b : Nat} {cs : List Value} {T : TypeId} (h : Blk w b cs T) {o : Nat} {ds : List Value} (hd : ∀ j v, ds[j]? = some v → cs[o + j]? = some v) : At w ⟨b, o, none⟩ ds := by
  intro j v hv
  rw [add_plain, cell_of_row w b (o + j) cs.toArray T (0, 0) h]
  simpa using hd j v hv
theorem Blk.at {w : World} {b : Nat} {cs : List Value} {T : TypeId} (h : Blk w b cs T) (o : Nat) {ds : List Value} (hd : (cs.drop o).take ds.length = ds) : At w ⟨b, o, none⟩ ds := by
  refine h.at' fun j v hv => ?_
  have hj : j < ds.length := by
    rcases Nat.lt_or_ge j ds.length with h' | h'
    · exact h'
    · rw [List.getElem?_eq_none h'] at hv; cases hv
  rw [← hd, List.getElem?_take, if_pos hj, List.getElem?_drop] at hv
  exact hv
theorem Blk.room {w : World} {b : Nat} {cs : List Value} {T : TypeId} (h : Blk w b cs T) {o n : Nat} (hn : o + n ≤ cs.length) : RoomAt w ⟨b, o, none⟩ n :=
  ⟨cs.toArray, T, (0, 0), h, rfl, by simpa using hn, Or.inl (Nat.zero_le _)⟩
theorem Blk.putC {w : World} {b : Nat} {cs : List Value} {T : TypeId} (h : Blk w b cs T) (o : Nat) (ds : List Value) : Blk (putC w ⟨b, o, none⟩ ds) b (lspl cs o ds) T := by
  have := putC_same w ⟨b, o, none⟩ ds h
  rw [spl_lspl] at this
  exact this
theorem Blk.putO {w : World} {b : Nat} {cs : List Value} {T : TypeId} (h : Blk w b cs T) {p : Addr} (hp : p.block ≠ b) (ds : List Value) : Blk (Sh.putC w p ds) b cs T :=
  (putC_other w p ds b (fun e => hp e.symm)).trans h
theorem At.putO {w : World} {a p : Addr} {cs ds : List Value} (h : At w a cs) (hp : a.block ≠ p.block) : At (putC w p ds) a cs :=
  h.cellsOf (putC_other w p ds _ hp)
theorem lspl_eq : ∀ (ds cs : List Value) (o : Nat), o + ds.length ≤ cs.length → lspl cs o ds = cs.take o ++ ds ++ cs.drop (o + ds.length)
  | [], cs, o, _ => by simp [lspl]
  | v :: r, cs, o, h => by
    show lspl (cs.set o v) (o + 1) r = _
    simp only [List.length_cons] at h
    rw [lspl_eq r (cs.set o v) (o + 1) (by simp; omega)]
    rw [List.take_set, List.drop_set, if_pos (by omega)]
    rw [List.take_succ_eq_append_getElem (by omega), List.set_append_right _ _ (by simp; omega)]
    simp [Nat.min_eq_left (show o ≤ cs.length by omega)]
    congr 1
    omega
theorem flat_length {α : Type} {c : α → List Value} {k : Nat} (hk : ∀ x, (c x).length = k) : ∀ xs : List α, (xs.flatMap c).length = xs.length * k
  | [] => by simp
  | x :: r => by simp [flat_length hk r, hk, Nat.succ_mul, Nat.add_comm]
theorem flat_drop {α : Type} {c : α → List Value} {k : Nat} (hk : ∀ x, (c x).length = k) : ∀ (xs : List α) (i : Nat), (xs.flatMap c).drop (i * k) = (xs.drop i).flatMap c
  | xs, 0 => by simp
  | [], i + 1 => by simp
  | x :: r, i + 1 => by
    simp only [List.flatMap_cons, List.drop_succ_cons]
    rw [Nat.succ_mul, Nat.add_comm, ← List.drop_drop, List.drop_left' (by exact hk x), flat_drop hk r i]
theorem flat_take {α : Type} {c : α → List Value} {k : Nat} (hk : ∀ x, (c x).length = k) : ∀ (xs : List α) (i : Nat), (xs.flatMap c).take (i * k) = (xs.take i).flatMap c
  | xs, 0 => by simp
  | [], i + 1 => by simp
  | x :: r, i + 1 => by
    simp only [List.flatMap_cons, List.take_succ_cons]
    rw [Nat.succ_mul, Nat.add_comm, ← hk x, List.take_length_add_append, hk x, flat_take hk r i]
theorem flat_at {α : Type} {c : α → List Value} {k : Nat} (hk : ∀ x, (c x).length = k) {xs : List α} {i : Nat} {x : α} (hx : xs[i]? = some x) : ((xs.flatMap c).drop (i * k)).take k = c x := by
  rw [flat_drop hk]
  have hlt : i < xs.length := by
    rcases Nat.lt_or_ge i xs.length with h' | h'
    · exact h'
    · rw [List.getElem?_eq_none h'] at hx; cases hx
  rw [List.drop_eq_getElem_cons hlt, List.flatMap_cons]
  rw [List.getElem?_eq_getElem hlt] at hx
  cases hx
  exact List.take_left' (hk _)
theorem flat_set {α : Type} {c : α → List Value} {k : Nat} (hk : ∀ x, (c x).length = k) {xs : List α} {i : Nat} (hi : i < xs.length) (y : α) : lspl (xs.flatMap c) (i * k) (c y) = (xs.set i y).flatMap c := by
  have hb : i * k + k ≤ xs.length * k := by rw [← Nat.succ_mul]; exact Nat.mul_le_mul_right _ hi
  rw [lspl_eq _ _ _ (by rw [flat_length hk, hk]; exact hb), hk, ← Nat.succ_mul, flat_drop hk, flat_take hk, List.set_eq_take_append_cons_drop, if_pos hi]
  simp
theorem ifb {b : Bool} {p q : Prop} (ht : b = true → p) (hf : b = false → q) : IfB b p q := by
  cases b
  · exact hf rfl
  · exact ht rfl
theorem ifbd {d p q : Prop} [Decidable d] (ht : d → p) (hf : ¬ d → q) : IfB (decide d) p q := ifb (fun h => ht (of_decide_eq_true h)) (fun h => hf (of_decide_eq_false h))
theorem ifbnd {d p q : Prop} [Decidable d] (ht : ¬ d → p) (hf : d → q) : IfB (!decide d) p q := ifb (fun h => ht (by simpa using h)) (fun h => hf (by simpa using h))
theorem ifbn {b : Bool} {p q : Prop} (ht : b = false → p) (hf : b = true → q) : IfB (!b) p q := ifb (fun h => ht (by simpa using h)) (fun h => hf (by simpa using h))
theorem CallL.val {P : Program} {N : Nat} {w w0 : World} {L : List LB} {f : FuncId} {args : List Value} {R : Value → World → Prop} {S0 : Nat → Prop} {m : Value} (T : Now S0 w0 w) (hN : w0.heap.size ≤ N)
    (h : ∀ wa, Now S0 w0 wa → Touch (fun b => b ∈ blk L) w wa → Spec P f args wa (fun _ => False) (fun v _ => v = m))
    (k : ∀ w', Now S0 w0 w' → Touch (fun b => b ∈ blk L) w w' → R m w') : CallL P N w L f args R :=
  CallL.pure (R' := fun _ v _ => v = m) T hN h (fun _ v w' t1 t2 _ _ hv => hv ▸ k w' t1 t2)
theorem Reb.val {N : Nat} {w w0 : World} {L : List LB} {S0 : Nat → Prop} {v m : Value} (T : Now S0 w0 w) (hN : w0.heap.size ≤ N) (h : v = m) : Reb N w L ((fun v w' => Touch S0 w0 w' ∧ v = m) v) :=
  Reb.use T hN (fun wa t _ _ => ⟨t.t, h⟩)
theorem nilL {p : Addr} {k : Addr → Prop} (h : k p) : NilL (some p) k := h
theorem idxL {a : Option Addr} {p : Addr} {n : Nat} {i : Int} {k : Addr → Prop} (h : a = some p) (h0 : 0 ≤ i) (h1 : i < n) (hk : k p) : IdxL a n i k := by subst h; exact ⟨h0, h1, hk⟩
theorem At.take {w : World} {a : Addr} {cs : List Value} (n : Nat) (h : At w a cs) {ds : List Value} (hd : cs.take n = ds) : At w a ds := by
  subst hd
  intro j v hv
  rw [List.getElem?_take] at hv
  split at hv
  · exact h j v hv
  · cases hv
theorem addr_add_add (a : Addr) (m n : Nat) : (a.add m).add n = a.add (m + n) := by
  unfold Addr.add
  by_cases hm : m = 0 <;> by_cases hn : n = 0 <;> simp [hm, hn, Nat.add_assoc]
theorem At.part {w : World} {a : Addr} {cs : List Value} (o n : Nat) (h : At w a cs) {ds : List Value} (hd : (cs.drop o).take n = ds) : At w (a.add o) ds := by
  subst hd
  intro j v hv
  rw [List.getElem?_take] at hv
  split at hv
  · rw [List.getElem?_drop] at hv
    rw [addr_add_add]
    exact h (o + j) v hv
  · cases hv
theorem notIn_lt {b : Nat} {L : List LB} {N : Nat} (h : ∀ x ∈ blk L, N ≤ x) (hb : b < N) : NotIn b L := fun hm => absurd (h b hm) (by omega)
@[simp] theorem notIn_nil {b : Nat} : NotIn b [] := by simp [NotIn, blk]
@[simp] theorem notIn_cons {b : Nat} {l : LB} {L : List LB} : NotIn b (l :: L) ↔ b ≠ l.b ∧ NotIn b L := by simp [NotIn, blk]
theorem Blk.elem {α : Type} {c : α → List Value} {k : Nat} (hk : ∀ x, (c x).length = k) {w : World} {b : Nat} {T : TypeId} {xs : List α} {pre post : List Value} (h : Blk w b (pre ++ xs.flatMap c ++ post) T) {i : Nat} {x : α} (hx : xs[i]? = some x) :
    At w ⟨b, pre.length + i * k, none⟩ (c x) := by
  refine h.at' fun j v hv => ?_
  have hlt : i < xs.length := by
    rcases Nat.lt_or_ge i xs.length with h' | h'
    · exact h'
    · rw [List.getElem?_eq_none h'] at hx; cases hx
  have hj : j < k := by
    rw [← hk x]
    rcases Nat.lt_or_ge j (c x).length with h' | h'
    · exact h'
    · rw [List.getElem?_eq_none h'] at hv; cases hv
  have hb : i * k + k ≤ xs.length * k := by rw [← Nat.succ_mul]; exact Nat.mul_le_mul_right _ hlt
  have hfl := flat_length hk xs
  rw [List.append_assoc, List.getElem?_append_right (by omega), List.getElem?_append_left (by omega)]
  have := flat_at hk hx
  rw [← this, List.getElem?_take, if_pos hj, List.getElem?_drop] at hv
  rw [← hv]
  congr 1
  omega
theorem lspl_mid (pre post : List Value) : ∀ (ds m : List Value) (o : Nat), o + ds.length ≤ m.length → lspl (pre ++ m ++ post) (pre.length + o) ds = pre ++ lspl m o ds ++ post
  | [], m, o, _ => rfl
  | v :: r, m, o, h => by
    simp only [List.length_cons] at h
    show lspl ((pre ++ m ++ post).set (pre.length + o) v) (pre.length + o + 1) r = pre ++ lspl (m.set o v) (o + 1) r ++ post
    rw [← lspl_mid pre post r (m.set o v) (o + 1) (by simp; omega)]
    congr 1
    rw [List.append_assoc, List.set_append_right _ _ (by omega), List.set_append_left _ _ (by omega), List.append_assoc]
    congr 3
    omega
theorem lspl_flat {α : Type} {c : α → List Value} {k : Nat} (hk : ∀ x, (c x).length = k) {xs : List α} {i : Nat} (hi : i < xs.length) (y : α) (pre post : List Value) :
    lspl (pre ++ xs.flatMap c ++ post) (pre.length + i * k) (c y) = pre ++ (xs.set i y).flatMap c ++ post := by
  have hb : i * k + k ≤ xs.length * k := by rw [← Nat.succ_mul]; exact Nat.mul_le_mul_right _ hi
  rw [lspl_mid _ _ _ _ _ (by rw [hk, flat_length hk]; exact hb), flat_set hk hi y]
theorem lspl_in {α : Type} {c : α → List Value} {k : Nat} (hk : ∀ x, (c x).length = k) {xs : List α} {i : Nat} {y y' : α} (hy : xs[i]? = some y) {o : Nat} {ds : List Value} (ho : o + ds.length ≤ k) (h : lspl (c y) o ds = c y') (pre post : List Value) :
    lspl (pre ++ xs.flatMap c ++ post) (pre.length + (i * k + o)) ds = pre ++ (xs.set i y').flatMap c ++ post := by
  have hi : i < xs.length := by
    rcases Nat.lt_or_ge i xs.length with h' | h'
    · exact h'
    · rw [List.getElem?_eq_none h'] at hy; cases hy
  have hb : i * k + k ≤ xs.length * k := by rw [← Nat.succ_mul]; exact Nat.mul_le_mul_right _ hi
  rw [lspl_mid _ _ _ _ _ (by rw [flat_length hk]; omega)]
  congr 2
  have e1 : xs = xs.take i ++ y :: xs.drop (i + 1) := by
    rw [List.getElem?_eq_getElem hi] at hy
    cases hy
    rw [← List.drop_eq_getElem_cons hi, List.take_append_drop]
  have e2 : xs.set i y' = xs.take i ++ y' :: xs.drop (i + 1) := by rw [List.set_eq_take_append_cons_drop, if_pos hi]
  rw [e2]
  have hl : ((xs.take i).flatMap c).length = i * k := by rw [flat_length hk, List.length_take, Nat.min_eq_left (by omega)]
  calc lspl (xs.flatMap c) (i * k + o) ds = lspl ((xs.take i).flatMap c ++ c y ++ (xs.drop (i + 1)).flatMap c) (((xs.take i).flatMap c).length + o) ds := by
        rw [hl]; congr 1; conv => lhs; rw [e1]
        simp
    _ = _ := by
        rw [lspl_mid _ _ _ _ _ (by rw [hk]; exact ho), h]
        simp
theorem wrap_i64 {x : Int} (h : -9223372036854775808 ≤ x) (h' : x ≤ 9223372036854775807) : IntKind.i64.wrap x = x := by
  simp [IntKind.wrap, IntKind.signed, IntKind.bits]; omega
end
section
open Go
set_option linter.unusedSimpArgs false
set_option linter.unusedVariables false
def Sl.on (s : Sl) (b : Nat) : Prop := ∃ p, s.a = some p ∧ p.block = b
@[simp] theorem Sl.on_none {n c b : Nat} : ¬ (Sl.mk none n c).on b := by rintro ⟨p, h, _⟩; cases h
@[simp] theorem Sl.on_some {p : Addr} {n c b : Nat} : (Sl.mk (some p) n c).on b ↔ p.block = b := by simp [Sl.on]
def Rd {α : Type} (c : α → List Value) (k : Nat) (w : World) (s : Sl) (xs : List α) : Prop :=
  xs.length = s.n ∧ (s.a = none → s.n = 0) ∧ ∀ p, s.a = some p → ∀ i x, xs[i]? = some x → At w (p.add (i * k)) (c x)
section
variable {α : Type} {c : α → List Value} {k : Nat} {w w' : World} {s : Sl} {xs : List α} {S : Nat → Prop}
theorem Rd.touch (h : Rd c k w s xs) (t : Touch S w w') (hn : ∀ b, s.on b → ¬ S b) : Rd c k w' s xs :=
  ⟨h.1, h.2.1, fun p hp i x hx => (h.2.2 p hp i x hx).touch t (by rw [add_block]; exact hn _ ⟨p, hp, rfl⟩)⟩
theorem Rd.kept (h : Rd c k w s xs) (t : Touch (fun _ => False) w w') : Rd c k w' s xs := h.touch t (fun _ _ h => h)
theorem Rd.nil {n : Nat} : Rd c k w ⟨none, 0, n⟩ [] := ⟨rfl, fun _ => rfl, fun p h => by cases h⟩
theorem Rd.idx {K : Addr → Prop} {i : Int} (h : Rd c k w s xs) (h0 : 0 ≤ i) (hi : i < s.n) (hk : ∀ p x, s.a = some p → xs[i.toNat]? = some x → At w (p.add (i.toNat * k)) (c x) → K p) : IdxL s.a s.n i K := by
  have hlt : i.toNat < xs.length := by rw [h.1]; omega
  cases ha : s.a with
  | none => have := h.2.1 ha; omega
  | some p => exact ⟨h0, hi, hk p _ ha (List.getElem?_eq_getElem hlt) (h.2.2 p ha _ _ (List.getElem?_eq_getElem hlt))⟩
theorem Rd.lt (h : Rd c k w s xs) (hk : ∀ x, c x ≠ []) {b : Nat} (hb : s.on b) (hn : 0 < s.n) : b < w.heap.size := by
  obtain ⟨p, hp, rfl⟩ := hb
  have hlt : 0 < xs.length := by rw [h.1]; exact hn
  have := (h.2.2 p hp 0 _ (List.getElem?_eq_getElem hlt)).lt (hk _)
  simpa [add_block] using this
end
def Own {α : Type} (c : α → List Value) (k : Nat) (e : TypeId) (w : World) (s : Sl) (xs : List α) : Prop :=
  xs.length = s.n ∧ ((s = ⟨none, 0, 0⟩) ∨ ∃ b cs, s.a = some ⟨b, 0, none⟩ ∧ Blk w b cs e ∧ s.n ≤ s.c ∧ s.c ≤ maxLen ∧ cs.length = s.c * k ∧ cs.take (s.n * k) = xs.flatMap c)
section
variable {α : Type} {c : α → List Value} {k : Nat} {e : TypeId} {w w' : World} {s : Sl} {xs : List α} {S : Nat → Prop}
theorem Own.touch (h : Own c k e w s xs) (t : Touch S w w') (hn : ∀ b, s.on b → ¬ S b) : Own c k e w' s xs := by
  refine ⟨h.1, h.2.imp id ?_⟩
  rintro ⟨b, cs, ha, hb, r⟩
  exact ⟨b, cs, ha, hb.touch t (hn b ⟨_, ha, rfl⟩), r⟩
theorem Own.kept (h : Own c k e w s xs) (t : Touch (fun _ => False) w w') : Own c k e w' s xs := h.touch t (fun _ _ h => h)
theorem Own.nil : Own c k e w ⟨none, 0, 0⟩ [] := ⟨rfl, .inl rfl⟩
theorem Own.lt (h : Own c k e w s xs) {b : Nat} (hb : s.on b) : b < w.heap.size := by
  obtain ⟨p, hp, rfl⟩ := hb
  rcases h.2 with h | ⟨b, cs, ha, hb, _⟩
  · rw [h] at hp; cases hp
  · rw [ha] at hp; cases hp; exact hb.lt
theorem Own.rd (hk : ∀ x, (c x).length = k) (h : Own c k e w s xs) : Rd c k w s xs := by
  refine ⟨h.1, ?_, ?_⟩
  · intro ha
    rcases h.2 with h | ⟨b, cs, ha', _⟩
    · rw [h]
    · rw [ha'] at ha; cases ha
  · intro p hp i x hx
    rcases h.2 with h' | ⟨b, cs, ha, hb, hc, hm, hl, ht⟩
    · rw [h'] at hp; cases hp
    · rw [ha] at hp; cases hp
      rw [add_plain, Nat.zero_add]
      refine hb.at _ ?_
      have hlt : i < s.n := by
        rw [← h.1]
        rcases Nat.lt_or_ge i xs.length with h' | h'
        · exact h'
        · rw [List.getElem?_eq_none h'] at hx; cases hx
      have := flat_at hk hx
      rw [← ht, List.drop_take, List.take_take] at this
      rw [hk]
      rw [Nat.min_eq_left (by rw [← Nat.sub_mul]; exact Nat.le_mul_of_pos_left _ (by omega))] at this
      exact this
theorem Own.ownsRow (h : Own c k e w s xs) (hk : ∀ x, (c x).length = k) : w.ownsRow 0 e k (.slice s.a s.n s.c) s.n (xs.flatMap c) := by
  refine ⟨by rw [flat_length hk, h.1], ?_⟩
  rcases h.2 with h' | ⟨b, cs, ha, hb, hc, hm, hl, ht⟩
  · rw [h']; exact .inl ⟨rfl, rfl⟩
  · exact .inr ⟨b, s.c, cs.toArray, by rw [ha], Nat.zero_le _, hb, hc, hm, by simpa using hl, by simpa using ht⟩
theorem Own.ofRow {v : Value} {n : Nat} (h : w.ownsRow 0 e k v n (xs.flatMap c)) (hx : xs.length = n) : ∃ s : Sl, v = .slice s.a s.n s.c ∧ s.n = n ∧ Own c k e w s xs := by
  rcases h.2 with ⟨rfl, rfl⟩ | ⟨g, cap, cur, rfl, _, hg, hc, hm, hl, ht⟩
  · exact ⟨⟨none, 0, 0⟩, rfl, rfl, hx, .inl rfl⟩
  · refine ⟨⟨some ⟨g, 0, none⟩, n, cap⟩, rfl, rfl, hx, .inr ⟨g, cur.toList, rfl, ?_, hc, hm, by simpa using hl, ht⟩⟩
    unfold Blk
    rw [hg]
def ElemT (P : Program) (t e : TypeId) (k bytes : Nat) : Prop :=
  ∃ (i : TypeInfo) (z : Value), P.underlying t = some (.slice e) ∧ P.info? e = some i ∧ i.zero = some z ∧ i.size = k ∧ i.bytes = bytes ∧ z.cells.size = k ∧ 0 < k
theorem oneCell_all {v : Value} : v.oneCell' = true ↔ oneCell v = true := by cases v <;> simp [Value.oneCell', oneCell]
theorem flat_cells {ys : List α} {a : Addr} {m cap : Nat} (hk : ∀ x, (c x).length = k) (h0 : 0 < k) (hy : Rd c k w ⟨some a, m, cap⟩ ys) : ∀ j u, (ys.flatMap c)[j]? = some u → w.cell? (a.add j) = some u := by
  intro j u hu
  have hj : j < ys.length * k := by
    rw [← flat_length hk]
    rcases Nat.lt_or_ge j (ys.flatMap c).length with h' | h'
    · exact h'
    · rw [List.getElem?_eq_none h'] at hu; cases hu
  have hd : j / k < ys.length := (Nat.div_lt_iff_lt_mul h0).2 hj
  have hat := hy.2.2 a rfl (j / k) _ (List.getElem?_eq_getElem hd)
  have hq := flat_at hk (List.getElem?_eq_getElem hd)
  have hmod : j % k < k := Nat.mod_lt _ h0
  have hsplit : j = j / k * k + j % k := by rw [Nat.mul_comm]; exact (Nat.div_add_mod j k).symm
  have hu2 : (c ys[j / k])[j % k]? = some u := by
    rw [← hq, List.getElem?_take, if_pos hmod, List.getElem?_drop, ← hsplit]; exact hu
  have := hat (j % k) u hu2
  rw [addr_add_add, ← hsplit] at this
  exact this
theorem append_own {P : Program} {t ty bytes : Nat} (E : ElemT P t e k bytes) (hk : ∀ x, (c x).length = k) (h1 : ∀ x, ∀ u ∈ c x, u.oneCell' = true) (ho : Own c k e w s xs)
    {q : Option Addr} {m cap : Nat} {ys : List α} (hy : Rd c k w ⟨q, m, cap⟩ ys) (hb : (s.n + m) * bytes ≤ 140737488355328) (hb0 : 0 < bytes) (hcap : q = none → cap = 0) :
    ∃ (s' : Sl) (w' : World), (Builtin.append_ #[t, t] ty #[.slice s.a s.n s.c, .slice q m cap]).run P w = .ok (.slice s'.a s'.n s'.c) w' ∧
      Own c k e w' s' (xs ++ ys) ∧ Touch s.on w w' ∧ (∀ b, s'.on b → s.on b ∨ w.heap.size ≤ b) ∧ (s'.a = none ↔ s.a = none ∧ m = 0) := by
  obtain ⟨i, z, e1, e2, e3, e4, e5, e6, e7⟩ := E
  have hsum : s.n + m ≤ 140737488355328 := Nat.le_trans (Nat.le_mul_of_pos_right _ hb0) hb
  have hmax : s.n + m ≤ maxLen := by simp only [maxLen]; omega
  have how := ho.ownsRow hk
  have hml : ys.length = m := hy.1
  have on_eq : ∀ b, s.on b ↔ (Value.slice s.a s.n s.c).ownBlock = some b := by
    intro b
    cases ha : s.a with
    | none => simp [Sl.on, ha, Value.ownBlock]
    | some p => simp [Sl.on, ha, Value.ownBlock]
  have tch : ∀ w', w.grownBy w' (Value.slice s.a s.n s.c).ownBlock → Touch s.on w w' := fun w' hg =>
    ⟨hg.os, hg.tape, hg.output, hg.size, fun b hb hn => hg.block b hb (fun he => hn ((on_eq b).2 he.symm))⟩
  cases q with
  | none =>
    have hm0 : m = 0 := hy.2.1 rfl
    subst hm0
    have hc0 := hcap rfl
    subst hc0
    have hys : ys = [] := List.eq_nil_of_length_eq_zero hml
    subst hys
    refine ⟨s, w, run_append_owned_none (P := P) w 0 t ty e i k e1 e2 _ _ _ how, by simpa using ho, Touch.refl _ _, fun b hb => Or.inl hb, by simp⟩
  | some a =>
    obtain ⟨v', w', hr, hrow, hg, hnil⟩ := run_append_own (P := P) w 0 t ty e i z k bytes e1 e2 e3 e4 e5 e6 e7 (.slice s.a s.n s.c) s.n (xs.flatMap c) how a m cap (ys.flatMap c)
      (by rw [flat_length hk, hml]) (flat_cells hk e7 hy)
      (by intro u hu; obtain ⟨x, _, hx⟩ := List.mem_flatMap.1 hu; exact h1 x u hx)
      hmax hb (Nat.zero_le _)
    rw [← List.flatMap_append] at hrow
    obtain ⟨s', rfl, hn', ho'⟩ := Own.ofRow hrow (by rw [List.length_append, ho.1, hml])
    have hcells := flat_cells hk e7 hy
    have hlen : (ys.flatMap c).length = m * i.size := by rw [flat_length hk, hml, e4]
    have key : (∀ b, s'.on b → s.on b ∨ w.heap.size ≤ b) ∧ (s'.a = none ↔ s.a = none ∧ m = 0) := by
      rcases ho.2 with hs | ⟨b0, cs, ha, hb0', hc0, hm0, hl0, ht0⟩
      · rcases Nat.eq_zero_or_pos m with hm0 | hm0
        · have : Value.slice s'.a s'.n s'.c = .slice none 0 0 := hnil.2 ⟨by rw [hs], hm0⟩
          simp only [Value.slice.injEq] at this
          exact ⟨fun b hb => (by obtain ⟨p, hp, _⟩ := hb; rw [this.1] at hp; cases hp), by rw [this.1, hs]; simp [hm0]⟩
        · have hr2 := run_append_nil (P := P) w t ty e i z e1 e2 e3 a m cap (ys.flatMap c) hlen hcells hm0 (by omega) (by rw [e5]; rw [hs] at hb; simp only [Nat.zero_add] at hb; omega)
          rw [hs] at hr
          have := hr.symm.trans hr2
          simp only [Result.ok.injEq, Value.slice.injEq] at this
          refine ⟨fun b hb => Or.inr ?_, ?_⟩
          · obtain ⟨p, hp, rfl⟩ := hb
            rw [this.1.1] at hp; cases hp; exact Nat.le_refl _
          · rw [this.1.1]; simp; intro _; omega
      · by_cases hroom : s.n + m ≤ s.c
        · obtain ⟨w2, hr2, _, _⟩ := run_append_fits (P := P) w 0 t ty e i k e1 e2 e4 b0 s.n s.c (xs.flatMap c) (by have := how; rw [ha] at this; exact this) a m cap (ys.flatMap c) (by rw [flat_length hk, hml]) hcells
            (by intro u hu; obtain ⟨x, _, hx⟩ := List.mem_flatMap.1 hu; exact h1 x u hx) hroom
          rw [ha] at hr
          have := hr.symm.trans hr2
          simp only [Result.ok.injEq, Value.slice.injEq] at this
          refine ⟨fun b hb => Or.inl ?_, ?_⟩
          · obtain ⟨p, hp, rfl⟩ := hb
            rw [this.1.1] at hp; cases hp; exact ⟨_, ha, rfl⟩
          · rw [this.1.1, ha]; simp
        · have hr2 := run_append_grow (P := P) w t ty e i z e1 e2 e3 ⟨b0, 0, none⟩ s.n s.c (xs.flatMap c) (by rw [flat_length hk, ho.1, e4]) (by
              have := how.cells (g := b0) (by rw [ha]; rfl)
              exact this) a m cap (ys.flatMap c) hlen hcells (by omega) (by omega) (growslice_fits (by omega) (by rw [e5]; exact hb))
          rw [ha] at hr
          have := hr.symm.trans hr2
          simp only [Result.ok.injEq, Value.slice.injEq] at this
          refine ⟨fun b hb => Or.inr ?_, ?_⟩
          · obtain ⟨p, hp, rfl⟩ := hb
            rw [this.1.1] at hp; cases hp; exact Nat.le_refl _
          · rw [this.1.1, ha]; simp
    exact ⟨s', w', hr, ho', tch w' hg, key.1, key.2⟩
theorem RunL.append {P : Program} {t ty bytes N : Nat} {L : List LB} {R : Value → World → Prop} (E : ElemT P t e k bytes) (hb0 : 0 < bytes) (hk : ∀ x, (c x).length = k) (h1 : ∀ x, ∀ u ∈ c x, u.oneCell' = true)
    (ho : Own c k e w s xs) {q : Option Addr} {m cap : Nat} {ys : List α} (hy : Rd c k w ⟨q, m, cap⟩ ys) (hcap : q = none → cap = 0) (hb : (s.n + m) * bytes ≤ 140737488355328)
    (hso : ∀ b, s.on b → b ∉ blk L) (hyo : ∀ b, (Sl.mk q m cap).on b → b ∉ blk L)
    (hR : ∀ (wa : World) (s' : Sl) (w' : World), Loc N w L wa → Touch s.on wa w' → Own c k e w' s' (xs ++ ys) → (∀ b, s'.on b → s.on b ∨ wa.heap.size ≤ b) → (s'.a = none ↔ s.a = none ∧ m = 0) → R (.slice s'.a s'.n s'.c) w') :
    RunL P N w L (Builtin.append_ #[t, t] ty #[.slice s.a s.n s.c, .slice q m cap]) R := by
  refine ⟨s.on, fun b hb => ⟨ho.lt hb, hso b hb⟩, fun wa hl => ?_⟩
  obtain ⟨s', w', hr, h2, h3, h4, h5⟩ := append_own (P := P) (w := wa) (t := t) (ty := ty) E hk h1 (ho.touch hl.touch hso) (hy.touch hl.touch hyo) hb hb0 hcap
  exact ⟨_, w', hr, h3, hR wa s' w' hl h3 h2 h4 h5⟩
theorem NewL.append1 {P : Program} {t ty bytes N T : Nat} {L : List LB} {cs : List Value} {R : Nat → Value → World → Prop} (E : ElemT P t e k bytes) (hb0 : 0 < bytes) (hk : ∀ x, (c x).length = k) (h1 : ∀ x, ∀ u ∈ c x, u.oneCell' = true)
    (ho : Own c k e w s xs) {x : α} (hcs : cs = c x) (hb : (s.n + 1) * bytes ≤ 140737488355328) (hso : ∀ b, s.on b → b ∉ blk L)
    (hR : ∀ (b : Nat) (s' : Sl) (w' : World), Touch (fun b => s.on b ∨ b ∈ blk L) w w' → Own c k e w' s' (xs ++ [x]) → (∀ b, s'.on b → s.on b ∨ w.heap.size ≤ b) → s'.a ≠ none → (∀ b ∈ blk L, b < w'.heap.size) → R b (.slice s'.a s'.n s'.c) w') :
    NewL N w L cs T fun b w4 => RunL P N w4 L (Builtin.append_ #[t, t] ty #[.slice s.a s.n s.c, .slice (some ⟨b, 0, none⟩) 1 1]) (R b) := by
  subst hcs
  intro wa hl
  have hblk : Blk (wa.alloc (.cells (c x).toArray T)) wa.heap.size (c x) T := by
    show (wa.heap.push _)[wa.heap.size]? = _
    simp
  have htw : Touch (fun b => b ∈ blk L) w (wa.alloc (.cells (c x).toArray T)) := hl.touch.alloc _
  have hy : Rd c k (wa.alloc (.cells (c x).toArray T)) ⟨some ⟨wa.heap.size, 0, none⟩, 1, 1⟩ [x] := by
    refine ⟨rfl, fun h => (by cases h), fun p hp i y hi => ?_⟩
    cases hp
    match i, hi with
    | 0, hi =>
      simp at hi; subst hi
      rw [add_plain]
      exact hblk.at _ (by simp)
    | i + 1, hi => simp at hi
  refine RunL.append E hb0 hk h1 (ho.touch htw hso) hy (fun h => by cases h) hb hso ?_ ?_
  · intro b hb hm
    simp at hb
    have := hl.lt hm
    omega
  · intro wb s' w' hl2 ht h2 h3 h4
    refine hR _ s' w' (((htw.mono (fun _ _ h => Or.inr h)).comp hl2.touch (fun _ _ h => Or.inr h)).comp ht (fun _ _ h => Or.inl h)) h2 ?_ ?_ ?_
    · intro b hb
      have hsz : w.heap.size ≤ wb.heap.size := Nat.le_trans htw.size hl2.touch.size
      exact (h3 b hb).imp id (fun h => by omega)
    · intro h
      have := h4.1 h
      simp at this
    · intro b hb
      have := hl2.lt hb
      exact Nat.lt_of_lt_of_le this ht.size
end
end
section
open Go
set_option linter.unusedSimpArgs false
set_option linter.unusedVariables false
abbrev byteC : UInt8 → List Value := fun b => [.int .u8 (b.toNat : Int)]
theorem byteC_len (b : UInt8) : (byteC b).length = 1 := rfl
def ElemZ (P : Program) (t e : TypeId) (k bytes : Nat) (zs : List Value) : Prop :=
  ∃ (i : TypeInfo) (z : Value), P.underlying t = some (.slice e) ∧ P.info? e = some i ∧ i.zero = some z ∧ i.size = k ∧ i.bytes = bytes ∧ z.cells.toList = zs ∧ zs.length = k ∧ 0 < k
theorem ElemZ.t {P : Program} {t e k bytes : Nat} {zs : List Value} (h : ElemZ P t e k bytes zs) : ElemT P t e k bytes := by
  obtain ⟨i, z, h1, h2, h3, h4, h5, h6, h7, h8⟩ := h
  exact ⟨i, z, h1, h2, h3, h4, h5, by rw [← Array.length_toList, h6, h7], h8⟩
theorem ElemZ.of {P : Program} {t e k bytes : Nat} {zs : List Value} (h1 : P.underlying t = some (.slice e)) (h2 : (P.info? e).map (fun i => (i.size, i.bytes)) = some (k, bytes))
    (h3 : ((P.info? e).bind (·.zero)).map (fun z => z.cells.toList) = some zs) (h4 : zs.length = k) (h5 : 0 < k) : ElemZ P t e k bytes zs := by
  cases hi : P.info? e with
  | none => rw [hi] at h2; cases h2
  | some i =>
    rw [hi] at h2 h3
    simp only [Option.map_some, Option.some.injEq, Prod.mk.injEq, Option.bind_some] at h2 h3
    cases hz : i.zero with
    | none => rw [hz] at h3; cases h3
    | some z =>
      rw [hz] at h3
      simp only [Option.map_some, Option.some.injEq] at h3
      exact ⟨i, z, h1, hi, hz, h2.1, h2.2, h3, h4, h5⟩
theorem made_flat (z : Array Value) (hz : 0 < z.size) : ∀ n : Nat, (madeCells z (n * z.size)).toList = (List.replicate n z.toList).flatten := by
  intro n
  apply List.ext_getElem?
  intro j
  have hfl : (List.replicate n z.toList).flatten = (List.replicate n ()).flatMap (fun _ => z.toList) := by
    rw [List.flatMap_def]; simp
  by_cases hj : j < n * z.size
  · have hd : j / z.size < n := (Nat.div_lt_iff_lt_mul hz).2 hj
    have hm : j % z.size < z.size := Nat.mod_lt _ hz
    have h1 := flat_at (c := fun _ : Unit => z.toList) (k := z.size) (fun _ => by simp) (xs := List.replicate n ()) (i := j / z.size) (x := ()) (by simp [hd])
    have hs : j = j / z.size * z.size + j % z.size := by rw [Nat.mul_comm]; exact (Nat.div_add_mod j z.size).symm
    have h2 : (z.toList)[j % z.size]? = ((List.replicate n ()).flatMap (fun _ => z.toList))[j]? := by
      have h3 := congrArg (fun l : List Value => l[j % z.size]?) h1
      simp only [List.getElem?_take, if_pos hm, List.getElem?_drop, ← hs] at h3
      exact h3.symm
    rw [hfl, ← h2]
    simp [madeCells, hj, hm, getElem!_pos]
  · have hl : ((List.replicate n ()).flatMap (fun _ => z.toList)).length = n * z.size := by rw [flat_length (k := z.size) (fun _ => by simp)]; simp
    rw [hfl, List.getElem?_eq_none (by rw [Array.length_toList, size_madeCells]; omega), List.getElem?_eq_none (by omega)]
section
variable {α : Type} {c : α → List Value} {k : Nat} {e : TypeId} {w w' : World} {s : Sl} {xs : List α} {S : Nat → Prop}
theorem RunL.makeSlice {P : Program} {t bytes N : Nat} {L : List LB} {R : Value → World → Prop} {z0 : α} (E : ElemZ P t e k bytes (c z0)) {kl kc : IntKind} {n : Int} (h0 : 0 ≤ n) (hb : n.toNat * bytes ≤ 281474976710656) (hm : n.toNat ≤ maxLen)
    (hR : ∀ (wa : World) (s' : Sl) (w' : World), Loc N w L wa → Touch (fun _ => False) wa w' → Own c k e w' s' (List.replicate n.toNat z0) → (∀ b, s'.on b → wa.heap.size ≤ b) → R (.slice s'.a s'.n s'.c) w') :
    RunL P N w L (Instr.makeSlice t (.int kl n) (.int kc n)) R := by
  refine ⟨fun _ => False, Ok.none, fun wa hl => ?_⟩
  obtain ⟨i, z, h1, h2, h3, h4, h5, h6, h7, h8⟩ := E
  obtain ⟨w', hr, ho, hg⟩ := run_make_full (P := P) wa 0 t e i z k h1 h2 h3 h4 kl kc n.toNat (by rw [h5, Nat.mul_comm]; exact hb) hm (Nat.zero_le _)
  rw [Int.toNat_of_nonneg h0] at hr
  have hzk : z.cells.size = k := by rw [← Array.length_toList, h6, h7]
  have hcells : (madeCells z.cells (n.toNat * k)).toList = (List.replicate n.toNat z0).flatMap c := by
    rw [← hzk, made_flat _ (by omega), h6, List.flatMap_def]; simp
  rw [hcells] at ho
  have ht : Touch (fun _ => False) wa w' := ⟨hg.os, hg.tape, hg.output, hg.size, fun b hb _ => hg.block b hb (by simp)⟩
  obtain ⟨s', hs', hn', how⟩ := Own.ofRow ho (by simp)
  refine ⟨_, w', hr, ht, ?_⟩
  rw [hs']
  refine hR wa s' w' hl ht how (fun b hb => ?_)
  simp only [Value.slice.injEq] at hs'
  obtain ⟨p, hp, rfl⟩ := hb
  rw [← hs'.1] at hp
  cases hp
  exact Nat.le_refl _
theorem Own.set (h : Own c k e w s xs) (hk : ∀ x, (c x).length = k) {i : Nat} (hi : i < xs.length) (y : α) :
    ∃ p, s.a = some p ∧ RoomAt w (p.add (i * k)) (c y).length ∧ (p.add (i * k)).block = p.block ∧ Own c k e (putC w (p.add (i * k)) (c y)) s (xs.set i y) := by
  have hlen := h.1
  rcases h.2 with hs | ⟨b, cs, ha, hb, hc, hm, hl, ht⟩
  · rw [hs] at hlen; simp only at hlen; omega
  · have hik : i * k + k ≤ s.n * k := by rw [← Nat.succ_mul]; exact Nat.mul_le_mul_right _ (by omega)
    have hck : s.n * k ≤ s.c * k := Nat.mul_le_mul_right _ hc
    refine ⟨⟨b, 0, none⟩, ha, ?_, add_block _ _, by simpa using hlen, .inr ⟨b, lspl cs (i * k) (c y), ha, ?_, hc, hm, by rw [lspl_length]; exact hl, ?_⟩⟩
    · rw [add_plain, Nat.zero_add, hk]
      exact hb.room (by omega)
    · rw [add_plain, Nat.zero_add]
      exact hb.putC _ _
    · have := flat_set hk hi y
      rw [← ht] at this
      rw [← this, lspl_eq _ _ _ (by rw [hk]; omega), lspl_eq _ _ _ (by rw [hk, List.length_take]; omega), hk]
      rw [List.take_append, List.take_append, List.take_of_length_le (l := c y) (by rw [hk]; simp; omega)]
      rw [List.take_take, List.take_take, Nat.min_eq_right (by omega), Nat.min_eq_left (by omega), List.drop_take]
      congr 2
      simp [hk]
      omega
theorem RunL.bytesStr {P : Program} {t ts N : Nat} {L : List LB} {R : Value → World → Prop} {bs : List UInt8} (h1 : P.underlying t = some (.slice e)) (h2 : P.underlying e = some (.int .u8)) (h3 : P.underlying ts = some .string)
    (h : Rd byteC 1 w s bs) (hso : ∀ b, s.on b → b ∉ blk L) (hR : ∀ wa, Loc N w L wa → R (.string ⟨bs.toArray⟩) wa) : RunL P N w L (convert t ts (.slice s.a s.n s.c)) R := by
  refine ⟨fun _ => False, Ok.none, fun wa hl => ?_⟩
  have h' := h.touch hl.touch hso
  cases ha : s.a with
  | none =>
    have h0 := h.2.1 ha
    have hbs : bs = [] := List.eq_nil_of_length_eq_zero (by rw [h.1, h0])
    subst hbs
    refine ⟨.string ⟨#[]⟩, wa, ?_, Touch.refl _ _, hR wa hl⟩
    rw [run_convert_bytes_string wa t ts e none _ _ h1 h2 h3]
    simp [Conv.bytesToString]
    rfl
  | some p =>
    refine ⟨_, wa, ?_, Touch.refl _ _, hR wa hl⟩
    rw [← h.1]
    refine run_convert_bytes_back wa t ts e p s.c bs h1 h2 h3 (fun j hj => ?_)
    have := h'.2.2 p ha j _ (List.getElem?_eq_getElem hj) 0 (.int .u8 (bs[j].toNat : Int)) (by simp)
    simpa [addr_add_add] using this
theorem Rd.take (h : Rd c k w s xs) {i : Nat} (hi : i ≤ xs.length) {cap : Nat} : Rd c k w ⟨s.a, i, cap⟩ (xs.take i) := by
  refine ⟨by simp [hi], fun ha => ?_, fun p hp j x hx => ?_⟩
  · have := h.2.1 ha; have := h.1; simp only; omega
  · rw [List.getElem?_take] at hx
    split at hx
    · exact h.2.2 p hp j x hx
    · cases hx
theorem Rd.drop (h : Rd c k w s xs) {i : Nat} (hi : i ≤ xs.length) (hcap : s.n ≤ s.c) {cap : Nat} : Rd c k w ⟨slA s.a s.c i k, s.n - i, cap⟩ (xs.drop i) := by
  have hl := h.1
  refine ⟨by simp [hl], fun ha => ?_, fun p hp j x hx => ?_⟩
  · unfold slA at ha
    split at ha
    · have := h.2.1 ha; simp only; omega
    · have := h.2.1 (by simpa using ha); simp only; omega
  · rw [List.getElem?_drop] at hx
    unfold slA at hp
    split at hp
    · rename_i e
      have : i + j < xs.length := by
        rcases Nat.lt_or_ge (i + j) xs.length with h' | h'
        · exact h'
        · rw [List.getElem?_eq_none h'] at hx; cases hx
      omega
    · cases ha : s.a with
      | none => rw [ha] at hp; cases hp
      | some q =>
        rw [ha] at hp
        simp only [Option.map_some, Option.some.injEq] at hp
        rw [← hp, addr_add_add, ← Nat.add_mul]
        exact h.2.2 q ha (i + j) x hx
theorem slA_on {b i k : Nat} {n cap : Nat} : (Sl.mk (slA s.a s.c i k) n cap).on b → s.on b := by
  rintro ⟨p, hp, rfl⟩
  unfold slA at hp
  simp only at hp
  split at hp
  · exact ⟨p, hp, rfl⟩
  · cases ha : s.a with
    | none => rw [ha] at hp; cases hp
    | some q =>
      rw [ha] at hp
      simp only [Option.map_some, Option.some.injEq] at hp
      exact ⟨q, ha, by rw [← hp, add_block]⟩
theorem Own.cap (h : Own c k e w s xs) : s.n ≤ s.c ∧ (s.a = none → s.c = 0) := by
  rcases h.2 with h' | ⟨b, cs, ha, _, hc, _⟩
  · rw [h']; exact ⟨Nat.le_refl _, fun _ => rfl⟩
  · exact ⟨hc, fun h => by rw [ha] at h; cases h⟩
theorem Blk.own0 {b : Nat} (h : Blk w b [] e) : Own c k e w ⟨some ⟨b, 0, none⟩, 0, 0⟩ [] :=
  ⟨rfl, .inr ⟨b, [], rfl, h, Nat.le_refl _, by simp [maxLen], by simp, by simp⟩⟩
theorem Blk.rd1 {b T : Nat} {x : α} (h : Blk w b (c x) T) : Rd c k w ⟨some ⟨b, 0, none⟩, 1, 1⟩ [x] := by
  refine ⟨rfl, fun h => (by cases h), fun p hp i y hi => ?_⟩
  cases hp
  match i, hi with
  | 0, hi =>
    simp at hi; subst hi
    rw [add_plain]
    exact h.at _ (by simp)
  | i + 1, hi => simp at hi
theorem RunL.app {P : Program} {t ty bytes N : Nat} {L : List LB} {R : Value → World → Prop} {w0 : World} {S0 : Nat → Prop} (T : Now S0 w0 w) (hN : w0.heap.size ≤ N) (E : ElemT P t e k bytes) (hb0 : 0 < bytes) (hk : ∀ x, (c x).length = k) (h1 : ∀ x, ∀ u ∈ c x, u.oneCell' = true)
    (ho : Own c k e w s xs) {q : Option Addr} {m cap : Nat} {ys : List α} (hy : Rd c k w ⟨q, m, cap⟩ ys) (hcap : q = none → cap = 0) (hb : (s.n + m) * bytes ≤ 140737488355328)
    (hs : ∀ b, b < w0.heap.size → s.on b → S0 b) (hso : ∀ b, s.on b → b ∉ blk L) (hyo : ∀ b, (Sl.mk q m cap).on b → b ∉ blk L)
    (hR : ∀ (s' : Sl) (w' : World), Now S0 w0 w' → Touch (fun b => b ∈ blk L ∨ s.on b) w w' → Own c k e w' s' (xs ++ ys) → (∀ b, s'.on b → s.on b ∨ w.heap.size ≤ b) → (∀ b, s'.on b → b ∉ blk L) → R (.slice s'.a s'.n s'.c) w') :
    RunL P N w L (Builtin.append_ #[t, t] ty #[.slice s.a s.n s.c, .slice q m cap]) R :=
  RunL.append E hb0 hk h1 ho hy hcap hb hso hyo (fun wa s' w' hl ht how hf _ =>
    hR s' w' ((T.loc hl hN).comp ht hs) ((hl.touch.mono (fun _ _ h => Or.inl h)).comp ht (fun _ _ h => Or.inr h)) how
      (fun b hb => (hf b hb).imp id (fun h => Nat.le_trans hl.touch.size h))
      (fun b hb hm => by
        rcases hf b hb with h | h
        · exact hso b h hm
        · have := hl.lt hm; omega))
end
end
section
open Go
open Go.RowKit
set_option linter.unusedSimpArgs false
set_option linter.unusedVariables false
def okLeaf : Leaf → Value → Prop
  | .bool, v => ∃ b, v = .bool b
  | .int k, v => ∃ n, v = .int k n ∧ (Lit.int k n).wf = true
  | .string, v => ∃ s : ByteArray, v = .string s ∧ s.size ≤ maxLen
  | _, _ => False
def okLeaves : List Leaf → List Value → Prop
  | [], cs => cs = []
  | l :: r, cs => ∃ v u, okLeaf l v ∧ okLeaves r u ∧ cs = v :: u
theorem okLeaves_append : ∀ {a b : List Leaf} {x y : List Value}, okLeaves a x → okLeaves b y → okLeaves (a ++ b) (x ++ y)
  | [], b, x, y, h, g => by cases h; exact g
  | l :: r, b, x, y, h, g => by
    obtain ⟨v, u, h1, h2, rfl⟩ := h
    exact ⟨v, u ++ y, h1, okLeaves_append h2 g, rfl⟩
theorem okLeaves_len : ∀ {a : List Leaf} {x : List Value}, okLeaves a x → x.length = a.length
  | [], x, h => by cases h; rfl
  | l :: r, x, h => by
    obtain ⟨v, u, h1, h2, rfl⟩ := h
    simp [okLeaves_len h2]
def flatF (P : Program) (g : TypeId → Option (List Leaf)) : List Field → Nat → Option (List Leaf)
  | [], _ => some []
  | f :: r, off =>
    match g f.type with
    | some ls => if Nat.beq f.offset off && Nat.beq (P.cellsOf f.type) ls.length then (flatF P g r (off + ls.length)).map (ls ++ ·) else none
    | none => none
def flatT (P : Program) : Nat → TypeId → Option (List Leaf)
  | 0, _ => none
  | d + 1, t =>
    match P.underlying t with
    | some .bool => some [.bool]
    | some (.int k) => some [.int k]
    | some .string => some [.string]
    | some (.struct fs) =>
      match flatF P (flatT P d) fs.toList 0 with
      | some ls => if Nat.beq (P.cellsOf t) ls.length then some ls else none
      | none => none
    | _ => none
section
variable {H : Type} {enc : TypeId × Value → H} {P : Program} {w : World} {base : Nat} {sp : Nat → Bool} {held : Bool}
theorem flatF_spec {g : TypeId → Option (List Leaf)} {tr : TypeId → List Value → Prop} (hg : ∀ t ls cs, g t = some ls → tr t cs → okLeaves ls cs) {cs : List Value} :
    ∀ (fs : List Field) (off : Nat) (ls : List Leaf), flatF P g fs off = some ls → (∀ f ∈ fs, tr f.type ((cs.drop f.offset).take (P.cellsOf f.type))) → cs.length = off + ls.length → okLeaves ls (cs.drop off)
  | [], off, ls, h, _, hl => by
    simp [flatF] at h
    subst h
    simp at hl
    show cs.drop off = []
    exact List.drop_of_length_le (by omega)
  | f :: r, off, ls, h, hall, hl => by
    unfold flatF at h
    split at h
    · rename_i l1 hl1
      split at h
      · rename_i hb
        simp only [Bool.and_eq_true, Nat.beq_eq] at hb
        cases hr : flatF P g r (off + l1.length) with
        | none => rw [hr] at h; cases h
        | some l2 =>
          rw [hr] at h
          simp only [Option.map_some, Option.some.injEq] at h
          subst h
          have h1 := hg _ _ _ hl1 (hall f (by simp))
          rw [hb.1, hb.2] at h1
          have h2 := flatF_spec hg r _ _ hr (fun x hx => hall x (by simp [hx])) (by rw [List.length_append] at hl; omega)
          have := okLeaves_append h1 h2
          rw [← List.drop_drop] at this
          rwa [List.take_append_drop] at this
      · cases h
    · cases h
theorem flatT_spec : ∀ (d : Nat) (t : TypeId) (ls : List Leaf) (n : Nat) (cs : List Value) (y : DataW H × List MemPlace), flatT P d t = some ls → DataW.trod enc P w base sp held n t cs = some y → okLeaves ls cs
  | 0, t, ls, n, cs, y, h, _ => by simp [flatT] at h
  | d + 1, t, ls, n, cs, y, h, hy => by
    unfold flatT at h
    split at h
    · rename_i ht
      cases h
      obtain ⟨b, rfl, _⟩ : ∃ b, cs = [.bool b] ∧ True := by
        cases n with
        | zero => simp [DataW.trod] at hy
        | succ n =>
          unfold DataW.trod at hy
          rw [ht] at hy
          split at hy <;> simp_all
      exact ⟨_, [], ⟨b, rfl⟩, rfl, rfl⟩
    · rename_i k ht
      cases h
      obtain ⟨m, rfl, _, hw⟩ := DataW.trod_int ht hy
      exact ⟨_, [], ⟨m, rfl, hw⟩, rfl, rfl⟩
    · rename_i ht
      cases h
      obtain ⟨s, rfl, _, hw⟩ := DataW.trod_string ht hy
      exact ⟨_, [], ⟨s, rfl, hw⟩, rfl, rfl⟩
    · rename_i fs ht
      split at h
      · rename_i l1 hl1
        split at h
        · rename_i hb
          simp only [Option.some.injEq] at h
          subst h
          rw [Nat.beq_eq] at hb
          obtain ⟨xs, m, rfl, _, hlen, hxl, hf⟩ := DataW.trod_struct ht hy
          have := flatF_spec (P := P) (g := flatT P d) (tr := fun t cs => ∃ y, DataW.trod enc P w base sp held m t cs = some y) (cs := cs) (fun t ls cs h1 ⟨y, h2⟩ => flatT_spec d t ls m cs y h1 h2) fs.toList 0 l1 hl1 ?_ (by omega)
          · simpa using this
          · intro f hfm
            obtain ⟨i, hi, he⟩ := List.getElem_of_mem hfm
            have h1 := hf i f (by simp at hi; simp [hi, ← he])
            have : i < xs.length := by simp at hi; omega
            rw [List.getElem?_eq_getElem this] at h1
            exact ⟨_, h1⟩
        · cases h
      · cases h
    · cases h
theorem at_of_cells {a : Addr} {n : Nat} {cs : List Value} (h : w.cells? base a n = some cs) : At w a cs := by
  obtain ⟨_, hl, hi⟩ := World.cells?_some h
  intro j v hj
  have : j < cs.length := by
    rcases Nat.lt_or_ge j cs.length with h' | h'
    · exact h'
    · rw [List.getElem?_eq_none h'] at hj; cases hj
  rw [hi j (by omega), hj]
theorem choose_list {α : Type} {p : Nat → α → Prop} : ∀ {n : Nat}, (∀ i, i < n → ∃ x, p i x) → ∃ xs : List α, xs.length = n ∧ ∀ i x, xs[i]? = some x → p i x
  | 0, _ => ⟨[], rfl, fun i x h => by simp at h⟩
  | n + 1, h => by
    obtain ⟨xs, hl, hx⟩ := choose_list (n := n) (fun i hi => h i (by omega))
    obtain ⟨y, hy⟩ := h n (by omega)
    refine ⟨xs ++ [y], by simp [hl], fun i x hi => ?_⟩
    rcases Nat.lt_or_ge i n with h' | h'
    · rw [List.getElem?_append_left (by omega)] at hi; exact hx i x hi
    · rw [List.getElem?_append_right (by omega)] at hi
      have : i = n := by
        rcases Nat.eq_zero_or_pos (i - xs.length) with h0 | h0
        · omega
        · rw [List.getElem?_eq_none (by simp; omega)] at hi; cases hi
      subst this
      simp [hl] at hi
      subst hi
      exact hy
structure In {α : Type} (c : α → List Value) (k : Nat) (φ : α → Prop) (w : World) (s : Sl) (xs : List α) : Prop where
  rd : Rd c k w s xs
  lt : ∀ b, s.on b → b < w.heap.size
  cap : s.n ≤ s.c
  capm : s.c ≤ maxLen
  capn : s.a = none → s.c = 0
  all : ∀ x ∈ xs, φ x
theorem open_slice {α : Type} {c : α → List Value} {k : Nat} {φ : α → Prop} {t e : TypeId} {v : Value} {b0 : Nat} {d : DataW H} {ps : List MemPlace} (ht : P.underlying t = some (.slice e)) (hk : P.cellsOf e = k)
    (hel : ∀ n cs y, DataW.trod enc P w base sp held n e cs = some y → ∃ x, cs = c x ∧ φ x) (hval : Value.okWide P w .any b0 t v) (h : DataW.Trod enc P w base sp held t v d ps) :
    ∃ (s : Sl) (xs : List α), v = .slice s.a s.n s.c ∧ In c k φ w s xs := by
  obtain ⟨fuel, h⟩ := h
  rcases DataW.trod_slice ht h with ⟨h0, _⟩ | ⟨a, len, cap, elems, rest, n, _, h0, _, hb, hl, hm, hlen, hel', _, _⟩
  · have hv : v = .slice none 0 0 := by
      cases v <;> simp [Value.cells] at h0 <;> first | exact congrArg _ h0 | (obtain ⟨rfl, rfl, rfl⟩ := h0; rfl) | skip
      all_goals (unfold Value.okWide at hval; rw [ht] at hval; unfold Cell.okWide at hval; rw [ht] at hval; simp [Cell.ok, ht] at hval)
    exact ⟨⟨none, 0, 0⟩, [], hv, Rd.nil, fun b hb => by simp at hb, Nat.le_refl _, Nat.zero_le _, fun _ => rfl, fun x hx => by cases hx⟩
  · have hv : v = .slice (some a) len cap := by
      cases v <;> simp [Value.cells] at h0 <;> first | exact congrArg _ h0 | (obtain ⟨rfl, rfl, rfl⟩ := h0; rfl) | skip
      all_goals (unfold Value.okWide at hval; rw [ht] at hval; unfold Cell.okWide at hval; rw [ht] at hval; simp [Cell.ok, ht] at hval)
    subst hv
    have hlt : a.block < w.heap.size := by
      unfold Value.okWide at hval
      rw [ht] at hval
      unfold Cell.okWide at hval
      rw [ht] at hval
      simp only [Cell.ok, ht, World.has] at hval
      obtain ⟨_, _, _, _, row, cells, hs, _⟩ := hval
      unfold World.shape? at hs
      rcases Nat.lt_or_ge a.block w.heap.size with h' | h'
      · exact h'
      · rw [Array.getElem?_eq_none h'] at hs; cases hs
    obtain ⟨xs, hxl, hx⟩ := choose_list (p := fun i x => At w (a.add (i * k)) (c x) ∧ φ x) (n := len) (fun i hi => by
      have h1 := hel' i hi
      rw [hk] at h1
      have : i < elems.length := by omega
      rw [List.getElem?_eq_getElem this] at h1
      simp only [Option.bind_eq_some_iff] at h1
      obtain ⟨cs', h2, h3⟩ := h1
      obtain ⟨x, rfl, hφ⟩ := hel n cs' _ h3
      exact ⟨x, at_of_cells h2, hφ⟩)
    refine ⟨⟨some a, len, cap⟩, xs, rfl, ⟨hxl, (fun h => by cases h), (fun p hp i x hi => by cases hp; exact (hx i x hi).1)⟩, fun b hb => by simp at hb; rw [← hb]; exact hlt, hl, hm, (fun h => by cases h), fun x hx' => ?_⟩
    obtain ⟨i, hi, he⟩ := List.getElem_of_mem hx'
    exact (hx i x (by rw [List.getElem?_eq_getElem hi, he])).2
theorem open_agg {t : TypeId} {fs : Array Field} {v : Value} {b0 : Nat} {d : DataW H} {ps : List MemPlace} {ls : List Leaf} {m : Nat} (ht : P.underlying t = some (.struct fs)) (hp : flatT P m t = some ls)
    (hval : Value.okWide P w .any b0 t v) (h : DataW.Trod enc P w base sp held t v d ps) : ∃ cs : List Value, v = .agg cs.toArray ∧ okLeaves ls cs := by
  obtain ⟨fuel, h⟩ := h
  have h1 := flatT_spec m t ls fuel _ _ hp h
  unfold Value.okWide at hval
  rw [ht] at hval
  obtain ⟨cs, rfl, _, _⟩ := hval
  exact ⟨cs.toList, by simp, by simpa [Value.cells] using h1⟩
theorem open_bytes {t e : TypeId} (ht : P.underlying t = some (.slice e)) (he : P.underlying e = some (.int .u8)) (n : Nat) (cs : List Value) (y : DataW H × List MemPlace)
    (h : DataW.trod enc P w base sp held n e cs = some y) : ∃ x : UInt8, cs = byteC x ∧ True := by
  obtain ⟨m, rfl, _, hw⟩ := DataW.trod_int he h
  have : 0 ≤ m ∧ m ≤ 255 := by simpa [Lit.wf, IntKind.min, IntKind.max, IntKind.signed, IntKind.bits] using hw
  refine ⟨UInt8.ofNat m.toNat, ?_, trivial⟩
  simp only [byteC, List.cons.injEq, and_true, Value.int.injEq, true_and]
  rw [UInt8.toNat_ofNat']
  omega
end
theorem trodAll_stays {H : Type} {enc : TypeId × Value → H} {P : Program} (hl : laidOutB P = true) {W W' : World} (hb : Below W.heap.size W W') :
    ∀ {ts : List TypeId} {vs : List Value} {ds : List (DataW H)} {ps : List MemPlace}, (∀ t ∈ ts, P.readableRec t = true ∧ t < P.types.size) → (∀ x ∈ ps, x.block < W.heap.size) →
      DataW.TrodAll enc P W 0 (fun _ => true) true ts vs ds ps → DataW.TrodAll enc P W' 0 (fun b => decide (b < W.heap.size)) true ts vs ds ps
  | [], [], [], ps, _, _, h => h
  | t :: ts, v :: vs, d :: ds, ps, hr, hlt, h => by
    obtain ⟨p, q, h1, h2, rfl⟩ := h
    exact ⟨p, q, Below.trod hl (hr t (by simp)).1 (hr t (by simp)).2 h1 hb (fun x hx => hlt x (by simp [hx])), trodAll_stays hl hb (fun x hx => hr x (by simp [hx])) (fun x hx => hlt x (by simp [hx])) h2, rfl⟩
  | [], [], _ :: _, _, _, _, h => h.elim
  | [], _ :: _, _, _, _, _, h => h.elim
  | _ :: _, [], _, _, _, _, h => h.elim
  | _ :: _, _ :: _, [], _, _, _, h => h.elim
theorem Touch.below {W W' : World} (h : Touch (fun _ => False) W W') : Below W.heap.size W W' := ⟨h.os, h.tape, h.output, h.size, fun k hk => h.block k hk (fun h => h)⟩
theorem law_post {H : Type} {enc : TypeId × Value → H} {P : Program} {f : Func} {s : ChangeSpec} {tb : TypeId} {W W' : World} {args : Array Value} {ds gs : List (DataW H)} {before : List MemPlace}
    (hl : laidOutB P = true) (hr : ∀ t ∈ f.params.toList, P.readableRec t = true ∧ t < P.types.size) (hres : f.resultTypes = #[tb]) (hb : P.underlying tb = some .bool) (hv : s.vars = [])
    (hs : s.fn H ds = { results := [.lit (.bool true)], args := ds }) (hW : DataW.Whole enc P f.params.toList s.vars false W args.toList ds gs before) (ht : Touch (fun _ => False) W W') :
    s.post enc P f false true false false W args (.bool true) W' := by
  obtain ⟨p, q, hA, hV, rfl, hz, hn⟩ := id hW
  have hlt : ∀ x ∈ p ++ q, x.block < W.heap.size := fun x hx => hW.lt x hx
  rw [hv] at hV
  have hgs : gs = [] ∧ q = [] := by
    cases gs with
    | nil => exact ⟨rfl, hV⟩
    | cons g r => exact hV.elim
  obtain ⟨rfl, rfl⟩ := hgs
  have hs' : s.fn H (ds ++ []) = { results := [.lit (.bool true)], args := ds } := by rw [List.append_nil]; exact hs
  refine ⟨ds, [], p ++ [], [], p, [], hW, ?_, ?_, ?_, Below.frame ht.below _, fun h => by cases h⟩
  · rw [hs', hres]
    refine ⟨[], [], ⟨1, ?_⟩, rfl, rfl⟩
    simp [DataW.trod, hb, Value.cells]
  · rw [hs']
    exact trodAll_stays hl ht.below hr (fun x hx => hlt x (by simp [hx])) hA
  · rw [hs', hv]; exact rfl
end
section
open Go
set_option linter.unusedSimpArgs false
set_option linter.unusedVariables false
def Anc (S : Nat → Prop) (w0 : World) (N : Nat) (L : List LB) : Prop := ∀ i ∈ blk L, N ≤ i → i < w0.heap.size → S i
theorem Anc.start {S : Nat → Prop} {w0 : World} {L : List LB} : Anc S w0 w0.heap.size L := fun i _ h1 h2 => by omega
theorem Anc.nil {S : Nat → Prop} {w0 : World} {N : Nat} : Anc S w0 N [] := fun i h => by simp [blk] at h
section
variable {P : Program} {N : Nat} {w w0 : World} {L : List LB} {S0 : Nat → Prop}
theorem Now.locA {c : World} (h : Now S0 w0 w) (hl : Loc N w L c) (hA : Anc S0 w0 N L) : Now S0 w0 c := h.comp hl.touch (fun i hi hb => hA i hb (hl.low i hb) hi)
theorem Reb.A {k : World → Prop} (T : Now S0 w0 w) (hA : Anc S0 w0 N L) (h : ∀ wa, Now S0 w0 wa → Touch (fun b => b ∈ blk L) w wa → k wa) : Reb N w L k :=
  fun wa hl => h wa (T.locA hl hA) hl.touch
theorem NewL.A {cs : List Value} {T : TypeId} {k : Nat → World → Prop} (ht : Now S0 w0 w) (hA : Anc S0 w0 N L)
    (h : ∀ b w', Now S0 w0 w' → Touch (fun b => b ∈ blk L) w w' → Blk w' b cs T → N ≤ b ∧ w.heap.size ≤ b ∧ b < w'.heap.size ∧ b ∉ blk L → k b w') : NewL N w L cs T k :=
  fun wa hl => h _ _ ((ht.locA hl hA).alloc _) (hl.touch.alloc _) (by
    show (wa.heap.push _)[wa.heap.size]? = _
    simp) ⟨Nat.le_trans hl.base hl.touch.size, hl.touch.size, by simp, fun hm => Nat.lt_irrefl _ (hl.lt hm)⟩
theorem CallL.A {f : FuncId} {args : List Value} {R : Value → World → Prop} {R' : World → Value → World → Prop} (S : Nat → Prop) (T : Now S0 w0 w) (hA : Anc S0 w0 N L)
    (hok : Ok S w L) (hs : ∀ i, i < w0.heap.size → S i → S0 i)
    (h : ∀ wa, Now S0 w0 wa → Touch (fun b => b ∈ blk L) w wa → Spec P f args wa S (R' wa))
    (k : ∀ wa v w', Now S0 w0 w' → Touch (fun b => b ∈ blk L ∨ S b) w w' → w.heap.size ≤ wa.heap.size → wa.heap.size ≤ w'.heap.size → (∀ b ∈ blk L, b < wa.heap.size) → R' wa v w' → R v w') : CallL P N w L f args R :=
  ⟨S, hok, fun wa hl => Calls.mono (h wa (T.locA hl hA) hl.touch) fun e w' ⟨v, he, ht, hr⟩ =>
    ⟨ht, v, he, k wa v w' ((T.locA hl hA).comp ht hs) ((hl.touch.mono (fun _ _ h => Or.inl h)).comp ht (fun _ _ h => Or.inr h)) hl.touch.size ht.size (fun b hb => hl.lt hb) hr⟩⟩
theorem CallL.pA {f : FuncId} {args : List Value} {R : Value → World → Prop} {R' : World → Value → World → Prop} (T : Now S0 w0 w) (hA : Anc S0 w0 N L)
    (h : ∀ wa, Now S0 w0 wa → Touch (fun b => b ∈ blk L) w wa → Spec P f args wa (fun _ => False) (R' wa))
    (k : ∀ wa v w', Now S0 w0 w' → Touch (fun b => b ∈ blk L) w w' → w.heap.size ≤ wa.heap.size → wa.heap.size ≤ w'.heap.size → (∀ b ∈ blk L, b < wa.heap.size) → R' wa v w' → R v w') : CallL P N w L f args R :=
  CallL.A (fun _ => False) T hA (fun _ h => h.elim) (fun _ _ h => h.elim) h (fun wa v w' T' t z1 z2 l hr => k wa v w' T' (t.mono (fun i _ h => h.elim id False.elim)) z1 z2 l hr)
theorem CallL.vA {f : FuncId} {args : List Value} {R : Value → World → Prop} {m : Value} (T : Now S0 w0 w) (hA : Anc S0 w0 N L)
    (h : ∀ wa, Now S0 w0 wa → Touch (fun b => b ∈ blk L) w wa → Spec P f args wa (fun _ => False) (fun v _ => v = m))
    (k : ∀ w', Now S0 w0 w' → Touch (fun b => b ∈ blk L) w w' → R m w') : CallL P N w L f args R :=
  CallL.pA (R' := fun _ v _ => v = m) T hA h (fun _ v w' T' t _ _ _ hv => hv ▸ k w' T' t)
end
section
variable {α : Type} {c : α → List Value} {k : Nat} {e : TypeId} {w w' w0 : World} {s : Sl} {xs : List α} {S S0 : Nat → Prop}
theorem RunL.appA {P : Program} {t ty bytes N : Nat} {L : List LB} {R : Value → World → Prop} (T : Now S0 w0 w) (hA : Anc S0 w0 N L) (E : ElemT P t e k bytes) (hb0 : 0 < bytes) (hk : ∀ x, (c x).length = k) (h1 : ∀ x, ∀ u ∈ c x, u.oneCell' = true)
    (ho : Own c k e w s xs) {q : Option Addr} {m cap : Nat} {ys : List α} (hy : Rd c k w ⟨q, m, cap⟩ ys) (hcap : q = none → cap = 0) (hb : (s.n + m) * bytes ≤ 140737488355328)
    (hs : ∀ b, b < w0.heap.size → s.on b → S0 b) (hso : ∀ b, s.on b → b ∉ blk L) (hyo : ∀ b, (Sl.mk q m cap).on b → b ∉ blk L)
    (hR : ∀ (s' : Sl) (w' : World), Now S0 w0 w' → Touch (fun b => b ∈ blk L ∨ s.on b) w w' → Own c k e w' s' (xs ++ ys) → (∀ b, s'.on b → s.on b ∨ w.heap.size ≤ b) → (∀ b, s'.on b → b ∉ blk L) → R (.slice s'.a s'.n s'.c) w') :
    RunL P N w L (Builtin.append_ #[t, t] ty #[.slice s.a s.n s.c, .slice q m cap]) R :=
  RunL.append E hb0 hk h1 ho hy hcap hb hso hyo (fun wa s' w' hl ht how hf _ =>
    hR s' w' ((T.locA hl hA).comp ht hs) ((hl.touch.mono (fun _ _ h => Or.inl h)).comp ht (fun _ _ h => Or.inr h)) how
      (fun b hb => (hf b hb).imp id (fun h => Nat.le_trans hl.touch.size h))
      (fun b hb hm => by
        rcases hf b hb with h | h
        · exact hso b h hm
        · have := hl.lt hm; omega))
theorem RunL.freshA {P : Program} {t ty bytes N : Nat} {L : List LB} {R : Value → World → Prop} (T : Now S0 w0 w) (hA : Anc S0 w0 N L)
    (E : ElemT P t e k bytes) (hb0 : 0 < bytes) (hk : ∀ x, (c x).length = k) (h1 : ∀ x, ∀ u ∈ c x, u.oneCell' = true) {b : Nat} (hb : Blk w b [] e) (hge : b < w0.heap.size → S0 b) (hbL : b ∉ blk L)
    {q : Option Addr} {m cap : Nat} {ys : List α} (hy : Rd c k w ⟨q, m, cap⟩ ys) (hcap : q = none → cap = 0) (hsz : m * bytes ≤ 140737488355328) (hyo : ∀ b, (Sl.mk q m cap).on b → b ∉ blk L)
    (hR : ∀ (s' : Sl) (w' : World), Now S0 w0 w' → Touch (fun i => i ∈ blk L ∨ i = b) w w' → Own c k e w' s' ys → (∀ i, s'.on i → i = b ∨ w.heap.size ≤ i) → (∀ i, s'.on i → i ∉ blk L) → R (.slice s'.a s'.n s'.c) w') :
    RunL P N w L (Builtin.append_ #[t, t] ty #[.slice (some ⟨b, 0, none⟩) 0 0, .slice q m cap]) R := by
  refine RunL.appA T hA E hb0 hk h1 (Blk.own0 hb) hy hcap (by simpa using hsz) (fun i hi hon => by simp at hon; subst hon; exact hge hi) (fun i hon => by simp at hon; rw [← hon]; exact hbL) hyo (fun s' w' T' t' o f n => hR s' w' T' (t'.mono (fun i _ hi => ?_)) (by rwa [List.nil_append] at o) (fun i hi => ?_) n)
  · rcases hi with h | h
    · exact Or.inl h
    · simp at h; exact Or.inr h.symm
  · rcases f i hi with h | h
    · simp at h; exact Or.inl h.symm
    · exact Or.inr h
theorem RunL.makeA {P : Program} {t bytes N : Nat} {L : List LB} {R : Value → World → Prop} {z0 : α} (T : Now S0 w0 w) (hA : Anc S0 w0 N L) (E : ElemZ P t e k bytes (c z0)) {kl kc : IntKind} {n : Int} (h0 : 0 ≤ n) (hb : n.toNat * bytes ≤ 281474976710656) (hm : n.toNat ≤ maxLen)
    (hR : ∀ (s' : Sl) (w' : World), Now S0 w0 w' → Touch (fun i => i ∈ blk L) w w' → Own c k e w' s' (List.replicate n.toNat z0) → (∀ b, s'.on b → w.heap.size ≤ b ∧ b ∉ blk L) → R (.slice s'.a s'.n s'.c) w') :
    RunL P N w L (Instr.makeSlice t (.int kl n) (.int kc n)) R :=
  RunL.makeSlice E h0 hb hm (fun wa s' w' hl ht ho hf => hR s' w' ((T.locA hl hA).comp ht (fun _ _ h => h.elim)) (hl.touch.comp ht (fun _ _ h => h.elim)) ho
    (fun b hb => ⟨Nat.le_trans hl.touch.size (hf b hb), fun hm => by have := hf b hb; have := hl.lt hm; omega⟩))
end
end
section
open Go
set_option linter.unusedSimpArgs false
set_option linter.unusedVariables false
theorem okLeaves_split : ∀ {a b : List Leaf} {cs : List Value}, okLeaves (a ++ b) cs → ∃ x y, cs = x ++ y ∧ okLeaves a x ∧ okLeaves b y
  | [], b, cs, h => ⟨[], cs, rfl, rfl, h⟩
  | l :: r, b, cs, h => by
    obtain ⟨v, u, h1, h2, rfl⟩ := h
    obtain ⟨x, y, rfl, h3, h4⟩ := okLeaves_split h2
    exact ⟨v :: x, y, rfl, ⟨v, x, h1, h3, rfl⟩, h4⟩
theorem okLeaves_flat {α : Type} {c : α → List Value} {L : List Leaf} : ∀ {xs : List α}, (∀ x ∈ xs, okLeaves L (c x)) → okLeaves (List.replicate xs.length L).flatten (xs.flatMap c)
  | [], _ => rfl
  | x :: r, h => by
    rw [List.length_cons, List.replicate_succ, List.flatten_cons, List.flatMap_cons]
    exact okLeaves_append (h x (by simp)) (okLeaves_flat (fun y hy => h y (by simp [hy])))
def flatG (P : Program) (g : TypeId → Option (List Leaf)) : List Field → Nat → Option (List Leaf)
  | [], _ => some []
  | f :: r, off =>
    match g f.type with
    | some ls => if Nat.beq f.offset off && Nat.beq (P.cellsOf f.type) ls.length then (flatG P g r (off + ls.length)).map (ls ++ ·) else none
    | none => none
def flatA (P : Program) : Nat → TypeId → Option (List Leaf)
  | 0, _ => none
  | d + 1, t =>
    match P.underlying t with
    | some .bool => some [.bool]
    | some (.int k) => some [.int k]
    | some .string => some [.string]
    | some (.array n e) =>
      match flatA P d e with
      | some ls => if Nat.beq (P.cellsOf e) ls.length && Nat.beq (P.cellsOf t) (n * ls.length) then some (List.replicate n ls).flatten else none
      | none => none
    | some (.struct fs) =>
      match flatG P (flatA P d) fs.toList 0 with
      | some ls => if Nat.beq (P.cellsOf t) ls.length && fs.all (·.name != "_") then some ls else none
      | none => none
    | _ => none
theorem mapM_all {α β : Type} {f : α → Option β} : ∀ {l : List α}, (∀ x ∈ l, ∃ y, f x = some y) → ∃ ys, l.mapM f = some ys
  | [], _ => ⟨[], rfl⟩
  | x :: r, h => by
    obtain ⟨y, hy⟩ := h x (by simp)
    obtain ⟨ys, hys⟩ := mapM_all (l := r) (fun z hz => h z (by simp [hz]))
    exact ⟨y :: ys, by rw [List.mapM_cons, hy, hys]; rfl⟩
theorem flatG_lits {P : Program} {g : TypeId → Option (List Leaf)} {tr : TypeId → List Value → Prop} (hg : ∀ t ls cs, g t = some ls → okLeaves ls cs → tr t cs) {cs : List Value} :
    ∀ (fs : List Field) (off : Nat) (ls : List Leaf), flatG P g fs off = some ls → okLeaves ls (cs.drop off) → ∀ f ∈ fs, tr f.type ((cs.drop f.offset).take (P.cellsOf f.type))
  | [], _, _, _, _ => fun f hf => by cases hf
  | f :: r, off, ls, h, hk => by
    unfold flatG at h
    split at h
    · rename_i l1 hl1
      split at h
      · rename_i hb
        simp only [Bool.and_eq_true, Nat.beq_eq] at hb
        cases hr : flatG P g r (off + l1.length) with
        | none => rw [hr] at h; cases h
        | some l2 =>
          rw [hr] at h
          simp only [Option.map_some, Option.some.injEq] at h
          subst h
          obtain ⟨x, y, he, h1, h2⟩ := okLeaves_split hk
          have hxl := okLeaves_len h1
          intro f' hf'
          rcases List.mem_cons.1 hf' with rfl | hf'
          · rw [hb.1, hb.2, he, List.take_left' hxl]
            exact hg _ _ _ hl1 h1
          · refine flatG_lits hg r _ _ hr ?_ f' hf'
            rw [← List.drop_drop, he, List.drop_left' hxl]
            exact h2
      · cases h
    · cases h
theorem lits_of_leaves {P : Program} : ∀ (d : Nat) (t : TypeId) (ls : List Leaf) (cs : List Value), flatA P d t = some ls → okLeaves ls cs → ∃ l, P.keyLits d t cs = some l
  | 0, t, ls, cs, h, _ => by simp [flatA] at h
  | d + 1, t, ls, cs, h, hk => by
    unfold flatA at h
    split at h
    · rename_i ht
      cases h
      obtain ⟨v, u, ⟨b, rfl⟩, h2, rfl⟩ := hk
      cases h2
      exact ⟨[.bool b], by simp [Program.keyLits, ht]⟩
    · rename_i k ht
      cases h
      obtain ⟨v, u, ⟨n, rfl, hw⟩, h2, rfl⟩ := hk
      cases h2
      exact ⟨[.int k n], by simp [Program.keyLits, ht, hw]⟩
    · rename_i ht
      cases h
      obtain ⟨v, u, ⟨s, rfl, hw⟩, h2, rfl⟩ := hk
      cases h2
      exact ⟨[.string s.data.toList], by simp [Program.keyLits, ht, hw]⟩
    · rename_i n e ht
      split at h
      · rename_i l1 hl1
        split at h
        · rename_i hb
          simp only [Bool.and_eq_true, Nat.beq_eq] at hb
          simp only [Option.some.injEq] at h
          subst h
          have hlen := okLeaves_len hk
          have hlen2 : cs.length = n * l1.length := by rw [hlen]; simp
          have piece : ∀ i, i < n → okLeaves l1 ((cs.drop (i * l1.length)).take l1.length) := by
            intro i hi
            have e1 : List.replicate n l1 = List.replicate i l1 ++ l1 :: List.replicate (n - i - 1) l1 := by
              rw [← List.replicate_succ, List.replicate_append_replicate]
              congr 1
              omega
            rw [e1, List.flatten_append, List.flatten_cons] at hk
            obtain ⟨x, y, rfl, h1, h2⟩ := okLeaves_split hk
            obtain ⟨y1, y2, rfl, h3, h4⟩ := okLeaves_split h2
            have hx := okLeaves_len h1
            simp at hx
            rw [List.drop_left' hx, List.take_left' (okLeaves_len h3)]
            exact h3
          have hm : ∃ ys, (List.range n).mapM (fun i => P.keyLits d e ((cs.drop (i * P.cellsOf e)).take (P.cellsOf e))) = some ys := by
            refine mapM_all (fun i hi => ?_)
            rw [hb.1]
            exact lits_of_leaves d e l1 _ hl1 (piece i (by simpa using hi))
          obtain ⟨ys, hys⟩ := hm
          refine ⟨ys.flatten, ?_⟩
          unfold Program.keyLits
          simp only [ht]
          rw [if_pos (by rw [hb.2, hlen2]), hys]
          rfl
        · cases h
      · cases h
    · rename_i fs ht
      split at h
      · rename_i l1 hl1
        split at h
        · rename_i hb
          simp only [Bool.and_eq_true, Nat.beq_eq] at hb
          simp only [Option.some.injEq] at h
          subst h
          have hall := flatG_lits (P := P) (g := flatA P d) (tr := fun t cs => ∃ l, P.keyLits d t cs = some l) (fun t ls cs h1 h2 => lits_of_leaves d t ls cs h1 h2) (cs := cs) fs.toList 0 l1 hl1 (by simpa using hk)
          obtain ⟨ys, hys⟩ := mapM_all hall
          refine ⟨ys.flatten, ?_⟩
          unfold Program.keyLits
          simp only [ht]
          rw [if_pos ⟨by rw [hb.1, okLeaves_len hk], hb.2⟩, hys]
          rfl
        · cases h
      · cases h
    · cases h
structure EqT (P : Program) (t : TypeId) (ls : List Leaf) : Prop where
  key : P.keyTypeAt 12 t = true
  til : P.tiled 12 t = true
  flat : flatA P 12 t = some ls
  guard : P.eqGuardType P.depth t = false
  agg : (match P.underlying t with | some (.array _ _) | some (.struct _) => true | _ => false) = true
  size : P.cellsOf t = ls.length
theorem eq_leaves {P : Program} {t : TypeId} {ls : List Leaf} (E : EqT P t ls) {xs ys : List Value} (hx : okLeaves ls xs) (hy : okLeaves ls ys) :
    ∃ b : Bool, (∀ w : World, (eqSem .eql t (.agg xs.toArray) (.agg ys.toArray)).run P w = .ok (.bool b) w) ∧ (b = true ↔ xs = ys) := by
  obtain ⟨lx, h1⟩ := lits_of_leaves 12 t ls xs E.flat hx
  obtain ⟨ly, h2⟩ := lits_of_leaves 12 t ls ys E.flat hy
  have fm : ∀ {zs : List Value}, okLeaves ls zs → (Value.agg zs.toArray).formed P t = true := by
    intro zs hz
    have hA := E.agg
    unfold Value.formed
    have hl := okLeaves_len hz
    have hs := E.size
    split at hA <;> rename_i hu
    · simp [hu, hs, hl]
    · simp [hu, hs, hl]
    · cases hA
  have hiff : lx = ly ↔ xs = ys := by
    constructor
    · intro e
      rw [cells_of_lits 12 t E.til 12 xs lx h1, cells_of_lits 12 t E.til 12 ys ly h2, e]
    · intro e
      subst e
      rw [h1] at h2
      exact Option.some.inj h2
  by_cases hxy : xs = ys
  · refine ⟨true, fun w => ?_, by simp [hxy]⟩
    obtain ⟨r, hr, hri⟩ := run_equalIn_deep (10000 - 12) 12 t E.key w 12 12 (.agg xs.toArray) (.agg ys.toArray) lx ly (fm hx) (fm hy) (by simpa [Value.cells] using h1) (by simpa [Value.cells] using h2)
    have : r = true := hri.2 (hiff.2 hxy)
    subst this
    unfold eqSem
    rw [Sem.run_bind, run_eqGuard_agg _ _ _ _ _ _ _ E.guard, Result.andThen_ok, run_eql_struct]
    rw [show 10000 - 12 + 12 = 10000 by rfl] at hr
    rw [hr]
    rfl
  · refine ⟨false, fun w => ?_, by simp [hxy]⟩
    obtain ⟨r, hr, hri⟩ := run_equalIn_deep (10000 - 12) 12 t E.key w 12 12 (.agg xs.toArray) (.agg ys.toArray) lx ly (fm hx) (fm hy) (by simpa [Value.cells] using h1) (by simpa [Value.cells] using h2)
    have : r = false := by
      cases r
      · rfl
      · exact absurd (hiff.1 (hri.1 rfl)) hxy
    subst this
    unfold eqSem
    rw [Sem.run_bind, run_eqGuard_agg _ _ _ _ _ _ _ E.guard, Result.andThen_ok, run_eql_struct]
    rw [show 10000 - 12 + 12 = 10000 by rfl] at hr
    rw [hr]
    rfl
theorem run_index_agg {P : Program} {t e : TypeId} {n k : Nat} {i : TypeInfo} {fs : Array Field} (h : P.underlying t = some (.array n e)) (he : P.info? e = some i) (hu : P.underlying e = some (.struct fs)) (hk : P.cellsOf e = k) {cs ds : List Value} {j : Int} (h0 : 0 ≤ j) (h1 : j < n)
    (hd : (cs.drop (j.toNat * k)).take k = ds) (w : World) : (Instr.index t (.agg cs.toArray) (.int .i64 j)).run P w = .ok (.agg ds.toArray) w := by
  subst hd
  have e1 : (Instr.index t (.agg cs.toArray) (.int .i64 j)).run P w = (Go.part e cs.toArray (j.toNat * k)).run P w := by
    simp [Instr.index, run_underlying h, asIntOf, h0, h1, run_sizeOf w he, hk]
  rw [e1]
  have e2 : (Go.part e cs.toArray (j.toNat * k)).run P w = .ok (.agg (cs.toArray.extract (j.toNat * k) (j.toNat * k + k))) w := by
    simp [Go.part, isAgg, run_underlying hu, run_sizeOf w he, hk]
  rw [e2]
  congr 2
  simp [List.extract_eq_take_drop]
end
end Go.Sh
