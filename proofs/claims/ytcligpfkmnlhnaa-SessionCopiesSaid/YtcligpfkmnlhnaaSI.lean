/- Contracts of the reference's queue: at, drop.
   Conditions: none. -/
import Derived.Test.YtcligpfkmnlhnaaSH
namespace Go.Sh
open Go
set_option linter.unusedSimpArgs false
set_option linter.unusedVariables false

abbrev Itm := G_api_Item
abbrev Lea := G_api_Lease
abbrev itC : Itm → List Value := G_api_Item.cells
abbrev leC : Lea → List Value := G_api_Lease.cells
theorem itC_len (x : Itm) : (itC x).length = 2 := rfl
theorem leC_len (x : Lea) : (leC x).length = 4 := rfl
theorem itC_one (x : Itm) : ∀ u ∈ itC x, u.oneCell' = true := by
  intro u hu
  simp [itC, G_api_Item.cells] at hu
  rcases hu with rfl | rfl <;> rfl
theorem leC_one (x : Lea) : ∀ u ∈ leC x, u.oneCell' = true := by
  intro u hu
  simp [leC, G_api_Lease.cells] at hu
  rcases hu with rfl | rfl | rfl | rfl <;> rfl

/-- a slice that is read and not written: it reads as a list, it lies in old blocks, its capacity fits -/
structure Ro {α : Type} (c : α → List Value) (k : Nat) (w : World) (s : Sl) (xs : List α) : Prop where
  rd : Rd c k w s xs
  lt : ∀ b, s.on b → b < w.heap.size
  cap : s.n ≤ s.c
  capn : s.a = none → s.c = 0

theorem Ro.touch {α : Type} {c : α → List Value} {k : Nat} {w w' : World} {s : Sl} {xs : List α} {S : Nat → Prop} (h : Ro c k w s xs) (t : Touch S w w') (hn : ∀ b, s.on b → ¬ S b) : Ro c k w' s xs :=
  ⟨h.rd.touch t hn, fun b hb => Nat.lt_of_lt_of_le (h.lt b hb) t.size, h.cap, h.capn⟩

theorem Own.ro {α : Type} {c : α → List Value} {k e : Nat} {w : World} {s : Sl} {xs : List α} (hk : ∀ x, (c x).length = k) (h : Own c k e w s xs) : Ro c k w s xs :=
  ⟨h.rd hk, fun b hb => h.lt hb, h.cap.1, h.cap.2⟩

theorem Ro.nil {α : Type} {c : α → List Value} {k : Nat} {w : World} : Ro c k w ⟨none, 0, 0⟩ [] := ⟨Rd.nil, fun b hb => by simp at hb, Nat.le_refl _, fun _ => rfl⟩

structure QueueAt (w : World) (q : Nat) (s : Sl) (xs : List Itm) (r : Sl) (ls : List Lea) (most : Int) : Prop where
  at_ : Blk w q (⟨s, r, most⟩ : G_cellplaneref25_Queue).cells t_cellplaneref25_Queue
  ll : Ro itC 2 w s xs
  rr : Ro leC 4 w r ls
  lq : ¬ s.on q
  rq : ¬ r.on q

theorem QueueAt.touch {w w' : World} {q : Nat} {s r : Sl} {xs : List Itm} {ls : List Lea} {most : Int} {S : Nat → Prop} (h : QueueAt w q s xs r ls most) (t : Touch S w w') (h1 : ¬ S q) (h2 : ∀ c, s.on c → ¬ S c) (h3 : ∀ c, r.on c → ¬ S c) : QueueAt w' q s xs r ls most :=
  ⟨h.at_.touch t h1, h.ll.touch t h2, h.rr.touch t h3, h.lq, h.rq⟩

def qat (item : Int) : List Itm → Nat
  | [] => 0
  | x :: r => if x.Number = item then 0 else qat item r + 1
def qatI (item : Int) (xs : List Itm) : Int := if qat item xs < xs.length then (qat item xs : Int) else -1

theorem qat_from {item : Int} : ∀ {xs : List Itm} {m : Nat}, (∀ j x, j < m → xs[j]? = some x → x.Number ≠ item) → m ≤ xs.length → qat item xs = m + qat item (xs.drop m)
  | xs, 0, _, _ => by simp
  | [], m + 1, _, h => by simp at h
  | y :: r, m + 1, hall, h => by
    have h0 := hall 0 y (by omega) rfl
    simp only [qat, if_neg h0, List.drop_succ_cons]
    rw [qat_from (xs := r) (m := m) (fun j x hj hx => hall (j + 1) x (by omega) (by simpa using hx)) (by simpa using h)]
    omega

theorem queue25_at_spec {w : World} {q : Nat} {s r : Sl} {xs : List Itm} {ls : List Lea} {most : Int} (h : QueueAt w q s xs r ls most) (hm : xs.length < 1000000) (item : Int) : Spec PP n_cellplaneref25_Queue_at [.pointer (some ⟨q, 0, none⟩), .int .i64 item] w noB
    (fun v _ => v = .int .i64 (qatI item xs)) := by
  refine cellplaneref25_Queue_at_calls (some ⟨q, 0, none⟩) item _ w ?_
  unfold F_cellplaneref25_Queue_at
  have T : Now noB w w := Now.refl
  have hlen := h.ll.rd.1
  refine Reb.use T (Nat.le_refl _) (fun w1 T1 t1 _ => ?_)
  have h1 := h.touch T1.t (fun h => h) (fun _ _ h => h) (fun _ _ h => h)
  unfold C_cellplaneref25_Queue_at_1
  refine nilL ⟨s, h1.at_.at 0 rfl, notIn_nil, ?_⟩
  refine Reb.use T1 (Nat.le_refl _) (fun w2 T2 _ _ => ?_)
  unfold C_cellplaneref25_Queue_at_3
  refine ⟨fun x w' => ∃ m : Nat, x = m ∧ m ≤ xs.length ∧ Now noB w w' ∧ (∀ j x, j < m → xs[j]? = some x → x.Number ≠ item), fun x => xs.length - x.toNat, ?_, ?_⟩
  · exact Reb.use T2 (Nat.le_refl _) (fun w3 T3 _ _ => ⟨0, rfl, Nat.zero_le _, T3, fun j x hj => by omega⟩)
  · rintro x wb ⟨m, rfl, hml, Tb, hall⟩
    unfold L_cellplaneref25_Queue_at_4
    dsimp only
    unfold B_cellplaneref25_Queue_at_4
    have hb := h.touch Tb.t (fun h => h) (fun _ _ h => h) (fun _ _ h => h)
    refine ifbd (fun h1 => ?_) (fun h1 => ?_)
    · refine hb.ll.rd.idx (by omega) (by omega) (fun p x hp hx hat => ?_)
      rw [Int.toNat_natCast] at hx
      refine ⟨x, hat, notIn_nil, fun b3 hb3 => ?_⟩
      have hlt : m < xs.length := by omega
      have hxe : xs[m] = x := by rw [List.getElem?_eq_getElem hlt] at hx; cases hx; rfl
      refine ifbd (fun h3 => ?_) (fun h3 => ?_)
      · refine Reb.val Tb (Nat.le_refl _) ?_
        have : qat item xs = m := by
          rw [qat_from hall hml, List.drop_eq_getElem_cons hlt, hxe]
          simp [qat, h3]
        simp [qatI, this, hlt]
      · refine Reb.use Tb (Nat.le_refl _) (fun w5 T5 _ _ => ⟨rfl, ⟨m + 1, ?_, by omega, T5, ?_⟩, ?_⟩)
        · rw [wrap_i64 (by omega) (by omega)]; simp
        · intro j y hj hy
          rcases Nat.lt_or_ge j m with h' | h'
          · exact hall j y h' hy
          · have : j = m := by omega
            subst this
            rw [hx] at hy; cases hy
            exact h3
        · rw [wrap_i64 (by omega) (by omega)]
          have : ((m : Int) + 1).toNat = m + 1 := by omega
          rw [this, Int.toNat_natCast]
          omega
    · refine Reb.use Tb (Nat.le_refl _) (fun w5 T5 _ _ => ?_)
      unfold C_cellplaneref25_Queue_at_2
      refine Reb.val T5 (Nat.le_refl _) ?_
      have : qat item xs = m := by
        rw [qat_from hall hml, List.drop_of_length_le (by omega)]
        simp [qat]
      have hn : ¬ (m < xs.length) := by omega
      simp [qatI, this, hn]

end Go.Sh
