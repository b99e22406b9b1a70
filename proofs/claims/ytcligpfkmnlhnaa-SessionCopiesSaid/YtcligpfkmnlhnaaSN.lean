/- Contracts of the reference's copy of a tenant: New, Epoch, Apply.
   Conditions: none. -/
import Derived.Test.YtcligpfkmnlhnaaSM
namespace Go.Sh
open Go
set_option linter.unusedSimpArgs false
set_option linter.unusedVariables false

theorem Now.mono {S S' : Nat → Prop} {a b : World} (h : Now S a b) (hs : ∀ i, i < a.heap.size → S i → S' i) : Now S' a b := ⟨h.t.mono hs⟩

/-- where a copy's parts lie -/
structure CD where
  cell : Int
  ten : Int
  sH : Sl
  bS : Nat
  sS : Sl
  bQ : Nat
  sQ : Sl
  sR : Sl
  bT : Nat
  g : Option Addr
def CD.cp (d : CD) : G_cellplaneref28_Copy := ⟨d.cell, d.ten, d.sH, some ⟨d.bS, 0, none⟩, some ⟨d.bQ, 0, none⟩, some ⟨d.bT, 0, none⟩, d.g⟩
def CD.on (d : CD) (i : Nat) : Prop := d.sH.on i ∨ (i = d.bS ∨ d.sS.on i) ∨ (i = d.bQ ∨ d.sQ.on i ∨ d.sR.on i) ∨ i = d.bT

structure CopyAt (w : World) (c : Nat) (d : CD) (m : CM) : Prop where
  at_ : Blk w c d.cp.cells t_cellplaneref28_Copy
  h : Ro chC 8 w d.sH m.h
  s : StoreAt w d.bS d.sS m.s
  q : QueueAt w d.bQ d.sQ m.m.q d.sR m.m.ls m.m.most
  t : RTabAt w d.bT m.t
  ap : ∀ i, d.on i → i ≠ c

theorem CopyAt.tr {w w' : World} {c : Nat} {d : CD} {m : CM} {S : Nat → Prop} (h : CopyAt w c d m) (t : Touch S w w') (hd : ∀ i, (i = c ∨ d.on i) → ¬ S i) : CopyAt w' c d m :=
  ⟨h.at_.tr t (fun i hi => hd i (.inl hi)), h.h.tr t (fun i hi => hd i (.inr (.inl hi))), h.s.tr t (fun i hi => hd i (.inr (.inr (.inl hi)))), h.q.tr t (fun i hi => hd i (.inr (.inr (.inr (.inl hi))))),
    h.t.tr t (fun i hi => hd i (.inr (.inr (.inr (.inr hi))))), h.ap⟩

theorem CopyAt.lt {w : World} {c : Nat} {d : CD} {m : CM} (h : CopyAt w c d m) {i : Nat} (hi : i = c ∨ d.on i) : i < w.heap.size := by
  rcases hi with rfl | hi | (rfl | hi) | (rfl | hi | hi) | rfl
  · exact h.at_.lt
  · exact h.h.lt i hi
  · exact h.s.at_.lt
  · exact h.s.lt i hi
  · exact h.q.at_.lt
  · exact h.q.ll.lt i hi
  · exact h.q.rr.lt i hi
  · exact Blk.lt h.t

theorem chC_one (x : G_api_Change) : ∀ u ∈ chC x, u.oneCell' = true := by
  intro u hu
  simp [chC, G_api_Change.cells] at hu
  rcases hu with rfl | rfl | rfl | rfl | rfl | rfl | rfl | rfl <;> rfl

theorem allOne_append : ∀ {a b : List Value}, allOne a = true → allOne b = true → allOne (a ++ b) = true
  | [], b, _, h => h
  | x :: r, b, h, g => by
    simp only [allOne, List.cons_append, Bool.and_eq_true] at h ⊢
    exact ⟨h.1, allOne_append h.2 g⟩
theorem allOne_flat {α : Type} {c : α → List Value} (h : ∀ x, allOne (c x) = true) : ∀ xs : List α, allOne (xs.flatMap c) = true
  | [] => rfl
  | x :: r => by rw [List.flatMap_cons]; exact allOne_append (h x) (allOne_flat h r)
theorem rrecs_one (t : Tab) : allOne (rrecs t) = true := allOne_append (allOne_flat (fun _ => rfl) _) (allOne_flat (fun _ => rfl) _)
theorem rrecs_len {t : Tab} (h : t.length = 8) : (rrecs t).length = 40 := by
  unfold rrecs
  rw [List.length_append, flat_length (k := 1) (fun _ => rfl), flat_length (k := 4) rep_len]; omega

theorem Epoch_spec {w : World} {c : Nat} {d : CD} {m : CM} (h : CopyAt w c d m) (hm : m.h.length < 1000000) : Spec PP n_cellplaneref28_Copy_Epoch [.pointer (some ⟨c, 0, none⟩)] w noB (fun v _ => v = .int .i64 (epochM m.h)) := by
  refine cellplaneref28_Copy_Epoch_calls (some ⟨c, 0, none⟩) _ w ?_
  unfold F_cellplaneref28_Copy_Epoch
  have T : Now noB w w := Now.refl
  have hl := h.h.rd.1
  refine nilL ⟨d.sH, h.at_.at 2 rfl, notIn_nil, ?_⟩
  refine ifbd (fun h0 => ?_) (fun h0 => ?_)
  · refine Reb.val T (Nat.le_refl _) ?_
    have : m.h[m.h.length - 1]? = none := List.getElem?_eq_none (by omega)
    simp [epochM, this]
  · refine nilL ⟨d.sH, h.at_.at 2 rfl, notIn_nil, nilL ⟨d.sH, h.at_.at 2 rfl, notIn_nil, ?_⟩⟩
    rw [wrap_i64 (by omega) (by omega)]
    refine h.h.rd.idx (by omega) (by omega) (fun p x hp hx hat => ?_)
    refine ⟨x.Epoch, hat.take 1 rfl, notIn_nil, Reb.val T (Nat.le_refl _) ?_⟩
    have e : ((d.sH.n : Int) - 1).toNat = m.h.length - 1 := by omega
    rw [e] at hx
    simp [epochM, hx]

theorem copy28_New_spec (a b : Int) (w : World) : Spec PP n_cellplaneref28_New [.int .i64 a, .int .i64 b] w noB (fun v w' => ∃ c d, v = .pointer (some ⟨c, 0, none⟩) ∧ w.heap.size ≤ c ∧ CopyAt w' c d c0 ∧ (∀ i, d.on i → w.heap.size ≤ i)) := by
  refine cellplaneref28_New_calls a b _ w ?_
  unfold F_cellplaneref28_New
  have T : Now noB w w := Now.refl
  refine NewL.blk T (Nat.le_refl _) (fun b1 w T t h1 l1 => ?_)
  refine NewL.blk T (Nat.le_refl _) (fun b3 w T t h3 l3 => ?_)
  replace h1 := h1.tr t (by intro c_ hc_; (try simp only [mem_blk_cons, mem_blk_nil, or_false, false_or] at hc_ ⊢); grind [mem_blk_cons, mem_blk_nil])
  have zt := t.size
  refine NewL.blk T (Nat.le_refl _) (fun b5 w T t h5 l5 => ?_)
  replace h1 := h1.tr t (by intro c_ hc_; (try simp only [mem_blk_cons, mem_blk_nil, or_false, false_or] at hc_ ⊢); grind [mem_blk_cons, mem_blk_nil])
  replace h3 := h3.tr t (by intro c_ hc_; (try simp only [mem_blk_cons, mem_blk_nil, or_false, false_or] at hc_ ⊢); grind [mem_blk_cons, mem_blk_nil])
  have zt := t.size
  refine NewL.blk T (Nat.le_refl _) (fun b7 w T t h7 l7 => ?_)
  replace h1 := h1.tr t (by intro c_ hc_; (try simp only [mem_blk_cons, mem_blk_nil, or_false, false_or] at hc_ ⊢); grind [mem_blk_cons, mem_blk_nil])
  replace h3 := h3.tr t (by intro c_ hc_; (try simp only [mem_blk_cons, mem_blk_nil, or_false, false_or] at hc_ ⊢); grind [mem_blk_cons, mem_blk_nil])
  replace h5 := h5.tr t (by intro c_ hc_; (try simp only [mem_blk_cons, mem_blk_nil, or_false, false_or] at hc_ ⊢); grind [mem_blk_cons, mem_blk_nil])
  have zt := t.size
  refine NewL.blk T (Nat.le_refl _) (fun b9 w T t h9 l9 => ?_)
  replace h1 := h1.tr t (by intro c_ hc_; (try simp only [mem_blk_cons, mem_blk_nil, or_false, false_or] at hc_ ⊢); grind [mem_blk_cons, mem_blk_nil])
  replace h3 := h3.tr t (by intro c_ hc_; (try simp only [mem_blk_cons, mem_blk_nil, or_false, false_or] at hc_ ⊢); grind [mem_blk_cons, mem_blk_nil])
  replace h5 := h5.tr t (by intro c_ hc_; (try simp only [mem_blk_cons, mem_blk_nil, or_false, false_or] at hc_ ⊢); grind [mem_blk_cons, mem_blk_nil])
  have zt := t.size
  refine Reb.use T (Nat.le_refl _) (fun w T t _ => ⟨T.t, b9, ⟨a, b, ⟨none, 0, 0⟩, b1, ⟨none, 0, 0⟩, b3, ⟨none, 0, 0⟩, ⟨none, 0, 0⟩, b5, some ⟨b7, 0, none⟩⟩, rfl, l9.1, ?_, ?_⟩)
  · refine CopyAt.tr (S := fun b => b ∈ blk []) ?_ t (by simp [blk])
    refine ⟨h9, Ro.nil, ⟨h1, Rd.nil, by simp, by simp, Nat.le_refl _, fun _ => rfl⟩, ⟨h3, Ro.nil, Ro.nil, by simp, by simp⟩, h5, ?_⟩
    intro i hi
    simp [CD.on] at hi
    omega
  · intro i hi
    simp [CD.on] at hi
    omega

end Go.Sh
