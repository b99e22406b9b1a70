/- The contract of the reference's copy of a tenant: the end of Apply.
   Conditions: none. -/
import Derived.Test.YtcligpfkmnlhnaaSN
import Derived.Test.YtcligpfkmnlhnaaLib5
namespace Go.Sh
open Go
set_option linter.unusedSimpArgs false
set_option linter.unusedVariables false
set_option maxHeartbeats 4000000

theorem copy28_end {w w12 : World} {c b3 bt bs bq : Nat} {d : CD} {m : CM} {x : G_api_Change} {sS' sq' sr' : Sl} {t' : Tab} {s' : List Cel} {q' : List Itm} {ls' : List Lea} {most' : Int}
    (T12 : Now noB w w12) (hc : Blk w12 c d.cp.cells t_cellplaneref28_Copy) (hH : Ro chC 8 w12 d.sH m.h) (hT : RTabAt w12 bt t') (hS : StoreAt w12 bs sS' s') (hq : QueueAt w12 bq sq' q' sr' ls' most')
    (hcN : c < w.heap.size) (hHN : ∀ i, d.sH.on i → i < w.heap.size ∧ i ≠ c) (hb3 : w.heap.size ≤ b3)
    (news : ∀ i, (i = bt ∨ i = bs ∨ i = bq ∨ sq'.on i ∨ sr'.on i) → w.heap.size ≤ i ∧ i ≠ b3) (newS : ∀ i, sS'.on i → i ≠ b3 ∧ i ≠ c ∧ (d.on i ∨ w.heap.size ≤ i)) (hm : m.h.length < 1000000)
    (res : capply m x = (0, ⟨m.h ++ [x], s', ⟨q', ls', most'⟩, t'⟩)) :
    C_cellplaneref28_Copy_Apply_5 w.heap.size (fun v w' => Touch (fun i => i = c) w w' ∧ (fun v w' => v = .int .i64 (capply m x).1 ∧ ∃ d', CopyAt w' c d' (capply m x).2 ∧ ∀ i, d'.on i → d.on i ∨ w.heap.size ≤ i) v w')
        (some ⟨c, 0, none⟩) b3 x t_api_Change ⟨bt, 0, none⟩ ⟨bs, 0, none⟩ (some ⟨bq, 0, none⟩) w12 := by
  unfold C_cellplaneref28_Copy_Apply_5
  have cL0 : NotIn c [⟨b3, x.cells, t_api_Change⟩] := by simp; omega
  have rm : ∀ {w' : World} {cp : G_cellplaneref28_Copy} {o : Nat}, Blk w' c cp.cells t_cellplaneref28_Copy → o + 1 ≤ 7 → RoomAt w' ⟨c, o, none⟩ 1 := fun h ho => Blk.room h (by simpa [G_cellplaneref28_Copy.cells] using ho)
  have pT : ∀ w', Now (fun i => i = c ∨ i = b3) w12 w' → RTabAt w' bt t' := fun w' T => hT.tr T.t (by intro i hi; have := news i; grind)
  have pS : ∀ w', Now (fun i => i = c ∨ i = b3) w12 w' → StoreAt w' bs sS' s' := fun w' T => hS.tr T.t (by intro i hi; have := news i; have := newS i; grind)
  have pQ : ∀ w', Now (fun i => i = c ∨ i = b3) w12 w' → QueueAt w' bq sq' q' sr' ls' most' := fun w' T => hq.tr T.t (by intro i hi; have := news i; grind)
  have pH : ∀ w', Now (fun i => i = c ∨ i = b3) w12 w' → Ro chC 8 w' d.sH m.h := fun w' T => hH.tr T.t (by intro i hi; have := hHN i; grind)
  have hHl := hH.rd.1
  refine nilL ⟨rm hc (o := 5) (by omega), cL0, ?_⟩
  have hc1 : Blk _ c (⟨d.cell, d.ten, d.sH, some ⟨d.bS, 0, none⟩, some ⟨d.bQ, 0, none⟩, some ⟨bt, 0, none⟩, d.g⟩ : G_cellplaneref28_Copy).cells _ := hc.putC 5 [.pointer (some ⟨bt, 0, none⟩)]
  refine nilL ⟨rm hc1 (o := 3) (by omega), cL0, ?_⟩
  have hc2 : Blk _ c (⟨d.cell, d.ten, d.sH, some ⟨bs, 0, none⟩, some ⟨d.bQ, 0, none⟩, some ⟨bt, 0, none⟩, d.g⟩ : G_cellplaneref28_Copy).cells _ := hc1.putC 3 [.pointer (some ⟨bs, 0, none⟩)]
  refine nilL ⟨rm hc2 (o := 4) (by omega), cL0, ?_⟩
  have hc : Blk _ c (⟨d.cell, d.ten, d.sH, some ⟨bs, 0, none⟩, some ⟨bq, 0, none⟩, some ⟨bt, 0, none⟩, d.g⟩ : G_cellplaneref28_Copy).cells _ := hc2.putC 4 [.pointer (some ⟨bq, 0, none⟩)]
  refine nilL ⟨d.sH, hc.at 2 rfl, cL0, ?_⟩
  have T := (((Now.refl (S := fun i => i = c ∨ i = b3) (w := w12)).putC (p := addA ⟨c, 0, none⟩ 5) (cs := [.pointer (some ⟨bt, 0, none⟩)]) (fun _ => Or.inl rfl)).putC (p := addA ⟨c, 0, none⟩ 3) (cs := [.pointer (some ⟨bs, 0, none⟩)]) (fun _ => Or.inl rfl)).putC (p := addA ⟨c, 0, none⟩ 4) (cs := [.pointer (some ⟨bq, 0, none⟩)]) (fun _ => Or.inl rfl)
  have eC := el_sl_api_Change.t
  have z0 := T.t.size
  have z12 := T12.t.size
  have hA : Anc (fun i => i = c ∨ i = b3) w12 w.heap.size [⟨b3, x.cells, t_api_Change⟩] := by intro i hi _ _; simp [blk] at hi; exact Or.inr hi
  have sHL : ∀ i, d.sH.on i → i ∉ blk [⟨b3, x.cells, t_api_Change⟩] := fun i hi => by have := hHN i hi; simp [blk]; omega
  repeat' first
    | (refine NewL.A (T := t_api_Change) (cs := []) T hA (fun b9 w T t h9 l9 => ?_); (try replace h9 := h9.tr t (by intro c_ hc_; (try simp only [mem_blk_cons, mem_blk_nil, or_false, false_or] at hc_ ⊢); grind [mem_blk_cons, mem_blk_nil])); (try replace h14 := h14.tr t (by intro c_ hc_; (try simp only [mem_blk_cons, mem_blk_nil, or_false, false_or] at hc_ ⊢); grind [mem_blk_cons, mem_blk_nil])); (try replace o1 := o1.tr t (by intro c_ hc_; (try simp only [mem_blk_cons, mem_blk_nil, or_false, false_or] at hc_ ⊢); grind [mem_blk_cons, mem_blk_nil])); (try replace hc := hc.tr t (by intro c_ hc_; (try simp only [mem_blk_cons, mem_blk_nil, or_false, false_or] at hc_ ⊢); grind [mem_blk_cons, mem_blk_nil])); have zt := t.size)
    | (refine NewL.A (T := t_api_Change) (cs := x.cells) T hA (fun b14 w T t h14 l14 => ?_); (try replace h9 := h9.tr t (by intro c_ hc_; (try simp only [mem_blk_cons, mem_blk_nil, or_false, false_or] at hc_ ⊢); grind [mem_blk_cons, mem_blk_nil])); (try replace h14 := h14.tr t (by intro c_ hc_; (try simp only [mem_blk_cons, mem_blk_nil, or_false, false_or] at hc_ ⊢); grind [mem_blk_cons, mem_blk_nil])); (try replace o1 := o1.tr t (by intro c_ hc_; (try simp only [mem_blk_cons, mem_blk_nil, or_false, false_or] at hc_ ⊢); grind [mem_blk_cons, mem_blk_nil])); (try replace hc := hc.tr t (by intro c_ hc_; (try simp only [mem_blk_cons, mem_blk_nil, or_false, false_or] at hc_ ⊢); grind [mem_blk_cons, mem_blk_nil])); have zt := t.size)
    | (refine RunL.freshA T hA eC (by decide) chC_len chC_one h9 (fun h => by omega) l9.2.2.2 (pH _ T).rd (pH _ T).capn (by omega) sHL (fun s1 w T t o1 f1 n1 => ⟨_, rfl, ?_⟩); have z1 : ∀ c, s1.on c → c < w.heap.size := fun c hc => o1.lt hc; have p1 := o1.1; (try replace h9 := h9.tr t (by intro c_ hc_; (try simp only [mem_blk_cons, mem_blk_nil, or_false, false_or] at hc_ ⊢); grind [mem_blk_cons, mem_blk_nil])); (try replace h14 := h14.tr t (by intro c_ hc_; (try simp only [mem_blk_cons, mem_blk_nil, or_false, false_or] at hc_ ⊢); grind [mem_blk_cons, mem_blk_nil])); (try replace o1 := o1.tr t (by intro c_ hc_; (try simp only [mem_blk_cons, mem_blk_nil, or_false, false_or] at hc_ ⊢); grind [mem_blk_cons, mem_blk_nil])); (try replace hc := hc.tr t (by intro c_ hc_; (try simp only [mem_blk_cons, mem_blk_nil, or_false, false_or] at hc_ ⊢); grind [mem_blk_cons, mem_blk_nil])); have zt := t.size)
    | (refine RunL.appA T hA eC (by decide) chC_len chC_one o1 (Blk.rd1 (x := x) h14) (fun h => by cases h) (by omega) (fun c _ hh => by have := f1 c hh; omega) n1 (fun c hh => by simp at hh; rw [← hh]; exact l14.2.2.2) (fun s2 w T t o2 f2 n2 => ⟨_, rfl, nilL ?_⟩); (try replace h9 := h9.tr t (by intro c_ hc_; (try simp only [mem_blk_cons, mem_blk_nil, or_false, false_or] at hc_ ⊢); grind [mem_blk_cons, mem_blk_nil])); (try replace h14 := h14.tr t (by intro c_ hc_; (try simp only [mem_blk_cons, mem_blk_nil, or_false, false_or] at hc_ ⊢); grind [mem_blk_cons, mem_blk_nil])); (try replace o1 := o1.tr t (by intro c_ hc_; (try simp only [mem_blk_cons, mem_blk_nil, or_false, false_or] at hc_ ⊢); grind [mem_blk_cons, mem_blk_nil])); (try replace hc := hc.tr t (by intro c_ hc_; (try simp only [mem_blk_cons, mem_blk_nil, or_false, false_or] at hc_ ⊢); grind [mem_blk_cons, mem_blk_nil])); have zt := t.size)
    | (with_reducible refine And.intro ?_ ?_)
  all_goals
    have x2 := o2.ro chC_len
    have z2 : ∀ i, s2.on i → i ≠ c ∧ i ≠ b3 ∧ w12.heap.size ≤ i := fun i hi => by
      have a1 := f2 i hi
      have a2 := f1 i
      have a3 := n2 i hi
      simp only [mem_blk_cons, mem_blk_nil, or_false] at a3
      grind
    refine ⟨rm hc (o := 2) (by omega), cL0, ?_⟩
    have hc4 : Blk _ c (⟨d.cell, d.ten, s2, some ⟨bs, 0, none⟩, some ⟨bq, 0, none⟩, some ⟨bt, 0, none⟩, d.g⟩ : G_cellplaneref28_Copy).cells _ := hc.putC 2 [.slice s2.a s2.n s2.c]
    have t := (Touch.refl (fun i => i = c) w).putC (p := addA ⟨c, 0, none⟩ 2) (cs := [.slice s2.a s2.n s2.c]) (fun _ => rfl)
    have T := T.putC (p := addA ⟨c, 0, none⟩ 2) (cs := [.slice s2.a s2.n s2.c]) (fun _ => Or.inl rfl)
    replace x2 := x2.tr t (fun i hi => (z2 i hi).1)
    refine Reb.A T hA (fun w13 T t => ?_)
    replace hc4 := hc4.tr t (fun i hi => by subst hi; exact cL0)
    replace x2 := x2.tr t n2
    refine ⟨(T12.mono (S' := fun i => i = c) (fun _ _ h => h.elim)).t.comp T.t (fun i hi h => by rcases h with h | h; exact h; omega), by rw [res], ⟨d.cell, d.ten, s2, bs, sS', bq, sq', sr', bt, d.g⟩, ?_, ?_⟩
    · rw [res]
      refine ⟨hc4, x2, pS _ T, pQ _ T, pT _ T, fun i hi => ?_⟩
      simp only [CD.on] at hi
      have := news i; have := newS i; have := z2 i
      grind
    · intro i hi
      simp only [CD.on] at hi
      have := news i; have := newS i; have := z2 i
      grind

end Go.Sh
