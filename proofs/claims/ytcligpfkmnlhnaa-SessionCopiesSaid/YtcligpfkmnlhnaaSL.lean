/- Contracts of the reference's queue: Copy, Apply.
   Conditions: none. -/
import Derived.Test.YtcligpfkmnlhnaaSK
namespace Go.Sh
open Go
set_option linter.unusedSimpArgs false
set_option linter.unusedVariables false

theorem mem_blk_cons {b : Nat} {l : LB} {L : List LB} : b ∈ blk (l :: L) ↔ b = l.b ∨ b ∈ blk L := by simp [blk]
theorem mem_blk_nil {b : Nat} : b ∈ blk [] ↔ False := by simp [blk]

theorem Blk.tr {S : Nat → Prop} {w w' : World} {b : Nat} {cs : List Value} {T : TypeId} (h : Blk w b cs T) (t : Touch S w w') (hd : ∀ c, c = b → ¬ S c) : Blk w' b cs T := h.touch t (hd b rfl)
theorem TabAt.tr {S : Nat → Prop} {w w' : World} {b : Nat} {tb : Tab} (h : TabAt w b tb) (t : Touch S w w') (hd : ∀ c, c = b → ¬ S c) : TabAt w' b tb := Blk.touch h t (hd b rfl)
theorem RTabAt.tr {S : Nat → Prop} {w w' : World} {b : Nat} {tb : Tab} (h : RTabAt w b tb) (t : Touch S w w') (hd : ∀ c, c = b → ¬ S c) : RTabAt w' b tb := Blk.touch h t (hd b rfl)
theorem StoreAt.tr {w w' : World} {q : Nat} {s : Sl} {xs : List Cel} {S : Nat → Prop} (h : StoreAt w q s xs) (t : Touch S w w') (hd : ∀ c, (c = q ∨ s.on c) → ¬ S c) : StoreAt w' q s xs :=
  h.touch t (hd q (Or.inl rfl)) (fun c hc => hd c (Or.inr hc))
theorem QueueAt.tr {w w' : World} {q : Nat} {s r : Sl} {xs : List Itm} {ls : List Lea} {most : Int} {S : Nat → Prop} (h : QueueAt w q s xs r ls most) (t : Touch S w w') (hd : ∀ c, (c = q ∨ s.on c ∨ r.on c) → ¬ S c) : QueueAt w' q s xs r ls most :=
  h.touch t (hd q (Or.inl rfl)) (fun c hc => hd c (Or.inr (Or.inl hc))) (fun c hc => hd c (Or.inr (Or.inr hc)))
theorem TapeAt.tr {w w' : World} {b : Nat} {s : Sl} {xs : List Int} {i : Nat} {S : Nat → Prop} (h : TapeAt w b s xs i) (t : Touch S w w') (hd : ∀ c, (c = b ∨ s.on c) → ¬ S c) : TapeAt w' b s xs i :=
  h.touch t (hd b (Or.inl rfl)) (fun c hc => hd c (Or.inr hc))
section
variable {α : Type} {c : α → List Value} {k : Nat} {e : TypeId} {w w' : World} {s : Sl} {xs : List α} {S : Nat → Prop}
theorem Rd.tr (h : Rd c k w s xs) (t : Touch S w w') (hd : ∀ b, s.on b → ¬ S b) : Rd c k w' s xs := h.touch t hd
theorem Ro.tr (h : Ro c k w s xs) (t : Touch S w w') (hd : ∀ b, s.on b → ¬ S b) : Ro c k w' s xs := h.touch t hd
theorem Own.tr (h : Own c k e w s xs) (t : Touch S w w') (hd : ∀ b, s.on b → ¬ S b) : Own c k e w' s xs := h.touch t hd
end

/-- 'append([]T{}, x...)': the copy is all new -/
theorem RunL.fresh {α : Type} {c : α → List Value} {k : Nat} {e : TypeId} {w : World} {P : Program} {t ty bytes N : Nat} {L : List LB} {R : Value → World → Prop} {w0 : World} {S0 : Nat → Prop} (T : Now S0 w0 w) (hN : w0.heap.size ≤ N)
    (E : ElemT P t e k bytes) (hb0 : 0 < bytes) (hk : ∀ x, (c x).length = k) (h1 : ∀ x, ∀ u ∈ c x, u.oneCell' = true) {b : Nat} (hb : Blk w b [] e) (hge : w0.heap.size ≤ b) (hbL : b ∉ blk L)
    {q : Option Addr} {m cap : Nat} {ys : List α} (hy : Rd c k w ⟨q, m, cap⟩ ys) (hcap : q = none → cap = 0) (hsz : m * bytes ≤ 140737488355328) (hyo : ∀ b, (Sl.mk q m cap).on b → b ∉ blk L)
    (hR : ∀ (s' : Sl) (w' : World), Now S0 w0 w' → Touch (fun i => i ∈ blk L ∨ i = b) w w' → Own c k e w' s' ys → (∀ i, s'.on i → i = b ∨ w.heap.size ≤ i) → (∀ i, s'.on i → i ∉ blk L) → R (.slice s'.a s'.n s'.c) w') :
    RunL P N w L (Builtin.append_ #[t, t] ty #[.slice (some ⟨b, 0, none⟩) 0 0, .slice q m cap]) R := by
  refine RunL.app T hN E hb0 hk h1 (Blk.own0 hb) hy hcap (by simpa using hsz) (fun i hi hon => by simp at hon; omega) (fun i hon => by simp at hon; rw [← hon]; exact hbL) hyo (fun s' w' T' t' o f n => hR s' w' T' (t'.mono (fun i _ hi => ?_)) (by rwa [List.nil_append] at o) (fun i hi => ?_) n)
  · rcases hi with h | h
    · exact Or.inl h
    · simp at h; exact Or.inr h.symm
  · rcases f i hi with h | h
    · simp at h; exact Or.inl h.symm
    · exact Or.inr h

theorem NewL.blk {N : Nat} {w w0 : World} {L : List LB} {cs : List Value} {T : TypeId} {k : Nat → World → Prop} {S0 : Nat → Prop} (ht : Now S0 w0 w) (hN : w0.heap.size ≤ N)
    (h : ∀ b w', Now S0 w0 w' → Touch (fun b => b ∈ blk L) w w' → Blk w' b cs T → N ≤ b ∧ w.heap.size ≤ b ∧ b < w'.heap.size ∧ b ∉ blk L → k b w') : NewL N w L cs T k :=
  NewL.use ht hN (fun b w' g1 g2 T t hb hl n => h b w' T t hb ⟨g2, g1, hl, n⟩)

/-- A call that may turn the blocks 'S'; the call's own blocks are there when it begins. -/
theorem CallL.turn' {P : Program} {N : Nat} {w w0 : World} {L : List LB} {f : FuncId} {args : List Value} {R : Value → World → Prop} {R' : World → Value → World → Prop} {S0 : Nat → Prop} (S : Nat → Prop) (T : Now S0 w0 w) (hN : w0.heap.size ≤ N)
    (hok : Ok S w L) (hs : ∀ i, i < w0.heap.size → S i → S0 i)
    (h : ∀ wa, Now S0 w0 wa → Touch (fun b => b ∈ blk L) w wa → Spec P f args wa S (R' wa))
    (k : ∀ wa v w', Now S0 w0 w' → Touch (fun b => b ∈ blk L ∨ S b) w w' → w.heap.size ≤ wa.heap.size → wa.heap.size ≤ w'.heap.size → (∀ b ∈ blk L, b < wa.heap.size) → R' wa v w' → R v w') : CallL P N w L f args R :=
  CallL.use hok (fun wa hl => h wa (T.loc hl hN) hl.touch)
    (fun wa v w' hl ht hr => k wa v w' ((T.loc hl hN).comp ht hs) ((hl.touch.mono (fun _ _ h => Or.inl h)).comp ht (fun _ _ h => Or.inr h)) hl.touch.size ht.size (fun b hb => hl.lt hb) hr)

theorem queue25_Copy_spec {w : World} {q : Nat} {s r : Sl} {xs : List Itm} {ls : List Lea} {most : Int} (h : QueueAt w q s xs r ls most) (hm : xs.length < 1000000) (hl : ls.length < 1000000) : Spec PP n_cellplaneref25_Queue_Copy [.pointer (some ⟨q, 0, none⟩)] w noB
    (fun v w' => ∃ b s' r', v = .pointer (some ⟨b, 0, none⟩) ∧ w.heap.size ≤ b ∧ QueueAt w' b s' xs r' ls most ∧ (∀ c, s'.on c → w.heap.size ≤ c) ∧ (∀ c, r'.on c → w.heap.size ≤ c)) := by
  refine cellplaneref25_Queue_Copy_calls (some ⟨q, 0, none⟩) _ w ?_
  unfold F_cellplaneref25_Queue_Copy
  have T : Now noB w w := Now.refl
  have hQ : ∀ w', Now noB w w' → QueueAt w' q s xs r ls most := fun w' T' => h.touch T'.t (fun h => h) (fun _ _ h => h) (fun _ _ h => h)
  have hxl := h.ll.rd.1
  have hrl := h.rr.rd.1
  have eI := el_sl_api_Item.t
  have eL := el_sl_api_Lease.t
  refine nilL ⟨s, h.at_.at 0 rfl, notIn_nil, nilL ⟨r, h.at_.at 1 rfl, notIn_nil, nilL ⟨most, h.at_.at 2 rfl, notIn_nil, ?_⟩⟩⟩
  repeat' first
    | (refine NewL.blk (T := t_api_Item) T (Nat.le_refl _) (fun b7 w T t h7 l7 => ?_); (try replace h7 := h7.tr t (by intro c_ hc_; (try simp only [mem_blk_cons, mem_blk_nil, or_false, false_or] at hc_ ⊢); grind [mem_blk_cons, mem_blk_nil])); (try replace h12 := h12.tr t (by intro c_ hc_; (try simp only [mem_blk_cons, mem_blk_nil, or_false, false_or] at hc_ ⊢); grind [mem_blk_cons, mem_blk_nil])); (try replace o1 := o1.tr t (by intro c_ hc_; (try simp only [mem_blk_cons, mem_blk_nil, or_false, false_or] at hc_ ⊢); grind [mem_blk_cons, mem_blk_nil])); (try replace o2 := o2.tr t (by intro c_ hc_; (try simp only [mem_blk_cons, mem_blk_nil, or_false, false_or] at hc_ ⊢); grind [mem_blk_cons, mem_blk_nil])); have zt := t.size)
    | (refine NewL.blk (T := t_api_Lease) T (Nat.le_refl _) (fun b12 w T t h12 l12 => ?_); (try replace h7 := h7.tr t (by intro c_ hc_; (try simp only [mem_blk_cons, mem_blk_nil, or_false, false_or] at hc_ ⊢); grind [mem_blk_cons, mem_blk_nil])); (try replace h12 := h12.tr t (by intro c_ hc_; (try simp only [mem_blk_cons, mem_blk_nil, or_false, false_or] at hc_ ⊢); grind [mem_blk_cons, mem_blk_nil])); (try replace o1 := o1.tr t (by intro c_ hc_; (try simp only [mem_blk_cons, mem_blk_nil, or_false, false_or] at hc_ ⊢); grind [mem_blk_cons, mem_blk_nil])); (try replace o2 := o2.tr t (by intro c_ hc_; (try simp only [mem_blk_cons, mem_blk_nil, or_false, false_or] at hc_ ⊢); grind [mem_blk_cons, mem_blk_nil])); have zt := t.size)
    | (refine RunL.fresh T (Nat.le_refl _) eI (by decide) itC_len itC_one h7 (by omega) (by simp [blk]) (hQ _ T).ll.rd (hQ _ T).ll.capn (by omega) (by simp [blk]) (fun s1 w T t o1 f1 _ => ⟨_, rfl, (hQ _ T).at_.at 2 rfl, (hQ _ T).at_.at 1 rfl, ?_⟩); have z1 : ∀ c, s1.on c → c < w.heap.size := fun c hc => o1.lt hc; (try replace h7 := h7.tr t (by intro c_ hc_; (try simp only [mem_blk_cons, mem_blk_nil, or_false, false_or] at hc_ ⊢); grind [mem_blk_cons, mem_blk_nil])); (try replace h12 := h12.tr t (by intro c_ hc_; (try simp only [mem_blk_cons, mem_blk_nil, or_false, false_or] at hc_ ⊢); grind [mem_blk_cons, mem_blk_nil])); (try replace o1 := o1.tr t (by intro c_ hc_; (try simp only [mem_blk_cons, mem_blk_nil, or_false, false_or] at hc_ ⊢); grind [mem_blk_cons, mem_blk_nil])); (try replace o2 := o2.tr t (by intro c_ hc_; (try simp only [mem_blk_cons, mem_blk_nil, or_false, false_or] at hc_ ⊢); grind [mem_blk_cons, mem_blk_nil])); have zt := t.size)
    | (refine RunL.fresh T (Nat.le_refl _) eL (by decide) leC_len leC_one h12 (by omega) (by simp [blk]) (hQ _ T).rr.rd (hQ _ T).rr.capn (by omega) (by simp [blk]) (fun r1 w T t o2 f2 _ => ⟨_, rfl, (hQ _ T).at_.at 2 rfl, ?_⟩); have z2 : ∀ c, r1.on c → c < w.heap.size := fun c hc => o2.lt hc; (try replace h7 := h7.tr t (by intro c_ hc_; (try simp only [mem_blk_cons, mem_blk_nil, or_false, false_or] at hc_ ⊢); grind [mem_blk_cons, mem_blk_nil])); (try replace h12 := h12.tr t (by intro c_ hc_; (try simp only [mem_blk_cons, mem_blk_nil, or_false, false_or] at hc_ ⊢); grind [mem_blk_cons, mem_blk_nil])); (try replace o1 := o1.tr t (by intro c_ hc_; (try simp only [mem_blk_cons, mem_blk_nil, or_false, false_or] at hc_ ⊢); grind [mem_blk_cons, mem_blk_nil])); (try replace o2 := o2.tr t (by intro c_ hc_; (try simp only [mem_blk_cons, mem_blk_nil, or_false, false_or] at hc_ ⊢); grind [mem_blk_cons, mem_blk_nil])); have zt := t.size)
    | (with_reducible refine And.intro ?_ ?_)
  all_goals
    have x1 := o1.ro itC_len
    have x2 := o2.ro leC_len
    refine NewL.blk (T := t_cellplaneref25_Queue) T (Nat.le_refl _) (fun b w T t hb lb => ?_)
    replace x1 := x1.tr t (by intro c_ hc_; (try simp only [mem_blk_cons, mem_blk_nil, or_false, false_or] at hc_ ⊢); grind [mem_blk_cons, mem_blk_nil])
    replace x2 := x2.tr t (by intro c_ hc_; (try simp only [mem_blk_cons, mem_blk_nil, or_false, false_or] at hc_ ⊢); grind [mem_blk_cons, mem_blk_nil])
    have zt := t.size
    refine Reb.use T (Nat.le_refl _) (fun w T t _ => ⟨T.t, b, s1, r1, rfl, lb.1, ?_, ?_, ?_⟩)
    · refine ⟨hb.tr t (by intro c_ hc_; (try simp only [mem_blk_cons, mem_blk_nil, or_false, false_or] at hc_ ⊢); grind [mem_blk_cons, mem_blk_nil]), x1.tr t (by intro c_ hc_; (try simp only [mem_blk_cons, mem_blk_nil, or_false, false_or] at hc_ ⊢); grind [mem_blk_cons, mem_blk_nil]), x2.tr t (by intro c_ hc_; (try simp only [mem_blk_cons, mem_blk_nil, or_false, false_or] at hc_ ⊢); grind [mem_blk_cons, mem_blk_nil]), fun hc => ?_, fun hc => ?_⟩
      · have := z1 _ hc; omega
      · have := z2 _ hc; omega
    · intro c hc
      have := f1 c hc
      omega
    · intro c hc
      have := f2 c hc
      omega

end Go.Sh
