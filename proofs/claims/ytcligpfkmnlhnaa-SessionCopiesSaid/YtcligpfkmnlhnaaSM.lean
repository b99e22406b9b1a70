/- The contract of the reference's queue: Apply.
   Conditions: none. -/
import Derived.Test.YtcligpfkmnlhnaaSL
namespace Go.Sh
open Go
set_option linter.unusedSimpArgs false
set_option linter.unusedVariables false

theorem QueueAt.putL {w : World} {q : Nat} {s r s2 : Sl} {xs ys : List Itm} {ls : List Lea} {most : Int} (h : QueueAt w q s xs r ls most) (g : Ro itC 2 w s2 ys) (hn : ¬ s2.on q) :
    QueueAt (putC w ⟨q, 0, none⟩ [.slice s2.a s2.n s2.c]) q s2 ys r ls most := by
  have tp : Touch (fun i => i = q) w (putC w ⟨q, 0, none⟩ [.slice s2.a s2.n s2.c]) := (Touch.refl _ _).putC (fun _ => rfl)
  exact ⟨h.at_.putC 0 _, g.touch tp (fun b hb e => hn (e ▸ hb)), h.rr.touch tp (fun b hb e => h.rq (e ▸ hb)), hn, h.rq⟩

theorem QueueAt.putM {w : World} {q : Nat} {s r : Sl} {xs : List Itm} {ls : List Lea} {most : Int} (h : QueueAt w q s xs r ls most) (m : Int) :
    QueueAt (putC w (addA ⟨q, 0, none⟩ 2) [.int .i64 m]) q s xs r ls m := by
  have tp : Touch (fun i => i = q) w (putC w (addA ⟨q, 0, none⟩ 2) [.int .i64 m]) := (Touch.refl _ _).putC (fun _ => rfl)
  exact ⟨h.at_.putC 2 _, h.ll.touch tp (fun b hb e => h.lq (e ▸ hb)), h.rr.touch tp (fun b hb e => h.rq (e ▸ hb)), h.lq, h.rq⟩

theorem queue25_Apply_spec {w : World} {q : Nat} {s r : Sl} {m : QM} (hQ : QueueAt w q s m.q r m.ls m.most) (hm : m.q.length < 1000000) (hl : m.ls.length < 1000000) (x : G_api_Change) :
    Spec PP n_cellplaneref25_Queue_Apply [.pointer (some ⟨q, 0, none⟩), .agg (List.toArray x.cells)] w (fun i => i = q)
    (fun v w' => v = .int .i64 (qapply m x).1 ∧ ∃ s' r', QueueAt w' q s' (qapply m x).2.q r' (qapply m x).2.ls (qapply m x).2.most ∧ (∀ c, s'.on c → s.on c ∨ w.heap.size ≤ c) ∧ (∀ c, r'.on c → r.on c ∨ w.heap.size ≤ c)) := by
  refine cellplaneref25_Queue_Apply_calls (some ⟨q, 0, none⟩) x _ w ?_
  unfold F_cellplaneref25_Queue_Apply
  have hlt : q < w.heap.size := hQ.at_.lt
  have sl : ∀ c, s.on c → c < w.heap.size := hQ.ll.lt
  have rl : ∀ c, r.on c → c < w.heap.size := hQ.rr.lt
  have sq : ¬ s.on q := hQ.lq
  have rq : ¬ r.on q := hQ.rq
  have hxl := hQ.ll.rd.1
  have hrl := hQ.rr.rd.1
  have eI := el_sl_api_Item.t
  have T : Now (fun i => i = q) w w := Now.refl
  intro b3 hb3
  have w0 : World := w
  refine Reb.use T (Nat.le_refl _) (fun w1 T1 t1 _ => ?_)
  replace hQ := hQ.tr t1 (by intro c_ hc_; (try simp only [mem_blk_cons, mem_blk_nil, or_false, false_or] at hc_ ⊢); grind [mem_blk_cons, mem_blk_nil])
  unfold C_cellplaneref25_Queue_Apply_1
  refine CallL.val T1 (Nat.le_refl _) (fun wa _ _ => ref24_Valid_spec _ _) (fun w2 T2 t2 => ⟨_, rfl, ?_⟩)
  replace hQ := hQ.tr t2 (by intro c_ hc_; (try simp only [mem_blk_cons, mem_blk_nil, or_false, false_or] at hc_ ⊢); grind [mem_blk_cons, mem_blk_nil])
  have zt := t2.size
  have same : ∀ wc, Now (fun i => i = q) w wc → QueueAt wc q s m.q r m.ls m.most → ∀ e, qapply m x = (e, m) → Reb w.heap.size wc [⟨b3, x.cells, t_api_Change⟩] (fun w' => Touch (fun i => i = q) w w' ∧ (Value.int .i64 e) = .int .i64 (qapply m x).1 ∧
      ∃ s' r', QueueAt w' q s' (qapply m x).2.q r' (qapply m x).2.ls (qapply m x).2.most ∧ (∀ c, s'.on c → s.on c ∨ w.heap.size ≤ c) ∧ (∀ c, r'.on c → r.on c ∨ w.heap.size ≤ c)) := by
    intro wc Tc hc e he
    refine Reb.use Tc (Nat.le_refl _) (fun wd Td td _ => ⟨Td.t, by rw [he], s, r, ?_, fun c hc => Or.inl hc, fun c hc => Or.inl hc⟩)
    rw [he]
    exact hc.tr td (by intro c_ hc_; (try simp only [mem_blk_cons, mem_blk_nil, or_false, false_or] at hc_ ⊢); grind [mem_blk_cons, mem_blk_nil])
  have done : ∀ wc s' r' m', Now (fun i => i = q) w wc → QueueAt wc q s' m'.q r' m'.ls m'.most → (∀ c, s'.on c → s.on c ∨ w.heap.size ≤ c) → (∀ c, r'.on c → r.on c ∨ w.heap.size ≤ c) → qapply m x = (0, m') →
      C_cellplaneref25_Queue_Apply_3 w.heap.size (fun v w' => Touch (fun i => i = q) w w' ∧ v = .int .i64 (qapply m x).1 ∧
      ∃ s' r', QueueAt w' q s' (qapply m x).2.q r' (qapply m x).2.ls (qapply m x).2.most ∧ (∀ c, s'.on c → s.on c ∨ w.heap.size ≤ c) ∧ (∀ c, r'.on c → r.on c ∨ w.heap.size ≤ c)) wc := by
    intro wc s' r' m' Tc hc f1 f2 he
    unfold C_cellplaneref25_Queue_Apply_3
    refine Reb.use Tc (Nat.le_refl _) (fun wd Td td _ => ⟨Td.t, by rw [he], s', r', ?_, f1, f2⟩)
    rw [he]
    exact hc.tr td (by simp [blk])
  have sLL : ∀ c, s.on c → c ∉ blk [⟨b3, x.cells, t_api_Change⟩] := fun c hc => by have := sl c hc; simp [blk]; omega
  have qL : NotIn q [⟨b3, x.cells, t_api_Change⟩] := by simp; omega
  refine ifbn (fun hv => ?_) (fun hv => ?_)
  · exact same w2 T2 hQ 1 (by simp [qapply, hv])
  refine Reb.use T2 (Nat.le_refl _) (fun w3 T3 t3 _ => ?_)
  replace hQ := hQ.tr t3 (by intro c_ hc_; (try simp only [mem_blk_cons, mem_blk_nil, or_false, false_or] at hc_ ⊢); grind [mem_blk_cons, mem_blk_nil])
  unfold C_cellplaneref25_Queue_Apply_2
  refine Reb.use T3 (Nat.le_refl _) (fun w4 T4 t4 _ => ?_)
  replace hQ := hQ.tr t4 (by intro c_ hc_; (try simp only [mem_blk_cons, mem_blk_nil, or_false, false_or] at hc_ ⊢); grind [mem_blk_cons, mem_blk_nil])
  unfold C_cellplaneref25_Queue_Apply_4
  refine Reb.use T4 (Nat.le_refl _) (fun w5 T5 t5 _ => ?_)
  replace hQ := hQ.tr t5 (by intro c_ hc_; (try simp only [mem_blk_cons, mem_blk_nil, or_false, false_or] at hc_ ⊢); grind [mem_blk_cons, mem_blk_nil])
  unfold C_cellplaneref25_Queue_Apply_5
  refine ifbd (fun hk => ?_) (fun hk => ?_)
  · refine nilL ⟨m.most, hQ.at_.at 2 rfl, qL, ?_⟩
    refine ifbd (fun hc => ?_) (fun hc => ?_)
    · exact same w5 T5 hQ 36 (by simp [qapply, hv, hk, hc])
    refine Reb.use T5 (Nat.le_refl _) (fun w6 T6 t6 _ => ?_)
    replace hQ := hQ.tr t6 (by intro c_ hc_; (try simp only [mem_blk_cons, mem_blk_nil, or_false, false_or] at hc_ ⊢); grind [mem_blk_cons, mem_blk_nil])
    unfold C_cellplaneref25_Queue_Apply_6
    refine nilL ⟨s, hQ.at_.at 0 rfl, qL, ?_⟩
    refine ifbd (fun hf => ?_) (fun hf => ?_)
    · exact same w6 T6 hQ 33 (by simp [qapply, hv, hk, hc]; omega)
    refine Reb.use T6 (Nat.le_refl _) (fun w7 T7 t7 _ => ?_)
    replace hQ := hQ.tr t7 (by intro c_ hc_; (try simp only [mem_blk_cons, mem_blk_nil, or_false, false_or] at hc_ ⊢); grind [mem_blk_cons, mem_blk_nil])
    unfold C_cellplaneref25_Queue_Apply_7
    refine nilL ⟨s, hQ.at_.at 0 rfl, qL, ?_⟩
    have T := T7
    have z0 := T.t.size
    repeat' first
      | (refine NewL.blk (T := t_api_Item) (cs := []) T (Nat.le_refl _) (fun b6 w T t h6 l6 => ?_); (try replace h6 := h6.tr t (by intro c_ hc_; (try simp only [mem_blk_cons, mem_blk_nil, or_false, false_or] at hc_ ⊢); grind [mem_blk_cons, mem_blk_nil])); (try replace h11 := h11.tr t (by intro c_ hc_; (try simp only [mem_blk_cons, mem_blk_nil, or_false, false_or] at hc_ ⊢); grind [mem_blk_cons, mem_blk_nil])); (try replace o1 := o1.tr t (by intro c_ hc_; (try simp only [mem_blk_cons, mem_blk_nil, or_false, false_or] at hc_ ⊢); grind [mem_blk_cons, mem_blk_nil])); (try replace hQ := hQ.tr t (by intro c_ hc_; (try simp only [mem_blk_cons, mem_blk_nil, or_false, false_or] at hc_ ⊢); grind [mem_blk_cons, mem_blk_nil])); have zt := t.size)
      | (refine NewL.blk (T := t_api_Item) (cs := (⟨x.Seq, x.Value_⟩ : G_api_Item).cells) T (Nat.le_refl _) (fun b11 w T t h11 l11 => ?_); (try replace h6 := h6.tr t (by intro c_ hc_; (try simp only [mem_blk_cons, mem_blk_nil, or_false, false_or] at hc_ ⊢); grind [mem_blk_cons, mem_blk_nil])); (try replace h11 := h11.tr t (by intro c_ hc_; (try simp only [mem_blk_cons, mem_blk_nil, or_false, false_or] at hc_ ⊢); grind [mem_blk_cons, mem_blk_nil])); (try replace o1 := o1.tr t (by intro c_ hc_; (try simp only [mem_blk_cons, mem_blk_nil, or_false, false_or] at hc_ ⊢); grind [mem_blk_cons, mem_blk_nil])); (try replace hQ := hQ.tr t (by intro c_ hc_; (try simp only [mem_blk_cons, mem_blk_nil, or_false, false_or] at hc_ ⊢); grind [mem_blk_cons, mem_blk_nil])); have zt := t.size)
      | (refine RunL.fresh T (Nat.le_refl _) eI (by decide) itC_len itC_one h6 (by omega) l6.2.2.2 hQ.ll.rd hQ.ll.capn (by omega) sLL (fun s1 w T t o1 f1 n1 => ⟨_, rfl, ?_⟩); have z1 : ∀ c, s1.on c → c < w.heap.size := fun c hc => o1.lt hc; have p1 := o1.1; (try replace h6 := h6.tr t (by intro c_ hc_; (try simp only [mem_blk_cons, mem_blk_nil, or_false, false_or] at hc_ ⊢); grind [mem_blk_cons, mem_blk_nil])); (try replace h11 := h11.tr t (by intro c_ hc_; (try simp only [mem_blk_cons, mem_blk_nil, or_false, false_or] at hc_ ⊢); grind [mem_blk_cons, mem_blk_nil])); (try replace o1 := o1.tr t (by intro c_ hc_; (try simp only [mem_blk_cons, mem_blk_nil, or_false, false_or] at hc_ ⊢); grind [mem_blk_cons, mem_blk_nil])); (try replace hQ := hQ.tr t (by intro c_ hc_; (try simp only [mem_blk_cons, mem_blk_nil, or_false, false_or] at hc_ ⊢); grind [mem_blk_cons, mem_blk_nil])); have zt := t.size)
      | (refine RunL.app T (Nat.le_refl _) eI (by decide) itC_len itC_one o1 (Blk.rd1 (x := (⟨x.Seq, x.Value_⟩ : G_api_Item)) h11) (fun h => by cases h) (by omega) (fun c _ hh => by have := f1 c hh; omega) n1 (fun c hh => by simp at hh; rw [← hh]; exact l11.2.2.2) (fun s2 w T t o2 f2 n2 => ⟨_, rfl, nilL ?_⟩); (try replace h6 := h6.tr t (by intro c_ hc_; (try simp only [mem_blk_cons, mem_blk_nil, or_false, false_or] at hc_ ⊢); grind [mem_blk_cons, mem_blk_nil])); (try replace h11 := h11.tr t (by intro c_ hc_; (try simp only [mem_blk_cons, mem_blk_nil, or_false, false_or] at hc_ ⊢); grind [mem_blk_cons, mem_blk_nil])); (try replace o1 := o1.tr t (by intro c_ hc_; (try simp only [mem_blk_cons, mem_blk_nil, or_false, false_or] at hc_ ⊢); grind [mem_blk_cons, mem_blk_nil])); (try replace hQ := hQ.tr t (by intro c_ hc_; (try simp only [mem_blk_cons, mem_blk_nil, or_false, false_or] at hc_ ⊢); grind [mem_blk_cons, mem_blk_nil])); have zt := t.size)
      | (with_reducible refine And.intro ?_ ?_)
    all_goals
      have p2 := o2.1
      have x2 := o2.ro itC_len
      have z2 : ∀ c, s2.on c → c < w.heap.size ∧ c ≠ q ∧ w7.heap.size ≤ c := fun c hc => ⟨o2.lt hc, by grind, by grind⟩
      refine ⟨hQ.at_.room (by simp [G_cellplaneref25_Queue.cells, addA]), qL, ?_⟩
      have hQ := hQ.putL x2 (fun hc => (z2 q hc).2.1 rfl)
      have T := T.putC (p := ⟨q, 0, none⟩) (cs := [.slice s2.a s2.n s2.c]) (fun _ => rfl)
      refine Reb.use T (Nat.le_refl _) (fun w8 T8 t8 _ => ?_)
      replace hQ := hQ.tr t8 (by intro c_ hc_; (try simp only [mem_blk_cons, mem_blk_nil, or_false, false_or] at hc_ ⊢); grind [mem_blk_cons, mem_blk_nil])
      unfold C_cellplaneref25_Queue_Apply_8
      refine nilL ⟨hQ.at_.room (by simp [G_cellplaneref25_Queue.cells, addA]), qL, ?_⟩
      have hQ := hQ.putM x.Seq
      have T := T8.putC (p := addA ⟨q, 0, none⟩ 2) (cs := [.int .i64 x.Seq]) (fun _ => rfl)
      refine Reb.use T (Nat.le_refl _) (fun w9 T9 t9 _ => ?_)
      replace hQ := hQ.tr t9 (by intro c_ hc_; (try simp only [mem_blk_cons, mem_blk_nil, or_false, false_or] at hc_ ⊢); grind [mem_blk_cons, mem_blk_nil])
      exact done w9 s2 r ⟨m.q ++ [⟨x.Seq, x.Value_⟩], m.ls, x.Seq⟩ T9 hQ (fun c hc => by have := (z2 c hc).2.2; omega) (fun c hc => Or.inl hc) (by simp [qapply, hv, hk, hc]; omega)
  · refine ifbd (fun hk4 => ?_) (fun hk4 => ?_)
    · refine CallL.val T5 (Nat.le_refl _) (fun wa _ t => queue25_at_spec (hQ.tr t (by intro c_ hc_; (try simp only [mem_blk_cons, mem_blk_nil, or_false, false_or] at hc_ ⊢); grind [mem_blk_cons, mem_blk_nil])) hm x.Item) (fun w6 T6 t6 => ⟨_, rfl, ?_⟩)
      replace hQ := hQ.tr t6 (by intro c_ hc_; (try simp only [mem_blk_cons, mem_blk_nil, or_false, false_or] at hc_ ⊢); grind [mem_blk_cons, mem_blk_nil])
      have zt := t6.size
      refine ifbd (fun hn => ?_) (fun hn => ?_)
      · exact same w6 T6 hQ 34 (by simp [qapply, hv, hk4, hn])
      have hj : qatI x.Item m.q = (qat x.Item m.q : Int) ∧ qat x.Item m.q < m.q.length := by
        unfold qatI at hn ⊢
        split
        · rename_i h; exact ⟨rfl, h⟩
        · rename_i h; rw [if_neg h] at hn; omega
      rw [hj.1]
      have iw : IntKind.i64.wrap (((qat x.Item m.q : Nat) : Int) + 1) = ((qat x.Item m.q + 1 : Nat) : Int) := by rw [wrap_i64 (by omega) (by omega)]; simp
      rw [iw, Int.toNat_natCast, Int.toNat_natCast]
      have hcp := hQ.ll.cap
      refine nilL ⟨s, hQ.at_.at 0 rfl, qL, by omega, by omega, nilL ⟨s, hQ.at_.at 0 rfl, qL, by omega, by omega, ?_⟩⟩
      have z0 := T6.t.size
      refine NewL.blk T6 (Nat.le_refl _) (fun b6 w T t h6 l6 => ?_)
      replace hQ := hQ.tr t (by intro c_ hc_; (try simp only [mem_blk_cons, mem_blk_nil, or_false, false_or] at hc_ ⊢); grind [mem_blk_cons, mem_blk_nil])
      have zt := t.size
      refine RunL.fresh T (Nat.le_refl _) eI (by decide) itC_len itC_one h6 (by omega) l6.2.2.2 (hQ.ll.rd.take (Nat.le_of_lt hj.2)) hQ.ll.capn (by omega) sLL (fun s1 w T t o1 f1 n1 => ⟨_, rfl, ?_⟩)
      replace hQ := hQ.tr t (by intro c_ hc_; (try simp only [mem_blk_cons, mem_blk_nil, or_false, false_or] at hc_ ⊢); grind [mem_blk_cons, mem_blk_nil])
      have zt := t.size
      refine ⟨hQ.at_.at 0 rfl, ?_⟩
      have p1 := o1.1
      rw [List.length_take] at p1
      have hc0 : slA s.a s.c (qat x.Item m.q + 1) 2 = none → s.c - (qat x.Item m.q + 1) = 0 := fun hh => by
        unfold slA at hh
        split at hh
        · omega
        · have := hQ.ll.capn (by simpa using hh); omega
      refine RunL.app T (Nat.le_refl _) eI (by decide) itC_len itC_one o1 (hQ.ll.rd.drop (by omega) hcp) hc0 (by omega) (fun c _ hh => by have := f1 c hh; omega) n1 (fun c hh => sLL c (slA_on hh)) (fun s2 w T t o2 f2 n2 => ⟨_, rfl, nilL ?_⟩)
      replace hQ := hQ.tr t (by intro c_ hc_; (try simp only [mem_blk_cons, mem_blk_nil, or_false, false_or] at hc_ ⊢); grind [mem_blk_cons, mem_blk_nil])
      have zt := t.size
      have x2 := o2.ro itC_len
      have z2 : ∀ c, s2.on c → c < w.heap.size ∧ c ≠ q ∧ w6.heap.size ≤ c := fun c hc => ⟨o2.lt hc, by grind, by grind⟩
      refine ⟨hQ.at_.room (by simp [G_cellplaneref25_Queue.cells, addA]), qL, ?_⟩
      have hQ := hQ.putL x2 (fun hc => (z2 q hc).2.1 rfl)
      have T := T.putC (p := ⟨q, 0, none⟩) (cs := [.slice s2.a s2.n s2.c]) (fun _ => rfl)
      have hs2 : ∀ c, s2.on c → c ∉ blk [⟨b3, x.cells, t_api_Change⟩] := n2
      refine CallL.turn' (fun i => i = q) T (Nat.le_refl _) (fun i hi => ⟨by rw [putC_size]; have := T.t.size; rw [putC_size] at this; omega, by subst hi; exact qL⟩) (fun _ _ h => h) (fun wa _ t => queue25_drop_spec (hQ.tr t (by intro c_ hc_; (try simp only [mem_blk_cons, mem_blk_nil, or_false, false_or] at hc_ ⊢); grind [mem_blk_cons, mem_blk_nil])) hl x.Item) ?_
      rintro wa v w7 T7 t7 ta tb tl ⟨rfl, r2, hQ7, hr2⟩
      refine ⟨rfl, ?_⟩
      rw [putC_size] at ta
      have z8 := T.t.size
      rw [putC_size] at z8
      have b3l : b3 < wa.heap.size := tl b3 (by simp [blk])
      refine Reb.use T7 (Nat.le_refl _) (fun w8 T8 t8 _ => ?_)
      replace hQ7 := hQ7.tr t8 (by intro c_ hc_; (try simp only [mem_blk_cons, mem_blk_nil, or_false, false_or] at hc_ ⊢); grind [mem_blk_cons, mem_blk_nil])
      exact done w8 s2 r2 ⟨m.q.take (qat x.Item m.q) ++ m.q.drop (qat x.Item m.q + 1), dropM x.Item m.ls, m.most⟩ T8 hQ7 (fun c hc => by have := (z2 c hc).2.2; omega) (fun c hc => by have := hr2 c hc; omega) (by simp [qapply, hv, hk4, hn])
    ·
      refine Reb.use T5 (Nat.le_refl _) (fun w6 T6 t6 _ => ?_)
      replace hQ := hQ.tr t6 (by intro c_ hc_; (try simp only [mem_blk_cons, mem_blk_nil, or_false, false_or] at hc_ ⊢); grind [mem_blk_cons, mem_blk_nil])
      exact done w6 s r m T6 hQ (fun c hc => Or.inl hc) (fun c hc => Or.inl hc) (by simp [qapply, hv, hk, hk4])

end Go.Sh
