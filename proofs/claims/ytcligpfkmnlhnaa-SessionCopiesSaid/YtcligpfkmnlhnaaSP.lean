/- Contracts of the mill: Change, Grow, History.
   Conditions: none. -/
import Derived.Test.YtcligpfkmnlhnaaSO
namespace Go.Sh
open Go
set_option linter.unusedSimpArgs false
set_option linter.unusedVariables false
set_option maxHeartbeats 4000000

def chEnd (xs : List Int) (i : Nat) (c : CM) (x : G_api_Change) : G_api_Change × Nat :=
  if x.Kind = 1 then ({ x with Key := (textM xs i 1 16).1, Value_ := (textM xs (textM xs i 1 16).2 0 64).1 }, (textM xs (textM xs i 1 16).2 0 64).2)
  else if x.Kind = 2 then ({ x with Key := ((c.s[(nextM xs i c.s.length).1.toNat]?).map (·.Key)).getD ByteArray.empty }, (nextM xs i c.s.length).2)
  else if x.Kind = 3 then ({ x with Value_ := (textM xs i 0 64).1 }, (textM xs i 0 64).2)
  else ({ x with Item := ((c.m.q[(nextM xs i c.m.q.length).1.toNat]?).map (·.Number)).getD 0 }, (nextM xs i c.m.q.length).2)

def chHead (xs : List Int) (i : Nat) (c : CM) (epoch : Int) : G_api_Change × Nat :=
  ({ Epoch := epoch, Seq := (c.h.length : Int) + 1, Kind := (rangeM xs i 1 4).1, Client := (rangeM xs (rangeM xs i 1 4).2 1 4).1, Number := tlast c.t (rangeM xs (rangeM xs i 1 4).2 1 4).1 + 1, Item := 0, Key := ByteArray.empty, Value_ := ByteArray.empty }, (rangeM xs (rangeM xs i 1 4).2 1 4).2)
def kindM (c : CM) (k : Int) : Int := if k = 4 ∧ c.m.q.length = 0 then 3 else if k = 2 ∧ c.s.length = 0 then 1 else k

theorem changeM_eq (xs : List Int) (i : Nat) (c : CM) (e : Int) : changeM xs i c e = chEnd xs (chHead xs i c e).2 c { (chHead xs i c e).1 with Kind := kindM c (chHead xs i c e).1.Kind } := by
  unfold changeM chEnd
  rfl

theorem mill_Change_spec {w : World} {tb c : Nat} {s : Sl} {xs : List Int} {i : Nat} {d : CD} {m : CM} (hT : TapeAt w tb s xs i) (hC0 : CopyAt w c d m) (ok : COk m) (hm : m.h.length < 1000000) (htc : ¬ (tb = c ∨ d.on tb)) (epoch : Int) :
    Spec PP n_cellplanemill_Change [.pointer (some ⟨tb, 0, none⟩), .pointer (some ⟨c, 0, none⟩), .int .i64 epoch] w (fun i => i = tb)
    (fun v w' => v = .agg (List.toArray (changeM xs i m epoch).1.cells) ∧ TapeAt w' tb s xs (changeM xs i m epoch).2) := by
  refine cellplanemill_Change_calls (some ⟨tb, 0, none⟩) (some ⟨c, 0, none⟩) epoch _ w ?_
  unfold F_cellplanemill_Change
  have T : Now (fun i => i = tb) w w := Now.refl
  have hC : ∀ w', Now (fun i => i = tb) w w' → CopyAt w' c d m := fun w' T' => hC0.tr T'.t (fun i hi e => htc (by subst e; exact hi))
  have tlt := hT.at_.lt
  have slt := hT.lt
  have cl : ∀ i, (i = c ∨ d.on i) → i < w.heap.size := fun i hi => hC0.lt hi
  have Son : ∀ i, (i = d.bS ∨ d.sS.on i) → d.on i := fun i h => Or.inr (Or.inl h)
  have Qon : ∀ i, (i = d.bQ ∨ d.sQ.on i ∨ d.sR.on i) → d.on i := fun i h => Or.inr (Or.inr (Or.inl h))
  have hql := ok.q
  have hsl := ok.s
  have hHl := hC0.h.rd.1
  have hSl := hC0.s.rd.1
  have hQl := hC0.q.ll.rd.1
  have end5 : ∀ wc i' x7 v6 b6 T6 b7 T7, Now (fun i => i = tb) w wc → TapeAt wc tb s xs i' → w.heap.size ≤ b6 → w.heap.size ≤ b7 → 1 ≤ x7.Kind → x7.Kind ≤ 4 → (x7.Kind = 2 → 0 < m.s.length) → (x7.Kind = 4 → 0 < m.m.q.length) → chEnd xs i' m x7 = changeM xs i m epoch →
      C_cellplanemill_Change_5 w.heap.size (fun v w' => Touch (fun i => i = tb) w w' ∧ (fun v w' => v = .agg (List.toArray (changeM xs i m epoch).1.cells) ∧ TapeAt w' tb s xs (changeM xs i m epoch).2) v w') (some ⟨tb, 0, none⟩) (some ⟨c, 0, none⟩) b6 v6 T6 b7 x7 T7 wc := by
    intro wc i' x7 v6 b6 T6 b7 T7 T hT l6 l7 k1 k4 k2 kq he
    unfold C_cellplanemill_Change_5
    have z := T.t.size
    have nL : ∀ i, i < w.heap.size → NotIn i [⟨b6, v6.cells, T6⟩, ⟨b7, x7.cells, T7⟩] := fun i hi => by simp; omega
    have hok : ∀ {wd : World}, Now (fun i => i = tb) w wd → Ok (fun i => i = tb) wd [⟨b6, v6.cells, T6⟩, ⟨b7, x7.cells, T7⟩] := fun T' i hi => ⟨by have := T'.t.size; omega, by subst hi; exact nL _ tlt⟩
    refine ifbd (fun h1 => ?_) (fun h1 => ?_)
    · refine CallL.A (fun i => i = tb) T Anc.start (hok T) (fun _ _ h => h) (fun wa _ t => mill_Text_spec (hT.tr t (by intro c_ hc_; (try simp only [mem_blk_cons, mem_blk_nil, or_false, false_or] at hc_ ⊢); grind [mem_blk_cons, mem_blk_nil])) (by omega) (by omega) (by omega)) ?_
      rintro wa v w2 T t _ _ _ ⟨rfl, hT⟩
      refine ⟨_, rfl, ?_⟩
      refine CallL.A (fun i => i = tb) T Anc.start (hok T) (fun _ _ h => h) (fun wa _ t => mill_Text_spec (hT.tr t (by intro c_ hc_; (try simp only [mem_blk_cons, mem_blk_nil, or_false, false_or] at hc_ ⊢); grind [mem_blk_cons, mem_blk_nil])) (by omega) (by omega) (by omega)) ?_
      rintro wa v w3 T t _ _ _ ⟨rfl, hT⟩
      refine ⟨_, rfl, ?_⟩
      refine Reb.A T Anc.start (fun w4 T t => ⟨T.t, ?_⟩)
      replace hT := hT.tr t (by intro c_ hc_; (try simp only [mem_blk_cons, mem_blk_nil, or_false, false_or] at hc_ ⊢); grind [mem_blk_cons, mem_blk_nil])
      have zt := t.size
      rw [← he]
      simp only [chEnd, if_pos h1]
      exact ⟨trivial, hT⟩
    refine ifbd (fun h2 => ?_) (fun h2 => ?_)
    · have h0 := k2 h2
      refine nilL ⟨_, (hC _ T).at_.at 3 rfl, nL _ (cl _ (.inl rfl)), nilL ⟨d.sS, (hC _ T).s.at_.at 0 rfl, nL _ (cl _ (.inr (Son _ (.inl rfl)))), nilL ⟨_, (hC _ T).at_.at 3 rfl, nL _ (cl _ (.inl rfl)), nilL ⟨d.sS, (hC _ T).s.at_.at 0 rfl, nL _ (cl _ (.inr (Son _ (.inl rfl)))), ?_⟩⟩⟩⟩
      refine CallL.A (fun i => i = tb) T Anc.start (hok T) (fun _ _ h => h) (fun wa _ t => mill_Next_spec (hT.tr t (by intro c_ hc_; (try simp only [mem_blk_cons, mem_blk_nil, or_false, false_or] at hc_ ⊢); grind [mem_blk_cons, mem_blk_nil])) (by omega) (by omega)) ?_
      rintro wa v w2 T t _ _ _ ⟨rfl, hT⟩
      refine ⟨_, rfl, (hC _ T).s.at_.at 0 rfl, (hC _ T).at_.at 3 rfl, ?_⟩
      have hr := nextM_range (xs := xs) (i := i') (n := (d.sS.n : Int)) (by omega)
      refine (hC _ T).s.rd.idx (by omega) (by omega) (fun p x hp hx hat => ?_)
      refine ⟨x.Key, hat.take 1 rfl, nL _ (cl _ (.inr (Son _ (.inr ⟨p, hp, (add_block _ _).symm⟩)))), ?_⟩
      refine Reb.A T Anc.start (fun w4 T t => ⟨T.t, ?_⟩)
      replace hT := hT.tr t (by intro c_ hc_; (try simp only [mem_blk_cons, mem_blk_nil, or_false, false_or] at hc_ ⊢); grind [mem_blk_cons, mem_blk_nil])
      have zt := t.size
      rw [← he]
      simp only [chEnd, if_neg h1, if_pos h2, hSl, hx]
      exact ⟨rfl, hT⟩
    refine ifbd (fun h3 => ?_) (fun h3 => ?_)
    · refine CallL.A (fun i => i = tb) T Anc.start (hok T) (fun _ _ h => h) (fun wa _ t => mill_Text_spec (hT.tr t (by intro c_ hc_; (try simp only [mem_blk_cons, mem_blk_nil, or_false, false_or] at hc_ ⊢); grind [mem_blk_cons, mem_blk_nil])) (by omega) (by omega) (by omega)) ?_
      rintro wa v w2 T t _ _ _ ⟨rfl, hT⟩
      refine ⟨_, rfl, ?_⟩
      refine Reb.A T Anc.start (fun w4 T t => ⟨T.t, ?_⟩)
      replace hT := hT.tr t (by intro c_ hc_; (try simp only [mem_blk_cons, mem_blk_nil, or_false, false_or] at hc_ ⊢); grind [mem_blk_cons, mem_blk_nil])
      have zt := t.size
      rw [← he]
      simp only [chEnd, if_neg h1, if_neg h2, if_pos h3]
      exact ⟨trivial, hT⟩
    refine ifbd (fun h4 => ?_) (fun h4 => ?_)
    · have h0 := kq h4
      refine nilL ⟨_, (hC _ T).at_.at 4 rfl, nL _ (cl _ (.inl rfl)), nilL ⟨d.sQ, (hC _ T).q.at_.at 0 rfl, nL _ (cl _ (.inr (Qon _ (.inl rfl)))), nilL ⟨_, (hC _ T).at_.at 4 rfl, nL _ (cl _ (.inl rfl)), nilL ⟨d.sQ, (hC _ T).q.at_.at 0 rfl, nL _ (cl _ (.inr (Qon _ (.inl rfl)))), ?_⟩⟩⟩⟩
      refine CallL.A (fun i => i = tb) T Anc.start (hok T) (fun _ _ h => h) (fun wa _ t => mill_Next_spec (hT.tr t (by intro c_ hc_; (try simp only [mem_blk_cons, mem_blk_nil, or_false, false_or] at hc_ ⊢); grind [mem_blk_cons, mem_blk_nil])) (by omega) (by omega)) ?_
      rintro wa v w2 T t _ _ _ ⟨rfl, hT⟩
      refine ⟨_, rfl, (hC _ T).q.at_.at 0 rfl, (hC _ T).at_.at 4 rfl, ?_⟩
      have hr := nextM_range (xs := xs) (i := i') (n := (d.sQ.n : Int)) (by omega)
      refine (hC _ T).q.ll.rd.idx (by omega) (by omega) (fun p x hp hx hat => ?_)
      refine ⟨x.Number, hat.take 1 rfl, nL _ (cl _ (.inr (Qon _ (.inr (.inl ⟨p, hp, (add_block _ _).symm⟩))))), ?_⟩
      refine Reb.A T Anc.start (fun w4 T t => ⟨T.t, ?_⟩)
      replace hT := hT.tr t (by intro c_ hc_; (try simp only [mem_blk_cons, mem_blk_nil, or_false, false_or] at hc_ ⊢); grind [mem_blk_cons, mem_blk_nil])
      have zt := t.size
      rw [← he]
      simp only [chEnd, if_neg h1, if_neg h2, if_neg h3, hQl, hx]
      exact ⟨rfl, hT⟩
    · omega
  have end4 : ∀ wc i' x7 v6 b6 T6 b7 T7, Now (fun i => i = tb) w wc → TapeAt wc tb s xs i' → w.heap.size ≤ b6 → w.heap.size ≤ b7 → 1 ≤ x7.Kind → x7.Kind ≤ 4 → (x7.Kind = 4 → 0 < m.m.q.length) → chEnd xs i' m { x7 with Kind := if x7.Kind = 2 ∧ m.s.length = 0 then 1 else x7.Kind } = changeM xs i m epoch →
      C_cellplanemill_Change_4 w.heap.size (fun v w' => Touch (fun i => i = tb) w w' ∧ (fun v w' => v = .agg (List.toArray (changeM xs i m epoch).1.cells) ∧ TapeAt w' tb s xs (changeM xs i m epoch).2) v w') (some ⟨tb, 0, none⟩) (some ⟨c, 0, none⟩) b6 v6 T6 b7 x7 T7 wc := by
    intro wc i' x7 v6 b6 T6 b7 T7 T hT l6 l7 k1 k4 kq he
    unfold C_cellplanemill_Change_4
    have nL : ∀ i, i < w.heap.size → NotIn i [⟨b6, v6.cells, T6⟩, ⟨b7, x7.cells, T7⟩] := fun i hi => by simp; omega
    refine ifbd (fun h2 => ?_) (fun h2 => ?_)
    · refine nilL ⟨_, (hC _ T).at_.at 3 rfl, nL _ (cl _ (.inl rfl)), nilL ⟨d.sS, (hC _ T).s.at_.at 0 rfl, nL _ (cl _ (.inr (Son _ (.inl rfl)))), ?_⟩⟩
      refine ifbd (fun h0 => ?_) (fun h0 => ?_)
      · refine Reb.A T Anc.start (fun w4 T t => ?_)
        replace hT := hT.tr t (by intro c_ hc_; (try simp only [mem_blk_cons, mem_blk_nil, or_false, false_or] at hc_ ⊢); grind [mem_blk_cons, mem_blk_nil])
        have zt := t.size
        refine end5 w4 i' _ v6 b6 T6 b7 T7 T hT l6 l7 (by simp) (by simp) (by simp) (by simp) ?_
        rw [← he, if_pos ⟨h2, by omega⟩]
      · refine Reb.A T Anc.start (fun w4 T t => ?_)
        replace hT := hT.tr t (by intro c_ hc_; (try simp only [mem_blk_cons, mem_blk_nil, or_false, false_or] at hc_ ⊢); grind [mem_blk_cons, mem_blk_nil])
        have zt := t.size
        refine end5 w4 i' _ v6 b6 T6 b7 T7 T hT l6 l7 (by omega) (by omega) (fun _ => by omega) kq ?_
        rw [← he, if_neg (by omega)]
    · refine Reb.A T Anc.start (fun w4 T t => ?_)
      replace hT := hT.tr t (by intro c_ hc_; (try simp only [mem_blk_cons, mem_blk_nil, or_false, false_or] at hc_ ⊢); grind [mem_blk_cons, mem_blk_nil])
      have zt := t.size
      refine end5 w4 i' _ v6 b6 T6 b7 T7 T hT l6 l7 (by omega) (by omega) (fun _ => by omega) kq ?_
      rw [← he, if_neg (by omega)]
  have hk1 := nextM_range (xs := xs) (i := i) (n := 4) (by omega)
  have hk2 := nextM_range (xs := xs) (i := (rangeM xs i 1 4).2) (n := 4) (by omega)
  have end2 : ∀ wc v6 b6 T6 b7 T7 k cl' i', Now (fun i => i = tb) w wc → TapeAt wc tb s xs i' → w.heap.size ≤ b6 → w.heap.size ≤ b7 → 1 ≤ k → k ≤ 4 →
      chEnd xs i' m ⟨epoch, (m.h.length : Int) + 1, kindM m k, cl', tlast m.t cl' + 1, 0, ByteArray.empty, ByteArray.empty⟩ = changeM xs i m epoch →
      C_cellplanemill_Change_2 w.heap.size (fun v w' => Touch (fun i => i = tb) w w' ∧ (fun v w' => v = .agg (List.toArray (changeM xs i m epoch).1.cells) ∧ TapeAt w' tb s xs (changeM xs i m epoch).2) v w') (some ⟨tb, 0, none⟩) (some ⟨c, 0, none⟩) b6 v6 T6 b7
        ⟨epoch, (m.h.length : Int) + 1, k, cl', 0, 0, ByteArray.empty, ByteArray.empty⟩ T7 wc := by
    intro wc v6 b6 T6 b7 T7 k cl' i' T hT l6 l7 k1 k4 he
    unfold C_cellplanemill_Change_2
    dsimp only
    have nL : ∀ {x y : G_api_Change} i, i < w.heap.size → NotIn i [⟨b6, x.cells, T6⟩, ⟨b7, y.cells, T7⟩] := fun i hi => by simp; omega
    refine nilL ⟨_, (hC _ T).at_.at 5 rfl, nL _ (cl _ (.inl rfl)), ?_⟩
    refine CallL.vA T Anc.start (fun wa T t => ref26_Last_spec (hC _ T).t ok.t _) (fun w2 T t => ⟨_, rfl, ?_⟩)
    replace hT := hT.tr t (by intro c_ hc_; (try simp only [mem_blk_cons, mem_blk_nil, or_false, false_or] at hc_ ⊢); grind [mem_blk_cons, mem_blk_nil])
    have zt := t.size
    have hl : 0 ≤ tlast m.t cl' ∧ tlast m.t cl' ≤ 1048576 := by
      unfold tlast
      split
      · rename_i h; exact tget_ok ok.t h.1 h.2
      · omega
    rw [wrap_i64 (by omega) (by omega)]
    refine Reb.A T Anc.start (fun w4 T t => ?_)
    replace hT := hT.tr t (by intro c_ hc_; (try simp only [mem_blk_cons, mem_blk_nil, or_false, false_or] at hc_ ⊢); grind [mem_blk_cons, mem_blk_nil])
    have zt := t.size
    unfold kindM at he
    unfold C_cellplanemill_Change_3
    dsimp only
    refine ifbd (fun h4 => ?_) (fun h4 => ?_)
    · refine nilL ⟨_, (hC _ T).at_.at 4 rfl, nL _ (cl _ (.inl rfl)), nilL ⟨d.sQ, (hC _ T).q.at_.at 0 rfl, nL _ (cl _ (.inr (Qon _ (.inl rfl)))), ?_⟩⟩
      refine ifbd (fun h0 => ?_) (fun h0 => ?_)
      · refine Reb.A T Anc.start (fun w4 T t => ?_)
        replace hT := hT.tr t (by intro c_ hc_; (try simp only [mem_blk_cons, mem_blk_nil, or_false, false_or] at hc_ ⊢); grind [mem_blk_cons, mem_blk_nil])
        have zt := t.size
        refine end4 w4 _ _ v6 b6 T6 b7 T7 T hT l6 l7 (by simp) (by simp) (by simp) ?_
        rw [← he, if_pos (c := k = 4 ∧ m.m.q.length = 0) ⟨h4, by omega⟩, if_neg (c := (3 : Int) = 2 ∧ m.s.length = 0) (by omega)]
      · refine Reb.A T Anc.start (fun w4 T t => ?_)
        replace hT := hT.tr t (by intro c_ hc_; (try simp only [mem_blk_cons, mem_blk_nil, or_false, false_or] at hc_ ⊢); grind [mem_blk_cons, mem_blk_nil])
        have zt := t.size
        refine end4 w4 _ _ v6 b6 T6 b7 T7 T hT l6 l7 k1 k4 (fun _ => by omega) ?_
        rw [← he, if_neg (c := k = 4 ∧ m.m.q.length = 0) (by omega)]
    · refine Reb.A T Anc.start (fun w4 T t => ?_)
      replace hT := hT.tr t (by intro c_ hc_; (try simp only [mem_blk_cons, mem_blk_nil, or_false, false_or] at hc_ ⊢); grind [mem_blk_cons, mem_blk_nil])
      have zt := t.size
      refine end4 w4 _ _ v6 b6 T6 b7 T7 T hT l6 l7 k1 k4 (fun h => absurd h h4) ?_
      rw [← he, if_neg (c := k = 4 ∧ m.m.q.length = 0) (fun h => h4 h.1)]
  intro b79 hb79
  refine Reb.A T Anc.start (fun w1 T t => ?_)
  replace hT := hT.tr t (by intro c_ hc_; (try simp only [mem_blk_cons, mem_blk_nil, or_false, false_or] at hc_ ⊢); grind [mem_blk_cons, mem_blk_nil])
  have zt := t.size
  unfold C_cellplanemill_Change_1
  have nL : ∀ {x : G_api_Change} i, i < w.heap.size → NotIn i [⟨b79, x.cells, t_api_Change⟩] := fun i hi => by simp; omega
  refine nilL ⟨d.sH, (hC _ T).at_.at 2 rfl, nL _ (cl _ (.inl rfl)), ?_⟩
  rw [wrap_i64 (x := (d.sH.n : Int) + 1) (by omega) (by omega)]
  have ez : (d.sH.n : Int) + 1 = (m.h.length : Int) + 1 := by omega
  rw [ez]
  have z1 := T.t.size
  repeat' first
    | (refine CallL.A (fun i => i = tb) T Anc.start (fun i hi => ⟨by have := T.t.size; omega, by simp [blk]; omega⟩) (fun _ _ h => h) (fun wa _ t => mill_Range_spec (hT.tr t (by intro c_ hc_; (try simp only [mem_blk_cons, mem_blk_nil, or_false, false_or] at hc_ ⊢); grind [mem_blk_cons, mem_blk_nil])) (by omega) (by omega) (by omega)) ?_; rintro wa v w T t _ _ _ ⟨rfl, hT⟩; refine ⟨_, rfl, (hC _ T).at_.at 2 rfl, ?_⟩; (try replace hT := hT.tr t (by intro c_ hc_; (try simp only [mem_blk_cons, mem_blk_nil, or_false, false_or] at hc_ ⊢); grind [mem_blk_cons, mem_blk_nil])); have zt := t.size)
    | (refine Reb.A T Anc.start (fun w T t => ?_); (try replace hT := hT.tr t (by intro c_ hc_; (try simp only [mem_blk_cons, mem_blk_nil, or_false, false_or] at hc_ ⊢); grind [mem_blk_cons, mem_blk_nil])); have zt := t.size)
    | (intro b64 l64)
    | (with_reducible refine And.intro ?_ ?_)
  all_goals
    refine end2 w _ _ _ _ _ _ _ _ T hT ?_ ?_ ?_ ?_ (changeM_eq xs i m epoch).symm
    · omega
    · omega
    · show (1 : Int) ≤ 1 + (nextM xs i 4).1; omega
    · show 1 + (nextM xs i 4).1 ≤ (4 : Int); omega

def growN (xs : List Int) (k : Nat) (e : Int) (i : Nat) (m : CM) : GM := growM xs k ⟨i, e, m⟩

theorem mill_Grow_spec {w : World} {tb c : Nat} {s : Sl} {xs : List Int} {d : CD} (hT : TapeAt w tb s xs 0) (hC : CopyAt w c d c0) (htc : ¬ (tb = c ∨ d.on tb)) (hsc : ∀ i, s.on i → ¬ (i = c ∨ d.on i)) :
    Spec PP n_cellplanemill_Grow [.pointer (some ⟨tb, 0, none⟩), .pointer (some ⟨c, 0, none⟩), .int .i64 1, .int .i64 60] w (fun i => i = tb ∨ i = c)
    (fun v w' => v = .tuple #[] ∧ ∃ d', CopyAt w' c d' (growM xs 60 ⟨0, 1, c0⟩).c ∧ ∀ i, d'.on i → d.on i ∨ w.heap.size ≤ i) := by
  refine cellplanemill_Grow_calls (some ⟨tb, 0, none⟩) (some ⟨c, 0, none⟩) 1 60 _ w ?_
  unfold F_cellplanemill_Grow
  have T : Now (fun i => i = tb ∨ i = c) w w := Now.refl
  have tlt := hT.at_.lt
  have slt := hT.lt
  have sap := hT.apart
  have clt : c < w.heap.size := hC.lt (.inl rfl)
  have dl : ∀ i, d.on i → i < w.heap.size := fun i hi => hC.lt (.inr hi)
  refine Reb.A T Anc.start (fun w1 T t => ?_)
  replace hT := hT.tr t (by intro c_ hc_; (try simp only [mem_blk_cons, mem_blk_nil, or_false, false_or] at hc_ ⊢); grind [mem_blk_cons, mem_blk_nil])
  replace hC := hC.tr t (by intro c_ hc_; (try simp only [mem_blk_cons, mem_blk_nil, or_false, false_or] at hc_ ⊢); grind [mem_blk_cons, mem_blk_nil])
  have zt := t.size
  unfold C_cellplanemill_Grow_1
  refine ⟨fun x w' => ∃ (k : Nat) (d' : CD), x.2 = (k : Int) ∧ k ≤ 60 ∧ x.1 = (growM xs k ⟨0, 1, c0⟩).e ∧ Now (fun i => i = tb ∨ i = c) w w' ∧ TapeAt w' tb s xs (growM xs k ⟨0, 1, c0⟩).i ∧ CopyAt w' c d' (growM xs k ⟨0, 1, c0⟩).c ∧ (∀ i, d'.on i → d.on i ∨ w.heap.size ≤ i) , fun x => 60 - x.2.toNat, ?_, ?_⟩
  · refine Reb.A T Anc.start (fun w2 T t => ?_)
    replace hT := hT.tr t (by intro c_ hc_; (try simp only [mem_blk_cons, mem_blk_nil, or_false, false_or] at hc_ ⊢); grind [mem_blk_cons, mem_blk_nil])
    replace hC := hC.tr t (by intro c_ hc_; (try simp only [mem_blk_cons, mem_blk_nil, or_false, false_or] at hc_ ⊢); grind [mem_blk_cons, mem_blk_nil])
    have zt := t.size
    exact ⟨0, d, rfl, by omega, rfl, T, hT, hC, fun i hi => .inl hi⟩
  · rintro ⟨ep, x⟩ wb ⟨k, d', hx, hk, he, T, hT, hC, hd⟩
    simp only at hx he
    subst hx
    subst he
    have hg := growM_ok (xs := xs) k 0 ⟨0, 1, c0⟩ ⟨c0_ok, Nat.zero_le _, by simp, by simp [c0]⟩
    obtain ⟨g, hgk⟩ : ∃ g, growM xs k ⟨0, 1, c0⟩ = g := ⟨_, rfl⟩
    rw [hgk] at hT hC hg
    rw [hgk]
    unfold L_cellplanemill_Grow_2
    dsimp only
    unfold B_cellplanemill_Grow_2
    have z := T.t.size
    have hi := hg.i
    have hge := hg.e
    have hgh := hg.h
    have fin : (k = 60 ∨ ¬ g.i < xs.length) → ∀ w', Now (fun i => i = tb ∨ i = c) w w' → CopyAt w' c d' g.c → Reb w.heap.size w' [] (fun w' => Touch (fun i => i = tb ∨ i = c) w w' ∧ (Value.tuple #[]) = .tuple #[] ∧ ∃ d', CopyAt w' c d' (growM xs 60 ⟨0, 1, c0⟩).c ∧ ∀ i, d'.on i → d.on i ∨ w.heap.size ≤ i) := by
      intro hs w' T hC
      refine Reb.A T Anc.start (fun w2 T t => ⟨T.t, rfl, d', ?_, hd⟩)
      replace hC := hC.tr t (by intro c_ hc_; (try simp only [mem_blk_cons, mem_blk_nil, or_false, false_or] at hc_ ⊢); grind [mem_blk_cons, mem_blk_nil])
      have zt := t.size
      have e60 : growM xs 60 ⟨0, 1, c0⟩ = g := by
        rcases hs with rfl | hs
        · exact hgk
        · have : ∀ j, growM xs (k + j) ⟨0, 1, c0⟩ = g := by
            intro j
            induction j with
            | zero => exact hgk
            | succ j ih => rw [← Nat.add_assoc, growM_next, ih, if_neg hs]
          have h := this (60 - k)
          rwa [Nat.add_sub_cancel' hk] at h
      rw [e60]
      exact hC
    refine ifbd (fun h60 => ?_) (fun h60 => ?_)
    · refine CallL.vA T Anc.nil (fun wa Ta ta => mill_More_spec (hT.tr ta (by simp [blk]))) (fun w2 T t => ⟨_, rfl, ?_⟩)
      replace hT := hT.tr t (by intro c_ hc_; (try simp only [mem_blk_cons, mem_blk_nil, or_false, false_or] at hc_ ⊢); grind [mem_blk_cons, mem_blk_nil])
      replace hC := hC.tr t (by intro c_ hc_; (try simp only [mem_blk_cons, mem_blk_nil, or_false, false_or] at hc_ ⊢); grind [mem_blk_cons, mem_blk_nil])
      have zt := t.size
      refine ifbd (fun hmore => ?_) (fun hmore => ?_)
      · refine Reb.A T Anc.nil (fun w3 T t => ?_)
        replace hT := hT.tr t (by intro c_ hc_; (try simp only [mem_blk_cons, mem_blk_nil, or_false, false_or] at hc_ ⊢); grind [mem_blk_cons, mem_blk_nil])
        replace hC := hC.tr t (by intro c_ hc_; (try simp only [mem_blk_cons, mem_blk_nil, or_false, false_or] at hc_ ⊢); grind [mem_blk_cons, mem_blk_nil])
        have zt := t.size
        unfold C_cellplanemill_Grow_3
        have dtb : ¬ (tb = c ∨ d'.on tb) := by have := hd tb; grind
        have dsc : ∀ i, s.on i → ¬ (i = c ∨ d'.on i) := fun i hi => by have := hd i; have := slt i hi; have := hsc i hi; grind
        refine CallL.A (fun i => i = tb) T Anc.nil (fun i hi => ⟨by have := T.t.size; omega, by simp [blk]⟩) (fun _ _ h => .inl h) (fun wa _ t => mill_Next_spec (hT.tr t (by simp [blk])) (n := 7) (by omega) (by omega)) ?_
        rintro wa v w4 T t _ _ _ ⟨rfl, hT⟩
        refine ⟨_, rfl, ?_⟩
        replace hC := hC.tr t (by intro c_ hc_; (try simp only [mem_blk_cons, mem_blk_nil, or_false, false_or] at hc_ ⊢); grind [mem_blk_cons, mem_blk_nil])
        have zt := t.size
        have five : ∀ ep w5, Now (fun i => i = tb ∨ i = c) w w5 → TapeAt w5 tb s xs (nextM xs g.i 7).2 → CopyAt w5 c d' g.c → ep = (if (nextM xs g.i 7).1 = 6 then g.e + 1 else g.e) →
            C_cellplanemill_Grow_5 w.heap.size (fun c' x' w' => c' = (some ⟨tb, 0, none⟩, some ⟨c, 0, none⟩, (60 : Int)) ∧ (∃ (k : Nat) (d' : CD), x'.2 = (k : Int) ∧ k ≤ 60 ∧ x'.1 = (growM xs k ⟨0, 1, c0⟩).e ∧ Now (fun i => i = tb ∨ i = c) w w' ∧ TapeAt w' tb s xs (growM xs k ⟨0, 1, c0⟩).i ∧ CopyAt w' c d' (growM xs k ⟨0, 1, c0⟩).c ∧ (∀ i, d'.on i → d.on i ∨ w.heap.size ≤ i)) ∧ 60 - x'.2.toNat < 60 - ((k : Int)).toNat)
              (fun v w' => Touch (fun i => i = tb ∨ i = c) w w' ∧ (fun v w' => v = .tuple #[] ∧ ∃ d', CopyAt w' c d' (growM xs 60 ⟨0, 1, c0⟩).c ∧ ∀ i, d'.on i → d.on i ∨ w.heap.size ≤ i) v w') (some ⟨tb, 0, none⟩) (some ⟨c, 0, none⟩) ep 60 k w5 := by
          intro ep w5 T hT hC he
          unfold C_cellplanemill_Grow_5
          refine CallL.A (fun i => i = tb) T Anc.nil (fun i hi => ⟨by have := T.t.size; omega, by simp [blk]⟩) (fun _ _ h => .inl h) (fun wa _ t => mill_Change_spec (hT.tr t (by simp [blk])) (hC.tr t (by simp [blk])) hg.c (by omega) dtb ep) ?_
          rintro wa v w6 T t _ _ _ ⟨rfl, hT⟩
          refine ⟨_, rfl, ?_⟩
          replace hC := hC.tr t (by intro c_ hc_; (try simp only [mem_blk_cons, mem_blk_nil, or_false, false_or] at hc_ ⊢); grind [mem_blk_cons, mem_blk_nil])
          have zt := t.size
          have z6 := T.t.size
          refine CallL.A (fun i => i = c) T Anc.nil (fun i hi => ⟨by have := T.t.size; omega, by simp [blk]⟩) (fun _ _ h => .inr h) (fun wa _ t => copy28_Apply_spec (hC.tr t (by simp [blk])) hg.c (by omega) _) ?_
          rintro wa v w7 T t y1 y2 _ ⟨rfl, d2, hC, hd2⟩
          refine ⟨_, rfl, ?_⟩
          have y0 := T.t.size
          replace hT := hT.tr t (by intro c_ hc_; (try simp only [mem_blk_cons, mem_blk_nil, or_false, false_or] at hc_ ⊢); grind [mem_blk_cons, mem_blk_nil])
          have zt := t.size
          refine Reb.A T Anc.nil (fun w8 T t => ?_)
          replace hT := hT.tr t (by intro c_ hc_; (try simp only [mem_blk_cons, mem_blk_nil, or_false, false_or] at hc_ ⊢); grind [mem_blk_cons, mem_blk_nil])
          replace hC := hC.tr t (by intro c_ hc_; (try simp only [mem_blk_cons, mem_blk_nil, or_false, false_or] at hc_ ⊢); grind [mem_blk_cons, mem_blk_nil])
          have zt := t.size
          unfold C_cellplanemill_Grow_4
          refine Reb.A T Anc.nil (fun w9 T t => ?_)
          replace hT := hT.tr t (by intro c_ hc_; (try simp only [mem_blk_cons, mem_blk_nil, or_false, false_or] at hc_ ⊢); grind [mem_blk_cons, mem_blk_nil])
          replace hC := hC.tr t (by intro c_ hc_; (try simp only [mem_blk_cons, mem_blk_nil, or_false, false_or] at hc_ ⊢); grind [mem_blk_cons, mem_blk_nil])
          have zt := t.size
          have step : IntKind.i64.wrap ((k : Int) + 1) = ((k + 1 : Nat) : Int) := by rw [wrap_i64 (by omega) (by omega)]; simp
          have e1 : growM xs (k + 1) ⟨0, 1, c0⟩ = gstep xs g := by rw [growM_next, hgk, if_pos hmore]
          refine ⟨rfl, ⟨k + 1, d2, step, by omega, ?_, T, ?_, ?_, ?_⟩, ?_⟩
          · rw [e1]; subst he; rfl
          · rw [e1]; subst he; exact hT
          · rw [e1]; subst he; exact hC
          · intro i hi
            rcases hd2 i hi with h | h
            · exact hd i h
            · right; omega
          · simp only [step]; omega
        refine ifbd (fun h6 => ?_) (fun h6 => ?_)
        · rw [wrap_i64 (by omega) (by omega)]
          refine Reb.A T Anc.nil (fun w5 T t => ?_)
          replace hT := hT.tr t (by intro c_ hc_; (try simp only [mem_blk_cons, mem_blk_nil, or_false, false_or] at hc_ ⊢); grind [mem_blk_cons, mem_blk_nil])
          replace hC := hC.tr t (by intro c_ hc_; (try simp only [mem_blk_cons, mem_blk_nil, or_false, false_or] at hc_ ⊢); grind [mem_blk_cons, mem_blk_nil])
          have zt := t.size
          exact five _ w5 T hT hC (by rw [if_pos h6])
        · refine Reb.A T Anc.nil (fun w5 T t => ?_)
          replace hT := hT.tr t (by intro c_ hc_; (try simp only [mem_blk_cons, mem_blk_nil, or_false, false_or] at hc_ ⊢); grind [mem_blk_cons, mem_blk_nil])
          replace hC := hC.tr t (by intro c_ hc_; (try simp only [mem_blk_cons, mem_blk_nil, or_false, false_or] at hc_ ⊢); grind [mem_blk_cons, mem_blk_nil])
          have zt := t.size
          exact five _ w5 T hT hC (by rw [if_neg h6])
      · exact fin (.inr hmore) w2 T hC
    · exact fin (.inl (by omega)) wb T hC

theorem mill_History_spec {w : World} {s : Sl} {xs : List Int} (hr : Rd intC 1 w s xs) (hl : xs.length ≤ 1000000) (hs : ∀ c, s.on c → c < w.heap.size) : Spec PP n_cellplanemill_History [.slice s.a s.n s.c] w noB
    (fun v w' => ∃ h : Sl, v = .slice h.a h.n h.c ∧ Ro chC 8 w' h (histM xs) ∧ ∀ i, h.on i → w.heap.size ≤ i) := by
  refine cellplanemill_History_calls s _ w ?_
  unfold F_cellplanemill_History
  have T : Now noB w w := Now.refl
  refine CallL.pA T Anc.nil (fun wa _ t => copy28_New_spec 0 0 wa) ?_
  rintro wa v w1 T t y1 y2 _ ⟨c, d, rfl, hc, hC, hd⟩
  refine ⟨_, rfl, ?_⟩
  have z1 := T.t.size
  have clt : ∀ i, (i = c ∨ d.on i) → i < w1.heap.size := fun i hi => hC.lt hi
  refine CallL.pA T Anc.nil (fun wa Ta t => mill_New_spec (hr.tr Ta.t (by simp)) hl (fun i hi => by have := hs i hi; have := Ta.t.size; omega)) ?_
  rintro wa2 v w2 T t y3 y4 _ ⟨tb, rfl, htb, hT⟩
  refine ⟨_, rfl, ?_⟩
  replace hC := hC.tr t (by intro c_ hc_; (try simp only [mem_blk_cons, mem_blk_nil, or_false, false_or] at hc_ ⊢); grind [mem_blk_cons, mem_blk_nil])
  have zt := t.size
  have tlt := hT.at_.lt
  refine CallL.A (fun i => i = tb ∨ i = c) T Anc.nil (fun i hi => ⟨by have := clt c (.inl rfl); rcases hi with rfl | rfl <;> omega, by simp [blk]⟩) (fun i hi h => by rcases h with rfl | rfl <;> omega)
    (fun wa _ t => mill_Grow_spec (hT.tr t (by simp [blk])) (hC.tr t (by simp [blk])) (fun h => by have := clt tb h; omega) (fun i hi h => by have := hs i hi; have := hd i; have := T.t.size; grind)) ?_
  have z2 := T.t.size
  rintro wa3 v w3 T t y5 y6 _ ⟨rfl, d', hC, hd'⟩
  refine ⟨rfl, nilL ⟨d'.sH, hC.at_.at 2 rfl, notIn_nil, ?_⟩⟩
  refine Reb.A T Anc.nil (fun w4 T t => ⟨T.t, d'.sH, rfl, ?_, fun i hi => ?_⟩)
  · exact hC.h.tr t (by simp [blk])
  · rcases hd' i (.inl hi) with h | h
    · have := hd i h; omega
    · omega

end Go.Sh
