/- Contracts of the folds of histories into tables, and of the comparison of lists.
   Conditions: none. -/
import Derived.Test.YtcligpfkmnlhnaaSE
namespace Go.Sh
open Go
set_option linter.unusedSimpArgs false
set_option linter.unusedVariables false

/-- what a fold makes: the table, how many changes were applied, the error -/
def tfold (t : Tab) : List G_api_Change → Tab × Nat × Int
  | [] => (t, 0, 0)
  | x :: r => if (tapply t x).1 = 0 then ((tfold (tapply t x).2 r).1, (tfold (tapply t x).2 r).2.1 + 1, (tfold (tapply t x).2 r).2.2) else (t, 0, (tapply t x).1)

/-- the table behind the first changes of a list that were all applied -/
def tabs (t : Tab) : List G_api_Change → Tab
  | [] => t
  | x :: r => tabs (tapply t x).2 r

theorem tabs_append (t : Tab) (a b : List G_api_Change) : tabs t (a ++ b) = tabs (tabs t a) b := by
  induction a generalizing t with
  | nil => rfl
  | cons x r ih => exact ih _

theorem tabs_ok {t : Tab} (h : TabOk t) : ∀ l, TabOk (tabs t l) := by
  intro l
  induction l generalizing t with
  | nil => exact h
  | cons x r ih => exact ih (tapply_ok h x)

theorem tfold_at {t : Tab} {a b : List G_api_Change} (h : (tfold t a).2.2 = 0) : tfold t (a ++ b) = ((tfold (tabs t a) b).1, (tfold (tabs t a) b).2.1 + a.length, (tfold (tabs t a) b).2.2) := by
  induction a generalizing t with
  | nil => simp [tabs]
  | cons x r ih =>
    simp only [tfold] at h
    by_cases h0 : (tapply t x).1 = 0
    · rw [if_pos h0] at h
      simp only [List.cons_append, tfold, if_pos h0, ih h, tabs, List.length_cons]
      simp [Nat.add_assoc]
    · rw [if_neg h0] at h
      exact absurd h h0

theorem tab0_ok : TabOk tab0 := ⟨by simp [tab0], fun r h => by
  simp [tab0] at h
  obtain ⟨_, rfl⟩ := h
  simp [zrec]⟩

def foldV (r : Tab × Nat × Int) (p : Option Addr) : Value := .tuple #[.pointer p, .int .i64 (r.2.1 : Int), .int .i64 r.2.2]

theorem session_Fold_spec {w : World} {s : Sl} {xs : List G_api_Change} (h : Rd chC 8 w s xs) (hm : xs.length < 9223372036854775807) : Spec PP n_session_Fold [.slice s.a s.n s.c] w noB
    (fun v w' => ((tfold tab0 xs).2.2 ≠ 0 ∧ v = foldV (tfold tab0 xs) none) ∨ ((tfold tab0 xs).2.2 = 0 ∧ ∃ b, w.heap.size ≤ b ∧ v = foldV (tfold tab0 xs) (some ⟨b, 0, none⟩) ∧ TabAt w' b (tfold tab0 xs).1)) := by
  refine session_Fold_calls s _ w ?_
  unfold F_session_Fold
  have T : Now noB w w := Now.refl
  have hlen := h.1
  refine Reb.use T (Nat.le_refl _) (fun w1 T1 _ _ => ?_)
  unfold C_session_Fold_1
  refine CallL.pure T1 (Nat.le_refl _) (fun wa _ _ => session_New_spec wa) ?_
  rintro wa v w2 T2 t2 ta _ ⟨b, rfl, hb, hT⟩
  refine ⟨_, rfl, ?_⟩
  have hge : w.heap.size ≤ b := Nat.le_trans (Nat.le_trans T1.t.size ta.size) hb
  refine Reb.use T2 (Nat.le_refl _) (fun w3 T3 t3 _ => ?_)
  unfold C_session_Fold_2
  refine Reb.use T3 (Nat.le_refl _) (fun w4 T4 t4 _ => ?_)
  unfold C_session_Fold_4
  have hT4 : TabAt w4 b tab0 := (Blk.touch hT t3 (by simp [blk])).touch t4 (by simp [blk])
  refine ⟨fun x w' => ∃ m : Nat, x = m ∧ m ≤ xs.length ∧ Now noB w w' ∧ TabAt w' b (tabs tab0 (xs.take m)) ∧ (tfold tab0 (xs.take m)).2.2 = 0, fun x => xs.length - x.toNat, ?_, ?_⟩
  · exact Reb.use T4 (Nat.le_refl _) (fun w5 T5 t5 _ => ⟨0, rfl, Nat.zero_le _, T5, Blk.touch hT4 t5 (by simp [blk]), rfl⟩)
  · rintro x wb ⟨m, rfl, hml, Tb, hTb, hall⟩
    unfold L_session_Fold_5
    dsimp only
    unfold B_session_Fold_5
    have hok := tabs_ok tab0_ok (xs.take m)
    refine ifbd (fun h1 => ?_) (fun h1 => ?_)
    · have hmx : m < xs.length := by omega
      have hxm : xs = xs.take m ++ xs[m] :: xs.drop (m + 1) := by rw [← List.drop_eq_getElem_cons hmx, List.take_append_drop]
      refine (h.touch Tb.t (fun _ _ h => h)).idx (by omega) (by omega) (fun p x hp hx hat => ?_)
      rw [Int.toNat_natCast] at hx
      have hxe : xs[m] = x := by rw [List.getElem?_eq_getElem hmx] at hx; cases hx; rfl
      refine ⟨x, hat, notIn_nil, ?_⟩
      intro b3 hb3
      have hlt := Blk.lt hTb
      refine CallL.turn (fun i => i = b) Tb (Nat.le_refl _) (fun i hi => ⟨by omega, by simp [blk]; omega⟩) (fun i hi e => by omega)
        (fun wa _ t => session_Apply_spec (Blk.touch hTb t (by simp [blk]; omega)) hok x) ?_
      rintro wa v w5 T5 t5 _ _ ⟨rfl, hT5⟩
      refine ⟨_, rfl, ?_⟩
      have hfold : tfold tab0 xs = ((tfold (tabs tab0 (xs.take m)) (x :: xs.drop (m + 1))).1, (tfold (tabs tab0 (xs.take m)) (x :: xs.drop (m + 1))).2.1 + m, (tfold (tabs tab0 (xs.take m)) (x :: xs.drop (m + 1))).2.2) := by
        conv => lhs; rw [hxm]
        rw [tfold_at hall, hxe, List.length_take, Nat.min_eq_left (by omega)]
      refine ifbnd (fun h3 => ?_) (fun h3 => ?_)
      · refine Reb.use T5 (Nat.le_refl _) (fun w6 T6 t6 _ => ⟨T6.t, Or.inl ?_⟩)
        rw [hfold]
        simp only [tfold, if_neg h3, foldV]
        exact ⟨h3, by simp⟩
      · refine Reb.use T5 (Nat.le_refl _) (fun w6 T6 t6 _ => ⟨rfl, ⟨m + 1, ?_, by omega, T6, ?_, ?_⟩, ?_⟩)
        · rw [wrap_i64 (by omega) (by omega)]; simp
        · rw [List.take_add_one, hx]
          simp only [Option.toList_some, tabs_append, tabs]
          exact Blk.touch hT5 t6 (by simp [blk]; omega)
        · rw [List.take_add_one, hx, Option.toList_some, tfold_at hall]
          simp [tfold, h3]
        · rw [wrap_i64 (by omega) (by omega)]
          have : ((m : Int) + 1).toNat = m + 1 := by omega
          rw [this, Int.toNat_natCast]
          omega
    · have hmx : m = xs.length := by omega
      rw [hmx, List.take_length] at hTb hall
      refine Reb.use Tb (Nat.le_refl _) (fun w5 T5 t5 _ => ?_)
      unfold C_session_Fold_3
      have hfold := tfold_at (b := []) hall
      rw [List.append_nil] at hfold
      refine Reb.use T5 (Nat.le_refl _) (fun w6 T6 t6 _ => ⟨T6.t, Or.inr ⟨hall, b, hge, ?_, ?_⟩⟩)
      · rw [hfold]; simp [tfold, foldV, hlen]
      · rw [hfold]
        simp only [tfold]
        exact (Blk.touch hTb t5 (by simp [blk])).touch t6 (by simp [blk])

theorem ref26_Fold_spec {w : World} {s : Sl} {xs : List G_api_Change} (h : Rd chC 8 w s xs) (hm : xs.length < 9223372036854775807) : Spec PP n_cellplaneref26_Fold [.slice s.a s.n s.c] w noB
    (fun v w' => ((tfold tab0 xs).2.2 ≠ 0 ∧ v = foldV (tfold tab0 xs) none) ∨ ((tfold tab0 xs).2.2 = 0 ∧ ∃ b, w.heap.size ≤ b ∧ v = foldV (tfold tab0 xs) (some ⟨b, 0, none⟩) ∧ RTabAt w' b (tfold tab0 xs).1)) := by
  refine cellplaneref26_Fold_calls s _ w ?_
  unfold F_cellplaneref26_Fold
  have T : Now noB w w := Now.refl
  have hlen := h.1
  refine Reb.use T (Nat.le_refl _) (fun w1 T1 _ _ => ?_)
  unfold C_cellplaneref26_Fold_1
  refine NewL.use T1 (Nat.le_refl _) (fun b w2 _ hge T2 t2 hb hlt _ => ?_)
  have hT : RTabAt w2 b tab0 := hb
  refine Reb.use T2 (Nat.le_refl _) (fun w3 T3 t3 _ => ?_)
  unfold C_cellplaneref26_Fold_2
  refine Reb.use T3 (Nat.le_refl _) (fun w4 T4 t4 _ => ?_)
  unfold C_cellplaneref26_Fold_4
  have hT4 : RTabAt w4 b tab0 := (Blk.touch hT t3 (by simp [blk])).touch t4 (by simp [blk])
  refine ⟨fun x w' => ∃ m : Nat, x = m ∧ m ≤ xs.length ∧ Now noB w w' ∧ RTabAt w' b (tabs tab0 (xs.take m)) ∧ (tfold tab0 (xs.take m)).2.2 = 0, fun x => xs.length - x.toNat, ?_, ?_⟩
  · exact Reb.use T4 (Nat.le_refl _) (fun w5 T5 t5 _ => ⟨0, rfl, Nat.zero_le _, T5, Blk.touch hT4 t5 (by simp [blk]), rfl⟩)
  · rintro x wb ⟨m, rfl, hml, Tb, hTb, hall⟩
    unfold L_cellplaneref26_Fold_5
    dsimp only
    unfold B_cellplaneref26_Fold_5
    have hok := tabs_ok tab0_ok (xs.take m)
    refine ifbd (fun h1 => ?_) (fun h1 => ?_)
    · have hmx : m < xs.length := by omega
      have hxm : xs = xs.take m ++ xs[m] :: xs.drop (m + 1) := by rw [← List.drop_eq_getElem_cons hmx, List.take_append_drop]
      refine (h.touch Tb.t (fun _ _ h => h)).idx (by omega) (by omega) (fun p x hp hx hat => ?_)
      rw [Int.toNat_natCast] at hx
      have hxe : xs[m] = x := by rw [List.getElem?_eq_getElem hmx] at hx; cases hx; rfl
      refine ⟨x, hat, notIn_nil, ?_⟩
      intro b3 hb3
      have hlt := Blk.lt hTb
      refine CallL.turn (fun i => i = b) Tb (Nat.le_refl _) (fun i hi => ⟨by omega, by simp [blk]; omega⟩) (fun i hi e => by omega)
        (fun wa _ t => ref26_Apply_spec (Blk.touch hTb t (by simp [blk]; omega)) hok x) ?_
      rintro wa v w5 T5 t5 _ _ ⟨rfl, hT5⟩
      refine ⟨_, rfl, ?_⟩
      have hfold : tfold tab0 xs = ((tfold (tabs tab0 (xs.take m)) (x :: xs.drop (m + 1))).1, (tfold (tabs tab0 (xs.take m)) (x :: xs.drop (m + 1))).2.1 + m, (tfold (tabs tab0 (xs.take m)) (x :: xs.drop (m + 1))).2.2) := by
        conv => lhs; rw [hxm]
        rw [tfold_at hall, hxe, List.length_take, Nat.min_eq_left (by omega)]
      refine ifbnd (fun h3 => ?_) (fun h3 => ?_)
      · refine Reb.use T5 (Nat.le_refl _) (fun w6 T6 t6 _ => ⟨T6.t, Or.inl ?_⟩)
        rw [hfold]
        simp only [tfold, if_neg h3, foldV]
        exact ⟨h3, by simp⟩
      · refine Reb.use T5 (Nat.le_refl _) (fun w6 T6 t6 _ => ⟨rfl, ⟨m + 1, ?_, by omega, T6, ?_, ?_⟩, ?_⟩)
        · rw [wrap_i64 (by omega) (by omega)]; simp
        · rw [List.take_add_one, hx]
          simp only [Option.toList_some, tabs_append, tabs]
          exact Blk.touch hT5 t6 (by simp [blk]; omega)
        · rw [List.take_add_one, hx, Option.toList_some, tfold_at hall]
          simp [tfold, h3]
        · rw [wrap_i64 (by omega) (by omega)]
          have : ((m : Int) + 1).toNat = m + 1 := by omega
          rw [this, Int.toNat_natCast]
          omega
    · have hmx : m = xs.length := by omega
      rw [hmx, List.take_length] at hTb hall
      refine Reb.use Tb (Nat.le_refl _) (fun w5 T5 t5 _ => ?_)
      unfold C_cellplaneref26_Fold_3
      have hfold := tfold_at (b := []) hall
      rw [List.append_nil] at hfold
      refine Reb.use T5 (Nat.le_refl _) (fun w6 T6 t6 _ => ⟨T6.t, Or.inr ⟨hall, b, hge, ?_, ?_⟩⟩)
      · rw [hfold]; simp [tfold, foldV, hlen]
      · rw [hfold]
        simp only [tfold]
        exact (Blk.touch hTb t5 (by simp [blk])).touch t6 (by simp [blk])


theorem ref24_SameInts_spec {w : World} {s r : Sl} {xs ys : List Int} (h : Rd intC 1 w s xs) (g : Rd intC 1 w r ys) (hm : xs.length < 9223372036854775807) : Spec PP n_cellplaneref24_SameInts [.slice s.a s.n s.c, .slice r.a r.n r.c] w noB (fun v _ => v = .bool (decide (xs = ys))) := by
  refine cellplaneref24_SameInts_calls s r _ w ?_
  unfold F_cellplaneref24_SameInts
  have T : Now noB w w := Now.refl
  have hlen := h.1
  have glen := g.1
  refine Reb.use T (Nat.le_refl _) (fun w1 T1 _ _ => ?_)
  unfold C_cellplaneref24_SameInts_1
  refine ifbnd (fun h0 => ?_) (fun h0 => ?_)
  · refine Reb.val T1 (Nat.le_refl _) ?_
    have : xs ≠ ys := fun e => h0 (by rw [e] at hlen; omega)
    simp [this]
  have hxy : xs.length = ys.length := by omega
  refine Reb.use T1 (Nat.le_refl _) (fun w2 T2 _ _ => ?_)
  unfold C_cellplaneref24_SameInts_2
  refine Reb.use T2 (Nat.le_refl _) (fun w3 T3 _ _ => ?_)
  unfold C_cellplaneref24_SameInts_4
  refine ⟨fun x w' => ∃ m : Nat, x = m ∧ m ≤ xs.length ∧ Now noB w w' ∧ xs.take m = ys.take m, fun x => xs.length - x.toNat, ?_, ?_⟩
  · exact Reb.use T3 (Nat.le_refl _) (fun w4 T4 _ _ => ⟨0, rfl, Nat.zero_le _, T4, by simp⟩)
  · rintro x wb ⟨m, rfl, hml, Tb, hall⟩
    unfold L_cellplaneref24_SameInts_5
    dsimp only
    unfold B_cellplaneref24_SameInts_5
    refine ifbd (fun h1 => ?_) (fun h1 => ?_)
    · refine (h.touch Tb.t (fun _ _ h => h)).idx (by omega) (by omega) (fun p x hp hx hat => ?_)
      refine ⟨x, hat, notIn_nil, ?_⟩
      refine (g.touch Tb.t (fun _ _ h => h)).idx (by omega) (by omega) (fun p y hp hy hat => ?_)
      refine ⟨y, hat, notIn_nil, ?_⟩
      rw [Int.toNat_natCast] at hx hy
      refine ifbnd (fun h3 => ?_) (fun h3 => ?_)
      · refine Reb.val Tb (Nat.le_refl _) ?_
        have : xs ≠ ys := fun e => h3 (by rw [e, hy] at hx; cases hx; rfl)
        simp [this]
      · refine Reb.use Tb (Nat.le_refl _) (fun w5 T5 _ _ => ⟨rfl, ⟨m + 1, ?_, by omega, T5, ?_⟩, ?_⟩)
        · rw [wrap_i64 (by omega) (by omega)]; simp
        · rw [List.take_add_one, List.take_add_one, hx, hy, hall, h3]
        · rw [wrap_i64 (by omega) (by omega)]
          have : ((m : Int) + 1).toNat = m + 1 := by omega
          rw [this, Int.toNat_natCast]
          omega
    · refine Reb.use Tb (Nat.le_refl _) (fun w4 T4 _ _ => ?_)
      unfold C_cellplaneref24_SameInts_3
      refine Reb.val T4 (Nat.le_refl _) ?_
      have hmx : m = xs.length := by omega
      rw [hmx, List.take_length, hxy, List.take_length] at hall
      simp [hall]

end Go.Sh
