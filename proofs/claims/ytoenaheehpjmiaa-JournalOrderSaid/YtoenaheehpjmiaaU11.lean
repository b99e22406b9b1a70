/- JournalOrder, the walk.
   Conditions: none. -/
import Derived.Test.YtoenaheehpjmiaaU10
import Derived.Test.YtoenaheehpjmiaaEB
namespace Go.Sh
open Go
set_option linter.unusedSimpArgs false
set_option linter.unusedVariables false
set_option maxHeartbeats 4000000

/-- what is known of a journal's log -/
structure OkL (J : JC) : Prop where
  x : ∀ x ∈ J.log, 1 ≤ x.Term ∧ x.Term ≤ J.term ∧ shapeP x.Entry
  s : J.log.Pairwise (fun x y => x.Term ≤ y.Term)
theorem OkL.last {J : JC} (h : OkL J) : ∀ x ∈ J.log, x.Term ≤ lastT J.log := by
  intro x hx
  unfold lastT
  obtain ⟨l, y, hl⟩ : ∃ l y, J.log = l ++ [y] := by
    cases hr : J.log.reverse with
    | nil => rw [List.reverse_eq_nil_iff] at hr; rw [hr] at hx; simp at hx
    | cons y l => exact ⟨l.reverse, y, by rw [← List.reverse_reverse J.log, hr, List.reverse_cons]⟩
  have hs := h.s
  rw [hl] at hx hs ⊢
  simp only [List.getLast?_append, List.getLast?_singleton, Option.some_or]
  rw [List.pairwise_append] at hs
  rcases List.mem_append.1 hx with h | h
  · exact hs.2.2 x h y (by simp)
  · simp at h; subst h; exact Int.le_refl _
theorem OkL.st {M : JM} {t v : Int} (h : OkL M.J) : OkL (opM M (.st t v)).J := by
  by_cases he : errR M.J (.st t v) = 0
  · rw [opM_ok he]
    simp only [errR] at he
    split at he
    · omega
    · split at he
      · omega
      · exact ⟨fun x hx => by have := h.x x hx; simp only [doR] at *; exact ⟨this.1, by omega, this.2.2⟩, h.s⟩
  · rw [opM_no he]; exact h
theorem OkL.ap {M : JM} {t : Int} {e : G_api_Entry} (h : OkL M.J) : OkL (opM M (.ap t e)).J := by
  by_cases he : errR M.J (.ap t e) = 0
  · rw [opM_ok he]
    simp only [errR] at he
    split at he
    · omega
    · rename_i h1
      split at he
      · omega
      · rename_i h2
        have hs : shapeP e := Classical.byContradiction fun hs => h1 (.inr (.inr hs))
        refine ⟨fun x hx => ?_, ?_⟩
        · simp only [doR, List.mem_append, List.mem_singleton] at hx ⊢
          rcases hx with hx | rfl
          · exact h.x x hx
          · exact ⟨by simp only; omega, by simp only; omega, hs⟩
        · simp only [doR]
          rw [List.pairwise_append]
          refine ⟨h.s, by simp, fun x hx y hy => ?_⟩
          simp at hy
          subst hy
          have := h.last x hx
          simp only
          omega
  · rw [opM_no he]; exact h

structure OI (w0 w : World) (bj i : Nat) (h : JH) (M : JM) : Prop where
  B : JS t_journal_Journal t_disk_Disk w0 w bj h M
  bd : Bd M (2 * i)
  ok : OkL M.J
  t0 : 0 ≤ M.J.term
  t1 : M.J.term ≤ 2 * i

theorem atM_in {l : List G_api_Logged} {i : Int} {x : G_api_Logged} (h : 0 ≤ i) (hx : l[i.toNat]? = some x) : (atM l i).1 = x := by
  unfold atM
  rw [if_neg (by omega), hx]

theorem order_body {w0 w : World} {l : Sl} {xs : List G_cellplanelaw08_Act} {bj i : Nat} {h : JH} {M : JM} (hr : Rd actC 3 w0 l xs) (hi : i ≤ 50) (hn : xs.length ≤ 50) (V : OI w0 w bj i h M)
    {K : (Sl × (Option Addr)) → Int → World → Prop} (hK : ∀ h' M' w', OI w0 w' bj (i + 1) h' M' → i < xs.length → K (l, some ⟨bj, 0, none⟩) (((i + 1 : Nat) : Int)) w') :
    B_cellplanelaw08_JournalOrder_6 w0.heap.size K (fun v w' => Touch noB w0 w' ∧ v = .bool true) l (some ⟨bj, 0, none⟩) (i : Int) w := by
  obtain ⟨B, bd, ok, t0, t1⟩ := V
  have hln := hr.1
  unfold B_cellplanelaw08_JournalOrder_6
  refine ifbd (fun h0 => ?_) (fun h0 => ?_)
  rotate_left
  · refine B.reb offJ.nil (fun w1 B _ => ?_)
    unfold C_cellplanelaw08_JournalOrder_4
    exact B.reb offJ.nil (fun w1 B _ => ⟨B.T.t, rfl⟩)
  have hR : ∀ {w'}, Now noB w0 w' → Rd actC 3 w' l xs := fun T => hr.tr T.t (by simp [noB])
  have hil : i < xs.length := by omega
  refine B.reb offJ.nil (fun w1 B _ => ?_)
  unfold C_cellplanelaw08_JournalOrder_7
  refine (hR B.T).idx (by omega) (by omega) (fun p x hp hx ha => ⟨x.A, ha.part 1 1 rfl, notIn_nil, ?_⟩)
  refine B.get offJ.nil (fun wa A => journal_Term_spec A) (fun w2 B t => ⟨_, rfl, (ha.touch t (by simp [blk])).part 1 1 rfl, ?_⟩)
  replace ha := ha.touch t (by simp [blk])
  refine B.get offJ.nil (fun wa A => journal_Term_spec A) (fun w2 B t => ⟨_, rfl, (ha.touch t (by simp [blk])).part 1 1 rfl, ?_⟩)
  rw [wrap_i64 (x := M.J.term + 2) (by omega) (by omega)]
  refine B.v offJ.nil (fun wa _ _ => make_Between_spec (v := x.A) (a := M.J.term) (b := M.J.term + 2) (by omega) (by omega) (by omega) wa) (fun w4 B t => ⟨_, rfl, ?_⟩)
  have ht := betM_range (v := x.A) (a := M.J.term) (b := M.J.term + 2) (by omega)
  generalize betM x.A M.J.term (M.J.term + 2) = t' at ht ⊢
  refine B.op offJ.nil (fun wa A _ => journal_SetTerm_spec A t' (-1) (by have := bd.l; omega) (by have := bd.b; omega)) (fun h2 w6 B _ _ _ => ⟨_, rfl, ?_⟩)
  have bd2 : Bd (opM M (.st t' (-1))) (2 * i + 1) := bd.op (by omega)
  have ok2 := ok.st (t := t') (v := -1)
  have hf : M.J.term ≤ (opM M (.st t' (-1))).J.term ∧ (opM M (.st t' (-1))).J.term ≤ M.J.term + 2 := by
    by_cases he : errR M.J (.st t' (-1)) = 0
    · rw [opM_ok he]; simp only [doR]; exact ht
    · rw [opM_no he]; omega
  generalize opM M (.st t' (-1)) = M2 at B bd2 ok2 hf
  refine B.reb offJ.nil (fun w7 B _ => ?_)
  unfold C_cellplanelaw08_JournalOrder_9
  refine B.get offJ.nil (fun wa A => journal_Len_spec A) (fun w2 B t => ⟨_, rfl, ?_⟩)
  refine B.reb offJ.nil (fun w7 B _ => ?_)
  unfold C_cellplanelaw08_JournalOrder_10
  refine (hR B.T).idx (by omega) (by omega) (fun p x hp hx ha => ⟨x.B, ha.part 2 1 rfl, notIn_nil, ?_⟩)
  refine B.get offJ.nil (fun wa A => journal_Term_spec A) (fun w2 B t => ⟨_, rfl, (ha.touch t (by simp [blk])).part 2 1 rfl, ?_⟩)
  replace ha := ha.touch t (by simp [blk])
  refine B.get offJ.nil (fun wa A => journal_Term_spec A) (fun w2 B t => ⟨_, rfl, (ha.touch t (by simp [blk])).part 2 1 rfl, ?_⟩)
  rw [wrap_i64 (x := M2.J.term + 1) (by omega) (by omega), wrap_i64 (x := M2.J.term - 2) (by omega) (by omega)]
  refine B.v offJ.nil (fun wa _ _ => make_Between_spec (v := x.B) (a := M2.J.term - 2) (b := M2.J.term + 1) (by omega) (by omega) (by omega) wa) (fun w4 B t => ⟨_, rfl, ?_⟩)
  generalize betM x.B (M2.J.term - 2) (M2.J.term + 1) = t2
  refine B.v offJ.nil (fun wa _ _ => note_spec i wa) (fun w4 B _ => ⟨_, rfl, ?_⟩)
  refine B.op offJ.nil (fun wa A _ => journal_Append_spec A t2 (noteE i) (noteE_I i) (by have := bd2.l; omega) (by have := bd2.b; omega)) (fun h5 w5 B _ _ _ => ⟨_, rfl, ?_⟩)
  have bd3 : Bd (opM M2 (.ap t2 (noteE i))) (2 * (i + 1)) := (bd2.op (by omega)).up (by omega)
  have ok3 := ok2.ap (t := t2) (e := noteE i)
  have hg : (opM M2 (.ap t2 (noteE i))).J.term = M2.J.term ∧ ((errR M2.J (.ap t2 (noteE i)) = 0) ↔ (opM M2 (.ap t2 (noteE i))).J.log.length = M2.J.log.length + 1) := by
    by_cases he : errR M2.J (.ap t2 (noteE i)) = 0
    · rw [opM_ok he]; simp only [doR]; exact ⟨trivial, by simp [he]⟩
    · rw [opM_no he]; exact ⟨rfl, by simp [he]⟩
  generalize opM M2 (.ap t2 (noteE i)) = M3 at B bd3 ok3 hg
  generalize errR M2.J (.ap t2 (noteE i)) = e at hg ⊢
  refine B.reb offJ.nil (fun w7 B _ => ?_)
  unfold C_cellplanelaw08_JournalOrder_11
  refine B.get offJ.nil (fun wa A => journal_Len_spec A) (fun w2 B t => ⟨_, rfl, ?_⟩)
  have hl2 := bd2.l
  have hl3 := bd3.l
  rw [wrap_i64 (x := (M2.J.log.length : Int) + 1) (by omega) (by omega)]
  refine ifbn (fun h => ?_) (fun _ => ?_)
  · exfalso
    have : (decide (e = 0)) = decide ((M3.J.log.length : Int) = (M2.J.log.length : Int) + 1) := by
      rw [decide_eq_decide, hg.2]; omega
    rw [this] at h
    simp at h
  refine B.reb offJ.nil (fun w7 B _ => ?_)
  unfold C_cellplanelaw08_JournalOrder_12
  refine B.reb offJ.nil (fun w7 B _ => ?_)
  unfold C_cellplanelaw08_JournalOrder_13
  refine LoopC.mk (fun x w' => ∃ k : Nat, x = (k : Int) ∧ k ≤ M3.J.log.length ∧ JS t_journal_Journal t_disk_Disk w0 w' bj h5 M3) (fun x => M3.J.log.length - x.toNat) ?_ ?_
  · exact B.reb offJ.nil (fun w2 B _ => ⟨0, rfl, by omega, B⟩)
  rintro x wa ⟨k, rfl, hk, B⟩
  unfold L_cellplanelaw08_JournalOrder_14 B_cellplanelaw08_JournalOrder_14
  simp only
  refine B.get offJ.nil (fun wa A => journal_Len_spec A) (fun w2 B t => ⟨_, rfl, ?_⟩)
  refine ifbd (fun hlt => ?_) (fun hge => ?_)
  rotate_left
  · refine B.reb offJ.nil (fun w7 B _ => ?_)
    unfold C_cellplanelaw08_JournalOrder_8
    refine B.reb offJ.nil (fun w7 B _ => ?_)
    rw [show IntKind.i64.wrap ((i : Int) + 1) = ((i + 1 : Nat) : Int) by rw [wrap_i64 (by omega) (by omega)]; simp]
    exact hK h5 M3 w7 ⟨B, bd3, ok3, by omega, by omega⟩ hil
  have hkl : k < M3.J.log.length := by omega
  obtain ⟨y, hy⟩ : ∃ y, M3.J.log[k]? = some y := ⟨_, List.getElem?_eq_getElem hkl⟩
  have hyT : (atM M3.J.log (k : Int)).1 = y := atM_in (by omega) (by simpa using hy)
  have hyx := ok3.x y (List.mem_of_getElem? hy)
  refine B.reb offJ.nil (fun w7 B _ => ?_)
  unfold C_cellplanelaw08_JournalOrder_15
  have k17 : ∀ {w'}, JS t_journal_Journal t_disk_Disk w0 w' bj h5 M3 → Reb w0.heap.size w' [] (fun w => C_cellplanelaw08_JournalOrder_17 w0.heap.size K (fun (c' : Sl × (Option Addr) × Int) (x' : Int) (w' : World) => c' = (l, some ⟨bj, 0, none⟩, (i : Int)) ∧ (∃ k : Nat, x' = (k : Int) ∧ k ≤ M3.J.log.length ∧ JS t_journal_Journal t_disk_Disk w0 w' bj h5 M3) ∧ M3.J.log.length - x'.toNat < M3.J.log.length - (k : Int).toNat) (fun v w' => Touch noB w0 w' ∧ v = .bool true) l (some ⟨bj, 0, none⟩) (i : Int) (k : Int) w) := by
    intro w' B
    refine B.reb offJ.nil (fun w7 B _ => ?_)
    unfold C_cellplanelaw08_JournalOrder_17
    have hv : atV M3.J.log (k : Int) = .tuple #[.agg (List.toArray y.cells), .bool true] := atV_in (by omega) (by simpa using hy)
    refine B.get offJ.nil (fun wa A => journal_At_spec A k) (fun w2 B t => ⟨y, true, hv, fun b7 hb7 => ?_⟩)
    have hL : offJ w0 h5 [⟨b7, y.cells, t_api_Logged⟩] := by
      intro b hb
      simp [blk] at hb
      subst hb
      have := B.T.t.size
      exact ⟨by omega, fun hn => by have := B.A.lt hn; omega⟩
    refine B.v hL (fun wa _ _ => ref06_Shape_spec y.Entry wa) (fun w3 B t => ⟨_, rfl, ?_⟩)
    refine ifbnd (fun h => absurd hyx.2.2 h) (fun _ => ?_)
    refine B.reb hL (fun w4 B _ => ?_)
    unfold C_cellplanelaw08_JournalOrder_16
    refine B.reb offJ.nil (fun w5 B _ => ?_)
    rw [show IntKind.i64.wrap ((k : Int) + 1) = ((k + 1 : Nat) : Int) by rw [wrap_i64 (by omega) (by omega)]; simp]
    exact ⟨rfl, ⟨k + 1, rfl, by omega, B⟩, by omega⟩
  refine B.get offJ.nil (fun wa A => journal_TermAt_spec A k) (fun w2 B t => ⟨_, rfl, ?_⟩)
  rw [hyT]
  refine ifbd (fun h => absurd h (by omega)) (fun _ => ?_)
  refine B.get offJ.nil (fun wa A => journal_TermAt_spec A k) (fun w2 B t => ⟨_, rfl, ?_⟩)
  rw [hyT]
  refine B.get offJ.nil (fun wa A => journal_Term_spec A) (fun w2 B t => ⟨_, rfl, ?_⟩)
  refine ifbd (fun h => absurd h (by omega)) (fun _ => ?_)
  refine ifbd (fun h0 => ?_) (fun _ => k17 B)
  rw [show IntKind.i64.wrap ((k : Int) - 1) = ((k - 1 : Nat) : Int) by rw [wrap_i64 (by omega) (by omega)]; omega]
  refine B.get offJ.nil (fun wa A => journal_TermAt_spec A ((k - 1 : Nat) : Int)) (fun w2 B t => ⟨_, rfl, ?_⟩)
  refine B.get offJ.nil (fun wa A => journal_TermAt_spec A k) (fun w2 B t => ⟨_, rfl, ?_⟩)
  obtain ⟨z, hz⟩ : ∃ z, M3.J.log[k - 1]? = some z := ⟨_, List.getElem?_eq_getElem (by omega)⟩
  have hzT : (atM M3.J.log ((k - 1 : Nat) : Int)).1 = z := atM_in (by omega) (by simpa using hz)
  rw [hyT, hzT]
  have hzy : z.Term ≤ y.Term := by
    have h1 : k - 1 < M3.J.log.length := by omega
    have := List.pairwise_iff_getElem.1 ok3.s (k - 1) k h1 hkl (by omega)
    rw [List.getElem?_eq_getElem h1] at hz
    rw [List.getElem?_eq_getElem hkl] at hy
    rw [Option.some.inj hz, Option.some.inj hy] at this
    exact this
  refine ifbd (fun h => absurd h (by omega)) (fun _ => k17 B)

theorem JournalOrder_spec {w : World} {l : Sl} {xs : List G_cellplanelaw08_Act} (I : In actC 3 actOk w l xs) : Spec PP n_cellplanelaw08_JournalOrder [.slice l.a l.n l.c] w noB (fun v _ => v = .bool true) := by
  refine cellplanelaw08_JournalOrder_calls l _ w ?_
  unfold F_cellplanelaw08_JournalOrder
  have hln := I.rd.1
  refine Reb.A (Now.refl (S := noB)) Anc.nil (fun w1 T t => ?_)
  unfold C_cellplanelaw08_JournalOrder_1
  refine journal_new T (fun h1 w1 B t1 _ => ⟨_, rfl, ?_⟩)
  refine B.reb offJ.nil (fun w2 B _ => ?_)
  unfold C_cellplanelaw08_JournalOrder_2
  refine B.v offJ.nil (fun wa _ _ => awake_spec wa) (fun w3 B _ => ⟨_, rfl, ?_⟩)
  refine ifb (fun h => by cases h) (fun _ => ?_)
  refine ifbd (fun h50 => ?_) (fun h50 => ?_)
  · refine B.reb offJ.nil (fun w2 B _ => ?_)
    unfold C_cellplanelaw08_JournalOrder_18
    refine ifb (fun _ => ?_) (fun h => by cases h)
    refine B.v offJ.nil (fun wa _ _ => awake_spec wa) (fun w3 B _ => ⟨_, rfl, ?_⟩)
    refine ifb (fun _ => ?_) (fun h => by cases h)
    exact B.reb offJ.nil (fun w2 B _ => ⟨B.T.t, rfl⟩)
  · refine B.reb offJ.nil (fun w2 B _ => ?_)
    unfold C_cellplanelaw08_JournalOrder_18
    refine ifb (fun h => by simp at h) (fun _ => ?_)
    refine B.reb offJ.nil (fun w2 B _ => ?_)
    unfold C_cellplanelaw08_JournalOrder_3
    refine B.reb offJ.nil (fun w2 B _ => ?_)
    unfold C_cellplanelaw08_JournalOrder_5
    refine LoopC.mk (fun x w' => ∃ (i : Nat) (h' : JH) (M : JM), x = (i : Int) ∧ i ≤ xs.length ∧ OI w w' h1.bj i h' M) (fun x => xs.length - x.toNat) ?_ ?_
    · exact B.reb offJ.nil (fun w2 B _ => ⟨0, h1, jm0, rfl, by omega, B, Bd.new, ⟨by simp [jm0, j0], by simp [jm0, j0]⟩, by simp [jm0, j0], by simp [jm0, j0]⟩)
    rintro x wa ⟨i, h', M, rfl, hi, V⟩
    unfold L_cellplanelaw08_JournalOrder_6
    refine order_body I.rd (by omega) (by omega) V (fun h2 M2 w2 V2 hlt => ⟨rfl, ⟨i + 1, h2, M2, rfl, by omega, V2⟩, by omega⟩)

end Go.Sh
