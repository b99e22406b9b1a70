/- JournalVotes, the walk.
   Conditions: none. -/
import Derived.Test.YtoenaheehpjmiaaU9
namespace Go.Sh
open Go
set_option linter.unusedSimpArgs false
set_option linter.unusedVariables false
set_option maxHeartbeats 4000000

def actC (a : G_cellplanelaw08_Act) : List Value := a.cells
theorem actC_len (a : G_cellplanelaw08_Act) : (actC a).length = 3 := rfl
def actOk (a : G_cellplanelaw08_Act) : Prop := okI a.Which ∧ okI a.A ∧ okI a.B

/-- the journal of a law with i calls behind it, each synced -/
structure VI (w0 w : World) (bj i : Nat) (h : JH) (M : JM) : Prop where
  B : JS t_journal_Journal t_disk_Disk w0 w bj h M
  bd : Bd M i
  g : ∃ rs, Good M rs
  d : M.d = M.b.length
  t0 : 0 ≤ M.J.term
  t1 : M.J.term ≤ i

theorem votes_body {w0 w : World} {l : Sl} {xs : List G_cellplanelaw08_Act} {bj i : Nat} {h : JH} {M : JM} (hr : Rd actC 3 w0 l xs) (hi : i ≤ 50) (hn : xs.length ≤ 50) (V : VI w0 w bj i h M)
    {K : (Sl × (Option Addr)) → Int → World → Prop} (hK : ∀ h' M' w', VI w0 w' bj (i + 1) h' M' → i < xs.length → K (l, some ⟨bj, 0, none⟩) (((i + 1 : Nat) : Int)) w') :
    B_cellplanelaw08_JournalVotes_6 w0.heap.size K (fun v w' => Touch noB w0 w' ∧ v = .bool true) l (some ⟨bj, 0, none⟩) (i : Int) w := by
  obtain ⟨B, bd, ⟨rs, g⟩, hd, t0, t1⟩ := V
  have hln := hr.1
  unfold B_cellplanelaw08_JournalVotes_6
  refine ifbd (fun h0 => ?_) (fun h0 => ?_)
  rotate_left
  · refine B.reb offJ.nil (fun w1 B _ => ?_)
    unfold C_cellplanelaw08_JournalVotes_4
    exact B.reb offJ.nil (fun w1 B _ => ⟨B.T.t, rfl⟩)
  have hR : ∀ {w'}, Now noB w0 w' → Rd actC 3 w' l xs := fun T => hr.tr T.t (by simp [noB])
  have hil : i < xs.length := by omega
  refine B.reb offJ.nil (fun w1 B _ => ?_)
  unfold C_cellplanelaw08_JournalVotes_7
  refine B.get offJ.nil (fun wa A => journal_Term_spec A) (fun w2 B _ => ⟨_, rfl, ?_⟩)
  refine B.get offJ.nil (fun wa A => journal_Vote_spec A) (fun w2 B _ => ⟨_, rfl, ?_⟩)
  refine B.reb offJ.nil (fun w3 B _ => ?_)
  unfold C_cellplanelaw08_JournalVotes_9
  refine (hR B.T).idx (by omega) (by omega) (fun p x hp hx ha => ⟨x.A, ha.part 1 1 rfl, notIn_nil, ?_⟩)
  refine (hR B.T).idx (by omega) (by omega) (fun p' x' hp' hx' ha' => ⟨x'.B, ha'.part 2 1 rfl, notIn_nil, ?_⟩)
  obtain rfl : x = x' := Option.some.inj (hx.symm.trans hx')
  obtain rfl : p = p' := Option.some.inj (hp.symm.trans hp')
  rw [wrap_i64 (x := M.J.term - 1) (by omega) (by omega), wrap_i64 (x := M.J.term + 1) (by omega) (by omega)]
  have blt : p.block < w0.heap.size ∨ True := .inr trivial
  refine B.v offJ.nil (fun wa _ _ => make_Between_spec (v := x.A) (a := M.J.term - 1) (b := M.J.term + 1) (by omega) (by omega) (by omega) wa) (fun w4 B t => ⟨_, rfl, (ha'.touch t (by simp [blk])).part 2 1 rfl, ?_⟩)
  refine B.v offJ.nil (fun wa _ _ => make_Between_spec (v := x.B) (a := -1) (b := 2) (by omega) (by omega) (by omega) wa) (fun w5 B t => ⟨_, rfl, ?_⟩)
  have ht := betM_range (v := x.A) (a := M.J.term - 1) (b := M.J.term + 1) (by omega)
  have hv := betM_range (v := x.B) (a := -1) (b := 2) (by omega)
  generalize betM x.A (M.J.term - 1) (M.J.term + 1) = t' at ht ⊢
  generalize betM x.B (-1) 2 = v' at hv ⊢
  refine B.op offJ.nil (fun wa A _ => journal_SetTerm_spec A t' v' (by have := bd.l; omega) (by have := bd.b; omega)) (fun h2 w6 B _ _ _ => ⟨_, rfl, ?_⟩)
  have bd2 : Bd (opM M (.st t' v')) (i + 1) := bd.op (by omega)
  have g2 := g.op' (r := .st t' v') (by have := bd.l; omega)
  have hf : M.J.term ≤ (opM M (.st t' v')).J.term ∧ (opM M (.st t' v')).J.term ≤ M.J.term + 1 ∧ ((opM M (.st t' v')).J.term = M.J.term → M.J.vote ≠ -1 → (opM M (.st t' v')).J.vote = M.J.vote) ∧ (errR M.J (.st t' v') ≠ 0 → (opM M (.st t' v')).J.term = M.J.term ∧ (opM M (.st t' v')).J.vote = M.J.vote) := by
    by_cases he : errR M.J (.st t' v') = 0
    · rw [opM_ok he]
      simp only [errR] at he
      simp only [doR]
      refine ⟨?_, by omega, ?_, fun h => ?_⟩
      · split at he
        · omega
        · split at he
          · omega
          · rename_i h1 h2; omega
      · intro e1 e2
        split at he
        · omega
        · split at he
          · omega
          · rename_i h1 h2; omega
      · exfalso
        apply h
        simp only [errR]
        exact he
    · rw [opM_no he]
      exact ⟨by omega, by omega, fun _ _ => rfl, fun _ => ⟨rfl, rfl⟩⟩
  generalize opM M (.st t' v') = M2 at B bd2 g2 hf
  generalize errR M.J (.st t' v') = e at hf ⊢
  obtain ⟨f1, f2, f3, f4⟩ := hf
  refine B.reb offJ.nil (fun w7 B _ => ?_)
  unfold C_cellplanelaw08_JournalVotes_10
  -- behind the tests
  have k11 : ∀ {w'}, JS t_journal_Journal t_disk_Disk w0 w' bj h2 M2 → Reb w0.heap.size w' [] (fun w => C_cellplanelaw08_JournalVotes_11 w0.heap.size K (fun v w' => Touch noB w0 w' ∧ v = .bool true) l (some ⟨bj, 0, none⟩) (i : Int) w) := by
    intro w' B
    refine B.reb offJ.nil (fun w7 B _ => ?_)
    unfold C_cellplanelaw08_JournalVotes_11
    refine B.dk (fun wa A _ => disk_Sync_spec A.d) (fun h3 w3 B _ _ => ⟨rfl, ?_⟩)
    replace B : JS _ _ _ _ _ _ (syncM M2) := B
    have g3 := g2.sync
    have bd3 := bd2.sync
    have eJ : (syncM M2).J = M2.J := rfl
    have ed : (syncM M2).d = (syncM M2).b.length := rfl
    generalize syncM M2 = M3 at B g3 bd3 eJ ed
    refine B.reb offJ.nil (fun w4 B _ => ?_)
    unfold C_cellplanelaw08_JournalVotes_12
    refine B.get offJ.nil (fun wa A => journal_Term_spec A) (fun w2 B _ => ⟨_, rfl, ?_⟩)
    refine B.get offJ.nil (fun wa A => journal_Vote_spec A) (fun w2 B _ => ⟨_, rfl, ?_⟩)
    refine B.reb offJ.nil (fun w5 B _ => ?_)
    unfold C_cellplanelaw08_JournalVotes_13
    have k14 : ∀ {w'} {h4}, JS t_journal_Journal t_disk_Disk w0 w' bj h4 M3 → Reb w0.heap.size w' [] (fun w => C_cellplanelaw08_JournalVotes_14 w0.heap.size K (fun v w' => Touch noB w0 w' ∧ v = .bool true) l (some ⟨bj, 0, none⟩) (i : Int) M3.J.term M3.J.vote w) := by
      intro w' h4 B
      refine B.reb offJ.nil (fun w7 B _ => ?_)
      unfold C_cellplanelaw08_JournalVotes_14
      refine B.get offJ.nil (fun wa A => journal_Term_spec A) (fun w2 B _ => ⟨_, rfl, ?_⟩)
      refine ifbnd (fun h => absurd rfl h) (fun _ => ?_)
      refine B.get offJ.nil (fun wa A => journal_Vote_spec A) (fun w2 B _ => ⟨_, rfl, ?_⟩)
      refine ifbnd (fun h => absurd rfl h) (fun _ => ?_)
      refine B.reb offJ.nil (fun w7 B _ => ?_)
      unfold C_cellplanelaw08_JournalVotes_8
      refine B.reb offJ.nil (fun w7 B _ => ?_)
      rw [show IntKind.i64.wrap ((i : Int) + 1) = ((i + 1 : Nat) : Int) by rw [wrap_i64 (by omega) (by omega)]; simp]
      exact hK h4 M3 w7 ⟨B, bd3, ⟨_, g3⟩, ed, by rw [eJ]; omega, by rw [eJ]; omega⟩ hil
    refine (hR B.T).idx (by omega) (by omega) (fun p x hp hx ha => ⟨x.Which, ha.take 1 rfl, notIn_nil, by decide, ?_⟩)
    refine ifbd (fun _ => ?_) (fun _ => k14 B)
    refine (hR B.T).idx (by omega) (by omega) (fun p x hp hx ha => ⟨x.Which, ha.take 1 rfl, notIn_nil, ?_⟩)
    refine B.op offJ.nil (fun wa A _ => journal_Crash_spec A bd3.d (by have := bd3.b; omega) x.Which) (fun h4 w4 B _ _ _ => ⟨rfl, ?_⟩)
    rw [g3.crashAll ed] at B
    exact k14 B
  have no : ∀ {w' : World} {Q : Prop}, (M2.J.term < M.J.term ∨ (M2.J.term = M.J.term ∧ M.J.vote ≠ -1 ∧ M2.J.vote ≠ M.J.vote) ∨ (e ≠ 0 ∧ (M2.J.term ≠ M.J.term ∨ M2.J.vote ≠ M.J.vote))) → Q := by
    intro w' Q hb
    exfalso
    rcases hb with hb | ⟨a, b, c⟩ | ⟨a, b⟩
    · omega
    · exact c (f3 a b)
    · exact b.elim (fun h => h (f4 a).1) (fun h => h (f4 a).2)
  repeat' first
    | exact k11 ‹JS _ _ _ _ _ _ _›
    | refine JS.get ‹JS _ _ _ _ _ _ _› offJ.nil (fun wa A => journal_Term_spec A) (fun w2 B _ => ⟨_, rfl, ?_⟩)
    | refine JS.get ‹JS _ _ _ _ _ _ _› offJ.nil (fun wa A => journal_Vote_spec A) (fun w2 B _ => ⟨_, rfl, ?_⟩)
    | refine ifbnd (fun _ => ?_) (fun _ => ?_)
    | refine ifbd (fun _ => ?_) (fun _ => ?_)
  all_goals (refine no (w' := w) ?_; grind)

theorem JournalVotes_spec {w : World} {l : Sl} {xs : List G_cellplanelaw08_Act} (I : In actC 3 actOk w l xs) : Spec PP n_cellplanelaw08_JournalVotes [.slice l.a l.n l.c] w noB (fun v _ => v = .bool true) := by
  refine cellplanelaw08_JournalVotes_calls l _ w ?_
  unfold F_cellplanelaw08_JournalVotes
  have hln := I.rd.1
  refine Reb.A (Now.refl (S := noB)) Anc.nil (fun w1 T t => ?_)
  unfold C_cellplanelaw08_JournalVotes_1
  refine journal_new T (fun h1 w1 B t1 _ => ⟨_, rfl, ?_⟩)
  refine B.reb offJ.nil (fun w2 B _ => ?_)
  unfold C_cellplanelaw08_JournalVotes_2
  refine B.v offJ.nil (fun wa _ _ => awake_spec wa) (fun w3 B _ => ⟨_, rfl, ?_⟩)
  refine ifb (fun h => by cases h) (fun _ => ?_)
  refine ifbd (fun h50 => ?_) (fun h50 => ?_)
  · refine B.reb offJ.nil (fun w2 B _ => ?_)
    unfold C_cellplanelaw08_JournalVotes_15
    refine ifb (fun _ => ?_) (fun h => by cases h)
    refine B.v offJ.nil (fun wa _ _ => awake_spec wa) (fun w3 B _ => ⟨_, rfl, ?_⟩)
    refine ifb (fun _ => ?_) (fun h => by cases h)
    exact B.reb offJ.nil (fun w2 B _ => ⟨B.T.t, rfl⟩)
  · refine B.reb offJ.nil (fun w2 B _ => ?_)
    unfold C_cellplanelaw08_JournalVotes_15
    refine ifb (fun h => by simp at h) (fun _ => ?_)
    refine B.reb offJ.nil (fun w2 B _ => ?_)
    unfold C_cellplanelaw08_JournalVotes_3
    refine B.reb offJ.nil (fun w2 B _ => ?_)
    unfold C_cellplanelaw08_JournalVotes_5
    refine LoopC.mk (fun x w' => ∃ (i : Nat) (h' : JH) (M : JM), x = (i : Int) ∧ i ≤ xs.length ∧ VI w w' h1.bj i h' M) (fun x => xs.length - x.toNat) ?_ ?_
    · exact B.reb offJ.nil (fun w2 B _ => ⟨0, h1, jm0, rfl, by omega, B, Bd.new, ⟨_, Good.new⟩, rfl, by simp [jm0, j0], by simp [jm0, j0]⟩)
    rintro x wa ⟨i, h', M, rfl, hi, V⟩
    unfold L_cellplanelaw08_JournalVotes_6
    refine votes_body I.rd (by omega) (by omega) V (fun h2 M2 w2 V2 hlt => ⟨rfl, ⟨i + 1, h2, M2, rfl, by omega, V2⟩, by omega⟩)

end Go.Sh
