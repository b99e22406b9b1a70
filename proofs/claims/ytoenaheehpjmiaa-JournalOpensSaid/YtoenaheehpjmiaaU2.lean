/- What a journal remembers behind calls and crashes: the plain law.
   Conditions: none. -/
import Derived.Test.YtoenaheehpjmiaaU1
namespace Go.Sh
open Go
set_option linter.unusedSimpArgs false
set_option linter.unusedVariables false

/-- a journal: what it remembers, its bytes, how many of them are durable -/
structure JM where
  J : JC
  b : List UInt8
  d : Nat
def jm0 : JM := ⟨j0, [], 0⟩
def opM (M : JM) (r : Rec) : JM := if errR M.J r = 0 then ⟨doR M.J r, M.b ++ putF (recB r), M.d⟩ else M
def syncM (M : JM) : JM := { M with d := M.b.length }
/-- how many bytes a crash leaves -/
def keepN (M : JM) (keep : Int) : Nat := M.d + (min keep ((M.b.length : Int) - M.d)).toNat
noncomputable def readAll (b : List UInt8) : JM := ⟨(replay j0 b).1, b.take (replay j0 b).2, (replay j0 b).2⟩
noncomputable def crashM (M : JM) (keep : Int) : JM := readAll (M.b.take (keepN M keep))
def flatR (rs : List Rec) : List UInt8 := rs.flatMap fun r => putF (recB r)
/-- records that take effect one after the other -/
inductive RunR : JC → List Rec → JC → Prop
  | nil {J} : RunR J [] J
  | cons {J r rs J'} : r.ok → errR J r = 0 → RunR (doR J r) rs J' → RunR J (r :: rs) J'

theorem RunR.snoc {J J' : JC} {rs : List Rec} {r : Rec} (h : RunR J rs J') (h1 : r.ok) (h2 : errR J' r = 0) : RunR J (rs ++ [r]) (doR J' r) := by
  induction h with
  | nil => exact .cons h1 h2 .nil
  | cons g1 g2 _ ih => exact .cons g1 g2 (ih h2)
theorem RunR.det {J J' J'' : JC} {rs : List Rec} (h : RunR J rs J') (g : RunR J rs J'') : J' = J'' := by
  induction h with
  | nil => cases g; rfl
  | cons _ _ _ ih => cases g with | cons _ _ g => exact ih g
theorem RunR.take {J J' : JC} {rs : List Rec} (h : RunR J rs J') : ∀ k, ∃ J'', RunR J (rs.take k) J'' := by
  induction h with
  | nil => intro k; exact ⟨_, by simpa using .nil⟩
  | cons g1 g2 _ ih =>
    intro k
    cases k with
    | zero => exact ⟨_, .nil⟩
    | succ k => obtain ⟨J'', h⟩ := ih k; exact ⟨J'', .cons g1 g2 h⟩

theorem flatR_cons (r : Rec) (rs : List Rec) : flatR (r :: rs) = putF (recB r) ++ flatR rs := by simp [flatR]
theorem flatR_append (a b : List Rec) : flatR (a ++ b) = flatR a ++ flatR b := by simp [flatR]

/-- a beginning of the bytes of records, read: a beginning of the records, and as many as can be -/
theorem replay_take {J J' : JC} {rs : List Rec} (h : RunR J rs J') : ∀ m : Nat, ∃ k J'', k ≤ rs.length ∧ RunR J (rs.take k) J'' ∧ replay J ((flatR rs).take m) = (J'', (flatR (rs.take k)).length) ∧ (flatR (rs.take k)).length ≤ m ∧
    ∀ i, i ≤ rs.length → (flatR (rs.take i)).length ≤ m → i ≤ k := by
  induction h with
  | nil =>
    intro m
    refine ⟨0, _, Nat.le_refl _, .nil, ?_, by simp [flatR], fun i hi _ => by simpa using hi⟩
    have : (flatR []).take m = [] := by simp [flatR]
    rw [this, replay_none takeM_nil]; rfl
  | @cons J r rs J' g1 g2 g3 ih =>
    intro m
    have hp := recB_len g1
    by_cases hm : (putF (recB r)).length ≤ m
    · obtain ⟨k, J'', e1, e2, e3, e4, e5⟩ := ih (m - (putF (recB r)).length)
      refine ⟨k + 1, J'', by simpa using e1, .cons g1 g2 e2, ?_, ?_, ?_⟩
      · have ht : (flatR (r :: rs)).take m = putF (recB r) ++ (flatR rs).take (m - (putF (recB r)).length) := by
          rw [flatR_cons, List.take_append, List.take_of_length_le hm]
        rw [ht, replay_step (takeM_put (by omega)) (readM_rec g1 g2), List.drop_left' rfl, e3, List.take_succ_cons, flatR_cons, List.length_append]
      · rw [List.take_succ_cons, flatR_cons, List.length_append]; omega
      · intro i hi hl
        cases i with
        | zero => omega
        | succ i =>
          rw [List.take_succ_cons, flatR_cons, List.length_append] at hl
          have := e5 i (by simpa using hi) (by omega)
          omega
    · refine ⟨0, J, Nat.zero_le _, .nil, ?_, by simp [flatR], ?_⟩
      · rw [replay_none]
        · rfl
        · refine takeM_none (fun p s h1 h2 => ?_)
          have : putF (recB r) ++ flatR rs = putF p ++ (s ++ (flatR (r :: rs)).drop m) := by
            rw [← List.append_assoc, ← h2, List.take_append_drop, flatR_cons]
          obtain ⟨e1, _⟩ := putF_inj this
          have hl := congrArg List.length h2
          rw [List.length_take, List.length_append, ← e1] at hl
          omega
      · intro i hi hl
        cases i with
        | zero => omega
        | succ i =>
          rw [List.take_succ_cons, flatR_cons, List.length_append] at hl
          omega

theorem replay_all {J J' : JC} {rs : List Rec} (h : RunR J rs J') : replay J (flatR rs) = (J', (flatR rs).length) := by
  obtain ⟨k, J'', e1, e2, e3, e4, e5⟩ := replay_take h (flatR rs).length
  have hk := e5 rs.length (Nat.le_refl _) (by rw [List.take_length]; exact Nat.le_refl _)
  have : k = rs.length := by omega
  subst this
  rw [List.take_length] at *
  rw [List.take_length] at e3
  rw [e3, ← h.det e2]

/-- a journal that is what its records say -/
structure Good (M : JM) (rs : List Rec) : Prop where
  run : RunR j0 rs M.J
  b : M.b = flatR rs
  d : M.d ≤ M.b.length
theorem Good.new : Good jm0 [] := ⟨.nil, rfl, Nat.le_refl _⟩
theorem Good.op {M : JM} {rs : List Rec} {r : Rec} (h : Good M rs) (hr : r.ok) : Good (opM M r) (if errR M.J r = 0 then rs ++ [r] else rs) := by
  unfold opM
  split
  · rename_i h0
    exact ⟨h.run.snoc hr h0, by simp only; rw [flatR_append, ← h.b]; simp [flatR], by simp only; rw [List.length_append]; have := h.d; omega⟩
  · exact h
theorem Good.sync {M : JM} {rs : List Rec} (h : Good M rs) : Good (syncM M) rs := ⟨h.run, h.b, Nat.le_refl _⟩
/-- behind a crash a beginning of the records is left, with all that were durable -/
theorem Good.crash {M : JM} {rs : List Rec} (h : Good M rs) (keep : Int) : ∃ k, k ≤ rs.length ∧ Good (crashM M keep) (rs.take k) ∧ (crashM M keep).d = (crashM M keep).b.length ∧ ∀ i, i ≤ rs.length → (flatR (rs.take i)).length ≤ M.d → i ≤ k := by
  obtain ⟨k, J'', e1, e2, e3, e4, e5⟩ := replay_take h.run (keepN M keep)
  have hk : M.b.take (keepN M keep) = (flatR rs).take (keepN M keep) := by rw [h.b]
  have hb : ((flatR rs).take (keepN M keep)).take (flatR (rs.take k)).length = flatR (rs.take k) := by
    rw [List.take_take, Nat.min_eq_left e4]
    have : flatR rs = flatR (rs.take k) ++ flatR (rs.drop k) := by rw [← flatR_append, List.take_append_drop]
    rw [this, List.take_left' rfl]
  have ec : crashM M keep = ⟨J'', flatR (rs.take k), (flatR (rs.take k)).length⟩ := by
    unfold crashM readAll
    rw [hk, e3, hb]
  rw [ec]
  refine ⟨k, e1, ⟨e2, rfl, Nat.le_refl _⟩, rfl, fun i hi hl => e5 i hi ?_⟩
  have : M.d ≤ keepN M keep := by unfold keepN; omega
  omega
/-- when all was durable, a crash changes nothing -/
theorem Good.crashAll {M : JM} {rs : List Rec} (h : Good M rs) (hd : M.d = M.b.length) (keep : Int) : crashM M keep = M := by
  have hk : M.b.take (keepN M keep) = flatR rs := by
    rw [List.take_of_length_le (by unfold keepN; omega), h.b]
  unfold crashM readAll
  rw [hk, replay_all h.run, List.take_length]
  obtain ⟨J, b, d⟩ := M
  have hb : b = flatR rs := h.b
  have hd' : d = b.length := hd
  show JM.mk J (flatR rs) (flatR rs).length = JM.mk J b d
  rw [hd', hb]
theorem Good.reads {M : JM} {rs : List Rec} (h : Good M rs) : readAll M.b = ⟨M.J, M.b, M.b.length⟩ := by
  unfold readAll
  rw [h.b, replay_all h.run, List.take_length]

theorem shape_I {e : G_api_Entry} (h : shapeP e) : ∀ n ∈ flds e, okI n := by
  obtain ⟨⟨k1, k2⟩, ⟨t1, t2⟩, ⟨p1, p2, p3⟩, ⟨n1, n2, n3⟩⟩ := h
  intro n hn
  simp only [flds, List.mem_cons, List.not_mem_nil, or_false] at hn
  unfold okI
  rcases hn with rfl | rfl | rfl | rfl | rfl | rfl | rfl | rfl | rfl
  · omega
  · omega
  · split at p1 <;> omega
  · split at p2
    · omega
    · split at p2 <;> omega
  · split at p3
    · omega
    · split at p3 <;> omega
  · split at n1 <;> omega
  · split at n2 <;> omega
  · split at n2 <;> omega
  · split at n3
    · omega
    · split at n3
      · omega
      · split at n3
        · omega
        · split at n3 <;> omega
/-- a record that takes effect is one that can be read -/
theorem errR_ok {J : JC} {r : Rec} (hJ : J.log.length ≤ 1000000) (h : errR J r = 0) : r.ok := by
  cases r with
  | st t v =>
    simp only [errR] at h
    by_cases h1 : t < 0 ∨ 1073741824 < t ∨ v < -1 ∨ 5 ≤ v
    · rw [if_pos h1] at h; omega
    · exact ⟨by unfold okI; omega, by unfold okI; omega⟩
  | ap t e =>
    simp only [errR] at h
    by_cases h1 : t < 1 ∨ 1073741824 < t ∨ ¬ shapeP e
    · rw [if_pos h1] at h; omega
    · have hs : shapeP e := Classical.byContradiction fun hs => h1 (.inr (.inr hs))
      exact ⟨by unfold okI; omega, shape_I hs, hs⟩
  | ct n =>
    simp only [errR] at h
    by_cases h1 : n < 0 ∨ (J.log.length : Int) < n
    · rw [if_pos h1] at h; omega
    · show okI n
      unfold okI; omega

end Go.Sh
