/- Comparison of arrays and structs of plain data; elements of an array.
   Conditions: none. -/
import Derived.Test.YtoenaheehpjmiaaLib5
import Derived.DeepKeys
import Derived.DeepKeys2
namespace Go.Sh
open Go
set_option linter.unusedSimpArgs false
set_option linter.unusedVariables false

theorem okLeaves_split : ∀ {a b : List Leaf} {cs : List Value}, okLeaves (a ++ b) cs → ∃ x y, cs = x ++ y ∧ okLeaves a x ∧ okLeaves b y
  | [], b, cs, h => ⟨[], cs, rfl, rfl, h⟩
  | l :: r, b, cs, h => by
    obtain ⟨v, u, h1, h2, rfl⟩ := h
    obtain ⟨x, y, rfl, h3, h4⟩ := okLeaves_split h2
    exact ⟨v :: x, y, rfl, ⟨v, x, h1, h3, rfl⟩, h4⟩

theorem okLeaves_flat {α : Type} {c : α → List Value} {L : List Leaf} : ∀ {xs : List α}, (∀ x ∈ xs, okLeaves L (c x)) → okLeaves (List.replicate xs.length L).flatten (xs.flatMap c)
  | [], _ => rfl
  | x :: r, h => by
    rw [List.length_cons, List.replicate_succ, List.flatten_cons, List.flatMap_cons]
    exact okLeaves_append (h x (by simp)) (okLeaves_flat (fun y hy => h y (by simp [hy])))

def flatG (P : Program) (g : TypeId → Option (List Leaf)) : List Field → Nat → Option (List Leaf)
  | [], _ => some []
  | f :: r, off =>
    match g f.type with
    | some ls => if Nat.beq f.offset off && Nat.beq (P.cellsOf f.type) ls.length then (flatG P g r (off + ls.length)).map (ls ++ ·) else none
    | none => none

/-- the leaves of a type of plain data, arrays too -/
def flatA (P : Program) : Nat → TypeId → Option (List Leaf)
  | 0, _ => none
  | d + 1, t =>
    match P.underlying t with
    | some .bool => some [.bool]
    | some (.int k) => some [.int k]
    | some .string => some [.string]
    | some (.array n e) =>
      match flatA P d e with
      | some ls => if Nat.beq (P.cellsOf e) ls.length && Nat.beq (P.cellsOf t) (n * ls.length) then some (List.replicate n ls).flatten else none
      | none => none
    | some (.struct fs) =>
      match flatG P (flatA P d) fs.toList 0 with
      | some ls => if Nat.beq (P.cellsOf t) ls.length && fs.all (·.name != "_") then some ls else none
      | none => none
    | _ => none

theorem mapM_all {α β : Type} {f : α → Option β} : ∀ {l : List α}, (∀ x ∈ l, ∃ y, f x = some y) → ∃ ys, l.mapM f = some ys
  | [], _ => ⟨[], rfl⟩
  | x :: r, h => by
    obtain ⟨y, hy⟩ := h x (by simp)
    obtain ⟨ys, hys⟩ := mapM_all (l := r) (fun z hz => h z (by simp [hz]))
    exact ⟨y :: ys, by rw [List.mapM_cons, hy, hys]; rfl⟩

theorem flatG_lits {P : Program} {g : TypeId → Option (List Leaf)} {tr : TypeId → List Value → Prop} (hg : ∀ t ls cs, g t = some ls → okLeaves ls cs → tr t cs) {cs : List Value} :
    ∀ (fs : List Field) (off : Nat) (ls : List Leaf), flatG P g fs off = some ls → okLeaves ls (cs.drop off) → ∀ f ∈ fs, tr f.type ((cs.drop f.offset).take (P.cellsOf f.type))
  | [], _, _, _, _ => fun f hf => by cases hf
  | f :: r, off, ls, h, hk => by
    unfold flatG at h
    split at h
    · rename_i l1 hl1
      split at h
      · rename_i hb
        simp only [Bool.and_eq_true, Nat.beq_eq] at hb
        cases hr : flatG P g r (off + l1.length) with
        | none => rw [hr] at h; cases h
        | some l2 =>
          rw [hr] at h
          simp only [Option.map_some, Option.some.injEq] at h
          subst h
          obtain ⟨x, y, he, h1, h2⟩ := okLeaves_split hk
          have hxl := okLeaves_len h1
          intro f' hf'
          rcases List.mem_cons.1 hf' with rfl | hf'
          · rw [hb.1, hb.2, he, List.take_left' hxl]
            exact hg _ _ _ hl1 h1
          · refine flatG_lits hg r _ _ hr ?_ f' hf'
            rw [← List.drop_drop, he, List.drop_left' hxl]
            exact h2
      · cases h
    · cases h

theorem lits_of_leaves {P : Program} : ∀ (d : Nat) (t : TypeId) (ls : List Leaf) (cs : List Value), flatA P d t = some ls → okLeaves ls cs → ∃ l, P.keyLits d t cs = some l
  | 0, t, ls, cs, h, _ => by simp [flatA] at h
  | d + 1, t, ls, cs, h, hk => by
    unfold flatA at h
    split at h
    · rename_i ht
      cases h
      obtain ⟨v, u, ⟨b, rfl⟩, h2, rfl⟩ := hk
      cases h2
      exact ⟨[.bool b], by simp [Program.keyLits, ht]⟩
    · rename_i k ht
      cases h
      obtain ⟨v, u, ⟨n, rfl, hw⟩, h2, rfl⟩ := hk
      cases h2
      exact ⟨[.int k n], by simp [Program.keyLits, ht, hw]⟩
    · rename_i ht
      cases h
      obtain ⟨v, u, ⟨s, rfl, hw⟩, h2, rfl⟩ := hk
      cases h2
      exact ⟨[.string s.data.toList], by simp [Program.keyLits, ht, hw]⟩
    · rename_i n e ht
      split at h
      · rename_i l1 hl1
        split at h
        · rename_i hb
          simp only [Bool.and_eq_true, Nat.beq_eq] at hb
          simp only [Option.some.injEq] at h
          subst h
          have hlen := okLeaves_len hk
          have hlen2 : cs.length = n * l1.length := by rw [hlen]; simp
          have piece : ∀ i, i < n → okLeaves l1 ((cs.drop (i * l1.length)).take l1.length) := by
            intro i hi
            have e1 : List.replicate n l1 = List.replicate i l1 ++ l1 :: List.replicate (n - i - 1) l1 := by
              rw [← List.replicate_succ, List.replicate_append_replicate]
              congr 1
              omega
            rw [e1, List.flatten_append, List.flatten_cons] at hk
            obtain ⟨x, y, rfl, h1, h2⟩ := okLeaves_split hk
            obtain ⟨y1, y2, rfl, h3, h4⟩ := okLeaves_split h2
            have hx := okLeaves_len h1
            simp at hx
            rw [List.drop_left' hx, List.take_left' (okLeaves_len h3)]
            exact h3
          have hm : ∃ ys, (List.range n).mapM (fun i => P.keyLits d e ((cs.drop (i * P.cellsOf e)).take (P.cellsOf e))) = some ys := by
            refine mapM_all (fun i hi => ?_)
            rw [hb.1]
            exact lits_of_leaves d e l1 _ hl1 (piece i (by simpa using hi))
          obtain ⟨ys, hys⟩ := hm
          refine ⟨ys.flatten, ?_⟩
          unfold Program.keyLits
          simp only [ht]
          rw [if_pos (by rw [hb.2, hlen2]), hys]
          rfl
        · cases h
      · cases h
    · rename_i fs ht
      split at h
      · rename_i l1 hl1
        split at h
        · rename_i hb
          simp only [Bool.and_eq_true, Nat.beq_eq] at hb
          simp only [Option.some.injEq] at h
          subst h
          have hall := flatG_lits (P := P) (g := flatA P d) (tr := fun t cs => ∃ l, P.keyLits d t cs = some l) (fun t ls cs h1 h2 => lits_of_leaves d t ls cs h1 h2) (cs := cs) fs.toList 0 l1 hl1 (by simpa using hk)
          obtain ⟨ys, hys⟩ := mapM_all hall
          refine ⟨ys.flatten, ?_⟩
          unfold Program.keyLits
          simp only [ht]
          rw [if_pos ⟨by rw [hb.1, okLeaves_len hk], hb.2⟩, hys]
          rfl
        · cases h
      · cases h
    · cases h

/-- what the program's table says of a type whose values are compared cell by cell -/
structure EqT (P : Program) (t : TypeId) (ls : List Leaf) : Prop where
  key : P.keyTypeAt 12 t = true
  til : P.tiled 12 t = true
  flat : flatA P 12 t = some ls
  guard : P.eqGuardType P.depth t = false
  agg : (match P.underlying t with | some (.array _ _) | some (.struct _) => true | _ => false) = true
  size : P.cellsOf t = ls.length

theorem eq_leaves {P : Program} {t : TypeId} {ls : List Leaf} (E : EqT P t ls) {xs ys : List Value} (hx : okLeaves ls xs) (hy : okLeaves ls ys) :
    ∃ b : Bool, (∀ w : World, (eqSem .eql t (.agg xs.toArray) (.agg ys.toArray)).run P w = .ok (.bool b) w) ∧ (b = true ↔ xs = ys) := by
  obtain ⟨lx, h1⟩ := lits_of_leaves 12 t ls xs E.flat hx
  obtain ⟨ly, h2⟩ := lits_of_leaves 12 t ls ys E.flat hy
  have fm : ∀ {zs : List Value}, okLeaves ls zs → (Value.agg zs.toArray).formed P t = true := by
    intro zs hz
    have hA := E.agg
    unfold Value.formed
    have hl := okLeaves_len hz
    have hs := E.size
    split at hA <;> rename_i hu
    · simp [hu, hs, hl]
    · simp [hu, hs, hl]
    · cases hA
  have hiff : lx = ly ↔ xs = ys := by
    constructor
    · intro e
      rw [cells_of_lits 12 t E.til 12 xs lx h1, cells_of_lits 12 t E.til 12 ys ly h2, e]
    · intro e
      subst e
      rw [h1] at h2
      exact Option.some.inj h2
  by_cases hxy : xs = ys
  · refine ⟨true, fun w => ?_, by simp [hxy]⟩
    obtain ⟨r, hr, hri⟩ := run_equalIn_deep (10000 - 12) 12 t E.key w 12 12 (.agg xs.toArray) (.agg ys.toArray) lx ly (fm hx) (fm hy) (by simpa [Value.cells] using h1) (by simpa [Value.cells] using h2)
    have : r = true := hri.2 (hiff.2 hxy)
    subst this
    unfold eqSem
    rw [Sem.run_bind, run_eqGuard_agg _ _ _ _ _ _ _ E.guard, Result.andThen_ok, run_eql_struct]
    rw [show 10000 - 12 + 12 = 10000 by rfl] at hr
    rw [hr]
    rfl
  · refine ⟨false, fun w => ?_, by simp [hxy]⟩
    obtain ⟨r, hr, hri⟩ := run_equalIn_deep (10000 - 12) 12 t E.key w 12 12 (.agg xs.toArray) (.agg ys.toArray) lx ly (fm hx) (fm hy) (by simpa [Value.cells] using h1) (by simpa [Value.cells] using h2)
    have : r = false := by
      cases r
      · rfl
      · exact absurd (hiff.1 (hri.1 rfl)) hxy
    subst this
    unfold eqSem
    rw [Sem.run_bind, run_eqGuard_agg _ _ _ _ _ _ _ E.guard, Result.andThen_ok, run_eql_struct]
    rw [show 10000 - 12 + 12 = 10000 by rfl] at hr
    rw [hr]
    rfl

/-- an element of an array's value -/
theorem run_index_agg {P : Program} {t e : TypeId} {n k : Nat} {i : TypeInfo} {fs : Array Field} (h : P.underlying t = some (.array n e)) (he : P.info? e = some i) (hu : P.underlying e = some (.struct fs)) (hk : P.cellsOf e = k) {cs ds : List Value} {j : Int} (h0 : 0 ≤ j) (h1 : j < n)
    (hd : (cs.drop (j.toNat * k)).take k = ds) (w : World) : (Instr.index t (.agg cs.toArray) (.int .i64 j)).run P w = .ok (.agg ds.toArray) w := by
  subst hd
  have e1 : (Instr.index t (.agg cs.toArray) (.int .i64 j)).run P w = (Go.part e cs.toArray (j.toNat * k)).run P w := by
    simp [Instr.index, run_underlying h, asIntOf, h0, h1, run_sizeOf w he, hk]
  rw [e1]
  have e2 : (Go.part e cs.toArray (j.toNat * k)).run P w = .ok (.agg (cs.toArray.extract (j.toNat * k) (j.toNat * k + k))) w := by
    simp [Go.part, isAgg, run_underlying hu, run_sizeOf w he, hk]
  rw [e2]
  congr 2
  simp [List.extract_eq_take_drop]
end Go.Sh
