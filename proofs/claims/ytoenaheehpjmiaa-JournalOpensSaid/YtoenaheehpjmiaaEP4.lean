/- Contracts of entry.Read and of the reference's.
   Conditions: none. -/
import Derived.Test.YtoenaheehpjmiaaEP3
import Derived.Test.YtoenaheehpjmiaaEC
namespace Go.Sh
open Go
set_option linter.unusedSimpArgs false
set_option linter.unusedVariables false
set_option maxHeartbeats 2000000

def entOf (l : List Int) : G_api_Entry := ⟨l.getD 0 0, l.getD 1 0, l.getD 2 0, l.getD 3 0, l.getD 4 0, l.getD 5 0, l.getD 6 0, l.getD 7 0, l.getD 8 0⟩
def eCells (l : List Int) : List Value := (List.range 9).map fun i => .int .i64 (l.getD i 0)
theorem entOf_cells (l : List Int) : (entOf l).cells = eCells l := rfl
theorem eCells_len (l : List Int) : (eCells l).length = 9 := by simp [eCells]
theorem eCells_set {l : List Int} {n : Int} (h : l.length < 9) : lspl (eCells l) l.length [.int .i64 n] = eCells (l ++ [n]) := by
  show (eCells l).set l.length (.int .i64 n) = _
  apply List.ext_getElem?
  intro i
  rw [List.getElem?_set]
  simp only [eCells, List.length_map, List.length_range, List.getElem?_map, List.getElem?_range, List.getD_eq_getElem?_getD]
  by_cases h1 : l.length = i
  · subst h1
    simp [h]
  · rw [if_neg h1]
    rcases Nat.lt_or_ge i 9 with h9 | h9
    · rw [List.getElem?_range h9]
      simp only [Option.map_some]
      congr 2
      rcases Nat.lt_or_ge i l.length with h2 | h2
      · rw [List.getElem?_append_left h2]
      · rw [List.getElem?_eq_none h2, List.getElem?_eq_none (by simp; omega)]
    · rw [List.getElem?_eq_none (by simp; omega)]; rfl
theorem entOf_flds (e : G_api_Entry) : entOf (flds e) = e := rfl
theorem flds_entOf {l : List Int} (h : l.length = 9) : flds (entOf l) = l := by
  match l, h with
  | [a, b, c, d, e, f, g, i, j], _ => rfl

def zeroE : G_api_Entry := ⟨0, 0, 0, 0, 0, 0, 0, 0, 0⟩
/-- what Read answers -/
def eRd (bs : List UInt8) : G_api_Entry × Nat × Int :=
  if (rdA 9 [] 0 bs).2.2 = 0 then (if okP (entOf (rdA 9 [] 0 bs).1) 32 16 4 30 then (entOf (rdA 9 [] 0 bs).1, (rdA 9 [] 0 bs).2.1, 0) else (zeroE, 0, 18)) else (zeroE, 0, (rdA 9 [] 0 bs).2.2)
def eRdV (bs : List UInt8) : Value := .tuple #[.agg (List.toArray (eRd bs).1.cells), .int .i64 ((eRd bs).2.1 : Nat), .int .i64 (eRd bs).2.2]
theorem eRdV_of {bs : List UInt8} {e : G_api_Entry} {n : Nat} {k : Int} (h : eRd bs = (e, n, k)) : eRdV bs = .tuple #[.agg (List.toArray e.cells), .int .i64 (n : Int), .int .i64 k] := by unfold eRdV; rw [h]

theorem rdA_step {m : Nat} {l : List Int} {a : Nat} {bs : List UInt8} (h : (tkI bs).2.2 = 0) : rdA (m + 1) l a bs = rdA m (l ++ [(tkI bs).1]) (a + (tkI bs).2.1) (bs.drop (tkI bs).2.1) := by rw [rdA, if_pos h]
theorem rdA_stop {m : Nat} {l : List Int} {a : Nat} {bs : List UInt8} (h : (tkI bs).2.2 ≠ 0) : rdA (m + 1) l a bs = ([], 0, (tkI bs).2.2) := by rw [rdA, if_neg h]

theorem entry_Read_spec {w : World} {s : Sl} {bs : List UInt8} (hr : Rd byteC 1 w s bs) (hcap : s.n ≤ s.c) (hlt : ∀ b, s.on b → b < w.heap.size) (hl : bs.length ≤ 1000000) : Spec PP n_entry_Read [.slice s.a s.n s.c] w noB (fun v _ => v = eRdV bs) := by
  refine entry_Read_calls s _ w ?_
  unfold F_entry_Read
  have T : Now noB w w := Now.refl
  have hn := hr.1
  intro b2 hb2
  refine Reb.A T Anc.start (fun w1 T t => ?_)
  unfold C_entry_Read_1
  refine NewL.A T Anc.start (fun be w2 T t he le => ?_)
  have hne : be ≠ b2 := by have := le.2.2.2; simp [blk] at this; exact this
  have hge := le.1
  refine Reb.A T Anc.start (fun w3 T t => ?_)
  replace he : Blk w3 be (eCells []) t_api_Entry := he.tr t (by simp [blk, hne])
  unfold C_entry_Read_2
  refine Reb.A T Anc.start (fun w3 T t => ?_)
  replace he := he.tr t (by simp [blk, hne])
  unfold C_entry_Read_3
  refine CallL.vA T Anc.start (fun wa _ _ => entry_places_spec be wa) (fun w4 T t => ⟨_, rfl, ?_⟩)
  replace he := he.tr t (by simp [blk, hne])
  refine Reb.A T Anc.start (fun w5 T t => ?_)
  replace he := he.tr t (by simp [blk, hne])
  unfold C_entry_Read_5
  refine LoopC.mk (fun x w' => ∃ (m a : Nat) (l : List Int), x.2.2 = (m : Int) ∧ m ≤ 9 ∧ l.length = m ∧ x.2.1 = (a : Int) ∧ a ≤ bs.length ∧ Now noB w w' ∧ Blk w' be (eCells l) t_api_Entry ∧ rdA 9 [] 0 bs = rdA (9 - m) l a (bs.drop a)) (fun x => 9 - x.2.2.toNat) ?_ ?_
  · exact Reb.A T Anc.start (fun w6 T t => ⟨0, 0, [], rfl, by omega, rfl, rfl, by omega, T, he.tr t (by simp [blk, hne]), rfl⟩)
  · rintro ⟨v2, x, i⟩ wb ⟨m, a, l, hi, hm, hlm, hx, ha, T, he, hR⟩
    simp only at hi hx
    subst hi
    subst hx
    unfold L_entry_Read_6
    dsimp only
    unfold B_entry_Read_6
    refine ifbd (fun h => ?_) (fun h => ?_)
    · have hm9 : m < 9 := by omega
      obtain ⟨inf, hinf⟩ : ∃ i, PP.info? t_p_i64 = some i := Option.isSome_iff_exists.1 (by kernel_rfl)
      have hat : ∃ p : Addr, (G_ar9_p_i64.cells ⟨some ⟨be, 0, none⟩, some (addA ⟨be, 0, none⟩ 1), some (addA ⟨be, 0, none⟩ 2), some (addA ⟨be, 0, none⟩ 3), some (addA ⟨be, 0, none⟩ 4), some (addA ⟨be, 0, none⟩ 5), some (addA ⟨be, 0, none⟩ 6), some (addA ⟨be, 0, none⟩ 7), some (addA ⟨be, 0, none⟩ 8)⟩)[m]? = some (.pointer (some p)) ∧ p = ⟨be, m, none⟩ := by
        rcases (by omega : m = 0 ∨ m = 1 ∨ m = 2 ∨ m = 3 ∨ m = 4 ∨ m = 5 ∨ m = 6 ∨ m = 7 ∨ m = 8) with rfl | rfl | rfl | rfl | rfl | rfl | rfl | rfl | rfl <;> exact ⟨_, rfl, rfl⟩
      obtain ⟨p, hp1, rfl⟩ := hat
      refine ⟨some ⟨be, m, none⟩, fun wr => run_index_ptr (e' := 3) (by kernel_rfl) hinf (by kernel_rfl) (by kernel_rfl) (by omega) (by omega) (by rw [Int.toNat_natCast]; exact hp1) wr, by omega, by omega, ?_⟩
      have hrd : ∀ {w'}, Now noB w w' → Rd byteC 1 w' ⟨slA s.a s.c ((a : Int).toNat) 1, s.n - ((a : Int).toNat), s.c - ((a : Int).toNat)⟩ (bs.drop a) := fun T => (hr.tr T.t (by simp [noB])).drop (i := a) ha hcap
      have hbl : (bs.drop a).length ≤ 1000000000 := by rw [List.length_drop]; omega
      have hspec : ∀ wa, Now noB w wa → Spec PP n_wire_TakeInt [.slice (slA s.a s.c ((a : Int).toNat) 1) (s.n - ((a : Int).toNat)) (s.c - ((a : Int).toNat))] wa noB (fun v _ => v = tkV (bs.drop a)) := fun wa T => wire_TakeInt_spec (s := ⟨slA s.a s.c ((a : Int).toNat) 1, s.n - ((a : Int).toNat), s.c - ((a : Int).toNat)⟩) (hrd T) hbl
      refine CallL.vA T Anc.start (fun wa T _ => hspec wa T) (fun w6 T t => ⟨(tkI (bs.drop a)).1, ((tkI (bs.drop a)).2.1 : Nat), (tkI (bs.drop a)).2.2, rfl, ?_⟩)
      replace he := he.tr t (by simp [blk, hne])
      have hlen := tkI_len (bs := bs.drop a)
      rw [List.length_drop] at hlen
      refine ifbnd (fun h0 => ?_) (fun h0 => ?_)
      · refine Reb.A T Anc.start (fun w7 T t => ⟨T.t, ?_⟩)
        rw [show 9 - m = (8 - m) + 1 by omega, rdA_stop h0] at hR
        exact (eRdV_of (e := zeroE) (n := 0) (by unfold eRd; rw [hR]; simp only [if_neg h0])).symm
      · refine nilL ⟨he.room (by rw [eCells_len]; simp; omega), by simp [hne], ?_⟩
        rw [show 9 - m = (8 - m) + 1 by omega, rdA_step h0, List.drop_drop] at hR
        have T := T.putC (p := ⟨be, m, none⟩) (cs := [.int .i64 (tkI (bs.drop a)).1]) (fun hl => by simp at hl; omega)
        have he2 := he.putC m [.int .i64 (tkI (bs.drop a)).1]
        rw [← hlm, eCells_set (by omega), hlm] at he2
        refine Reb.A T Anc.start (fun w7 T t => ?_)
        have step : IntKind.i64.wrap ((m : Int) + 1) = ((m + 1 : Nat) : Int) := by rw [wrap_i64 (by omega) (by omega)]; simp
        have stepa : IntKind.i64.wrap ((a : Int) + ((tkI (bs.drop a)).2.1 : Nat)) = ((a + (tkI (bs.drop a)).2.1 : Nat) : Int) := by rw [wrap_i64 (by omega) (by omega)]; simp
        refine ⟨rfl, ⟨m + 1, a + (tkI (bs.drop a)).2.1, l ++ [(tkI (bs.drop a)).1], step, by omega, by simp [hlm], stepa, by omega, T, he2.tr t (by simp [blk, hne]), ?_⟩, by simp only [step]; omega⟩
        rw [hR, show 9 - (m + 1) = 8 - m by omega]
    · have h9 : m = 9 := by omega
      subst h9
      refine Reb.A T Anc.start (fun w6 T t => ?_)
      replace he := he.tr t (by simp [blk, hne])
      unfold C_entry_Read_4
      rw [Nat.sub_self, rdA] at hR
      refine ⟨entOf l, he.at 0 rfl, by simp [hne], ?_⟩
      refine CallL.vA T Anc.start (fun wa _ _ => entry_Shape_spec _ wa) (fun w7 T t => ⟨_, rfl, ?_⟩)
      replace he := he.tr t (by simp [blk, hne])
      refine ifbnd (fun h0 => ?_) (fun h0 => ?_)
      · refine Reb.A T Anc.start (fun w7 T t => ⟨T.t, ?_⟩)
        exact (eRdV_of (e := zeroE) (n := 0) (by unfold eRd; rw [hR]; simp only [if_true, if_neg h0])).symm
      · refine ⟨entOf l, he.at 0 rfl, by simp [hne], ?_⟩
        refine Reb.A T Anc.start (fun w7 T t => ⟨T.t, ?_⟩)
        exact (eRdV_of (e := entOf l) (n := a) (by unfold eRd; rw [hR]; simp only [if_true, if_pos h0])).symm

theorem ref06_Read_spec {w : World} {s : Sl} {bs : List UInt8} (hr : Rd byteC 1 w s bs) (hcap : s.n ≤ s.c) (hlt : ∀ b, s.on b → b < w.heap.size) (hl : bs.length ≤ 1000000) : Spec PP n_cellplaneref06_Read [.slice s.a s.n s.c] w noB (fun v _ => v = eRdV bs) := by
  refine cellplaneref06_Read_calls s _ w ?_
  unfold F_cellplaneref06_Read
  have T : Now noB w w := Now.refl
  have hn := hr.1
  intro b2 hb2
  refine Reb.A T Anc.start (fun w1 T t => ?_)
  unfold C_cellplaneref06_Read_1
  refine NewL.A T Anc.start (fun be w2 T t he le => ?_)
  have hne : be ≠ b2 := by have := le.2.2.2; simp [blk] at this; exact this
  have hge := le.1
  refine Reb.A T Anc.start (fun w3 T t => ?_)
  replace he : Blk w3 be (eCells []) t_ar9_i64 := he.tr t (by simp [blk, hne])
  unfold C_cellplaneref06_Read_2
  refine Reb.A T Anc.start (fun w3 T t => ?_)
  replace he := he.tr t (by simp [blk, hne])
  unfold C_cellplaneref06_Read_3
  refine Reb.A T Anc.start (fun w5 T t => ?_)
  replace he := he.tr t (by simp [blk, hne])
  unfold C_cellplaneref06_Read_5
  refine LoopC.mk (fun x w' => ∃ (m a : Nat) (l : List Int), x.2.2 = (m : Int) ∧ m ≤ 9 ∧ l.length = m ∧ x.2.1 = (a : Int) ∧ a ≤ bs.length ∧ Now noB w w' ∧ Blk w' be (eCells l) t_ar9_i64 ∧ rdA 9 [] 0 bs = rdA (9 - m) l a (bs.drop a)) (fun x => 9 - x.2.2.toNat) ?_ ?_
  · exact Reb.A T Anc.start (fun w6 T t => ⟨0, 0, [], rfl, by omega, rfl, rfl, by omega, T, he.tr t (by simp [blk, hne]), rfl⟩)
  · rintro ⟨v2, x, i⟩ wb ⟨m, a, l, hi, hm, hlm, hx, ha, T, he, hR⟩
    simp only at hi hx
    subst hi
    subst hx
    unfold L_cellplaneref06_Read_6
    dsimp only
    unfold B_cellplaneref06_Read_6
    refine ifbd (fun h => ?_) (fun h => ?_)
    · have hm9 : m < 9 := by omega
      refine ⟨by omega, by omega, ?_⟩
      have hrd : ∀ {w'}, Now noB w w' → Rd byteC 1 w' ⟨slA s.a s.c ((a : Int).toNat) 1, s.n - ((a : Int).toNat), s.c - ((a : Int).toNat)⟩ (bs.drop a) := fun T => (hr.tr T.t (by simp [noB])).drop (i := a) ha hcap
      have hbl : (bs.drop a).length ≤ 1000000000 := by rw [List.length_drop]; omega
      have hspec : ∀ wa, Now noB w wa → Spec PP n_cellplaneref01_TakeInt [.slice (slA s.a s.c ((a : Int).toNat) 1) (s.n - ((a : Int).toNat)) (s.c - ((a : Int).toNat))] wa noB (fun v _ => v = tkV (bs.drop a)) := fun wa T => ref01_TakeInt_spec (s := ⟨slA s.a s.c ((a : Int).toNat) 1, s.n - ((a : Int).toNat), s.c - ((a : Int).toNat)⟩) (hrd T) hbl
      refine CallL.vA T Anc.start (fun wa T _ => hspec wa T) (fun w6 T t => ⟨(tkI (bs.drop a)).1, ((tkI (bs.drop a)).2.1 : Nat), (tkI (bs.drop a)).2.2, rfl, ?_⟩)
      replace he := he.tr t (by simp [blk, hne])
      have hlen := tkI_len (bs := bs.drop a)
      rw [List.length_drop] at hlen
      refine ifbnd (fun h0 => ?_) (fun h0 => ?_)
      · refine Reb.A T Anc.start (fun w7 T t => ⟨T.t, ?_⟩)
        rw [show 9 - m = (8 - m) + 1 by omega, rdA_stop h0] at hR
        exact (eRdV_of (e := zeroE) (n := 0) (by unfold eRd; rw [hR]; simp only [if_neg h0])).symm
      · have ead : (⟨be, 0, none⟩ : Addr).add ((m : Int).toNat * 1) = ⟨be, m, none⟩ := by rw [add_plain, Int.toNat_natCast]; simp
        refine ⟨by omega, by omega, ?_⟩
        rw [ead]
        refine ⟨he.room (by rw [eCells_len]; simp; omega), by simp [hne], ?_⟩
        rw [show 9 - m = (8 - m) + 1 by omega, rdA_step h0, List.drop_drop] at hR
        have T := T.putC (p := ⟨be, m, none⟩) (cs := [.int .i64 (tkI (bs.drop a)).1]) (fun hl => by simp at hl; omega)
        have he2 := he.putC m [.int .i64 (tkI (bs.drop a)).1]
        rw [← hlm, eCells_set (by omega), hlm] at he2
        refine Reb.A T Anc.start (fun w7 T t => ?_)
        have step : IntKind.i64.wrap ((m : Int) + 1) = ((m + 1 : Nat) : Int) := by rw [wrap_i64 (by omega) (by omega)]; simp
        have stepa : IntKind.i64.wrap ((a : Int) + ((tkI (bs.drop a)).2.1 : Nat)) = ((a + (tkI (bs.drop a)).2.1 : Nat) : Int) := by rw [wrap_i64 (by omega) (by omega)]; simp
        refine ⟨rfl, ⟨m + 1, a + (tkI (bs.drop a)).2.1, l ++ [(tkI (bs.drop a)).1], step, by omega, by simp [hlm], stepa, by omega, T, he2.tr t (by simp [blk, hne]), ?_⟩, by simp only [step]; omega⟩
        rw [hR, show 9 - (m + 1) = 8 - m by omega]
    · have h9 : m = 9 := by omega
      subst h9
      refine Reb.A T Anc.start (fun w6 T t => ?_)
      replace he := he.tr t (by simp [blk, hne])
      unfold C_cellplaneref06_Read_4
      rw [Nat.sub_self, rdA] at hR
      have hcell : ∀ j : Nat, j < 9 → At w6 ((⟨be, 0, none⟩ : Addr).add (((j : Nat) : Int).toNat * 1)) [.int .i64 (l.getD j 0)] := by
        intro j hj
        rw [add_plain]
        refine he.at' (fun i v hv => ?_)
        match i, hv with
        | 0, hv =>
          simp only [List.getElem?_cons_zero, Option.some.injEq] at hv
          subst hv
          simp [eCells, hj]
        | i + 1, hv => simp at hv
      have hni : ∀ j : Nat, NotIn ((⟨be, 0, none⟩ : Addr).add j).block [⟨b2, v2.cells, t_api_Entry⟩] := by
        intro j; rw [add_plain]; simp [hne]
      refine ⟨by decide, by decide, _, hcell 0 (by omega), hni _, by decide, by decide, _, hcell 1 (by omega), hni _, by decide, by decide, _, hcell 2 (by omega), hni _, by decide, by decide, _, hcell 3 (by omega), hni _, by decide, by decide, _, hcell 4 (by omega), hni _, by decide, by decide, _, hcell 5 (by omega), hni _, by decide, by decide, _, hcell 6 (by omega), hni _, by decide, by decide, _, hcell 7 (by omega), hni _, by decide, by decide, _, hcell 8 (by omega), hni _, ?_⟩
      intro b10 hb10
      refine CallL.vA T Anc.start (fun wa _ _ => ref06_Shape_spec _ wa) (fun w7 T t => ⟨_, rfl, ?_⟩)
      refine ifbnd (fun h0 => ?_) (fun h0 => ?_)
      · refine Reb.A T Anc.start (fun w7 T t => ⟨T.t, ?_⟩)
        exact (eRdV_of (e := zeroE) (n := 0) (by unfold eRd; rw [hR]; simp only [if_true]; exact if_neg h0)).symm
      · refine Reb.A T Anc.start (fun w7 T t => ⟨T.t, ?_⟩)
        exact (eRdV_of (e := entOf l) (n := a) (by unfold eRd; rw [hR]; simp only [if_true]; exact if_pos h0)).symm

end Go.Sh
