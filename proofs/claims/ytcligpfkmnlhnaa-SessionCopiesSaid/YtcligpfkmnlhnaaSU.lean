/- The law of the copies.
   Conditions: none. -/
import Derived.Test.YtcligpfkmnlhnaaST
namespace Go.Sh
open Go
set_option linter.unusedSimpArgs false
set_option linter.unusedVariables false
set_option maxHeartbeats 4000000

def histT (xs : List Int) : Tab := (tfold tab0 (histM xs)).1
theorem hist_facts (xs : List Int) : tfold tab0 (histM xs) = (histT xs, (histM xs).length, 0) ∧ TabOk (histT xs) ∧ TabW (histT xs) ∧ (histM xs).length ≤ 60 := by
  obtain ⟨t, h1, h2, h3⟩ := hist_ok xs
  have e : histT xs = t := by unfold histT; rw [h2]
  refine ⟨by rw [e]; exact h2, by rw [e]; exact h1, tfold_w tab0_w, h3⟩

section
variable {N : Nat} {w w0 : World} {L : List LB} {S0 : Nat → Prop} {l : Sl} {xs : List Int} {R : Value → World → Prop}

theorem hist_A (T : Now S0 w0 w) (hA : Anc S0 w0 N L) (hr : ∀ wa, Now S0 w0 wa → Rd intC 1 wa l xs ∧ ∀ c, l.on c → c < wa.heap.size) (hl : xs.length ≤ 1000000)
    (k : ∀ (h : Sl) w', Now S0 w0 w' → Touch (fun i => i ∈ blk L) w w' → Ro chC 8 w' h (histM xs) → (∀ i, h.on i → w.heap.size ≤ i ∧ i < w'.heap.size ∧ i ∉ blk L) → R (.slice h.a h.n h.c) w') :
    CallL PP N w L n_cellplanemill_History [.slice l.a l.n l.c] R := by
  refine CallL.pA T hA (fun wa Ta _ => mill_History_spec (hr wa Ta).1 hl (hr wa Ta).2) ?_
  rintro wa v w' T t z1 z2 zl ⟨h, rfl, hH, hh⟩
  exact k h w' T t hH (fun i hi => ⟨by have := hh i hi; omega, hH.lt i hi, fun hm => by have := zl i hm; have := hh i hi; omega⟩)

theorem hist_fold (T : Now S0 w0 w) (hA : Anc S0 w0 N L) (hr : ∀ wa, Now S0 w0 wa → Rd intC 1 wa l xs ∧ ∀ c, l.on c → c < wa.heap.size) (hl : xs.length ≤ 1000000)
    (k : ∀ b w', Now S0 w0 w' → Touch (fun i => i ∈ blk L) w w' → w.heap.size ≤ b → b ∉ blk L → TabAt w' b (histT xs) → R (foldV (histT xs, (histM xs).length, 0) (some ⟨b, 0, none⟩)) w') :
    CallL PP N w L n_cellplanemill_History [.slice l.a l.n l.c] fun r w' => ∃ h : Sl, r = .slice h.a h.n h.c ∧ CallL PP N w' L n_session_Fold [.slice h.a h.n h.c] R := by
  refine hist_A T hA hr hl (fun h w1 T t hH hh => ⟨h, rfl, ?_⟩)
  obtain ⟨h1, h2, h3, h4⟩ := hist_facts xs
  refine CallL.pA T hA (fun wa Ta ta => session_Fold_spec (hH.rd.tr ta (fun i hi => (hh i hi).2.2)) (by omega)) ?_
  rintro wa v w2 T t2 z1 z2 zl (⟨he, _⟩ | ⟨_, b, hb, rfl, hT⟩)
  · rw [h1] at he; exact absurd rfl he
  · rw [h1]
    have zt := t.size
    exact k b w2 T (t.comp t2 (fun _ _ h => h)) (by omega) (fun hm => by have := zl b hm; omega) (by rw [h1] at hT; exact hT)

theorem hist_rfold (T : Now S0 w0 w) (hA : Anc S0 w0 N L) (hr : ∀ wa, Now S0 w0 wa → Rd intC 1 wa l xs ∧ ∀ c, l.on c → c < wa.heap.size) (hl : xs.length ≤ 1000000)
    (k : ∀ b w', Now S0 w0 w' → Touch (fun i => i ∈ blk L) w w' → w.heap.size ≤ b → b ∉ blk L → RTabAt w' b (histT xs) → R (foldV (histT xs, (histM xs).length, 0) (some ⟨b, 0, none⟩)) w') :
    CallL PP N w L n_cellplanemill_History [.slice l.a l.n l.c] fun r w' => ∃ h : Sl, r = .slice h.a h.n h.c ∧ CallL PP N w' L n_cellplaneref26_Fold [.slice h.a h.n h.c] R := by
  refine hist_A T hA hr hl (fun h w1 T t hH hh => ⟨h, rfl, ?_⟩)
  obtain ⟨h1, h2, h3, h4⟩ := hist_facts xs
  refine CallL.pA T hA (fun wa Ta ta => ref26_Fold_spec (hH.rd.tr ta (fun i hi => (hh i hi).2.2)) (by omega)) ?_
  rintro wa v w2 T t2 z1 z2 zl (⟨he, _⟩ | ⟨_, b, hb, rfl, hT⟩)
  · rw [h1] at he; exact absurd rfl he
  · rw [h1]
    have zt := t.size
    exact k b w2 T (t.comp t2 (fun _ _ h => h)) (by omega) (fun hm => by have := zl b hm; omega) (by rw [h1] at hT; exact hT)
end

theorem bool_iff {a b : Bool} {p : Prop} (ha : a = true ↔ p) (hb : b = true ↔ p) : a = b := by
  cases a <;> cases b <;> simp_all

theorem SessionCopies_spec {w : World} {s1 s2 : Sl} {xs ys : List Int} (hx : Rd intC 1 w s1 xs) (lx : ∀ c, s1.on c → c < w.heap.size) (hy : Rd intC 1 w s2 ys) (ly : ∀ c, s2.on c → c < w.heap.size) (x : G_api_Change) :
    Spec PP n_cellplanelaw26_SessionCopies [.slice s1.a s1.n s1.c, .slice s2.a s2.n s2.c, .agg (List.toArray x.cells)] w noB (fun v _ => v = .bool true) := by
  refine cellplanelaw26_SessionCopies_calls s1 s2 x _ w ?_
  unfold F_cellplanelaw26_SessionCopies
  have T : Now noB w w := Now.refl
  have hl1 := hx.1
  have hl2 := hy.1
  have px : ∀ wa, Now noB w wa → Rd intC 1 wa s1 xs ∧ ∀ c, s1.on c → c < wa.heap.size := fun wa Ta => ⟨hx.tr Ta.t (by simp), fun c hc => Nat.lt_of_lt_of_le (lx c hc) Ta.t.size⟩
  have py : ∀ wa, Now noB w wa → Rd intC 1 wa s2 ys ∧ ∀ c, s2.on c → c < wa.heap.size := fun wa Ta => ⟨hy.tr Ta.t (by simp), fun c hc => Nat.lt_of_lt_of_le (ly c hc) Ta.t.size⟩
  intro b95 l95
  refine Reb.A T Anc.start (fun w1 T _ => ?_)
  unfold C_cellplanelaw26_SessionCopies_1
  refine CallL.vA T Anc.start (fun wa _ _ => awake26_spec wa) (fun w2 T t => ⟨_, rfl, ?_⟩)
  refine ifbn (fun h => by cases h) (fun _ => ?_)
  refine Reb.A T Anc.start (fun w3 T _ => ?_)
  unfold C_cellplanelaw26_SessionCopies_2
  refine CallL.vA T Anc.start (fun wa _ _ => mill_Light_spec s1 wa) (fun w4 T t => ⟨_, rfl, ?_⟩)
  refine ifbn (fun h => Reb.A T Anc.start (fun w5 T t => ⟨T.t, rfl⟩)) (fun hli => ?_)
  refine CallL.vA T Anc.start (fun wa _ _ => mill_Light_spec s2 wa) (fun w5 T t => ⟨_, rfl, ?_⟩)
  refine ifbn (fun h => Reb.A T Anc.start (fun w5 T t => ⟨T.t, rfl⟩)) (fun hli2 => ?_)
  refine CallL.vA T Anc.start (fun wa _ _ => mill_Short_spec x wa) (fun w6 T t => ⟨_, rfl, ?_⟩)
  refine ifbn (fun h => Reb.A T Anc.start (fun w5 T t => ⟨T.t, rfl⟩)) (fun _ => ?_)
  have hle1 : s1.n ≤ 150 := by simpa using hli
  have hle2 : s2.n ≤ 150 := by simpa using hli2
  obtain ⟨f1, f2, f3, f4⟩ := hist_facts xs
  obtain ⟨g1, g2, g3, g4⟩ := hist_facts ys
  refine Reb.A T Anc.start (fun w7 T _ => ?_)
  unfold C_cellplanelaw26_SessionCopies_3
  have zN := T.t.size
  refine hist_fold T Anc.start px (by omega) (fun ba w8 T t za na hA => ⟨_, _, _, rfl, ?_⟩)
  have la := Blk.lt hA
  refine Reb.A T Anc.start (fun w9 T t => ?_)
  replace hA := hA.tr t (by intro c_ hc_; (try simp only [mem_blk_cons, mem_blk_nil, or_false, false_or] at hc_ ⊢); grind [mem_blk_cons, mem_blk_nil])
  have zt := t.size
  unfold C_cellplanelaw26_SessionCopies_4
  refine hist_fold T Anc.start py (by omega) (fun bb w10 T t zb nb hB => ⟨_, _, _, rfl, ?_⟩)
  have lb := Blk.lt hB
  replace hA := hA.tr t (by intro c_ hc_; (try simp only [mem_blk_cons, mem_blk_nil, or_false, false_or] at hc_ ⊢); grind [mem_blk_cons, mem_blk_nil])
  have zt := t.size
  refine Reb.A T Anc.start (fun w11 T t => ?_)
  replace hA := hA.tr t (by intro c_ hc_; (try simp only [mem_blk_cons, mem_blk_nil, or_false, false_or] at hc_ ⊢); grind [mem_blk_cons, mem_blk_nil])
  replace hB := hB.tr t (by intro c_ hc_; (try simp only [mem_blk_cons, mem_blk_nil, or_false, false_or] at hc_ ⊢); grind [mem_blk_cons, mem_blk_nil])
  have zt := t.size
  unfold C_cellplanelaw26_SessionCopies_5
  refine hist_rfold T Anc.start px (by omega) (fun bv w12 T t zv nv hV => ⟨_, _, _, rfl, ?_⟩)
  have lv := Blk.lt hV
  replace hA := hA.tr t (by intro c_ hc_; (try simp only [mem_blk_cons, mem_blk_nil, or_false, false_or] at hc_ ⊢); grind [mem_blk_cons, mem_blk_nil])
  replace hB := hB.tr t (by intro c_ hc_; (try simp only [mem_blk_cons, mem_blk_nil, or_false, false_or] at hc_ ⊢); grind [mem_blk_cons, mem_blk_nil])
  have zt := t.size
  refine Reb.A T Anc.start (fun w13 T t => ?_)
  replace hA := hA.tr t (by intro c_ hc_; (try simp only [mem_blk_cons, mem_blk_nil, or_false, false_or] at hc_ ⊢); grind [mem_blk_cons, mem_blk_nil])
  replace hB := hB.tr t (by intro c_ hc_; (try simp only [mem_blk_cons, mem_blk_nil, or_false, false_or] at hc_ ⊢); grind [mem_blk_cons, mem_blk_nil])
  replace hV := hV.tr t (by intro c_ hc_; (try simp only [mem_blk_cons, mem_blk_nil, or_false, false_or] at hc_ ⊢); grind [mem_blk_cons, mem_blk_nil])
  have zt := t.size
  unfold C_cellplanelaw26_SessionCopies_6
  refine hist_rfold T Anc.start py (by omega) (fun bw w14 T t zw nw hW => ⟨_, _, _, rfl, ?_⟩)
  have lw := Blk.lt hW
  replace hA := hA.tr t (by intro c_ hc_; (try simp only [mem_blk_cons, mem_blk_nil, or_false, false_or] at hc_ ⊢); grind [mem_blk_cons, mem_blk_nil])
  replace hB := hB.tr t (by intro c_ hc_; (try simp only [mem_blk_cons, mem_blk_nil, or_false, false_or] at hc_ ⊢); grind [mem_blk_cons, mem_blk_nil])
  replace hV := hV.tr t (by intro c_ hc_; (try simp only [mem_blk_cons, mem_blk_nil, or_false, false_or] at hc_ ⊢); grind [mem_blk_cons, mem_blk_nil])
  have zt := t.size
  refine Reb.A T Anc.start (fun w15 T t => ?_)
  replace hA := hA.tr t (by intro c_ hc_; (try simp only [mem_blk_cons, mem_blk_nil, or_false, false_or] at hc_ ⊢); grind [mem_blk_cons, mem_blk_nil])
  replace hB := hB.tr t (by intro c_ hc_; (try simp only [mem_blk_cons, mem_blk_nil, or_false, false_or] at hc_ ⊢); grind [mem_blk_cons, mem_blk_nil])
  replace hV := hV.tr t (by intro c_ hc_; (try simp only [mem_blk_cons, mem_blk_nil, or_false, false_or] at hc_ ⊢); grind [mem_blk_cons, mem_blk_nil])
  replace hW := hW.tr t (by intro c_ hc_; (try simp only [mem_blk_cons, mem_blk_nil, or_false, false_or] at hc_ ⊢); grind [mem_blk_cons, mem_blk_nil])
  have zt := t.size
  unfold C_cellplanelaw26_SessionCopies_7
  refine ifb (fun h => by cases h) (fun _ => ?_)
  refine ifb (fun h => by cases h) (fun _ => ?_)
  refine CallL.pA T Anc.start (fun wa _ t => session_Same_spec (hA.tr t (by intro c_ hc_; (try simp only [mem_blk_cons, mem_blk_nil, or_false, false_or] at hc_ ⊢); grind [mem_blk_cons, mem_blk_nil])) (hB.tr t (by intro c_ hc_; (try simp only [mem_blk_cons, mem_blk_nil, or_false, false_or] at hc_ ⊢); grind [mem_blk_cons, mem_blk_nil])) f2 g2 f3 g3) ?_
  rintro wa v w16 T t _ _ _ ⟨e1, rfl, he1⟩
  refine ⟨_, rfl, ?_⟩
  replace hA := hA.tr t (by intro c_ hc_; (try simp only [mem_blk_cons, mem_blk_nil, or_false, false_or] at hc_ ⊢); grind [mem_blk_cons, mem_blk_nil])
  replace hB := hB.tr t (by intro c_ hc_; (try simp only [mem_blk_cons, mem_blk_nil, or_false, false_or] at hc_ ⊢); grind [mem_blk_cons, mem_blk_nil])
  replace hV := hV.tr t (by intro c_ hc_; (try simp only [mem_blk_cons, mem_blk_nil, or_false, false_or] at hc_ ⊢); grind [mem_blk_cons, mem_blk_nil])
  replace hW := hW.tr t (by intro c_ hc_; (try simp only [mem_blk_cons, mem_blk_nil, or_false, false_or] at hc_ ⊢); grind [mem_blk_cons, mem_blk_nil])
  have zt := t.size
  refine CallL.pA T Anc.start (fun wa _ t => ref26_Same_spec (hV.tr t (by intro c_ hc_; (try simp only [mem_blk_cons, mem_blk_nil, or_false, false_or] at hc_ ⊢); grind [mem_blk_cons, mem_blk_nil])) (hW.tr t (by intro c_ hc_; (try simp only [mem_blk_cons, mem_blk_nil, or_false, false_or] at hc_ ⊢); grind [mem_blk_cons, mem_blk_nil])) f2 g2 f3 g3) ?_
  rintro wa2 v w17 T t _ _ _ ⟨e2, rfl, he2⟩
  refine ⟨_, rfl, ?_⟩
  replace hA := hA.tr t (by intro c_ hc_; (try simp only [mem_blk_cons, mem_blk_nil, or_false, false_or] at hc_ ⊢); grind [mem_blk_cons, mem_blk_nil])
  replace hV := hV.tr t (by intro c_ hc_; (try simp only [mem_blk_cons, mem_blk_nil, or_false, false_or] at hc_ ⊢); grind [mem_blk_cons, mem_blk_nil])
  have zt := t.size
  refine ifbn (fun h => by rw [bool_iff he1 he2] at h; simp at h) (fun _ => ?_)
  refine Reb.A T Anc.start (fun w18 T t => ?_)
  replace hA := hA.tr t (by intro c_ hc_; (try simp only [mem_blk_cons, mem_blk_nil, or_false, false_or] at hc_ ⊢); grind [mem_blk_cons, mem_blk_nil])
  replace hV := hV.tr t (by intro c_ hc_; (try simp only [mem_blk_cons, mem_blk_nil, or_false, false_or] at hc_ ⊢); grind [mem_blk_cons, mem_blk_nil])
  have zt := t.size
  unfold C_cellplanelaw26_SessionCopies_8
  have nine : ∀ w19 bc bu, Now noB w w19 → TabAt w19 ba (histT xs) → RTabAt w19 bv (histT xs) → TabAt w19 bc (histT xs) → RTabAt w19 bu (histT xs) → w18.heap.size ≤ bc → w18.heap.size ≤ bu → bc ≠ bu → bc ∉ blk [⟨b95, x.cells, t_api_Change⟩] → bu ∉ blk [⟨b95, x.cells, t_api_Change⟩] →
      C_cellplanelaw26_SessionCopies_9 w.heap.size (fun v w' => Touch noB w w' ∧ v = .bool true) b95 x t_api_Change (some ⟨ba, 0, none⟩) (some ⟨bv, 0, none⟩) (some ⟨bc, 0, none⟩) ⟨bu, 0, none⟩ w19 := by
    intro w19 bc bu T hA hV hC hU zc zu hcu nc nu
    have lA := Blk.lt hA
    have lV := Blk.lt hV
    have lC := Blk.lt hC
    have lU := Blk.lt hU
    have z18 : ba < w18.heap.size ∧ bv < w18.heap.size ∧ w.heap.size ≤ w18.heap.size := by
      refine ⟨?_, ?_, ?_⟩ <;> omega
    unfold C_cellplanelaw26_SessionCopies_9
    refine ifb (fun h => by cases h) (fun _ => ?_)
    refine CallL.pA T Anc.start (fun wa _ t => session_Same_spec (hA.tr t (by intro c_ hc_; (try simp only [mem_blk_cons, mem_blk_nil, or_false, false_or] at hc_ ⊢); grind [mem_blk_cons, mem_blk_nil])) (hC.tr t (by intro c_ hc_; (try simp only [mem_blk_cons, mem_blk_nil, or_false, false_or] at hc_ ⊢); grind [mem_blk_cons, mem_blk_nil])) f2 f2 f3 f3) ?_
    rintro wa v w20 T t _ _ _ ⟨e1, rfl, he1⟩
    refine ⟨_, rfl, ?_⟩
    replace hA := hA.tr t (by intro c_ hc_; (try simp only [mem_blk_cons, mem_blk_nil, or_false, false_or] at hc_ ⊢); grind [mem_blk_cons, mem_blk_nil])
    replace hV := hV.tr t (by intro c_ hc_; (try simp only [mem_blk_cons, mem_blk_nil, or_false, false_or] at hc_ ⊢); grind [mem_blk_cons, mem_blk_nil])
    replace hC := hC.tr t (by intro c_ hc_; (try simp only [mem_blk_cons, mem_blk_nil, or_false, false_or] at hc_ ⊢); grind [mem_blk_cons, mem_blk_nil])
    replace hU := hU.tr t (by intro c_ hc_; (try simp only [mem_blk_cons, mem_blk_nil, or_false, false_or] at hc_ ⊢); grind [mem_blk_cons, mem_blk_nil])
    have zt := t.size
    refine ifbn (fun h => by rw [he1.2 rfl] at h; cases h) (fun _ => ?_)
    refine CallL.A (fun i => i = bc) T Anc.start (fun i hi => ⟨by omega, by subst hi; exact nc⟩) (fun i h e => by omega) (fun wa _ t => session_Apply_spec (hC.tr t (by intro c_ hc_; (try simp only [mem_blk_cons, mem_blk_nil, or_false, false_or] at hc_ ⊢); grind [mem_blk_cons, mem_blk_nil])) f2 x) ?_
    rintro wa v w21 T t _ _ _ ⟨rfl, hC⟩
    refine ⟨_, rfl, ?_⟩
    replace hA := hA.tr t (by intro c_ hc_; (try simp only [mem_blk_cons, mem_blk_nil, or_false, false_or] at hc_ ⊢); grind [mem_blk_cons, mem_blk_nil])
    replace hV := hV.tr t (by intro c_ hc_; (try simp only [mem_blk_cons, mem_blk_nil, or_false, false_or] at hc_ ⊢); grind [mem_blk_cons, mem_blk_nil])
    replace hU := hU.tr t (by intro c_ hc_; (try simp only [mem_blk_cons, mem_blk_nil, or_false, false_or] at hc_ ⊢); grind [mem_blk_cons, mem_blk_nil])
    have zt := t.size
    refine CallL.A (fun i => i = bu) T Anc.start (fun i hi => ⟨by omega, by subst hi; exact nu⟩) (fun i h e => by omega) (fun wa _ t => ref26_Apply_spec (hU.tr t (by intro c_ hc_; (try simp only [mem_blk_cons, mem_blk_nil, or_false, false_or] at hc_ ⊢); grind [mem_blk_cons, mem_blk_nil])) f2 x) ?_
    rintro wa v w22 T t _ _ _ ⟨rfl, hU⟩
    refine ⟨_, rfl, ?_⟩
    replace hA := hA.tr t (by intro c_ hc_; (try simp only [mem_blk_cons, mem_blk_nil, or_false, false_or] at hc_ ⊢); grind [mem_blk_cons, mem_blk_nil])
    replace hV := hV.tr t (by intro c_ hc_; (try simp only [mem_blk_cons, mem_blk_nil, or_false, false_or] at hc_ ⊢); grind [mem_blk_cons, mem_blk_nil])
    replace hC := hC.tr t (by intro c_ hc_; (try simp only [mem_blk_cons, mem_blk_nil, or_false, false_or] at hc_ ⊢); grind [mem_blk_cons, mem_blk_nil])
    have zt := t.size
    refine ifbnd (fun h => absurd rfl h) (fun _ => ?_)
    have o2 := tapply_ok f2 x
    have w2 := tapply_w f3 x
    refine CallL.pA T Anc.start (fun wa _ t => session_Same_spec (hA.tr t (by intro c_ hc_; (try simp only [mem_blk_cons, mem_blk_nil, or_false, false_or] at hc_ ⊢); grind [mem_blk_cons, mem_blk_nil])) (hC.tr t (by intro c_ hc_; (try simp only [mem_blk_cons, mem_blk_nil, or_false, false_or] at hc_ ⊢); grind [mem_blk_cons, mem_blk_nil])) f2 o2 f3 w2) ?_
    rintro wa v w23 T t _ _ _ ⟨e3, rfl, he3⟩
    refine ⟨_, rfl, ?_⟩
    replace hA := hA.tr t (by intro c_ hc_; (try simp only [mem_blk_cons, mem_blk_nil, or_false, false_or] at hc_ ⊢); grind [mem_blk_cons, mem_blk_nil])
    replace hV := hV.tr t (by intro c_ hc_; (try simp only [mem_blk_cons, mem_blk_nil, or_false, false_or] at hc_ ⊢); grind [mem_blk_cons, mem_blk_nil])
    replace hC := hC.tr t (by intro c_ hc_; (try simp only [mem_blk_cons, mem_blk_nil, or_false, false_or] at hc_ ⊢); grind [mem_blk_cons, mem_blk_nil])
    replace hU := hU.tr t (by intro c_ hc_; (try simp only [mem_blk_cons, mem_blk_nil, or_false, false_or] at hc_ ⊢); grind [mem_blk_cons, mem_blk_nil])
    have zt := t.size
    refine CallL.pA T Anc.start (fun wa _ t => ref26_Same_spec (hV.tr t (by intro c_ hc_; (try simp only [mem_blk_cons, mem_blk_nil, or_false, false_or] at hc_ ⊢); grind [mem_blk_cons, mem_blk_nil])) (hU.tr t (by intro c_ hc_; (try simp only [mem_blk_cons, mem_blk_nil, or_false, false_or] at hc_ ⊢); grind [mem_blk_cons, mem_blk_nil])) f2 o2 f3 w2) ?_
    rintro wa v w24 T t _ _ _ ⟨e4, rfl, he4⟩
    refine ⟨_, rfl, ?_⟩
    replace hA := hA.tr t (by intro c_ hc_; (try simp only [mem_blk_cons, mem_blk_nil, or_false, false_or] at hc_ ⊢); grind [mem_blk_cons, mem_blk_nil])
    replace hV := hV.tr t (by intro c_ hc_; (try simp only [mem_blk_cons, mem_blk_nil, or_false, false_or] at hc_ ⊢); grind [mem_blk_cons, mem_blk_nil])
    replace hC := hC.tr t (by intro c_ hc_; (try simp only [mem_blk_cons, mem_blk_nil, or_false, false_or] at hc_ ⊢); grind [mem_blk_cons, mem_blk_nil])
    replace hU := hU.tr t (by intro c_ hc_; (try simp only [mem_blk_cons, mem_blk_nil, or_false, false_or] at hc_ ⊢); grind [mem_blk_cons, mem_blk_nil])
    have zt := t.size
    refine ifb (fun _ => ?_) (fun h => by rw [bool_iff he3 he4] at h; simp at h)
    refine CallL.vA T Anc.start (fun wa _ t => same26_spec (hA.tr t (by intro c_ hc_; (try simp only [mem_blk_cons, mem_blk_nil, or_false, false_or] at hc_ ⊢); grind [mem_blk_cons, mem_blk_nil])) (hV.tr t (by intro c_ hc_; (try simp only [mem_blk_cons, mem_blk_nil, or_false, false_or] at hc_ ⊢); grind [mem_blk_cons, mem_blk_nil])) f2 _ _) (fun w25 T t => ⟨_, rfl, ?_⟩)
    replace hC := hC.tr t (by intro c_ hc_; (try simp only [mem_blk_cons, mem_blk_nil, or_false, false_or] at hc_ ⊢); grind [mem_blk_cons, mem_blk_nil])
    replace hU := hU.tr t (by intro c_ hc_; (try simp only [mem_blk_cons, mem_blk_nil, or_false, false_or] at hc_ ⊢); grind [mem_blk_cons, mem_blk_nil])
    have zt := t.size
    refine ifb (fun _ => ?_) (fun h => by cases h)
    refine CallL.vA T Anc.start (fun wa _ t => same26_spec (hC.tr t (by intro c_ hc_; (try simp only [mem_blk_cons, mem_blk_nil, or_false, false_or] at hc_ ⊢); grind [mem_blk_cons, mem_blk_nil])) (hU.tr t (by intro c_ hc_; (try simp only [mem_blk_cons, mem_blk_nil, or_false, false_or] at hc_ ⊢); grind [mem_blk_cons, mem_blk_nil])) o2 _ _) (fun w26 T t => ⟨_, rfl, ?_⟩)
    exact Reb.A T Anc.start (fun w27 T t => ⟨T.t, rfl⟩)
  have zl : Z_cellplaneref26_Table.length = 40 := by rfl
  have hrl := rrecs_len f2.len
  refine nilL ⟨rrecs (histT xs), hrl, Blk.at hV 0 (by simp), nv, ?_⟩
  repeat' first
    | (refine NewL.A (T := t_cellplaneref26_Table) T Anc.start (fun bu w T t hU lU => ?_); (try replace hA := hA.tr t (by intro c_ hc_; (try simp only [mem_blk_cons, mem_blk_nil, or_false, false_or] at hc_ ⊢); grind [mem_blk_cons, mem_blk_nil])); (try replace hV := hV.tr t (by intro c_ hc_; (try simp only [mem_blk_cons, mem_blk_nil, or_false, false_or] at hc_ ⊢); grind [mem_blk_cons, mem_blk_nil])); (try replace hC := hC.tr t (by intro c_ hc_; (try simp only [mem_blk_cons, mem_blk_nil, or_false, false_or] at hc_ ⊢); grind [mem_blk_cons, mem_blk_nil])); (try replace hU := hU.tr t (by intro c_ hc_; (try simp only [mem_blk_cons, mem_blk_nil, or_false, false_or] at hc_ ⊢); grind [mem_blk_cons, mem_blk_nil])); have zt := t.size)
    | (refine CallL.pA T Anc.start (fun wa _ t => session_Copy_spec (hA.tr t (by intro c_ hc_; (try simp only [mem_blk_cons, mem_blk_nil, or_false, false_or] at hc_ ⊢); grind [mem_blk_cons, mem_blk_nil])) f2) ?_; rintro wa v w T t zc1 zc2 zcl ⟨bc, rfl, zbc, hC⟩; refine ⟨_, rfl, ?_⟩; have nc : bc ∉ blk [⟨b95, x.cells, t_api_Change⟩] := (fun hm => by have := zcl bc hm; omega); have lC := Blk.lt hC; (try replace hA := hA.tr t (by intro c_ hc_; (try simp only [mem_blk_cons, mem_blk_nil, or_false, false_or] at hc_ ⊢); grind [mem_blk_cons, mem_blk_nil])); (try replace hV := hV.tr t (by intro c_ hc_; (try simp only [mem_blk_cons, mem_blk_nil, or_false, false_or] at hc_ ⊢); grind [mem_blk_cons, mem_blk_nil])); (try replace hC := hC.tr t (by intro c_ hc_; (try simp only [mem_blk_cons, mem_blk_nil, or_false, false_or] at hc_ ⊢); grind [mem_blk_cons, mem_blk_nil])); (try replace hU := hU.tr t (by intro c_ hc_; (try simp only [mem_blk_cons, mem_blk_nil, or_false, false_or] at hc_ ⊢); grind [mem_blk_cons, mem_blk_nil])); have zt := t.size)
    | (refine ⟨by rw [hrl]; exact Blk.room hU (by rw [zl]; omega), lU.2.2.2, ?_⟩; replace hU : RTabAt _ bu (histT xs) := Blk.over hU (by rw [hrl, zl]); have t := (Touch.refl (fun i => i = bu) w).putC (p := ⟨bu, 0, none⟩) (cs := rrecs (histT xs)) (fun _ => rfl); replace T := T.putC (p := ⟨bu, 0, none⟩) (cs := rrecs (histT xs)) (fun h => by have := lU.1; simp only at h; omega); (try replace hA := hA.tr t (by intro c_ hc_; (try simp only [mem_blk_cons, mem_blk_nil, or_false, false_or] at hc_ ⊢); grind [mem_blk_cons, mem_blk_nil])); (try replace hV := hV.tr t (by intro c_ hc_; (try simp only [mem_blk_cons, mem_blk_nil, or_false, false_or] at hc_ ⊢); grind [mem_blk_cons, mem_blk_nil])); (try replace hC := hC.tr t (by intro c_ hc_; (try simp only [mem_blk_cons, mem_blk_nil, or_false, false_or] at hc_ ⊢); grind [mem_blk_cons, mem_blk_nil])); (try replace hU := hU.tr t (by intro c_ hc_; (try simp only [mem_blk_cons, mem_blk_nil, or_false, false_or] at hc_ ⊢); grind [mem_blk_cons, mem_blk_nil])); have zt := t.size)
    | (refine Reb.A T Anc.start (fun w T t => ?_); (try replace hA := hA.tr t (by intro c_ hc_; (try simp only [mem_blk_cons, mem_blk_nil, or_false, false_or] at hc_ ⊢); grind [mem_blk_cons, mem_blk_nil])); (try replace hV := hV.tr t (by intro c_ hc_; (try simp only [mem_blk_cons, mem_blk_nil, or_false, false_or] at hc_ ⊢); grind [mem_blk_cons, mem_blk_nil])); (try replace hC := hC.tr t (by intro c_ hc_; (try simp only [mem_blk_cons, mem_blk_nil, or_false, false_or] at hc_ ⊢); grind [mem_blk_cons, mem_blk_nil])); (try replace hU := hU.tr t (by intro c_ hc_; (try simp only [mem_blk_cons, mem_blk_nil, or_false, false_or] at hc_ ⊢); grind [mem_blk_cons, mem_blk_nil])); have zt := t.size)
    | (exact Blk.at hV 0 (by simp))
    | (exact hrl)
    | (exact rrecs_one _)
    | (with_reducible refine And.intro ?_ ?_)
  all_goals refine nine w bc bu T hA hV hC hU ?_ ?_ ?_ nc lU.2.2.2
  all_goals omega

end Go.Sh
