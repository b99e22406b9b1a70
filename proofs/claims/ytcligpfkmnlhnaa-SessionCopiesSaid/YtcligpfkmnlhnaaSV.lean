/- The laws of the order of changes, and of what changes make of a table.
   Conditions: none. -/
import Derived.Test.YtcligpfkmnlhnaaSU
namespace Go.Sh
open Go
set_option linter.unusedSimpArgs false
set_option linter.unusedVariables false
set_option maxHeartbeats 4000000

theorem tapply_swap {t : Tab} (hl : t.length = 8) {x y : G_api_Change} (hxy : x.Client ≠ y.Client) : (tapply (tapply t y).2 x).1 = (tapply t x).1 ∧ (tapply (tapply t y).2 x).2 = (tapply (tapply t x).2 y).2 := by
  by_cases hx : validM x = true
  · by_cases hy : validM y = true
    · have rx := valid_range hx
      have ry := valid_range hy
      have gx : ∀ r, tget (t.set (y.Client - 1).toNat r) x.Client = tget t x.Client := fun r => by rw [tget_set hl (by omega) (by omega) (by omega) (by omega), if_neg hxy]
      have gy : ∀ r, tget (t.set (x.Client - 1).toNat r) y.Client = tget t y.Client := fun r => by rw [tget_set hl (by omega) (by omega) (by omega) (by omega), if_neg (fun e => hxy e.symm)]
      have hne : (y.Client - 1).toNat ≠ (x.Client - 1).toNat := by omega
      unfold tapply
      by_cases nx : x.Number = (tget t x.Client).number + 1
      · by_cases ny : y.Number = (tget t y.Client).number + 1
        · simp only [hx, hy, if_true, if_pos nx, if_pos ny, gx, gy]
          exact ⟨trivial, List.set_comm _ _ hne⟩
        · simp only [hx, hy, if_true, if_pos nx, if_neg ny, gx, gy]
          exact ⟨trivial, trivial⟩
      · by_cases ny : y.Number = (tget t y.Client).number + 1
        · simp only [hx, hy, if_true, if_neg nx, if_pos ny, gx, gy]
          exact ⟨trivial, trivial⟩
        · simp only [hx, hy, if_true, if_neg nx, if_neg ny, gx, gy]
          exact ⟨trivial, trivial⟩
    · unfold tapply
      simp only [hy, if_false]
      exact ⟨rfl, rfl⟩
  · unfold tapply
    simp only [hx, if_false]
    exact ⟨rfl, rfl⟩

section
variable {N : Nat} {w w0 : World} {L : List LB} {S0 : Nat → Prop} {h : Sl} {ys : List G_api_Change} {R : Value → World → Prop}

theorem fold_A (T : Now S0 w0 w) (hA : Anc S0 w0 N L) (hr : ∀ wa, Touch (fun i => i ∈ blk L) w wa → Rd chC 8 wa h ys) (hl : ys.length < 1000000)
    (kbad : (tfold tab0 ys).2.2 ≠ 0 → ∀ w', Now S0 w0 w' → Touch (fun i => i ∈ blk L) w w' → R (foldV (tfold tab0 ys) none) w')
    (k : (tfold tab0 ys).2.2 = 0 → ∀ b w', Now S0 w0 w' → Touch (fun i => i ∈ blk L) w w' → w.heap.size ≤ b → b ∉ blk L → TabAt w' b (tfold tab0 ys).1 → R (foldV (tfold tab0 ys) (some ⟨b, 0, none⟩)) w') :
    CallL PP N w L n_session_Fold [.slice h.a h.n h.c] R := by
  refine CallL.pA T hA (fun wa Ta ta => session_Fold_spec (hr wa ta) (by omega)) ?_
  rintro wa v w2 T t2 z1 z2 zl (⟨he, rfl⟩ | ⟨he, b, hb, rfl, hT⟩)
  · exact kbad he w2 T t2
  · exact k he b w2 T t2 (by omega) (fun hm => by have := zl b hm; omega) hT

theorem rfold_A (T : Now S0 w0 w) (hA : Anc S0 w0 N L) (hr : ∀ wa, Touch (fun i => i ∈ blk L) w wa → Rd chC 8 wa h ys) (hl : ys.length < 1000000)
    (kbad : (tfold tab0 ys).2.2 ≠ 0 → ∀ w', Now S0 w0 w' → Touch (fun i => i ∈ blk L) w w' → R (foldV (tfold tab0 ys) none) w')
    (k : (tfold tab0 ys).2.2 = 0 → ∀ b w', Now S0 w0 w' → Touch (fun i => i ∈ blk L) w w' → w.heap.size ≤ b → b ∉ blk L → RTabAt w' b (tfold tab0 ys).1 → R (foldV (tfold tab0 ys) (some ⟨b, 0, none⟩)) w') :
    CallL PP N w L n_cellplaneref26_Fold [.slice h.a h.n h.c] R := by
  refine CallL.pA T hA (fun wa Ta ta => ref26_Fold_spec (hr wa ta) (by omega)) ?_
  rintro wa v w2 T t2 z1 z2 zl (⟨he, rfl⟩ | ⟨he, b, hb, rfl, hT⟩)
  · exact kbad he w2 T t2
  · exact k he b w2 T t2 (by omega) (fun hm => by have := zl b hm; omega) hT
end

theorem tlast_range {t : Tab} (h : TabOk t) (c : Int) : 0 ≤ tlast t c ∧ tlast t c ≤ 1048576 := by
  unfold tlast
  split
  · rename_i hc; exact tget_ok h hc.1 hc.2
  · omega

theorem SessionApart_spec {w : World} {s1 : Sl} {xs : List Int} (hx : Rd intC 1 w s1 xs) (lx : ∀ c, s1.on c → c < w.heap.size) (x y : G_api_Change) :
    Spec PP n_cellplanelaw26_SessionApart [.slice s1.a s1.n s1.c, .agg (List.toArray x.cells), .agg (List.toArray y.cells)] w noB (fun v _ => v = .bool true) := by
  refine cellplanelaw26_SessionApart_calls s1 x y _ w ?_
  unfold F_cellplanelaw26_SessionApart
  have T : Now noB w w := Now.refl
  have hl1 := hx.1
  have px : ∀ wa, Now noB w wa → Rd intC 1 wa s1 xs ∧ ∀ c, s1.on c → c < wa.heap.size := fun wa Ta => ⟨hx.tr Ta.t (by simp), fun c hc => Nat.lt_of_lt_of_le (lx c hc) Ta.t.size⟩
  intro b1 l1 b2 l2
  refine CallL.vA T Anc.start (fun wa _ _ => awake26_spec wa) (fun w2 T t => ⟨_, rfl, ?_⟩)
  refine ifbn (fun h => by cases h) (fun _ => ?_)
  refine CallL.vA T Anc.start (fun wa _ _ => mill_Light_spec s1 wa) (fun w4 T t => ⟨_, rfl, ?_⟩)
  refine ifbn (fun h => Reb.A T Anc.start (fun w5 T t => ⟨T.t, rfl⟩)) (fun hli => ?_)
  refine CallL.vA T Anc.start (fun wa _ _ => mill_Short_spec x wa) (fun w5 T t => ⟨_, rfl, ?_⟩)
  refine ifbn (fun h => Reb.A T Anc.start (fun w5 T t => ⟨T.t, rfl⟩)) (fun _ => ?_)
  refine CallL.vA T Anc.start (fun wa _ _ => mill_Short_spec y wa) (fun w6 T t => ⟨_, rfl, ?_⟩)
  refine ifbn (fun h => Reb.A T Anc.start (fun w5 T t => ⟨T.t, rfl⟩)) (fun _ => ?_)
  refine ifbd (fun h => Reb.A T Anc.start (fun w5 T t => ⟨T.t, rfl⟩)) (fun hxy => ?_)
  have hle1 : s1.n ≤ 150 := by simpa using hli
  obtain ⟨f1, f2, f3, f4⟩ := hist_facts xs
  have f0 : (tfold tab0 (histM xs)).2.2 = 0 := by rw [f1]
  refine hist_A T Anc.start px (by omega) (fun hs w7 T t hH hh => ⟨_, rfl, ?_⟩)
  have z7 := T.t.size
  refine fold_A T Anc.start (fun wa ta => hH.rd.tr ta (fun i hi => (hh i hi).2.2)) (by omega) (fun hb => absurd f0 hb) (fun _ ba w8 T t za na hA => ⟨_, _, _, rfl, ?_⟩)
  have la := Blk.lt hA
  have z8 := t.size
  replace hH := hH.tr t (fun i hi => (hh i hi).2.2)
  refine fold_A T Anc.start (fun wa ta => hH.rd.tr ta (fun i hi => (hh i hi).2.2)) (by omega) (fun hb => absurd f0 hb) (fun _ bb w9 T t zb nb hB => ⟨_, _, _, rfl, ?_⟩)
  have lb := Blk.lt hB
  have z9 := T.t.size
  replace hA := hA.tr t (by intro c_ hc_; (try simp only [mem_blk_cons, mem_blk_nil, or_false, false_or] at hc_ ⊢); grind [mem_blk_cons, mem_blk_nil])
  have zt := t.size
  have zN : w.heap.size ≤ w8.heap.size := by omega
  have hba : w.heap.size ≤ ba ∧ w.heap.size ≤ bb ∧ ba ≠ bb := ⟨by omega, by omega, by omega⟩
  have eH : (tfold tab0 (histM xs)).1 = histT xs := rfl
  rw [eH] at hA hB
  refine ifb (fun h => by cases h) (fun _ => ?_)
  refine ifb (fun h => by cases h) (fun _ => ?_)
  refine CallL.vA T Anc.start (fun wa _ t => session_Last_spec (hA.tr t (by intro c_ hc_; (try simp only [mem_blk_cons, mem_blk_nil, or_false, false_or] at hc_ ⊢); grind [mem_blk_cons, mem_blk_nil])) f2 x.Client) (fun w10 T t => ⟨_, rfl, ?_⟩)
  replace hA := hA.tr t (by intro c_ hc_; (try simp only [mem_blk_cons, mem_blk_nil, or_false, false_or] at hc_ ⊢); grind [mem_blk_cons, mem_blk_nil])
  replace hB := hB.tr t (by intro c_ hc_; (try simp only [mem_blk_cons, mem_blk_nil, or_false, false_or] at hc_ ⊢); grind [mem_blk_cons, mem_blk_nil])
  have zt := t.size
  refine CallL.vA T Anc.start (fun wa _ t => session_Last_spec (hA.tr t (by intro c_ hc_; (try simp only [mem_blk_cons, mem_blk_nil, or_false, false_or] at hc_ ⊢); grind [mem_blk_cons, mem_blk_nil])) f2 y.Client) (fun w11 T t => ⟨_, rfl, ?_⟩)
  replace hA := hA.tr t (by intro c_ hc_; (try simp only [mem_blk_cons, mem_blk_nil, or_false, false_or] at hc_ ⊢); grind [mem_blk_cons, mem_blk_nil])
  replace hB := hB.tr t (by intro c_ hc_; (try simp only [mem_blk_cons, mem_blk_nil, or_false, false_or] at hc_ ⊢); grind [mem_blk_cons, mem_blk_nil])
  have zt := t.size
  have rx := tlast_range f2 x.Client
  have ry := tlast_range f2 y.Client
  rw [wrap_i64 (x := tlast (histT xs) x.Client + 1) (by omega) (by omega), wrap_i64 (x := tlast (histT xs) y.Client + 1) (by omega) (by omega)]
  have hcl : ({ x with Number := tlast (histT xs) x.Client + 1 } : G_api_Change).Client ≠ ({ y with Number := tlast (histT xs) y.Client + 1 } : G_api_Change).Client := hxy
  generalize ({ x with Number := tlast (histT xs) x.Client + 1 } : G_api_Change) = x' at *
  generalize ({ y with Number := tlast (histT xs) y.Client + 1 } : G_api_Change) = y' at *
  have na' : ba ∉ blk [⟨b1, x'.cells, t_api_Change⟩, ⟨b2, y'.cells, t_api_Change⟩] := by simpa [blk] using na
  have nb' : bb ∉ blk [⟨b1, x'.cells, t_api_Change⟩, ⟨b2, y'.cells, t_api_Change⟩] := by simpa [blk] using nb
  have s1 := tapply_swap f2.len hcl
  have s2 := tapply_swap f2.len (fun e => hcl e.symm)
  refine CallL.A (fun i => i = ba) T Anc.start (fun i hi => ⟨by omega, by subst hi; exact na'⟩) (fun i h e => by omega) (fun wa _ t => session_Apply_spec (hA.tr t (by intro c_ hc_; (try simp only [mem_blk_cons, mem_blk_nil, or_false, false_or] at hc_ ⊢); grind [mem_blk_cons, mem_blk_nil])) f2 x') ?_
  rintro wa v w12 T t _ _ _ ⟨rfl, hA⟩
  refine ⟨_, rfl, ?_⟩
  replace hB := hB.tr t (by intro c_ hc_; (try simp only [mem_blk_cons, mem_blk_nil, or_false, false_or] at hc_ ⊢); grind [mem_blk_cons, mem_blk_nil])
  have zt := t.size
  refine CallL.A (fun i => i = ba) T Anc.start (fun i hi => ⟨by omega, by subst hi; exact na'⟩) (fun i h e => by omega) (fun wa _ t => session_Apply_spec (hA.tr t (by intro c_ hc_; (try simp only [mem_blk_cons, mem_blk_nil, or_false, false_or] at hc_ ⊢); grind [mem_blk_cons, mem_blk_nil])) (tapply_ok f2 x') y') ?_
  rintro wa v w13 T t _ _ _ ⟨rfl, hA⟩
  refine ⟨_, rfl, ?_⟩
  replace hB := hB.tr t (by intro c_ hc_; (try simp only [mem_blk_cons, mem_blk_nil, or_false, false_or] at hc_ ⊢); grind [mem_blk_cons, mem_blk_nil])
  have zt := t.size
  refine CallL.A (fun i => i = bb) T Anc.start (fun i hi => ⟨by omega, by subst hi; exact nb'⟩) (fun i h e => by omega) (fun wa _ t => session_Apply_spec (hB.tr t (by intro c_ hc_; (try simp only [mem_blk_cons, mem_blk_nil, or_false, false_or] at hc_ ⊢); grind [mem_blk_cons, mem_blk_nil])) f2 y') ?_
  rintro wa v w14 T t _ _ _ ⟨rfl, hB⟩
  refine ⟨_, rfl, ?_⟩
  replace hA := hA.tr t (by intro c_ hc_; (try simp only [mem_blk_cons, mem_blk_nil, or_false, false_or] at hc_ ⊢); grind [mem_blk_cons, mem_blk_nil])
  have zt := t.size
  refine CallL.A (fun i => i = bb) T Anc.start (fun i hi => ⟨by omega, by subst hi; exact nb'⟩) (fun i h e => by omega) (fun wa _ t => session_Apply_spec (hB.tr t (by intro c_ hc_; (try simp only [mem_blk_cons, mem_blk_nil, or_false, false_or] at hc_ ⊢); grind [mem_blk_cons, mem_blk_nil])) (tapply_ok f2 y') x') ?_
  rintro wa v w15 T t _ _ _ ⟨rfl, hB⟩
  refine ⟨_, rfl, ?_⟩
  replace hA := hA.tr t (by intro c_ hc_; (try simp only [mem_blk_cons, mem_blk_nil, or_false, false_or] at hc_ ⊢); grind [mem_blk_cons, mem_blk_nil])
  have zt := t.size
  refine ifbd (fun _ => ?_) (fun h => absurd s1.1.symm h)
  refine ifbd (fun _ => ?_) (fun h => absurd s2.1 h)
  refine CallL.pA T Anc.start (fun wa _ t => session_Same_spec (hA.tr t (by intro c_ hc_; (try simp only [mem_blk_cons, mem_blk_nil, or_false, false_or] at hc_ ⊢); grind [mem_blk_cons, mem_blk_nil])) (hB.tr t (by intro c_ hc_; (try simp only [mem_blk_cons, mem_blk_nil, or_false, false_or] at hc_ ⊢); grind [mem_blk_cons, mem_blk_nil])) (tapply_ok (tapply_ok f2 x') y') (tapply_ok (tapply_ok f2 y') x') (tapply_w (tapply_w f3 x') y') (tapply_w (tapply_w f3 y') x')) ?_
  rintro wa v w16 T t _ _ _ ⟨e, rfl, he⟩
  refine ⟨_, rfl, ?_⟩
  exact Reb.A T Anc.start (fun w17 T t => ⟨T.t, by rw [he.2 s2.2]⟩)

theorem SessionApplies_spec {w : World} {s1 r1 : Sl} {xs : List Int} {ys : List G_api_Change} (hx : Rd intC 1 w s1 xs) (lx : ∀ c, s1.on c → c < w.heap.size) (hy : Rd chC 8 w r1 ys) (hm : ys.length ≤ 9223372036854775807) (client number : Int) :
    Spec PP n_cellplanelaw26_SessionApplies [.slice s1.a s1.n s1.c, .slice r1.a r1.n r1.c, .int .i64 client, .int .i64 number] w noB (fun v _ => v = .bool true) := by
  refine cellplanelaw26_SessionApplies_calls s1 r1 client number _ w ?_
  unfold F_cellplanelaw26_SessionApplies
  have T : Now noB w w := Now.refl
  have hl1 := hx.1
  have hl2 := hy.1
  have px : ∀ wa, Now noB w wa → Rd intC 1 wa s1 xs ∧ ∀ c, s1.on c → c < wa.heap.size := fun wa Ta => ⟨hx.tr Ta.t (by simp), fun c hc => Nat.lt_of_lt_of_le (lx c hc) Ta.t.size⟩
  have py : ∀ wa, Now noB w wa → Rd chC 8 wa r1 ys := fun wa Ta => hy.tr Ta.t (by simp)
  refine Reb.A T Anc.start (fun w1 T _ => ?_)
  unfold C_cellplanelaw26_SessionApplies_1
  refine CallL.vA T Anc.start (fun wa _ _ => awake26_spec wa) (fun w2 T t => ⟨_, rfl, ?_⟩)
  refine ifbn (fun h => by cases h) (fun _ => ?_)
  refine Reb.A T Anc.start (fun w3 T _ => ?_)
  unfold C_cellplanelaw26_SessionApplies_2
  refine CallL.vA T Anc.start (fun wa _ _ => mill_Light_spec s1 wa) (fun w4 T t => ⟨_, rfl, ?_⟩)
  refine ifbn (fun h => Reb.A T Anc.start (fun w5 T t => ⟨T.t, rfl⟩)) (fun hli => ?_)
  refine CallL.vA T Anc.start (fun wa Ta _ => mill_Few_spec (py wa Ta) hm 60) (fun w5 T t => ⟨_, rfl, ?_⟩)
  refine ifbn (fun h => Reb.A T Anc.start (fun w5 T t => ⟨T.t, rfl⟩)) (fun hfe => ?_)
  have hle1 : s1.n ≤ 150 := by simpa using hli
  have hle2 : ys.length ≤ 60 := by unfold fewM at hfe; simp at hfe; omega
  obtain ⟨f1, f2, f3, f4⟩ := hist_facts xs
  have f0 : (tfold tab0 (histM xs)).2.2 = 0 := by rw [f1]
  refine Reb.A T Anc.start (fun w6 T _ => ?_)
  unfold C_cellplanelaw26_SessionApplies_3
  refine hist_A T Anc.start px (by omega) (fun hs w7 T t hH hh => ⟨_, rfl, ?_⟩)
  have hhn := hH.rd.1
  refine Reb.A T Anc.start (fun w8 T t => ?_)
  replace hH := hH.tr t (fun i hi => (hh i hi).2.2)
  unfold C_cellplanelaw26_SessionApplies_4
  have z7 := T.t.size
  refine fold_A T Anc.start (fun wa ta => hH.rd.tr ta (fun i hi => (hh i hi).2.2)) (by omega) (fun hb => absurd f0 hb) (fun _ ba w9 T t za na hA => ⟨_, _, _, rfl, ?_⟩)
  have la := Blk.lt hA
  have z8 := T.t.size
  replace hH := hH.tr t (fun i hi => (hh i hi).2.2)
  refine Reb.A T Anc.start (fun w10 T t => ?_)
  replace hH := hH.tr t (fun i hi => (hh i hi).2.2)
  replace hA := hA.tr t (by intro c_ hc_; (try simp only [mem_blk_cons, mem_blk_nil, or_false, false_or] at hc_ ⊢); grind [mem_blk_cons, mem_blk_nil])
  have zt := t.size
  unfold C_cellplanelaw26_SessionApplies_5
  refine rfold_A T Anc.start (fun wa ta => hH.rd.tr ta (fun i hi => (hh i hi).2.2)) (by omega) (fun hb => absurd f0 hb) (fun _ bb w11 T t zb nb hB => ⟨_, _, _, rfl, ?_⟩)
  have lb := Blk.lt hB
  replace hA := hA.tr t (by intro c_ hc_; (try simp only [mem_blk_cons, mem_blk_nil, or_false, false_or] at hc_ ⊢); grind [mem_blk_cons, mem_blk_nil])
  have zt := t.size
  have eH : (tfold tab0 (histM xs)).1 = histT xs := rfl
  rw [eH] at hA hB
  have hN : w.heap.size ≤ ba ∧ w.heap.size ≤ bb ∧ ba ≠ bb := by
    refine ⟨?_, ?_, ?_⟩ <;> omega
  refine Reb.A T Anc.start (fun w12 T t => ?_)
  replace hA := hA.tr t (by intro c_ hc_; (try simp only [mem_blk_cons, mem_blk_nil, or_false, false_or] at hc_ ⊢); grind [mem_blk_cons, mem_blk_nil])
  replace hB := hB.tr t (by intro c_ hc_; (try simp only [mem_blk_cons, mem_blk_nil, or_false, false_or] at hc_ ⊢); grind [mem_blk_cons, mem_blk_nil])
  have zt := t.size
  unfold C_cellplanelaw26_SessionApplies_6
  refine ifbnd (fun h => absurd (by rw [f1]) h) (fun _ => ?_)
  refine ifbnd (fun h => absurd (by rw [f1]; simp only; omega) h) (fun _ => ?_)
  refine ifb (fun h => by cases h) (fun _ => ?_)
  refine Reb.A T Anc.start (fun w13 T t => ?_)
  replace hA := hA.tr t (by intro c_ hc_; (try simp only [mem_blk_cons, mem_blk_nil, or_false, false_or] at hc_ ⊢); grind [mem_blk_cons, mem_blk_nil])
  replace hB := hB.tr t (by intro c_ hc_; (try simp only [mem_blk_cons, mem_blk_nil, or_false, false_or] at hc_ ⊢); grind [mem_blk_cons, mem_blk_nil])
  have zt := t.size
  unfold C_cellplanelaw26_SessionApplies_7
  refine Reb.A T Anc.start (fun w14 T t => ?_)
  replace hA := hA.tr t (by intro c_ hc_; (try simp only [mem_blk_cons, mem_blk_nil, or_false, false_or] at hc_ ⊢); grind [mem_blk_cons, mem_blk_nil])
  replace hB := hB.tr t (by intro c_ hc_; (try simp only [mem_blk_cons, mem_blk_nil, or_false, false_or] at hc_ ⊢); grind [mem_blk_cons, mem_blk_nil])
  have zt := t.size
  unfold C_cellplanelaw26_SessionApplies_9
  refine ⟨fun v w' => ∃ (m : Nat) (tt : Tab), v = (m : Int) ∧ m ≤ ys.length ∧ Now noB w w' ∧ TabAt w' ba tt ∧ RTabAt w' bb tt ∧ TabOk tt, fun v => ys.length - v.toNat, ?_, ?_⟩
  · refine Reb.A T Anc.start (fun w15 T t => ?_)
    replace hA := hA.tr t (by intro c_ hc_; (try simp only [mem_blk_cons, mem_blk_nil, or_false, false_or] at hc_ ⊢); grind [mem_blk_cons, mem_blk_nil])
    replace hB := hB.tr t (by intro c_ hc_; (try simp only [mem_blk_cons, mem_blk_nil, or_false, false_or] at hc_ ⊢); grind [mem_blk_cons, mem_blk_nil])
    have zt := t.size
    exact ⟨0, histT xs, rfl, Nat.zero_le _, T, hA, hB, f2⟩
  · rintro v wb ⟨m, tt, rfl, hml, T, hA, hB, ok⟩
    have la := Blk.lt hA
    have lb := Blk.lt hB
    unfold L_cellplanelaw26_SessionApplies_10
    dsimp only
    unfold B_cellplanelaw26_SessionApplies_10
    refine ifbd (fun h1 => ?_) (fun h1 => ?_)
    · refine (py _ T).idx (by omega) (by omega) (fun p x hp hx hat => ⟨x, hat, notIn_nil, fun b6 l6 => ?_⟩)
      refine CallL.A (fun i => i = ba) T Anc.start (fun i hi => ⟨by omega, by simp [blk]; omega⟩) (fun i h e => by omega) (fun wa _ t => session_Apply_spec (hA.tr t (by intro c_ hc_; (try simp only [mem_blk_cons, mem_blk_nil, or_false, false_or] at hc_ ⊢); grind [mem_blk_cons, mem_blk_nil])) ok x) ?_
      rintro wa v w15 T t _ _ _ ⟨rfl, hA⟩
      refine ⟨_, rfl, ?_⟩
      replace hB := hB.tr t (by intro c_ hc_; (try simp only [mem_blk_cons, mem_blk_nil, or_false, false_or] at hc_ ⊢); grind [mem_blk_cons, mem_blk_nil])
      have zt := t.size
      refine CallL.A (fun i => i = bb) T Anc.start (fun i hi => ⟨by omega, by simp [blk]; omega⟩) (fun i h e => by omega) (fun wa _ t => ref26_Apply_spec (hB.tr t (by intro c_ hc_; (try simp only [mem_blk_cons, mem_blk_nil, or_false, false_or] at hc_ ⊢); grind [mem_blk_cons, mem_blk_nil])) ok x) ?_
      rintro wa v w16 T t _ _ _ ⟨rfl, hB⟩
      refine ⟨_, rfl, ?_⟩
      replace hA := hA.tr t (by intro c_ hc_; (try simp only [mem_blk_cons, mem_blk_nil, or_false, false_or] at hc_ ⊢); grind [mem_blk_cons, mem_blk_nil])
      have zt := t.size
      have ok2 := tapply_ok ok x
      refine ifbnd (fun h => absurd rfl h) (fun _ => ?_)
      refine CallL.vA T Anc.start (fun wa _ t => same26_spec (hA.tr t (by intro c_ hc_; (try simp only [mem_blk_cons, mem_blk_nil, or_false, false_or] at hc_ ⊢); grind [mem_blk_cons, mem_blk_nil])) (hB.tr t (by intro c_ hc_; (try simp only [mem_blk_cons, mem_blk_nil, or_false, false_or] at hc_ ⊢); grind [mem_blk_cons, mem_blk_nil])) ok2 _ _) (fun w17 T t => ⟨_, rfl, ?_⟩)
      replace hA := hA.tr t (by intro c_ hc_; (try simp only [mem_blk_cons, mem_blk_nil, or_false, false_or] at hc_ ⊢); grind [mem_blk_cons, mem_blk_nil])
      replace hB := hB.tr t (by intro c_ hc_; (try simp only [mem_blk_cons, mem_blk_nil, or_false, false_or] at hc_ ⊢); grind [mem_blk_cons, mem_blk_nil])
      have zt := t.size
      refine ifbn (fun h => by cases h) (fun _ => ?_)
      refine Reb.A T Anc.start (fun w18 T t => ?_)
      replace hA := hA.tr t (by intro c_ hc_; (try simp only [mem_blk_cons, mem_blk_nil, or_false, false_or] at hc_ ⊢); grind [mem_blk_cons, mem_blk_nil])
      replace hB := hB.tr t (by intro c_ hc_; (try simp only [mem_blk_cons, mem_blk_nil, or_false, false_or] at hc_ ⊢); grind [mem_blk_cons, mem_blk_nil])
      have zt := t.size
      have step : IntKind.i64.wrap ((m : Int) + 1) = ((m + 1 : Nat) : Int) := by rw [wrap_i64 (by omega) (by omega)]; simp
      exact ⟨rfl, ⟨m + 1, _, step, by omega, T, hA, hB, ok2⟩, by rw [step]; omega⟩
    · refine Reb.A T Anc.start (fun w15 T t => ?_)
      replace hA := hA.tr t (by intro c_ hc_; (try simp only [mem_blk_cons, mem_blk_nil, or_false, false_or] at hc_ ⊢); grind [mem_blk_cons, mem_blk_nil])
      replace hB := hB.tr t (by intro c_ hc_; (try simp only [mem_blk_cons, mem_blk_nil, or_false, false_or] at hc_ ⊢); grind [mem_blk_cons, mem_blk_nil])
      have zt := t.size
      unfold C_cellplanelaw26_SessionApplies_8
      refine CallL.vA T Anc.start (fun wa _ t => same26_spec (hA.tr t (by intro c_ hc_; (try simp only [mem_blk_cons, mem_blk_nil, or_false, false_or] at hc_ ⊢); grind [mem_blk_cons, mem_blk_nil])) (hB.tr t (by intro c_ hc_; (try simp only [mem_blk_cons, mem_blk_nil, or_false, false_or] at hc_ ⊢); grind [mem_blk_cons, mem_blk_nil])) ok _ _) (fun w16 T t => ⟨_, rfl, ?_⟩)
      exact Reb.A T Anc.start (fun w17 T t => ⟨T.t, rfl⟩)

end Go.Sh
