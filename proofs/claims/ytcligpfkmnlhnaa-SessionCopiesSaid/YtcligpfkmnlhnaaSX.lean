/- The laws of folds, and of requests that occur once.
   Conditions: none. -/
import Derived.Test.YtcligpfkmnlhnaaSV
namespace Go.Sh
open Go
set_option linter.unusedSimpArgs false
set_option linter.unusedVariables false
set_option maxHeartbeats 4000000

abbrev slC : Sl → List Value := fun s => [.slice s.a s.n s.c]
theorem slC_len (s : Sl) : (slC s).length = 1 := rfl
theorem slC_one (s : Sl) : ∀ u ∈ slC s, u.oneCell' = true := by
  intro u hu
  simp [slC] at hu
  subst hu; rfl

theorem Blk.ownAll {α : Type} {c : α → List Value} {k n : Nat} (hk : ∀ x, (c x).length = k) {w : World} {b : Nat} {T : TypeId} {xs : List α} (h : Blk w b (xs.flatMap c) T) (hn : xs.length = n) (hm : n ≤ maxLen) : Own c k T w ⟨some ⟨b, 0, none⟩, n, n⟩ xs :=
  ⟨hn, .inr ⟨b, _, rfl, h, Nat.le_refl _, hm, by rw [flat_length hk, hn], by rw [List.take_of_length_le (by rw [flat_length hk, hn]; exact Nat.le_refl _)]⟩⟩

def IA (w : World) (b : Nat) (ns : List Int) (T : TypeId) : Prop := Blk w b (ns.flatMap intC) T
theorem IA.tr {S : Nat → Prop} {w w' : World} {b : Nat} {ns : List Int} {T : TypeId} (h : IA w b ns T) (t : Touch S w w') (hd : ∀ c, c = b → ¬ S c) : IA w' b ns T := Blk.touch h t (hd b rfl)
theorem IA.get {w : World} {b : Nat} {ns : List Int} {T : TypeId} (h : IA w b ns T) {i : Nat} {n : Int} (hi : ns[i]? = some n) : At w ((⟨b, 0, none⟩ : Addr).add (i * 1)) [.int .i64 n] := by
  rw [add_plain]
  have := Blk.elem intC_len (pre := []) (post := []) (w := w) (b := b) (T := T) (xs := ns) (by simpa [IA] using h) hi
  simpa using this
theorem IA.room {w : World} {b : Nat} {ns : List Int} {T : TypeId} (h : IA w b ns T) {i : Nat} (hi : i < ns.length) : RoomAt w ((⟨b, 0, none⟩ : Addr).add (i * 1)) 1 := by
  rw [add_plain]
  exact Blk.room h (by rw [flat_length intC_len]; omega)
theorem IA.put {w : World} {b : Nat} {ns : List Int} {T : TypeId} (h : IA w b ns T) {i : Nat} (hi : i < ns.length) (n : Int) : IA (Sh.putC w ((⟨b, 0, none⟩ : Addr).add (i * 1)) [.int .i64 n]) b (ns.set i n) T := by
  rw [add_plain]
  unfold IA
  rw [← flat_set intC_len hi n, Nat.zero_add]
  exact Blk.putC h _ _

/-! ### folds -/
theorem folds_loop {w wL : World} {ls : Sl} {zs : List (Sl × List G_api_Change)} (T0 : Now noB w wL) (hls : Rd slC 1 wL ls (zs.map (·.1))) (hz : ∀ z ∈ zs, Rd chC 8 wL z.1 z.2 ∧ z.2.length < 1000000) (hn : zs.length ≤ 3) :
    C_cellplanelaw26_SessionFolds_8 w.heap.size (fun v w' => Touch noB w w' ∧ v = .bool true) ls ((ls.n : Nat) : Int) 0 wL := by
  unfold C_cellplanelaw26_SessionFolds_8
  have hln := hls.1
  rw [List.length_map] at hln
  refine ⟨fun v w' => ∃ m : Nat, v = (m : Int) ∧ m ≤ zs.length ∧ Now noB wL w', fun v => zs.length - v.toNat, ?_, ?_⟩
  · exact Reb.A Now.refl Anc.nil (fun w1 T t => ⟨0, rfl, Nat.zero_le _, T⟩)
  · rintro v wb ⟨m, rfl, hm, T⟩
    have step : IntKind.i64.wrap ((m : Int) + 1) = ((m + 1 : Nat) : Int) := by rw [wrap_i64 (by omega) (by omega)]; simp
    unfold L_cellplanelaw26_SessionFolds_9
    dsimp only
    unfold B_cellplanelaw26_SessionFolds_9
    refine ifbd (fun h1 => ?_) (fun h1 => ?_)
    · have hml : m < zs.length := by omega
      refine (hls.tr T.t (by simp)).idx (by omega) (by omega) (fun p s hp hs hat => ?_)
      rw [Int.toNat_natCast, List.getElem?_map, List.getElem?_eq_getElem hml] at hs
      simp only [Option.map_some, Option.some.injEq] at hs
      have hzm := hz _ (List.getElem_mem hml)
      refine ⟨s, hat, notIn_nil, ?_⟩
      rw [← hs]
      have next : ∀ w', Now noB wL w' → Reb w.heap.size w' [] (fun w' => (ls, ((ls.n : Nat) : Int)) = (ls, ((ls.n : Nat) : Int)) ∧ (∃ m' : Nat, IntKind.i64.wrap ((m : Int) + 1) = (m' : Int) ∧ m' ≤ zs.length ∧ Now noB wL w') ∧ zs.length - (IntKind.i64.wrap ((m : Int) + 1)).toNat < zs.length - ((m : Nat) : Int).toNat) :=
        fun w' T => Reb.A T Anc.nil (fun w2 T t => ⟨rfl, ⟨m + 1, step, by omega, T⟩, by rw [step]; omega⟩)
      refine fold_A T Anc.nil (fun wa ta => hzm.1.tr (T.t.comp ta (fun i _ h => by simp [blk] at h)) (by simp)) hzm.2 (fun hb w1 T t => ⟨_, _, _, rfl, ?_⟩) (fun h0 ba w1 T t za na hA => ⟨_, _, _, rfl, ?_⟩)
      · refine rfold_A T Anc.nil (fun wa ta => hzm.1.tr (T.t.comp ta (fun i _ h => by simp [blk] at h)) (by simp)) hzm.2 (fun hb w2 T t => ⟨_, _, _, rfl, ?_⟩) (fun h0 => absurd h0 hb)
        refine ifbnd (fun h => absurd rfl h) (fun _ => ?_)
        refine ifbnd (fun h => absurd rfl h) (fun _ => ?_)
        refine ifbn (fun h => by cases h) (fun _ => ?_)
        refine ifbn (fun h => by cases h) (fun _ => ?_)
        exact next w2 T
      · refine rfold_A T Anc.nil (fun wa ta => hzm.1.tr (T.t.comp ta (fun i _ h => by simp [blk] at h)) (by simp)) hzm.2 (fun hb => absurd h0 hb) (fun h0 bb w2 T t zb nb hB => ⟨_, _, _, rfl, ?_⟩)
        replace hA := hA.tr t (by intro c_ hc_; (try simp only [mem_blk_cons, mem_blk_nil, or_false, false_or] at hc_ ⊢); grind [mem_blk_cons, mem_blk_nil])
        have zt := t.size
        refine ifbnd (fun h => absurd rfl h) (fun _ => ?_)
        refine ifbnd (fun h => absurd rfl h) (fun _ => ?_)
        refine ifbn (fun h => by cases h) (fun _ => ?_)
        refine ifbn (fun _ => ?_) (fun h => by cases h)
        have ok : TabOk (tfold tab0 zs[m].2).1 := by rw [tfold_tabs h0]; exact tabs_ok tab0_ok _
        refine CallL.vA T Anc.nil (fun wa _ t => same26_spec (hA.tr t (by intro c_ hc_; (try simp only [mem_blk_cons, mem_blk_nil, or_false, false_or] at hc_ ⊢); grind [mem_blk_cons, mem_blk_nil])) (hB.tr t (by intro c_ hc_; (try simp only [mem_blk_cons, mem_blk_nil, or_false, false_or] at hc_ ⊢); grind [mem_blk_cons, mem_blk_nil])) ok _ _) (fun w3 T t => ⟨_, rfl, ?_⟩)
        refine ifbn (fun h => by cases h) (fun _ => ?_)
        exact next w3 T
    · refine Reb.A T Anc.nil (fun w1 T t => ?_)
      unfold C_cellplanelaw26_SessionFolds_7
      exact Reb.A T Anc.nil (fun w2 T t => ⟨T0.t.comp T.t (fun _ _ h => h.elim), rfl⟩)

theorem SessionFolds_spec {w : World} {s1 r1 : Sl} {xs : List Int} {ys : List G_api_Change} (hy : Rd chC 8 w r1 ys) (hm : ys.length ≤ 9223372036854775807) (hx : Rd intC 1 w s1 xs) (lx : ∀ c, s1.on c → c < w.heap.size) (drop : Int) :
    Spec PP n_cellplanelaw26_SessionFolds [.slice r1.a r1.n r1.c, .slice s1.a s1.n s1.c, .int .i64 drop] w noB (fun v _ => v = .bool true) := by
  refine cellplanelaw26_SessionFolds_calls r1 s1 drop _ w ?_
  unfold F_cellplanelaw26_SessionFolds
  have T : Now noB w w := Now.refl
  have hl1 := hx.1
  have hl2 := hy.1
  have px : ∀ wa, Now noB w wa → Rd intC 1 wa s1 xs ∧ ∀ c, s1.on c → c < wa.heap.size := fun wa Ta => ⟨hx.tr Ta.t (by simp), fun c hc => Nat.lt_of_lt_of_le (lx c hc) Ta.t.size⟩
  have py : ∀ wa, Now noB w wa → Rd chC 8 wa r1 ys := fun wa Ta => hy.tr Ta.t (by simp)
  refine Reb.A T Anc.nil (fun w1 T _ => ?_)
  unfold C_cellplanelaw26_SessionFolds_1
  refine CallL.vA T Anc.nil (fun wa _ _ => awake26_spec wa) (fun w2 T t => ⟨_, rfl, ?_⟩)
  refine ifbn (fun h => by cases h) (fun _ => ?_)
  refine Reb.A T Anc.nil (fun w3 T _ => ?_)
  unfold C_cellplanelaw26_SessionFolds_2
  refine CallL.vA T Anc.nil (fun wa Ta _ => mill_Few_spec (py wa Ta) hm 60) (fun w5 T t => ⟨_, rfl, ?_⟩)
  refine ifbn (fun h => Reb.A T Anc.nil (fun w5 T t => ⟨T.t, rfl⟩)) (fun hfe => ?_)
  refine CallL.vA T Anc.nil (fun wa _ _ => mill_Light_spec s1 wa) (fun w4 T t => ⟨_, rfl, ?_⟩)
  refine ifbn (fun h => Reb.A T Anc.nil (fun w5 T t => ⟨T.t, rfl⟩)) (fun hli => ?_)
  have hle1 : s1.n ≤ 150 := by simpa using hli
  have hle2 : ys.length ≤ 60 := by unfold fewM at hfe; simp at hfe; omega
  obtain ⟨f1, f2, f3, f4⟩ := hist_facts xs
  refine Reb.A T Anc.nil (fun w6 T _ => ?_)
  unfold C_cellplanelaw26_SessionFolds_3
  refine hist_A T Anc.nil px (by omega) (fun hs w7 T t hH hh => ⟨_, rfl, ?_⟩)
  have hhn := hH.rd.1
  have hhc := hH.cap
  -- from here on the history stays
  have T0 := T
  have pH : ∀ wa, Now noB w7 wa → Ro chC 8 wa hs (histM xs) := fun wa Ta => hH.tr Ta.t (by simp)
  have pY : ∀ wa, Now noB w7 wa → Rd chC 8 wa r1 ys := fun wa Ta => (py w7 T0).tr Ta.t (by simp)
  have T : Now noB w7 w7 := Now.refl
  refine Reb.A T Anc.nil (fun w8 T t => ?_)
  unfold C_cellplanelaw26_SessionFolds_4
  have zq1 := T.t.size
  refine NewL.A T Anc.nil (fun b38 w9 T t h38 l38 => ?_)
  have h38' : Blk w9 b38 ([r1, hs].flatMap slC) t_sl_api_Change := h38
  have o38 := Blk.ownAll (n := 2) slC_len h38' rfl (by simp [maxLen])
  refine Reb.A T Anc.nil (fun w10 T t => ?_)
  replace o38 := o38.tr t (by intro c_ hc_; (try simp only [mem_blk_cons, mem_blk_nil, or_false, false_or] at hc_ ⊢); grind [mem_blk_cons, mem_blk_nil])
  have zt := t.size
  unfold C_cellplanelaw26_SessionFolds_5
  have eC := el_sl_api_Change.t
  have eS := el_sl_sl_api_Change.t
  have z7 := T0.t.size
  refine ifbd (fun hpos => ?_) (fun hpos => ?_)
  · refine CallL.vA T Anc.nil (fun wa _ _ => mill_Mod_spec (by omega) (by omega) wa) (fun w11 T t => ⟨_, rfl, ?_⟩)
    replace o38 := o38.tr t (by intro c_ hc_; (try simp only [mem_blk_cons, mem_blk_nil, or_false, false_or] at hc_ ⊢); grind [mem_blk_cons, mem_blk_nil])
    have zt := t.size
    have hr := modM_range (v := drop) (n := ((hs.n : Nat) : Int)) (by omega)
    have step : IntKind.i64.wrap (modM drop ((hs.n : Nat) : Int) + 1) = modM drop ((hs.n : Nat) : Int) + 1 := wrap_i64 (by omega) (by omega)
    rw [step]
    obtain ⟨j, hj⟩ : ∃ j : Nat, modM drop ((hs.n : Nat) : Int) = (j : Int) := ⟨(modM drop ((hs.n : Nat) : Int)).toNat, by omega⟩
    rw [hj] at hr ⊢
    have e1 : Int.toNat ((j : Int) + 1) = j + 1 := by omega
    rw [e1, Int.toNat_natCast]
    refine ⟨by omega, by omega, by omega, by omega, ?_⟩
    have zq2 := T.t.size
    refine NewL.A T Anc.nil (fun b23 w12 T t h23 l23 => ?_)
    replace o38 := o38.tr t (by intro c_ hc_; (try simp only [mem_blk_cons, mem_blk_nil, or_false, false_or] at hc_ ⊢); grind [mem_blk_cons, mem_blk_nil])
    have zt := t.size
    refine RunL.freshA T Anc.nil eC (by decide) chC_len chC_one h23 (fun h => by omega) l23.2.2.2 ((pH _ T).rd.take (i := j) (by omega)) (pH _ T).capn (by omega) (by simp [blk]) (fun s3 w13 T t3 o3 f3 n3 => ⟨_, rfl, ?_⟩)
    have l38b := l38.2.2.1
    replace o38 := o38.tr t3 (fun b hb => by simp at hb; subst hb; simp [blk]; omega)
    have p3 := o3.1
    have zq3 := T.t.size
    have zq3' := t3.size
    rw [List.length_take] at p3
    have hc0 : slA hs.a hs.c (j + 1) 8 = none → hs.c - (j + 1) = 0 := fun hh => by
      unfold slA at hh
      split at hh
      · omega
      · have := hH.capn (by simpa using hh); omega
    have f3' : ∀ i, s3.on i → w7.heap.size ≤ i ∧ i ≠ b38 := fun i hi => by
      rcases f3 i hi with h | h <;> exact ⟨by omega, by omega⟩
    have l3 : ∀ i, s3.on i → i < w13.heap.size := fun i hi => o3.lt hi
    refine RunL.appA T Anc.nil eC (by decide) chC_len chC_one o3 ((pH _ T).rd.drop (i := j + 1) (by omega) hhc) hc0 (by omega) (fun c hc hh => by have := f3' c hh; omega) (by simp [blk]) (by simp [blk]) (fun s4 w14 T t4 o4 f4 n4 => ⟨_, rfl, ?_⟩)
    have z13 := t4.size
    have zq4 := T.t.size
    replace o38 := o38.tr t4 (fun b hb => by simp at hb; subst hb; simp only [blk, List.not_mem_nil, false_or]; intro h; exact (f3' _ h).2 rfl)
    have f4' : ∀ i, s4.on i → w7.heap.size ≤ i ∧ i ≠ b38 := fun i hi => by
      rcases f4 i hi with h | h
      · exact f3' i h
      · exact ⟨by omega, by omega⟩
    have l4 : ∀ i, s4.on i → i < w14.heap.size := fun i hi => o4.lt hi
    refine NewL.A T Anc.nil (fun b31 w15 T t5 h31 l31 => ?_)
    replace o38 := o38.tr t5 (by intro c_ hc_; (try simp only [mem_blk_cons, mem_blk_nil, or_false, false_or] at hc_ ⊢); grind [mem_blk_cons, mem_blk_nil])
    replace o4 := o4.tr t5 (by intro c_ hc_; (try simp only [mem_blk_cons, mem_blk_nil, or_false, false_or] at hc_ ⊢); grind [mem_blk_cons, mem_blk_nil])
    have zt := t5.size
    refine RunL.appA T Anc.nil eS (by decide) slC_len slC_one o38 (Blk.rd1 (x := s4) h31) (fun h => by cases h) (by simp) (fun c hc hh => by simp at hh; omega) (by simp [blk]) (by simp [blk]) (fun s5 w16 T t6 o5 f5 n5 => ⟨_, rfl, ?_⟩)
    replace o4 := o4.tr t6 (fun b hb => by simp only [blk, List.not_mem_nil, false_or]; simp; intro h; exact (f4' b hb).2 h.symm)
    refine Reb.A T Anc.nil (fun w17 T t => ?_)
    replace o4 := o4.tr t (by intro c_ hc_; (try simp only [mem_blk_cons, mem_blk_nil, or_false, false_or] at hc_ ⊢); grind [mem_blk_cons, mem_blk_nil])
    replace o5 := o5.tr t (by intro c_ hc_; (try simp only [mem_blk_cons, mem_blk_nil, or_false, false_or] at hc_ ⊢); grind [mem_blk_cons, mem_blk_nil])
    have zt := t.size
    unfold C_cellplanelaw26_SessionFolds_6
    refine Reb.A T Anc.nil (fun w18 T t => ?_)
    replace o4 := o4.tr t (by intro c_ hc_; (try simp only [mem_blk_cons, mem_blk_nil, or_false, false_or] at hc_ ⊢); grind [mem_blk_cons, mem_blk_nil])
    replace o5 := o5.tr t (by intro c_ hc_; (try simp only [mem_blk_cons, mem_blk_nil, or_false, false_or] at hc_ ⊢); grind [mem_blk_cons, mem_blk_nil])
    have zt := t.size
    have p4 := o4.1
    refine folds_loop (zs := [(r1, ys), (hs, histM xs), (s4, (histM xs).take j ++ (histM xs).drop (j + 1))]) (T0.comp T.t (fun _ _ h => h)) (o5.rd slC_len) ?_ (by simp)
    intro z hz
    simp only [List.mem_cons, List.not_mem_nil, or_false] at hz
    rcases hz with rfl | rfl | rfl
    · exact ⟨pY _ T, by simp only; omega⟩
    · exact ⟨(pH _ T).rd, by simp only; omega⟩
    · exact ⟨o4.rd chC_len, by simp; omega⟩
  · refine Reb.A T Anc.nil (fun w11 T t => ?_)
    replace o38 := o38.tr t (by intro c_ hc_; (try simp only [mem_blk_cons, mem_blk_nil, or_false, false_or] at hc_ ⊢); grind [mem_blk_cons, mem_blk_nil])
    have zt := t.size
    unfold C_cellplanelaw26_SessionFolds_6
    refine Reb.A T Anc.nil (fun w12 T t => ?_)
    replace o38 := o38.tr t (by intro c_ hc_; (try simp only [mem_blk_cons, mem_blk_nil, or_false, false_or] at hc_ ⊢); grind [mem_blk_cons, mem_blk_nil])
    have zt := t.size
    refine folds_loop (zs := [(r1, ys), (hs, histM xs)]) (T0.comp T.t (fun _ _ h => h)) (o38.rd slC_len) ?_ (by simp)
    intro z hz
    simp only [List.mem_cons, List.not_mem_nil, or_false] at hz
    rcases hz with rfl | rfl
    · exact ⟨pY _ T, by simp only; omega⟩
    · exact ⟨(pH _ T).rd, by simp only; omega⟩

end Go.Sh
