/- The law of requests that occur once.
   Conditions: none. -/
import Derived.Test.YtcligpfkmnlhnaaSX
namespace Go.Sh
open Go
set_option linter.unusedSimpArgs false
set_option linter.unusedVariables false
set_option maxHeartbeats 4000000

/-- the numbers that the law keeps are those of the table -/
def Counts (ns : List Int) (t : Tab) : Prop := ns.length = 9 ∧ ∀ c : Int, 1 ≤ c → c ≤ 8 → ns[c.toNat]? = some (tget t c).number

theorem counts0 : Counts (List.replicate 9 0) tab0 := by
  refine ⟨by simp, fun c h1 h2 => ?_⟩
  have : c = 1 ∨ c = 2 ∨ c = 3 ∨ c = 4 ∨ c = 5 ∨ c = 6 ∨ c = 7 ∨ c = 8 := by omega
  rcases this with rfl | rfl | rfl | rfl | rfl | rfl | rfl | rfl <;> rfl

theorem counts_step {ns : List Int} {t : Tab} (h : Counts ns t) (hl : t.length = 8) {x : G_api_Change} (hx : (tapply t x).1 = 0) : Counts (ns.set x.Client.toNat x.Number) (tapply t x).2 := by
  obtain ⟨hv, hn, he⟩ := tapply_zero hx
  have hr := valid_range hv
  refine ⟨by simp [h.1], fun c h1 h2 => ?_⟩
  rw [he, tget_set hl (by omega) (by omega) h1 h2]
  by_cases hc : c = x.Client
  · subst hc
    rw [if_pos rfl, List.getElem?_set_self (by rw [h.1]; omega)]
  · rw [if_neg hc, List.getElem?_set_ne (by omega)]
    exact h.2 c h1 h2

theorem once_check {w wL : World} {bt b18 : Nat} {v27 : Sl} {v28 v29 : Int} {tt : Tab} {ns : List Int} (K1 : (Sl × Int) → (Int) → World → Prop) (QQ : Value → World → Prop)
    (hT : TabAt wL bt tt) (ok : TabOk tt) (hN : IA wL b18 ns t_ar9_i64) (hc : Counts ns tt) (next : ∀ w', Now noB wL w' → Reb w.heap.size w' [] (fun w' => K1 (v27, v28) (IntKind.i64.wrap (v29 + 1)) w')) :
    C_cellplanelaw26_SessionOnce_14 w.heap.size K1 QQ (some ⟨bt, 0, none⟩) ⟨b18, 0, none⟩ v27 v28 v29 wL := by
  unfold C_cellplanelaw26_SessionOnce_14
  refine Reb.A (S0 := noB) Now.refl Anc.nil (fun w1 T t => ?_)
  have pT : ∀ w', Now noB wL w' → TabAt w' bt tt := fun w' T => hT.tr T.t (by simp)
  have pN : ∀ w', Now noB wL w' → IA w' b18 ns t_ar9_i64 := fun w' T => hN.tr T.t (by simp)
  unfold C_cellplanelaw26_SessionOnce_15
  refine ⟨fun x w' => ∃ k : Nat, x = (k : Int) ∧ 1 ≤ k ∧ k ≤ 9 ∧ Now noB wL w', fun x => 9 - x.toNat, ?_, ?_⟩
  · exact Reb.A T Anc.nil (fun w2 T t => ⟨1, rfl, by omega, by omega, T⟩)
  · rintro x wb ⟨k, rfl, h1, h9, T⟩
    unfold L_cellplanelaw26_SessionOnce_16
    dsimp only
    unfold B_cellplanelaw26_SessionOnce_16
    refine ifbd (fun h8 => ?_) (fun h8 => ?_)
    · have hk := hc.2 k (by omega) (by omega)
      have hg := (pN _ T).get hk
      refine ⟨by omega, by omega, _, hg, notIn_nil, ?_⟩
      refine CallL.vA T Anc.nil (fun wa Ta _ => session_Last_spec (pT _ Ta) ok _) (fun w2 T t => ⟨_, rfl, (pN _ T).get hk, ?_⟩)
      refine ifbnd (fun h => absurd (by unfold tlast; rw [if_pos ⟨by omega, by omega⟩]) h) (fun _ => ?_)
      have step : IntKind.i64.wrap ((k : Int) + 1) = ((k + 1 : Nat) : Int) := by rw [wrap_i64 (by omega) (by omega)]; simp
      exact Reb.A T Anc.nil (fun w3 T t => ⟨rfl, ⟨k + 1, step, by omega, by omega, T⟩, by rw [step]; omega⟩)
    · refine Reb.A T Anc.nil (fun w2 T t => ?_)
      unfold C_cellplanelaw26_SessionOnce_9
      exact next w2 T

theorem SessionOnce_spec {w : World} {s1 r1 : Sl} {xs : List Int} {ys : List G_api_Change} (hy : Rd chC 8 w r1 ys) (hm : ys.length ≤ 9223372036854775807) (hx : Rd intC 1 w s1 xs) (lx : ∀ c, s1.on c → c < w.heap.size) :
    Spec PP n_cellplanelaw26_SessionOnce [.slice r1.a r1.n r1.c, .slice s1.a s1.n s1.c] w noB (fun v _ => v = .bool true) := by
  refine cellplanelaw26_SessionOnce_calls r1 s1 _ w ?_
  unfold F_cellplanelaw26_SessionOnce
  have T : Now noB w w := Now.refl
  have hl1 := hx.1
  have hl2 := hy.1
  have px : ∀ wa, Now noB w wa → Rd intC 1 wa s1 xs ∧ ∀ c, s1.on c → c < wa.heap.size := fun wa Ta => ⟨hx.tr Ta.t (by simp), fun c hc => Nat.lt_of_lt_of_le (lx c hc) Ta.t.size⟩
  have py : ∀ wa, Now noB w wa → Rd chC 8 wa r1 ys := fun wa Ta => hy.tr Ta.t (by simp)
  refine Reb.A T Anc.nil (fun w1 T _ => ?_)
  unfold C_cellplanelaw26_SessionOnce_1
  refine CallL.vA T Anc.nil (fun wa _ _ => awake26_spec wa) (fun w2 T t => ⟨_, rfl, ?_⟩)
  refine ifbn (fun h => by cases h) (fun _ => ?_)
  refine Reb.A T Anc.nil (fun w3 T _ => ?_)
  unfold C_cellplanelaw26_SessionOnce_2
  refine CallL.vA T Anc.nil (fun wa Ta _ => mill_Few_spec (py wa Ta) hm 60) (fun w5 T t => ⟨_, rfl, ?_⟩)
  refine ifbn (fun h => Reb.A T Anc.nil (fun w5 T t => ⟨T.t, rfl⟩)) (fun hfe => ?_)
  refine CallL.vA T Anc.nil (fun wa _ _ => mill_Light_spec s1 wa) (fun w4 T t => ⟨_, rfl, ?_⟩)
  refine ifbn (fun h => Reb.A T Anc.nil (fun w5 T t => ⟨T.t, rfl⟩)) (fun hli => ?_)
  have hle1 : s1.n ≤ 150 := by simpa using hli
  have hle2 : ys.length ≤ 60 := by unfold fewM at hfe; simp at hfe; omega
  obtain ⟨f1, f2, f3, f4⟩ := hist_facts xs
  refine Reb.A T Anc.nil (fun w6 T _ => ?_)
  unfold C_cellplanelaw26_SessionOnce_3
  refine hist_A T Anc.nil px (by omega) (fun hs w7 T t hH hh => ⟨_, rfl, ?_⟩)
  refine NewL.A T Anc.nil (fun b38 w9 T t9 h38 l38 => ?_)
  have h38' : Blk w9 b38 ([r1, hs].flatMap slC) t_sl_api_Change := h38
  have o38 := Blk.rdAll (n := 2) slC_len h38' rfl
  replace hH := hH.tr t9 (by simp [blk])
  refine Reb.A T Anc.nil (fun w10 T t => ?_)
  replace hH := hH.tr t (by simp [blk])
  replace o38 := o38.tr t (by simp [blk])
  have hY := py _ T
  -- from here on all that stays
  have T0 := T
  have hz : ∀ z ∈ [(r1, ys), (hs, histM xs)], (∀ wa, Now noB w10 wa → Rd chC 8 wa z.1 z.2) ∧ z.2.length ≤ 60 := by
    intro z hz
    simp only [List.mem_cons, List.not_mem_nil, or_false] at hz
    rcases hz with rfl | rfl
    · exact ⟨fun wa Ta => hY.tr Ta.t (by simp), hle2⟩
    · exact ⟨fun wa Ta => hH.rd.tr Ta.t (by simp), f4⟩
  have p38 : ∀ wa, Now noB w10 wa → Rd slC 1 wa ⟨some ⟨b38, 0, none⟩, 2, 2⟩ [r1, hs] := fun wa Ta => o38.tr Ta.t (by simp)
  have T : Now noB w10 w10 := Now.refl
  unfold C_cellplanelaw26_SessionOnce_5
  refine ⟨fun v w' => ∃ m : Nat, v = (m : Int) ∧ m ≤ 2 ∧ Now noB w10 w', fun v => 2 - v.toNat, ?_, ?_⟩
  · exact Reb.A T Anc.nil (fun w1 T t => ⟨0, rfl, Nat.zero_le _, T⟩)
  rintro v wb ⟨m, rfl, hm2, T⟩
  have step : IntKind.i64.wrap ((m : Int) + 1) = ((m + 1 : Nat) : Int) := by rw [wrap_i64 (by omega) (by omega)]; simp
  unfold L_cellplanelaw26_SessionOnce_6
  dsimp only
  unfold B_cellplanelaw26_SessionOnce_6
  refine Reb.A T Anc.nil (fun w11 T t => ?_)
  unfold C_cellplanelaw26_SessionOnce_7
  refine ifbd (fun h1 => ?_) (fun h1 => ?_)
  · refine Reb.A T Anc.nil (fun w12 T t => ?_)
    unfold C_cellplanelaw26_SessionOnce_8
    have hml : m < 2 := by omega
    refine (p38 _ T).idx (by omega) (by simp only; omega) (fun p s hp hs' hat => ⟨s, hat, notIn_nil, ?_⟩)
    rw [Int.toNat_natCast] at hs'
    obtain ⟨z, hzm, hzs⟩ : ∃ z ∈ [(r1, ys), (hs, histM xs)], z.1 = s := by
      have : m = 0 ∨ m = 1 := by omega
      rcases this with rfl | rfl
      · simp at hs'; exact ⟨(r1, ys), by simp, hs'⟩
      · simp at hs'; exact ⟨(hs, histM xs), by simp, hs'⟩
    obtain ⟨pz, lz⟩ := hz z hzm
    subst hzs
    obtain ⟨zs, zl⟩ := z
    simp only at pz lz
    refine Reb.A T Anc.nil (fun w13 T t => ?_)
    unfold C_cellplanelaw26_SessionOnce_10
    have nextA : ∀ w', Now noB w10 w' → Reb w.heap.size w' [] (fun w' => ((⟨some ⟨b38, 0, none⟩, 2, 2⟩ : Sl), (2 : Int)) = ((⟨some ⟨b38, 0, none⟩, 2, 2⟩ : Sl), (2 : Int)) ∧ (∃ m' : Nat, IntKind.i64.wrap ((m : Int) + 1) = (m' : Int) ∧ m' ≤ 2 ∧ Now noB w10 w') ∧ 2 - (IntKind.i64.wrap ((m : Int) + 1)).toNat < 2 - ((m : Nat) : Int).toNat) :=
      fun w' T => Reb.A T Anc.nil (fun w2 T t => ⟨rfl, ⟨m + 1, step, by omega, T⟩, by rw [step]; omega⟩)
    refine fold_A T Anc.nil (fun wa ta => pz wa (T.comp ta (fun i _ h => by simp [blk] at h))) (by omega) (fun hb w14 T t => ⟨_, _, _, rfl, ?_⟩) (fun h0 bt w14 T t za na hT => ⟨_, _, _, rfl, ?_⟩)
    · refine Reb.A T Anc.nil (fun w15 T t => ?_)
      unfold C_cellplanelaw26_SessionOnce_11
      refine ifbnd (fun _ => ?_) (fun h => absurd h hb)
      refine Reb.A T Anc.nil (fun w16 T t => ?_)
      unfold C_cellplanelaw26_SessionOnce_9
      exact nextA w16 T
    · have zb := T.t.size
      have lt := Blk.lt hT
      refine Reb.A T Anc.nil (fun w15 T t => ?_)
      replace hT := hT.tr t (by intro c_ hc_; (try simp only [mem_blk_cons, mem_blk_nil, or_false, false_or] at hc_ ⊢); grind [mem_blk_cons, mem_blk_nil])
      have zt := t.size
      unfold C_cellplanelaw26_SessionOnce_11
      refine ifbnd (fun h => absurd h0 h) (fun _ => ?_)
      refine Reb.A T Anc.nil (fun w16 T t => ?_)
      replace hT := hT.tr t (by intro c_ hc_; (try simp only [mem_blk_cons, mem_blk_nil, or_false, false_or] at hc_ ⊢); grind [mem_blk_cons, mem_blk_nil])
      have zt := t.size
      unfold C_cellplanelaw26_SessionOnce_12
      have zc := T.t.size
      refine NewL.A T Anc.nil (fun b18 w17 T t h18 l18 => ?_)
      replace hT := hT.tr t (by intro c_ hc_; (try simp only [mem_blk_cons, mem_blk_nil, or_false, false_or] at hc_ ⊢); grind [mem_blk_cons, mem_blk_nil])
      have zt := t.size
      have hN : IA w17 b18 (List.replicate 9 0) t_ar9_i64 := h18
      refine Reb.A T Anc.nil (fun w18 T t => ?_)
      replace hT := hT.tr t (by intro c_ hc_; (try simp only [mem_blk_cons, mem_blk_nil, or_false, false_or] at hc_ ⊢); grind [mem_blk_cons, mem_blk_nil])
      replace hN := hN.tr t (by intro c_ hc_; (try simp only [mem_blk_cons, mem_blk_nil, or_false, false_or] at hc_ ⊢); grind [mem_blk_cons, mem_blk_nil])
      have zt := t.size
      unfold C_cellplanelaw26_SessionOnce_13
      refine Reb.A T Anc.nil (fun w19 T t => ?_)
      replace hT := hT.tr t (by intro c_ hc_; (try simp only [mem_blk_cons, mem_blk_nil, or_false, false_or] at hc_ ⊢); grind [mem_blk_cons, mem_blk_nil])
      replace hN := hN.tr t (by intro c_ hc_; (try simp only [mem_blk_cons, mem_blk_nil, or_false, false_or] at hc_ ⊢); grind [mem_blk_cons, mem_blk_nil])
      have zt := t.size
      unfold C_cellplanelaw26_SessionOnce_17
      have hbt : bt ≠ b18 := by omega
      have hzl := (pz _ T).1
      refine ⟨fun v w' => ∃ (k : Nat) (ns : List Int), v = (k : Int) ∧ k ≤ zl.length ∧ Now noB w10 w' ∧ TabAt w' bt (tfold tab0 zl).1 ∧ IA w' b18 ns t_ar9_i64 ∧ Counts ns (tabs tab0 (zl.take k)), fun v => zl.length - v.toNat, ?_, ?_⟩
      · refine Reb.A T Anc.nil (fun w20 T t => ?_)
        replace hT := hT.tr t (by intro c_ hc_; (try simp only [mem_blk_cons, mem_blk_nil, or_false, false_or] at hc_ ⊢); grind [mem_blk_cons, mem_blk_nil])
        replace hN := hN.tr t (by intro c_ hc_; (try simp only [mem_blk_cons, mem_blk_nil, or_false, false_or] at hc_ ⊢); grind [mem_blk_cons, mem_blk_nil])
        have zt := t.size
        exact ⟨0, _, rfl, Nat.zero_le _, T, hT, hN, counts0⟩
      rintro v wd ⟨k, ns, rfl, hkl, T, hT, hN, hC⟩
      have zd := T.t.size
      have okk := tabs_ok tab0_ok (zl.take k)
      unfold L_cellplanelaw26_SessionOnce_18
      dsimp only
      unfold B_cellplanelaw26_SessionOnce_18
      refine ifbd (fun h2 => ?_) (fun h2 => ?_)
      · refine (pz _ T).idx (by omega) (by omega) (fun p x hp hx hat => ⟨x, hat, notIn_nil, fun b11 l11 => ?_⟩)
        rw [Int.toNat_natCast] at hx
        have hz0 := tfold_at_ok h0 hx
        obtain ⟨hv, hnum, _⟩ := tapply_zero hz0
        have hr := valid_range hv
        have hg := tget_ok okk (c := x.Client) (by omega) (by omega)
        have hcn := hC.2 x.Client (by omega) (by omega)
        have nb : b18 ≠ b11 := by have := Blk.lt hN; omega
        have anc : Anc noB w10 w.heap.size [⟨b11, x.cells, t_api_Change⟩] := by intro i hi _ hlt; simp [blk] at hi; omega
        refine ifbd (fun h => by omega) (fun _ => ?_)
        refine ifbd (fun h => by omega) (fun _ => ?_)
        refine ⟨by omega, by omega, _, hN.get hcn, by simp [add_block]; exact nb, ?_⟩
        rw [wrap_i64 (by omega) (by omega)]
        refine ifbnd (fun h => absurd hnum h) (fun _ => ?_)
        refine ⟨by omega, by omega, _, hN.get hcn, by simp [add_block]; exact nb, by omega, by omega, ?_⟩
        rw [wrap_i64 (by omega) (by omega)]
        refine ⟨hN.room (by rw [hC.1]; omega), by simp [add_block]; exact nb, ?_⟩
        have hN2 := hN.put (i := x.Client.toNat) (by rw [hC.1]; omega) ((tget (tabs tab0 (zl.take k)) x.Client).number + 1)
        have tp := (Touch.refl (fun i => i = b18) wd).putC (p := (⟨b18, 0, none⟩ : Addr).add (x.Client.toNat * 1)) (cs := [.int .i64 ((tget (tabs tab0 (zl.take k)) x.Client).number + 1)]) (fun _ => add_block _ _)
        have T := T.putC (p := (⟨b18, 0, none⟩ : Addr).add (x.Client.toNat * 1)) (cs := [.int .i64 ((tget (tabs tab0 (zl.take k)) x.Client).number + 1)]) (fun h => by rw [add_block] at h; simp only at h; omega)
        replace hT := hT.tr tp (fun c hc => by subst hc; exact hbt)
        have lt2 := Blk.lt hT
        have z2 := tp.size
        have lt3 : bt ≠ b11 := by rw [putC_size] at lt2; omega
        refine Reb.A T anc (fun w21 T t => ?_)
        replace hT := hT.tr t (fun c hc => by subst hc; simp [blk]; exact lt3)
        replace hN2 := hN2.tr t (fun c hc => by subst hc; simp [blk]; exact nb)
        have stepk : IntKind.i64.wrap ((k : Int) + 1) = ((k + 1 : Nat) : Int) := by rw [wrap_i64 (by omega) (by omega)]; simp
        refine ⟨rfl, ⟨k + 1, _, stepk, by omega, T, hT, hN2, ?_⟩, by rw [stepk]; omega⟩
        have := counts_step hC okk.len hz0
        rw [hnum] at this
        rw [List.take_add_one, hx]
        simp only [Option.toList_some, tabs_append, tabs]
        exact this
      · have hkz : k = zl.length := by omega
        refine Reb.A T Anc.nil (fun w21 T t => ?_)
        replace hT := hT.tr t (by intro c_ hc_; (try simp only [mem_blk_cons, mem_blk_nil, or_false, false_or] at hc_ ⊢); grind [mem_blk_cons, mem_blk_nil])
        replace hN := hN.tr t (by intro c_ hc_; (try simp only [mem_blk_cons, mem_blk_nil, or_false, false_or] at hc_ ⊢); grind [mem_blk_cons, mem_blk_nil])
        have zt := t.size
        rw [hkz, List.take_length, ← tfold_tabs h0] at hC
        refine once_check _ _ hT (by rw [tfold_tabs h0]; exact tabs_ok tab0_ok _) hN hC (fun w' T' => nextA w' (T.comp T'.t (fun _ _ h => h.elim)))
  · refine Reb.A T Anc.nil (fun w12 T t => ?_)
    unfold C_cellplanelaw26_SessionOnce_4
    exact Reb.A T Anc.nil (fun w13 T t => ⟨T0.t.comp T.t (fun _ _ h => h.elim), rfl⟩)

end Go.Sh
