/- The sanity check of the session laws, and the law of the replies.
   Conditions: none. -/
import Derived.Test.YtcligpfkmnlhnaaSP
namespace Go.Sh
open Go
set_option linter.unusedSimpArgs false
set_option linter.unusedVariables false
set_option maxHeartbeats 4000000

def chA : G_api_Change := ⟨1, 4, 3, 1, 1, 0, ByteArray.empty, ByteArray.empty⟩
def recA : G_session_record := ⟨1, ⟨0, 4, 4, ByteArray.empty⟩⟩
theorem empB_empty : empB ByteArray.empty = true := strEq_iff.2 rfl
theorem validM_chA : validM chA = true := by
  simp [validM, chA, empB_empty, isValueM]
theorem tapply_chA : tapply tab0 chA = (0, tab0.set 0 recA) := by
  unfold tapply
  rw [if_pos validM_chA, if_pos (by rfl)]
  rfl
theorem tabA_ok : TabOk (tab0.set 0 recA) := by
  have := tapply_ok tab0_ok chA
  rwa [tapply_chA] at this

theorem awake26_spec (w : World) : Spec PP n_cellplanelaw26_awake [] w noB (fun v _ => v = .bool true) := by
  refine cellplanelaw26_awake_calls _ w ?_
  unfold F_cellplanelaw26_awake
  have T : Now noB w w := Now.refl
  refine CallL.pA T Anc.nil (fun wa _ _ => session_New_spec wa) ?_
  rintro wa v w1 T t z1 z2 _ ⟨b, rfl, hb, hT⟩
  refine ⟨_, rfl, ?_⟩
  have lb : b < w1.heap.size := Blk.lt hT
  have zT := T.t.size
  refine CallL.vA T Anc.start (fun wa _ t => session_Find_spec (hT.tr t (by intro c_ hc_; (try simp only [mem_blk_cons, mem_blk_nil, or_false, false_or] at hc_ ⊢); grind [mem_blk_cons, mem_blk_nil])) tab0_ok 1 1) (fun w2 T t => ⟨_, _, rfl, fun b8 l8 => ?_⟩)
  replace hT := hT.tr t (by intro c_ hc_; (try simp only [mem_blk_cons, mem_blk_nil, or_false, false_or] at hc_ ⊢); grind [mem_blk_cons, mem_blk_nil])
  have zt := t.size
  refine CallL.A (fun i => i = b) T Anc.start (fun i hi => ⟨by omega, by simp [blk]; omega⟩) (fun i hi e => by omega) (fun wa _ t => session_Apply_spec (hT.tr t (by intro c_ hc_; (try simp only [mem_blk_cons, mem_blk_nil, or_false, false_or] at hc_ ⊢); grind [mem_blk_cons, mem_blk_nil])) tab0_ok chA) ?_
  rintro wa v w3 T t z3 z4 _ ⟨rfl, hT⟩
  rw [tapply_chA] at hT
  rw [tapply_chA]
  refine ⟨_, rfl, ?_⟩
  refine CallL.vA T Anc.start (fun wa _ t => session_Find_spec (hT.tr t (by intro c_ hc_; (try simp only [mem_blk_cons, mem_blk_nil, or_false, false_or] at hc_ ⊢); grind [mem_blk_cons, mem_blk_nil])) tabA_ok 1 1) (fun w4 T t => ⟨_, _, rfl, fun b16 l16 => ?_⟩)
  replace hT := hT.tr t (by intro c_ hc_; (try simp only [mem_blk_cons, mem_blk_nil, or_false, false_or] at hc_ ⊢); grind [mem_blk_cons, mem_blk_nil])
  have zt := t.size
  refine CallL.vA T Anc.start (fun wa _ t => session_Find_spec (hT.tr t (by intro c_ hc_; (try simp only [mem_blk_cons, mem_blk_nil, or_false, false_or] at hc_ ⊢); grind [mem_blk_cons, mem_blk_nil])) tabA_ok 1 2) (fun w5 T t => ⟨_, _, rfl, fun b21 l21 => ?_⟩)
  replace hT := hT.tr t (by intro c_ hc_; (try simp only [mem_blk_cons, mem_blk_nil, or_false, false_or] at hc_ ⊢); grind [mem_blk_cons, mem_blk_nil])
  have zt := t.size
  refine CallL.vA T Anc.start (fun wa _ t => session_Find_spec (hT.tr t (by intro c_ hc_; (try simp only [mem_blk_cons, mem_blk_nil, or_false, false_or] at hc_ ⊢); grind [mem_blk_cons, mem_blk_nil])) tabA_ok 1 3) (fun w6 T t => ⟨_, _, rfl, fun b26 l26 => ?_⟩)
  replace hT := hT.tr t (by intro c_ hc_; (try simp only [mem_blk_cons, mem_blk_nil, or_false, false_or] at hc_ ⊢); grind [mem_blk_cons, mem_blk_nil])
  have zt := t.size
  refine CallL.vA T Anc.start (fun wa _ t => session_Find_spec (hT.tr t (by intro c_ hc_; (try simp only [mem_blk_cons, mem_blk_nil, or_false, false_or] at hc_ ⊢); grind [mem_blk_cons, mem_blk_nil])) tabA_ok 9 1) (fun w7 T t => ⟨_, _, rfl, fun b31 l31 => ?_⟩)
  have e1 : tfind tab0 1 1 = (rep0, 34) := rfl
  have e2 : tfind (tab0.set 0 recA) 1 1 = (⟨0, 4, 4, ByteArray.empty⟩, 0) := rfl
  have e3 : tfind (tab0.set 0 recA) 1 2 = (rep0, 34) := rfl
  have e4 : tfind (tab0.set 0 recA) 1 3 = (rep0, 32) := rfl
  have e5 : tfind (tab0.set 0 recA) 9 1 = (rep0, 1) := rfl
  rw [e1, e2, e3, e4, e5]
  refine ifbd (fun _ => ?_) (fun h => absurd rfl h)
  refine ifbd (fun _ => ?_) (fun h => absurd rfl h)
  refine ifb (fun _ => ?_) (fun h => by rw [G_api_Reply.eqb_iff.2 rfl] at h; cases h)
  refine ifbd (fun _ => ?_) (fun h => absurd rfl h)
  refine ifbd (fun _ => ?_) (fun h => absurd rfl h)
  refine ifbd (fun _ => ?_) (fun h => absurd rfl h)
  exact Reb.A T Anc.start (fun w8 T t => ⟨T.t, rfl⟩)

theorem tfind_next {t : Tab} {x : G_api_Change} (h : (tapply t x).1 = 0) : (tfind t x.Client x.Number).2 = 34 := by
  obtain ⟨hv, hn, _⟩ := tapply_zero h
  have := valid_range hv
  unfold tfind
  rw [if_pos (by omega), if_neg (by omega), if_pos hn]

theorem tapply_again {t : Tab} {x : G_api_Change} (ht : t.length = 8) (h : (tapply t x).1 = 0) : (tapply (tapply t x).2 x).1 = 32 ∧ (tapply (tapply t x).2 x).2 = (tapply t x).2 ∧ tfind (tapply t x).2 x.Client x.Number = (treply x, 0) := by
  obtain ⟨hv, hn, he⟩ := tapply_zero h
  have hr := valid_range hv
  have hg : tget (t.set (x.Client - 1).toNat ⟨x.Number, treply x⟩) x.Client = ⟨x.Number, treply x⟩ := by
    rw [tget_set ht (by omega) (by omega) (by omega) (by omega), if_pos rfl]
  have e : tapply (tapply t x).2 x = (32, (tapply t x).2) := by
    rw [he]
    unfold tapply
    rw [if_pos hv, hg, if_neg (by simp only; omega)]
  refine ⟨by rw [e], by rw [e], ?_⟩
  rw [he]
  unfold tfind
  rw [hg, if_pos (by omega), if_pos rfl]

theorem SessionReplies_spec {w : World} {s : Sl} {xs : List Int} (hr : Rd intC 1 w s xs) (hs : ∀ c, s.on c → c < w.heap.size) : Spec PP n_cellplanelaw26_SessionReplies [.slice s.a s.n s.c] w noB (fun v _ => v = .bool true) := by
  refine cellplanelaw26_SessionReplies_calls s _ w ?_
  unfold F_cellplanelaw26_SessionReplies
  have T : Now noB w w := Now.refl
  have hl := hr.1
  refine Reb.A T Anc.nil (fun w1 T t => ?_)
  unfold C_cellplanelaw26_SessionReplies_1
  refine CallL.vA T Anc.nil (fun wa _ _ => awake26_spec wa) (fun w2 T t => ⟨_, rfl, ?_⟩)
  refine ifbn (fun h => by cases h) (fun _ => ?_)
  refine Reb.A T Anc.nil (fun w3 T t => ?_)
  unfold C_cellplanelaw26_SessionReplies_2
  refine CallL.vA T Anc.nil (fun wa _ _ => mill_Light_spec s wa) (fun w4 T t => ⟨_, rfl, ?_⟩)
  refine ifbn (fun h => Reb.A T Anc.nil (fun w5 T t => ⟨T.t, rfl⟩)) (fun hli => ?_)
  have hle : s.n ≤ 150 := by simpa using hli
  refine Reb.A T Anc.nil (fun w5 T t => ?_)
  unfold C_cellplanelaw26_SessionReplies_3
  refine CallL.pA T Anc.nil (fun wa Ta _ => mill_History_spec (hr.tr Ta.t (by simp)) (by omega) (fun i hi => by have := hs i hi; have := Ta.t.size; omega)) ?_
  rintro wa v w6 T t z1 z2 _ ⟨h, rfl, hH, hh⟩
  refine ⟨_, rfl, ?_⟩
  have zz := T.t.size
  have hlt := hH.lt
  refine Reb.A T Anc.nil (fun w7 T t => ?_)
  replace hH := hH.tr t (by intro c_ hc_; (try simp only [mem_blk_cons, mem_blk_nil, or_false, false_or] at hc_ ⊢); grind [mem_blk_cons, mem_blk_nil])
  have zt := t.size
  unfold C_cellplanelaw26_SessionReplies_4
  refine CallL.pA T Anc.nil (fun wa _ _ => session_New_spec wa) ?_
  rintro wa2 v w8 T t z3 z4 _ ⟨b, rfl, hb, hT⟩
  refine ⟨_, rfl, ?_⟩
  replace hH := hH.tr t (by intro c_ hc_; (try simp only [mem_blk_cons, mem_blk_nil, or_false, false_or] at hc_ ⊢); grind [mem_blk_cons, mem_blk_nil])
  have zt := t.size
  have bh : ∀ i, h.on i → i ≠ b := fun i hi => by have := hlt i hi; omega
  have bN : w.heap.size ≤ b := by omega
  refine Reb.A T Anc.nil (fun w9 T t => ?_)
  replace hH := hH.tr t (by intro c_ hc_; (try simp only [mem_blk_cons, mem_blk_nil, or_false, false_or] at hc_ ⊢); grind [mem_blk_cons, mem_blk_nil])
  replace hT := hT.tr t (by intro c_ hc_; (try simp only [mem_blk_cons, mem_blk_nil, or_false, false_or] at hc_ ⊢); grind [mem_blk_cons, mem_blk_nil])
  have zt := t.size
  unfold C_cellplanelaw26_SessionReplies_5
  refine Reb.A T Anc.nil (fun w10 T t => ?_)
  replace hH := hH.tr t (by intro c_ hc_; (try simp only [mem_blk_cons, mem_blk_nil, or_false, false_or] at hc_ ⊢); grind [mem_blk_cons, mem_blk_nil])
  replace hT := hT.tr t (by intro c_ hc_; (try simp only [mem_blk_cons, mem_blk_nil, or_false, false_or] at hc_ ⊢); grind [mem_blk_cons, mem_blk_nil])
  have zt := t.size
  unfold C_cellplanelaw26_SessionReplies_7
  obtain ⟨tf, htf, hf, hlen⟩ := hist_ok xs
  have hf0 : (tfold tab0 (histM xs)).2.2 = 0 := by rw [hf]
  have hhl := hH.rd.1
  refine ⟨fun v w' => ∃ m : Nat, v = m ∧ m ≤ (histM xs).length ∧ Now noB w w' ∧ TabAt w' b (tabs tab0 ((histM xs).take m)) ∧ Ro chC 8 w' h (histM xs), fun v => (histM xs).length - v.toNat, ?_, ?_⟩
  · refine Reb.A T Anc.nil (fun w11 T t => ?_)
    replace hH := hH.tr t (by intro c_ hc_; (try simp only [mem_blk_cons, mem_blk_nil, or_false, false_or] at hc_ ⊢); grind [mem_blk_cons, mem_blk_nil])
    replace hT := hT.tr t (by intro c_ hc_; (try simp only [mem_blk_cons, mem_blk_nil, or_false, false_or] at hc_ ⊢); grind [mem_blk_cons, mem_blk_nil])
    have zt := t.size
    exact ⟨0, rfl, Nat.zero_le _, T, hT, hH⟩
  · rintro v wb ⟨m, rfl, hml, T, hT, hH⟩
    have hok := tabs_ok tab0_ok ((histM xs).take m)
    unfold L_cellplanelaw26_SessionReplies_8
    dsimp only
    unfold B_cellplanelaw26_SessionReplies_8
    refine Reb.A T Anc.nil (fun w11 T t => ?_)
    replace hH := hH.tr t (by intro c_ hc_; (try simp only [mem_blk_cons, mem_blk_nil, or_false, false_or] at hc_ ⊢); grind [mem_blk_cons, mem_blk_nil])
    replace hT := hT.tr t (by intro c_ hc_; (try simp only [mem_blk_cons, mem_blk_nil, or_false, false_or] at hc_ ⊢); grind [mem_blk_cons, mem_blk_nil])
    have zt := t.size
    unfold C_cellplanelaw26_SessionReplies_9
    refine ifbd (fun h1 => ?_) (fun h1 => ?_)
    · refine Reb.A T Anc.nil (fun w12 T t => ?_)
      replace hH := hH.tr t (by intro c_ hc_; (try simp only [mem_blk_cons, mem_blk_nil, or_false, false_or] at hc_ ⊢); grind [mem_blk_cons, mem_blk_nil])
      replace hT := hT.tr t (by intro c_ hc_; (try simp only [mem_blk_cons, mem_blk_nil, or_false, false_or] at hc_ ⊢); grind [mem_blk_cons, mem_blk_nil])
      have zt := t.size
      unfold C_cellplanelaw26_SessionReplies_10
      refine hH.rd.idx (by omega) (by omega) (fun p x hp hx hat => ⟨x, hat, notIn_nil, fun b26 l26 => ?_⟩)
      rw [Int.toNat_natCast] at hx
      have hz := tfold_at_ok hf0 hx
      obtain ⟨ha1, ha2, ha3⟩ := tapply_again hok.len hz
      have lb : b < w12.heap.size := Blk.lt hT
      have lh := hH.lt
      have zz := T.t.size
      refine Reb.A T Anc.start (fun w13 T t => ?_)
      replace hH := hH.tr t (by intro c_ hc_; (try simp only [mem_blk_cons, mem_blk_nil, or_false, false_or] at hc_ ⊢); grind [mem_blk_cons, mem_blk_nil])
      replace hT := hT.tr t (by intro c_ hc_; (try simp only [mem_blk_cons, mem_blk_nil, or_false, false_or] at hc_ ⊢); grind [mem_blk_cons, mem_blk_nil])
      have zt := t.size
      unfold C_cellplanelaw26_SessionReplies_12
      refine CallL.vA T Anc.start (fun wa _ t => session_Find_spec (hT.tr t (by intro c_ hc_; (try simp only [mem_blk_cons, mem_blk_nil, or_false, false_or] at hc_ ⊢); grind [mem_blk_cons, mem_blk_nil])) hok x.Client x.Number) (fun w14 T t => ⟨_, _, rfl, fun b16 l16 => ?_⟩)
      replace hH := hH.tr t (by intro c_ hc_; (try simp only [mem_blk_cons, mem_blk_nil, or_false, false_or] at hc_ ⊢); grind [mem_blk_cons, mem_blk_nil])
      replace hT := hT.tr t (by intro c_ hc_; (try simp only [mem_blk_cons, mem_blk_nil, or_false, false_or] at hc_ ⊢); grind [mem_blk_cons, mem_blk_nil])
      have zt := t.size
      refine ifbnd (fun h => absurd (tfind_next hz) h) (fun _ => ?_)
      refine CallL.A (fun i => i = b) T Anc.start (fun i hi => ⟨by omega, by simp [blk]; omega⟩) (fun i hi e => by omega) (fun wa _ t => session_Apply_spec (hT.tr t (by intro c_ hc_; (try simp only [mem_blk_cons, mem_blk_nil, or_false, false_or] at hc_ ⊢); grind [mem_blk_cons, mem_blk_nil])) hok x) ?_
      rintro wa v w15 T t z5 z6 _ ⟨rfl, hT⟩
      refine ⟨_, rfl, ?_⟩
      replace hH := hH.tr t (by intro c_ hc_; (try simp only [mem_blk_cons, mem_blk_nil, or_false, false_or] at hc_ ⊢); grind [mem_blk_cons, mem_blk_nil])
      have zt := t.size
      refine ifbnd (fun h => absurd hz h) (fun _ => ?_)
      have hok2 := tapply_ok hok x
      refine CallL.A (fun i => i = b) T Anc.start (fun i hi => ⟨by omega, by simp [blk]; omega⟩) (fun i hi e => by omega) (fun wa _ t => session_Apply_spec (hT.tr t (by intro c_ hc_; (try simp only [mem_blk_cons, mem_blk_nil, or_false, false_or] at hc_ ⊢); grind [mem_blk_cons, mem_blk_nil])) hok2 x) ?_
      rintro wa v w16 T t z5 z6 _ ⟨rfl, hT⟩
      refine ⟨_, rfl, ?_⟩
      rw [ha2] at hT
      replace hH := hH.tr t (by intro c_ hc_; (try simp only [mem_blk_cons, mem_blk_nil, or_false, false_or] at hc_ ⊢); grind [mem_blk_cons, mem_blk_nil])
      have zt := t.size
      refine ifbnd (fun h => absurd ha1 h) (fun _ => ?_)
      refine Reb.A T Anc.start (fun w17 T t => ?_)
      replace hH := hH.tr t (by intro c_ hc_; (try simp only [mem_blk_cons, mem_blk_nil, or_false, false_or] at hc_ ⊢); grind [mem_blk_cons, mem_blk_nil])
      replace hT := hT.tr t (by intro c_ hc_; (try simp only [mem_blk_cons, mem_blk_nil, or_false, false_or] at hc_ ⊢); grind [mem_blk_cons, mem_blk_nil])
      have zt := t.size
      unfold C_cellplanelaw26_SessionReplies_13
      refine CallL.vA T Anc.start (fun wa _ t => session_Find_spec (hT.tr t (by intro c_ hc_; (try simp only [mem_blk_cons, mem_blk_nil, or_false, false_or] at hc_ ⊢); grind [mem_blk_cons, mem_blk_nil])) hok2 x.Client x.Number) (fun w18 T t => ⟨_, _, rfl, fun b10 l10 => ?_⟩)
      rw [ha3]
      replace hH := hH.tr t (by intro c_ hc_; (try simp only [mem_blk_cons, mem_blk_nil, or_false, false_or] at hc_ ⊢); grind [mem_blk_cons, mem_blk_nil])
      replace hT := hT.tr t (by intro c_ hc_; (try simp only [mem_blk_cons, mem_blk_nil, or_false, false_or] at hc_ ⊢); grind [mem_blk_cons, mem_blk_nil])
      have zt := t.size
      have key : ∀ wz, Now noB w wz → TabAt wz b (tapply (tabs tab0 ((histM xs).take m)) x).2 → Ro chC 8 wz h (histM xs) → ∀ item, item = (treply x).Item →
          C_cellplanelaw26_SessionReplies_16 w.heap.size (fun c' x' w' => c' = (some ⟨b, 0, none⟩, h, ((h.n : Nat) : Int)) ∧ (∃ m : Nat, x' = (m : Int) ∧ m ≤ (histM xs).length ∧ Now noB w w' ∧ TabAt w' b (tabs tab0 ((histM xs).take m)) ∧ Ro chC 8 w' h (histM xs)) ∧ (histM xs).length - x'.toNat < (histM xs).length - ((m : Nat) : Int).toNat)
            (fun v w' => Touch noB w w' ∧ v = .bool true) (some ⟨b, 0, none⟩) b26 x t_api_Change b10 (treply x) t_api_Reply 0 item h ((h.n : Nat) : Int) m wz := by
        intro wz T hT hH item hit
        unfold C_cellplanelaw26_SessionReplies_16
        refine ifbnd (fun h => absurd rfl h) (fun _ => ?_)
        refine ifbn (fun h => ?_) (fun _ => ?_)
        · rw [G_api_Reply.eqb_iff.2 (by rw [hit]; rfl)] at h; cases h
        refine Reb.A T Anc.start (fun w19 T t => ?_)
        replace hH := hH.tr t (by intro c_ hc_; (try simp only [mem_blk_cons, mem_blk_nil, or_false, false_or] at hc_ ⊢); grind [mem_blk_cons, mem_blk_nil])
        replace hT := hT.tr t (by intro c_ hc_; (try simp only [mem_blk_cons, mem_blk_nil, or_false, false_or] at hc_ ⊢); grind [mem_blk_cons, mem_blk_nil])
        have zt := t.size
        unfold C_cellplanelaw26_SessionReplies_11
        refine Reb.A T Anc.start (fun w20 T t => ?_)
        replace hH := hH.tr t (by intro c_ hc_; (try simp only [mem_blk_cons, mem_blk_nil, or_false, false_or] at hc_ ⊢); grind [mem_blk_cons, mem_blk_nil])
        replace hT := hT.tr t (by intro c_ hc_; (try simp only [mem_blk_cons, mem_blk_nil, or_false, false_or] at hc_ ⊢); grind [mem_blk_cons, mem_blk_nil])
        have zt := t.size
        have step : IntKind.i64.wrap ((m : Int) + 1) = ((m + 1 : Nat) : Int) := by rw [wrap_i64 (by omega) (by omega)]; simp
        refine ⟨rfl, ⟨m + 1, step, by omega, T, ?_, hH⟩, by rw [step]; omega⟩
        rw [List.take_add_one, hx]
        simp only [Option.toList_some, tabs_append, tabs]
        exact hT
      refine Reb.A T Anc.start (fun w19 T t => ?_)
      replace hH := hH.tr t (by intro c_ hc_; (try simp only [mem_blk_cons, mem_blk_nil, or_false, false_or] at hc_ ⊢); grind [mem_blk_cons, mem_blk_nil])
      replace hT := hT.tr t (by intro c_ hc_; (try simp only [mem_blk_cons, mem_blk_nil, or_false, false_or] at hc_ ⊢); grind [mem_blk_cons, mem_blk_nil])
      have zt := t.size
      unfold C_cellplanelaw26_SessionReplies_14
      refine Reb.A T Anc.start (fun w20 T t => ?_)
      replace hH := hH.tr t (by intro c_ hc_; (try simp only [mem_blk_cons, mem_blk_nil, or_false, false_or] at hc_ ⊢); grind [mem_blk_cons, mem_blk_nil])
      replace hT := hT.tr t (by intro c_ hc_; (try simp only [mem_blk_cons, mem_blk_nil, or_false, false_or] at hc_ ⊢); grind [mem_blk_cons, mem_blk_nil])
      have zt := t.size
      unfold C_cellplanelaw26_SessionReplies_15
      have hv := (tapply_zero hz).1
      have hvr := valid_range hv
      refine ifbd (fun hk => ?_) (fun hk => ?_)
      · refine Reb.A T Anc.start (fun w21 T t => ?_)
        replace hH := hH.tr t (by intro c_ hc_; (try simp only [mem_blk_cons, mem_blk_nil, or_false, false_or] at hc_ ⊢); grind [mem_blk_cons, mem_blk_nil])
        replace hT := hT.tr t (by intro c_ hc_; (try simp only [mem_blk_cons, mem_blk_nil, or_false, false_or] at hc_ ⊢); grind [mem_blk_cons, mem_blk_nil])
        have zt := t.size
        exact key w21 T hT hH _ (by simp [treply, hk])
      · refine Reb.A T Anc.start (fun w21 T t => ?_)
        replace hH := hH.tr t (by intro c_ hc_; (try simp only [mem_blk_cons, mem_blk_nil, or_false, false_or] at hc_ ⊢); grind [mem_blk_cons, mem_blk_nil])
        replace hT := hT.tr t (by intro c_ hc_; (try simp only [mem_blk_cons, mem_blk_nil, or_false, false_or] at hc_ ⊢); grind [mem_blk_cons, mem_blk_nil])
        have zt := t.size
        refine key w21 T hT hH _ ?_
        by_cases hk4 : x.Kind = 4
        · simp [treply, hk4]
        · have := hvr.2.2.2.2.2.2.2.2.2.2.1 hk4
          simp [treply, hk, hk4, this]
    · refine Reb.A T Anc.nil (fun w12 T t => ?_)
      unfold C_cellplanelaw26_SessionReplies_6
      exact Reb.A T Anc.nil (fun w13 T t => ⟨T.t, rfl⟩)

end Go.Sh
