/- The contract of the reference's copy of a tenant: Apply.
   Conditions: none. -/
import Derived.Test.YtcligpfkmnlhnaaSO0
namespace Go.Sh
open Go
set_option linter.unusedSimpArgs false
set_option linter.unusedVariables false
set_option maxHeartbeats 4000000

theorem Z_table_len : Z_cellplaneref26_Table.length = 40 := by rfl

theorem Blk.over {w : World} {b : Nat} {cs ds : List Value} {T : TypeId} (h : Blk w b cs T) (hl : ds.length = cs.length) : Blk (Sh.putC w ⟨b, 0, none⟩ ds) b ds T := by
  have := h.putC 0 ds
  rw [lspl_eq _ _ _ (by omega)] at this
  simpa [hl] using this

theorem Blk.rdAll {α : Type} {c : α → List Value} {k n : Nat} (hk : ∀ x, (c x).length = k) {w : World} {b : Nat} {T : TypeId} {xs : List α} (h : Blk w b (xs.flatMap c) T) (hn : xs.length = n) : Rd c k w ⟨some ⟨b, 0, none⟩, n, n⟩ xs := by
  refine ⟨hn, fun h => (by cases h), fun p hp i x hx => ?_⟩
  cases hp
  rw [add_plain, Nat.zero_add]
  have := Blk.elem hk (pre := []) (post := []) (w := w) (b := b) (T := T) (xs := xs) (by simpa using h) hx
  simpa using this

def CErr (m : CM) (x : G_api_Change) : List Int := [(tapply m.t x).1, (sapply m.s x).1, (qapply m.m x).1]

theorem copy28_Apply_spec {w : World} {c : Nat} {d : CD} {m : CM} (hC0 : CopyAt w c d m) (ok : COk m) (hm : m.h.length < 1000000) (x : G_api_Change) :
    Spec PP n_cellplaneref28_Copy_Apply [.pointer (some ⟨c, 0, none⟩), .agg (List.toArray x.cells)] w (fun i => i = c)
    (fun v w' => v = .int .i64 (capply m x).1 ∧ ∃ d', CopyAt w' c d' (capply m x).2 ∧ ∀ i, d'.on i → d.on i ∨ w.heap.size ≤ i) := by
  refine cellplaneref28_Copy_Apply_calls (some ⟨c, 0, none⟩) x _ w ?_
  unfold F_cellplaneref28_Copy_Apply
  have T : Now noB w w := Now.refl
  have hC : ∀ w', Now noB w w' → CopyAt w' c d m := fun w' T' => hC0.tr T'.t (fun _ _ h => h)
  have cl : ∀ i, (i = c ∨ d.on i) → i < w.heap.size := fun i hi => hC0.lt hi
  have clt := cl c (Or.inl rfl)
  have Hon : ∀ i, d.sH.on i → d.on i := fun i h => Or.inl h
  have Son : ∀ i, (i = d.bS ∨ d.sS.on i) → d.on i := fun i h => Or.inr (Or.inl h)
  have Qon : ∀ i, (i = d.bQ ∨ d.sQ.on i ∨ d.sR.on i) → d.on i := fun i h => Or.inr (Or.inr (Or.inl h))
  have Ton : d.on d.bT := Or.inr (Or.inr (Or.inr rfl))
  have hap := hC0.ap
  have hql := ok.q
  have hsl := ok.s
  have hls : m.m.ls.length = 0 := by rw [ok.ls]; rfl
  have hHl := hC0.h.rd.1
  intro b3 hb3
  have cL : ∀ i, (i = c ∨ d.on i) → NotIn i [⟨b3, x.cells, t_api_Change⟩] := fun i hi => by have := cl i hi; simp; omega
  have cL0 := cL c (Or.inl rfl)
  have same : ∀ wc, Now noB w wc → ∀ e, capply m x = (e, m) → Reb w.heap.size wc [⟨b3, x.cells, t_api_Change⟩] (fun w' => Touch (fun i => i = c) w w' ∧ (Value.int .i64 e) = .int .i64 (capply m x).1 ∧ ∃ d', CopyAt w' c d' (capply m x).2 ∧ ∀ i, d'.on i → d.on i ∨ w.heap.size ≤ i) := by
    intro wc Tc e he
    refine Reb.use Tc (Nat.le_refl _) (fun wd Td td _ => ⟨(Td.mono (fun _ _ h => h.elim)).t, by rw [he], d, ?_, fun i hi => Or.inl hi⟩)
    rw [he]
    exact hC _ Td
  refine Reb.use T (Nat.le_refl _) (fun w1 T1 _ _ => ?_)
  unfold C_cellplaneref28_Copy_Apply_1
  refine CallL.val T1 (Nat.le_refl _) (fun wa _ _ => ref24_Valid_spec _ _) (fun w2 T2 t2 => ⟨_, rfl, ?_⟩)
  refine ifbn (fun hv => ?_) (fun hv => ?_)
  · exact same w2 T2 1 (by simp [capply, hv])
  refine Reb.use T2 (Nat.le_refl _) (fun w3 T3 _ _ => ?_)
  unfold C_cellplaneref28_Copy_Apply_2
  refine nilL ⟨d.sH, (hC _ T3).at_.at 2 rfl, cL0, ?_⟩
  rw [wrap_i64 (by omega) (by omega)]
  refine ifbnd (fun h1 => ?_) (fun h1 => ?_)
  · exact same w3 T3 36 (by simp [capply, hv]; omega)
  refine CallL.val T3 (Nat.le_refl _) (fun wa Ta _ => Epoch_spec (hC _ Ta) hm) (fun w4 T4 t4 => ⟨_, rfl, ?_⟩)
  refine ifbd (fun h2 => ?_) (fun h2 => ?_)
  · exact same w4 T4 36 (by simp [capply, hv]; omega)
  have hcap : ∀ {α : Type} (a b : α), (if x.Seq ≠ (m.h.length : Int) + 1 ∨ x.Epoch < epochM m.h then a else b) = b := fun a b => if_neg (by omega)
  refine Reb.use T4 (Nat.le_refl _) (fun w5 T5 _ _ => ?_)
  -- the three parts are there
  have fin : ∀ w6 bt bs bq sq sr, Now noB w w6 → RTabAt w6 bt m.t → StoreAt w6 bs d.sS m.s → QueueAt w6 bq sq m.m.q sr m.m.ls m.m.most → (∀ i, (i = bt ∨ i = bs ∨ i = bq ∨ sq.on i ∨ sr.on i) → w.heap.size ≤ i ∧ i ≠ b3) →
      bt ≠ bs → (∀ i, (i = bq ∨ sq.on i ∨ sr.on i) → i ≠ bt ∧ i ≠ bs) →
      C_cellplaneref28_Copy_Apply_4 w.heap.size (fun v w' => Touch (fun i => i = c) w w' ∧ (fun v w' => v = .int .i64 (capply m x).1 ∧ ∃ d', CopyAt w' c d' (capply m x).2 ∧ ∀ i, d'.on i → d.on i ∨ w.heap.size ≤ i) v w')
        (some ⟨c, 0, none⟩) b3 x t_api_Change ⟨bt, 0, none⟩ ⟨bs, 0, none⟩ (some ⟨bq, 0, none⟩) w6 := by
    intro w6 bt bs bq sq sr T hT hS hq hnew hne hqne
    have lq : ∀ i, (i = bq ∨ sq.on i ∨ sr.on i) → i < w6.heap.size := fun i hi => by rcases hi with rfl | h | h; exact hq.at_.lt; exact hq.ll.lt i h; exact hq.rr.lt i h
    have lt' : bt < w6.heap.size := Blk.lt hT
    have ls' : bs < w6.heap.size := hS.at_.lt
    have hSon : ∀ i, d.sS.on i → i < w.heap.size := fun i hi => cl i (Or.inr (Son i (Or.inr hi)))
    have z6 := T.t.size
    unfold C_cellplaneref28_Copy_Apply_4
    refine CallL.turn' (fun i => i = bt) T (Nat.le_refl _) (fun i hi => ⟨by omega, by have := hnew i (Or.inl hi); simp [blk]; omega⟩) (fun i h e => by have := hnew i (Or.inl e); omega) (fun wa _ t => ref26_Apply_spec (hT.tr t (by intro c_ hc_; (try simp only [mem_blk_cons, mem_blk_nil, or_false, false_or] at hc_ ⊢); grind [mem_blk_cons, mem_blk_nil])) ok.t x) ?_
    rintro wa v w7 T t y1 y2 y3 ⟨rfl, hT⟩
    refine ⟨_, rfl, ?_⟩
    replace hS := hS.tr t (by intro c_ hc_; (try simp only [mem_blk_cons, mem_blk_nil, or_false, false_or] at hc_ ⊢); grind [mem_blk_cons, mem_blk_nil])
    replace hq := hq.tr t (by intro c_ hc_; (try simp only [mem_blk_cons, mem_blk_nil, or_false, false_or] at hc_ ⊢); grind [mem_blk_cons, mem_blk_nil])
    have zt := t.size
    refine CallL.turn' (fun i => i = bs) T (Nat.le_refl _) (fun i hi => ⟨by omega, by have := hnew i (Or.inr (Or.inl hi)); simp [blk]; omega⟩) (fun i h e => by have := hnew i (Or.inr (Or.inl e)); omega) (fun wa _ t => store24_Apply_spec (hS.tr t (by intro c_ hc_; (try simp only [mem_blk_cons, mem_blk_nil, or_false, false_or] at hc_ ⊢); grind [mem_blk_cons, mem_blk_nil])) (by omega) x) ?_
    rintro wa2 v w8 T t y4 y5 y6 ⟨rfl, sS', hS, fS⟩
    refine ⟨_, rfl, ?_⟩
    have b3l : b3 < wa2.heap.size := y6 b3 (by simp [blk])
    replace hT := hT.tr t (by intro c_ hc_; (try simp only [mem_blk_cons, mem_blk_nil, or_false, false_or] at hc_ ⊢); grind [mem_blk_cons, mem_blk_nil])
    replace hq := hq.tr t (by intro c_ hc_; (try simp only [mem_blk_cons, mem_blk_nil, or_false, false_or] at hc_ ⊢); grind [mem_blk_cons, mem_blk_nil])
    have zt := t.size
    refine CallL.turn' (fun i => i = bq) T (Nat.le_refl _) (fun i hi => ⟨by have := lq i (Or.inl hi); omega, by have := hnew i (Or.inr (Or.inr (Or.inl hi))); simp [blk]; omega⟩) (fun i h e => by have := hnew i (Or.inr (Or.inr (Or.inl e))); omega) (fun wa _ t => queue25_Apply_spec (m := m.m) (hq.tr t (by intro c_ hc_; (try simp only [mem_blk_cons, mem_blk_nil, or_false, false_or] at hc_ ⊢); grind [mem_blk_cons, mem_blk_nil])) (by omega) (by omega) x) ?_
    rintro wa3 v w9 T t y7 y8 y9 ⟨rfl, sq', sr', hq, fq, fr⟩
    refine ⟨_, rfl, ?_⟩
    have lS2 : ∀ i, sS'.on i → i < w8.heap.size := hS.lt
    replace hT := hT.tr t (by intro c_ hc_; (try simp only [mem_blk_cons, mem_blk_nil, or_false, false_or] at hc_ ⊢); grind [mem_blk_cons, mem_blk_nil])
    replace hS := hS.tr t (by intro c_ hc_; (try simp only [mem_blk_cons, mem_blk_nil, or_false, false_or] at hc_ ⊢); grind [mem_blk_cons, mem_blk_nil])
    have zt := t.size
    have news : ∀ i, (i = bt ∨ i = bs ∨ i = bq ∨ sq'.on i ∨ sr'.on i) → w.heap.size ≤ i ∧ i ≠ b3 := by grind
    have newS : ∀ i, sS'.on i → i ≠ b3 ∧ i ≠ c ∧ (d.on i ∨ w.heap.size ≤ i) := by grind
    refine NewL.blk T (Nat.le_refl _) (fun b56 w10 T t hE lE => ?_)
    replace hT := hT.tr t (by intro c_ hc_; (try simp only [mem_blk_cons, mem_blk_nil, or_false, false_or] at hc_ ⊢); grind [mem_blk_cons, mem_blk_nil])
    replace hS := hS.tr t (by intro c_ hc_; (try simp only [mem_blk_cons, mem_blk_nil, or_false, false_or] at hc_ ⊢); grind [mem_blk_cons, mem_blk_nil])
    replace hq := hq.tr t (by intro c_ hc_; (try simp only [mem_blk_cons, mem_blk_nil, or_false, false_or] at hc_ ⊢); grind [mem_blk_cons, mem_blk_nil])
    have zt := t.size
    refine Reb.use T (Nat.le_refl _) (fun w11 T11 t11 _ => ?_)
    replace hT := hT.tr t11 (by intro c_ hc_; (try simp only [mem_blk_cons, mem_blk_nil, or_false, false_or] at hc_ ⊢); grind [mem_blk_cons, mem_blk_nil])
    replace hS := hS.tr t11 (by intro c_ hc_; (try simp only [mem_blk_cons, mem_blk_nil, or_false, false_or] at hc_ ⊢); grind [mem_blk_cons, mem_blk_nil])
    replace hq := hq.tr t11 (by intro c_ hc_; (try simp only [mem_blk_cons, mem_blk_nil, or_false, false_or] at hc_ ⊢); grind [mem_blk_cons, mem_blk_nil])
    replace hE := hE.tr t11 (by intro c_ hc_; (try simp only [mem_blk_cons, mem_blk_nil, or_false, false_or] at hc_ ⊢); grind [mem_blk_cons, mem_blk_nil])
    unfold C_cellplaneref28_Copy_Apply_6
    have hE' : Blk w11 b56 ((CErr m x).flatMap intC) t_api_Errno := hE
    refine ⟨fun v w' => ∃ k : Nat, v = k ∧ k ≤ 3 ∧ Now noB w w' ∧ RTabAt w' bt (tapply m.t x).2 ∧ StoreAt w' bs sS' (sapply m.s x).2 ∧ QueueAt w' bq sq' (qapply m.m x).2.q sr' (qapply m.m x).2.ls (qapply m.m x).2.most ∧ Blk w' b56 ((CErr m x).flatMap intC) t_api_Errno ∧ (∀ j, j < k → (CErr m x)[j]? = some 0), fun v => 3 - v.toNat, ?_, ?_⟩
    · refine Reb.use T11 (Nat.le_refl _) (fun w12 T12 t12 _ => ?_)
      replace hT := hT.tr t12 (by intro c_ hc_; (try simp only [mem_blk_cons, mem_blk_nil, or_false, false_or] at hc_ ⊢); grind [mem_blk_cons, mem_blk_nil])
      replace hS := hS.tr t12 (by intro c_ hc_; (try simp only [mem_blk_cons, mem_blk_nil, or_false, false_or] at hc_ ⊢); grind [mem_blk_cons, mem_blk_nil])
      replace hq := hq.tr t12 (by intro c_ hc_; (try simp only [mem_blk_cons, mem_blk_nil, or_false, false_or] at hc_ ⊢); grind [mem_blk_cons, mem_blk_nil])
      replace hE' := hE'.tr t12 (by intro c_ hc_; (try simp only [mem_blk_cons, mem_blk_nil, or_false, false_or] at hc_ ⊢); grind [mem_blk_cons, mem_blk_nil])
      exact ⟨0, rfl, by omega, T12, hT, hS, hq, hE', fun j hj => by omega⟩
    · rintro v wb ⟨k, rfl, hk3, T, hT, hS, hq, hE, hz⟩
      unfold L_cellplaneref28_Copy_Apply_7
      dsimp only
      unfold B_cellplaneref28_Copy_Apply_7
      refine ifbd (fun h3 => ?_) (fun h3 => ?_)
      · refine (Blk.rdAll (n := 3) intC_len hE rfl).idx (by omega) (by simp only; omega) (fun p n hp hx hat => ?_)
        rw [Int.toNat_natCast] at hx
        refine ⟨n, hat, ?_, ?_⟩
        · cases hp; simp [add_block]; intro e; exact lE.2.2.2 (by simp [blk, e])
        · refine ifbnd (fun h4 => ?_) (fun h4 => ?_)
          · refine same wb T n ?_
            have hk : k = 0 ∨ k = 1 ∨ k = 2 := by omega
            unfold capply
            rw [if_pos hv, hcap]
            rcases hk with rfl | rfl | rfl
            · simp [CErr] at hx; subst hx; rw [if_pos h4]
            · have z1 := hz 0 (by omega)
              simp [CErr] at hx z1; subst hx; rw [if_neg (by omega), if_pos h4]
            · have z1 := hz 0 (by omega)
              have z2 := hz 1 (by omega)
              simp [CErr] at hx z1 z2; subst hx; rw [if_neg (by omega), if_neg (by omega), if_pos h4]
          · refine Reb.use T (Nat.le_refl _) (fun w12 T12 t12 _ => ?_)
            replace hT := hT.tr t12 (by intro c_ hc_; (try simp only [mem_blk_cons, mem_blk_nil, or_false, false_or] at hc_ ⊢); grind [mem_blk_cons, mem_blk_nil])
            replace hS := hS.tr t12 (by intro c_ hc_; (try simp only [mem_blk_cons, mem_blk_nil, or_false, false_or] at hc_ ⊢); grind [mem_blk_cons, mem_blk_nil])
            replace hq := hq.tr t12 (by intro c_ hc_; (try simp only [mem_blk_cons, mem_blk_nil, or_false, false_or] at hc_ ⊢); grind [mem_blk_cons, mem_blk_nil])
            replace hE := hE.tr t12 (by intro c_ hc_; (try simp only [mem_blk_cons, mem_blk_nil, or_false, false_or] at hc_ ⊢); grind [mem_blk_cons, mem_blk_nil])
            have step : IntKind.i64.wrap ((k : Int) + 1) = ((k + 1 : Nat) : Int) := by rw [wrap_i64 (by omega) (by omega)]; simp
            refine ⟨rfl, ⟨k + 1, step, by omega, T12, hT, hS, hq, hE, fun j hj => ?_⟩, ?_⟩
            · rcases Nat.lt_or_ge j k with h' | h'
              · exact hz j h'
              · have : j = k := by omega
                subst this; rw [hx, h4]
            · rw [step]; omega
      · have hk : k = 3 := by omega
        subst hk
        have z1 := hz 0 (by omega)
        have z2 := hz 1 (by omega)
        have z3 := hz 2 (by omega)
        simp [CErr] at z1 z2 z3
        have res : capply m x = (0, ⟨m.h ++ [x], (sapply m.s x).2, (qapply m.m x).2, (tapply m.t x).2⟩) := by
          unfold capply
          rw [if_pos hv, hcap, if_neg (by omega), if_neg (by omega), if_neg (by omega)]
        refine Reb.use T (Nat.le_refl _) (fun w12 T12 t12 _ => ?_)
        replace hT := hT.tr t12 (by intro c_ hc_; (try simp only [mem_blk_cons, mem_blk_nil, or_false, false_or] at hc_ ⊢); grind [mem_blk_cons, mem_blk_nil])
        replace hS := hS.tr t12 (by intro c_ hc_; (try simp only [mem_blk_cons, mem_blk_nil, or_false, false_or] at hc_ ⊢); grind [mem_blk_cons, mem_blk_nil])
        replace hq := hq.tr t12 (by intro c_ hc_; (try simp only [mem_blk_cons, mem_blk_nil, or_false, false_or] at hc_ ⊢); grind [mem_blk_cons, mem_blk_nil])
        exact copy28_end T12 (hC _ T12).at_ (hC _ T12).h hT hS hq clt (fun i hi => ⟨cl i (Or.inr (Hon i hi)), hap i (Hon i hi)⟩) hb3 news newS hm res
  unfold C_cellplaneref28_Copy_Apply_3
  have hrl := rrecs_len ok.t.len
  refine nilL ⟨_, (hC _ T5).at_.at 5 rfl, cL0, nilL ⟨rrecs m.t, hrl, Blk.at (hC _ T5).t 0 (by simp), cL _ (Or.inr Ton), nilL ⟨_, (hC _ T5).at_.at 3 rfl, cL0, nilL ⟨d.sS, (hC _ T5).s.at_.at 0 rfl, cL _ (Or.inr (Son _ (Or.inl rfl))), nilL ⟨_, (hC _ T5).at_.at 4 rfl, cL0, ?_⟩⟩⟩⟩⟩
  have T := T5
  have z0 := T.t.size
  repeat' first
    | (refine NewL.blk (T := t_cellplaneref24_Store) T (Nat.le_refl _) (fun bs w T t hS lS => ?_); (try replace hS := hS.tr t (by intro c_ hc_; (try simp only [mem_blk_cons, mem_blk_nil, or_false, false_or] at hc_ ⊢); grind [mem_blk_cons, mem_blk_nil])); (try replace hT := hT.tr t (by intro c_ hc_; (try simp only [mem_blk_cons, mem_blk_nil, or_false, false_or] at hc_ ⊢); grind [mem_blk_cons, mem_blk_nil])); (try replace hq := hq.tr t (by intro c_ hc_; (try simp only [mem_blk_cons, mem_blk_nil, or_false, false_or] at hc_ ⊢); grind [mem_blk_cons, mem_blk_nil])); have zt := t.size)
    | (refine NewL.blk (T := t_cellplaneref26_Table) T (Nat.le_refl _) (fun bt w T t hT lT => ?_); (try replace hS := hS.tr t (by intro c_ hc_; (try simp only [mem_blk_cons, mem_blk_nil, or_false, false_or] at hc_ ⊢); grind [mem_blk_cons, mem_blk_nil])); (try replace hT := hT.tr t (by intro c_ hc_; (try simp only [mem_blk_cons, mem_blk_nil, or_false, false_or] at hc_ ⊢); grind [mem_blk_cons, mem_blk_nil])); (try replace hq := hq.tr t (by intro c_ hc_; (try simp only [mem_blk_cons, mem_blk_nil, or_false, false_or] at hc_ ⊢); grind [mem_blk_cons, mem_blk_nil])); have zt := t.size)
    | (refine CallL.pure T (Nat.le_refl _) (fun wa Ta _ => queue25_Copy_spec (hC _ Ta).q (by omega) (by omega)) ?_; rintro wa v w T t ta tl ⟨bq, sq, sr, rfl, g1, hq, g2, g3⟩; refine ⟨_, rfl, ?_⟩; have za := ta.size; have b3l : b3 < wa.heap.size := tl b3 (by simp [blk]); have lq : ∀ i, (i = bq ∨ sq.on i ∨ sr.on i) → wa.heap.size ≤ i ∧ i < w.heap.size := (fun i hi => ⟨by grind, by rcases hi with rfl | h | h; exact hq.at_.lt; exact hq.ll.lt i h; exact hq.rr.lt i h⟩); (try replace hS := hS.tr t (by intro c_ hc_; (try simp only [mem_blk_cons, mem_blk_nil, or_false, false_or] at hc_ ⊢); grind [mem_blk_cons, mem_blk_nil])); (try replace hT := hT.tr t (by intro c_ hc_; (try simp only [mem_blk_cons, mem_blk_nil, or_false, false_or] at hc_ ⊢); grind [mem_blk_cons, mem_blk_nil])); (try replace hq := hq.tr t (by intro c_ hc_; (try simp only [mem_blk_cons, mem_blk_nil, or_false, false_or] at hc_ ⊢); grind [mem_blk_cons, mem_blk_nil])); have zt := t.size)
    | (refine ⟨by rw [hrl]; exact Blk.room hT (by rw [Z_table_len]; omega), lT.2.2.2, ?_⟩; replace hT : RTabAt _ bt m.t := Blk.over hT (by rw [hrl, Z_table_len]); have t := (Touch.refl (fun i => i = bt) w).putC (p := ⟨bt, 0, none⟩) (cs := rrecs m.t) (fun _ => rfl); replace T := T.putC (p := ⟨bt, 0, none⟩) (cs := rrecs m.t) (fun h => by have := lT.1; simp only at h; omega); (try replace hS := hS.tr t (by intro c_ hc_; (try simp only [mem_blk_cons, mem_blk_nil, or_false, false_or] at hc_ ⊢); grind [mem_blk_cons, mem_blk_nil])); (try replace hT := hT.tr t (by intro c_ hc_; (try simp only [mem_blk_cons, mem_blk_nil, or_false, false_or] at hc_ ⊢); grind [mem_blk_cons, mem_blk_nil])); (try replace hq := hq.tr t (by intro c_ hc_; (try simp only [mem_blk_cons, mem_blk_nil, or_false, false_or] at hc_ ⊢); grind [mem_blk_cons, mem_blk_nil])); have zt := t.size)
    | (refine Reb.use T (Nat.le_refl _) (fun w T t _ => ?_); (try replace hS := hS.tr t (by intro c_ hc_; (try simp only [mem_blk_cons, mem_blk_nil, or_false, false_or] at hc_ ⊢); grind [mem_blk_cons, mem_blk_nil])); (try replace hT := hT.tr t (by intro c_ hc_; (try simp only [mem_blk_cons, mem_blk_nil, or_false, false_or] at hc_ ⊢); grind [mem_blk_cons, mem_blk_nil])); (try replace hq := hq.tr t (by intro c_ hc_; (try simp only [mem_blk_cons, mem_blk_nil, or_false, false_or] at hc_ ⊢); grind [mem_blk_cons, mem_blk_nil])); have zt := t.size)
    | (exact (hC _ T).at_.at 5 rfl)
    | (exact (hC _ T).at_.at 3 rfl)
    | (exact Blk.at (hC _ T).t 0 (by simp))
    | (exact (hC _ T).s.at_.at 0 rfl)
    | (exact hrl)
    | (exact rrecs_one m.t)
    | (with_reducible refine And.intro ?_ ?_)
  all_goals exact fin w bt bs bq sq sr T hT ⟨hS, (hC _ T).s.rd, fun h => by have := cl _ (Or.inr (Son _ (Or.inr h))); omega, (hC _ T).s.lt, (hC _ T).s.cap, (hC _ T).s.capn⟩ hq (by grind [mem_blk_cons, mem_blk_nil]) (by grind) (by grind)

end Go.Sh
