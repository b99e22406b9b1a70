/- The contract of the reference's store: Apply.
   Conditions: none. -/
import Derived.Test.YtcligpfkmnlhnaaSG
namespace Go.Sh
open Go
set_option linter.unusedSimpArgs false
set_option linter.unusedVariables false

def celOf (x : G_api_Change) : Cel := ⟨x.Key, x.Value_, x.Seq⟩
def sapply (xs : List Cel) (x : G_api_Change) : Int × List Cel :=
  if validM x then
    (if x.Kind = 1 ∧ findB x.Key xs = true then (0, xs.set (findI x.Key xs) (celOf x))
     else if x.Kind = 1 then (if 32 ≤ xs.length then (33, xs) else (0, xs.take (findI x.Key xs) ++ [celOf x] ++ xs.drop (findI x.Key xs)))
     else if x.Kind = 2 then (if findB x.Key xs = false then (34, xs) else (0, xs.take (findI x.Key xs) ++ xs.drop (findI x.Key xs + 1)))
     else (0, xs))
  else (1, xs)

theorem findB_lt {key : ByteArray} {xs : List Cel} (h : findB key xs = true) : findI key xs < xs.length := by
  unfold findB at h
  rcases Nat.lt_or_ge (findI key xs) xs.length with h' | h'
  · exact h'
  · rw [List.getElem?_eq_none h'] at h; cases h

theorem store24_Apply_spec {w : World} {q : Nat} {s : Sl} {xs : List Cel} (h : StoreAt w q s xs) (hm : xs.length < 1000000) (x : G_api_Change) : Spec PP n_cellplaneref24_Store_Apply [.pointer (some ⟨q, 0, none⟩), .agg (List.toArray x.cells)] w (fun i => i = q)
    (fun v w' => v = .int .i64 (sapply xs x).1 ∧ ∃ s', StoreAt w' q s' (sapply xs x).2 ∧ ∀ c, s'.on c → s.on c ∨ w.heap.size ≤ c) := by
  refine cellplaneref24_Store_Apply_calls (some ⟨q, 0, none⟩) x _ w ?_
  unfold F_cellplaneref24_Store_Apply
  have hlt : q < w.heap.size := h.at_.lt
  have hsn := h.rd.1
  have hcap := h.cap
  have T : Now (fun i => i = q) w w := Now.refl
  intro b3 hb3
  have sL : ∀ c, s.on c → c ≠ b3 := fun c hc e => by have := h.lt c hc; omega
  have sQ : ∀ c, s.on c → c ≠ q := fun c hc e => h.apart (e ▸ hc)
  refine Reb.use T (Nat.le_refl _) (fun w1 T1 t1 _ => ?_)
  have h1 : StoreAt w1 q s xs := h.touch t1 (by simp [blk]; omega) (fun c hc => by simp [blk]; exact sL c hc)
  unfold C_cellplaneref24_Store_Apply_1
  refine CallL.val T1 (Nat.le_refl _) (fun wa _ _ => ref24_Valid_spec _ _) (fun w2 T2 t2 => ⟨_, rfl, ?_⟩)
  have h2 : StoreAt w2 q s xs := h1.touch t2 (by simp [blk]; omega) (fun c hc => by simp [blk]; exact sL c hc)
  have same : ∀ wc, Now (fun i => i = q) w wc → StoreAt wc q s xs → ∀ e, sapply xs x = (e, xs) → Reb w.heap.size wc [⟨b3, x.cells, t_api_Change⟩] (fun w' => Touch (fun i => i = q) w w' ∧ (Value.int .i64 e) = .int .i64 (sapply xs x).1 ∧ ∃ s', StoreAt w' q s' (sapply xs x).2 ∧ ∀ c, s'.on c → s.on c ∨ w.heap.size ≤ c) := by
    intro wc Tc hc e he
    refine Reb.use Tc (Nat.le_refl _) (fun wd Td td _ => ⟨Td.t, by rw [he], s, ?_, fun c hc => Or.inl hc⟩)
    rw [he]
    exact hc.touch td (by simp [blk]; omega) (fun c hc => by simp [blk]; exact sL c hc)
  refine ifbn (fun hv => ?_) (fun hv => ?_)
  · exact same w2 T2 h2 1 (by simp [sapply, hv])
  refine Reb.use T2 (Nat.le_refl _) (fun w3 T3 t3 _ => ?_)
  have h3 : StoreAt w3 q s xs := h2.touch t3 (by simp [blk]; omega) (fun c hc => by simp [blk]; exact sL c hc)
  unfold C_cellplaneref24_Store_Apply_2
  refine CallL.val T3 (Nat.le_refl _) (fun wa _ t => store24_find_spec (h3.touch t (by simp [blk]; omega) (fun c hc => by simp [blk]; exact sL c hc)) hm x.Key) (fun w4 T4 t4 => ⟨_, _, rfl, ?_⟩)
  have h4 : StoreAt w4 q s xs := h3.touch t4 (by simp [blk]; omega) (fun c hc => by simp [blk]; exact sL c hc)
  refine Reb.use T4 (Nat.le_refl _) (fun w5 T5 t5 _ => ?_)
  have h5 : StoreAt w5 q s xs := h4.touch t5 (by simp [blk]; omega) (fun c hc => by simp [blk]; exact sL c hc)
  have hfi := findI_le x.Key xs
  have done : ∀ wc s' ys, Now (fun i => i = q) w wc → StoreAt wc q s' ys → (∀ c, s'.on c → s.on c ∨ w.heap.size ≤ c) → sapply xs x = (0, ys) →
      C_cellplaneref24_Store_Apply_4 w.heap.size (fun v w' => Touch (fun i => i = q) w w' ∧ v = .int .i64 (sapply xs x).1 ∧ ∃ s', StoreAt w' q s' (sapply xs x).2 ∧ ∀ c, s'.on c → s.on c ∨ w.heap.size ≤ c) wc := by
    intro wc s' ys Tc hc hon he
    unfold C_cellplaneref24_Store_Apply_4
    refine Reb.use Tc (Nat.le_refl _) (fun wd Td td _ => ⟨Td.t, by rw [he], s', ?_, hon⟩)
    rw [he]
    exact hc.touch td (by simp [blk]) (by simp [blk])
  -- a slice of our own is put in its place
  have put : ∀ wc s' ys, Now (fun i => i = q) w wc → Blk wc q (⟨s⟩ : G_cellplaneref24_Store).cells t_cellplaneref24_Store → Own ceC 3 t_cellplaneref24_Cell wc s' ys → (∀ c, s'.on c → w.heap.size ≤ c ∧ c ≠ b3) →
      RoomAt wc ⟨q, 0, none⟩ 1 ∧ Now (fun i => i = q) w (putC wc ⟨q, 0, none⟩ [.slice s'.a s'.n s'.c]) ∧ StoreAt (putC wc ⟨q, 0, none⟩ [.slice s'.a s'.n s'.c]) q s' ys ∧ Own ceC 3 t_cellplaneref24_Cell (putC wc ⟨q, 0, none⟩ [.slice s'.a s'.n s'.c]) s' ys := by
    intro wc s' ys Tc hq ho hon
    have tp : Touch (fun i => i = q) wc (putC wc ⟨q, 0, none⟩ [.slice s'.a s'.n s'.c]) := (Touch.refl _ _).putC (fun _ => rfl)
    have ho' := ho.touch tp (fun c hc e => by have := (hon c hc).1; omega)
    refine ⟨hq.room (by simp [G_cellplaneref24_Store.cells]), Tc.putC (fun _ => rfl), ⟨hq.putC 0 _, ho'.rd ceC_len, fun hc => by have := (hon q hc).1; omega, fun c hc => ho'.lt hc, ho.cap.1, ho.cap.2⟩, ho'⟩
  unfold C_cellplaneref24_Store_Apply_3
  have five : ∀ w6, Now (fun i => i = q) w w6 → StoreAt w6 q s xs → ∀ v17 : Bool, (v17 = true ↔ x.Kind = 1 ∧ findB x.Key xs = true) → C_cellplaneref24_Store_Apply_5 w.heap.size (fun v w' => Touch (fun i => i = q) w w' ∧ v = .int .i64 (sapply xs x).1 ∧ ∃ s', StoreAt w' q s' (sapply xs x).2 ∧ ∀ c, s'.on c → s.on c ∨ w.heap.size ≤ c)
      (some ⟨q, 0, none⟩) b3 x t_api_Change (findI x.Key xs) (findB x.Key xs) v17 w6 := by
    intro w6 T6 h6 v17 hv17
    unfold C_cellplaneref24_Store_Apply_5
    have hq6 := h6.at_.lt
    have E := el_sl_cellplaneref24_Cell.t
    have sz6 := T6.t.size
    have sLL : ∀ c, s.on c → c ∉ blk [⟨b3, x.cells, t_api_Change⟩] := fun c hc => by simp [blk]; exact sL c hc
    have qL : q ∉ blk [⟨b3, x.cells, t_api_Change⟩] := by simp [blk]; omega
    refine ifb (fun hv1 => ?_) (fun hv1 => ?_)
    · obtain ⟨hk, hfB⟩ := hv17.1 hv1
      have hil := findB_lt hfB
      refine NewL.use T6 (Nat.le_refl _) (fun b1 w7 g1 g2 T7 t7 hb1 hl1 n1 => ?_)
      have h7 := h6.touch t7 qL sLL
      refine nilL ⟨s, h7.at_.at 0 rfl, by simp; omega, ?_⟩
      refine RunL.app T7 (Nat.le_refl _) E (by decide) ceC_len ceC_one (Blk.own0 hb1) h7.rd h7.capn (by simp; omega) (fun c hc hon => by simp at hon; omega) (fun c hon => by simp at hon; rw [← hon]; exact n1) sLL (fun s1 w8 T8 t8 o8 f8 n8 => ⟨_, rfl, ?_⟩)
      rw [List.nil_append] at o8
      have q8 := h7.at_.touch t8 (by simp [blk]; omega)
      have f8' : ∀ c, s1.on c → w.heap.size ≤ c ∧ c ≠ b3 := fun c hc => ⟨by
        rcases f8 c hc with hh | hh
        · simp at hh; omega
        · have := T7.t.size; omega, by have := n8 c hc; simpa [blk] using this⟩
      obtain ⟨room, T9, hs9, o9⟩ := put w8 s1 xs T8 q8 o8 f8'
      refine nilL ⟨room, by simp; omega, ?_⟩
      refine nilL ⟨s1, hs9.at_.at 0 rfl, by simp; omega, ?_⟩
      obtain ⟨p, hp, hroom, hblk, hset⟩ := o9.set ceC_len hil (celOf x)
      have hpw := f8' p.block ⟨p, hp, rfl⟩
      have hs1 := o9.1
      refine idxL hp (by omega) (by omega) ?_
      rw [Int.toNat_natCast]
      refine ⟨hroom, by simp [hblk]; exact hpw.2, ?_⟩
      have tp := (Touch.refl (fun i => i = p.block) (putC w8 ⟨q, 0, none⟩ [.slice s1.a s1.n s1.c])).putC (p := p.add (findI x.Key xs * 3)) (cs := ceC (celOf x)) (fun _ => hblk)
      refine Reb.use (T9.putC (p := p.add (findI x.Key xs * 3)) (cs := ceC (celOf x)) (fun hh => by rw [hblk] at hh; omega)) (Nat.le_refl _) (fun wd Td td _ => done wd s1 (xs.set (findI x.Key xs) (celOf x)) Td ?_ (fun c hc => Or.inr (f8' c hc).1) (by simp [sapply, hv, hk, hfB]))
      have := hset.cap
      have hh : StoreAt (putC (putC w8 ⟨q, 0, none⟩ [.slice s1.a s1.n s1.c]) (p.add (findI x.Key xs * 3)) (ceC (celOf x))) q s1 (xs.set (findI x.Key xs) (celOf x)) :=
        ⟨hs9.at_.touch tp (by omega), hset.rd ceC_len, hs9.apart, fun c hc => hset.lt hc, this.1, this.2⟩
      exact hh.touch td qL (fun c hc => by have := (f8' c hc).2; simp [blk]; exact this)
    · have hno : ¬ (x.Kind = 1 ∧ findB x.Key xs = true) := fun hh => by rw [hv17.2 hh] at hv1; cases hv1
      -- the last append, and the end
      have last : ∀ wc s2 zs j, Now (fun i => i = q) w wc → StoreAt wc q s xs → Own ceC 3 t_cellplaneref24_Cell wc s2 zs → (∀ c, s2.on c → w.heap.size ≤ c ∧ c ≠ b3) → zs.length ≤ 2000000 → j ≤ xs.length → sapply xs x = (0, zs ++ xs.drop j) →
          RunL PP w.heap.size wc [⟨b3, x.cells, t_api_Change⟩] (Builtin.append_ #[t_sl_cellplaneref24_Cell, t_sl_cellplaneref24_Cell] t_sl_cellplaneref24_Cell #[(.slice s2.a s2.n s2.c), (.slice (slA s.a s.c j 3) (s.n - j) (s.c - j))]) fun r32 w33 => ∃ l31 : Sl, r32 = (.slice l31.a l31.n l31.c) ∧
            NilL (some ⟨q, 0, none⟩) fun q34 => StL w33 [⟨b3, x.cells, t_api_Change⟩] q34 [(.slice l31.a l31.n l31.c)] fun w35 => Reb w.heap.size w35 [⟨b3, x.cells, t_api_Change⟩] fun w36 =>
              C_cellplaneref24_Store_Apply_4 w.heap.size (fun v w' => Touch (fun i => i = q) w w' ∧ v = .int .i64 (sapply xs x).1 ∧ ∃ s', StoreAt w' q s' (sapply xs x).2 ∧ ∀ c, s'.on c → s.on c ∨ w.heap.size ≤ c) w36 := by
        intro wc s2 zs j Tc hc ho hon hz hj he
        have hzl := ho.1
        have hc0 : slA s.a s.c j 3 = none → s.c - j = 0 := fun hh => by
          unfold slA at hh
          split at hh
          · omega
          · have := hc.capn (by simpa using hh); omega
        refine RunL.app Tc (Nat.le_refl _) E (by decide) ceC_len ceC_one ho (hc.rd.drop hj hc.cap) hc0 (by omega) (fun c hcl hh => by have := (hon c hh).1; omega) (fun c hh => by have := (hon c hh).2; simpa [blk] using this) (fun c hh => sLL c (slA_on hh)) (fun s3 wd Td td od fd nd => ⟨_, rfl, ?_⟩)
        have qd := hc.at_.touch td (by simp only [blk, List.mem_singleton]; rintro (hh | hh); exact qL (by simpa [blk] using hh); have := (hon q hh).1; omega)
        have fd' : ∀ c, s3.on c → w.heap.size ≤ c ∧ c ≠ b3 := fun c hh => ⟨by
          rcases fd c hh with h' | h'
          · exact (hon c h').1
          · have := Tc.t.size; omega, by have := nd c hh; simpa [blk] using this⟩
        obtain ⟨room, Te, hse, oe⟩ := put wd s3 (zs ++ xs.drop j) Td qd od fd'
        refine nilL ⟨room, by simp; omega, ?_⟩
        exact Reb.use Te (Nat.le_refl _) (fun wf Tf tf _ => done wf s3 (zs ++ xs.drop j) Tf (hse.touch tf qL (fun c hh => by have := (fd' c hh).2; simp [blk]; exact this)) (fun c hh => Or.inr (fd' c hh).1) he)
      have nq : NotIn q [⟨b3, x.cells, t_api_Change⟩] := qL
      have si : ∀ c, (Sl.mk s.a (findI x.Key xs) s.c).on c → c ∉ blk [⟨b3, x.cells, t_api_Change⟩] := fun c hh => sLL c hh
      have itn : (Int.toNat ((findI x.Key xs : Nat) : Int)) = findI x.Key xs := Int.toNat_natCast _
      have lenT : (xs.take (findI x.Key xs)).length = findI x.Key xs := by rw [List.length_take]; omega
      refine ifbd (fun hk => ?_) (fun hk => ?_)
      · have hfB : ¬ findB x.Key xs = true := fun hh => hno ⟨hk, hh⟩
        refine nilL ⟨s, h6.at_.at 0 rfl, nq, ?_⟩
        refine ifbd (fun h32 => ?_) (fun h32 => ?_)
        · exact same w6 T6 h6 33 (by simp [sapply, hv, hk, hfB]; omega)
        have hres : sapply xs x = (0, (xs.take (findI x.Key xs) ++ [celOf x]) ++ xs.drop (findI x.Key xs)) := by
          have : ¬ 32 ≤ xs.length := by omega
          simp [sapply, hv, hk, hfB, this]
        have mid : ∀ wc s1 b2, Now (fun i => i = q) w wc → StoreAt wc q s xs → Own ceC 3 t_cellplaneref24_Cell wc s1 (xs.take (findI x.Key xs)) → (∀ c, s1.on c → w.heap.size ≤ c ∧ c ≠ b3) → Blk wc b2 (ceC (celOf x)) t_cellplaneref24_Cell → b2 ≠ b3 →
            RunL PP w.heap.size wc [⟨b3, x.cells, t_api_Change⟩] (Builtin.append_ #[t_sl_cellplaneref24_Cell, t_sl_cellplaneref24_Cell] t_sl_cellplaneref24_Cell #[(.slice s1.a s1.n s1.c), (.slice (some ⟨b2, 0, none⟩) 1 1)]) fun r29 w30 => ∃ l28 : Sl, r29 = (.slice l28.a l28.n l28.c) ∧ At w30 ⟨q, 0, none⟩ [(.slice s.a s.n s.c)] ∧
            RunL PP w.heap.size w30 [⟨b3, x.cells, t_api_Change⟩] (Builtin.append_ #[t_sl_cellplaneref24_Cell, t_sl_cellplaneref24_Cell] t_sl_cellplaneref24_Cell #[(.slice l28.a l28.n l28.c), (.slice (slA s.a s.c ((findI x.Key xs : Nat) : Int).toNat 3) (s.n - ((findI x.Key xs : Nat) : Int).toNat) (s.c - ((findI x.Key xs : Nat) : Int).toNat))]) fun r32 w33 => ∃ l31 : Sl, r32 = (.slice l31.a l31.n l31.c) ∧
            NilL (some ⟨q, 0, none⟩) fun q34 => StL w33 [⟨b3, x.cells, t_api_Change⟩] q34 [(.slice l31.a l31.n l31.c)] fun w35 => Reb w.heap.size w35 [⟨b3, x.cells, t_api_Change⟩] fun w36 =>
              C_cellplaneref24_Store_Apply_4 w.heap.size (fun v w' => Touch (fun i => i = q) w w' ∧ v = .int .i64 (sapply xs x).1 ∧ ∃ s', StoreAt w' q s' (sapply xs x).2 ∧ ∀ c, s'.on c → s.on c ∨ w.heap.size ≤ c) w36 := by
          intro wc s1 b2 Tc hc ho hon hb2 hn2
          have hzl := ho.1
          rw [lenT] at hzl
          refine RunL.app Tc (Nat.le_refl _) E (by decide) ceC_len ceC_one ho (Blk.rd1 hb2) (fun h => by cases h) (by omega) (fun c hcl hh => by have := (hon c hh).1; omega) (fun c hh => by have := (hon c hh).2; simpa [blk] using this) (fun c hh => by simp at hh; simp [blk]; omega) (fun s2 wd Td td od fd nd => ⟨_, rfl, ?_, ?_⟩)
          · exact (hc.touch td (by simp only [blk, List.mem_singleton]; rintro (hh | hh); exact qL (by simpa [blk] using hh); have := (hon q hh).1; omega) (fun c hs hh => by
              rcases hh with hh | hh
              · exact sLL c hs hh
              · have := (hon c hh).1; have := h.lt c hs; omega)).at_.at 0 rfl
          · rw [itn]
            refine last wd s2 (xs.take (findI x.Key xs) ++ [celOf x]) (findI x.Key xs) Td (hc.touch td (by simp only [blk, List.mem_singleton]; rintro (hh | hh); exact qL (by simpa [blk] using hh); have := (hon q hh).1; omega) (fun c hs hh => by
              rcases hh with hh | hh
              · exact sLL c hs hh
              · have := (hon c hh).1; have := h.lt c hs; omega)) od (fun c hh => ⟨by
                rcases fd c hh with h' | h'
                · exact (hon c h').1
                · have := Tc.t.size; omega, by have := nd c hh; simpa [blk] using this⟩) (by simp [lenT]; omega) hfi hres
        refine nilL ⟨s, h6.at_.at 0 rfl, nq, by omega, by omega, nilL ⟨s, h6.at_.at 0 rfl, nq, by omega, by omega, ?_, ?_⟩⟩
        · refine NewL.use T6 (Nat.le_refl _) (fun b1 w7 g1 g2 T7 t7 hb1 hl1 n1 => ⟨?_, ?_⟩)
          · have h7 := h6.touch t7 qL sLL
            rw [itn]
            refine RunL.app T7 (Nat.le_refl _) E (by decide) ceC_len ceC_one (Blk.own0 hb1) (h7.rd.take hfi) h7.capn (by simp; omega) (fun c hc hon => by simp at hon; omega) (fun c hon => by simp at hon; rw [← hon]; exact n1) si (fun s1 w8 T8 t8 o8 f8 n8 => ⟨_, rfl, ?_, ?_⟩)
            · exact (h7.touch t8 (by simp [blk]; omega) (fun c hc => by have := sL c hc; have := h.lt c hc; simp [blk]; omega)).at_.at 0 rfl
            · have h8 := h7.touch t8 (by simp [blk]; omega) (fun c hc => by have := sL c hc; have := h.lt c hc; simp [blk]; omega)
              refine NewL.use T8 (Nat.le_refl _) (fun b2 w9 g3 g4 T9 t9 hb2 hl2 n2 => ?_)
              rw [List.nil_append] at o8
              rw [← itn]
              exact mid w9 s1 b2 T9 (h8.touch t9 qL sLL) (o8.touch t9 n8) (fun c hc => ⟨by
                rcases f8 c hc with hh | hh
                · simp at hh; omega
                · have := T7.t.size; omega, by have := n8 c hc; simpa [blk] using this⟩) hb2 (by simpa [blk] using n2)
          · refine NewL.use T7 (Nat.le_refl _) (fun b2 w8 g3 g4 T8 t8 hb2 hl2 n2 => ?_)
            have h8 := (h6.touch t7 qL sLL).touch t8 qL sLL
            rw [itn]
            refine RunL.app T8 (Nat.le_refl _) E (by decide) ceC_len ceC_one (Blk.own0 (Blk.touch hb1 t8 n1)) (h8.rd.take hfi) h8.capn (by simp; omega) (fun c hc hon => by simp at hon; omega) (fun c hon => by simp at hon; rw [← hon]; exact n1) si (fun s1 w9 T9 t9 o9 f9 n9 => ⟨_, rfl, ?_, ?_⟩)
            · exact (h8.touch t9 (by simp [blk]; omega) (fun c hc => by have := sL c hc; have := h.lt c hc; simp [blk]; omega)).at_.at 0 rfl
            · have h9 := h8.touch t9 (by simp [blk]; omega) (fun c hc => by have := sL c hc; have := h.lt c hc; simp [blk]; omega)
              rw [List.nil_append] at o9
              rw [← itn]
              have n2' : b2 ≠ b3 := by simpa [blk] using n2
              exact mid w9 s1 b2 T9 h9 o9 (fun c hc => ⟨by
                rcases f9 c hc with hh | hh
                · simp at hh; omega
                · have := T8.t.size; omega, by have := n9 c hc; simpa [blk] using this⟩) (Blk.touch hb2 t9 (by simp [blk]; omega)) n2'
        · refine NewL.use T6 (Nat.le_refl _) (fun b2 w7 g3 g4 T7 t7 hb2 hl2 n2 => ?_)
          refine NewL.use T7 (Nat.le_refl _) (fun b1 w8 g1 g2 T8 t8 hb1 hl1 n1 => ?_)
          have h8 := (h6.touch t7 qL sLL).touch t8 qL sLL
          rw [itn]
          refine RunL.app T8 (Nat.le_refl _) E (by decide) ceC_len ceC_one (Blk.own0 hb1) (h8.rd.take hfi) h8.capn (by simp; omega) (fun c hc hon => by simp at hon; omega) (fun c hon => by simp at hon; rw [← hon]; exact n1) si (fun s1 w9 T9 t9 o9 f9 n9 => ⟨_, rfl, ?_, ?_⟩)
          · exact (h8.touch t9 (by simp [blk]; omega) (fun c hc => by have := sL c hc; have := h.lt c hc; simp [blk]; omega)).at_.at 0 rfl
          · have h9 := h8.touch t9 (by simp [blk]; omega) (fun c hc => by have := sL c hc; have := h.lt c hc; simp [blk]; omega)
            rw [List.nil_append] at o9
            rw [← itn]
            have n2' : b2 ≠ b3 := by simpa [blk] using n2
            exact mid w9 s1 b2 T9 h9 o9 (fun c hc => ⟨by
              rcases f9 c hc with hh | hh
              · simp at hh; omega
              · have := T8.t.size; omega, by have := n9 c hc; simpa [blk] using this⟩) (Blk.touch (Blk.touch hb2 t8 n2) t9 (by simp [blk]; omega)) n2'
      · refine ifbd (fun hk2 => ?_) (fun hk2 => ?_)
        · refine ifbn (fun hfB => ?_) (fun hfB => ?_)
          · exact same w6 T6 h6 34 (by simp [sapply, hv, hk2, hfB])
          · have hil := findB_lt hfB
            have hres : sapply xs x = (0, xs.take (findI x.Key xs) ++ xs.drop (findI x.Key xs + 1)) := by simp [sapply, hv, hk2, hfB]
            have iw : IntKind.i64.wrap (((findI x.Key xs : Nat) : Int) + 1) = ((findI x.Key xs + 1 : Nat) : Int) := by rw [wrap_i64 (by omega) (by omega)]; simp
            rw [iw, Int.toNat_natCast, Int.toNat_natCast]
            refine nilL ⟨s, h6.at_.at 0 rfl, nq, by omega, by omega, nilL ⟨s, h6.at_.at 0 rfl, nq, by omega, by omega, ?_⟩⟩
            refine NewL.use T6 (Nat.le_refl _) (fun b1 w7 g1 g2 T7 t7 hb1 hl1 n1 => ?_)
            have h7 := h6.touch t7 qL sLL
            refine RunL.app T7 (Nat.le_refl _) E (by decide) ceC_len ceC_one (Blk.own0 hb1) (h7.rd.take hfi) h7.capn (by simp; omega) (fun c hc hon => by simp at hon; omega) (fun c hon => by simp at hon; rw [← hon]; exact n1) si (fun s1 w8 T8 t8 o8 f8 n8 => ⟨_, rfl, ?_, ?_⟩)
            · exact (h7.touch t8 (by simp [blk]; omega) (fun c hc => by have := sL c hc; have := h.lt c hc; simp [blk]; omega)).at_.at 0 rfl
            · have h8 := h7.touch t8 (by simp [blk]; omega) (fun c hc => by have := sL c hc; have := h.lt c hc; simp [blk]; omega)
              rw [List.nil_append] at o8
              exact last w8 s1 _ _ T8 h8 o8 (fun c hc => ⟨by
                rcases f8 c hc with hh | hh
                · simp at hh; omega
                · have := T7.t.size; omega, by have := n8 c hc; simpa [blk] using this⟩) (by rw [lenT]; omega) (by omega) hres
        · refine Reb.use T6 (Nat.le_refl _) (fun w7 T7 t7 _ => done w7 s xs T7 (h6.touch t7 qL sLL) (fun c hc => Or.inl hc) (by simp [sapply, hv, hk, hk2]))
  refine ifbd (fun hk => ?_) (fun hk => ?_)
  · exact Reb.use T5 (Nat.le_refl _) (fun w6 T6 t6 _ => five w6 T6 (h5.touch t6 (by simp [blk]; omega) (fun c hc => by simp [blk]; exact sL c hc)) _ (by simp [hk]))
  · exact Reb.use T5 (Nat.le_refl _) (fun w6 T6 t6 _ => five w6 T6 (h5.touch t6 (by simp [blk]; omega) (fun c hc => by simp [blk]; exact sL c hc)) _ (by simp [hk]))

end Go.Sh
