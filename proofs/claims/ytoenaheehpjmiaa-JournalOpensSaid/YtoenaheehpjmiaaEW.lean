/- Contracts of wire's integers and of an entry's bytes.
   Conditions: none. -/
import Derived.Test.YtoenaheehpjmiaaEA
import Derived.Test.YtoenaheehpjmiaaEV
namespace Go.Sh
open Go
set_option linter.unusedSimpArgs false
set_option linter.unusedVariables false
set_option maxHeartbeats 2000000

section
variable {α : Type} {c : α → List Value} {k : Nat} {e : TypeId} {w w' : World} {s : Sl} {xs : List α} {S : Nat → Prop}
theorem Rd.tr (h : Rd c k w s xs) (t : Touch S w w') (hd : ∀ b, s.on b → ¬ S b) : Rd c k w' s xs := h.touch t hd
theorem Own.tr (h : Own c k e w s xs) (t : Touch S w w') (hd : ∀ b, s.on b → ¬ S b) : Own c k e w' s xs := h.touch t hd
end

theorem byteC_one (x : UInt8) : ∀ u ∈ byteC x, u.oneCell' = true := by
  intro u hu; simp [byteC] at hu; subst hu; rfl

theorem Own.cap0 {α : Type} {c : α → List Value} {k : Nat} {e : TypeId} {w : World} {s : Sl} {xs : List α} (h : Own c k e w s xs) : s.a = none → s.c = 0 := by
  intro ha
  rcases h.2 with rfl | ⟨b, cs, hb, _⟩
  · rfl
  · rw [ha] at hb; cases hb

theorem wire_put_spec {w : World} {s : Sl} {bs : List UInt8} {n : Int} (h1 : -9223372036854775808 ≤ n) (h2 : n ≤ 9223372036854775807) (ho : Own byteC 1 t_u8 w s bs) (hl : bs.length ≤ 1000) :
    Spec PP n_wire_put [.slice s.a s.n s.c, .int .i64 n] w (fun b => s.on b) (fun v w' => ∃ s' : Sl, v = .slice s'.a s'.n s'.c ∧ Own byteC 1 t_u8 w' s' (bs ++ vb (zz n)) ∧ ∀ b, s'.on b → s.on b ∨ w.heap.size ≤ b) := by
  refine wire_put_calls s n _ w ?_
  unfold F_wire_put
  have T : Now (fun b => s.on b) w w := Now.refl
  have E := el_sl_u8.t
  have hzl := zz_lt h1 h2
  refine Reb.A T Anc.nil (fun w1 T t1 => ?_)
  unfold C_wire_put_1
  refine ⟨by omega, by omega, ?_⟩
  rw [zz_code h1 h2]
  refine Reb.A T Anc.nil (fun w2 T t2 => ?_)
  unfold C_wire_put_2
  refine LoopC.mk (fun x w' => ∃ (pre : List UInt8) (c : Nat), x.2 = (c : Int) ∧ c < 18446744073709551616 ∧ Now (fun b => s.on b) w w' ∧ Own byteC 1 t_u8 w' x.1 (bs ++ pre) ∧ pre ++ vb c = vb (zz n) ∧ (∀ b, x.1.on b → s.on b ∨ w.heap.size ≤ b)) (fun x => x.2.toNat) ?_ ?_
  · exact Reb.A T Anc.nil (fun w3 T t3 => ⟨[], zz n, rfl, hzl, T, by rw [List.append_nil]; exact ((ho.tr t1 (by simp [blk])).tr t2 (by simp [blk])).tr t3 (by simp [blk]), rfl, fun b h => .inl h⟩)
  · rintro ⟨sl, x⟩ wb ⟨pre, c, hx, hc, T, ho, hp, hon⟩
    simp only at hx ho hon
    subst hx
    have hlen : pre.length ≤ 10 := by
      have := congrArg List.length hp
      rw [List.length_append] at this
      have := vb_len10 hzl
      omega
    have hn := ho.1
    rw [List.length_append] at hn
    unfold L_wire_put_4
    dsimp only
    unfold B_wire_put_4
    refine ifbd (fun h => ?_) (fun h => ?_)
    · rw [byte_hi c]
      refine NewL.A T Anc.nil (fun b6 w3 T t3 h6 l6 => ?_)
      have ol : ∀ i, sl.on i → i < wb.heap.size := fun i hi => ho.lt hi
      replace ho := ho.tr t3 (by simp [blk])
      refine RunL.appA T Anc.nil E (by decide) byteC_len byteC_one ho (Blk.rd1 (x := UInt8.ofNat (c % 128 + 128)) h6) (fun h => by cases h) (by omega) (fun i hi hh => ?_) (by simp [blk]) (by simp [blk]) (fun s2 w4 T t4 o2 f2 n2 => ⟨_, rfl, ?_⟩)
      · rcases hon i hh with h | h
        · exact h
        · omega
      refine ⟨by omega, ?_⟩
      refine Reb.A T Anc.nil (fun w5 T t5 => ?_)
      have step : Int.fdiv (c : Int) (2 ^ (min (Int.toNat 7) (IntKind.u64).bits)) = ((c / 128 : Nat) : Int) := by
        have e2 : (min (Int.toNat 7) (IntKind.u64).bits) = 7 := rfl
        rw [e2, Int.fdiv_eq_ediv_of_nonneg _ (by decide)]
        omega
      have zz3 := T.t.size
      have z3 := t3.size
      have z4 := t4.size
      refine ⟨rfl, ⟨pre ++ [UInt8.ofNat (c % 128 + 128)], c / 128, step, by omega, T, ?_, ?_, fun i hi => ?_⟩, by simp only [step]; omega⟩
      · rw [← List.append_assoc]; exact o2.tr t5 n2
      · rw [← hp, vb_ge (c := c) (by omega), List.append_assoc]; rfl
      · rcases f2 i hi with h | h
        · exact hon i h
        · exact .inr (Nat.le_trans (Nat.le_trans l6.1 (Nat.le_of_lt l6.2.2.1)) h)
    · refine Reb.A T Anc.nil (fun w3 T t3 => ?_)
      replace ho := ho.tr t3 (by simp [blk])
      unfold C_wire_put_3
      rw [byte_lo (by omega)]
      refine NewL.A T Anc.nil (fun b1 w4 T t4 h4 l4 => ?_)
      replace ho := ho.tr t4 (by simp [blk])
      refine RunL.appA T Anc.nil E (by decide) byteC_len byteC_one ho (Blk.rd1 (x := UInt8.ofNat c) h4) (fun h => by cases h) (by omega) (fun i hi hh => ?_) (by simp [blk]) (by simp [blk]) (fun s2 w5 T t5 o2 f2 n2 => ⟨_, rfl, ?_⟩)
      · rcases hon i hh with h | h
        · exact h
        · omega
      refine Reb.A T Anc.nil (fun w6 T t6 => ⟨T.t, s2, rfl, ?_, fun i hi => ?_⟩)
      · rw [← hp, vb_lt (c := c) (by omega), ← List.append_assoc]; exact o2.tr t6 n2
      · rcases f2 i hi with h | h
        · exact hon i h
        · exact .inr (Nat.le_trans (Nat.le_trans l4.1 (Nat.le_of_lt l4.2.2.1)) h)

theorem wire_copied_spec {w : World} {s : Sl} {bs : List UInt8} (hr : Rd byteC 1 w s bs) (hc : s.a = none → s.c = 0) (hl : bs.length ≤ 1000) :
    Spec PP n_wire_copied [.slice s.a s.n s.c] w noB (fun v w' => ∃ s' : Sl, v = .slice s'.a s'.n s'.c ∧ Own byteC 1 t_u8 w' s' bs ∧ ∀ b, s'.on b → w.heap.size ≤ b) := by
  refine wire_copied_calls s _ w ?_
  unfold F_wire_copied
  have T : Now noB w w := Now.refl
  have h0 : Own byteC 1 t_u8 w ⟨none, 0, 0⟩ [] := Own.nil
  have hn := hr.1
  refine RunL.appA T Anc.nil el_sl_u8.t (by decide) byteC_len byteC_one h0 hr hc (by simp; omega) (by simp) (by simp [blk]) (by simp [blk]) (fun s' w1 T t o f n => ⟨_, rfl, ?_⟩)
  refine Reb.A T Anc.nil (fun w2 T t2 => ⟨T.t, s', rfl, by simpa using o.tr t2 n, fun b hb => ?_⟩)
  rcases f b hb with h | h
  · simp at h
  · exact h

theorem wire_Int_spec {w : World} {s : Sl} {bs : List UInt8} {n : Int} (h1 : -9223372036854775808 ≤ n) (h2 : n ≤ 9223372036854775807) (hr : Rd byteC 1 w s bs) (hc : s.a = none → s.c = 0) (hl : bs.length ≤ 1000) :
    Spec PP n_wire_Int [.slice s.a s.n s.c, .int .i64 n] w noB (fun v w' => ∃ s' : Sl, v = .slice s'.a s'.n s'.c ∧ Own byteC 1 t_u8 w' s' (bs ++ vb (zz n)) ∧ ∀ b, s'.on b → w.heap.size ≤ b) := by
  refine wire_Int_calls s n _ w ?_
  unfold F_wire_Int
  have T : Now noB w w := Now.refl
  refine CallL.pA T Anc.nil (fun wa _ t => wire_copied_spec (hr.tr t (by simp [blk])) hc hl) ?_
  rintro wa v w1 T t z1 z2 _ ⟨s1, rfl, o1, f1⟩
  refine ⟨s1, rfl, ?_⟩
  refine CallL.A (fun b => s1.on b) T Anc.nil (fun i hi => ⟨o1.lt hi, by simp [blk]⟩) (fun i hi hh => by have := f1 i hh; omega) (fun wb _ t => wire_put_spec h1 h2 (o1.tr t (by simp [blk])) hl) ?_
  rintro wb v w2 T t2 z3 z4 _ ⟨s2, rfl, o2, f2⟩
  refine ⟨s2, rfl, ?_⟩
  refine Reb.A T Anc.nil (fun w3 T t3 => ⟨T.t, s2, rfl, o2.tr t3 (by simp [blk]), fun b hb => ?_⟩)
  rcases f2 b hb with h | h
  · have := f1 b h; omega
  · omega

theorem entry_places_spec (b : Nat) (w : World) : Spec PP n_entry_places [.pointer (some ⟨b, 0, none⟩)] w noB
    (fun v _ => v = .agg (List.toArray (⟨some ⟨b, 0, none⟩, some (addA ⟨b, 0, none⟩ 1), some (addA ⟨b, 0, none⟩ 2), some (addA ⟨b, 0, none⟩ 3), some (addA ⟨b, 0, none⟩ 4), some (addA ⟨b, 0, none⟩ 5), some (addA ⟨b, 0, none⟩ 6), some (addA ⟨b, 0, none⟩ 7), some (addA ⟨b, 0, none⟩ 8)⟩ : G_ar9_p_i64).cells)) := by
  refine entry_places_calls (some ⟨b, 0, none⟩) _ w ?_
  unfold F_entry_places
  have T : Now noB w w := Now.refl
  intro b1 hb
  refine nilL (nilL (nilL (nilL (nilL (nilL (nilL (nilL (nilL ?_))))))))
  exact Reb.A T Anc.start (fun w1 T t => ⟨T.t, rfl⟩)

/-- an element of an array's value, one cell -/
theorem run_index_ptr {P : Program} {t e e' : TypeId} {n : Nat} {i : TypeInfo} (h : P.underlying t = some (.array n e)) (he : P.info? e = some i) (hu : P.underlying e = some (.pointer e')) (hk : P.cellsOf e = 1) {cs : List Value} {v : Value} {j : Int} (h0 : 0 ≤ j) (h1 : j < n)
    (hd : cs[j.toNat]? = some v) (w : World) : (Instr.index t (.agg cs.toArray) (.int .i64 j)).run P w = .ok v w := by
  have e1 : (Instr.index t (.agg cs.toArray) (.int .i64 j)).run P w = (Go.part e cs.toArray (j.toNat * 1)).run P w := by
    simp [Instr.index, run_underlying h, asIntOf, h0, h1, run_sizeOf w he, hk]
  rw [e1]
  have hj : j.toNat < cs.length := by
    rcases Nat.lt_or_ge j.toNat cs.length with h | h
    · exact h
    · rw [List.getElem?_eq_none h] at hd; cases hd
  have hg : cs[j.toNat] = v := by rw [List.getElem?_eq_getElem hj] at hd; exact Option.some.inj hd
  simp [Go.part, isAgg, run_underlying hu, run_sizeOf w he, hk, hj, hg]

def flds (e : G_api_Entry) : List Int := [e.Kind, e.Tick, e.Tenant, e.Cell, e.Other, e.Epoch, e.From, e.Until, e.N]
def okI (n : Int) : Prop := -9223372036854775808 ≤ n ∧ n ≤ 9223372036854775807
theorem flds_inj {a b : G_api_Entry} (h : flds a = flds b) : a = b := by
  cases a; cases b; simp [flds] at h; simp [h]

theorem entry_Bytes_spec (e : G_api_Entry) (hw : ∀ n ∈ flds e, okI n) (w : World) : Spec PP n_entry_Bytes [.agg (List.toArray e.cells)] w noB
    (fun v w' => ∃ s : Sl, v = .slice s.a s.n s.c ∧ Own byteC 1 t_u8 w' s (ebL (flds e)) ∧ ∀ b, s.on b → w.heap.size ≤ b) := by
  refine entry_Bytes_calls e _ w ?_
  unfold F_entry_Bytes
  have T : Now noB w w := Now.refl
  refine NewL.A T Anc.nil (fun be w1 T t he le => ?_)
  refine Reb.A T Anc.nil (fun w2 T t => ?_)
  replace he := he.tr t (by simp [blk])
  unfold C_entry_Bytes_1
  refine Reb.A T Anc.nil (fun w3 T t => ?_)
  replace he := he.tr t (by simp [blk])
  unfold C_entry_Bytes_2
  refine CallL.vA T Anc.nil (fun wa _ _ => entry_places_spec be wa) (fun w4 T t => ⟨_, rfl, ?_⟩)
  replace he := he.tr t (by simp [blk])
  refine Reb.A T Anc.nil (fun w5 T t => ?_)
  replace he := he.tr t (by simp [blk])
  unfold C_entry_Bytes_4
  refine LoopC.mk (fun x w' => ∃ m : Nat, x.2 = (m : Int) ∧ m ≤ 9 ∧ Now noB w w' ∧ Own byteC 1 t_u8 w' x.1 (ebL ((flds e).take m)) ∧ (∀ b, x.1.on b → w.heap.size ≤ b) ∧ Blk w' be e.cells t_api_Entry ∧ (ebL ((flds e).take m)).length ≤ m * 10) (fun x => 9 - x.2.toNat) ?_ ?_
  · exact Reb.A T Anc.nil (fun w6 T t => ⟨0, rfl, by omega, T, Own.nil, by simp, he.tr t (by simp [blk]), by simp [ebL]⟩)
  · rintro ⟨sl, x⟩ wb ⟨m, hx, hm, T, ho, hon, he, hlen⟩
    simp only at hx ho hon
    subst hx
    unfold L_entry_Bytes_5
    dsimp only
    unfold B_entry_Bytes_5
    have hfl : (flds e).length = 9 := rfl
    have zb := T.t.size
    refine ifbd (fun h => ?_) (fun h => ?_)
    · have hm9 : m < 9 := by omega
      obtain ⟨inf, hinf⟩ : ∃ i, PP.info? t_p_i64 = some i := Option.isSome_iff_exists.1 (by kernel_rfl)
      have hat : ∃ p : Addr, (G_ar9_p_i64.cells ⟨some ⟨be, 0, none⟩, some (addA ⟨be, 0, none⟩ 1), some (addA ⟨be, 0, none⟩ 2), some (addA ⟨be, 0, none⟩ 3), some (addA ⟨be, 0, none⟩ 4), some (addA ⟨be, 0, none⟩ 5), some (addA ⟨be, 0, none⟩ 6), some (addA ⟨be, 0, none⟩ 7), some (addA ⟨be, 0, none⟩ 8)⟩)[m]? = some (.pointer (some p)) ∧ At wb p [.int .i64 ((flds e)[m]'(by omega))] := by
        rcases (by omega : m = 0 ∨ m = 1 ∨ m = 2 ∨ m = 3 ∨ m = 4 ∨ m = 5 ∨ m = 6 ∨ m = 7 ∨ m = 8) with rfl | rfl | rfl | rfl | rfl | rfl | rfl | rfl | rfl
        · exact ⟨_, rfl, he.at 0 rfl⟩
        · exact ⟨_, rfl, he.at 1 rfl⟩
        · exact ⟨_, rfl, he.at 2 rfl⟩
        · exact ⟨_, rfl, he.at 3 rfl⟩
        · exact ⟨_, rfl, he.at 4 rfl⟩
        · exact ⟨_, rfl, he.at 5 rfl⟩
        · exact ⟨_, rfl, he.at 6 rfl⟩
        · exact ⟨_, rfl, he.at 7 rfl⟩
        · exact ⟨_, rfl, he.at 8 rfl⟩
      obtain ⟨p, hp1, hp2⟩ := hat
      refine ⟨some p, fun wr => run_index_ptr (e' := 3) (by kernel_rfl) hinf (by kernel_rfl) (by kernel_rfl) (by omega) (by omega) (by rw [Int.toNat_natCast]; exact hp1) wr, nilL ⟨_, hp2, notIn_nil, ?_⟩⟩
      have hI := hw ((flds e)[m]'(by omega)) (List.getElem_mem _)
      refine CallL.pA T Anc.nil (fun wa _ t => wire_Int_spec hI.1 hI.2 ((ho.tr t (by simp [blk])).rd byteC_len) ho.cap0 (by omega)) ?_
      rintro wa v w6 T t z1 z2 _ ⟨s2, rfl, o2, f2⟩
      refine ⟨s2, rfl, ?_⟩
      have z0 := T.t.size
      refine Reb.A T Anc.nil (fun w7 T t7 => ?_)
      have step : IntKind.i64.wrap ((m : Int) + 1) = ((m + 1 : Nat) : Int) := by rw [wrap_i64 (by omega) (by omega)]; simp
      have et : (flds e).take (m + 1) = (flds e).take m ++ [(flds e)[m]'(by omega)] := by
        rw [List.take_add_one, List.getElem?_eq_getElem (by omega), Option.toList_some]
      have eb : ebL ((flds e).take (m + 1)) = ebL ((flds e).take m) ++ vb (zz ((flds e)[m]'(by omega))) := by
        unfold ebL; rw [et, List.flatMap_append, List.flatMap_cons, List.flatMap_nil, List.append_nil]
      refine ⟨rfl, ⟨m + 1, step, by omega, T, by rw [eb]; exact o2.tr t7 (by simp [blk]), fun b hb => ?_, (he.tr t (by simp [blk])).tr t7 (by simp [blk]), ?_⟩, by simp only [step]; omega⟩
      · have := f2 b hb
        omega
      · rw [eb, List.length_append]
        have := vb_len10 (zz_lt hI.1 hI.2)
        omega
    · have h9 : m = 9 := by omega
      subst h9
      refine Reb.A T Anc.nil (fun w6 T t6 => ?_)
      unfold C_entry_Bytes_3
      refine Reb.A T Anc.nil (fun w7 T t7 => ⟨T.t, sl, rfl, ?_, hon⟩)
      rw [List.take_of_length_le (by omega)] at ho
      exact (ho.tr t6 (by simp [blk])).tr t7 (by simp [blk])

/-- two texts of bytes, compared -/
theorem SameBytes_spec {w : World} {s s' : Sl} {a b : List UInt8} (h1 : Rd byteC 1 w s a) (h2 : Rd byteC 1 w s' b) : Spec PP n_cellplaneref01_SameBytes [.slice s.a s.n s.c, .slice s'.a s'.n s'.c] w noB (fun v _ => v = .bool (decide (a = b))) := by
  refine cellplaneref01_SameBytes_calls s s' _ w ?_
  unfold F_cellplaneref01_SameBytes
  have T : Now noB w w := Now.refl
  refine RunL.bytesStr (e := t_u8) (by kernel_rfl) (by kernel_rfl) (by kernel_rfl) h1 (by simp [blk]) (fun wd hl => ⟨_, rfl, ?_⟩)
  have T := T.locA hl Anc.nil
  have h2 := h2.tr hl.touch (by simp [blk])
  refine RunL.bytesStr (e := t_u8) (by kernel_rfl) (by kernel_rfl) (by kernel_rfl) h2 (by simp [blk]) (fun we hl => ⟨_, rfl, ?_⟩)
  have T := T.locA hl Anc.nil
  refine Reb.A T Anc.nil (fun w7 T t7 => ⟨T.t, ?_⟩)
  congr 1
  rw [Bool.eq_iff_iff, strEq_iff]
  simp

end Go.Sh
