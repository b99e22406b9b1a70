/- The contract of the tape's texts.
   Conditions: none. -/
import Derived.Test.YtcligpfkmnlhnaaSC
import Derived.Test.YtcligpfkmnlhnaaElem
namespace Go.Sh
open Go
set_option linter.unusedSimpArgs false
set_option linter.unusedVariables false

def letter (n : Int) : UInt8 := UInt8.ofNat (97 + n.toNat)
theorem letter_val {n : Int} (h0 : 0 ≤ n) (h : n < 4) : IntKind.u8.wrap (97 + IntKind.u8.wrap n) = ((letter n).toNat : Int) := by
  have : n = 0 ∨ n = 1 ∨ n = 2 ∨ n = 3 := by omega
  rcases this with rfl | rfl | rfl | rfl <;> decide

def drawL (xs : List Int) (i : Nat) : Nat → List UInt8 × Nat
  | 0 => ([], i)
  | m + 1 => ((drawL xs i m).1 ++ [letter (nextM xs (drawL xs i m).2 4).1], (nextM xs (drawL xs i m).2 4).2)

theorem drawL_len (xs : List Int) (i : Nat) : ∀ m, (drawL xs i m).1.length = m
  | 0 => rfl
  | m + 1 => by simp [drawL, drawL_len xs i m]

def textK (xs : List Int) (i : Nat) (lo n : Int) : Int × Nat :=
  let r := rangeM xs i lo (if lo + 2 < n then lo + 2 else n)
  let q := nextM xs r.2 9
  (if q.1 = 8 then n else r.1, q.2)
def textM (xs : List Int) (i : Nat) (lo n : Int) : ByteArray × Nat :=
  let r := textK xs i lo n
  let d := drawL xs r.2 r.1.toNat
  (⟨d.1.toArray⟩, d.2)

theorem mill_Text_spec {w : World} {b : Nat} {s : Sl} {xs : List Int} {i : Nat} (h : TapeAt w b s xs i) {lo n : Int} (h1 : 0 ≤ lo) (h2 : lo ≤ n) (h3 : n ≤ 1000) : Spec PP n_cellplanemill_Tape_Text [.pointer (some ⟨b, 0, none⟩), .int .i64 lo, .int .i64 n] w (fun i => i = b)
    (fun v w' => v = .string (textM xs i lo n).1 ∧ TapeAt w' b s xs (textM xs i lo n).2) := by
  refine cellplanemill_Tape_Text_calls (some ⟨b, 0, none⟩) lo n _ w ?_
  unfold F_cellplanemill_Tape_Text
  have T : Now (fun i => i = b) w w := Now.refl
  have hlt := h.at_.lt
  refine Reb.use T (Nat.le_refl _) (fun w1 T1 t1 _ => ?_)
  have h1' : TapeAt w1 b s xs i := h.touch t1 (by simp [blk]) (by simp [blk])
  unfold C_cellplanemill_Tape_Text_1
  rw [wrap_i64 (x := lo + 2) (by omega) (by omega)]
  have hlt1 := h1'.at_.lt
  have hmin : lo ≤ (if lo + 2 < n then lo + 2 else n) ∧ (if lo + 2 < n then lo + 2 else n) ≤ n := by split <;> omega
  refine CallL.turn (fun i => i = b) T1 (Nat.le_refl _) (fun i hi => ⟨by omega, by simp [blk]⟩) (fun _ _ h => h) (fun wa _ t => mill_Range_spec (h1'.touch t (by simp [blk]) (by simp [blk])) (by omega) (by omega) (by omega))
    (fun wa v w2 T2 t2 _ _ hv => ⟨_, hv.1, ?_⟩)
  have hr1 := nextM_range (xs := xs) (i := i) (n := (if lo + 2 < n then lo + 2 else n) - lo + 1) (by omega)
  have hk1 : lo ≤ (rangeM xs i lo (if lo + 2 < n then lo + 2 else n)).1 ∧ (rangeM xs i lo (if lo + 2 < n then lo + 2 else n)).1 ≤ n := by
    unfold rangeM; simp only; omega
  refine Reb.use T2 (Nat.le_refl _) (fun w3 T3 t3 _ => ?_)
  have h3' := hv.2.touch t3 (by simp [blk]) (by simp [blk])
  unfold C_cellplanemill_Tape_Text_2
  have hlt3 := h3'.at_.lt
  refine CallL.turn (fun i => i = b) T3 (Nat.le_refl _) (fun i hi => ⟨by omega, by simp [blk]⟩) (fun _ _ h => h) (fun wa _ t => mill_Next_spec (h3'.touch t (by simp [blk]) (by simp [blk])) (by omega) (by omega))
    (fun wa v w4 T4 t4 _ _ hv4 => ⟨_, hv4.1, ?_⟩)
  have key : ∀ w5, Now (fun i => i = b) w w5 → TapeAt w5 b s xs (textK xs i lo n).2 →
      C_cellplanemill_Tape_Text_3 w.heap.size (fun v w' => Touch (fun i => i = b) w w' ∧ v = .string (textM xs i lo n).1 ∧ TapeAt w' b s xs (textM xs i lo n).2) (some ⟨b, 0, none⟩) (textK xs i lo n).1 w5 := by
    intro w5 T5 h5
    have hK : 0 ≤ (textK xs i lo n).1 ∧ (textK xs i lo n).1 ≤ n := by
      unfold textK; simp only
      generalize (if lo + 2 < n then lo + 2 else n) = z at *
      split <;> omega
    unfold C_cellplanemill_Tape_Text_3
    refine RunL.makeSlice (z0 := (0 : UInt8)) (c := byteC) el_sl_u8 hK.1 (by omega) (by simp only [maxLen]; omega) (fun wa sl w6 hl6 t6 hown hnew => ⟨sl, rfl, ?_⟩)
    have T5a := T5.loc hl6 (Nat.le_refl _)
    have h5a := h5.touch hl6.touch (by simp [blk]) (by simp [blk])
    have T6 := T5a.comp t6 (fun _ _ h => h.elim)
    have h6 := h5a.touch t6 (fun h => h) (fun _ _ h => h)
    have hap : ¬ sl.on b := fun hb => by have := hnew b hb; have := h5a.at_.lt; omega
    have hap2 : ∀ c, sl.on c → w.heap.size ≤ c := fun c hc => Nat.le_trans T5a.t.size (hnew c hc)
    have hap3 : ∀ c, s.on c → ¬ sl.on c := fun c hc hc' => by have := hnew c hc'; have := h5a.lt c hc; omega
    refine Reb.use T6 (Nat.le_refl _) (fun w7 T7 t7 _ => ?_)
    unfold C_cellplanemill_Tape_Text_4
    refine Reb.use T7 (Nat.le_refl _) (fun w8 T8 t8 _ => ?_)
    unfold C_cellplanemill_Tape_Text_6
    have t68 := t7.comp t8 (fun _ _ h => h)
    refine ⟨fun x w' => ∃ m : Nat, x = m ∧ m ≤ (textK xs i lo n).1.toNat ∧ Now (fun i => i = b) w w' ∧ TapeAt w' b s xs (drawL xs (textK xs i lo n).2 m).2 ∧
        Own byteC 1 t_u8 w' sl ((drawL xs (textK xs i lo n).2 m).1 ++ List.replicate ((textK xs i lo n).1.toNat - m) 0), fun x => ((textK xs i lo n).1 - x).toNat, ?_, ?_⟩
    · refine Reb.use T8 (Nat.le_refl _) (fun w9 T9 t9 _ => ⟨0, rfl, Nat.zero_le _, T9, ?_, ?_⟩)
      · exact (h6.touch t68 (by simp [blk]) (by simp [blk])).touch t9 (by simp [blk]) (by simp [blk])
      · simpa [drawL] using (hown.touch t68 (by simp [blk])).touch t9 (by simp [blk])
    · rintro x wb ⟨m, rfl, hm, Tb, hT, hO⟩
      have hsn := hown.1
      simp only [List.length_replicate] at hsn
      unfold L_cellplanemill_Tape_Text_7
      dsimp only
      unfold B_cellplanemill_Tape_Text_7
      refine ifbd (fun hc => ?_) (fun hc => ?_)
      · have hltb := hT.at_.lt
        refine CallL.turn (fun i => i = b) Tb (Nat.le_refl _) (fun i hi => ⟨by omega, by simp [blk]⟩) (fun _ _ h => h) (fun wa _ t => mill_Next_spec (hT.touch t (by simp [blk]) (by simp [blk])) (by omega) (by omega))
          (fun wa v wc Tc tc _ _ hvc => ⟨_, hvc.1, ?_⟩)
        have hq := nextM_range (xs := xs) (i := (drawL xs (textK xs i lo n).2 m).2) (n := 4) (by omega)
        have hOc := hO.touch tc (fun c hc => by simp [blk]; rintro rfl; exact hap hc)
        have hml : m < ((drawL xs (textK xs i lo n).2 m).1 ++ List.replicate ((textK xs i lo n).1.toNat - m) (0 : UInt8)).length := by
          simp [drawL_len]; omega
        obtain ⟨p, hp, hroom, hblk, hset⟩ := hOc.set byteC_len hml (letter (nextM xs (drawL xs (textK xs i lo n).2 m).2 4).1)
        rw [hp]
        refine ⟨by omega, by omega, ?_⟩
        rw [letter_val hq.1 hq.2]
        have hbp : p.block ≠ b := fun e => hap ⟨p, hp, e⟩
        have hge : w.heap.size ≤ p.block := hap2 _ ⟨p, hp, rfl⟩
        rw [Int.toNat_natCast]
        refine ⟨hroom, notIn_nil, ?_⟩
        have Td := Tc.putC (p := p.add (m * 1)) (cs := byteC (letter (nextM xs (drawL xs (textK xs i lo n).2 m).2 4).1)) (fun hlt => by rw [hblk] at hlt; omega)
        have hTd : TapeAt (putC wc (p.add (m * 1)) (byteC (letter (nextM xs (drawL xs (textK xs i lo n).2 m).2 4).1))) b s xs (drawL xs (textK xs i lo n).2 (m + 1)).2 := by
          have tt : Touch (fun i => i = p.block) wc (putC wc (p.add (m * 1)) (byteC (letter (nextM xs (drawL xs (textK xs i lo n).2 m).2 4).1))) := (Touch.refl _ _).putC (fun _ => hblk)
          exact hvc.2.touch tt (fun e => hbp e.symm) (fun c hc e => by subst e; exact hap3 _ hc ⟨p, hp, rfl⟩)
        refine Reb.use Td (Nat.le_refl _) (fun we Te te _ => ⟨rfl, ⟨m + 1, ?_, by omega, Te, hTd.touch te (by simp [blk]) (by simp [blk]), ?_⟩, ?_⟩)
        · rw [wrap_i64 (by omega) (by omega)]; simp
        · refine Own.touch ?_ te (by simp [blk])
          have e : ((drawL xs (textK xs i lo n).2 m).1 ++ List.replicate ((textK xs i lo n).1.toNat - m) (0 : UInt8)).set m (letter (nextM xs (drawL xs (textK xs i lo n).2 m).2 4).1) = (drawL xs (textK xs i lo n).2 (m + 1)).1 ++ List.replicate ((textK xs i lo n).1.toNat - (m + 1)) 0 := by
            rw [List.set_append_right _ _ (by rw [drawL_len]; exact Nat.le_refl _), drawL_len, Nat.sub_self]
            have : (textK xs i lo n).1.toNat - m = ((textK xs i lo n).1.toNat - (m + 1)) + 1 := by omega
            rw [this, List.replicate_succ, List.set_cons_zero]
            simp [drawL]
          rw [← e]
          exact hset
        · rw [wrap_i64 (by omega) (by omega)]; omega
      · have hmk : m = (textK xs i lo n).1.toNat := by omega
        refine Reb.use Tb (Nat.le_refl _) (fun wc Tc tc _ => ?_)
        unfold C_cellplanemill_Tape_Text_5
        have hOc := hO.touch tc (by simp [blk])
        have hTc := hT.touch tc (by simp [blk]) (by simp [blk])
        rw [← hmk, Nat.sub_self, List.replicate_zero, List.append_nil] at hOc
        refine RunL.bytesStr (e := t_u8) (by kernel_rfl) (by kernel_rfl) (by kernel_rfl) (hOc.rd byteC_len) (by simp [blk]) (fun wd hl => ⟨_, rfl, ?_⟩)
        refine Reb.use (Tc.loc hl (Nat.le_refl _)) (Nat.le_refl _) (fun we Te te _ => ⟨Te.t, ?_, ?_⟩)
        · simp [textM, hmk]
        · have := (hTc.touch hl.touch (by simp [blk]) (by simp [blk])).touch te (by simp [blk]) (by simp [blk])
          simpa [textM, hmk] using this
  refine ifbd (fun hc => ?_) (fun hc => ?_)
  · refine Reb.use T4 (Nat.le_refl _) (fun w5 T5 t5 _ => ?_)
    have := key w5 T5 (by simpa [textK] using hv4.2.touch t5 (by simp [blk]) (by simp [blk]))
    simpa [textK, hc] using this
  · refine Reb.use T4 (Nat.le_refl _) (fun w5 T5 t5 _ => ?_)
    have := key w5 T5 (by simpa [textK] using hv4.2.touch t5 (by simp [blk]) (by simp [blk]))
    simpa [textK, hc] using this

end Go.Sh
