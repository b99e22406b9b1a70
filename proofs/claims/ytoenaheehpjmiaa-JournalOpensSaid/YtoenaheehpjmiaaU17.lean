/- The reference's journal: frames taken, Crash, Open.
   Conditions: none. -/
import Derived.Test.YtoenaheehpjmiaaU16
namespace Go.Sh
open Go
set_option linter.unusedSimpArgs false
set_option linter.unusedVariables false
set_option maxHeartbeats 4000000

theorem slA_none {a : Option Addr} {c i : Nat} (hi : i ≤ c) (hc : a = none → c = 0) : slA a c i 1 = none → c - i = 0 := by
  intro h
  unfold slA at h
  split at h
  · omega
  · cases ha : a with
    | none => have := hc ha; omega
    | some x => rw [ha] at h; simp at h

theorem ref03_Take_spec {w : World} {s : Sl} {bs : List UInt8} (hr : Rd byteC 1 w s bs) (hcap : s.n ≤ s.c) (hc0 : s.a = none → s.c = 0) (hso : ∀ b, s.on b → b < w.heap.size) (hl : bs.length ≤ 1000000) : Spec PP n_cellplaneref03_Take [.slice s.a s.n s.c, .int .i64 8] w noB (TkP w bs) := by
  refine cellplaneref03_Take_calls s 8 _ w ?_
  unfold F_cellplaneref03_Take
  have T : Now noB w w := Now.refl
  have hn := hr.1
  have hlen := tkI_len (bs := bs)
  have hI := tkI_I (bs := bs)
  obtain ⟨k, u, e, hk⟩ : ∃ k u e, tkI bs = (k, u, e) := ⟨_, _, _, rfl⟩
  have hcut := takeM_cut hk
  have hv : tkV bs = .tuple #[.int .i64 k, .int .i64 (u : Int), .int .i64 e] := by unfold tkV; rw [hk]
  rw [hk] at hlen hI
  simp only at hlen hI
  refine CallL.vA T Anc.nil (fun wa T _ => ref01_TakeInt_spec (hr.tr T.t (by simp [noB])) (by omega)) (fun w2 T t => ⟨k, (u : Int), e, hv, ?_⟩)
  have bad : ∀ {w' : World} {e' : Int}, Now noB w w' → e' ≠ 0 → takeM bs = none → Reb w.heap.size w' [] ((fun v w' => Touch noB w w' ∧ TkP w bs v w') (.tuple #[.slice none 0 0, .int .i64 0, .int .i64 e'])) := by
    intro w' e' T he hm
    exact Reb.A T Anc.nil (fun w3 T t => ⟨T.t, ⟨none, 0, 0⟩, 0, e', rfl, .inl ⟨he, hm⟩⟩)
  refine ifbnd (fun h0 => bad T h0 (by rw [hcut, if_pos h0])) (fun h0 => ?_)
  subst h0
  rw [if_neg (by simp)] at hcut
  refine ifbd (fun h1 => bad T (by decide) (by rw [hcut, if_pos h1])) (fun h1 => ?_)
  rw [if_neg h1] at hcut
  refine ifbd (fun h2 => bad T (by decide) (by rw [hcut, if_pos h2])) (fun h2 => ?_)
  rw [if_neg h2] at hcut
  rw [wrap_i64 (x := ((s.n : Nat) : Int) - u) (by omega) (by omega), wrap_i64 (x := k + 8) (by omega) (by omega)]
  refine ifbd (fun h3 => bad T (by decide) (by rw [hcut, if_pos (by omega)])) (fun h3 => ?_)
  rw [if_neg (by omega)] at hcut
  have e8 : IntKind.i64.wrap ((u : Int) + 8) = ((u + 8 : Nat) : Int) := by rw [wrap_i64 (by omega) (by omega)]; simp
  have ek : IntKind.i64.wrap (((u + 8 : Nat) : Int) + k) = ((u + 8 + k.toNat : Nat) : Int) := by rw [wrap_i64 (by omega) (by omega)]; omega
  rw [e8, ek]
  simp only [Int.toNat_natCast]
  have hr2 : Rd byteC 1 w2 s bs := hr.tr T.t (by simp [noB])
  refine NewL.A T Anc.nil (fun b6 w3 T t3 hb6 l6 => ?_)
  have z2 := T.t.size
  refine ⟨by omega, by omega, by omega, ?_⟩
  have hr3 : Rd byteC 1 w3 s bs := hr.tr T.t (by simp [noB])
  have hrp : Rd byteC 1 w3 ⟨slA s.a s.c (u + 8) 1, u + 8 + k.toNat - (u + 8), s.c - (u + 8)⟩ ((bs.drop (u + 8)).take k.toNat) := by
    have h1 := hr3.drop (i := u + 8) (by omega) hcap (cap := s.c - (u + 8))
    have h2 := h1.take (i := k.toNat) (by rw [List.length_drop]; omega) (cap := s.c - (u + 8))
    rw [show u + 8 + k.toNat - (u + 8) = k.toNat by omega]
    exact h2
  refine copyB (s := ⟨slA s.a s.c (u + 8) 1, u + 8 + k.toNat - (u + 8), s.c - (u + 8)⟩) T hb6 l6.1 hrp (slA_none (by omega) hc0) (by rw [List.length_take]; omega) (fun l8 w4 T t4 o8 f8 => ⟨l8, rfl, by omega, by omega, by omega, ?_⟩)
  have fr8 : ∀ b, l8.on b → w.heap.size ≤ b := fun b hb => (f8 b hb).elim (fun h => by have := l6.1; omega) (fun h => by omega)
  have hr4 : Rd byteC 1 w4 s bs := hr.tr T.t (by simp [noB])
  have hnb : ∀ wa, Now noB w wa → Spec PP n_cellplaneref02_Back [.slice (slA s.a s.c u 1) (u + 8 - u) (s.c - u)] wa noB (fun v _ => v = .int .u64 (numM ((bs.drop u).take 8) : Int)) := fun wa T => by
    have h1 := (hr.tr T.t (by simp [noB])).drop (i := u) hlen hcap (cap := s.c - u)
    have h2 := h1.take (i := 8) (by rw [List.length_drop]; omega) (cap := s.c - u)
    rw [show u + 8 - u = 8 by omega]
    exact ref02_Back_spec (s := ⟨slA s.a s.c u 1, 8, s.c - u⟩) h2 (by rw [List.length_take, List.length_drop]; omega)
  refine CallL.vA T Anc.nil (fun wa T t => cellplaneref02_Sum_spec 8 ((o8.rd byteC_len).tr t (by simp [blk])) (by rw [List.length_take]; omega)) (fun w5 T t5 => ⟨_, rfl, ?_⟩)
  replace o8 := o8.tr t5 (by simp [blk])
  refine CallL.vA T Anc.nil (fun wa T t => hnb wa T) (fun w6 T t6 => ⟨_, rfl, ?_⟩)
  replace o8 := o8.tr t6 (by simp [blk])
  refine ifbnd (fun h4 => bad T (by decide) (by rw [hcut, if_pos (fun h => h4 h.symm)])) (fun h4 => ?_)
  rw [if_neg (fun h => h h4.symm)] at hcut
  refine Reb.A T Anc.nil (fun w7 T t7 => ⟨T.t, l8, _, 0, rfl, .inr ⟨rfl, _, u + 8 + k.toNat, rfl, hcut, o8.tr t7 (by simp [blk]), fr8⟩⟩)

/-- the frames that bytes begin with, and where they end -/
inductive Frs : List UInt8 → List (List UInt8) → Nat → Prop
  | stop {b} : takeM b = none → Frs b [] 0
  | step {b p n ps m} : takeM b = some (p, n) → Frs (b.drop n) ps m → Frs b (p :: ps) (n + m)
def slC (s : Sl) : List Value := [.slice s.a s.n s.c]
theorem slC_len (s : Sl) : (slC s).length = 1 := rfl
theorem slC_one (s : Sl) : ∀ u ∈ slC s, u.oneCell' = true := by
  intro u hu; simp [slC] at hu; subst hu; rfl
structure AllAt (w : World) (out : Sl) (sls : List Sl) (ps : List (List UInt8)) : Prop where
  o : Own slC 1 t_sl_u8 w out sls
  n : sls.length = ps.length
  e : ∀ (j : Nat) (l : Sl) (p : List UInt8), sls[j]? = some l → ps[j]? = some p → Own byteC 1 t_u8 w l p
def AllOn (out : Sl) (sls : List Sl) (b : Nat) : Prop := out.on b ∨ ∃ l ∈ sls, l.on b
theorem AllAt.tr {w w' : World} {out : Sl} {sls : List Sl} {ps : List (List UInt8)} {S : Nat → Prop} (A : AllAt w out sls ps) (t : Touch S w w') (h : ∀ b, AllOn out sls b → ¬ S b) : AllAt w' out sls ps :=
  ⟨A.o.tr t (fun b hb => h b (.inl hb)), A.n, fun j l p h1 h2 => (A.e j l p h1 h2).tr t (fun b hb => h b (.inr ⟨l, List.mem_of_getElem? h1, hb⟩))⟩
theorem AllAt.lt {w : World} {out : Sl} {sls : List Sl} {ps : List (List UInt8)} (A : AllAt w out sls ps) {b : Nat} (hb : AllOn out sls b) : b < w.heap.size := by
  rcases hb with hb | ⟨l, hl, hb⟩
  · exact A.o.lt hb
  · obtain ⟨j, hj⟩ := List.getElem?_of_mem hl
    have hjl : j < ps.length := by have := (List.getElem?_eq_some_iff.1 hj).1; rw [← A.n]; exact this
    exact (A.e j l _ hj (List.getElem?_eq_getElem hjl)).lt hb

theorem ref03_All_spec {w : World} {s : Sl} {bs : List UInt8} (hr : Rd byteC 1 w s bs) (hcap : s.n ≤ s.c) (hc0 : s.a = none → s.c = 0) (hso : ∀ b, s.on b → b < w.heap.size) (hl : bs.length ≤ 1000000) : Spec PP n_cellplaneref03_All [.slice s.a s.n s.c, .int .i64 8] w noB
    (fun v w' => ∃ (out : Sl) (n : Int) (sls : List Sl) (ps : List (List UInt8)) (m : Nat), v = .tuple #[.slice out.a out.n out.c, .int .i64 n] ∧ AllAt w' out sls ps ∧ Frs bs ps m ∧ ∀ b, AllOn out sls b → w.heap.size ≤ b) := by
  refine cellplaneref03_All_calls s 8 _ w ?_
  unfold F_cellplaneref03_All
  have hn := hr.1
  refine Reb.A (Now.refl (S := noB)) Anc.nil (fun w1 T t => ?_)
  unfold C_cellplaneref03_All_1
  refine Reb.A T Anc.nil (fun w1 T t => ?_)
  unfold C_cellplaneref03_All_2
  refine Reb.A T Anc.nil (fun w1 T t => ?_)
  unfold C_cellplaneref03_All_3
  refine LoopC.mk (fun x w' => ∃ (a : Nat) (out : Sl) (sls : List Sl) (ps : List (List UInt8)), x = (out, (a : Int)) ∧ a ≤ bs.length ∧ Now noB w w' ∧ AllAt w' out sls ps ∧ (∀ b, AllOn out sls b → w.heap.size ≤ b) ∧ (∀ b, (∃ l ∈ sls, l.on b) → ¬ out.on b) ∧ sls.length ≤ a ∧ ∀ ps' m', Frs (bs.drop a) ps' m' → Frs bs (ps ++ ps') (a + m')) (fun x => bs.length - x.2.toNat) ?_ ?_
  · refine Reb.A T Anc.nil (fun w2 T t => ⟨0, ⟨none, 0, 0⟩, [], [], rfl, by omega, T, ⟨Own.nil, rfl, by simp⟩, by simp [AllOn], by simp, by simp, by simp⟩)
  rintro x wa ⟨a, out, sls, ps, rfl, ha, T, A, hf, hd, hsl, hF⟩
  unfold L_cellplaneref03_All_5 B_cellplaneref03_All_5
  simp only
  have fin : ∀ {w' : World}, Now noB w w' → AllAt w' out sls ps → Frs bs ps a → Reb w.heap.size w' [] (fun w6 => C_cellplaneref03_All_4 w.heap.size (fun v w' => Touch noB w w' ∧ ∃ (out : Sl) (n : Int) (sls : List Sl) (ps : List (List UInt8)) (m : Nat), v = .tuple #[.slice out.a out.n out.c, .int .i64 n] ∧ AllAt w' out sls ps ∧ Frs bs ps m ∧ ∀ b, AllOn out sls b → w.heap.size ≤ b) out (a : Int) w6) := by
    intro w' T A F
    refine Reb.A T Anc.nil (fun w2 T t => ?_)
    replace A := A.tr t (by simp [blk])
    unfold C_cellplaneref03_All_4
    exact Reb.A T Anc.nil (fun w2 T t => ⟨T.t, out, _, sls, ps, a, rfl, A.tr t (by simp [blk]), F, hf⟩)
  refine ifbd (fun h0 => ?_) (fun h0 => ?_)
  rotate_left
  · have hz : bs.drop a = [] := List.eq_nil_of_length_eq_zero (by rw [List.length_drop]; omega)
    have := hF [] 0 (by rw [hz]; exact .stop takeM_nil)
    exact fin T A (by simpa using this)
  refine ⟨by omega, by omega, ?_⟩
  simp only [Int.toNat_natCast]
  have zA : ∀ b, AllOn out sls b → b < wa.heap.size := fun b hb => A.lt hb
  have zw := T.t.size
  have hdl : (bs.drop a).length = bs.length - a := List.length_drop
  refine CallL.pA T Anc.nil (fun wb T t => ref03_Take_spec (s := ⟨slA s.a s.c a 1, s.n - a, s.c - a⟩) ((hr.tr T.t (by simp [noB])).drop ha hcap) (by simp only; omega) (slA_none (by omega) hc0) (fun b hb => by have := hso b (slA_on (s := s) hb); have := T.t.size; omega) (by omega)) ?_
  rintro wb v w3 T t z1 z2 _ ⟨l1, n, e, rfl, hcase⟩
  replace A := A.tr t (by simp [blk])
  refine ⟨l1, n, e, rfl, ?_⟩
  rcases hcase with ⟨he, hm⟩ | ⟨rfl, p, n', rfl, hm, oq, fq⟩
  · refine ifbnd (fun _ => ?_) (fun h => absurd h he)
    exact fin T A (by have := hF [] 0 (.stop hm); simpa using this)
  refine ifbnd (fun h => absurd rfl h) (fun _ => ?_)
  have hn' := takeM_le hm
  refine NewL.A T Anc.nil (fun b7 w4 T t4 hb7 l7 => ?_)
  replace A := A.tr t4 (by simp [blk])
  replace oq := oq.tr t4 (by simp [blk])
  have ho := A.o.1
  refine RunL.appA T Anc.nil el_sl_sl_u8.t (by decide) slC_len slC_one A.o (Blk.rd1 (c := slC) (x := l1) hb7) (fun h => by cases h) (by omega) (fun b hlt hb => by have := hf b (.inl hb); omega) (by simp [blk]) (by simp [blk]) (fun s' w5 T t5 o5 f5 _ => ⟨s', rfl, ?_⟩)
  have hsp : ∀ b, l1.on b → ¬ out.on b := fun b hb hh => by have := fq b hb; have := zA b (.inl hh); omega
  have lt4 : ∀ b, l1.on b → b < w4.heap.size := fun b hb => oq.lt hb
  have z3 := t.size
  have z4 := t4.size
  have A5 : AllAt w5 s' (sls ++ [l1]) (ps ++ [p]) := by
    refine ⟨o5, by simp [A.n], fun j l q hj hq => ?_⟩
    rcases Nat.lt_or_ge j sls.length with hlt | hge
    · rw [List.getElem?_append_left hlt] at hj
      rw [List.getElem?_append_left (by rw [← A.n]; exact hlt)] at hq
      exact (A.e j l q hj hq).tr t5 (fun b hb hh => hh.elim (fun hh => by simp [blk] at hh) (hd b ⟨l, List.mem_of_getElem? hj, hb⟩))
    · rw [List.getElem?_append_right hge] at hj
      rw [List.getElem?_append_right (by rw [← A.n]; exact hge), ← A.n] at hq
      have hj0 : j - sls.length = 0 := by
        have := (List.getElem?_eq_some_iff.1 hj).1
        simp at this; omega
      rw [hj0] at hj hq
      simp at hj hq
      subst hj hq
      exact oq.tr t5 (fun b hb hh => hh.elim (fun hh => by simp [blk] at hh) (hsp b hb))
  have hf5 : ∀ b, AllOn s' (sls ++ [l1]) b → w.heap.size ≤ b := by
    rintro b (hb | ⟨l, hl, hb⟩)
    · exact (f5 b hb).elim (fun h => hf b (.inl h)) (fun h => by omega)
    · rcases List.mem_append.1 hl with hl | hl
      · exact hf b (.inr ⟨l, hl, hb⟩)
      · simp at hl; subst hl; have := fq b hb; omega
  have hd5 : ∀ b, (∃ l ∈ sls ++ [l1], l.on b) → ¬ s'.on b := by
    rintro b ⟨l, hl, hb⟩ hh
    rcases List.mem_append.1 hl with hl | hl
    · exact (f5 b hh).elim (hd b ⟨l, hl, hb⟩) (fun h => by have := zA b (.inr ⟨l, hl, hb⟩); omega)
    · simp at hl; subst hl
      exact (f5 b hh).elim (hsp b hb) (fun h => by have := lt4 b hb; omega)
  refine Reb.A T Anc.nil (fun w6 T t6 => ⟨trivial, ⟨a + n', s', sls ++ [l1], ps ++ [p], ?_, by omega, T, A5.tr t6 (by simp [blk]), hf5, hd5, by simp; omega, fun ps' m' F => ?_⟩, ?_⟩)
  · rw [wrap_i64 (by omega) (by omega)]; simp
  · have := hF (p :: ps') (n' + m') (.step hm (by rw [List.drop_drop]; exact F))
    simpa [Nat.add_assoc] using this
  · rw [wrap_i64 (by omega) (by omega)]
    omega

end Go.Sh
