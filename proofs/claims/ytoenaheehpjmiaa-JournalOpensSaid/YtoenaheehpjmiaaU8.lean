/- The program's journal: frames taken, Crash, Open, Copy.
   Conditions: none. -/
import Derived.Test.YtoenaheehpjmiaaU7
namespace Go.Sh
open Go
set_option linter.unusedSimpArgs false
set_option linter.unusedVariables false
set_option maxHeartbeats 4000000

/-- what Take answers -/
def TkP (w : World) (bs : List UInt8) (v : Value) (w' : World) : Prop :=
  ∃ (l : Sl) (n e : Int), v = .tuple #[.slice l.a l.n l.c, .int .i64 n, .int .i64 e] ∧ ((e ≠ 0 ∧ takeM bs = none) ∨ (e = 0 ∧ ∃ p n', n = ((n' : Nat) : Int) ∧ takeM bs = some (p, n') ∧ Own byteC 1 t_u8 w' l p ∧ ∀ b, l.on b → w.heap.size ≤ b))

theorem takeM_cut {bs : List UInt8} {k : Int} {u : Nat} {e : Int} (h : tkI bs = (k, u, e)) : takeM bs = if e ≠ 0 then none else if k < 0 then none else if 65536 < k then none else if (bs.length : Int) - u < k + 8 then none
      else if (numM ((bs.drop u).take 8) : Int) ≠ sumI 8 ((bs.drop (u + 8)).take k.toNat) then none else some ((bs.drop (u + 8)).take k.toNat, u + 8 + k.toNat) := by
  rw [takeM_spec, h]

theorem slA_nat {a : Option Addr} {c : Nat} {x : Int} {n : Nat} (h : x = (n : Int)) : slA a c x.toNat 1 = slA a c n 1 := by rw [h, Int.toNat_natCast]

theorem frame_Take_spec {w : World} {s : Sl} {bs : List UInt8} (hr : Rd byteC 1 w s bs) (hcap : s.n ≤ s.c) (hc0 : s.a = none → s.c = 0) (hl : bs.length ≤ 1000000) : Spec PP n_frame_Take [.slice s.a s.n s.c, .int .i64 8] w noB (TkP w bs) := by
  refine frame_Take_calls s 8 _ w ?_
  unfold F_frame_Take
  have T : Now noB w w := Now.refl
  have hn := hr.1
  have hlen := tkI_len (bs := bs)
  have hI := tkI_I (bs := bs)
  obtain ⟨k, u, e, hk⟩ : ∃ k u e, tkI bs = (k, u, e) := ⟨_, _, _, rfl⟩
  have hcut := takeM_cut hk
  have hv : tkV bs = .tuple #[.int .i64 k, .int .i64 (u : Int), .int .i64 e] := by unfold tkV; rw [hk]
  rw [hk] at hlen hI
  simp only at hlen hI
  refine CallL.vA T Anc.nil (fun wa T _ => wire_TakeInt_spec (hr.tr T.t (by simp [noB])) (by omega)) (fun w2 T t => ⟨k, (u : Int), e, hv, ?_⟩)
  have bad : ∀ {w' : World} {e' : Int}, Now noB w w' → e' ≠ 0 → takeM bs = none → Reb w.heap.size w' [] ((fun v w' => Touch noB w w' ∧ TkP w bs v w') (.tuple #[.slice none 0 0, .int .i64 0, .int .i64 e'])) := by
    intro w' e' T he hm
    exact Reb.A T Anc.nil (fun w3 T t => ⟨T.t, ⟨none, 0, 0⟩, 0, e', rfl, .inl ⟨he, hm⟩⟩)
  refine ifbnd (fun h0 => bad T h0 (by rw [hcut, if_pos h0])) (fun h0 => ?_)
  subst h0
  rw [if_neg (by simp)] at hcut
  refine ifbd (fun h1 => bad T (by decide) (by rw [hcut, if_pos h1])) (fun h1 => ?_)
  rw [if_neg h1] at hcut
  refine ifbd (fun h2 => bad T (by decide) (by rw [hcut, if_pos h2])) (fun h2 => ?_)
  rw [if_neg h2] at hcut
  rw [wrap_i64 (x := ((s.n : Nat) : Int) - u) (by omega) (by omega), wrap_i64 (x := 8 + k) (by omega) (by omega)]
  refine ifbd (fun h3 => bad T (by decide) (by rw [hcut, if_pos (by omega)])) (fun h3 => ?_)
  rw [if_neg (by omega)] at hcut
  have e8 : IntKind.i64.wrap ((u : Int) + 8) = ((u + 8 : Nat) : Int) := by rw [wrap_i64 (by omega) (by omega)]; simp
  have ek : IntKind.i64.wrap (((u + 8 : Nat) : Int) + k) = ((u + 8 + k.toNat : Nat) : Int) := by rw [wrap_i64 (by omega) (by omega)]; omega
  rw [e8, ek]
  simp only [Int.toNat_natCast]
  refine ⟨by omega, by omega, by omega, by omega, by omega, ?_⟩
  have hr8 : ∀ {w'}, Now noB w w' → Rd byteC 1 w' ⟨slA s.a s.c u 1, s.n - u, s.c - u⟩ (bs.drop u) := fun T => (hr.tr T.t (by simp [noB])).drop (i := u) hlen hcap
  have hrp : ∀ {w'}, Now noB w w' → Rd byteC 1 w' ⟨slA s.a s.c (u + 8) 1, u + 8 + k.toNat - (u + 8), s.c - (u + 8)⟩ ((bs.drop (u + 8)).take k.toNat) := fun T => by
    have h1 := (hr.tr T.t (by simp [noB])).drop (i := u + 8) (by omega) hcap (cap := s.c - (u + 8))
    have h2 := h1.take (i := k.toNat) (by rw [List.length_drop]; omega) (cap := s.c - (u + 8))
    rw [show u + 8 + k.toNat - (u + 8) = k.toNat by omega]
    exact h2
  have hsn : ∀ wa, Now noB w wa → Spec PP n_frame_number [.slice (slA s.a s.c u 1) (s.n - u) (s.c - u)] wa noB (fun v _ => v = .int .u64 (numM ((bs.drop u).take 8) : Int)) := fun wa T =>
    frame_number_spec (s := ⟨slA s.a s.c u 1, s.n - u, s.c - u⟩) (hr8 T) (by simp only; omega) (by rw [List.length_drop]; omega)
  have hss : ∀ wa, Now noB w wa → Spec PP n_digest_Sum [.int .i64 8, .slice (slA s.a s.c (u + 8) 1) (u + 8 + k.toNat - (u + 8)) (s.c - (u + 8))] wa noB (fun v _ => v = .int .u64 (sumI 8 ((bs.drop (u + 8)).take k.toNat))) := fun wa T =>
    digest_Sum_spec (s := ⟨slA s.a s.c (u + 8) 1, u + 8 + k.toNat - (u + 8), s.c - (u + 8)⟩) 8 (hrp T) (by rw [List.length_take]; omega)
  refine CallL.vA T Anc.nil (fun wa T _ => hsn wa T) (fun w3 T t => ⟨_, rfl, ?_⟩)
  refine CallL.vA T Anc.nil (fun wa T _ => hss wa T) (fun w4 T t => ⟨_, rfl, ?_⟩)
  refine ifbnd (fun h4 => bad T (by decide) (by rw [hcut, if_pos h4])) (fun h4 => ?_)
  rw [if_neg (by simpa using h4)] at hcut
  have h0 : Own byteC 1 t_u8 w4 ⟨none, 0, 0⟩ [] := Own.nil
  have hpc : slA s.a s.c (u + 8) 1 = none → s.c - (u + 8) = 0 := by
    intro h
    unfold slA at h
    split at h
    · omega
    · cases ha : s.a with
      | none => have := hc0 ha; omega
      | some x => rw [ha] at h; simp at h
  have zw4 := T.t.size
  refine RunL.appA T Anc.nil el_sl_u8.t (by decide) byteC_len byteC_one h0 (q := slA s.a s.c (u + 8) 1) (m := u + 8 + k.toNat - (u + 8)) (cap := s.c - (u + 8)) (ys := (bs.drop (u + 8)).take k.toNat) (hrp T) hpc (by simp; omega) (by simp) (by simp [blk]) (by simp [blk]) (fun s' w5 T t o f n => ⟨s', rfl, ?_⟩)
  have zz := T.t.size
  have z4 := t.size
  refine Reb.A T Anc.nil (fun w6 T t6 => ⟨T.t, s', _, 0, rfl, .inr ⟨rfl, _, u + 8 + k.toNat, rfl, hcut, by simpa using o.tr t6 n, fun b hb => ?_⟩⟩)
  rcases f b hb with h | h
  · simp at h
  · omega


theorem doR_len {J : JC} {r : Rec} : (doR J r).log.length ≤ J.log.length + 1 := by
  cases r <;> simp [doR] <;> omega
theorem rdJ_some {J J' : JC} {b p : List UInt8} {d : Nat} (h : readM J p = some J') : rdJ ⟨J, b, d⟩ p = ⟨J', b, d⟩ := by unfold rdJ; simp only [h]
theorem rdJ_no {J : JC} {b p : List UInt8} {d : Nat} (h : readM J p = none) : rdJ ⟨J, b, d⟩ p = ⟨J, b, d⟩ := by unfold rdJ; simp only [h]

section
variable {w : World} {h : JH} {M : JM}

theorem journal_Crash_spec (A : JAt t_journal_Journal t_disk_Disk w h M) (hd : M.d ≤ M.b.length) (hl : M.b.length ≤ 1000000) (keep : Int) : Spec PP n_journal_Journal_Crash [.pointer (some ⟨h.bj, 0, none⟩), .int .i64 keep] w h.on
    (fun r w' => r = .tuple #[] ∧ JP t_journal_Journal t_disk_Disk w h (crashM M keep) w') := by
  refine journal_Journal_Crash_calls (some ⟨h.bj, 0, none⟩) keep _ w ?_
  unfold F_journal_Journal_Crash
  have B := JN.start A
  have hM : crashM M keep = readAll (M.b.take (keepD M.b.length M.d keep)) := rfl
  rw [hM]
  have hk : keepD M.b.length M.d keep ≤ M.b.length := by unfold keepD; omega
  have hbl : (M.b.take (keepD M.b.length M.d keep)).length = keepD M.b.length M.d keep := by rw [List.length_take]; omega
  refine nilL ⟨some ⟨h.bd, 0, none⟩, A.j.at 0 rfl, notIn_nil, ?_⟩
  refine B.dk offJ.nil (fun wa Ba _ => disk_Crash_spec Ba.A.d hd (by omega) keep) (fun h1 w1 B e1 _ _ _ => ⟨rfl, ?_⟩)
  generalize hb : M.b.take (keepD M.b.length M.d keep) = b at B hbl ⊢
  generalize hd' : keepD M.b.length M.d keep = d at B hbl hk ⊢
  refine B.reb offJ.nil (fun w2 B _ => ?_)
  unfold C_journal_Journal_Crash_1
  rw [show h.bj = h1.bj from B.ej.symm]
  have lgk : ∀ {w' : World} {h : JH} {M : JM}, JAt t_journal_Journal t_disk_Disk w' h M → ∀ b, h.lg.on b → ¬ dOn h.bd h.sl b ∧ b ≠ h.bj ∧ b ∉ blk [] := fun A b hb => ⟨fun hd => A.n3 b hd hb, fun e => A.n2 (e ▸ hb), by simp [blk]⟩
  refine nilL (B.put (h' := h1) (M' := ⟨{ M.J with term := 0 }, b, d⟩) (o := 1) offJ.nil rfl rfl rfl rfl (by simp) rfl rfl B.A.l (fun b hb => .inl hb) (lgk B.A) (fun w3 B _ => ?_))
  refine nilL (B.put (h' := h1) (M' := ⟨{ M.J with term := 0, vote := -1 }, b, d⟩) (o := 2) offJ.nil rfl rfl rfl rfl (by simp) rfl rfl B.A.l (fun b hb => .inl hb) (lgk B.A) (fun w4 B _ => ?_))
  refine nilL (B.put (h' := { h1 with lg := ⟨none, 0, 0⟩ }) (M' := ⟨j0, b, d⟩) (o := 3) offJ.nil rfl rfl rfl rfl (by simp) rfl rfl Own.nil (fun b hb => by simp at hb) (fun b hb => by simp at hb) (fun w5 B _ => ?_))
  generalize hh2 : ({ h1 with lg := ⟨none, 0, 0⟩ } : JH) = h2 at B
  have ebj : h1.bj = h2.bj := by rw [← hh2]
  rw [ebj]
  refine B.reb offJ.nil (fun w6 B _ => ?_)
  unfold C_journal_Journal_Crash_2
  refine nilL ⟨some ⟨h2.bd, 0, none⟩, B.A.j.at 0 rfl, notIn_nil, ?_⟩
  have z6 := B.T.t.size
  have zA : ∀ c, h2.on c → c < w6.heap.size := fun c hc => B.A.lt hc
  refine B.p offJ.nil (fun wa Ba _ => disk_Bytes_spec Ba.A.d (by simp only; omega)) ?_
  rintro wa v w7 B t z1 _ ⟨l, rfl, o, f⟩
  refine ⟨l, rfl, ?_⟩
  simp only at o
  have hon : ∀ c, l.on c → w.heap.size ≤ c ∧ ¬ h2.on c := fun c hc => ⟨by have := f c hc; omega, fun h => by have := f c hc; have := zA c h; omega⟩
  refine B.reb offJ.nil (fun w8 B t => ?_)
  replace o := o.tr t (by simp [blk])
  unfold C_journal_Journal_Crash_3
  refine B.reb offJ.nil (fun w8 B t => ?_)
  replace o := o.tr t (by simp [blk])
  unfold C_journal_Journal_Crash_4
  have hcap := o.cap
  have hln := o.1
  refine LoopC.mk (fun x w' => ∃ (a : Nat) (J : JC) (h' : JH), x = (a : Int) ∧ a ≤ b.length ∧ J.log.length ≤ a ∧ JN t_journal_Journal t_disk_Disk w h w' h' ⟨J, b, d⟩ ∧ h'.bj = h2.bj ∧ Own byteC 1 t_u8 w' l b ∧ (∀ c, l.on c → ¬ h'.on c)
    ∧ replay j0 b = ((replay J (b.drop a)).1, a + (replay J (b.drop a)).2)) (fun x => b.length - x.toNat) ?_ ?_
  · exact B.reb offJ.nil (fun w9 B t => ⟨0, j0, h2, rfl, by omega, by simp [j0], B, rfl, o.tr t (by simp [blk]), fun c hc => (hon c hc).2, by simp⟩)
  rintro x w9 ⟨a, J, h', rfl, ha, hJ, B, ebj, o, hoff, hrep⟩
  unfold L_journal_Journal_Crash_6 B_journal_Journal_Crash_6
  simp only
  -- the end
  have fin : ∀ {w' : World} {h' : JH} {J : JC}, JN t_journal_Journal t_disk_Disk w h w' h' ⟨J, b, d⟩ → h'.bj = h2.bj → replay j0 b = (J, a) →
      Reb w.heap.size w' [] (fun w11 => C_journal_Journal_Crash_5 w.heap.size (fun r w' => Touch h.on w w' ∧ (r = .tuple #[] ∧ JP t_journal_Journal t_disk_Disk w h (readAll b) w')) (some ⟨h2.bj, 0, none⟩) (a : Int) w11) := by
    intro w' h' J B ebj hr
    refine B.reb offJ.nil (fun w2 B _ => ?_)
    unfold C_journal_Journal_Crash_5
    rw [← ebj]
    refine nilL ⟨some ⟨h'.bd, 0, none⟩, B.A.j.at 0 rfl, notIn_nil, ?_⟩
    refine B.dk offJ.nil (fun wa Ba _ => disk_Truncate_spec Ba.A.d ha) (fun h3 w3 B _ _ _ _ => ⟨0, rfl, ?_⟩)
    have e : readAll b = ⟨J, b.take a, min d a⟩ := by unfold readAll; rw [hr]; simp only [JM.mk.injEq, true_and]; omega
    rw [e]
    exact B.fin offJ.nil
  refine ifbd (fun hlt => ?_) (fun hge => ?_)
  · refine ⟨by omega, by omega, ?_⟩
    simp only [Int.toNat_natCast]
    have hrd : Rd byteC 1 w9 ⟨slA l.a l.c a 1, l.n - a, l.c - a⟩ (b.drop a) := (o.rd byteC_len).drop (i := a) ha hcap.1
    have hnl : slA l.a l.c a 1 = none → l.c - a = 0 := by
      intro h
      unfold slA at h
      split at h
      · omega
      · cases hla : l.a with
        | none => have := hcap.2 hla; omega
        | some x => rw [hla] at h; simp at h
    have zB : ∀ c, h'.on c → c < w9.heap.size := fun c hc => B.A.lt hc
    refine B.p offJ.nil (fun wa Ba t => frame_Take_spec (s := ⟨slA l.a l.c a 1, l.n - a, l.c - a⟩) (hrd.tr t (by simp [blk])) (by simp only; omega) hnl (by rw [List.length_drop]; omega)) ?_
    rintro wa v w10 B t z1 _ ⟨q, n, e, rfl, hcase⟩
    replace o := o.tr t (by simp [blk])
    refine ⟨q, n, e, rfl, ?_⟩
    rcases hcase with ⟨he, hm⟩ | ⟨rfl, p, n', rfl, hm, oq, fq⟩
    · refine ifbnd (fun _ => fin B ebj (by rw [hrep, replay_none hm]; simp)) (fun h => absurd h he)
    refine ifbnd (fun h => absurd rfl h) (fun _ => ?_)
    have hn' := takeM_le hm
    have hdl : (b.drop a).length = b.length - a := List.length_drop
    have hoq : ∀ c, q.on c → ¬ h'.on c ∧ c < w10.heap.size := fun c hc => ⟨fun h => by have := fq c hc; have := zB c h; omega, oq.lt hc⟩
    rw [← ebj]
    refine B.op offJ.nil (fun wa Ba t => journal_read_spec Ba.A ((oq.rd byteC_len).tr t (by simp [blk])) oq.cap.1 (fun c hc => ⟨(hoq c hc).1, by have := (hoq c hc).2; have := t.size; omega⟩) (takeM_some hm).1 (by simp only; omega)) (fun h3 w11 B1 hf _ t3 => ⟨_, rfl, ?_⟩)
    have ej3 : h3.bj = h2.bj := by rw [B1.ej, ← B.ej, ebj]
    have o3 := o.tr t3 (fun c hc hh => by
      rcases hh with hh | hh
      · simp [blk] at hh
      · exact hoff c hc hh)
    simp only at B1 ⊢
    cases hR : readM J p with
    | none =>
      rw [rdJ_no hR] at B1
      refine ifbn (fun _ => ?_) (fun h => by cases h)
      rw [ebj]
      exact fin B1 ej3 (by rw [hrep, replay_bad hm hR]; simp)
    | some J' =>
      rw [rdJ_some hR] at B1
      refine ifbn (fun h => by cases h) (fun _ => ?_)
      refine B1.reb offJ.nil (fun w12 B2 t2 => ⟨trivial, ?_, ?_⟩)
      · refine ⟨a + n', J', h3, ?_, by omega, ?_, B2, ej3.trans ebj.symm, o3.tr t2 (by simp [blk]), fun c hc hh => ?_, ?_⟩
        · rw [wrap_i64 (by omega) (by omega)]; omega
        · obtain ⟨r, _, _, _, rfl⟩ := readM_some hR
          have := doR_len (J := J) (r := r)
          omega
        · rcases hf c hh with hh | hh
          · exact hoff c hc hh
          · have := o.lt hc; omega
        · rw [hrep, replay_step hm hR, List.drop_drop]
          simp only [Prod.mk.injEq, true_and]
          omega
      · rw [wrap_i64 (by omega) (by omega)]
        omega
  · have : b.drop a = [] := List.eq_nil_of_length_eq_zero (by rw [List.length_drop]; omega)
    exact fin B ebj (by rw [hrep, this, replay_none takeM_nil]; simp)
end

end Go.Sh
