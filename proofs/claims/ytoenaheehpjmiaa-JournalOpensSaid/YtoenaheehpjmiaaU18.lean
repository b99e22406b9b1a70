/- The reference's journal: Crash, Open.
   Conditions: none. -/
import Derived.Test.YtoenaheehpjmiaaU17
namespace Go.Sh
open Go
set_option linter.unusedSimpArgs false
set_option linter.unusedVariables false
set_option maxHeartbeats 4000000

theorem Frs.cons_inv {b p : List UInt8} {ps : List (List UInt8)} {m : Nat} (h : Frs b (p :: ps) m) : ∃ n m', takeM b = some (p, n) ∧ Frs (b.drop n) ps m' := by
  cases h with
  | step h1 h2 => exact ⟨_, _, h1, h2⟩
theorem Frs.nil_inv {b : List UInt8} {m : Nat} (h : Frs b [] m) : takeM b = none := by
  cases h with
  | stop h1 => exact h1

section
variable {w : World} {h : JH} {M : JM}

theorem ref08_Crash_spec (A : JAt RJ RD w h M) (hd : M.d ≤ M.b.length) (hl : M.b.length ≤ 1000000) (keep : Int) : Spec PP n_cellplaneref08_Journal_Crash [.pointer (some ⟨h.bj, 0, none⟩), .int .i64 keep] w h.on
    (fun r w' => r = .tuple #[] ∧ JP RJ RD w h (crashM M keep) w') := by
  refine cellplaneref08_Journal_Crash_calls (some ⟨h.bj, 0, none⟩) keep _ w ?_
  unfold F_cellplaneref08_Journal_Crash
  have B := JN.start A
  have hM : crashM M keep = readAll (M.b.take (keepD M.b.length M.d keep)) := rfl
  rw [hM]
  have hk : keepD M.b.length M.d keep ≤ M.b.length := by unfold keepD; omega
  have hbl : (M.b.take (keepD M.b.length M.d keep)).length = keepD M.b.length M.d keep := by rw [List.length_take]; omega
  refine nilL ⟨some ⟨h.bd, 0, none⟩, A.j.at 0 rfl, notIn_nil, ?_⟩
  refine B.dk offJ.nil (fun wa Ba _ => ref07_Crash_spec Ba.A.d hd (by omega) keep) (fun h1 w1 B e1 _ _ _ => ⟨rfl, ?_⟩)
  generalize hb : M.b.take (keepD M.b.length M.d keep) = b at B hbl ⊢
  generalize hd' : keepD M.b.length M.d keep = d at B hbl hk ⊢
  refine B.reb offJ.nil (fun w2 B _ => ?_)
  unfold C_cellplaneref08_Journal_Crash_1
  rw [show h.bj = h1.bj from B.ej.symm]
  refine nilL ⟨some ⟨h1.bd, 0, none⟩, B.A.j.at 0 rfl, notIn_nil, ?_⟩
  refine nilL ⟨h1.sl, B.A.d.c.at 0 rfl, notIn_nil, ?_⟩
  have zB : ∀ b, h1.on b → b < w2.heap.size := fun b hb => B.A.lt hb
  have zw2 := B.T.t.size
  refine B.p offJ.nil (fun wa B t => ref03_All_spec (B.A.d.s.rd byteC_len) B.A.d.s.cap.1 B.A.d.s.cap.2 (fun b hb => B.A.d.s.lt hb) (by simp only; omega)) ?_
  rintro wa v w3 B t z1 _ ⟨out, n, sls, ps, m, rfl, AL, F, fl⟩
  simp only at F
  refine ⟨out, n, rfl, ?_⟩
  have hoff : ∀ c, AllOn out sls c → w.heap.size ≤ c ∧ ¬ h1.on c := fun c hc => by
    have := fl c hc
    exact ⟨by omega, fun hh => by have := zB c hh; omega⟩
  have hsz : ∀ c, AllOn out sls c → c < w3.heap.size := fun c hc => AL.lt hc
  refine B.reb offJ.nil (fun w4 B t => ?_)
  replace AL := AL.tr t (by simp [blk])
  unfold C_cellplaneref08_Journal_Crash_2
  have lgk : ∀ {w' : World} {h : JH} {M : JM}, JAt RJ RD w' h M → ∀ b, h.lg.on b → ¬ dOn h.bd h.sl b ∧ b ≠ h.bj ∧ b ∉ blk [] := fun A b hb => ⟨fun hd => A.n3 b hd hb, fun e => A.n2 (e ▸ hb), by simp [blk]⟩
  -- the writes touch the journal's own block only
  have wr : ∀ {w' : World} {o : Nat} {ds : List Value} {K1 K : World → Prop}, StL w' [] ⟨h1.bj, o, none⟩ ds K1 → AllAt w' out sls ps → (∀ w'', K1 w'' → AllAt w'' out sls ps → K w'') → StL w' [] ⟨h1.bj, o, none⟩ ds K := by
    intro w' o ds K1 K hst AL k
    obtain ⟨hr, hn, hk⟩ := hst
    exact ⟨hr, hn, k _ hk (AL.tr ((Touch.refl (fun c => c = h1.bj) w').putC (p := ⟨h1.bj, o, none⟩) (cs := ds) (fun _ => rfl)) (fun c hc e => (hoff c hc).2 (.inl e)))⟩
  refine nilL (wr (o := 1) (K1 := fun w' => JN RJ RD w h w' h1 ⟨{ M.J with term := 0 }, b, d⟩) (B.put (h' := h1) (M' := ⟨{ M.J with term := 0 }, b, d⟩) (o := 1) offJ.nil rfl rfl rfl rfl (by simp) rfl rfl B.A.l (fun b hb => .inl hb) (lgk B.A) (fun w3 B _ => B)) AL (fun w5 B AL => ?_))
  refine nilL (wr (o := 2) (K1 := fun w' => JN RJ RD w h w' h1 ⟨{ M.J with term := 0, vote := -1 }, b, d⟩) (B.put (h' := h1) (M' := ⟨{ M.J with term := 0, vote := -1 }, b, d⟩) (o := 2) offJ.nil rfl rfl rfl rfl (by simp) rfl rfl B.A.l (fun b hb => .inl hb) (lgk B.A) (fun w3 B _ => B)) AL (fun w6 B AL => ?_))
  refine nilL (wr (o := 3) (K1 := fun w' => JN RJ RD w h w' { h1 with lg := ⟨none, 0, 0⟩ } ⟨j0, b, d⟩) (B.put (h' := { h1 with lg := ⟨none, 0, 0⟩ }) (M' := ⟨j0, b, d⟩) (o := 3) offJ.nil rfl rfl rfl rfl (by simp) rfl rfl Own.nil (fun b hb => by simp at hb) (fun b hb => by simp at hb) (fun w3 B _ => B)) AL (fun w7 B AL => ?_))
  have hoff2 : ∀ c, AllOn out sls c → ¬ ({ h1 with lg := ⟨none, 0, 0⟩ } : JH).on c := by
    rintro c hc (hh | hh | hh)
    · exact (hoff c hc).2 (.inl hh)
    · exact (hoff c hc).2 (.inr (.inl hh))
    · simp at hh
  generalize hh2 : ({ h1 with lg := ⟨none, 0, 0⟩ } : JH) = h2 at B hoff2
  have ebj : h1.bj = h2.bj := by rw [← hh2]
  rw [ebj]
  refine B.reb offJ.nil (fun w8 B t => ?_)
  replace AL := AL.tr t (by simp [blk])
  unfold C_cellplaneref08_Journal_Crash_3
  refine B.reb offJ.nil (fun w9 B t => ?_)
  replace AL := AL.tr t (by simp [blk])
  unfold C_cellplaneref08_Journal_Crash_4
  refine B.reb offJ.nil (fun w10 B t => ?_)
  replace AL := AL.tr t (by simp [blk])
  unfold C_cellplaneref08_Journal_Crash_6
  have hon := AL.o.1
  have hpn := AL.n
  refine LoopC.mk (fun x w' => ∃ (a i : Nat) (J : JC) (h' : JH) (m' : Nat), x = ((a : Int), (i : Int)) ∧ i ≤ ps.length ∧ i ≤ a ∧ a ≤ b.length ∧ J.log.length ≤ a ∧ JN RJ RD w h w' h' ⟨J, b, d⟩ ∧ h'.bj = h2.bj ∧ AllAt w' out sls ps ∧ (∀ c, AllOn out sls c → ¬ h'.on c)
    ∧ Frs (b.drop a) (ps.drop i) m' ∧ replay j0 b = ((replay J (b.drop a)).1, a + (replay J (b.drop a)).2)) (fun x => ps.length - x.2.toNat) ?_ ?_
  · exact B.reb offJ.nil (fun w11 B t => ⟨0, 0, j0, h2, m, rfl, by omega, by omega, by omega, by simp [j0], B, rfl, AL.tr t (by simp [blk]), hoff2, by simpa using F, by simp⟩)
  rintro x w9 ⟨a, i, J, h', m', rfl, hi, hia, ha, hJ, B, ebj, AL, hoff, F, hrep⟩
  unfold L_cellplaneref08_Journal_Crash_7 B_cellplaneref08_Journal_Crash_7
  simp only
  have fin : ∀ {w' : World} {h' : JH} {J : JC}, JN RJ RD w h w' h' ⟨J, b, d⟩ → h'.bj = h2.bj → replay j0 b = (J, a) →
      Reb w.heap.size w' [] (fun w11 => C_cellplaneref08_Journal_Crash_5 w.heap.size (fun r w' => Touch h.on w w' ∧ (r = .tuple #[] ∧ JP RJ RD w h (readAll b) w')) (some ⟨h2.bj, 0, none⟩) (a : Int) w11) := by
    intro w' h' J B ebj hr
    refine B.reb offJ.nil (fun w2 B _ => ?_)
    unfold C_cellplaneref08_Journal_Crash_5
    rw [← ebj]
    refine nilL ⟨some ⟨h'.bd, 0, none⟩, B.A.j.at 0 rfl, notIn_nil, ?_⟩
    refine B.dk offJ.nil (fun wa Ba _ => ref07_Truncate_spec Ba.A.d (by simp only; omega) ha) (fun h3 w3 B _ _ _ _ => ⟨0, rfl, ?_⟩)
    have e : readAll b = ⟨J, b.take a, min d a⟩ := by unfold readAll; rw [hr]; simp only [JM.mk.injEq, true_and]; omega
    rw [e]
    exact B.fin offJ.nil
  refine ifbd (fun hlt => ?_) (fun hge => ?_)
  rotate_left
  · have hz : ps.drop i = [] := List.eq_nil_of_length_eq_zero (by rw [List.length_drop]; omega)
    rw [hz] at F
    exact fin B ebj (by rw [hrep, replay_none F.nil_inv]; simp)
  have hip : i < ps.length := by omega
  have hdr := List.drop_eq_getElem_cons hip
  rw [hdr] at F
  obtain ⟨n', m'', hm, F⟩ := F.cons_inv
  obtain ⟨hp1, hp2, _⟩ := takeM_some hm
  have hn' := takeM_le hm
  have hdl : (b.drop a).length = b.length - a := List.length_drop
  have hps : ps[i]? = some ps[i] := List.getElem?_eq_getElem hip
  generalize ps[i] = p at hm hp1 hp2 hps F
  have oAt : ∀ {w'} (l : Sl), AllAt w' out sls ps → sls[i]? = some l → Own byteC 1 t_u8 w' l p := fun l AL hs => AL.e i l p hs hps
  refine (AL.o.rd slC_len).idx (by omega) (by omega) (fun q l hq hx hat => ⟨l, hat, notIn_nil, ?_⟩)
  simp only [Int.toNat_natCast] at hx
  have hlm := List.mem_of_getElem? hx
  rw [← ebj]
  have zA : ∀ c, AllOn out sls c → c < w9.heap.size := fun c hc => AL.lt hc
  refine B.op offJ.nil (fun wa B t => ref08_record_spec B.A (((oAt l AL hx).rd byteC_len).tr t (by simp [blk])) (oAt l AL hx).cap.1 (fun c hc => ⟨hoff c (.inr ⟨l, hlm, hc⟩), by have := zA c (.inr ⟨l, hlm, hc⟩); have := t.size; omega⟩) hp1 (by simp only; omega)) (fun h3 w11 B1 hf _ t3 => ⟨_, rfl, ?_⟩)
  have ej3 : h3.bj = h'.bj := by rw [B1.ej, ← B.ej]
  replace AL := AL.tr t3 (fun c hc hh => hh.elim (fun hh => by simp [blk] at hh) (hoff c hc))
  simp only at B1 ⊢
  cases hR : readM J p with
  | none =>
    rw [rdJ_no hR] at B1
    refine ifbn (fun _ => ?_) (fun h => by cases h)
    rw [ebj]
    exact fin B1 (ej3.trans ebj) (by rw [hrep, replay_bad hm hR]; simp)
  | some J' =>
    rw [rdJ_some hR] at B1
    refine ifbn (fun h => by cases h) (fun _ => ?_)
    refine (AL.o.rd slC_len).idx (by omega) (by omega) (fun q l' hq hx' hat => ⟨l', hat, notIn_nil, ?_⟩)
    simp only [Int.toNat_natCast] at hx'
    obtain rfl : l = l' := Option.some.inj (hx.symm.trans hx')
    refine B1.p offJ.nil (fun wa B t => ref03_Put_spec (((oAt l AL hx).rd byteC_len).tr t (by simp [blk])) (oAt l AL hx).cap.2 hp1) ?_
    rintro wa v w12 B2 t z1 _ ⟨l4, rfl, o4, f4⟩
    replace AL := AL.tr t (by simp [blk])
    refine ⟨l4, rfl, ?_⟩
    have h4 := o4.1
    refine B2.reb offJ.nil (fun w13 B2 t2 => ⟨trivial, ⟨a + n', i + 1, J', h3, m'', ?_, by omega, by omega, by omega, ?_, B2, ej3, AL.tr t2 (by simp [blk]), fun c hc hh => ?_, ?_, ?_⟩, ?_⟩)
    · rw [wrap_i64 (by omega) (by omega), wrap_i64 (by omega) (by omega)]
      simp only [Prod.mk.injEq]
      constructor <;> omega
    · obtain ⟨r, _, _, _, rfl⟩ := readM_some hR
      have := doR_len (J := J) (r := r)
      omega
    · rcases hf c hh with hh | hh
      · exact hoff c hc hh
      · have := zA c hc; omega
    · rw [← List.drop_drop]; exact F
    · rw [hrep, replay_step hm hR, List.drop_drop]
      simp only [Prod.mk.injEq, true_and]
      omega
    · rw [wrap_i64 (x := (i : Int) + 1) (by omega) (by omega)]
      omega

theorem ref08_Sync_spec (A : JAt RJ RD w h M) : Spec PP n_cellplaneref08_Journal_Sync [.pointer (some ⟨h.bj, 0, none⟩)] w h.on (fun r w' => r = .tuple #[] ∧ JP RJ RD w h (syncM M) w') := by
  refine cellplaneref08_Journal_Sync_calls (some ⟨h.bj, 0, none⟩) _ w ?_
  unfold F_cellplaneref08_Journal_Sync
  have B := JN.start A
  refine nilL ⟨some ⟨h.bd, 0, none⟩, A.j.at 0 rfl, notIn_nil, ?_⟩
  refine B.dk offJ.nil (fun wa B _ => ref07_Sync_spec B.A.d) (fun h1 w1 B _ _ _ _ => ⟨rfl, ?_⟩)
  exact B.fin offJ.nil

theorem ref08_Open_spec {w : World} {s : Sl} {bs : List UInt8} (hr : Rd byteC 1 w s bs) (hc : s.a = none → s.c = 0) (hso : ∀ b, s.on b → b < w.heap.size) (hl : bs.length ≤ 1000000) :
    Spec PP n_cellplaneref08_Open [.slice s.a s.n s.c] w noB (fun v w' => ∃ h : JH, v = .pointer (some ⟨h.bj, 0, none⟩) ∧ JAt RJ RD w' h (readAll bs) ∧ ∀ b, h.on b → w.heap.size ≤ b) := by
  refine cellplaneref08_Open_calls s _ w ?_
  unfold F_cellplaneref08_Open
  refine ref08_new Now.refl (fun h1 w1 B t1 _ => ⟨_, rfl, ?_⟩)
  have z1 := t1.size
  refine B.dk (fun wa A t => ref07_Append_spec A.d (hr.tr (t1.comp t (fun _ _ h => by simp [blk] at h)) (by simp [noB])) hc (fun b hb => by have := hso b hb; have := t.size; omega) (by simp [jm0]; omega)) (fun h2 w2 B _ _ => ⟨rfl, ?_⟩)
  refine B.dk (fun wa A _ => ref07_Sync_spec A.d) (fun h3 w3 B _ _ => ⟨rfl, ?_⟩)
  refine B.op offJ.nil (fun wa A _ => ref08_Crash_spec A (by simp) (by simp [jm0]; omega) 0) (fun h4 w4 B _ _ _ => ⟨rfl, ?_⟩)
  have e : crashM ⟨(JM.mk jm0.J (jm0.b ++ bs) jm0.d).J, (JM.mk jm0.J (jm0.b ++ bs) jm0.d).b, (JM.mk jm0.J (jm0.b ++ bs) jm0.d).b.length⟩ 0 = readAll bs := by
    unfold crashM
    simp only [keepN_full]
    rfl
  rw [e] at B
  exact B.reb offJ.nil (fun w5 B _ => ⟨B.T.t, h4, by rw [B.e], B.A, B.fr⟩)
end

end Go.Sh
