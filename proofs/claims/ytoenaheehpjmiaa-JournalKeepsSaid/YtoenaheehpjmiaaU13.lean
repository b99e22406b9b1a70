/- JournalKeeps, JournalReopens, the walks.
   Conditions: none. -/
import Derived.Test.YtoenaheehpjmiaaU12
import Derived.Test.YtoenaheehpjmiaaEW
namespace Go.Sh
open Go
set_option linter.unusedSimpArgs false
set_option linter.unusedVariables false
set_option maxHeartbeats 4000000

theorem eqb_self {x : G_api_Logged} : G_api_Logged.eqb x x = true := by rw [G_api_Logged.eqb_iff]
theorem add_block' {p : Addr} {n : Nat} : (p.add n).block = p.block := by unfold Addr.add; split <;> rfl
theorem GI.at {w0 wa w : World} {bj : Nat} {ns : List Int} {i n : Nat} {h : JH} {M : JM} {s : Sl} (G : GI wa w bj ns i n h M s) (T : Now noB w0 w) (z : w0.heap.size ≤ wa.heap.size) : GI w0 w bj ns i n h M s :=
  ⟨⟨T, G.B.A, G.B.e, fun b hb => by have := G.B.fr b hb; omega⟩, G.bd, G.g, G.le, G.d, G.o, fun b hb => ⟨by have := (G.f b hb).1; omega, (G.f b hb).2⟩⟩

theorem JournalKeeps_spec {w : World} {l : Sl} {ns : List Int} (I : In intC' 1 (fun _ => True) w l ns) (sync keep : Int) : Spec PP n_cellplanelaw08_JournalKeeps [.slice l.a l.n l.c, .int .i64 sync, .int .i64 keep] w noB (fun v _ => v = .bool true) := by
  refine cellplanelaw08_JournalKeeps_calls l sync keep _ w ?_
  unfold F_cellplanelaw08_JournalKeeps
  refine Reb.A (Now.refl (S := noB)) Anc.nil (fun w1 T t => ?_)
  unfold C_cellplanelaw08_JournalKeeps_1
  have z0 := T.t.size
  refine CallL.pA T Anc.nil (fun wa T _ => grown_spec (I.rd.tr T.t (by simp [noB])) sync) ?_
  rintro wa v w2 T t z1 z2 _ ⟨h, M, s, i, n, rfl, G, hi, h30⟩
  replace G := G.at T (by omega)
  refine ⟨_, s, _, rfl, ?_⟩
  refine G.reb (fun w3 G _ => ?_)
  unfold C_cellplanelaw08_JournalKeeps_2
  refine ifb (fun h => by simp at h) (fun _ => ?_)
  refine G.reb (fun w4 G _ => ?_)
  unfold C_cellplanelaw08_JournalKeeps_3
  obtain ⟨B, bd, g, hn, hd, o, f⟩ := G
  have zo : ∀ b, s.on b → b < w4.heap.size := fun b hb => o.lt hb
  refine B.op offJ.nil (fun wa A _ => journal_Crash_spec A bd.d (by have := bd.b; omega) keep) (fun h2 w5 B hf _ t => ⟨rfl, ?_⟩)
  replace o := o.tr t (fun b hb hh => hh.elim (fun hh => by simp [blk] at hh) (f b hb).2)
  replace f : ∀ b, s.on b → w.heap.size ≤ b ∧ ¬ h2.on b := fun b hb => ⟨(f b hb).1, fun hh => (hf b hh).elim (f b hb).2 (fun h => by have := zo b hb; omega)⟩
  obtain ⟨k, k1, g', kd, kl⟩ := g.crash keep
  have hk : n + 1 ≤ k := kl (n + 1) (by rw [rsG_len hi]; omega) (by rw [rsG_take hn]; exact hd)
  obtain ⟨m, rfl⟩ : ∃ m, k = m + 1 := ⟨k - 1, by omega⟩
  rw [rsG_len hi] at k1
  rw [rsG_take (by omega)] at g'
  have hJ := g'.run.det (runG m (by omega) (by omega))
  generalize crashM M keep = M' at B hJ
  have ho := o.1
  rw [outG_len hi] at ho
  have hml : M'.J.log.length = m := by rw [hJ]; exact outG_len (by omega)
  refine B.reb offJ.nil (fun w6 B t => ?_)
  replace o := o.tr t (by simp [blk])
  unfold C_cellplanelaw08_JournalKeeps_4
  refine B.v offJ.nil (fun wa _ _ => awake_spec wa) (fun w7 B t => ⟨_, rfl, ?_⟩)
  replace o := o.tr t (by simp [blk])
  refine ifbn (fun h => by cases h) (fun _ => ?_)
  refine B.get offJ.nil (fun wa A => journal_Term_spec A) (fun w8 B t => ⟨_, rfl, ?_⟩)
  replace o := o.tr t (by simp [blk])
  refine ifbnd (fun h => absurd (by rw [hJ]) h) (fun _ => ?_)
  refine B.get offJ.nil (fun wa A => journal_Vote_spec A) (fun w8 B t => ⟨_, rfl, ?_⟩)
  replace o := o.tr t (by simp [blk])
  refine ifbnd (fun h => absurd (by rw [hJ]) h) (fun _ => ?_)
  refine B.get offJ.nil (fun wa A => journal_Len_spec A) (fun w8 B t => ⟨_, rfl, ?_⟩)
  replace o := o.tr t (by simp [blk])
  refine ifbd (fun h => absurd h (by omega)) (fun _ => ?_)
  refine B.get offJ.nil (fun wa A => journal_Len_spec A) (fun w8 B t => ⟨_, rfl, ?_⟩)
  replace o := o.tr t (by simp [blk])
  refine ifbd (fun h => absurd h (by omega)) (fun _ => ?_)
  refine B.reb offJ.nil (fun w9 B t => ?_)
  replace o := o.tr t (by simp [blk])
  unfold C_cellplanelaw08_JournalKeeps_5
  refine B.reb offJ.nil (fun w10 B t => ?_)
  replace o := o.tr t (by simp [blk])
  unfold C_cellplanelaw08_JournalKeeps_7
  refine LoopC.mk (fun x w' => ∃ q : Nat, x = (q : Int) ∧ q ≤ m ∧ JS t_journal_Journal t_disk_Disk w w' h.bj h2 M' ∧ Own lgC 10 t_api_Logged w' s (outG ns i)) (fun x => m - x.toNat) ?_ ?_
  · exact B.reb offJ.nil (fun w2 B t => ⟨0, rfl, by omega, B, o.tr t (by simp [blk])⟩)
  rintro x wa ⟨q, rfl, hq, B, o⟩
  unfold L_cellplanelaw08_JournalKeeps_8 B_cellplanelaw08_JournalKeeps_8
  simp only
  refine B.get offJ.nil (fun wa A => journal_Len_spec A) (fun w2 B t => ⟨_, rfl, ?_⟩)
  replace o := o.tr t (by simp [blk])
  refine ifbd (fun hlt => ?_) (fun hge => ?_)
  rotate_left
  · refine B.reb offJ.nil (fun w7 B _ => ?_)
    unfold C_cellplanelaw08_JournalKeeps_6
    exact B.reb offJ.nil (fun w7 B _ => ⟨B.T.t, rfl⟩)
  obtain ⟨y, hy, hyn⟩ := outG_get (ns := ns) (i := m) (k := q) (by omega) (by omega)
  obtain ⟨y', hy', hyn'⟩ := outG_get (ns := ns) (i := i) (k := q) (by omega) (by omega)
  obtain rfl : y = y' := Option.some.inj (hyn.symm.trans hyn')
  have hv : atV M'.J.log (q : Int) = .tuple #[.agg (List.toArray (⟨1, noteE y⟩ : G_api_Logged).cells), .bool true] := atV_in (by omega) (by rw [hJ]; simpa using hy)
  refine B.get offJ.nil (fun wa A => journal_At_spec A q) (fun w3 B t => ⟨_, true, hv, fun b8 hb8 => ?_⟩)
  replace o := o.tr t (by simp [blk])
  have hL : offJ w h2 [⟨b8, (⟨1, noteE y⟩ : G_api_Logged).cells, t_api_Logged⟩] := by
    intro b hb
    simp [blk] at hb
    subst hb
    have := B.T.t.size
    exact ⟨by omega, fun hn => by have := B.A.lt hn; omega⟩
  refine ifbn (fun h => by cases h) (fun _ => ?_)
  refine (o.rd lgC_len).idx (by omega) (by omega) (fun p x hp hx ha => ⟨x, ha, ?_, ?_⟩)
  · have : p.block < w3.heap.size := o.lt ⟨p, hp, rfl⟩
    rw [notIn_cons]
    exact ⟨by rw [add_block']; show p.block ≠ b8; omega, notIn_nil⟩
  · simp only [Int.toNat_natCast] at hx
    obtain rfl : _ = x := Option.some.inj (hy'.symm.trans hx)
    refine ifbn (fun h => by rw [eqb_self] at h; cases h) (fun _ => ?_)
    refine B.reb hL (fun w4 B t => ⟨trivial, ⟨q + 1, ?_, by omega, B, o.tr t (fun b hb hh => ?_)⟩, ?_⟩)
    · rw [wrap_i64 (by omega) (by omega)]; omega
    · simp [blk] at hh
      subst hh
      have := o.lt hb
      omega
    · rw [wrap_i64 (by omega) (by omega)]; omega

theorem JournalReopens_spec {w : World} {l : Sl} {ns : List Int} (I : In intC' 1 (fun _ => True) w l ns) (cut : Int) : Spec PP n_cellplanelaw08_JournalReopens [.slice l.a l.n l.c, .int .i64 cut] w noB (fun v _ => v = .bool true) := by
  refine cellplanelaw08_JournalReopens_calls l cut _ w ?_
  unfold F_cellplanelaw08_JournalReopens
  refine Reb.A (Now.refl (S := noB)) Anc.nil (fun w1 T t => ?_)
  unfold C_cellplanelaw08_JournalReopens_1
  have z0 := T.t.size
  refine CallL.pA T Anc.nil (fun wa T _ => grown_spec (I.rd.tr T.t (by simp [noB])) 0) ?_
  rintro wa v w2 T t z1 z2 _ ⟨h, M, s, i, n, rfl, G, hi, h30⟩
  replace G := G.at T (by omega)
  refine ⟨_, s, _, rfl, ?_⟩
  refine G.reb (fun w3 G _ => ?_)
  unfold C_cellplanelaw08_JournalReopens_2
  refine ifb (fun h => by simp at h) (fun _ => ?_)
  refine G.reb (fun w4 G _ => ?_)
  unfold C_cellplanelaw08_JournalReopens_3
  have hJ := G.J hi (by omega)
  obtain ⟨B, bd, g, hn, hd, o, f⟩ := G
  have ho := o.1
  rw [outG_len hi] at ho
  rw [wrap_i64 (x := ((s.n : Nat) : Int) + 1) (by omega) (by omega)]
  refine B.v offJ.nil (fun wa _ _ => make_Mod_spec (v := cut) (n := ((s.n : Nat) : Int) + 1) (by omega) (by omega) wa) (fun w5 B t => ⟨_, rfl, ?_⟩)
  replace o := o.tr t (by simp [blk])
  have hm := modM_range (v := cut) (n := ((s.n : Nat) : Int) + 1) (by omega)
  generalize modM cut (((s.n : Nat) : Int) + 1) = k' at hm
  obtain ⟨k, rfl⟩ : ∃ k : Nat, k' = (k : Int) := ⟨k'.toNat, by omega⟩
  have hki : k ≤ i := by omega
  have e0 : errR M.J (.ct (k : Int)) = 0 := by rw [hJ]; simp only [errR]; rw [outG_len hi, if_neg (by omega)]
  refine B.reb offJ.nil (fun w6 B t => ?_)
  replace o := o.tr t (by simp [blk])
  unfold C_cellplanelaw08_JournalReopens_4
  have zo : ∀ b, s.on b → b < w6.heap.size := fun b hb => o.lt hb
  refine B.op offJ.nil (fun wa A _ => journal_Cut_spec A k (by have := bd.l; omega) (by have := bd.b; omega)) (fun h2 w7 B hf _ t => ⟨_, rfl, ?_⟩)
  replace o := o.tr t (fun b hb hh => hh.elim (fun hh => by simp [blk] at hh) (f b hb).2)
  replace f : ∀ b, s.on b → w.heap.size ≤ b ∧ ¬ h2.on b := fun b hb => ⟨(f b hb).1, fun hh => (hf b hh).elim (f b hb).2 (fun h => by have := zo b hb; omega)⟩
  rw [e0]
  refine ifbnd (fun h => absurd rfl h) (fun _ => ?_)
  have g2 := g.op' (r := .ct (k : Int)) (by have := bd.l; omega)
  have bd2 : Bd (opM M (.ct (k : Int))) (i + 1 + 1) := bd.op (by omega)
  have hJ2 : (opM M (.ct (k : Int))).J = ⟨1, 0, outG ns k⟩ := by
    rw [opM_ok e0, hJ]
    simp only [doR, JC.mk.injEq, true_and, Int.toNat_natCast]
    unfold outG
    rw [← List.map_take, List.take_take, Nat.min_eq_left hki]
  generalize opM M (.ct (k : Int)) = M2 at B g2 bd2 hJ2
  have hml : M2.J.log.length = k := by rw [hJ2]; exact outG_len (by omega)
  have hbl := bd2.b
  refine B.reb offJ.nil (fun w8 B t => ?_)
  replace o := o.tr t (by simp [blk])
  unfold C_cellplanelaw08_JournalReopens_5
  -- the bytes
  have bytes : ∀ {wb : World} {hh : JH} {bj : Nat} {M : JM} {K : Value → World → Prop}, JS t_journal_Journal t_disk_Disk w wb bj hh M → M.b.length ≤ 100000000 → (∀ (sb : Sl) (wc : World), JS t_journal_Journal t_disk_Disk w wc bj hh M → Touch noB wb wc → Own byteC 1 t_u8 wc sb M.b → (∀ b, sb.on b → wb.heap.size ≤ b) → K (.slice sb.a sb.n sb.c) wc) →
      CallL PP w.heap.size wb [] n_disk_Disk_Bytes [.pointer (some ⟨hh.bd, 0, none⟩)] K := by
    intro wb hh bj M K B hl k
    refine B.p offJ.nil (fun wa B _ => disk_Bytes_spec B.A.d hl) ?_
    rintro wa v wc B t z ⟨sb, rfl, ob, fb⟩
    exact k sb wc B (t.mono (fun _ _ h => by simp [blk] at h)) ob (fun b hb => by have := fb b hb; omega)
  have e := B.e
  rw [← e]
  replace B : JS t_journal_Journal t_disk_Disk w w8 h2.bj h2 M2 := ⟨B.T, B.A, rfl, B.fr⟩
  refine nilL ⟨some ⟨h2.bd, 0, none⟩, B.A.j.at 0 rfl, notIn_nil, ?_⟩
  refine bytes B (by omega) (fun sb w9 B t ob fb => ⟨sb, rfl, ?_⟩)
  replace o := o.tr t (by simp [noB])
  have hrd := ob.rd byteC_len
  have zh : ∀ b, h2.on b → b < w9.heap.size := fun b hb => B.A.lt hb
  have zs : ∀ b, s.on b → b < w9.heap.size := fun b hb => o.lt hb
  have z9 := B.T.t.size
  refine B.p offJ.nil (fun wa B t => journal_Open_spec (hrd.tr t (by simp [blk])) ob.cap.2 (by omega)) ?_
  rintro wa v w10 B t z ⟨h3, rfl, A3, f3⟩
  replace o := o.tr t (by simp [blk])
  refine ⟨_, rfl, ?_⟩
  rw [g2.reads] at A3
  have d3 : ∀ b, h3.on b → ¬ h2.on b ∧ w.heap.size ≤ b := by
    intro b hb
    have h1 := f3 b hb
    exact ⟨fun hh => by have := zh b hh; omega, by omega⟩
  have B3 : JS t_journal_Journal t_disk_Disk w w10 h3.bj h3 ⟨M2.J, M2.b, M2.b.length⟩ := ⟨B.T, A3, rfl, fun b hb => (d3 b hb).2⟩
  refine B3.reb offJ.nil (fun w11 B3 t => ?_)
  replace B := B.keep B3.T t (by simp [blk])
  replace o := o.tr t (by simp [blk])
  unfold C_cellplanelaw08_JournalReopens_6
  refine B3.v offJ.nil (fun wa _ _ => awake_spec wa) (fun w7 B3 t => ⟨_, rfl, ?_⟩)
  replace B := B.keep B3.T t (by simp [blk])
  replace o := o.tr t (by simp [blk])
  refine ifbn (fun h => by cases h) (fun _ => ?_)
  refine ifb (fun h => by simp at h) (fun _ => ?_)
  refine B3.get offJ.nil (fun wa A => journal_Term_spec A) (fun w8 B3 t => ⟨_, rfl, ?_⟩)
  replace B := B.keep B3.T t (by simp [blk])
  replace o := o.tr t (by simp [blk])
  refine B.get offJ.nil (fun wa A => journal_Term_spec A) (fun w8 B t => ⟨_, rfl, ?_⟩)
  replace B3 := B3.keep B.T t (by simp [blk])
  replace o := o.tr t (by simp [blk])
  refine ifbnd (fun h => absurd rfl h) (fun _ => ?_)
  refine B3.get offJ.nil (fun wa A => journal_Vote_spec A) (fun w8 B3 t => ⟨_, rfl, ?_⟩)
  replace B := B.keep B3.T t (by simp [blk])
  replace o := o.tr t (by simp [blk])
  refine B.get offJ.nil (fun wa A => journal_Vote_spec A) (fun w8 B t => ⟨_, rfl, ?_⟩)
  replace B3 := B3.keep B.T t (by simp [blk])
  replace o := o.tr t (by simp [blk])
  refine ifbnd (fun h => absurd rfl h) (fun _ => ?_)
  refine B3.get offJ.nil (fun wa A => journal_Len_spec A) (fun w8 B3 t => ⟨_, rfl, ?_⟩)
  replace B := B.keep B3.T t (by simp [blk])
  replace o := o.tr t (by simp [blk])
  refine ifbnd (fun h => absurd (by simp only; omega) h) (fun _ => ?_)
  refine B.get offJ.nil (fun wa A => journal_Len_spec A) (fun w8 B t => ⟨_, rfl, ?_⟩)
  replace B3 := B3.keep B.T t (by simp [blk])
  replace o := o.tr t (by simp [blk])
  refine ifbnd (fun h => absurd (by omega) h) (fun _ => ?_)
  refine nilL ⟨some ⟨h3.bd, 0, none⟩, B3.A.j.at 0 rfl, notIn_nil, nilL ⟨some ⟨h2.bd, 0, none⟩, B.A.j.at 0 rfl, notIn_nil, ?_⟩⟩
  refine bytes B3 (by simp only; omega) (fun sb1 w12 B3 t ob1 fb1 => ⟨sb1, rfl, ?_⟩)
  replace B := B.keep B3.T t (by simp [noB])
  replace o := o.tr t (by simp [noB])
  refine ⟨B.A.j.at 0 rfl, ?_⟩
  refine bytes B (by omega) (fun sb2 w13 B t ob2 fb2 => ⟨sb2, rfl, ?_⟩)
  replace B3 := B3.keep B.T t (by simp [noB])
  replace o := o.tr t (by simp [noB])
  replace ob1 := ob1.tr t (by simp [noB])
  refine B3.v offJ.nil (fun wa _ t => SameBytes_spec ((ob1.rd byteC_len).tr t (by simp [blk])) ((ob2.rd byteC_len).tr t (by simp [blk]))) (fun w14 B3 t => ⟨_, rfl, ?_⟩)
  replace o := o.tr t (by simp [blk])
  refine ifbnd (fun h => absurd rfl h) (fun _ => ?_)
  refine B3.reb offJ.nil (fun w15 B3 t => ?_)
  replace o := o.tr t (by simp [blk])
  unfold C_cellplanelaw08_JournalReopens_7
  refine B3.reb offJ.nil (fun w16 B3 t => ?_)
  replace o := o.tr t (by simp [blk])
  unfold C_cellplanelaw08_JournalReopens_9
  refine LoopC.mk (fun x w' => ∃ q : Nat, x = (q : Int) ∧ q ≤ k ∧ JS t_journal_Journal t_disk_Disk w w' h3.bj h3 ⟨M2.J, M2.b, M2.b.length⟩ ∧ Own lgC 10 t_api_Logged w' s (outG ns i)) (fun x => k - x.toNat) ?_ ?_
  · exact B3.reb offJ.nil (fun w2 B t => ⟨0, rfl, by omega, B, o.tr t (by simp [blk])⟩)
  rintro x wa ⟨q, rfl, hq, B, o⟩
  unfold L_cellplanelaw08_JournalReopens_10 B_cellplanelaw08_JournalReopens_10
  simp only
  refine ifbd (fun hlt => ?_) (fun hge => ?_)
  rotate_left
  · refine B.reb offJ.nil (fun w7 B _ => ?_)
    unfold C_cellplanelaw08_JournalReopens_8
    exact B.reb offJ.nil (fun w7 B _ => ⟨B.T.t, rfl⟩)
  obtain ⟨y, hy, hyn⟩ := outG_get (ns := ns) (i := k) (k := q) (by omega) (by omega)
  obtain ⟨y', hy', hyn'⟩ := outG_get (ns := ns) (i := i) (k := q) (by omega) (by omega)
  obtain rfl : y = y' := Option.some.inj (hyn.symm.trans hyn')
  have hv : atV M2.J.log (q : Int) = .tuple #[.agg (List.toArray (⟨1, noteE y⟩ : G_api_Logged).cells), .bool true] := atV_in (by omega) (by rw [hJ2]; simpa using hy)
  refine B.get offJ.nil (fun wa A => journal_At_spec A q) (fun w3 B t => ⟨_, true, hv, fun b8 hb8 => ?_⟩)
  replace o := o.tr t (by simp [blk])
  have hL : offJ w h3 [⟨b8, (⟨1, noteE y⟩ : G_api_Logged).cells, t_api_Logged⟩] := by
    intro b hb
    simp [blk] at hb
    subst hb
    have := B.T.t.size
    exact ⟨by omega, fun hn => by have := B.A.lt hn; omega⟩
  refine (o.rd lgC_len).idx (by omega) (by omega) (fun p x hp hx ha => ⟨x, ha, ?_, ?_⟩)
  · have : p.block < w3.heap.size := o.lt ⟨p, hp, rfl⟩
    rw [notIn_cons]
    exact ⟨by rw [add_block']; show p.block ≠ b8; omega, notIn_nil⟩
  · simp only [Int.toNat_natCast] at hx
    obtain rfl : _ = x := Option.some.inj (hy'.symm.trans hx)
    refine ifbn (fun h => by rw [eqb_self] at h; cases h) (fun _ => ?_)
    refine B.reb hL (fun w4 B t => ⟨trivial, ⟨q + 1, ?_, by omega, B, o.tr t (fun b hb hh => ?_)⟩, ?_⟩)
    · rw [wrap_i64 (by omega) (by omega)]; omega
    · simp [blk] at hh
      subst hh
      have := o.lt hb
      omega
    · rw [wrap_i64 (by omega) (by omega)]; omega

end Go.Sh
