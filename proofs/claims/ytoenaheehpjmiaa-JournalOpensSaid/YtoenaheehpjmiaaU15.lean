/- The reference's disk and journal: calls.
   Conditions: none. -/
import Derived.Test.YtoenaheehpjmiaaU9
import Derived.Test.YtoenaheehpjmiaaEB
namespace Go.Sh
open Go
set_option linter.unusedSimpArgs false
set_option linter.unusedVariables false
set_option maxHeartbeats 4000000

section
variable {w : World} {bd : Nat} {sl : Sl} {B : List UInt8} {d : Nat}
theorem ref07_New_spec (w : World) : Spec PP n_cellplaneref07_New [] w noB (fun v w' => ∃ bd, v = .pointer (some ⟨bd, 0, none⟩) ∧ DAt t_cellplaneref07_Disk w' bd ⟨none, 0, 0⟩ [] 0 ∧ w.heap.size ≤ bd) := by
  refine cellplaneref07_New_calls _ w ?_
  unfold F_cellplaneref07_New
  have T : Now noB w w := Now.refl
  refine NewL.A T Anc.nil (fun b w1 T t h1 l1 => ?_)
  exact Reb.A T Anc.nil (fun w2 T t2 => ⟨T.t, b, rfl, ⟨Blk.tr (cs := [.slice none 0 0, .int .i64 ((0 : Nat) : Int)]) h1 t2 (by simp [blk]), Own.nil, by simp⟩, l1.1⟩)

/-- bytes copied into a new slice -/
theorem copyB {w0 w : World} {S0 : Nat → Prop} {b : Nat} {s : Sl} {xs : List UInt8} {K : Value → World → Prop} (T : Now S0 w0 w) (hb : Blk w b [] t_u8) (hb0 : w0.heap.size ≤ b) (hy : Rd byteC 1 w s xs) (hc : s.a = none → s.c = 0) (hl : xs.length ≤ 1000000000)
    (k : ∀ s' w', Now S0 w0 w' → Touch (fun i => i = b) w w' → Own byteC 1 t_u8 w' s' xs → (∀ i, s'.on i → i = b ∨ w.heap.size ≤ i) → K (.slice s'.a s'.n s'.c) w') :
    RunL PP w0.heap.size w [] (Builtin.append_ #[t_sl_u8, t_sl_u8] t_sl_u8 #[.slice (some ⟨b, 0, none⟩) 0 0, .slice s.a s.n s.c]) K := by
  have hn := hy.1
  refine RunL.freshA T Anc.nil el_sl_u8.t (by decide) byteC_len byteC_one hb (fun h => by omega) (by simp [blk]) (q := s.a) (m := s.n) (cap := s.c) (ys := xs) hy hc (by omega) (by simp [blk]) (fun s' w1 T1 t1 o f _ => k s' w1 T1 (t1.mono (fun i _ hi => hi.elim (fun h => by simp [blk] at h) id)) o f)

theorem ref07_Append_spec {s : Sl} {p : List UInt8} (D : DAt t_cellplaneref07_Disk w bd sl B d) (hr : Rd byteC 1 w s p) (hc : s.a = none → s.c = 0) (hso : ∀ b, s.on b → b < w.heap.size) (hl : B.length + p.length ≤ 100000000) :
    Spec PP n_cellplaneref07_Disk_Append [.pointer (some ⟨bd, 0, none⟩), .slice s.a s.n s.c] w (dOn bd sl) (fun v w' => v = .tuple #[] ∧ DP t_cellplaneref07_Disk w bd sl (B ++ p) d w') := by
  refine cellplaneref07_Disk_Append_calls (some ⟨bd, 0, none⟩) s _ w ?_
  unfold F_cellplaneref07_Disk_Append
  have T : Now (dOn bd sl) w w := Now.refl
  have hn := D.s.1
  have hn2 := hr.1
  have zz := D.c.lt
  have zl : ∀ b, sl.on b → b < w.heap.size := fun b hb => D.s.lt hb
  refine NewL.A T Anc.nil (fun b2 w1 T t1 hb l1 => ?_)
  have D1 := D.tr t1 (by simp [blk])
  have hr1 := hr.tr t1 (by simp [blk])
  refine nilL ⟨sl, D1.c.at 0 rfl, notIn_nil, ?_⟩
  refine copyB T hb l1.1 (D1.s.rd byteC_len) D1.s.cap.2 (by omega) (fun s' w2 T t2 o f => ⟨s', rfl, ?_⟩)
  have hbd : bd ≠ b2 := by have := l1.1; omega
  have c2 := D1.c.tr t2 (by rintro c rfl e; omega)
  have fs : ∀ i, s'.on i → w.heap.size ≤ i := fun i hi => (f i hi).elim (fun h => by have := l1.1; omega) (fun h => by have := t1.size; omega)
  have hr2 : Rd byteC 1 w2 s p := hr1.tr t2 (fun b hb e => by have := hso b hb; have := l1.1; omega)
  refine RunL.appA T Anc.nil el_sl_u8.t (by decide) byteC_len byteC_one o (q := s.a) (m := s.n) (cap := s.c) hr2 hc (by have := o.1; omega) (fun b hlt hb => by have := fs b hb; omega) (by simp [blk]) (by simp [blk]) (fun s2 w3 T t3 o3 f3 n3 => ⟨s2, rfl, ?_⟩)
  have c3 := c2.tr t3 (by
    rintro c rfl (hm | hm)
    · simp [blk] at hm
    · have := fs _ hm; omega)
  have nb : ¬ s2.on bd := fun h => (f3 bd h).elim (fun h => by have := fs _ h; omega) (fun h => by have := T.t.size; have := t2.size; have := t1.size; omega)
  refine nilL (dput T c3 o3 nb (fun w2 T D => dfin T D (fun b hb => .inr ((f3 b hb).elim (fs b) (fun h => by have := t2.size; have := t1.size; omega)))))

theorem ref07_Sync_spec (D : DAt t_cellplaneref07_Disk w bd sl B d) : Spec PP n_cellplaneref07_Disk_Sync [.pointer (some ⟨bd, 0, none⟩)] w (dOn bd sl) (fun v w' => v = .tuple #[] ∧ DP t_cellplaneref07_Disk w bd sl B B.length w') := by
  refine cellplaneref07_Disk_Sync_calls (some ⟨bd, 0, none⟩) _ w ?_
  unfold F_cellplaneref07_Disk_Sync
  have T : Now (dOn bd sl) w w := Now.refl
  refine nilL ⟨sl, D.c.at 0 rfl, notIn_nil, ?_⟩
  exact nilL (dputN T D (by rw [D.s.1]) (fun w2 T D => dfin T D (fun b hb => .inl hb)))

theorem ref07_Truncate_spec (D : DAt t_cellplaneref07_Disk w bd sl B d) (hl : B.length ≤ 100000000) {a : Nat} (ha : a ≤ B.length) : Spec PP n_cellplaneref07_Disk_Truncate [.pointer (some ⟨bd, 0, none⟩), .int .i64 (a : Int)] w (dOn bd sl) (fun v w' => v = .int .i64 0 ∧ DP t_cellplaneref07_Disk w bd sl (B.take a) (min d a) w') := by
  refine cellplaneref07_Disk_Truncate_calls (some ⟨bd, 0, none⟩) (a : Int) _ w ?_
  unfold F_cellplaneref07_Disk_Truncate
  have T : Now (dOn bd sl) w w := Now.refl
  have hn := D.s.1
  have hcap := D.s.cap.1
  have zz := D.c.lt
  refine ifbd (fun h => absurd h (by omega)) (fun _ => ?_)
  refine nilL ⟨sl, D.c.at 0 rfl, notIn_nil, ?_⟩
  refine ifbd (fun h => absurd h (by omega)) (fun _ => ?_)
  refine NewL.A T Anc.nil (fun b2 w1 T t1 hb l1 => ?_)
  have D1 := D.tr t1 (by simp [blk])
  refine nilL ⟨sl, D1.c.at 0 rfl, notIn_nil, by omega, by omega, ?_⟩
  rw [Int.toNat_natCast]
  refine copyB (s := ⟨sl.a, a, sl.c⟩) T hb l1.1 ((D1.s.takeN byteC_len ha).rd byteC_len) D1.s.cap.2 (by rw [List.length_take]; omega) (fun s' w2 T t2 o f => ⟨s', rfl, ?_⟩)
  have fs : ∀ i, s'.on i → w.heap.size ≤ i := fun i hi => (f i hi).elim (fun h => by have := l1.1; omega) (fun h => by have := t1.size; omega)
  have c2 := D1.c.tr t2 (by rintro c rfl e; have := l1.1; omega)
  refine nilL (dput (s' := s') T c2 o (fun h => by have := fs _ h; omega) (fun w3 T D2 => ?_))
  refine nilL ⟨d, D2.c.at 1 rfl, notIn_nil, ?_⟩
  exact nilL (dputN (d' := min d a) T D2 (by split <;> omega) (fun w2 T D => dfin T D (fun b hb => .inr (fs b hb))))

theorem ref07_Crash_spec (D : DAt t_cellplaneref07_Disk w bd sl B d) (hd : d ≤ B.length) (hl : B.length ≤ 100000000) (keep : Int) : Spec PP n_cellplaneref07_Disk_Crash [.pointer (some ⟨bd, 0, none⟩), .int .i64 keep] w (dOn bd sl)
    (fun v w' => v = .tuple #[] ∧ DP t_cellplaneref07_Disk w bd sl (B.take (keepD B.length d keep)) (keepD B.length d keep) w') := by
  refine cellplaneref07_Disk_Crash_calls (some ⟨bd, 0, none⟩) keep _ w ?_
  unfold F_cellplaneref07_Disk_Crash
  have T : Now (dOn bd sl) w w := Now.refl
  have hn := D.s.1
  have hcap := D.s.cap.1
  have zz := D.c.lt
  refine nilL ⟨d, D.c.at 1 rfl, notIn_nil, nilL ⟨sl, D.c.at 0 rfl, notIn_nil, nilL ⟨d, D.c.at 1 rfl, notIn_nil, ?_⟩⟩⟩
  have e : IntKind.i64.wrap ((d : Int) + (if (IntKind.i64.wrap (((sl.n : Nat) : Int) - d)) < (if 0 > keep then 0 else keep) then (IntKind.i64.wrap (((sl.n : Nat) : Int) - d)) else (if 0 > keep then 0 else keep))) = ((keepD B.length d keep : Nat) : Int) := by
    rw [wrap_i64 (x := ((sl.n : Nat) : Int) - d) (by omega) (by omega)]
    unfold keepD
    rw [hn]
    split <;> split <;> rw [wrap_i64 (by omega) (by omega)] <;> omega
  have hk : keepD B.length d keep ≤ B.length := by unfold keepD; omega
  rw [e]
  refine NewL.A T Anc.nil (fun b2 w1 T t1 hb l1 => ?_)
  have D1 := D.tr t1 (by simp [blk])
  refine nilL ⟨sl, D1.c.at 0 rfl, notIn_nil, by omega, by omega, ?_⟩
  rw [Int.toNat_natCast]
  refine copyB (s := ⟨sl.a, keepD B.length d keep, sl.c⟩) T hb l1.1 ((D1.s.takeN byteC_len hk).rd byteC_len) D1.s.cap.2 (by rw [List.length_take]; omega) (fun s' w2 T t2 o f => ⟨s', rfl, ?_⟩)
  have fs : ∀ i, s'.on i → w.heap.size ≤ i := fun i hi => (f i hi).elim (fun h => by have := l1.1; omega) (fun h => by have := t1.size; omega)
  have c2 := D1.c.tr t2 (by rintro c rfl e; have := l1.1; omega)
  refine nilL (dput (s' := s') T c2 o (fun h => by have := fs _ h; omega) (fun w3 T D2 => ?_))
  exact nilL (dputN (d' := keepD B.length d keep) T D2 rfl (fun w2 T D => dfin T D (fun b hb => .inr (fs b hb))))
end

section
variable {Tj Td : TypeId} {w w' w0 : World} {h h0 h' : JH} {M M' : JM} {L : List LB}
/-- entries copied into a new slice -/
theorem JN.copyL {b3 : Nat} {s : Sl} {xs : List G_api_Logged} {K : Value → World → Prop} (B : JN Tj Td w0 h0 w h M) (hL : offJ w0 h L) (hb : Blk w b3 [] t_api_Logged) (hb0 : w0.heap.size ≤ b3) (hb1 : b3 ∉ blk L) (hb2 : ¬ h.on b3)
    (hy : Rd lgC 10 w s xs) (hc : s.a = none → s.c = 0) (hn : xs.length ≤ 1000000) (hso : ∀ b, s.on b → b ∉ blk L)
    (k : ∀ l5 w', JN Tj Td w0 h0 w' h M → Touch (fun b => b ∈ blk L ∨ b = b3) w w' → Own lgC 10 t_api_Logged w' l5 xs → (∀ b, l5.on b → ¬ h.on b ∧ w0.heap.size ≤ b ∧ b ∉ blk L ∧ (b = b3 ∨ w.heap.size ≤ b)) → K (.slice l5.a l5.n l5.c) w') :
    RunL PP w0.heap.size w L (Builtin.append_ #[t_sl_api_Logged, t_sl_api_Logged] t_sl_api_Logged #[.slice (some ⟨b3, 0, none⟩) 0 0, .slice s.a s.n s.c]) K := by
  have hlen := hy.1
  have zz := B.T.t.size
  refine RunL.freshA B.T Anc.start el_sl_api_Logged.t (by decide) lgC_len lgC_one hb (fun h => by omega) hb1 (q := s.a) (m := s.n) (cap := s.c) (ys := xs) hy hc (by omega) hso (fun s' w1 T1 t1 o f n => k s' w1 (B.gen T1 t1 (fun b hb => hb.elim (fun hb => (hL b hb).2) (fun e => e ▸ hb2))) t1 o (fun b hb => ⟨fun hh => ?_, ?_, n b hb, f b hb⟩))
  · rcases f b hb with e | e
    · exact hb2 (e ▸ hh)
    · have := B.A.lt hh; omega
  · rcases f b hb with e | e <;> omega
/-- a copied log, an entry appended to it, and it laid into the journal's block -/
theorem JN.tail {x : G_api_Logged} {bn T : Nat} {l5 : Sl} {K : World → Prop} (B : JN Tj Td w0 h0 w h M) (hL : offJ w0 h L) (hn : Blk w bn (lgC x) T) (hbn : bn ∉ blk L) (o5 : Own lgC 10 t_api_Logged w l5 M.J.log) (f5 : ∀ b, l5.on b → ¬ h.on b ∧ w0.heap.size ≤ b ∧ b ∉ blk L) (hl : M.J.log.length ≤ 1000000)
    (k : ∀ h' w', JN Tj Td w0 h0 w' h' ⟨{ M.J with log := M.J.log ++ [x] }, M.b, M.d⟩ → offJ w0 h' L → K w') :
    RunL PP w0.heap.size w L (Builtin.append_ #[t_sl_api_Logged, t_sl_api_Logged] t_sl_api_Logged #[.slice l5.a l5.n l5.c, .slice (some ⟨bn, 0, none⟩) 1 1]) fun r w5 => ∃ l : Sl, r = .slice l.a l.n l.c ∧ NilL (some ⟨h.bj, 0, none⟩) fun q => StL w5 L (addA q 3) [.slice l.a l.n l.c] K := by
  have hlen := o5.1
  have zz := B.T.t.size
  refine RunL.appA B.T Anc.start el_sl_api_Logged.t (by decide) lgC_len lgC_one o5 (Blk.rd1 (c := lgC) (x := x) hn) (fun h => by cases h) (by omega) (fun b hlt hb => by have := (f5 b hb).2.1; omega) (fun b hb => (f5 b hb).2.2) (fun b hb => by simp at hb; rw [← hb]; exact hbn) (fun s' w1 T1 t o f n => ⟨s', rfl, nilL ?_⟩)
  have B1 := B.gen T1 t (fun b hb => hb.elim (fun hb => (hL b hb).2) (fun hb => (f5 b hb).1))
  have zB : ∀ b, h.on b → b < w.heap.size := fun b hb => B.A.lt hb
  have f1 : ∀ b, s'.on b → ¬ h.on b ∧ w0.heap.size ≤ b := fun b hb => (f b hb).elim (fun hb => ⟨(f5 b hb).1, (f5 b hb).2.1⟩) (fun h => ⟨fun hh => by have := zB b hh; omega, by omega⟩)
  exact B1.put (h' := { h with lg := s' }) (M' := ⟨{ M.J with log := M.J.log ++ [x] }, M.b, M.d⟩) (o := 3) hL rfl rfl rfl rfl (by simp) rfl rfl o (fun b hb => .inr (f1 b hb).2) (fun b hb => ⟨fun hd => (f1 b hb).1 (.inr (.inl hd)), fun e => (f1 b hb).1 (.inl e), n b hb⟩) (fun w2 B hL => k _ w2 B hL)
end

section
variable {w : World} {h : JH} {M : JM}
abbrev RJ : TypeId := t_cellplaneref08_Journal
abbrev RD : TypeId := t_cellplaneref07_Disk

theorem ref08_New_spec (w : World) : Spec PP n_cellplaneref08_New [] w noB (fun v w' => ∃ h : JH, v = .pointer (some ⟨h.bj, 0, none⟩) ∧ JAt RJ RD w' h jm0 ∧ ∀ b, h.on b → w.heap.size ≤ b) := by
  refine cellplaneref08_New_calls _ w ?_
  unfold F_cellplaneref08_New
  have T : Now noB w w := Now.refl
  refine CallL.pA T Anc.nil (fun wa _ _ => ref07_New_spec wa) ?_
  rintro wa v w1 T t z1 z2 _ ⟨bd, rfl, D, hge⟩
  refine ⟨_, rfl, ?_⟩
  refine NewL.A T Anc.nil (fun b w2 T t2 h2 l2 => ?_)
  have hlt := D.c.lt
  refine Reb.A T Anc.nil (fun w3 T t3 => ⟨T.t, ⟨b, bd, ⟨none, 0, 0⟩, ⟨none, 0, 0⟩⟩, rfl, ⟨Blk.tr (cs := jCells ⟨b, bd, ⟨none, 0, 0⟩, ⟨none, 0, 0⟩⟩ j0) h2 t3 (by simp [blk]), (D.tr t2 (by simp [blk])).tr t3 (by simp [blk]), Own.nil, ?_, by simp, by simp⟩, ?_⟩)
  · rintro (hb | hb)
    · simp only at hb; omega
    · simp at hb
  · rintro b' (hb | (hb | hb) | hb)
    · simp only at hb; omega
    · simp only at hb; omega
    · simp at hb
    · simp at hb

theorem ref08_new {w0 : World} {w : World} {K : Value → World → Prop} (T : Now noB w0 w)
    (k : ∀ h w', JS RJ RD w0 w' h.bj h jm0 → Touch noB w w' → (∀ b, h.on b → w.heap.size ≤ b) → K (.pointer (some ⟨h.bj, 0, none⟩)) w') : CallL PP w0.heap.size w [] n_cellplaneref08_New [] K := by
  have z0 := T.t.size
  refine CallL.pA T Anc.nil (fun wa _ _ => ref08_New_spec wa) ?_
  rintro wa v w1 T t z1 z2 _ ⟨h, rfl, A, hge⟩
  exact k h w1 ⟨T, A, rfl, fun b hb => by have := hge b hb; omega⟩ (t.mono (fun _ _ h => by simp [blk] at h)) (fun b hb => by have := hge b hb; omega)

theorem ref08_Last_spec (A : JAt RJ RD w h M) (hl : M.J.log.length ≤ 1000000) : Spec PP n_cellplaneref08_Journal_Last [.pointer (some ⟨h.bj, 0, none⟩)] w noB (fun v _ => v = .int .i64 (lastT M.J.log)) := by
  refine cellplaneref08_Journal_Last_calls (some ⟨h.bj, 0, none⟩) _ w ?_
  unfold F_cellplaneref08_Journal_Last
  have T : Now noB w w := Now.refl
  have hn := A.l.1
  refine nilL ⟨h.lg, A.j.at 3 rfl, notIn_nil, ?_⟩
  rw [wrap_i64 (x := ((h.lg.n : Nat) : Int) - 1) (by omega) (by omega), ← hn]
  refine CallL.vA T Anc.nil (fun wa T _ => ref08_TermAt_spec (A.now T) _) (fun w2 T t => ⟨_, rfl, ?_⟩)
  rw [lastT_eq]
  exact Reb.A T Anc.nil (fun w3 T t => ⟨T.t, rfl⟩)

theorem ref08_put_spec (A : JAt RJ RD w h M) {s : Sl} {p : List UInt8} (hr : Rd byteC 1 w s p) (hc : s.a = none → s.c = 0) (hp : p.length ≤ 65536) (hb : M.b.length ≤ 90000000) : Spec PP n_cellplaneref08_Journal_put [.pointer (some ⟨h.bj, 0, none⟩), .slice s.a s.n s.c] w h.on
    (fun r w' => r = .tuple #[] ∧ JP RJ RD w h ⟨M.J, M.b ++ putF p, M.d⟩ w') := by
  refine cellplaneref08_Journal_put_calls (some ⟨h.bj, 0, none⟩) s _ w ?_
  unfold F_cellplaneref08_Journal_put
  have B := JN.start A
  have hv := vb_len10 (zz_lt (n := (p.length : Int)) (by omega) (by omega))
  have hpl := putF_len p
  refine nilL ⟨some ⟨h.bd, 0, none⟩, A.j.at 0 rfl, notIn_nil, ?_⟩
  refine B.p offJ.nil (fun wa B t => ref03_Put_spec (hr.tr t (by simp [blk])) hc hp) ?_
  rintro wa v w1 B t z _ ⟨l, rfl, o, f⟩
  refine ⟨l, rfl, B.A.j.at 0 rfl, ?_⟩
  have hrd := o.rd byteC_len
  refine B.dk offJ.nil (fun wa B t => ref07_Append_spec B.A.d (hrd.tr t (by simp [blk])) o.cap.2 (fun b hb => by have := o.lt hb; have := t.size; omega) (by omega)) (fun h2 w2 B _ _ _ _ => ⟨rfl, ?_⟩)
  exact B.fin offJ.nil

theorem ref08_add_spec (A : JAt RJ RD w h M) (t : Int) (e : G_api_Entry) (hl : M.J.log.length ≤ 1000000) : Spec PP n_cellplaneref08_Journal_add [.pointer (some ⟨h.bj, 0, none⟩), .int .i64 t, .agg (List.toArray e.cells)] w h.on
    (fun r w' => r = .int .i64 (errR M.J (.ap t e)) ∧ JP RJ RD w h (apJ M (.ap t e)) w') := by
  refine cellplaneref08_Journal_add_calls (some ⟨h.bj, 0, none⟩) t e _ w ?_
  unfold F_cellplaneref08_Journal_add
  have B := JN.start A
  intro b28 h28
  have hL : offJ w h [⟨b28, e.cells, t_api_Entry⟩] := by
    intro b hb
    simp [blk] at hb
    subst hb
    exact ⟨h28, fun hn => by have := A.lt hn; omega⟩
  have hbj : h.bj ≠ b28 := fun hh => (hL b28 (by simp [blk])).2 (.inl hh.symm)
  have ni : ∀ {o : Nat}, NotIn (⟨h.bj, o, none⟩ : Addr).block [⟨b28, e.cells, t_api_Entry⟩] := by intro o; simp; exact hbj
  refine B.reb hL (fun w1 B _ => ?_)
  unfold C_cellplaneref08_Journal_add_1
  have bad : ∀ {n : Int} {w' : World}, n ≠ 0 → errR M.J (.ap t e) = n → JN RJ RD w h w' h M → Reb w.heap.size w' [⟨b28, e.cells, t_api_Entry⟩] ((fun (r : Value) w' => Touch h.on w w' ∧ (r = .int .i64 (errR M.J (.ap t e)) ∧ JP RJ RD w h (apJ M (.ap t e)) w')) (Value.int .i64 n)) := by
    intro n w' hn he B
    have ha : apJ M (.ap t e) = M := by unfold apJ; rw [if_neg (by rw [he]; exact hn)]
    rw [ha, he]
    exact B.fin hL
  have key4 : ∀ (x : Bool) w', ¬ (t < 1 ∨ 1073741824 < t ∨ ¬ shapeP e) → (x = true → M.J.term < t ∨ t < lastT M.J.log) → (x = false → ¬ (M.J.term < t ∨ t < lastT M.J.log)) → JN RJ RD w h w' h M →
      C_cellplaneref08_Journal_add_4 w.heap.size (fun (r : Value) w' => Touch h.on w w' ∧ (r = .int .i64 (errR M.J (.ap t e)) ∧ JP RJ RD w h (apJ M (.ap t e)) w')) (some ⟨h.bj, 0, none⟩) t b28 e t_api_Entry x w' := by
    intro x w' g1 x1 x2 B
    unfold C_cellplaneref08_Journal_add_4
    have hn := B.A.l.1
    refine ifb (fun hx => bad (by decide) (by simp only [errR]; rw [if_neg g1, if_pos (x1 hx)]) B) (fun hx => ?_)
    have g2 := x2 hx
    refine nilL ⟨h.lg, B.A.j.at 3 rfl, ni (o := 3), ?_⟩
    refine ifbd (fun h3 => bad (by decide) (by simp only [errR]; rw [if_neg g1, if_neg g2, if_pos (by omega)]) B) (fun h3 => ?_)
    have e0 : errR M.J (.ap t e) = 0 := by simp only [errR]; rw [if_neg g1, if_neg g2, if_neg (by omega)]
    refine B.reb hL (fun w2 B _ => ?_)
    unfold C_cellplaneref08_Journal_add_2
    have ha : apJ M (.ap t e) = ⟨{ M.J with log := M.J.log ++ [⟨t, e⟩] }, M.b, M.d⟩ := by unfold apJ; rw [if_pos e0]; rfl
    rw [ha, e0]
    have hlb : ∀ b, h.lg.on b → b ∉ blk [⟨b28, e.cells, t_api_Entry⟩] := fun b hb hm => (hL b hm).2 (.inr (.inr hb))
    have lgr : ∀ {w'}, JN RJ RD w h w' h M → Rd lgC 10 w' h.lg M.J.log := fun B => B.A.l.rd lgC_len
    have z2 := B.T.t.size
    refine nilL ⟨h.lg, B.A.j.at 3 rfl, ni (o := 3), ?_, ?_⟩
    · refine B.new hL (fun b3 w3 B t3 hb3 g3 n3 o3 => ⟨?_, ?_⟩)
      · refine B.copyL hL hb3 (by omega) n3 o3 (lgr B) B.A.l.cap.2 hl hlb (fun l5 w4 B t4 o5 f5 => ⟨l5, rfl, ?_⟩)
        refine B.new hL (fun bn w5 B t5 hbn g5 nbn _ => ?_)
        exact B.tail (x := ⟨t, e⟩) hL hbn nbn (o5.tr t5 (fun b hb => (f5 b hb).2.2.1)) (fun b hb => ⟨(f5 b hb).1, (f5 b hb).2.1, (f5 b hb).2.2.1⟩) hl (fun h' w6 B hL' => B.fin hL')
      · refine B.new hL (fun bn w4 B t4 hbn g4 nbn onb => ?_)
        have ne : b3 ≠ bn := by have := hb3.lt; omega
        refine B.copyL hL (hb3.tr t4 (fun b hb => hb ▸ n3)) (by omega) n3 o3 (lgr B) B.A.l.cap.2 hl hlb (fun l5 w5 B t5 o5 f5 => ⟨l5, rfl, ?_⟩)
        exact B.tail (x := ⟨t, e⟩) hL (hbn.tr t5 (fun b hb hh => hh.elim (fun hh => nbn (hb ▸ hh)) (fun hh => ne (hh.symm.trans hb)))) nbn o5 (fun b hb => ⟨(f5 b hb).1, (f5 b hb).2.1, (f5 b hb).2.2.1⟩) hl (fun h' w6 B hL' => B.fin hL')
    · refine B.new hL (fun bn w3 B t3 hbn g3 nbn onb => ?_)
      refine B.new hL (fun b3 w4 B t4 hb3 g4 n3 o3 => ?_)
      have ne : b3 ≠ bn := by have := hbn.lt; omega
      have hbn2 := hbn.tr t4 (fun b hb => hb ▸ nbn)
      refine B.copyL hL hb3 (by have := t3.size; omega) n3 o3 (lgr B) B.A.l.cap.2 hl hlb (fun l5 w5 B t5 o5 f5 => ⟨l5, rfl, ?_⟩)
      exact B.tail (x := ⟨t, e⟩) hL (hbn2.tr t5 (fun b hb hh => hh.elim (fun hh => nbn (hb ▸ hh)) (fun hh => ne (hh.symm.trans hb)))) nbn o5 (fun b hb => ⟨(f5 b hb).1, (f5 b hb).2.1, (f5 b hb).2.2.1⟩) hl (fun h' w6 B hL' => B.fin hL')
  have key3 : ∀ (x : Bool) w', (x = true → t < 1 ∨ 1073741824 < t ∨ ¬ shapeP e) → (x = false → ¬ (t < 1 ∨ 1073741824 < t ∨ ¬ shapeP e)) → JN RJ RD w h w' h M →
      C_cellplaneref08_Journal_add_3 w.heap.size (fun (r : Value) w' => Touch h.on w w' ∧ (r = .int .i64 (errR M.J (.ap t e)) ∧ JP RJ RD w h (apJ M (.ap t e)) w')) (some ⟨h.bj, 0, none⟩) t b28 e t_api_Entry x w' := by
    intro x w' x1 x2 B
    unfold C_cellplaneref08_Journal_add_3
    have hn := B.A.l.1
    refine ifb (fun hx => bad (by decide) (by simp only [errR]; rw [if_pos (x1 hx)]) B) (fun hx => ?_)
    have g1 := x2 hx
    refine nilL ⟨M.J.term, B.A.j.at 1 rfl, ni (o := 1), ?_⟩
    refine ifbd (fun h2 => B.reb hL (fun w2 B _ => key4 _ _ g1 (fun _ => .inl h2) (fun h => by cases h) B)) (fun h2 => ?_)
    refine B.v hL (fun wa B _ => ref08_Last_spec B.A hl) (fun w2 B _ => ⟨_, rfl, ?_⟩)
    exact B.reb hL (fun w2 B _ => key4 _ _ g1 (fun h => .inr (of_decide_eq_true h)) (fun h => by rintro (hh | hh); exact h2 hh; exact (of_decide_eq_false h) hh) B)
  refine ifbd (fun h1 => B.reb hL (fun w2 B _ => key3 _ _ (fun _ => .inl h1) (fun h => by cases h) B)) (fun h1 => ?_)
  refine ifbd (fun h2 => B.reb hL (fun w2 B _ => key3 _ _ (fun _ => .inr (.inl h2)) (fun h => by cases h) B)) (fun h2 => ?_)
  refine B.v hL (fun wa _ _ => ref06_Shape_spec e wa) (fun w2 B _ => ⟨_, rfl, ?_⟩)
  exact B.reb hL (fun w2 B _ => key3 _ _ (fun h => .inr (.inr (by simpa using h))) (fun h => by
    have hs : shapeP e := by simpa using h
    rintro (hh | hh | hh)
    · exact h1 hh
    · exact h2 hh
    · exact hh hs) B)

theorem ref08_cut_spec (A : JAt RJ RD w h M) (n : Int) (hl : M.J.log.length ≤ 1000000) : Spec PP n_cellplaneref08_Journal_cut [.pointer (some ⟨h.bj, 0, none⟩), .int .i64 n] w h.on
    (fun r w' => r = .int .i64 (errR M.J (.ct n)) ∧ JP RJ RD w h (apJ M (.ct n)) w') := by
  refine cellplaneref08_Journal_cut_calls (some ⟨h.bj, 0, none⟩) n _ w ?_
  unfold F_cellplaneref08_Journal_cut
  have B := JN.start A
  have hn := A.l.1
  have hcap := A.l.cap.1
  have bad : (n < 0 ∨ (M.J.log.length : Int) < n) → Reb w.heap.size w [] ((fun (r : Value) w' => Touch h.on w w' ∧ (r = .int .i64 (errR M.J (.ct n)) ∧ JP RJ RD w h (apJ M (.ct n)) w')) (Value.int .i64 1)) := by
    intro hb
    have he : errR M.J (.ct n) = 1 := by simp only [errR]; rw [if_pos hb]
    have ha : apJ M (.ct n) = M := by unfold apJ; rw [if_neg (by rw [he]; decide)]
    rw [ha, he]
    exact B.fin offJ.nil
  refine ifbd (fun h1 => bad (.inl h1)) (fun h1 => ?_)
  refine nilL ⟨h.lg, A.j.at 3 rfl, notIn_nil, ?_⟩
  refine ifbd (fun h2 => bad (.inr (by omega))) (fun h2 => ?_)
  have he : errR M.J (.ct n) = 0 := by simp only [errR]; rw [if_neg (by omega)]
  have ha : apJ M (.ct n) = ⟨{ M.J with log := M.J.log.take n.toNat }, M.b, M.d⟩ := by unfold apJ; rw [if_pos he]; rfl
  rw [ha, he]
  refine B.new offJ.nil (fun b3 w3 B t3 hb3 g3 n3 o3 => ?_)
  refine nilL ⟨h.lg, B.A.j.at 3 rfl, notIn_nil, by omega, by omega, ?_⟩
  refine B.copyL (s := ⟨h.lg.a, n.toNat, h.lg.c⟩) offJ.nil hb3 (by omega) n3 o3 ((B.A.l.takeN lgC_len (by omega)).rd lgC_len) B.A.l.cap.2 (by rw [List.length_take]; omega) (by simp [blk]) (fun l5 w4 B t4 o5 f5 => ⟨l5, rfl, ?_⟩)
  exact nilL (B.put (h' := { h with lg := l5 }) (M' := ⟨{ M.J with log := M.J.log.take n.toNat }, M.b, M.d⟩) (o := 3) offJ.nil rfl rfl rfl rfl (by simp) rfl rfl o5 (fun b hb => .inr (f5 b hb).2.1) (fun b hb => ⟨fun hd => (f5 b hb).1 (.inr (.inl hd)), fun e => (f5 b hb).1 (.inl e), by simp [blk]⟩) (fun w2 B _ => B.fin offJ.nil))
end

end Go.Sh
