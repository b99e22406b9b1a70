/- The laws' journals: sizes, a journal made within a call, Term, Vote, Len, Open, Copy; note and awake.
   Conditions: none. -/
import Derived.Test.YtoenaheehpjmiaaU8
namespace Go.Sh
open Go
set_option linter.unusedSimpArgs false
set_option linter.unusedVariables false
set_option maxHeartbeats 4000000

theorem replay_log : ∀ (k : Nat) (J : JC) (b : List UInt8), b.length ≤ k → (replay J b).1.log.length ≤ J.log.length + (replay J b).2 := by
  intro k
  induction k with
  | zero =>
    intro J b hb
    have : b = [] := List.eq_nil_of_length_eq_zero (by omega)
    subst this
    rw [replay_none takeM_nil]; simp
  | succ k ih =>
    intro J b hb
    cases ht : takeM b with
    | none => rw [replay_none ht]; simp
    | some x =>
      obtain ⟨p, n⟩ := x
      cases hr : readM J p with
      | none => rw [replay_bad ht hr]; simp
      | some J' =>
        rw [replay_step ht hr]
        have hn := takeM_le ht
        have hd : (b.drop n).length = b.length - n := List.length_drop
        have := ih J' (b.drop n) (by omega)
        obtain ⟨r, _, _, _, rfl⟩ := readM_some hr
        have := doR_len (J := J) (r := r)
        simp only
        omega

theorem putF_rec {r : Rec} (h : r.ok) : (putF (recB r)).length ≤ 200 := by
  rw [putF_len]
  have h1 := recB_len h
  have h2 := vb_len10 (zz_lt (n := ((recB r).length : Int)) (by omega) (by omega))
  omega

/-- how big a journal is behind c calls -/
structure Bd (M : JM) (c : Nat) : Prop where
  b : M.b.length ≤ 200 * c
  l : M.J.log.length ≤ 200 * c
  d : M.d ≤ M.b.length
theorem Bd.new : Bd jm0 0 := ⟨by simp [jm0], by simp [jm0, j0], by simp [jm0]⟩
theorem Bd.op {M : JM} {c : Nat} {r : Rec} (h : Bd M c) (hc : c ≤ 4000) : Bd (opM M r) (c + 1) := by
  have hb := h.b
  have hl := h.l
  have hd := h.d
  unfold opM
  split
  · rename_i h0
    have hr := errR_ok (by omega) h0
    have h1 := putF_rec hr
    have h2 := doR_len (J := M.J) (r := r)
    exact ⟨by simp only [List.length_append]; omega, by simp only; omega, by simp only [List.length_append]; omega⟩
  · exact ⟨by omega, by omega, hd⟩
theorem Bd.sync {M : JM} {c : Nat} (h : Bd M c) : Bd (syncM M) c := ⟨h.b, h.l, Nat.le_refl _⟩
theorem Bd.crash {M : JM} {c : Nat} {k : Int} (h : Bd M c) : Bd (crashM M k) c := by
  have hb := h.b
  have h1 := replay_le _ j0 (M.b.take (keepN M k)) (Nat.le_refl _)
  have h2 := replay_log _ j0 (M.b.take (keepN M k)) (Nat.le_refl _)
  have h3 : (M.b.take (keepN M k)).length ≤ M.b.length := by rw [List.length_take]; omega
  have h4 : j0.log.length = 0 := rfl
  unfold crashM readAll
  refine ⟨?_, ?_, ?_⟩
  · simp only [List.length_take]; omega
  · simp only; omega
  · simp only [List.length_take]
    rw [List.length_take] at h1
    omega
theorem Bd.up {M : JM} {c c' : Nat} (h : Bd M c) (hc : c ≤ c') : Bd M c' := ⟨by have := h.b; omega, by have := h.l; omega, h.d⟩
theorem Good.op' {M : JM} {rs : List Rec} {r : Rec} (h : Good M rs) (hl : M.J.log.length ≤ 1000000) : Good (opM M r) (if errR M.J r = 0 then rs ++ [r] else rs) := by
  by_cases h0 : errR M.J r = 0
  · exact h.op (errR_ok hl h0)
  · unfold opM
    rw [if_neg h0, if_neg h0]
    exact h
theorem opM_ok {M : JM} {r : Rec} (h : errR M.J r = 0) : opM M r = ⟨doR M.J r, M.b ++ putF (recB r), M.d⟩ := by unfold opM; rw [if_pos h]
theorem opM_no {M : JM} {r : Rec} (h : errR M.J r ≠ 0) : opM M r = M := by unfold opM; rw [if_neg h]

theorem Now.young {S S' : Nat → Prop} {w0 w : World} (T : Now S w0 w) (h : ∀ b, S b → w0.heap.size ≤ b) : Now S' w0 w := ⟨T.t.mono (fun i hi hs => by have := h i hs; omega)⟩

/-- a journal made within the call that began at 'w0' -/
structure JS (Tj Td : TypeId) (w0 w : World) (bj : Nat) (h : JH) (M : JM) : Prop where
  T : Now noB w0 w
  A : JAt Tj Td w h M
  e : h.bj = bj
  fr : ∀ b, h.on b → w0.heap.size ≤ b
section
variable {Tj Td : TypeId} {w w' w0 : World} {h h0 h' : JH} {M M' : JM} {S : Nat → Prop} {L : List LB} {bj : Nat}
theorem JS.keep (B : JS Tj Td w0 w bj h M) (T : Now noB w0 w') (t : Touch S w w') (hS : ∀ b, S b → ¬ h.on b) : JS Tj Td w0 w' bj h M :=
  ⟨T, B.A.tr t (fun b hb hs => hS b hs hb), B.e, B.fr⟩
theorem JS.jn (B : JS Tj Td w0 w bj h M) : JN Tj Td w0 h w h M := ⟨B.T.young (by simp [noB]), B.A, rfl, rfl, fun b hb => .inl hb⟩
theorem JN.js (B : JN Tj Td w0 h w h' M) (e : h.bj = bj) (fr : ∀ b, h.on b → w0.heap.size ≤ b) : JS Tj Td w0 w bj h' M :=
  ⟨B.T.young fr, B.A, B.ej.trans e, fun b hb => (B.fr b hb).elim (fr b) id⟩
theorem JS.reb {K : World → Prop} (B : JS Tj Td w0 w bj h M) (hL : offJ w0 h L) (k : ∀ w', JS Tj Td w0 w' bj h M → Touch (fun b => b ∈ blk L) w w' → K w') : Reb w0.heap.size w L K :=
  Reb.A B.T Anc.start (fun w' T t => k w' (B.keep T t (fun b hb => (hL b hb).2)) t)
theorem JS.v {f : FuncId} {args : List Value} {R : Value → World → Prop} {m : Value} (B : JS Tj Td w0 w bj h M) (hL : offJ w0 h L)
    (hs : ∀ wa, JS Tj Td w0 wa bj h M → Touch (fun b => b ∈ blk L) w wa → Spec PP f args wa noB (fun v _ => v = m)) (k : ∀ w', JS Tj Td w0 w' bj h M → Touch (fun b => b ∈ blk L) w w' → R m w') : CallL PP w0.heap.size w L f args R :=
  CallL.vA B.T Anc.start (fun wa T t => hs wa (B.keep T t (fun b hb => (hL b hb).2)) t) (fun w' T t => k w' (B.keep T t (fun b hb => (hL b hb).2)) t)
theorem JS.p {f : FuncId} {args : List Value} {R : Value → World → Prop} {R' : World → Value → World → Prop} (B : JS Tj Td w0 w bj h M) (hL : offJ w0 h L)
    (hs : ∀ wa, JS Tj Td w0 wa bj h M → Touch (fun b => b ∈ blk L) w wa → Spec PP f args wa noB (R' wa))
    (k : ∀ wa v w', JS Tj Td w0 w' bj h M → Touch (fun b => b ∈ blk L) w w' → w.heap.size ≤ wa.heap.size → R' wa v w' → R v w') : CallL PP w0.heap.size w L f args R :=
  CallL.pA B.T Anc.start (fun wa T t => hs wa (B.keep T t (fun b hb => (hL b hb).2)) t) (fun wa v w' T t z1 _ y hr => k wa v w' (B.keep T t (fun b hb => (hL b hb).2)) t z1 hr)
/-- a call on the journal that turns nothing -/
theorem JS.get {f : FuncId} {args : List Value} {R : Value → World → Prop} {m : Value} (B : JS Tj Td w0 w bj h M) (hL : offJ w0 h L)
    (hs : ∀ wa, JAt Tj Td wa h M → Spec PP f (.pointer (some ⟨h.bj, 0, none⟩) :: args) wa noB (fun v _ => v = m)) (k : ∀ w', JS Tj Td w0 w' bj h M → Touch (fun b => b ∈ blk L) w w' → R m w') :
    CallL PP w0.heap.size w L f (.pointer (some ⟨bj, 0, none⟩) :: args) R := by
  obtain rfl := B.e
  exact B.v hL (fun wa B _ => hs wa B.A) k
/-- a call on the journal -/
theorem JS.op {f : FuncId} {args : List Value} {R : Value → World → Prop} {v0 : Value} (B : JS Tj Td w0 w bj h M) (hL : offJ w0 h L)
    (hs : ∀ wa, JAt Tj Td wa h M → Touch (fun b => b ∈ blk L) w wa → Spec PP f (.pointer (some ⟨h.bj, 0, none⟩) :: args) wa h.on (fun v w' => v = v0 ∧ JP Tj Td wa h M' w'))
    (k : ∀ h' w', JS Tj Td w0 w' bj h' M' → (∀ b, h'.on b → h.on b ∨ w.heap.size ≤ b) → offJ w0 h' L → Touch (fun b => b ∈ blk L ∨ h.on b) w w' → R v0 w') :
    CallL PP w0.heap.size w L f (.pointer (some ⟨bj, 0, none⟩) :: args) R := by
  obtain rfl := B.e
  exact B.jn.op hL (fun wa B t => hs wa B.A t) (fun h' w' B' f o t => k h' w' (B'.js rfl B.fr) f o t)
theorem JS.dk {f : FuncId} {args : List Value} {R : Value → World → Prop} {v0 : Value} {b' : List UInt8} {d' : Nat} (B : JS Tj Td w0 w bj h M)
    (hs : ∀ wa, JAt Tj Td wa h M → Touch (fun b => b ∈ blk []) w wa → Spec PP f (.pointer (some ⟨h.bd, 0, none⟩) :: args) wa (dOn h.bd h.sl) (fun v w' => v = v0 ∧ DP Td wa h.bd h.sl b' d' w'))
    (k : ∀ h' w', JS Tj Td w0 w' bj h' ⟨M.J, b', d'⟩ → (∀ b, h'.on b → h.on b ∨ w.heap.size ≤ b) → Touch h.on w w' → R v0 w') :
    NilL (some ⟨bj, 0, none⟩) fun q => ∃ p : Option Addr, At w q [.pointer p] ∧ NotIn q.block [] ∧ CallL PP w0.heap.size w [] f (.pointer p :: args) R := by
  obtain rfl := B.e
  refine nilL ⟨some ⟨h.bd, 0, none⟩, B.A.j.at 0 rfl, notIn_nil, ?_⟩
  exact B.jn.dk offJ.nil (fun wa B t => hs wa B.A t) (fun h' w' B' _ f o t => k h' w' (B'.js rfl B.fr) f (t.mono (fun _ _ h => h.elim (fun h => by simp [blk] at h) id)))
end

section
variable {w : World} {h : JH} {M : JM}
theorem journal_Term_spec (A : JAt t_journal_Journal t_disk_Disk w h M) : Spec PP n_journal_Journal_Term [.pointer (some ⟨h.bj, 0, none⟩)] w noB (fun v _ => v = .int .i64 M.J.term) := by
  refine journal_Journal_Term_calls (some ⟨h.bj, 0, none⟩) _ w ?_
  unfold F_journal_Journal_Term
  exact nilL ⟨_, A.j.at 1 rfl, notIn_nil, Reb.val Now.refl (Nat.le_refl _) rfl⟩
theorem journal_Vote_spec (A : JAt t_journal_Journal t_disk_Disk w h M) : Spec PP n_journal_Journal_Vote [.pointer (some ⟨h.bj, 0, none⟩)] w noB (fun v _ => v = .int .i64 M.J.vote) := by
  refine journal_Journal_Vote_calls (some ⟨h.bj, 0, none⟩) _ w ?_
  unfold F_journal_Journal_Vote
  exact nilL ⟨_, A.j.at 2 rfl, notIn_nil, Reb.val Now.refl (Nat.le_refl _) rfl⟩
theorem journal_Len_spec (A : JAt t_journal_Journal t_disk_Disk w h M) : Spec PP n_journal_Journal_Len [.pointer (some ⟨h.bj, 0, none⟩)] w noB (fun v _ => v = .int .i64 (M.J.log.length : Int)) := by
  refine journal_Journal_Len_calls (some ⟨h.bj, 0, none⟩) _ w ?_
  unfold F_journal_Journal_Len
  exact nilL ⟨h.lg, A.j.at 3 rfl, notIn_nil, Reb.val Now.refl (Nat.le_refl _) (by rw [A.l.1])⟩

/-- what New gives, as a law's journal -/
theorem journal_new {w0 : World} {w : World} {K : Value → World → Prop} (T : Now noB w0 w)
    (k : ∀ h w', JS t_journal_Journal t_disk_Disk w0 w' h.bj h jm0 → Touch noB w w' → (∀ b, h.on b → w.heap.size ≤ b) → K (.pointer (some ⟨h.bj, 0, none⟩)) w') : CallL PP w0.heap.size w [] n_journal_New [] K := by
  have z0 := T.t.size
  refine CallL.pA T Anc.nil (fun wa _ _ => journal_New_spec wa) ?_
  rintro wa v w1 T t z1 z2 _ ⟨h, rfl, A, hge⟩
  exact k h w1 ⟨T, A, rfl, fun b hb => by have := hge b hb; omega⟩ (t.mono (fun _ _ h => by simp [blk] at h)) (fun b hb => by have := hge b hb; omega)

theorem keepN_full {b : List UInt8} {J : JC} {k : Int} : b.take (keepN ⟨J, b, b.length⟩ k) = b := List.take_of_length_le (by unfold keepN; simp only; omega)

theorem journal_Open_spec {w : World} {s : Sl} {bs : List UInt8} (hr : Rd byteC 1 w s bs) (hc : s.a = none → s.c = 0) (hl : bs.length ≤ 1000000) :
    Spec PP n_journal_Open [.slice s.a s.n s.c] w noB (fun v w' => ∃ h : JH, v = .pointer (some ⟨h.bj, 0, none⟩) ∧ JAt t_journal_Journal t_disk_Disk w' h (readAll bs) ∧ ∀ b, h.on b → w.heap.size ≤ b) := by
  refine journal_Open_calls s _ w ?_
  unfold F_journal_Open
  refine journal_new Now.refl (fun h1 w1 B t1 _ => ⟨_, rfl, ?_⟩)
  refine B.dk (fun wa A t => disk_Append_spec A.d (hr.tr (t1.comp t (fun _ _ h => by simp [blk] at h)) (by simp [noB])) hc (by simp [jm0]; omega)) (fun h2 w2 B _ _ => ⟨rfl, ?_⟩)
  refine B.dk (fun wa A _ => disk_Sync_spec A.d) (fun h3 w3 B _ _ => ⟨rfl, ?_⟩)
  refine B.op offJ.nil (fun wa A _ => journal_Crash_spec A (by simp) (by simp [jm0]; omega) 0) (fun h4 w4 B _ _ _ => ⟨rfl, ?_⟩)
  have e : crashM ⟨(JM.mk jm0.J (jm0.b ++ bs) jm0.d).J, (JM.mk jm0.J (jm0.b ++ bs) jm0.d).b, (JM.mk jm0.J (jm0.b ++ bs) jm0.d).b.length⟩ 0 = readAll bs := by
    unfold crashM
    simp only [keepN_full]
    rfl
  rw [e] at B
  exact B.reb offJ.nil (fun w5 B _ => ⟨B.T.t, h4, by rw [B.e], B.A, B.fr⟩)

theorem slices_Clone_spec {w : World} {s : Sl} {xs : List G_api_Logged} (hr : Rd lgC 10 w s xs) (hc : s.a = none → s.c = 0) (hl : xs.length ≤ 1000000) :
    Spec PP n_slices_Clone_api_Logged_api_Logged [.slice s.a s.n s.c] w noB (fun v w' => ∃ s' : Sl, v = .slice s'.a s'.n s'.c ∧ Own lgC 10 t_api_Logged w' s' xs ∧ ∀ b, s'.on b → w.heap.size ≤ b) := by
  refine slices_Clone_api_Logged_api_Logged_calls s _ w ?_
  unfold F_slices_Clone_api_Logged_api_Logged
  have T : Now noB w w := Now.refl
  have hn := hr.1
  refine ifb (fun h => ?_) (fun h => ?_)
  · have h0 : s.a = none := by cases ha : s.a <;> simp [ha] at h; rfl
    have hx : xs = [] := List.eq_nil_of_length_eq_zero (by rw [hr.1, hr.2.1 h0])
    subst hx
    exact Reb.A T Anc.nil (fun w1 T t => ⟨T.t, ⟨none, 0, 0⟩, rfl, Own.nil, by simp⟩)
  · refine NewL.A T Anc.nil (fun b w1 T t1 hb l1 => ?_)
    refine RunL.freshA T Anc.nil el_sl_api_Logged.t (by decide) lgC_len lgC_one hb (fun h => by have := l1.1; omega) (by simp [blk]) (ys := xs) (hr.tr t1 (by simp [blk])) hc (by omega) (by simp [blk]) (fun s' w2 T t2 o f _ => ⟨s', rfl, ?_⟩)
    exact Reb.A T Anc.nil (fun w3 T t3 => ⟨T.t, s', rfl, o.tr t3 (by simp [blk]), fun i hi => (f i hi).elim (fun h => by have := l1.1; omega) (fun h => by have := t1.size; omega)⟩)

theorem journal_Copy_spec (A : JAt t_journal_Journal t_disk_Disk w h M) (hb : M.b.length ≤ 100000000) (hl : M.J.log.length ≤ 1000000) :
    Spec PP n_journal_Journal_Copy [.pointer (some ⟨h.bj, 0, none⟩)] w noB (fun v w' => ∃ h' : JH, v = .pointer (some ⟨h'.bj, 0, none⟩) ∧ JAt t_journal_Journal t_disk_Disk w' h' M ∧ ∀ b, h'.on b → w.heap.size ≤ b) := by
  refine journal_Journal_Copy_calls (some ⟨h.bj, 0, none⟩) _ w ?_
  unfold F_journal_Journal_Copy
  have T : Now noB w w := Now.refl
  have z0 := T.t.size
  refine nilL ⟨some ⟨h.bd, 0, none⟩, A.j.at 0 rfl, notIn_nil, nilL ⟨_, A.j.at 1 rfl, notIn_nil, nilL ⟨_, A.j.at 2 rfl, notIn_nil, nilL ⟨h.lg, A.j.at 3 rfl, notIn_nil, ?_⟩⟩⟩⟩
  refine CallL.pA T Anc.nil (fun wa T _ => disk_Copy_spec (A.now T).d hb) ?_
  rintro wa v w1 T t1 z1 z2 _ ⟨bd, sl, rfl, D, fd⟩
  have A1 := A.now T
  refine ⟨_, rfl, A1.j.at 3 rfl, A1.j.at 2 rfl, A1.j.at 1 rfl, ?_⟩
  refine CallL.pA T Anc.nil (fun wa T _ => slices_Clone_spec ((A.now T).l.rd lgC_len) (A.now T).l.cap.2 hl) ?_
  rintro wb v w2 T t2 z3 z4 _ ⟨lg, rfl, l, fl⟩
  have A2 := A.now T
  refine ⟨lg, rfl, A2.j.at 2 rfl, A2.j.at 1 rfl, ?_⟩
  have D2 := D.tr t2 (by simp [blk])
  refine NewL.A T Anc.nil (fun b w3 T t3 hbk l3 => ?_)
  have D3 := D2.tr t3 (by simp [blk])
  have o3 := l.tr t3 (by simp [blk])
  refine Reb.A T Anc.nil (fun w4 T t4 => ⟨T.t, ⟨b, bd, sl, lg⟩, rfl, ⟨Blk.tr (cs := jCells ⟨b, bd, sl, lg⟩ M.J) hbk t4 (by simp [blk]), D3.tr t4 (by simp [blk]), o3.tr t4 (by simp [blk]), ?_, ?_, ?_⟩, ?_⟩)
  · intro hd; have := D2.lt hd; have := l3.1; simp only at *; omega
  · intro hd; have := l.lt hd; have := l3.1; simp only at *; omega
  · intro c hc hd
    have h1 := fl c hd
    have h2 := D.lt hc
    omega
  · rintro c (hc | hc | hc)
    · have := l3.1; simp only at *; omega
    · have := fd c hc; omega
    · have := fl c hc; omega
end

def noteE (n : Int) : G_api_Entry := ⟨16, 0, -1, -1, -1, 0, 0, 0, modM n 1000⟩
theorem note_spec (n : Int) (w : World) : Spec PP n_cellplanelaw08_note [.int .i64 n] w noB (fun v _ => v = .agg (List.toArray (noteE n).cells)) := by
  refine cellplanelaw08_note_calls n _ w ?_
  unfold F_cellplanelaw08_note
  intro b hb
  have T : Now noB w w := Now.refl
  refine CallL.vA T Anc.start (fun wa _ _ => make_Mod_spec (v := n) (n := 1000) (by decide) (by decide) wa) (fun w2 T t => ⟨_, rfl, ?_⟩)
  exact Reb.A T Anc.start (fun w3 T t => ⟨T.t, rfl⟩)
theorem noteE_shape (n : Int) : shapeP (noteE n) := by
  have h := modM_range (v := n) (n := 1000) (by decide)
  unfold shapeP okP plP nuP noteE
  generalize modM n 1000 = m at h
  simp
  omega
theorem noteE_I (n : Int) : ∀ x ∈ flds (noteE n), okI x := shape_I (noteE_shape n)

theorem awake_spec (w : World) : Spec PP n_cellplanelaw08_awake [] w noB (fun v _ => v = .bool true) := by
  refine cellplanelaw08_awake_calls _ w ?_
  unfold F_cellplanelaw08_awake
  have e1 : errR jm0.J (.st 3 1) = 0 := by simp [errR, jm0, j0]
  have G1 : Good (opM jm0 (.st 3 1)) [.st 3 1] := by have := Good.new.op' (r := .st 3 1) (by simp [jm0, j0]); rwa [if_pos e1] at this
  have E1 := opM_ok e1
  have G2 := G1.sync
  generalize hM2 : syncM (opM jm0 (.st 3 1)) = M2 at G2
  have J2 : M2.J = ⟨3, 1, []⟩ := by rw [← hM2, E1]; rfl
  have d2 : M2.d = M2.b.length := by rw [← hM2]; rfl
  have B2 : Bd M2 1 := by rw [← hM2]; exact (Bd.new.op (by omega)).sync
  have e3 : errR M2.J (.ap 3 (noteE 7)) = 0 := by rw [J2]; simp [errR, noteE_shape, lastT]
  have E3 := opM_ok e3
  have B3 : Bd (opM M2 (.ap 3 (noteE 7))) 2 := B2.op (by omega)
  have e4 : errR (opM M2 (.ap 3 (noteE 7))).J (.st 3 2) = 20 := by rw [E3, J2]; simp [errR, doR]
  have E4 : opM (opM M2 (.ap 3 (noteE 7))) (.st 3 2) = opM M2 (.ap 3 (noteE 7)) := opM_no (by rw [e4]; decide)
  have L3 : (opM M2 (.ap 3 (noteE 7))).J.log.length = 1 := by rw [E3, J2]; rfl
  have E5 : crashM (opM M2 (.ap 3 (noteE 7))) 0 = ⟨M2.J, M2.b, M2.b.length⟩ := by
    rw [← G2.reads]
    unfold crashM
    rw [E3]
    have : ∀ (J : JC) (c : List UInt8), (M2.b ++ c).take (keepN ⟨J, M2.b ++ c, M2.d⟩ 0) = M2.b := by
      intro J c
      have : keepN ⟨J, M2.b ++ c, M2.d⟩ 0 = M2.b.length := by unfold keepN; simp only [List.length_append]; omega
      rw [this, List.take_left' rfl]
    simp only [this]
  refine journal_new Now.refl (fun h1 w1 B t1 _ => ⟨_, rfl, ifb (fun h => by simp at h) (fun _ => ?_)⟩)
  refine B.op offJ.nil (fun wa A _ => journal_SetTerm_spec A 3 1 (by simp [jm0, j0]) (by simp [jm0])) (fun h2 w2 B _ _ _ => ⟨_, rfl, ?_⟩)
  refine B.dk (fun wa A _ => disk_Sync_spec A.d) (fun h3 w3 B _ _ => ⟨rfl, ?_⟩)
  replace B : JS _ _ _ _ _ _ (syncM _) := B
  rw [hM2] at B
  refine B.v offJ.nil (fun wa _ _ => note_spec 7 wa) (fun w4 B _ => ⟨_, rfl, ?_⟩)
  refine B.op offJ.nil (fun wa A _ => journal_Append_spec A 3 (noteE 7) (noteE_I 7) (by have := B2.l; omega) (by have := B2.b; omega)) (fun h5 w5 B _ _ _ => ⟨_, rfl, ?_⟩)
  refine B.op offJ.nil (fun wa A _ => journal_SetTerm_spec A 3 2 (by have := B3.l; omega) (by have := B3.b; omega)) (fun h6 w6 B _ _ _ => ⟨_, rfl, ?_⟩)
  rw [E4] at B
  refine B.get offJ.nil (fun wa A => journal_Len_spec A) (fun w7 B _ => ⟨_, rfl, ?_⟩)
  refine B.op offJ.nil (fun wa A _ => journal_Crash_spec A B3.d (by have := B3.b; omega) 0) (fun h8 w8 B _ _ _ => ⟨rfl, ?_⟩)
  rw [E5] at B
  rw [e1, e3, e4, L3]
  refine ifbd (fun _ => ?_) (fun h => absurd rfl h)
  refine ifbd (fun _ => ?_) (fun h => absurd rfl h)
  refine ifbd (fun _ => ?_) (fun h => absurd rfl h)
  refine ifbd (fun _ => ?_) (fun h => absurd rfl h)
  refine B.get offJ.nil (fun wa A => journal_Term_spec A) (fun w9 B _ => ⟨_, rfl, ?_⟩)
  rw [J2]
  refine ifbd (fun _ => ?_) (fun h => absurd rfl h)
  refine B.get offJ.nil (fun wa A => journal_Vote_spec A) (fun w9 B _ => ⟨_, rfl, ?_⟩)
  rw [J2]
  refine ifbd (fun _ => ?_) (fun h => absurd rfl h)
  refine B.get offJ.nil (fun wa A => journal_Len_spec A) (fun w9 B _ => ⟨_, rfl, ?_⟩)
  simp only [J2]
  exact B.reb offJ.nil (fun w5 B _ => ⟨B.T.t, rfl⟩)

end Go.Sh
