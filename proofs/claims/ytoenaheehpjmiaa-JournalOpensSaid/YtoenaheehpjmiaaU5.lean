/- Journals in memory: what is known of them, and rules; reading a journal; terms.
   Conditions: none. -/
import Derived.Test.YtoenaheehpjmiaaU4
namespace Go.Sh
open Go
set_option linter.unusedSimpArgs false
set_option linter.unusedVariables false
set_option maxHeartbeats 4000000

abbrev lgC : G_api_Logged → List Value := G_api_Logged.cells
theorem lgC_len (x : G_api_Logged) : (lgC x).length = 10 := rfl
theorem lgC_one (x : G_api_Logged) : ∀ u ∈ lgC x, u.oneCell' = true := by
  intro u hu; simp [lgC, G_api_Logged.cells] at hu; rcases hu with rfl | rfl | rfl | rfl | rfl | rfl | rfl | rfl | rfl | rfl <;> rfl

/-- where a journal lies -/
structure JH where
  bj : Nat
  bd : Nat
  sl : Sl
  lg : Sl
def JH.on (h : JH) : Nat → Prop := fun b => b = h.bj ∨ dOn h.bd h.sl b ∨ h.lg.on b
def jCells (h : JH) (J : JC) : List Value := [.pointer (some ⟨h.bd, 0, none⟩), .int .i64 J.term, .int .i64 J.vote, .slice h.lg.a h.lg.n h.lg.c]
structure JAt (Tj Td : TypeId) (w : World) (h : JH) (M : JM) : Prop where
  j : Blk w h.bj (jCells h M.J) Tj
  d : DAt Td w h.bd h.sl M.b M.d
  l : Own lgC 10 t_api_Logged w h.lg M.J.log
  n1 : ¬ dOn h.bd h.sl h.bj
  n2 : ¬ h.lg.on h.bj
  n3 : ∀ b, dOn h.bd h.sl b → ¬ h.lg.on b
section
variable {Tj Td : TypeId} {w w' w0 : World} {h h0 h' : JH} {M M' : JM} {S : Nat → Prop} {L : List LB}
theorem JAt.tr (A : JAt Tj Td w h M) (t : Touch S w w') (hd : ∀ b, h.on b → ¬ S b) : JAt Tj Td w' h M :=
  ⟨A.j.tr t (fun b hb => hd b (.inl hb)), A.d.tr t (fun b hb => hd b (.inr (.inl hb))), A.l.tr t (fun b hb => hd b (.inr (.inr hb))), A.n1, A.n2, A.n3⟩
theorem JAt.now (A : JAt Tj Td w h M) (T : Now noB w w') : JAt Tj Td w' h M := A.tr T.t (by simp [noB])
theorem JAt.lt (A : JAt Tj Td w h M) {b : Nat} (hb : h.on b) : b < w.heap.size := by
  rcases hb with rfl | hb | hb
  · exact A.j.lt
  · exact A.d.lt hb
  · exact A.l.lt hb
/-- the disk has turned -/
theorem JAt.disk {B : List UInt8} {d : Nat} {sl' : Sl} (A : JAt Tj Td w h M) (t : Touch (dOn h.bd h.sl) w w') (D : DAt Td w' h.bd sl' B d) (f : ∀ b, sl'.on b → h.sl.on b ∨ w.heap.size ≤ b) : JAt Tj Td w' { h with sl := sl' } ⟨M.J, B, d⟩ :=
  ⟨A.j.tr t (fun b hb hm => A.n1 (hb ▸ hm)), D, A.l.tr t (fun b hb hm => A.n3 b hm hb),
    fun hb => by
      rcases hb with hb | hb
      · exact A.n1 (.inl hb)
      · exact (f _ hb).elim (fun hh => A.n1 (.inr hh)) (fun hh => by have := A.j.lt; simp only at hh; omega),
    A.n2, fun b hb hl => by
      rcases hb with hb | hb
      · exact A.n3 b (.inl hb) hl
      · exact (f _ hb).elim (fun h => A.n3 b (.inr h) hl) (fun h => by have := A.l.lt hl; omega)⟩

/-- where a call stands that has a journal: 'w0', 'h0': as it was when the call began -/
structure JN (Tj Td : TypeId) (w0 : World) (h0 : JH) (w : World) (h : JH) (M : JM) : Prop where
  T : Now h0.on w0 w
  A : JAt Tj Td w h M
  ej : h.bj = h0.bj
  ed : h.bd = h0.bd
  fr : ∀ b, h.on b → h0.on b ∨ w0.heap.size ≤ b
theorem JN.start (A : JAt Tj Td w h M) : JN Tj Td w h w h M := ⟨Now.refl, A, rfl, rfl, fun b hb => .inl hb⟩
/-- nothing of the journal turns -/
theorem JN.gen (B : JN Tj Td w0 h0 w h M) (T : Now h0.on w0 w') (t : Touch S w w') (hS : ∀ b, S b → ¬ h.on b) : JN Tj Td w0 h0 w' h M :=
  ⟨T, B.A.tr t (fun b hb hs => hS b hs hb), B.ej, B.ed, B.fr⟩
/-- own blocks of the call that are not the journal's -/
def offJ (w0 : World) (h : JH) (L : List LB) : Prop := ∀ b ∈ blk L, w0.heap.size ≤ b ∧ ¬ h.on b
theorem offJ.nil : offJ w0 h [] := fun b hb => by simp [blk] at hb
theorem offJ.anc (hL : offJ w0 h L) : Anc S w0 w0.heap.size L := Anc.start
theorem JN.reb {K : World → Prop} (B : JN Tj Td w0 h0 w h M) (hL : offJ w0 h L) (k : ∀ w', JN Tj Td w0 h0 w' h M → Touch (fun b => b ∈ blk L) w w' → K w') : Reb w0.heap.size w L K :=
  Reb.A B.T Anc.start (fun w' T t => k w' (B.gen T t (fun b hb => (hL b hb).2)) t)
theorem JN.v {f : FuncId} {args : List Value} {R : Value → World → Prop} {m : Value} (B : JN Tj Td w0 h0 w h M) (hL : offJ w0 h L)
    (hs : ∀ wa, JN Tj Td w0 h0 wa h M → Touch (fun b => b ∈ blk L) w wa → Spec PP f args wa noB (fun v _ => v = m)) (k : ∀ w', JN Tj Td w0 h0 w' h M → Touch (fun b => b ∈ blk L) w w' → R m w') : CallL PP w0.heap.size w L f args R :=
  CallL.vA B.T Anc.start (fun wa T t => hs wa (B.gen T t (fun b hb => (hL b hb).2)) t) (fun w' T t => k w' (B.gen T t (fun b hb => (hL b hb).2)) t)
theorem JN.p {f : FuncId} {args : List Value} {R : Value → World → Prop} {R' : World → Value → World → Prop} (B : JN Tj Td w0 h0 w h M) (hL : offJ w0 h L)
    (hs : ∀ wa, JN Tj Td w0 h0 wa h M → Touch (fun b => b ∈ blk L) w wa → Spec PP f args wa noB (R' wa))
    (k : ∀ wa v w', JN Tj Td w0 h0 w' h M → Touch (fun b => b ∈ blk L) w w' → w.heap.size ≤ wa.heap.size → (∀ b ∈ blk L, b < wa.heap.size) → R' wa v w' → R v w') : CallL PP w0.heap.size w L f args R :=
  CallL.pA B.T Anc.start (fun wa T t => hs wa (B.gen T t (fun b hb => (hL b hb).2)) t) (fun wa v w' T t z1 _ y hr => k wa v w' (B.gen T t (fun b hb => (hL b hb).2)) t z1 y hr)
theorem JN.new {cs : List Value} {ty : TypeId} {K : Nat → World → Prop} (B : JN Tj Td w0 h0 w h M) (hL : offJ w0 h L)
    (k : ∀ b w', JN Tj Td w0 h0 w' h M → Touch (fun b => b ∈ blk L) w w' → Blk w' b cs ty → w.heap.size ≤ b → b ∉ blk L → ¬ h.on b → K b w') : NewL w0.heap.size w L cs ty K :=
  NewL.A B.T Anc.start (fun b w' T t hb l => k b w' (B.gen T t (fun b hb => (hL b hb).2)) t hb l.2.1 l.2.2.2 (fun hn => by have := B.A.lt hn; omega))
/-- a call on the journal's disk -/
theorem JN.dk {f : FuncId} {args : List Value} {R : Value → World → Prop} {v0 : Value} {b' : List UInt8} {d' : Nat} (B : JN Tj Td w0 h0 w h M) (hL : offJ w0 h L)
    (hs : ∀ wa, JN Tj Td w0 h0 wa h M → Touch (fun b => b ∈ blk L) w wa → Spec PP f args wa (dOn h.bd h.sl) (fun v w' => v = v0 ∧ DP Td wa h.bd h.sl b' d' w'))
    (k : ∀ h' w', JN Tj Td w0 h0 w' h' ⟨M.J, b', d'⟩ → h'.lg = h.lg → (∀ b, h'.on b → h.on b ∨ w.heap.size ≤ b) → offJ w0 h' L → Touch (fun b => b ∈ blk L ∨ h.on b) w w' → R v0 w') : CallL PP w0.heap.size w L f args R := by
  have hin : ∀ b, dOn h.bd h.sl b → h.on b := fun b hb => .inr (.inl hb)
  refine ⟨dOn h.bd h.sl, fun b hb => ⟨B.A.lt (hin b hb), fun hm => (hL b hm).2 (hin b hb)⟩, fun wa hl => ?_⟩
  have Ba := B.gen (B.T.locA hl Anc.start) hl.touch (fun b hb => (hL b hb).2)
  refine Calls.mono (hs wa Ba hl.touch) ?_
  rintro e w' ⟨v, he, ht, rfl, sl', D, f⟩
  have T' : Now h0.on w0 w' := Ba.T.comp ht (fun i hi hd => (B.fr i (hin i hd)).elim id (fun h => by omega))
  have A' := Ba.A.disk ht D f
  have zz := hl.touch.size
  have hf : ∀ b, ({ h with sl := sl' } : JH).on b → h.on b ∨ wa.heap.size ≤ b := by
    rintro b (hb | (hb | hb) | hb)
    · exact .inl (.inl hb)
    · exact .inl (.inr (.inl (.inl hb)))
    · exact (f b hb).imp (fun h => .inr (.inl (.inr h))) id
    · exact .inl (.inr (.inr hb))
  refine ⟨ht, v, he, k { h with sl := sl' } w' ⟨T', A', B.ej, B.ed, fun b hb => (hf b hb).elim (B.fr b) (fun h => by have := B.T.t.size; omega)⟩ rfl (fun b hb => (hf b hb).imp id (fun h => by omega)) (fun b hb => ⟨(hL b hb).1, fun hn => (hf b hn).elim (hL b hb).2 (fun h => by have := hl.lt hb; omega)⟩) ((hl.touch.mono (fun _ _ h => .inl h)).comp ht (fun _ _ h => .inr (hin _ h)))⟩

/-- a journal behind a call -/
def JP (Tj Td : TypeId) (w : World) (h : JH) (M : JM) (w' : World) : Prop := ∃ h', JAt Tj Td w' h' M ∧ h'.bj = h.bj ∧ h'.bd = h.bd ∧ ∀ b, h'.on b → h.on b ∨ w.heap.size ≤ b
theorem JN.op {f : FuncId} {args : List Value} {R : Value → World → Prop} {v0 : Value} (B : JN Tj Td w0 h0 w h M) (hL : offJ w0 h L)
    (hs : ∀ wa, JN Tj Td w0 h0 wa h M → Touch (fun b => b ∈ blk L) w wa → Spec PP f args wa h.on (fun v w' => v = v0 ∧ JP Tj Td wa h M' w'))
    (k : ∀ h' w', JN Tj Td w0 h0 w' h' M' → (∀ b, h'.on b → h.on b ∨ w.heap.size ≤ b) → offJ w0 h' L → Touch (fun b => b ∈ blk L ∨ h.on b) w w' → R v0 w') : CallL PP w0.heap.size w L f args R := by
  refine ⟨h.on, fun b hb => ⟨B.A.lt hb, fun hm => (hL b hm).2 hb⟩, fun wa hl => ?_⟩
  have Ba := B.gen (B.T.locA hl Anc.start) hl.touch (fun b hb => (hL b hb).2)
  refine Calls.mono (hs wa Ba hl.touch) ?_
  rintro e w' ⟨v, he, ht, rfl, h', A', ej, ed, hf⟩
  have zz := hl.touch.size
  refine ⟨ht, v, he, k h' w' ⟨Ba.T.comp ht (fun i hi hd => (B.fr i hd).elim id (fun h => by omega)), A', ej.trans B.ej, ed.trans B.ed, fun b hb => (hf b hb).elim (B.fr b) (fun h => by have := B.T.t.size; omega)⟩ (fun b hb => (hf b hb).imp id (fun h => by omega)) (fun b hb => ⟨(hL b hb).1, fun hn => (hf b hn).elim (hL b hb).2 (fun h => by have := hl.lt hb; omega)⟩) ((hl.touch.mono (fun _ _ h => .inl h)).comp ht (fun _ _ h => .inr h))⟩
theorem JN.fin {v : Value} (B : JN Tj Td w0 h0 w h M) (hL : offJ w0 h L) : Reb w0.heap.size w L ((fun v' w' => Touch h0.on w0 w' ∧ (v' = v ∧ JP Tj Td w0 h0 M w')) v) :=
  B.reb hL (fun w' B _ => ⟨B.T.t, rfl, h, B.A, B.ej, B.ed, B.fr⟩)
/-- a field of the journal's block is written -/
theorem JN.put {K : World → Prop} {o : Nat} {ds : List Value} (B : JN Tj Td w0 h0 w h M) (hL : offJ w0 h L) (hb : h'.bj = h.bj) (hd : h'.bd = h.bd) (hs : h'.sl = h.sl) (hc : lspl (jCells h M.J) o ds = jCells h' M'.J) (ho : o + ds.length ≤ 4) (eb : M'.b = M.b) (ed : M'.d = M.d)
    (l : Own lgC 10 t_api_Logged w h'.lg M'.J.log) (fl : ∀ b, h'.lg.on b → h.lg.on b ∨ w0.heap.size ≤ b) (nl : ∀ b, h'.lg.on b → ¬ dOn h.bd h.sl b ∧ b ≠ h.bj ∧ b ∉ blk L)
    (k : ∀ w', JN Tj Td w0 h0 w' h' M' → offJ w0 h' L → K w') : StL w L ⟨h.bj, o, none⟩ ds K := by
  obtain ⟨bj, bd, sl, lg⟩ := h
  obtain ⟨bj', bd', sl', lg'⟩ := h'
  simp only at hb hd hs
  subst hb hd hs
  have hbj : ∀ b ∈ blk L, b ≠ bj' := fun b hm e => (hL b hm).2 (.inl e)
  refine ⟨B.A.j.room (by rw [show (jCells _ _).length = 4 from rfl]; exact ho), fun hm => hbj _ hm rfl, ?_⟩
  have tp := (Touch.refl (fun b => b = bj') w).putC (p := ⟨bj', o, none⟩) (cs := ds) (fun _ => rfl)
  have j2 := B.A.j.putC o ds
  rw [hc] at j2
  obtain ⟨J', b', d'⟩ := M'
  simp only at eb ed
  subst eb ed
  have hT : Now h0.on w0 (putC w ⟨bj', o, none⟩ ds) := B.T.putC (p := ⟨bj', o, none⟩) (cs := ds) (fun hl => (B.fr bj' (.inl rfl)).elim id (fun h => by simp at hl; omega))
  refine k _ ⟨hT, ⟨j2, B.A.d.tr tp (fun b hb e => B.A.n1 (e ▸ hb)), l.tr tp (fun b hb e => (nl b hb).2.1 e), B.A.n1, fun hn => (nl _ hn).2.1 rfl, fun b hb hn => (nl b hn).1 hb⟩, B.ej, B.ed, ?_⟩ ?_
  · rintro b (hb | hb | hb)
    · exact B.fr b (.inl hb)
    · exact B.fr b (.inr (.inl hb))
    · exact (fl b hb).elim (fun h => B.fr b (.inr (.inr h))) .inr
  · intro b hm
    refine ⟨(hL b hm).1, ?_⟩
    rintro (hb | hb | hb)
    · exact (hL b hm).2 (.inl hb)
    · exact (hL b hm).2 (.inr (.inl hb))
    · exact (nl b hb).2.2 hm
end

def zeroL : G_api_Logged := ⟨0, zeroE⟩
def atM (l : List G_api_Logged) (i : Int) : G_api_Logged × Bool := if i < 0 then (zeroL, false) else match l[i.toNat]? with | some x => (x, true) | none => (zeroL, false)
def atV (l : List G_api_Logged) (i : Int) : Value := .tuple #[.agg (List.toArray (atM l i).1.cells), .bool (atM l i).2]
theorem atV_neg {l : List G_api_Logged} {i : Int} (h : i < 0) : atV l i = .tuple #[.agg (List.toArray zeroL.cells), .bool false] := by unfold atV atM; rw [if_pos h]
theorem atV_out {l : List G_api_Logged} {i : Int} (h : (l.length : Int) ≤ i) : atV l i = .tuple #[.agg (List.toArray zeroL.cells), .bool false] := by
  have h0 : ¬ i < 0 := by omega
  unfold atV atM
  rw [if_neg h0, List.getElem?_eq_none (by omega)]
theorem atV_in {l : List G_api_Logged} {i : Int} {x : G_api_Logged} (h : 0 ≤ i) (hx : l[i.toNat]? = some x) : atV l i = .tuple #[.agg (List.toArray x.cells), .bool true] := by
  have h0 : ¬ i < 0 := by omega
  unfold atV atM
  rw [if_neg h0, hx]
theorem lastT_eq {l : List G_api_Logged} : (atM l ((l.length : Int) - 1)).1.Term = lastT l := by
  unfold atM lastT
  cases l with
  | nil => rfl
  | cons x r =>
    have h0 : ¬ ((((x :: r).length : Nat) : Int) - 1 < 0) := by rw [List.length_cons]; omega
    have e : ((((x :: r).length : Nat) : Int) - 1).toNat = (x :: r).length - 1 := by omega
    rw [if_neg h0, e, List.getLast?_eq_getElem?]
    cases (x :: r)[(x :: r).length - 1]? <;> rfl

/-- what a call of a record makes of a journal's memory -/
def apJ (M : JM) (r : Rec) : JM := if errR M.J r = 0 then ⟨doR M.J r, M.b, M.d⟩ else M

section
variable {w : World} {h : JH} {M : JM}
theorem journal_At_spec (A : JAt t_journal_Journal t_disk_Disk w h M) (i : Int) : Spec PP n_journal_Journal_At [.pointer (some ⟨h.bj, 0, none⟩), .int .i64 i] w noB (fun v _ => v = atV M.J.log i) := by
  refine journal_Journal_At_calls (some ⟨h.bj, 0, none⟩) i _ w ?_
  unfold F_journal_Journal_At
  have T : Now noB w w := Now.refl
  have hn := A.l.1
  intro b1 hb1
  have ni : ∀ {o : Nat} {cs : List Value} {ty : TypeId}, NotIn (⟨h.bj, o, none⟩ : Addr).block [⟨b1, cs, ty⟩] := by
    intro o cs ty; have := A.j.lt; simp; omega
  refine ifbd (fun h0 => ?_) (fun h0 => ?_)
  · exact Reb.A T Anc.start (fun w1 T t => ⟨T.t, (atV_neg h0).symm⟩)
  refine nilL ⟨h.lg, A.j.at 3 rfl, ni (o := 3), ?_⟩
  refine ifbd (fun h1 => ?_) (fun h1 => ?_)
  · exact Reb.A T Anc.start (fun w1 T t => ⟨T.t, (atV_out (by omega)).symm⟩)
  refine nilL ⟨h.lg, A.j.at 3 rfl, ni (o := 3), ?_⟩
  refine (A.l.rd lgC_len).idx (by omega) (by omega) (fun p x hp hx ha => ⟨x, ha, ?_, ?_⟩)
  · have := A.l.lt ⟨p, hp, rfl⟩
    simp [add_block]; omega
  · exact Reb.A T Anc.start (fun w1 T t => ⟨T.t, (atV_in (by omega) hx).symm⟩)

theorem journal_TermAt_spec (A : JAt t_journal_Journal t_disk_Disk w h M) (i : Int) : Spec PP n_journal_Journal_TermAt [.pointer (some ⟨h.bj, 0, none⟩), .int .i64 i] w noB (fun v _ => v = .int .i64 (atM M.J.log i).1.Term) := by
  refine journal_Journal_TermAt_calls (some ⟨h.bj, 0, none⟩) i _ w ?_
  unfold F_journal_Journal_TermAt
  have T : Now noB w w := Now.refl
  refine CallL.vA T Anc.nil (fun wa T _ => journal_At_spec (A.now T) i) (fun w1 T t => ⟨_, _, rfl, ?_⟩)
  intro b5 hb5
  exact Reb.A T Anc.start (fun w1 T t => ⟨T.t, rfl⟩)

theorem journal_setTerm_spec (A : JAt t_journal_Journal t_disk_Disk w h M) (t v : Int) : Spec PP n_journal_Journal_setTerm [.pointer (some ⟨h.bj, 0, none⟩), .int .i64 t, .int .i64 v] w h.on
    (fun r w' => r = .int .i64 (errR M.J (.st t v)) ∧ JP t_journal_Journal t_disk_Disk w h (apJ M (.st t v)) w') := by
  refine journal_Journal_setTerm_calls (some ⟨h.bj, 0, none⟩) t v _ w ?_
  unfold F_journal_Journal_setTerm
  have B := JN.start A
  refine B.reb offJ.nil (fun w1 B _ => ?_)
  unfold C_journal_Journal_setTerm_1
  have e1 : (t < 0 ∨ 1073741824 < t ∨ v < -1 ∨ 5 ≤ v) → errR M.J (.st t v) = 1 := fun hh => by simp only [errR]; rw [if_pos hh]
  have e20 : ¬ (t < 0 ∨ 1073741824 < t ∨ v < -1 ∨ 5 ≤ v) → (t < M.J.term ∨ (t = M.J.term ∧ M.J.vote ≠ -1 ∧ M.J.vote ≠ v)) → errR M.J (.st t v) = 20 := fun h1 hh => by simp only [errR]; rw [if_neg h1, if_pos hh]
  have e0 : ¬ (t < 0 ∨ 1073741824 < t ∨ v < -1 ∨ 5 ≤ v) → ¬ (t < M.J.term ∨ (t = M.J.term ∧ M.J.vote ≠ -1 ∧ M.J.vote ≠ v)) → errR M.J (.st t v) = 0 := fun h1 hh => by simp only [errR]; rw [if_neg h1, if_neg hh]
  have bad : ∀ {n : Int} {w' : World}, n ≠ 0 → errR M.J (.st t v) = n → JN t_journal_Journal t_disk_Disk w h w' h M → Reb w.heap.size w' [] ((fun (r : Value) w' => Touch h.on w w' ∧ (r = .int .i64 (errR M.J (.st t v)) ∧ JP t_journal_Journal t_disk_Disk w h (apJ M (.st t v)) w')) (Value.int .i64 n)) := by
    intro n w' hn he B
    have ha : apJ M (.st t v) = M := by unfold apJ; rw [if_neg (by rw [he]; exact hn)]
    rw [ha, he]
    exact B.fin offJ.nil
  have key2 : ∀ w', ¬ (t < 0 ∨ 1073741824 < t ∨ v < -1 ∨ 5 ≤ v) → ¬ (t < M.J.term ∨ (t = M.J.term ∧ M.J.vote ≠ -1 ∧ M.J.vote ≠ v)) → JN t_journal_Journal t_disk_Disk w h w' h M →
      C_journal_Journal_setTerm_2 w.heap.size (fun (r : Value) w' => Touch h.on w w' ∧ (r = .int .i64 (errR M.J (.st t v)) ∧ JP t_journal_Journal t_disk_Disk w h (apJ M (.st t v)) w')) (some ⟨h.bj, 0, none⟩) t v w' := by
    intro w' h1 h2 B
    unfold C_journal_Journal_setTerm_2
    refine nilL (B.put (h' := h) (M' := ⟨{ M.J with term := t }, M.b, M.d⟩) (o := 1) offJ.nil rfl rfl rfl rfl (by simp) rfl rfl B.A.l (fun b hb => .inl hb) (fun b hb => ⟨fun hd => B.A.n3 b hd hb, fun e => B.A.n2 (e ▸ hb), by simp [blk]⟩) (fun w2 B _ => ?_))
    refine nilL (B.put (h' := h) (M' := ⟨{ M.J with term := t, vote := v }, M.b, M.d⟩) (o := 2) offJ.nil rfl rfl rfl rfl (by simp) rfl rfl B.A.l (fun b hb => .inl hb) (fun b hb => ⟨fun hd => B.A.n3 b hd hb, fun e => B.A.n2 (e ▸ hb), by simp [blk]⟩) (fun w2 B _ => ?_))
    have ha : apJ M (.st t v) = ⟨{ M.J with term := t, vote := v }, M.b, M.d⟩ := by unfold apJ; rw [if_pos (e0 h1 h2)]; rfl
    rw [ha, e0 h1 h2]
    exact B.fin offJ.nil
  have key3 : ∀ (x : Bool) w', (x = true → t < 0 ∨ 1073741824 < t ∨ v < -1 ∨ 5 ≤ v) → (x = false → ¬ (t < 0 ∨ 1073741824 < t ∨ v < -1 ∨ 5 ≤ v)) → JN t_journal_Journal t_disk_Disk w h w' h M →
      C_journal_Journal_setTerm_3 w.heap.size (fun (r : Value) w' => Touch h.on w w' ∧ (r = .int .i64 (errR M.J (.st t v)) ∧ JP t_journal_Journal t_disk_Disk w h (apJ M (.st t v)) w')) (some ⟨h.bj, 0, none⟩) t v x w' := by
    intro x w' x1 x2 B
    unfold C_journal_Journal_setTerm_3
    refine ifb (fun hx => bad (by decide) (e1 (x1 hx)) B) (fun hx => ?_)
    have h1 := x2 hx
    refine nilL ⟨M.J.term, B.A.j.at 1 rfl, notIn_nil, ?_⟩
    refine ifbd (fun h2 => bad (by decide) (e20 h1 (.inl h2)) B) (fun h2 => ?_)
    refine nilL ⟨M.J.term, B.A.j.at 1 rfl, notIn_nil, ?_⟩
    refine ifbd (fun h3 => ?_) (fun h3 => ?_)
    · refine nilL ⟨M.J.vote, B.A.j.at 2 rfl, notIn_nil, ?_⟩
      refine ifbnd (fun h4 => ?_) (fun h4 => ?_)
      · refine nilL ⟨M.J.vote, B.A.j.at 2 rfl, notIn_nil, ?_⟩
        refine ifbnd (fun h5 => bad (by decide) (e20 h1 (.inr ⟨h3, h4, h5⟩)) B) (fun h5 => ?_)
        exact B.reb offJ.nil (fun w2 B _ => key2 _ h1 (by rintro (h | ⟨_, _, h⟩) <;> first | exact h2 h | exact h h5) B)
      · exact B.reb offJ.nil (fun w2 B _ => key2 _ h1 (by rintro (h | ⟨_, h, _⟩) <;> first | exact h2 h | exact h h4) B)
    · exact B.reb offJ.nil (fun w2 B _ => key2 _ h1 (by rintro (h | ⟨h, _⟩) <;> first | exact h2 h | exact h3 h) B)
  refine ifbd (fun h1 => B.reb offJ.nil (fun w2 B _ => key3 _ _ (fun _ => .inl h1) (fun h => by cases h) B)) (fun h1 => ?_)
  refine ifbd (fun h2 => B.reb offJ.nil (fun w2 B _ => key3 _ _ (fun _ => .inr (.inl h2)) (fun h => by cases h) B)) (fun h2 => ?_)
  refine ifbd (fun h3 => B.reb offJ.nil (fun w2 B _ => key3 _ _ (fun _ => .inr (.inr (.inl h3))) (fun h => by cases h) B)) (fun h3 => ?_)
  exact B.reb offJ.nil (fun w2 B _ => key3 _ _ (fun h => .inr (.inr (.inr (of_decide_eq_true h)))) (fun h => by have := of_decide_eq_false h; omega) B)
end

section
variable {w : World} {h : JH} {M : JM}
theorem ref08_At_spec (A : JAt t_cellplaneref08_Journal t_cellplaneref07_Disk w h M) (i : Int) : Spec PP n_cellplaneref08_Journal_At [.pointer (some ⟨h.bj, 0, none⟩), .int .i64 i] w noB (fun v _ => v = atV M.J.log i) := by
  refine cellplaneref08_Journal_At_calls (some ⟨h.bj, 0, none⟩) i _ w ?_
  unfold F_cellplaneref08_Journal_At
  have T : Now noB w w := Now.refl
  have hn := A.l.1
  intro b1 hb1
  have ni : ∀ {o : Nat} {cs : List Value} {ty : TypeId}, NotIn (⟨h.bj, o, none⟩ : Addr).block [⟨b1, cs, ty⟩] := by
    intro o cs ty; have := A.j.lt; simp; omega
  refine ifbd (fun h0 => ?_) (fun h0 => ?_)
  · exact Reb.A T Anc.start (fun w1 T t => ⟨T.t, (atV_neg h0).symm⟩)
  refine nilL ⟨h.lg, A.j.at 3 rfl, ni (o := 3), ?_⟩
  refine ifbd (fun h1 => ?_) (fun h1 => ?_)
  · exact Reb.A T Anc.start (fun w1 T t => ⟨T.t, (atV_out (by omega)).symm⟩)
  refine nilL ⟨h.lg, A.j.at 3 rfl, ni (o := 3), ?_⟩
  refine (A.l.rd lgC_len).idx (by omega) (by omega) (fun p x hp hx ha => ⟨x, ha, ?_, ?_⟩)
  · have := A.l.lt ⟨p, hp, rfl⟩
    simp [add_block]; omega
  · exact Reb.A T Anc.start (fun w1 T t => ⟨T.t, (atV_in (by omega) hx).symm⟩)

theorem ref08_TermAt_spec (A : JAt t_cellplaneref08_Journal t_cellplaneref07_Disk w h M) (i : Int) : Spec PP n_cellplaneref08_Journal_TermAt [.pointer (some ⟨h.bj, 0, none⟩), .int .i64 i] w noB (fun v _ => v = .int .i64 (atM M.J.log i).1.Term) := by
  refine cellplaneref08_Journal_TermAt_calls (some ⟨h.bj, 0, none⟩) i _ w ?_
  unfold F_cellplaneref08_Journal_TermAt
  have T : Now noB w w := Now.refl
  refine CallL.vA T Anc.nil (fun wa T _ => ref08_At_spec (A.now T) i) (fun w1 T t => ⟨_, _, rfl, ?_⟩)
  intro b5 hb5
  exact Reb.A T Anc.start (fun w1 T t => ⟨T.t, rfl⟩)

theorem ref08_setTerm_spec (A : JAt t_cellplaneref08_Journal t_cellplaneref07_Disk w h M) (t v : Int) : Spec PP n_cellplaneref08_Journal_setTerm [.pointer (some ⟨h.bj, 0, none⟩), .int .i64 t, .int .i64 v] w h.on
    (fun r w' => r = .int .i64 (errR M.J (.st t v)) ∧ JP t_cellplaneref08_Journal t_cellplaneref07_Disk w h (apJ M (.st t v)) w') := by
  refine cellplaneref08_Journal_setTerm_calls (some ⟨h.bj, 0, none⟩) t v _ w ?_
  unfold F_cellplaneref08_Journal_setTerm
  have B := JN.start A
  refine B.reb offJ.nil (fun w1 B _ => ?_)
  unfold C_cellplaneref08_Journal_setTerm_1
  have e1 : (t < 0 ∨ 1073741824 < t ∨ v < -1 ∨ 5 ≤ v) → errR M.J (.st t v) = 1 := fun hh => by simp only [errR]; rw [if_pos hh]
  have e20 : ¬ (t < 0 ∨ 1073741824 < t ∨ v < -1 ∨ 5 ≤ v) → (t < M.J.term ∨ (t = M.J.term ∧ M.J.vote ≠ -1 ∧ M.J.vote ≠ v)) → errR M.J (.st t v) = 20 := fun h1 hh => by simp only [errR]; rw [if_neg h1, if_pos hh]
  have e0 : ¬ (t < 0 ∨ 1073741824 < t ∨ v < -1 ∨ 5 ≤ v) → ¬ (t < M.J.term ∨ (t = M.J.term ∧ M.J.vote ≠ -1 ∧ M.J.vote ≠ v)) → errR M.J (.st t v) = 0 := fun h1 hh => by simp only [errR]; rw [if_neg h1, if_neg hh]
  have bad : ∀ {n : Int} {w' : World}, n ≠ 0 → errR M.J (.st t v) = n → JN t_cellplaneref08_Journal t_cellplaneref07_Disk w h w' h M → Reb w.heap.size w' [] ((fun (r : Value) w' => Touch h.on w w' ∧ (r = .int .i64 (errR M.J (.st t v)) ∧ JP t_cellplaneref08_Journal t_cellplaneref07_Disk w h (apJ M (.st t v)) w')) (Value.int .i64 n)) := by
    intro n w' hn he B
    have ha : apJ M (.st t v) = M := by unfold apJ; rw [if_neg (by rw [he]; exact hn)]
    rw [ha, he]
    exact B.fin offJ.nil
  have key2 : ∀ w', ¬ (t < 0 ∨ 1073741824 < t ∨ v < -1 ∨ 5 ≤ v) → ¬ (t < M.J.term ∨ (t = M.J.term ∧ M.J.vote ≠ -1 ∧ M.J.vote ≠ v)) → JN t_cellplaneref08_Journal t_cellplaneref07_Disk w h w' h M →
      C_cellplaneref08_Journal_setTerm_2 w.heap.size (fun (r : Value) w' => Touch h.on w w' ∧ (r = .int .i64 (errR M.J (.st t v)) ∧ JP t_cellplaneref08_Journal t_cellplaneref07_Disk w h (apJ M (.st t v)) w')) (some ⟨h.bj, 0, none⟩) t v w' := by
    intro w' h1 h2 B
    unfold C_cellplaneref08_Journal_setTerm_2
    refine nilL (B.put (h' := h) (M' := ⟨{ M.J with term := t }, M.b, M.d⟩) (o := 1) offJ.nil rfl rfl rfl rfl (by simp) rfl rfl B.A.l (fun b hb => .inl hb) (fun b hb => ⟨fun hd => B.A.n3 b hd hb, fun e => B.A.n2 (e ▸ hb), by simp [blk]⟩) (fun w2 B _ => ?_))
    refine nilL (B.put (h' := h) (M' := ⟨{ M.J with term := t, vote := v }, M.b, M.d⟩) (o := 2) offJ.nil rfl rfl rfl rfl (by simp) rfl rfl B.A.l (fun b hb => .inl hb) (fun b hb => ⟨fun hd => B.A.n3 b hd hb, fun e => B.A.n2 (e ▸ hb), by simp [blk]⟩) (fun w2 B _ => ?_))
    have ha : apJ M (.st t v) = ⟨{ M.J with term := t, vote := v }, M.b, M.d⟩ := by unfold apJ; rw [if_pos (e0 h1 h2)]; rfl
    rw [ha, e0 h1 h2]
    exact B.fin offJ.nil
  have key3 : ∀ (x : Bool) w', (x = true → t < 0 ∨ 1073741824 < t ∨ v < -1 ∨ 5 ≤ v) → (x = false → ¬ (t < 0 ∨ 1073741824 < t ∨ v < -1 ∨ 5 ≤ v)) → JN t_cellplaneref08_Journal t_cellplaneref07_Disk w h w' h M →
      C_cellplaneref08_Journal_setTerm_3 w.heap.size (fun (r : Value) w' => Touch h.on w w' ∧ (r = .int .i64 (errR M.J (.st t v)) ∧ JP t_cellplaneref08_Journal t_cellplaneref07_Disk w h (apJ M (.st t v)) w')) (some ⟨h.bj, 0, none⟩) t v x w' := by
    intro x w' x1 x2 B
    unfold C_cellplaneref08_Journal_setTerm_3
    refine ifb (fun hx => bad (by decide) (e1 (x1 hx)) B) (fun hx => ?_)
    have h1 := x2 hx
    refine nilL ⟨M.J.term, B.A.j.at 1 rfl, notIn_nil, ?_⟩
    refine ifbd (fun h2 => bad (by decide) (e20 h1 (.inl h2)) B) (fun h2 => ?_)
    refine nilL ⟨M.J.term, B.A.j.at 1 rfl, notIn_nil, ?_⟩
    refine ifbd (fun h3 => ?_) (fun h3 => ?_)
    · refine nilL ⟨M.J.vote, B.A.j.at 2 rfl, notIn_nil, ?_⟩
      refine ifbnd (fun h4 => ?_) (fun h4 => ?_)
      · refine nilL ⟨M.J.vote, B.A.j.at 2 rfl, notIn_nil, ?_⟩
        refine ifbnd (fun h5 => bad (by decide) (e20 h1 (.inr ⟨h3, h4, h5⟩)) B) (fun h5 => ?_)
        exact B.reb offJ.nil (fun w2 B _ => key2 _ h1 (by rintro (h | ⟨_, _, h⟩) <;> first | exact h2 h | exact h h5) B)
      · exact B.reb offJ.nil (fun w2 B _ => key2 _ h1 (by rintro (h | ⟨_, h, _⟩) <;> first | exact h2 h | exact h h4) B)
    · exact B.reb offJ.nil (fun w2 B _ => key2 _ h1 (by rintro (h | ⟨h, _⟩) <;> first | exact h2 h | exact h3 h) B)
  refine ifbd (fun h1 => B.reb offJ.nil (fun w2 B _ => key3 _ _ (fun _ => .inl h1) (fun h => by cases h) B)) (fun h1 => ?_)
  refine ifbd (fun h2 => B.reb offJ.nil (fun w2 B _ => key3 _ _ (fun _ => .inr (.inl h2)) (fun h => by cases h) B)) (fun h2 => ?_)
  refine ifbd (fun h3 => B.reb offJ.nil (fun w2 B _ => key3 _ _ (fun _ => .inr (.inr (.inl h3))) (fun h => by cases h) B)) (fun h3 => ?_)
  exact B.reb offJ.nil (fun w2 B _ => key3 _ _ (fun h => .inr (.inr (.inr (of_decide_eq_true h)))) (fun h => by have := of_decide_eq_false h; omega) B)
end

end Go.Sh
