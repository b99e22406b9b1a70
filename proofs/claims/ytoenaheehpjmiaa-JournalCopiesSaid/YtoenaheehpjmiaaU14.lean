/- JournalCopies, the walk.
   Conditions: none. -/
import Derived.Test.YtoenaheehpjmiaaU13
namespace Go.Sh
open Go
set_option linter.unusedSimpArgs false
set_option linter.unusedVariables false
set_option maxHeartbeats 4000000

/-- a journal and its copy, and its bytes of old -/
structure CI (w0 w : World) (bj bi : Nat) (h : JH) (M : JM) (sb : Sl) (hi : JH) (Mi : JM) (c : Nat) : Prop where
  J : JS t_journal_Journal t_disk_Disk w0 w bj h M
  I : JS t_journal_Journal t_disk_Disk w0 w bi hi Mi
  bd : Bd Mi c
  d : ∀ b, hi.on b → ¬ h.on b
  o : Own byteC 1 t_u8 w sb M.b
  f : ∀ b, sb.on b → ¬ hi.on b
section
variable {w0 w : World} {bj bi : Nat} {h hi : JH} {M Mi M' : JM} {sb : Sl} {c c' : Nat}
theorem CI.keep {w' : World} (C : CI w0 w bj bi h M sb hi Mi c) (I : JS t_journal_Journal t_disk_Disk w0 w' bi hi Mi) (t : Touch (fun b => b ∈ blk []) w w') : CI w0 w' bj bi h M sb hi Mi c :=
  ⟨C.J.keep I.T t (by simp [blk]), I, C.bd, C.d, C.o.tr t (by simp [blk]), C.f⟩
theorem CI.reb {K : World → Prop} (C : CI w0 w bj bi h M sb hi Mi c) (k : ∀ w', CI w0 w' bj bi h M sb hi Mi c → K w') : Reb w0.heap.size w [] K :=
  C.I.reb offJ.nil (fun w' I t => k w' (C.keep I t))
theorem CI.v {f : FuncId} {args : List Value} {R : Value → World → Prop} {m : Value} (C : CI w0 w bj bi h M sb hi Mi c)
    (hs : ∀ wa, CI w0 wa bj bi h M sb hi Mi c → Spec PP f args wa noB (fun v _ => v = m)) (k : ∀ w', CI w0 w' bj bi h M sb hi Mi c → Touch (fun b => b ∈ blk []) w w' → R m w') : CallL PP w0.heap.size w [] f args R :=
  C.I.v offJ.nil (fun wa I t => hs wa (C.keep I t)) (fun w' I t => k w' (C.keep I t) t)
theorem CI.get {f : FuncId} {args : List Value} {R : Value → World → Prop} {m : Value} (C : CI w0 w bj bi h M sb hi Mi c)
    (hs : ∀ wa, JAt t_journal_Journal t_disk_Disk wa hi Mi → Spec PP f (.pointer (some ⟨hi.bj, 0, none⟩) :: args) wa noB (fun v _ => v = m)) (k : ∀ w', CI w0 w' bj bi h M sb hi Mi c → Touch (fun b => b ∈ blk []) w w' → R m w') :
    CallL PP w0.heap.size w [] f (.pointer (some ⟨bi, 0, none⟩) :: args) R :=
  C.I.get offJ.nil hs (fun w' I t => k w' (C.keep I t) t)
theorem CI.op {f : FuncId} {args : List Value} {R : Value → World → Prop} {v0 : Value} (C : CI w0 w bj bi h M sb hi Mi c)
    (hs : ∀ wa, JAt t_journal_Journal t_disk_Disk wa hi Mi → Spec PP f (.pointer (some ⟨hi.bj, 0, none⟩) :: args) wa hi.on (fun v w' => v = v0 ∧ JP t_journal_Journal t_disk_Disk wa hi M' w')) (hb : Bd M' c')
    (k : ∀ hi' w', CI w0 w' bj bi h M sb hi' M' c' → R v0 w') : CallL PP w0.heap.size w [] f (.pointer (some ⟨bi, 0, none⟩) :: args) R := by
  have zj : ∀ b, h.on b → b < w.heap.size := fun b hb => C.J.A.lt hb
  have zs : ∀ b, sb.on b → b < w.heap.size := fun b hb => C.o.lt hb
  refine C.I.op offJ.nil (fun wa A _ => hs wa A) (fun hi' w' I hf _ t => k hi' w' ⟨C.J.keep I.T t (fun b hb => hb.elim (fun hb => by simp [blk] at hb) (C.d b)), I, hb, ?_, C.o.tr t (fun b hb hh => hh.elim (fun hh => by simp [blk] at hh) (C.f b hb)), ?_⟩)
  · intro b hb hh
    exact (hf b hb).elim (fun h1 => C.d b h1 hh) (fun h1 => by have := zj b hh; omega)
  · intro b hb hh
    exact (hf b hh).elim (C.f b hb) (fun h1 => by have := zs b hb; omega)
end

theorem copies_body {w0 w : World} {l s : Sl} {xs : List G_cellplanelaw08_Act} {bj bi q : Nat} {h hi : JH} {M Mi : JM} {sb : Sl} {c : Nat} (hr : Rd actC 3 w0 l xs) (hq : q ≤ 50) (hn : xs.length ≤ 50) (C : CI w0 w bj bi h M sb hi Mi c) (hc : c ≤ 31 + 3 * q)
    (hJ : M.J.term = 1 ∧ M.J.log.length = s.n) (hl : M.b.length ≤ 1000000)
    {K : (Sl × (Option Addr) × Sl × Sl × (Option Addr)) → Int → World → Prop} (hK : ∀ hi' Mi' w', CI w0 w' bj bi h M sb hi' Mi' (c + 3) → q < xs.length → K (l, some ⟨bj, 0, none⟩, s, sb, some ⟨bi, 0, none⟩) (((q + 1 : Nat) : Int)) w') :
    B_cellplanelaw08_JournalCopies_9 w0.heap.size K (fun v w' => Touch noB w0 w' ∧ v = .bool true) l (some ⟨bj, 0, none⟩) s sb (some ⟨bi, 0, none⟩) (q : Int) w := by
  have hln := hr.1
  have hR : ∀ {w'}, Now noB w0 w' → Rd actC 3 w' l xs := fun T => hr.tr T.t (by simp [noB])
  unfold B_cellplanelaw08_JournalCopies_9
  refine ifbd (fun h0 => ?_) (fun h0 => ?_)
  rotate_left
  · refine C.reb (fun w1 C => ?_)
    unfold C_cellplanelaw08_JournalCopies_7
    refine C.v (fun wa _ => awake_spec wa) (fun w2 C _ => ⟨_, rfl, ?_⟩)
    refine ifb (fun _ => ?_) (fun h => by cases h)
    obtain ⟨B, _, _, _, o, _⟩ := C
    refine B.get offJ.nil (fun wa A => journal_Len_spec A) (fun w3 B t => ⟨_, rfl, ?_⟩)
    replace o := o.tr t (by simp [blk])
    refine ifbd (fun _ => ?_) (fun h => absurd (by rw [hJ.2]) h)
    refine B.get offJ.nil (fun wa A => journal_Term_spec A) (fun w3 B t => ⟨_, rfl, ?_⟩)
    replace o := o.tr t (by simp [blk])
    refine ifbd (fun _ => ?_) (fun h => absurd hJ.1 h)
    have e := B.e
    rw [← e]
    refine nilL ⟨some ⟨h.bd, 0, none⟩, B.A.j.at 0 rfl, notIn_nil, ?_⟩
    refine B.p offJ.nil (fun wa B _ => disk_Bytes_spec B.A.d (by omega)) ?_
    rintro wa v w4 B t z ⟨s1, rfl, o1, f1⟩
    replace o := o.tr t (by simp [blk])
    refine ⟨s1, rfl, ?_⟩
    refine B.v offJ.nil (fun wa _ t => SameBytes_spec ((o1.rd byteC_len).tr t (by simp [blk])) ((o.rd byteC_len).tr t (by simp [blk]))) (fun w14 B t => ⟨_, rfl, ?_⟩)
    exact B.reb offJ.nil (fun w15 B t => ⟨B.T.t, by simp⟩)
  have hil : q < xs.length := by omega
  rw [wrap_i64 (x := (q : Int) + 1) (by omega) (by omega)]
  refine (hR C.J.T).idx (by omega) (by omega) (fun p x hp hx ha => ⟨x.A, ha.part 1 1 rfl, notIn_nil, ?_⟩)
  refine C.v (fun wa _ => make_Mod_spec (v := x.A) (n := 4) (by decide) (by decide) wa) (fun w2 C _ => ⟨_, rfl, ?_⟩)
  refine C.op (fun wa A => journal_SetTerm_spec A ((q : Int) + 1) (modM x.A 4) (by have := C.bd.l; omega) (by have := C.bd.b; omega)) (C.bd.op (by omega)) (fun h2 w3 C => ⟨_, rfl, ?_⟩)
  refine (hR C.J.T).idx (by omega) (by omega) (fun p x hp hx ha => ⟨x.B, ha.part 2 1 rfl, notIn_nil, ?_⟩)
  refine C.v (fun wa _ => note_spec x.B wa) (fun w4 C _ => ⟨_, rfl, ?_⟩)
  refine C.op (fun wa A => journal_Append_spec A ((q : Int) + 1) (noteE x.B) (noteE_I x.B) (by have := C.bd.l; omega) (by have := C.bd.b; omega)) (C.bd.op (by omega)) (fun h3 w5 C => ⟨_, rfl, ?_⟩)
  refine (hR C.J.T).idx (by omega) (by omega) (fun p x hp hx ha => ⟨x.A, ha.part 1 1 rfl, notIn_nil, ?_⟩)
  refine C.get (fun wa A => journal_Len_spec A) (fun w6 C t => ⟨_, rfl, (ha.touch t (by simp [blk])).part 1 1 rfl, ?_⟩)
  have hlg := C.bd.l
  generalize opM (opM Mi _) _ = M3 at C hlg
  rw [wrap_i64 (x := ((M3.J.log.length : Nat) : Int) + 1) (by omega) (by omega)]
  refine C.v (fun wa _ => make_Mod_spec (v := x.A) (n := ((M3.J.log.length : Nat) : Int) + 1) (by omega) (by omega) wa) (fun w7 C _ => ⟨_, rfl, ?_⟩)
  refine C.op (fun wa A => journal_Cut_spec A (modM x.A (((M3.J.log.length : Nat) : Int) + 1)) (by have := C.bd.l; omega) (by have := C.bd.b; omega)) (C.bd.op (by omega)) (fun h4 w8 C => ⟨_, rfl, ?_⟩)
  refine (hR C.J.T).idx (by omega) (by omega) (fun p x hp hx ha => ⟨x.B, ha.part 2 1 rfl, notIn_nil, ?_⟩)
  refine C.v (fun wa _ => make_Mod_spec (v := x.B) (n := 100) (by decide) (by decide) wa) (fun w9 C _ => ⟨_, rfl, ?_⟩)
  refine C.op (fun wa A => journal_Crash_spec A C.bd.d (by have := C.bd.b; omega) (modM x.B 100)) C.bd.crash (fun h5 w10 C => ⟨rfl, ?_⟩)
  refine C.reb (fun w11 C => ?_)
  rw [show ((q : Int) + 1) = ((q + 1 : Nat) : Int) by simp]
  exact hK h5 _ w11 C hil

theorem JournalCopies_spec {w : World} {l m : Sl} {ns : List Int} {xs : List G_cellplanelaw08_Act} (I : In intC' 1 (fun _ => True) w l ns) (I2 : In actC 3 actOk w m xs) : Spec PP n_cellplanelaw08_JournalCopies [.slice l.a l.n l.c, .slice m.a m.n m.c] w noB (fun v _ => v = .bool true) := by
  refine cellplanelaw08_JournalCopies_calls l m _ w ?_
  unfold F_cellplanelaw08_JournalCopies
  have hln := I2.rd.1
  refine Reb.A (Now.refl (S := noB)) Anc.nil (fun w1 T t => ?_)
  unfold C_cellplanelaw08_JournalCopies_1
  have z0 := T.t.size
  refine CallL.pA T Anc.nil (fun wa T _ => grown_spec (I.rd.tr T.t (by simp [noB])) 0) ?_
  rintro wa v w2 T t z1 z2 _ ⟨h, M, s, i, n, rfl, G, hi, h30⟩
  replace G := G.at T (by omega)
  refine ⟨_, s, _, rfl, ?_⟩
  refine G.reb (fun w3 G _ => ?_)
  unfold C_cellplanelaw08_JournalCopies_2
  refine ifb (fun h => by simp at h) (fun _ => ?_)
  refine G.reb (fun w4 G _ => ?_)
  unfold C_cellplanelaw08_JournalCopies_10
  have hJ := G.J hi (by omega)
  obtain ⟨B, bd, g, hn, hd, o, f⟩ := G
  have ho := o.1
  rw [outG_len hi] at ho
  have hlg : M.J.log.length = i := by rw [hJ]; exact outG_len hi
  refine ifbd (fun h50 => ?_) (fun h50 => ?_)
  · refine B.v offJ.nil (fun wa _ _ => awake_spec wa) (fun w3 B _ => ⟨_, rfl, ?_⟩)
    refine ifb (fun _ => ?_) (fun h => by cases h)
    exact B.reb offJ.nil (fun w2 B _ => ⟨B.T.t, rfl⟩)
  refine B.reb offJ.nil (fun w5 B _ => ?_)
  unfold C_cellplanelaw08_JournalCopies_3
  have hbl := bd.b
  refine nilL ⟨some ⟨h.bd, 0, none⟩, B.A.j.at 0 rfl, notIn_nil, ?_⟩
  have z5 := B.T.t.size
  refine B.p offJ.nil (fun wa B _ => disk_Bytes_spec B.A.d (by omega)) ?_
  rintro wa v w6 B t z ⟨sb, rfl, ob, fb⟩
  refine ⟨sb, rfl, ?_⟩
  refine B.reb offJ.nil (fun w7 B t => ?_)
  replace ob := ob.tr t (by simp [blk])
  unfold C_cellplanelaw08_JournalCopies_4
  have zh : ∀ b, h.on b → b < w7.heap.size := fun b hb => B.A.lt hb
  have zs : ∀ b, sb.on b → b < w7.heap.size := fun b hb => ob.lt hb
  have z7 := B.T.t.size
  refine B.p offJ.nil (fun wa B _ => journal_Copy_spec B.A (by omega) (by omega)) ?_
  rintro wb v w8 B t zz ⟨h2, rfl, A2, f2⟩
  replace ob := ob.tr t (by simp [blk])
  refine ⟨_, rfl, ?_⟩
  have B2 : JS t_journal_Journal t_disk_Disk w w8 h2.bj h2 M := ⟨B.T, A2, rfl, fun b hb => by have := f2 b hb; omega⟩
  have C : CI w w8 h.bj h2.bj h M sb h2 M 31 := ⟨B, B2, bd.up (by omega), fun b hb hh => by have := f2 b hb; have := zh b hh; omega, ob, fun b hb hh => by have := f2 b hh; have := zs b hb; omega⟩
  refine C.reb (fun w9 C => ?_)
  unfold C_cellplanelaw08_JournalCopies_5
  refine ifb (fun h => by simp at h) (fun _ => ?_)
  refine C.reb (fun w9 C => ?_)
  unfold C_cellplanelaw08_JournalCopies_6
  refine C.reb (fun w9 C => ?_)
  unfold C_cellplanelaw08_JournalCopies_8
  refine LoopC.mk (fun x w' => ∃ (q : Nat) (hi : JH) (Mi : JM), x = (q : Int) ∧ q ≤ xs.length ∧ CI w w' h.bj h2.bj h M sb hi Mi (31 + 3 * q)) (fun x => xs.length - x.toNat) ?_ ?_
  · exact C.reb (fun w2 C => ⟨0, h2, M, rfl, by omega, C⟩)
  rintro x wa ⟨q, hi, Mi, rfl, hq, C⟩
  unfold L_cellplanelaw08_JournalCopies_9
  simp only
  refine copies_body I2.rd (by omega) (by omega) C (by omega) ⟨by rw [hJ], by omega⟩ (by omega) (fun h2 M2 w2 C2 hlt => ⟨rfl, ⟨q + 1, h2, M2, rfl, by omega, C2⟩, by omega⟩)

end Go.Sh
