/- JournalOpens, the walk.
   Conditions: none. -/
import Derived.Test.YtoenaheehpjmiaaU20
namespace Go.Sh
open Go
set_option linter.unusedSimpArgs false
set_option linter.unusedVariables false
set_option maxHeartbeats 4000000

theorem Blk.rdS {w : World} {b n T : Nat} {xs : List Sl} (h : Blk w b (xs.flatMap slC) T) (hn : xs.length = n) : Rd slC 1 w ⟨some ⟨b, 0, none⟩, n, n⟩ xs := by
  refine ⟨hn, fun h => (by cases h), fun p hp i x hi => ?_⟩
  cases hp
  rw [add_plain]
  have := Blk.elem (c := slC) (k := 1) (fun _ => rfl) (pre := []) (post := []) (w := w) (b := b) (T := T) (xs := xs) (by simpa using h) hi
  simpa using this

/-- slices of bytes that are opened one after the other -/
structure X5 (w : World) (X : Sl) (sls : List Sl) : Prop where
  r : Rd slC 1 w X sls
  e : ∀ s ∈ sls, ∃ bs, Rd byteC 1 w s bs ∧ (s.a = none → s.c = 0) ∧ (∀ b, s.on b → b < w.heap.size) ∧ bs.length ≤ 100000
theorem X5.tr {w w' : World} {X : Sl} {sls : List Sl} {S : Nat → Prop} (A : X5 w X sls) (t : Touch S w w') (hS : ∀ b, ¬ S b) : X5 w' X sls := by
  refine ⟨A.r.tr t (fun b _ => hS b), fun s hs => ?_⟩
  obtain ⟨bs, h1, h2, h3, h4⟩ := A.e s hs
  exact ⟨bs, h1.tr t (fun b _ => hS b), h2, fun b hb => by have := h3 b hb; have := t.size; omega, h4⟩

theorem opens_loop {w0 w : World} {X : Sl} {sls : List Sl} (T : Now noB w0 w) (A : X5 w X sls) (hn : sls.length ≤ 5) :
    C_cellplanelaw08_JournalOpens_8 w0.heap.size (fun v w' => Touch noB w0 w' ∧ v = .bool true) X w := by
  unfold C_cellplanelaw08_JournalOpens_8
  have hX := A.r.1
  refine Reb.A T Anc.nil (fun w1 T t => ?_)
  replace A := A.tr t (by simp [blk])
  unfold C_cellplanelaw08_JournalOpens_10
  refine LoopC.mk (fun y w' => ∃ i : Nat, y = (i : Int) ∧ i ≤ sls.length ∧ Now noB w0 w' ∧ X5 w' X sls) (fun y => sls.length - y.toNat) ?_ ?_
  · exact Reb.A T Anc.nil (fun w2 T t => ⟨0, rfl, by omega, T, A.tr t (by simp [blk])⟩)
  rintro y wa ⟨i, rfl, hi, T, A⟩
  unfold L_cellplanelaw08_JournalOpens_11 B_cellplanelaw08_JournalOpens_11
  refine ifbd (fun hlt => ?_) (fun hge => ?_)
  rotate_left
  · refine Reb.A T Anc.nil (fun w2 T t => ?_)
    unfold C_cellplanelaw08_JournalOpens_9
    refine CallL.vA T Anc.nil (fun wa _ _ => awake_spec wa) (fun w3 T t => ⟨_, rfl, ?_⟩)
    exact Reb.A T Anc.nil (fun w4 T t => ⟨T.t, rfl⟩)
  refine A.r.idx (by omega) (by omega) (fun p s hp hx ha => ⟨s, ha, notIn_nil, ?_⟩)
  simp only [Int.toNat_natCast] at hx
  have hsm := List.mem_of_getElem? hx
  obtain ⟨bs, h1, h2, h3, h4⟩ := A.e s hsm
  refine CallL.pA T Anc.nil (fun wb T t => journal_Open_spec (h1.tr t (by simp [blk])) h2 (by omega)) ?_
  rintro wb v w2 T t z1 z2 _ ⟨h, rfl, AJ, fh⟩
  replace A := A.tr t (by simp [blk])
  replace h1 := h1.tr t (by simp [blk])
  refine ⟨_, rfl, ifb (fun h => by simp at h) (fun _ => ?_)⟩
  refine A.r.idx (by omega) (by omega) (fun p s' hp hx' ha => ⟨s', ha, notIn_nil, ?_⟩)
  simp only [Int.toNat_natCast] at hx'
  obtain rfl : s = s' := Option.some.inj (hx.symm.trans hx')
  have z3 := t.size
  refine CallL.pA T Anc.nil (fun wb T t => ref08_Open_spec (h1.tr t (by simp [blk])) h2 (fun b hb => by have := h3 b hb; have := t.size; omega) (by omega)) ?_
  rintro wc v w3 T t z4 z5 _ ⟨g, rfl, AR, fg⟩
  replace A := A.tr t (by simp [blk])
  replace AJ := AJ.tr t (by simp [blk])
  refine ⟨_, rfl, ?_⟩
  have r1 := replay_le _ j0 bs (Nat.le_refl _)
  have r2 := replay_log _ j0 bs (Nat.le_refl _)
  have r3 : j0.log.length = 0 := rfl
  refine CallL.vA T Anc.nil (fun wd T t => same_spec (AJ.tr t (by simp [blk])) (AR.tr t (by simp [blk])) (by unfold readAll; simp only [List.length_take]; omega) (by unfold readAll; simp only; omega)) (fun w4 T t => ⟨_, rfl, ?_⟩)
  replace A := A.tr t (by simp [blk])
  refine ifbn (fun h => by cases h) (fun _ => ?_)
  refine Reb.A T Anc.nil (fun w5 T t => ⟨rfl, ⟨i + 1, ?_, by omega, T, A.tr t (by simp [blk])⟩, ?_⟩) <;> rw [wrap_i64 (by omega) (by omega)] <;> omega

theorem opens_tail {w0 w : World} {raw l57 : Sl} {rb bb : List UInt8} {bj k : Nat} {g : JH} {M : JM} (I : In byteC 1 (fun _ => True) w0 raw rb) (hrb : rb.length ≤ 300) (B : JS RJ RD w0 w bj g M) (bd : Bd M 50) (o57 : Own byteC 1 t_u8 w l57 bb) (hbb : bb.length = M.b.length)
    (f57 : ∀ b, l57.on b → w0.heap.size ≤ b ∧ ¬ g.on b) (hk : k ≤ M.b.length) :
    C_cellplanelaw08_JournalOpens_7 w0.heap.size (fun v w' => Touch noB w0 w' ∧ v = .bool true) raw (some ⟨bj, 0, none⟩) l57 (k : Int) w := by
  unfold C_cellplanelaw08_JournalOpens_7
  have hbl := bd.b
  have hgl := B.A.d.s.1
  have hgc := B.A.d.s.cap
  have hrl := I.rd.1
  obtain rfl := B.e
  refine nilL ⟨some ⟨g.bd, 0, none⟩, B.A.j.at 0 rfl, notIn_nil, nilL ⟨g.sl, B.A.d.c.at 0 rfl, notIn_nil, nilL ⟨some ⟨g.bd, 0, none⟩, B.A.j.at 0 rfl, notIn_nil, nilL ⟨g.sl, B.A.d.c.at 0 rfl, notIn_nil, by omega, by omega, nilL ⟨some ⟨g.bd, 0, none⟩, B.A.j.at 0 rfl, notIn_nil, nilL ⟨g.sl, B.A.d.c.at 0 rfl, notIn_nil, ?_⟩⟩⟩⟩⟩⟩
  refine NewL.A B.T Anc.nil (fun b32 w1 T1 t1 hb l1 => ?_)
  have hg32 : ¬ g.on b32 := fun hh => by have := B.A.lt hh; have := l1.2.1; omega
  have h57 : ¬ l57.on b32 := fun hh => by have := o57.lt hh; have := l1.2.1; omega
  have z0 := B.T.t.size
  replace B := B.keep T1 t1 (by simp [blk])
  replace o57 := o57.tr t1 (by simp [blk])
  refine copyB T1 hb l1.1 (B.A.d.s.rd byteC_len) hgc.2 (by omega) (fun l34 w2 T2 t2 o34 f34 => ⟨l34, rfl, ?_⟩)
  have n34 : ∀ b, l34.on b → w0.heap.size ≤ b ∧ ¬ g.on b ∧ ¬ l57.on b := by
    intro b hb
    rcases f34 b hb with e | e
    · exact ⟨by have := l1.1; omega, fun hh => hg32 (e ▸ hh), fun hh => h57 (e ▸ hh)⟩
    · exact ⟨by have := t1.size; omega, fun hh => by have := B.A.lt hh; omega, fun hh => by have := o57.lt hh; omega⟩
  replace B := B.keep T2 t2 (fun b hb => hb ▸ hg32)
  replace o57 := o57.tr t2 (fun b hb e => h57 (e ▸ hb))
  refine ⟨B.A.d.c.at 0 rfl, B.A.j.at 0 rfl, B.A.d.c.at 0 rfl, B.A.j.at 0 rfl, ?_⟩
  have hr2 : Rd byteC 1 w2 raw rb := I.rd.tr T2.t (by simp [noB])
  have ho34 := o34.1
  refine RunL.appA T2 Anc.nil el_sl_u8.t (by decide) byteC_len byteC_one o34 (q := raw.a) (m := raw.n) (cap := raw.c) hr2 I.capn (by omega) (fun b hlt hb => by have := (n34 b hb).1; omega) (by simp [blk]) (by simp [blk]) (fun l37 w3 T3 t3 o37 f37 _ => ⟨l37, rfl, ?_⟩)
  replace B := B.keep T3 t3 (fun b hb => hb.elim (fun hb => by simp [blk] at hb) (fun hb => (n34 b hb).2.1))
  replace o57 := o57.tr t3 (fun b hb hh => hh.elim (fun hh => by simp [blk] at hh) (fun hh => (n34 b hh).2.2 hb))
  refine ⟨B.A.d.c.at 0 rfl, B.A.j.at 0 rfl, B.A.d.c.at 0 rfl, B.A.j.at 0 rfl, ?_⟩
  refine NewL.A T3 Anc.nil (fun b40 w4 T4 t4 hb40 l4 => ?_)
  replace B := B.keep T4 t4 (by simp [blk])
  replace o57 := o57.tr t4 (by simp [blk])
  replace o37 := o37.tr t4 (by simp [blk])
  have z4 := T4.t.size
  have hX : X5 w4 ⟨some ⟨b40, 0, none⟩, 5, 5⟩ [raw, g.sl, l57, ⟨g.sl.a, k, g.sl.c⟩, l37] := by
    refine ⟨Blk.rdS (xs := [raw, g.sl, l57, ⟨g.sl.a, k, g.sl.c⟩, l37]) hb40 rfl, fun s hs => ?_⟩
    simp only [List.mem_cons, List.not_mem_nil, or_false] at hs
    rcases hs with rfl | rfl | rfl | rfl | rfl
    · exact ⟨rb, I.rd.tr T4.t (by simp [noB]), I.capn, fun b hb => by have := I.lt b hb; omega, by omega⟩
    · exact ⟨M.b, B.A.d.s.rd byteC_len, hgc.2, fun b hb => B.A.d.s.lt hb, by omega⟩
    · exact ⟨bb, o57.rd byteC_len, o57.cap.2, fun b hb => o57.lt hb, by omega⟩
    · exact ⟨M.b.take k, (B.A.d.s.rd byteC_len).take hk, hgc.2, fun b hb => B.A.d.s.lt (s := g.sl) hb, by rw [List.length_take]; omega⟩
    · exact ⟨M.b ++ rb, o37.rd byteC_len, o37.cap.2, fun b hb => o37.lt hb, by rw [List.length_append]; omega⟩
  exact Reb.A T4 Anc.nil (fun w5 T t => opens_loop T (hX.tr t (by simp [blk])) (by simp))

theorem JournalOpens_spec {w : World} {l raw : Sl} {xs : List G_cellplanelaw08_Act} {rb : List UInt8} (I : In actC 3 actOk w l xs) (I2 : In byteC 1 (fun _ => True) w raw rb) (at_ by_ : Int) (hby : 0 ≤ by_ ∧ by_ ≤ 255) :
    Spec PP n_cellplanelaw08_JournalOpens [.slice l.a l.n l.c, .slice raw.a raw.n raw.c, .int .i64 at_, .int .u8 by_] w noB (fun v _ => v = .bool true) := by
  refine cellplanelaw08_JournalOpens_calls l raw at_ by_ _ w ?_
  unfold F_cellplanelaw08_JournalOpens
  have hln := I.rd.1
  have hrn := I2.rd.1
  have hR : ∀ {w'}, Now noB w w' → Rd actC 3 w' l xs := fun T => I.rd.tr T.t (by simp [noB])
  refine Reb.A (Now.refl (S := noB)) Anc.nil (fun w1 T t => ?_)
  unfold C_cellplanelaw08_JournalOpens_1
  refine ref08_new T (fun g1 w2 B t2 f2 => ⟨_, rfl, ?_⟩)
  refine B.reb offJ.nil (fun w3 B _ => ?_)
  unfold C_cellplanelaw08_JournalOpens_2
  have aw : ∀ {w' : World}, Now noB w w' → CallL PP w.heap.size w' [] n_cellplanelaw08_awake [] fun r2 w3 => ∃ b1 : Bool, r2 = (.bool b1) ∧ Reb w.heap.size w3 [] ((fun (v : Value) w' => Touch noB w w' ∧ v = .bool true) (.bool b1)) := by
    intro w' T
    refine CallL.vA T Anc.nil (fun wa _ _ => awake_spec wa) (fun w3 T t => ⟨_, rfl, ?_⟩)
    exact Reb.A T Anc.nil (fun w4 T t => ⟨T.t, rfl⟩)
  refine ifbd (fun _ => aw B.T) (fun h50 => ifbd (fun _ => aw B.T) (fun h300 => ?_))
  refine B.reb offJ.nil (fun w3 B _ => ?_)
  unfold C_cellplanelaw08_JournalOpens_3
  refine B.reb offJ.nil (fun w3 B _ => ?_)
  unfold C_cellplanelaw08_JournalOpens_12
  refine LoopC.mk (fun y w' => ∃ (i : Nat) (g : JH) (M : JM), y = (i : Int) ∧ i ≤ xs.length ∧ JS RJ RD w w' g1.bj g M ∧ Bd M i ∧ TB M.J) (fun y => xs.length - y.toNat) ?_ ?_
  · exact B.reb offJ.nil (fun w2 B _ => ⟨0, g1, jm0, rfl, by omega, B, Bd.new, TB.j0⟩)
  rintro y wa ⟨i, g, M, rfl, hi, B, bd, tb⟩
  unfold L_cellplanelaw08_JournalOpens_13 B_cellplanelaw08_JournalOpens_13
  simp only
  have hlg := bd.l
  have hbl := bd.b
  have atT : ∀ {w'}, JS RJ RD w w' g1.bj g M → At w' (addA ⟨g1.bj, 0, none⟩ 1) [.int .i64 M.J.term] := fun B => by
    have e := B.e
    rw [← e]
    exact B.A.j.at 1 rfl
  have next : ∀ {w' : World} {g' : JH} {M' : JM}, i < xs.length → JS RJ RD w w' g1.bj g' M' → Bd M' (i + 1) → TB M'.J → True ∧ (∃ (i' : Nat) (g : JH) (M : JM), IntKind.i64.wrap ((i : Int) + 1) = (i' : Int) ∧ i' ≤ xs.length ∧ JS RJ RD w w' g1.bj g M ∧ Bd M i' ∧ TB M.J) ∧ xs.length - (IntKind.i64.wrap ((i : Int) + 1)).toNat < xs.length - (i : Int).toNat := by
    intro w' g' M' hlt B bd tb
    rw [wrap_i64 (by omega) (by omega)]
    exact ⟨trivial, ⟨i + 1, g', M', by simp, by omega, B, bd, tb⟩, by omega⟩
  refine ifbd (fun hlt => ?_) (fun hge => ?_)
  · refine (hR B.T).idx (by omega) (by omega) (fun p x hp hx ha => ⟨x.Which, ha.take 1 rfl, notIn_nil, ?_⟩)
    refine B.v offJ.nil (fun wa _ _ => make_Mod_spec (v := x.Which) (n := 3) (by decide) (by decide) wa) (fun w2 B _ => ⟨_, rfl, ?_⟩)
    refine ifbd (fun _ => ?_) (fun _ => ifbd (fun _ => ?_) (fun _ => ?_))
    · refine nilL ⟨_, atT B, notIn_nil, ?_⟩
      refine (hR B.T).idx (by omega) (by omega) (fun p x hp hx ha => ⟨x.A, ha.part 1 1 rfl, notIn_nil, ?_⟩)
      refine B.v offJ.nil (fun wa _ _ => make_Between_spec (v := x.A) (a := -1) (b := 4) (by omega) (by omega) (by omega) wa) (fun w4 B t => ⟨_, rfl, atT B, ?_⟩)
      refine B.op offJ.nil (fun wa A _ => ref08_SetTerm_spec A (IntKind.i64.wrap (M.J.term + 1)) (betM x.A (-1) 4) (by omega) (by omega)) (fun h2 w6 B _ _ _ => ⟨_, rfl, ?_⟩)
      exact B.reb offJ.nil (fun w7 B _ => next (by omega) B (bd.op (by omega)) tb.op)
    · refine nilL ⟨_, atT B, notIn_nil, ?_⟩
      refine (hR B.T).idx (by omega) (by omega) (fun p x hp hx ha => ⟨x.B, ha.part 2 1 rfl, notIn_nil, ?_⟩)
      refine B.v offJ.nil (fun wa _ _ => note_spec x.B wa) (fun w4 B t => ⟨_, rfl, atT B, ?_⟩)
      refine B.op offJ.nil (fun wa A _ => ref08_Append_spec A M.J.term (noteE x.B) (noteE_I x.B) (by omega) (by omega)) (fun h2 w6 B _ _ _ => ⟨_, rfl, ?_⟩)
      exact B.reb offJ.nil (fun w7 B _ => next (by omega) B (bd.op (by omega)) tb.op)
    · refine (hR B.T).idx (by omega) (by omega) (fun p x hp hx ha => ⟨x.A, ha.part 1 1 rfl, notIn_nil, ?_⟩)
      have hgl := B.A.l.1
      refine nilL ⟨g.lg, ?_, notIn_nil, ?_⟩
      · have e := B.e
        rw [← e]
        exact B.A.j.at 3 rfl
      rw [wrap_i64 (x := ((g.lg.n : Nat) : Int) + 1) (by omega) (by omega)]
      refine B.v offJ.nil (fun wa _ _ => make_Mod_spec (v := x.A) (n := ((g.lg.n : Nat) : Int) + 1) (by omega) (by omega) wa) (fun w4 B t => ⟨_, rfl, ?_⟩)
      refine B.op offJ.nil (fun wa A _ => ref08_Cut_spec A (modM x.A (((g.lg.n : Nat) : Int) + 1)) (by omega) (by omega)) (fun h2 w6 B _ _ _ => ⟨_, rfl, ?_⟩)
      exact B.reb offJ.nil (fun w7 B _ => next (by omega) B (bd.op (by omega)) tb.op)
  -- the journal is made
  refine B.reb offJ.nil (fun w3 B _ => ?_)
  unfold C_cellplanelaw08_JournalOpens_4
  refine NewL.A B.T Anc.nil (fun b51 w4 T4 t4 hb51 l4 => ?_)
  have hg51 : ¬ g.on b51 := fun hh => by have := B.A.lt hh; have := l4.2.1; omega
  replace B := B.keep T4 t4 (by simp [blk])
  refine nilL ⟨some ⟨g.bd, 0, none⟩, ?_, notIn_nil, nilL ⟨g.sl, B.A.d.c.at 0 rfl, notIn_nil, ?_⟩⟩
  · have e := B.e
    rw [← e]
    exact B.A.j.at 0 rfl
  refine copyB T4 hb51 l4.1 (B.A.d.s.rd byteC_len) B.A.d.s.cap.2 (by omega) (fun b w5 T5 t5 o f => ⟨b, rfl, ?_⟩)
  have fb : ∀ c, b.on c → w.heap.size ≤ c ∧ ¬ g.on c := by
    intro c hc
    rcases f c hc with e | e
    · exact ⟨by have := l4.1; omega, fun hh => hg51 (e ▸ hh)⟩
    · exact ⟨by have := T4.t.size; omega, fun hh => by have := B.A.lt hh; omega⟩
  replace B := B.keep T5 t5 (fun c hc => hc ▸ hg51)
  have ho := o.1
  refine B.reb offJ.nil (fun w6 B t => ?_)
  replace o := o.tr t (by simp [blk])
  unfold C_cellplanelaw08_JournalOpens_5
  refine B.reb offJ.nil (fun w7 B t => ?_)
  replace o := o.tr t (by simp [blk])
  unfold C_cellplanelaw08_JournalOpens_6
  refine ifbd (fun h0 => ?_) (fun h0 => ?_)
  rotate_left
  · refine B.reb offJ.nil (fun w8 B t => ?_)
    exact opens_tail (k := 0) I2 (by omega) B (bd.up (by omega)) (o.tr t (by simp [blk])) rfl fb (by omega)
  refine B.v offJ.nil (fun wa _ _ => make_Mod_spec (v := at_) (n := ((b.n : Nat) : Int)) (by omega) (by omega) wa) (fun w8 B t => ⟨_, rfl, ?_⟩)
  replace o := o.tr t (by simp [blk])
  have hm := modM_range (v := at_) (n := ((b.n : Nat) : Int)) (by omega)
  generalize modM at_ ((b.n : Nat) : Int) = k' at hm
  obtain ⟨k, rfl⟩ : ∃ k : Nat, k' = (k : Int) := ⟨k'.toNat, by omega⟩
  obtain ⟨p, hp, hroom, hblk, o2⟩ := o.set byteC_len (i := k) (by omega) (UInt8.ofNat by_.toNat)
  have hbv : byteC (UInt8.ofNat by_.toNat) = [.int .u8 by_] := by
    show [Value.int .u8 (((UInt8.ofNat by_.toNat).toNat : Nat) : Int)] = _
    rw [UInt8.toNat_ofNat']
    congr 2
    omega
  rw [hbv] at o2 hroom
  refine idxL hp (by omega) (by omega) ?_
  have hpon : b.on p.block := ⟨p, hp, rfl⟩
  rw [Int.toNat_natCast]
  refine ⟨hroom, notIn_nil, ?_⟩
  have tp := (Touch.refl (fun c => c = p.block) w8).putC (p := p.add (k * 1)) (cs := [.int .u8 by_]) (fun _ => hblk)
  have T9 : Now noB w (putC w8 (p.add (k * 1)) [.int .u8 by_]) := B.T.putC (p := p.add (k * 1)) (cs := [.int .u8 by_]) (fun hlt => by rw [hblk] at hlt; have := (fb _ hpon).1; omega)
  replace B := B.keep T9 tp (fun c hc => hc ▸ (fb _ hpon).2)
  refine B.reb offJ.nil (fun w10 B t => ?_)
  exact opens_tail I2 (by omega) B (bd.up (by omega)) (o2.tr t (by simp [blk])) (by rw [List.length_set]) fb (by omega)

theorem bu8 {n : Int} (h : (Lit.int .u8 n).wf = true) : 0 ≤ n ∧ n ≤ 255 := by
  simpa [Lit.wf, IntKind.min, IntKind.max, IntKind.signed, IntKind.bits] using h

end Go.Sh
