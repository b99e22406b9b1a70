/- grown; JournalKeeps, JournalReopens, the walks.
   Conditions: none. -/
import Derived.Test.YtoenaheehpjmiaaU10
namespace Go.Sh
open Go
set_option linter.unusedSimpArgs false
set_option linter.unusedVariables false
set_option maxHeartbeats 4000000

def outG (ns : List Int) (k : Nat) : List G_api_Logged := (ns.take k).map fun n => ⟨1, noteE n⟩
def rsG (ns : List Int) (k : Nat) : List Rec := .st 1 0 :: (ns.take k).map fun n => .ap 1 (noteE n)
theorem takeS {α : Type} {xs : List α} {i : Nat} {x : α} (h : xs[i]? = some x) : xs.take (i + 1) = xs.take i ++ [x] := by
  rw [List.take_add_one, h]; rfl
theorem outG_snoc {ns : List Int} {i : Nat} {x : Int} (h : ns[i]? = some x) : outG ns (i + 1) = outG ns i ++ [⟨1, noteE x⟩] := by
  unfold outG; rw [takeS h, List.map_append]; rfl
theorem rsG_snoc {ns : List Int} {i : Nat} {x : Int} (h : ns[i]? = some x) : rsG ns (i + 1) = rsG ns i ++ [.ap 1 (noteE x)] := by
  unfold rsG; rw [takeS h, List.map_append]; rfl
theorem outG_len {ns : List Int} {i : Nat} (h : i ≤ ns.length) : (outG ns i).length = i := by unfold outG; rw [List.length_map, List.length_take]; omega
theorem rsG_len {ns : List Int} {i : Nat} (h : i ≤ ns.length) : (rsG ns i).length = i + 1 := by unfold rsG; rw [List.length_cons, List.length_map, List.length_take]; omega
theorem rsG_take {ns : List Int} {i k : Nat} (h : k ≤ i) : (rsG ns i).take (k + 1) = rsG ns k := by
  unfold rsG; rw [List.take_succ_cons, ← List.map_take, List.take_take, Nat.min_eq_left h]
theorem outG_get {ns : List Int} {i k : Nat} (h : k < i) (hi : i ≤ ns.length) : ∃ x, (outG ns i)[k]? = some ⟨1, noteE x⟩ ∧ ns[k]? = some x := by
  refine ⟨ns[k]'(by omega), ?_, List.getElem?_eq_getElem (by omega)⟩
  unfold outG
  rw [List.getElem?_map, List.getElem?_take, if_pos h, List.getElem?_eq_getElem (by omega)]
  rfl
theorem outG_last {ns : List Int} {i : Nat} : lastT (outG ns i) ≤ 1 := by
  unfold lastT
  cases h : (outG ns i).getLast? with
  | none => simp
  | some x =>
    have hm := List.mem_of_getLast? h
    unfold outG at hm
    simp only [List.mem_map] at hm
    obtain ⟨_, _, rfl⟩ := hm
    simp
theorem errG {ns : List Int} {i : Nat} {x : Int} (hi : i ≤ ns.length) (h : i ≤ 4000) : errR ⟨1, 0, outG ns i⟩ (.ap 1 (noteE x)) = 0 := by
  have := outG_last (ns := ns) (i := i)
  simp only [errR]
  rw [if_neg (by simp [noteE_shape]), if_neg (by omega), if_neg (by rw [outG_len hi]; omega)]
theorem runG {ns : List Int} : ∀ i : Nat, i ≤ ns.length → i ≤ 4000 → RunR j0 (rsG ns i) ⟨1, 0, outG ns i⟩ := by
  intro i
  induction i with
  | zero => intro _ _; exact .cons ⟨by unfold okI; omega, by unfold okI; omega⟩ (by simp [errR, j0]) .nil
  | succ i ih =>
    intro h1 h2
    have hx := List.getElem?_eq_getElem (show i < ns.length by omega)
    rw [rsG_snoc hx, outG_snoc hx]
    have he := errG (ns := ns) (i := i) (x := ns[i]) (by omega) (by omega)
    exact (ih (by omega) (by omega)).snoc (errR_ok (by simp only; rw [outG_len (by omega)]; omega) he) he

/-- a grown journal: i entries, of which n are synced -/
structure GI (w0 w : World) (bj : Nat) (ns : List Int) (i n : Nat) (h : JH) (M : JM) (s : Sl) : Prop where
  B : JS t_journal_Journal t_disk_Disk w0 w bj h M
  bd : Bd M (i + 1)
  g : Good M (rsG ns i)
  le : n ≤ i
  d : (flatR (rsG ns n)).length ≤ M.d
  o : Own lgC 10 t_api_Logged w s (outG ns i)
  f : ∀ b, s.on b → w0.heap.size ≤ b ∧ ¬ h.on b
theorem GI.J {w0 w : World} {bj : Nat} {ns : List Int} {i n : Nat} {h : JH} {M : JM} {s : Sl} (G : GI w0 w bj ns i n h M s) (hi : i ≤ ns.length) (h4 : i ≤ 4000) : M.J = ⟨1, 0, outG ns i⟩ := G.g.run.det (runG i hi h4)
theorem GI.reb {w0 w : World} {bj : Nat} {ns : List Int} {i n : Nat} {h : JH} {M : JM} {s : Sl} {K : World → Prop} (G : GI w0 w bj ns i n h M s) (k : ∀ w', GI w0 w' bj ns i n h M s → Touch noB w w' → K w') : Reb w0.heap.size w [] K :=
  G.B.reb offJ.nil (fun w' B t => k w' ⟨B, G.bd, G.g, G.le, G.d, G.o.tr t (by simp [blk]), G.f⟩ (t.mono (fun _ _ h => by simp [blk] at h)))

def GP (w : World) (ns : List Int) (v : Value) (w' : World) : Prop :=
  ∃ (h : JH) (M : JM) (s : Sl) (i n : Nat), v = .tuple #[.pointer (some ⟨h.bj, 0, none⟩), .slice s.a s.n s.c, .int .i64 (n : Int)] ∧ GI w w' h.bj ns i n h M s ∧ i ≤ ns.length ∧ i ≤ 30

theorem grown_body {w0 w : World} {l : Sl} {ns : List Int} {bj i n : Nat} {h : JH} {M : JM} {s : Sl} {sync : Int} (hr : Rd intC' 1 w0 l ns) (hi : i ≤ ns.length) (h30 : i ≤ 30) (G : GI w0 w bj ns i n h M s)
    {K : (Sl × Int × (Option Addr)) → (Sl × Int × Int) → World → Prop} {Q : VP}
    (hQ : ∀ w', GI w0 w' bj ns i n h M s → Q (.tuple #[.pointer (some ⟨bj, 0, none⟩), .slice s.a s.n s.c, .int .i64 (n : Int)]) w')
    (hK : ∀ h' M' s' n' w', GI w0 w' bj ns (i + 1) n' h' M' s' → i < ns.length → i < 30 → K (l, sync, some ⟨bj, 0, none⟩) (s', (n' : Int), ((i + 1 : Nat) : Int)) w') :
    B_cellplanelaw08_grown_9 w0.heap.size K Q l sync (some ⟨bj, 0, none⟩) s (n : Int) (i : Int) w := by
  have hln := hr.1
  have fin : ∀ {w'}, GI w0 w' bj ns i n h M s → Reb w0.heap.size w' [] (fun w => C_cellplanelaw08_grown_7 w0.heap.size Q (some ⟨bj, 0, none⟩) s (n : Int) w) := by
    intro w' G
    refine G.reb (fun w1 G _ => ?_)
    unfold C_cellplanelaw08_grown_7
    exact G.reb (fun w2 G _ => hQ w2 G)
  unfold B_cellplanelaw08_grown_9
  refine ifbd (fun h0 => ?_) (fun h0 => fin G)
  refine ifbd (fun h1 => ?_) (fun h1 => fin G)
  have hR : ∀ {w'}, Now noB w0 w' → Rd intC' 1 w' l ns := fun T => hr.tr T.t (by simp [noB])
  have hil : i < ns.length := by omega
  refine G.reb (fun w1 G _ => ?_)
  unfold C_cellplanelaw08_grown_10
  -- the entry
  have k12 : ∀ {w' : World} {n' : Nat} {h' : JH} {M' : JM}, GI w0 w' bj ns i n' h' M' s → Reb w0.heap.size w' [] (fun w => C_cellplanelaw08_grown_12 w0.heap.size K Q l sync (some ⟨bj, 0, none⟩) s (n' : Int) (i : Int) w) := by
    intro w' n' h' M' G
    refine G.reb (fun w2 G _ => ?_)
    unfold C_cellplanelaw08_grown_12
    have hJ := G.J (by omega) (by omega)
    obtain ⟨B, bd, g, hn, hd, o, f⟩ := G
    refine (hR B.T).idx (by omega) (by omega) (fun p x hp hx ha => ⟨x, ha, notIn_nil, ?_⟩)
    simp only [Int.toNat_natCast] at hx
    have e0 : errR M'.J (.ap 1 (noteE x)) = 0 := by rw [hJ]; exact errG (by omega) (by omega)
    refine B.v offJ.nil (fun wa _ _ => note_spec x wa) (fun w4 B t => ⟨_, rfl, ?_⟩)
    replace o := o.tr t (by simp [blk])
    refine B.op offJ.nil (fun wa A _ => journal_Append_spec A 1 (noteE x) (noteE_I x) (by have := bd.l; omega) (by have := bd.b; omega)) (fun h5 w5 B1 hf _ t => ⟨_, rfl, ?_⟩)
    rw [e0]
    have f5 : ∀ b, s.on b → w0.heap.size ≤ b ∧ ¬ h5.on b := fun b hb => ⟨(f b hb).1, fun hh => (hf b hh).elim (f b hb).2 (fun hh => by have := o.lt hb; omega)⟩
    replace o := o.tr t (fun b hb hh => hh.elim (fun hh => by simp [blk] at hh) (f b hb).2)
    have g2 := g.op' (r := .ap 1 (noteE x)) (by have := bd.l; omega)
    rw [if_pos e0, ← rsG_snoc hx] at g2
    have bd2 : Bd (opM M' (.ap 1 (noteE x))) (i + 1 + 1) := bd.op (by omega)
    have hd2 : (flatR (rsG ns n')).length ≤ (opM M' (.ap 1 (noteE x))).d := by rw [opM_ok e0]; exact hd
    generalize opM M' (.ap 1 (noteE x)) = M2 at B1 g2 bd2 hd2
    refine ifbnd (fun h => absurd rfl h) (fun _ => ?_)
    refine (hR B1.T).idx (by omega) (by omega) (fun p x' hp' hx' ha => ⟨x', ha, notIn_nil, ?_⟩)
    simp only [Int.toNat_natCast] at hx'
    obtain rfl : x = x' := Option.some.inj (hx.symm.trans hx')
    refine B1.v offJ.nil (fun wa _ _ => note_spec x wa) (fun w6 B1 t => ⟨_, rfl, ?_⟩)
    replace o := o.tr t (by simp [blk])
    refine NewL.A B1.T Anc.nil (fun b15 w7 T7 t7 hb7 l7 => ?_)
    have hb15 : ¬ h5.on b15 := fun hh => by have := B1.A.lt hh; have := l7.1; omega
    have B2 := B1.keep T7 t7 (by simp [blk])
    replace o := o.tr t7 (by simp [blk])
    have z7 : w0.heap.size ≤ b15 := by have := B1.T.t.size; have := l7.1; omega
    refine RunL.appA T7 Anc.nil el_sl_api_Logged.t (by decide) lgC_len lgC_one o (q := some ⟨b15, 0, none⟩) (m := 1) (cap := 1) (ys := [⟨1, noteE x⟩]) (Blk.rd1 (c := lgC) (x := (⟨1, noteE x⟩ : G_api_Logged)) hb7) (by simp) (by have := o.1; rw [outG_len (by omega)] at this; omega) (fun b hb hs => by have := (f5 b hs).1; omega) (by simp [blk]) (by simp [blk]) (fun s' w8 T8 t8 o8 f8 _ => ⟨s', rfl, ?_⟩)
    rw [← outG_snoc hx] at o8
    have B3 := B2.keep T8 t8 (fun b hb => hb.elim (fun hb => by simp [blk] at hb) (fun hb => (f5 b hb).2))
    have zB : ∀ b, h5.on b → b < w7.heap.size := fun b hb => B2.A.lt hb
    have f8' : ∀ b, s'.on b → w0.heap.size ≤ b ∧ ¬ h5.on b := fun b hb => (f8 b hb).elim (f5 b) (fun h => ⟨by have := T7.t.size; omega, fun hh => by have := zB b hh; omega⟩)
    have G3 : GI w0 w8 bj ns (i + 1) n' h5 M2 s' := ⟨B3, bd2, g2, by omega, hd2, o8, f8'⟩
    refine G3.reb (fun w9 G3 _ => ?_)
    unfold C_cellplanelaw08_grown_11
    refine G3.reb (fun w10 G3 _ => ?_)
    rw [show IntKind.i64.wrap ((i : Int) + 1) = ((i + 1 : Nat) : Int) by rw [wrap_i64 (by omega) (by omega)]; simp]
    exact hK h5 M2 s' n' w10 G3 hil (by omega)
  obtain ⟨B, bd, g, hn, hd, o, f⟩ := G
  refine B.v offJ.nil (fun wa _ _ => make_Mod_spec (v := sync) (n := 31) (by decide) (by decide) wa) (fun w2 B t => ⟨_, rfl, ?_⟩)
  replace o := o.tr t (by simp [blk])
  refine ifbd (fun _ => ?_) (fun _ => k12 ⟨B, bd, g, hn, hd, o, f⟩)
  refine B.dk (fun wa A _ => disk_Sync_spec A.d) (fun h3 w3 B3 hf t => ⟨rfl, ?_⟩)
  have zo : ∀ b, s.on b → b < w2.heap.size := fun b hb => o.lt hb
  replace B3 : JS _ _ _ _ _ _ (syncM M) := B3
  refine k12 (n' := i) ⟨B3, bd.sync, g.sync, by omega, ?_, o.tr t (fun b hb => (f b hb).2), fun b hb => ⟨(f b hb).1, fun hh => (hf b hh).elim (f b hb).2 (fun h => by have := zo b hb; omega)⟩⟩
  show _ ≤ M.b.length
  rw [g.b]
  exact Nat.le_refl _

theorem grown_spec {w : World} {l : Sl} {ns : List Int} (hr : Rd intC' 1 w l ns) (sync : Int) : Spec PP n_cellplanelaw08_grown [.slice l.a l.n l.c, .int .i64 sync] w noB (GP w ns) := by
  refine cellplanelaw08_grown_calls l sync _ w ?_
  unfold F_cellplanelaw08_grown
  refine Reb.A (Now.refl (S := noB)) Anc.nil (fun w1 T t => ?_)
  unfold C_cellplanelaw08_grown_1
  refine journal_new T (fun h1 w1 B t1 _ => ⟨_, rfl, ?_⟩)
  refine B.reb offJ.nil (fun w2 B _ => ?_)
  unfold C_cellplanelaw08_grown_2
  refine ifb (fun h => by simp at h) (fun _ => ?_)
  have e1 : errR jm0.J (.st 1 0) = 0 := by simp [errR, jm0, j0]
  refine B.op offJ.nil (fun wa A _ => journal_SetTerm_spec A 1 0 (by simp [jm0, j0]) (by simp [jm0])) (fun h2 w3 B _ _ _ => ⟨_, rfl, ?_⟩)
  have g1 := Good.new.op' (r := .st 1 0) (by simp [jm0, j0])
  rw [if_pos e1] at g1
  have bd1 : Bd (opM jm0 (.st 1 0)) 1 := Bd.new.op (by omega)
  rw [e1]
  refine ifbnd (fun h => absurd rfl h) (fun _ => ?_)
  refine B.reb offJ.nil (fun w2 B _ => ?_)
  unfold C_cellplanelaw08_grown_3
  refine B.dk (fun wa A _ => disk_Sync_spec A.d) (fun h3 w3 B _ _ => ⟨rfl, ?_⟩)
  replace B : JS _ _ _ _ _ _ (syncM (opM jm0 (.st 1 0))) := B
  have g2 := g1.sync
  have bd2 := bd1.sync
  have hd : (syncM (opM jm0 (.st 1 0))).d = (syncM (opM jm0 (.st 1 0))).b.length := rfl
  generalize syncM (opM jm0 (.st 1 0)) = M at B g2 bd2 hd
  refine B.reb offJ.nil (fun w2 B _ => ?_)
  unfold C_cellplanelaw08_grown_4
  refine B.reb offJ.nil (fun w2 B _ => ?_)
  unfold C_cellplanelaw08_grown_5
  refine B.reb offJ.nil (fun w2 B _ => ?_)
  unfold C_cellplanelaw08_grown_6
  refine B.reb offJ.nil (fun w2 B _ => ?_)
  unfold C_cellplanelaw08_grown_8
  refine LoopC.mk (fun x w' => ∃ (i n : Nat) (h' : JH) (M : JM) (s : Sl), x = (s, (n : Int), (i : Int)) ∧ i ≤ ns.length ∧ i ≤ 30 ∧ GI w w' h1.bj ns i n h' M s) (fun x => 30 - x.2.2.toNat) ?_ ?_
  · exact B.reb offJ.nil (fun w2 B _ => ⟨0, 0, h3, M, ⟨none, 0, 0⟩, rfl, by omega, by omega, ⟨B, bd2, g2, by omega, by rw [hd, g2.b]; exact Nat.le_refl _, Own.nil, by simp⟩⟩)
  rintro x wa ⟨i, n, h', M, s, rfl, hi, h30, G⟩
  unfold L_cellplanelaw08_grown_9
  simp only
  refine grown_body hr hi h30 G (fun w' G => ?_) (fun h2 M2 s2 n2 w2 G2 hlt h30 => ⟨rfl, ⟨i + 1, n2, h2, M2, s2, rfl, by omega, by omega, G2⟩, by simp only; omega⟩)
  obtain ⟨B, bd, g, hn, hd, o, f⟩ := G
  have e := B.e
  exact ⟨B.T.t, h', M, s, i, n, by rw [e], ⟨⟨B.T, B.A, rfl, B.fr⟩, bd, g, hn, hd, o, f⟩, hi, h30⟩

end Go.Sh
