/- Contracts of the tables of sessions, the program's and the reference's.
   Conditions: none. -/
import Derived.Test.YtcligpfkmnlhnaaSA
namespace Go.Sh
open Go
set_option linter.unusedSimpArgs false
set_option linter.unusedVariables false

abbrev Tab := List G_session_record
def zrec : G_session_record := ⟨0, ⟨0, 0, 0, ByteArray.empty⟩⟩
def tab0 : Tab := List.replicate 8 zrec
/-- the program's table -/
def recs (t : Tab) : List Value := t.flatMap G_session_record.cells
/-- the reference's -/
def rrecs (t : Tab) : List Value := t.flatMap (fun r => [.int .i64 r.number]) ++ t.flatMap (fun r => r.reply.cells)
structure TabOk (t : Tab) : Prop where
  len : t.length = 8
  num : ∀ r ∈ t, 0 ≤ r.number ∧ r.number ≤ 1048576
def tget (t : Tab) (c : Int) : G_session_record := t.getD (c - 1).toNat zrec
def tlast (t : Tab) (c : Int) : Int := if 1 ≤ c ∧ c ≤ 8 then (tget t c).number else 0
def rep0 : G_api_Reply := ⟨0, 0, 0, ByteArray.empty⟩
def tfind (t : Tab) (c n : Int) : G_api_Reply × Int :=
  if 1 ≤ c ∧ c ≤ 8 ∧ 1 ≤ n ∧ n ≤ 1048576 then (if n = (tget t c).number then ((tget t c).reply, 0) else if n = (tget t c).number + 1 then (rep0, 34) else (rep0, 32)) else (rep0, 1)
def treply (x : G_api_Change) : G_api_Reply := ⟨0, x.Seq, if x.Kind = 3 then x.Seq else if x.Kind = 4 then x.Item else 0, ByteArray.empty⟩
def tapply (t : Tab) (x : G_api_Change) : Int × Tab :=
  if validM x then (if x.Number = (tget t x.Client).number + 1 then (0, t.set (x.Client - 1).toNat ⟨x.Number, treply x⟩) else (32, t)) else (1, t)

def TabAt (w : World) (b : Nat) (t : Tab) : Prop := Blk w b (recs t) t_session_Table
def RTabAt (w : World) (b : Nat) (t : Tab) : Prop := Blk w b (rrecs t) t_cellplaneref26_Table

theorem rec_len (x : G_session_record) : x.cells.length = 5 := rfl
theorem rep_len (x : G_session_record) : x.reply.cells.length = 4 := rfl

theorem tget_at {t : Tab} (h : t.length = 8) {c : Int} (h1 : 1 ≤ c) (h2 : c ≤ 8) : t[(c - 1).toNat]? = some (tget t c) := by
  unfold tget
  rw [List.getElem?_eq_getElem (by omega), List.getD_eq_getElem?_getD, List.getElem?_eq_getElem (by omega)]; rfl

theorem TabAt.rec {w : World} {b : Nat} {t : Tab} (h : TabAt w b t) (hl : t.length = 8) {c : Int} (h1 : 1 ≤ c) (h2 : c ≤ 8) : At w ((⟨b, 0, none⟩ : Addr).add ((IntKind.i64.wrap (c - 1)).toNat * 5)) (tget t c).cells := by
  rw [wrap_i64 (by omega) (by omega), add_plain]
  have := Blk.elem (c := G_session_record.cells) (k := 5) rec_len (pre := []) (post := []) (w := w) (b := b) (T := t_session_Table) (xs := t) (by simpa [TabAt, recs] using h) (tget_at hl h1 h2)
  simpa using this

theorem tget_ok {t : Tab} (h : TabOk t) {c : Int} (h1 : 1 ≤ c) (h2 : c ≤ 8) : 0 ≤ (tget t c).number ∧ (tget t c).number ≤ 1048576 :=
  h.num _ (List.mem_of_getElem? (tget_at h.len h1 h2))

theorem session_Last_spec {w : World} {b : Nat} {t : Tab} (hT : TabAt w b t) (ht : TabOk t) (c : Int) : Spec PP n_session_Table_Last [.pointer (some ⟨b, 0, none⟩), .int .i64 c] w noB (fun v _ => v = .int .i64 (tlast t c)) := by
  refine session_Table_Last_calls (some ⟨b, 0, none⟩) c _ w ?_
  unfold F_session_Table_Last
  have T : Now noB w w := Now.refl
  repeat' first
    | refine Reb.val (by assumption) (Nat.le_refl _) ?_
    | with_reducible refine ifbd (fun h => ?_) (fun h => ?_)
    | with_reducible refine ifbnd (fun h => ?_) (fun h => ?_)
    | with_reducible refine ifbn (fun h => ?_) (fun h => ?_)
    | refine ifb (fun h => ?_) (fun h => ?_)
  · grind [tlast]
  · grind [tlast]
  · refine nilL ⟨?_, ?_, ?_⟩
    · rw [wrap_i64] <;> omega
    · rw [wrap_i64] <;> omega
    · refine ⟨(tget t c).number, (hT.rec ht.len (by omega) (by omega)).take 1 rfl, notIn_nil, Reb.val T (Nat.le_refl _) ?_⟩
      unfold tlast
      rw [if_pos ⟨by omega, by omega⟩]

theorem session_New_spec (w : World) : Spec PP n_session_New [] w noB (fun v w' => ∃ b, v = .pointer (some ⟨b, 0, none⟩) ∧ w.heap.size ≤ b ∧ TabAt w' b tab0) := by
  refine session_New_calls _ w ?_
  unfold F_session_New
  have T : Now noB w w := Now.refl
  refine NewL.use T (Nat.le_refl _) (fun b w1 h1 h2 T1 t1 hb hlt _ => ?_)
  refine Reb.use T1 (Nat.le_refl _) (fun wa T2 t2 _ => ⟨T2.t, b, rfl, h2, ?_⟩)
  have h : Blk w1 b (recs tab0) t_session_Table := hb
  exact h.touch t2 (by simp [blk])

theorem session_Find_spec {w : World} {b : Nat} {t : Tab} (hT : TabAt w b t) (ht : TabOk t) (c n : Int) : Spec PP n_session_Table_Find [.pointer (some ⟨b, 0, none⟩), .int .i64 c, .int .i64 n] w noB
    (fun v _ => v = .tuple #[.agg (List.toArray (tfind t c n).1.cells), .int .i64 (tfind t c n).2]) := by
  refine session_Table_Find_calls (some ⟨b, 0, none⟩) c n _ w ?_
  unfold F_session_Table_Find
  have T : Now noB w w := Now.refl
  intro b1 hb1
  repeat' first
    | refine Reb.val (by assumption) (Nat.le_refl _) ?_
    | with_reducible refine ifbd (fun h => ?_) (fun h => ?_)
    | with_reducible refine ifbnd (fun h => ?_) (fun h => ?_)
    | with_reducible refine ifbn (fun h => ?_) (fun h => ?_)
    | refine ifb (fun h => ?_) (fun h => ?_)
  · grind [tfind, rep0]
  · grind [tfind, rep0]
  · grind [tfind, rep0]
  · grind [tfind, rep0]
  · have hr := tget_ok ht (c := c) (by omega) (by omega)
    have hlt : b < w.heap.size := Blk.lt hT
    refine nilL ⟨?_, ?_, ?_⟩
    · rw [wrap_i64] <;> omega
    · rw [wrap_i64] <;> omega
    · refine ⟨tget t c, hT.rec ht.len (by omega) (by omega), by simp [add_block]; omega, fun b4 h4 => ?_⟩
      rw [wrap_i64 (by omega) (by omega)]
      repeat' first
        | refine Reb.val (by assumption) (Nat.le_refl _) ?_
        | with_reducible refine ifbd (fun h => ?_) (fun h => ?_)
        | with_reducible refine ifbnd (fun h => ?_) (fun h => ?_)
        | with_reducible refine ifbn (fun h => ?_) (fun h => ?_)
        | refine ifb (fun h => ?_) (fun h => ?_)
      all_goals grind [tfind, rep0]

theorem RTabAt.num {w : World} {b : Nat} {t : Tab} (h : RTabAt w b t) (hl : t.length = 8) {c : Int} (h1 : 1 ≤ c) (h2 : c ≤ 8) : At w ((⟨b, 0, none⟩ : Addr).add ((IntKind.i64.wrap (c - 1)).toNat * 1)) [.int .i64 (tget t c).number] := by
  rw [wrap_i64 (by omega) (by omega), add_plain]
  have := Blk.elem (c := fun r : G_session_record => [Value.int .i64 r.number]) (k := 1) (fun _ => rfl) (pre := []) (post := t.flatMap (fun r => r.reply.cells)) (w := w) (b := b) (T := t_cellplaneref26_Table) (xs := t) (by simpa [RTabAt, rrecs] using h) (tget_at hl h1 h2)
  simpa using this

theorem RTabAt.rep {w : World} {b : Nat} {t : Tab} (h : RTabAt w b t) (hl : t.length = 8) {c : Int} (h1 : 1 ≤ c) (h2 : c ≤ 8) : At w ((addA ⟨b, 0, none⟩ 8).add ((IntKind.i64.wrap (c - 1)).toNat * 4)) (tget t c).reply.cells := by
  rw [wrap_i64 (by omega) (by omega)]
  show At w ((⟨b, 0 + (7 + 1), none⟩ : Addr).add _) _
  rw [add_plain]
  have hp : (t.flatMap (fun r : G_session_record => [Value.int .i64 r.number])).length = 8 := by rw [flat_length (k := 1) (fun _ => rfl)]; omega
  have := Blk.elem (c := fun r : G_session_record => r.reply.cells) (k := 4) rep_len (pre := t.flatMap (fun r => [Value.int .i64 r.number])) (post := []) (w := w) (b := b) (T := t_cellplaneref26_Table) (xs := t) (by simpa [RTabAt, rrecs] using h) (tget_at hl h1 h2)
  rw [hp] at this
  simpa using this

theorem ref26_Last_spec {w : World} {b : Nat} {t : Tab} (hT : RTabAt w b t) (ht : TabOk t) (c : Int) : Spec PP n_cellplaneref26_Table_Last [.pointer (some ⟨b, 0, none⟩), .int .i64 c] w noB (fun v _ => v = .int .i64 (tlast t c)) := by
  refine cellplaneref26_Table_Last_calls (some ⟨b, 0, none⟩) c _ w ?_
  unfold F_cellplaneref26_Table_Last
  have T : Now noB w w := Now.refl
  repeat' first
    | refine Reb.val (by assumption) (Nat.le_refl _) ?_
    | with_reducible refine ifbd (fun h => ?_) (fun h => ?_)
    | with_reducible refine ifbnd (fun h => ?_) (fun h => ?_)
    | with_reducible refine ifbn (fun h => ?_) (fun h => ?_)
    | refine ifb (fun h => ?_) (fun h => ?_)
  · grind [tlast]
  · grind [tlast]
  · refine nilL ⟨?_, ?_, ?_⟩
    · rw [wrap_i64] <;> omega
    · rw [wrap_i64] <;> omega
    · refine ⟨(tget t c).number, hT.num ht.len (by omega) (by omega), notIn_nil, Reb.val T (Nat.le_refl _) ?_⟩
      unfold tlast
      rw [if_pos ⟨by omega, by omega⟩]

theorem ref26_Find_spec {w : World} {b : Nat} {t : Tab} (hT : RTabAt w b t) (ht : TabOk t) (c n : Int) : Spec PP n_cellplaneref26_Table_Find [.pointer (some ⟨b, 0, none⟩), .int .i64 c, .int .i64 n] w noB
    (fun v _ => v = .tuple #[.agg (List.toArray (tfind t c n).1.cells), .int .i64 (tfind t c n).2]) := by
  refine cellplaneref26_Table_Find_calls (some ⟨b, 0, none⟩) c n _ w ?_
  unfold F_cellplaneref26_Table_Find
  have T : Now noB w w := Now.refl
  intro b1 hb1
  repeat' first
    | refine Reb.val (by assumption) (Nat.le_refl _) ?_
    | with_reducible refine ifbd (fun h => ?_) (fun h => ?_)
    | with_reducible refine ifbnd (fun h => ?_) (fun h => ?_)
    | with_reducible refine ifbn (fun h => ?_) (fun h => ?_)
    | refine ifb (fun h => ?_) (fun h => ?_)
  · grind [tfind, rep0]
  · grind [tfind, rep0]
  · grind [tfind, rep0]
  · grind [tfind, rep0]
  · have hr := tget_ok ht (c := c) (by omega) (by omega)
    have hlt : b < w.heap.size := Blk.lt hT
    have hw0 : 0 ≤ IntKind.i64.wrap (c - 1) := by rw [wrap_i64] <;> omega
    have hw8 : IntKind.i64.wrap (c - 1) < (8 : Nat) := by rw [wrap_i64] <;> omega
    refine nilL ⟨hw0, hw8, ?_⟩
    refine ⟨(tget t c).number, hT.num ht.len (by omega) (by omega), by simp [add_block]; omega, ?_⟩
    rw [wrap_i64 (x := n - _) (by omega) (by omega)]
    repeat' first
      | refine Reb.val (by assumption) (Nat.le_refl _) ?_
      | with_reducible refine ifbd (fun h => ?_) (fun h => ?_)
      | with_reducible refine ifbnd (fun h => ?_) (fun h => ?_)
      | with_reducible refine ifbn (fun h => ?_) (fun h => ?_)
      | refine ifb (fun h => ?_) (fun h => ?_)
    · refine nilL ⟨hw0, hw8, (tget t c).reply, hT.rep ht.len (by omega) (by omega), by simp [add_block, addA]; omega, ?_⟩
      refine Reb.val T (Nat.le_refl _) ?_
      grind [tfind]
    · grind [tfind, rep0]
    · grind [tfind, rep0]

theorem tapply_ok {t : Tab} (h : TabOk t) (x : G_api_Change) : TabOk (tapply t x).2 := by
  unfold tapply
  split
  · rename_i hv
    have hr := valid_range hv
    split
    · refine ⟨by simp [h.len], fun r hm => ?_⟩
      rcases List.mem_or_eq_of_mem_set hm with h' | h'
      · exact h.num r h'
      · subst h'; exact ⟨by simp; omega, by simp; omega⟩
    · exact h
  · exact h

theorem TabAt.put {w : World} {b : Nat} {t : Tab} (h : TabAt w b t) (hl : t.length = 8) {c : Int} (h1 : 1 ≤ c) (h2 : c ≤ 8) (r : G_session_record) :
    TabAt (putC w ((⟨b, 0, none⟩ : Addr).add ((IntKind.i64.wrap (c - 1)).toNat * 5)) r.cells) b (t.set (c - 1).toNat r) := by
  rw [wrap_i64 (by omega) (by omega), add_plain]
  unfold TabAt recs
  have := lspl_flat (c := G_session_record.cells) (k := 5) rec_len (xs := t) (i := (c - 1).toNat) (by omega) r [] []
  simp only [List.nil_append, List.append_nil, List.length_nil] at this
  rw [← this]
  exact Blk.putC h _ _

theorem recs_len {t : Tab} (h : t.length = 8) : (recs t).length = 40 := by unfold recs; rw [flat_length (k := 5) rec_len]; omega

theorem session_Apply_spec {w : World} {b : Nat} {t : Tab} (hT : TabAt w b t) (ht : TabOk t) (x : G_api_Change) : Spec PP n_session_Table_Apply [.pointer (some ⟨b, 0, none⟩), .agg (List.toArray x.cells)] w (fun i => i = b)
    (fun v w' => v = .int .i64 (tapply t x).1 ∧ TabAt w' b (tapply t x).2) := by
  refine session_Table_Apply_calls (some ⟨b, 0, none⟩) x _ w ?_
  unfold F_session_Table_Apply
  have hlt : b < w.heap.size := Blk.lt hT
  have T : Now (fun i => i = b) w w := Now.refl
  intro b15 hb15
  refine Reb.use T (Nat.le_refl _) (fun w1 T1 t1 _ => ?_)
  have hT1 : TabAt w1 b t := Blk.touch hT t1 (by simp [blk]; omega)
  unfold C_session_Table_Apply_1
  refine CallL.val T1 (Nat.le_refl _) (fun wa _ _ => store_Valid_spec _ _) (fun w2 T2 t2 => ⟨_, rfl, ?_⟩)
  have hT2 : TabAt w2 b t := Blk.touch hT1 t2 (by simp [blk]; omega)
  refine ifbn (fun h => ?_) (fun h => ?_)
  · refine Reb.use T2 (Nat.le_refl _) (fun w3 T3 t3 _ => ⟨T3.t, ?_, ?_⟩)
    · simp [tapply, h]
    · simp only [tapply, h]; exact Blk.touch hT2 t3 (by simp [blk]; omega)
  · refine Reb.use T2 (Nat.le_refl _) (fun w3 T3 t3 _ => ?_)
    have hT3 : TabAt w3 b t := Blk.touch hT2 t3 (by simp [blk]; omega)
    have hr := valid_range h
    unfold C_session_Table_Apply_2
    have hw0 : 0 ≤ IntKind.i64.wrap (x.Client - 1) := by rw [wrap_i64] <;> omega
    have hw8 : IntKind.i64.wrap (x.Client - 1) < (8 : Nat) := by rw [wrap_i64] <;> omega
    refine nilL ⟨hw0, hw8, ?_⟩
    refine Reb.use T3 (Nat.le_refl _) (fun w4 T4 t4 _ => ?_)
    have hT4 : TabAt w4 b t := Blk.touch hT3 t4 (by simp [blk]; omega)
    unfold C_session_Table_Apply_3
    have hrec := hT4.rec ht.len (c := x.Client) (by omega) (by omega)
    have hn := tget_ok ht (c := x.Client) (by omega) (by omega)
    refine ⟨(tget t x.Client).number, hrec.take 1 rfl, by simp [add_block]; omega, ?_⟩
    rw [wrap_i64 (x := _ + 1) (by omega) (by omega)]
    refine ifbnd (fun h2 => ?_) (fun h2 => ?_)
    · refine Reb.use T4 (Nat.le_refl _) (fun w5 T5 t5 _ => ⟨T5.t, ?_, ?_⟩)
      · simp [tapply, h, h2]
      · simp only [tapply, h, if_true, if_neg h2]; exact Blk.touch hT4 t5 (by simp [blk]; omega)
    · have fin : ∀ (rr : G_api_Reply), rr = treply x → ∀ (b6 : Nat) (w5 : World), TabAt w5 b t → Now (fun i => i = b) w w5 → w.heap.size ≤ b6 →
          C_session_Table_Apply_6 w.heap.size (fun v w' => Touch (fun i => i = b) w w' ∧ v = .int .i64 (tapply t x).1 ∧ TabAt w' b (tapply t x).2) b15 x t_api_Change ((⟨b, 0, none⟩ : Addr).add ((IntKind.i64.wrap (x.Client - 1)).toNat * 5)) b6 rr t_api_Reply w5 := by
        intro rr hrr b6 w5 hT5 T5 hb6
        unfold C_session_Table_Apply_6
        have hput := hT5.put ht.len (c := x.Client) (by omega) (by omega) ⟨x.Number, rr⟩
        refine ⟨?_, by simp [add_block]; omega, ?_⟩
        · rw [wrap_i64 (by omega) (by omega), add_plain]
          exact Blk.room hT5 (by rw [recs_len ht.len, rec_len]; omega)
        · refine Reb.use (T5.putC (fun _ => add_block _ _)) (Nat.le_refl _) (fun w6 T6 t6 _ => ⟨T6.t, ?_, ?_⟩)
          · simp [tapply, h, h2]
          · simp only [tapply, h, if_true, if_pos h2, ← hrr]
            exact Blk.touch hput t6 (by simp [blk]; omega)
      refine Reb.use T4 (Nat.le_refl _) (fun w5 T5 t5 _ => ?_)
      have hT5 : TabAt w5 b t := Blk.touch hT4 t5 (by simp [blk]; omega)
      unfold C_session_Table_Apply_4
      intro b6 hb6
      have hsz := T5.t.size
      refine Reb.use T5 (Nat.le_refl _) (fun w6 T6 t6 _ => ?_)
      have hT6 : TabAt w6 b t := Blk.touch hT5 t6 (by simp [blk]; omega)
      unfold C_session_Table_Apply_5
      refine ifbd (fun hk => ?_) (fun hk => ?_)
      · refine Reb.use T6 (Nat.le_refl _) (fun w7 T7 t7 _ => fin _ ?_ _ _ (Blk.touch hT6 t7 (by simp [blk]; omega)) T7 (by omega))
        simp [treply, hk]
      · refine ifbd (fun hk2 => ?_) (fun hk2 => ?_)
        · refine Reb.use T6 (Nat.le_refl _) (fun w7 T7 t7 _ => fin _ ?_ _ _ (Blk.touch hT6 t7 (by simp [blk]; omega)) T7 (by omega))
          simp [treply, hk2]
        · refine Reb.use T6 (Nat.le_refl _) (fun w7 T7 t7 _ => fin _ ?_ _ _ (Blk.touch hT6 t7 (by simp [blk]; omega)) T7 (by omega))
          simp [treply, hk, hk2]


/-- the reference's table while it is written: numbers, replies -/
def RT (w : World) (b : Nat) (ns : List Int) (rs : List G_api_Reply) : Prop := Blk w b (ns.flatMap (fun n => [Value.int .i64 n]) ++ rs.flatMap G_api_Reply.cells) t_cellplaneref26_Table

theorem RTabAt.rt {w : World} {b : Nat} {t : Tab} (h : RTabAt w b t) : RT w b (t.map (·.number)) (t.map (·.reply)) := by
  unfold RT
  rw [List.flatMap_map, List.flatMap_map]
  exact h

theorem RT.tab {w : World} {b : Nat} {t : Tab} (h : RT w b (t.map (·.number)) (t.map (·.reply))) : RTabAt w b t := by
  unfold RT at h
  rw [List.flatMap_map, List.flatMap_map] at h
  exact h

theorem RT.putN {w : World} {b : Nat} {ns : List Int} {rs : List G_api_Reply} (h : RT w b ns rs) (hl : ns.length = 8) {c : Int} (h1 : 1 ≤ c) (h2 : c ≤ 8) (n : Int) :
    RT (putC w ((⟨b, 0, none⟩ : Addr).add ((IntKind.i64.wrap (c - 1)).toNat * 1)) [.int .i64 n]) b (ns.set (c - 1).toNat n) rs := by
  rw [wrap_i64 (by omega) (by omega), add_plain]
  unfold RT
  have := lspl_flat (c := fun n : Int => [Value.int .i64 n]) (k := 1) (fun _ => rfl) (xs := ns) (i := (c - 1).toNat) (by omega) n [] (rs.flatMap G_api_Reply.cells)
  simp only [List.nil_append, List.length_nil] at this
  rw [← this]
  exact Blk.putC h _ _

theorem RT.putR {w : World} {b : Nat} {ns : List Int} {rs : List G_api_Reply} (h : RT w b ns rs) (hl : ns.length = 8) (hr : rs.length = 8) {c : Int} (h1 : 1 ≤ c) (h2 : c ≤ 8) (r : G_api_Reply) :
    RT (putC w ((addA ⟨b, 0, none⟩ 8).add ((IntKind.i64.wrap (c - 1)).toNat * 4)) r.cells) b ns (rs.set (c - 1).toNat r) := by
  rw [wrap_i64 (by omega) (by omega)]
  show RT (putC w ((⟨b, 0 + (7 + 1), none⟩ : Addr).add _) _) b _ _
  rw [add_plain]
  unfold RT
  have hp : (ns.flatMap (fun n : Int => [Value.int .i64 n])).length = 8 := by rw [flat_length (k := 1) (fun _ => rfl)]; omega
  have := lspl_flat (c := G_api_Reply.cells) (k := 4) (fun _ => rfl) (xs := rs) (i := (c - 1).toNat) (by omega) r (ns.flatMap (fun n : Int => [Value.int .i64 n])) []
  simp only [List.append_nil, hp] at this
  rw [← this]
  exact Blk.putC h _ _

theorem RT.putI {w : World} {b : Nat} {ns : List Int} {rs : List G_api_Reply} (h : RT w b ns rs) (hl : ns.length = 8) (hr : rs.length = 8) {c : Int} (h1 : 1 ≤ c) (h2 : c ≤ 8) {r : G_api_Reply} (hi : rs[(c - 1).toNat]? = some r) (n : Int) :
    RT (putC w (addA ((addA ⟨b, 0, none⟩ 8).add ((IntKind.i64.wrap (c - 1)).toNat * 4)) 2) [.int .i64 n]) b ns (rs.set (c - 1).toNat { r with Item := n }) := by
  rw [wrap_i64 (by omega) (by omega)]
  show RT (putC w (addA ((⟨b, 0 + (7 + 1), none⟩ : Addr).add _) 2) _) b _ _
  rw [add_plain]
  unfold RT
  have hp : (ns.flatMap (fun n : Int => [Value.int .i64 n])).length = 8 := by rw [flat_length (k := 1) (fun _ => rfl)]; omega
  have := lspl_in (c := G_api_Reply.cells) (k := 4) (fun _ => rfl) (xs := rs) (i := (c - 1).toNat) (y := r) (y' := { r with Item := n }) hi (o := 2) (ds := [.int .i64 n]) (by simp) rfl (ns.flatMap (fun n : Int => [Value.int .i64 n])) []
  simp only [List.append_nil, hp] at this
  rw [← this]
  exact Blk.putC h _ _

theorem RT.room {w : World} {b : Nat} {ns : List Int} {rs : List G_api_Reply} (h : RT w b ns rs) (hl : ns.length = 8) (hr : rs.length = 8) {o n : Nat} (ho : o + n ≤ 40) : RoomAt w ⟨b, o, none⟩ n := by
  refine Blk.room h ?_
  rw [List.length_append, flat_length (k := 1) (fun _ => rfl), flat_length (k := 4) (fun _ => rfl)]
  omega

theorem RT.roomR {w : World} {b : Nat} {ns : List Int} {rs : List G_api_Reply} (h : RT w b ns rs) (hl : ns.length = 8) (hr : rs.length = 8) {c : Int} (h1 : 1 ≤ c) (h2 : c ≤ 8) :
    RoomAt w ((addA ⟨b, 0, none⟩ 8).add ((IntKind.i64.wrap (c - 1)).toNat * 4)) 4 := by
  rw [wrap_i64 (by omega) (by omega)]
  show RoomAt _ ((⟨b, 0 + (7 + 1), none⟩ : Addr).add _) _
  rw [add_plain]
  exact h.room hl hr (by omega)

theorem RT.roomI {w : World} {b : Nat} {ns : List Int} {rs : List G_api_Reply} (h : RT w b ns rs) (hl : ns.length = 8) (hr : rs.length = 8) {c : Int} (h1 : 1 ≤ c) (h2 : c ≤ 8) :
    RoomAt w (addA ((addA ⟨b, 0, none⟩ 8).add ((IntKind.i64.wrap (c - 1)).toNat * 4)) 2) 1 := by
  rw [wrap_i64 (by omega) (by omega)]
  show RoomAt _ (addA ((⟨b, 0 + (7 + 1), none⟩ : Addr).add _) 2) _
  rw [add_plain]
  exact h.room hl hr (o := 0 + (7 + 1) + (c - 1).toNat * 4 + 2) (by omega)

theorem ref26_Apply_spec {w : World} {b : Nat} {t : Tab} (hT : RTabAt w b t) (ht : TabOk t) (x : G_api_Change) : Spec PP n_cellplaneref26_Table_Apply [.pointer (some ⟨b, 0, none⟩), .agg (List.toArray x.cells)] w (fun i => i = b)
    (fun v w' => v = .int .i64 (tapply t x).1 ∧ RTabAt w' b (tapply t x).2) := by
  refine cellplaneref26_Table_Apply_calls (some ⟨b, 0, none⟩) x _ w ?_
  unfold F_cellplaneref26_Table_Apply
  have hlt : b < w.heap.size := Blk.lt hT
  have T : Now (fun i => i = b) w w := Now.refl
  intro b1 hb1
  refine CallL.val T (Nat.le_refl _) (fun wa _ _ => ref24_Valid_spec _ _) (fun w2 T2 t2 => ⟨_, rfl, ?_⟩)
  have hT2 : RTabAt w2 b t := Blk.touch hT t2 (by simp [blk]; omega)
  refine ifbn (fun h => ?_) (fun h => ?_)
  · refine Reb.use T2 (Nat.le_refl _) (fun w3 T3 t3 _ => ⟨T3.t, ?_, ?_⟩)
    · simp [tapply, h]
    · simp only [tapply, h]; exact Blk.touch hT2 t3 (by simp [blk]; omega)
  · have hr := valid_range h
    have hw0 : 0 ≤ IntKind.i64.wrap (x.Client - 1) := by rw [wrap_i64] <;> omega
    have hw8 : IntKind.i64.wrap (x.Client - 1) < (8 : Nat) := by rw [wrap_i64] <;> omega
    have hn := tget_ok ht (c := x.Client) (by omega) (by omega)
    have hl1 : (t.map (·.number)).length = 8 := by simp [ht.len]
    have hl2 : (t.map (·.reply)).length = 8 := by simp [ht.len]
    refine nilL ⟨hw0, hw8, (tget t x.Client).number, hT2.num ht.len (by omega) (by omega), by simp [add_block]; omega, ?_⟩
    rw [wrap_i64 (x := _ + 1) (by omega) (by omega)]
    refine ifbnd (fun h2 => ?_) (fun h2 => ?_)
    · refine Reb.use T2 (Nat.le_refl _) (fun w5 T5 t5 _ => ⟨T5.t, ?_, ?_⟩)
      · simp [tapply, h, h2]
      · simp only [tapply, h, if_true, if_neg h2]; exact Blk.touch hT2 t5 (by simp [blk]; omega)
    · refine nilL ⟨hw0, hw8, ?_, by simp [add_block]; omega, ?_⟩
      · rw [wrap_i64 (by omega) (by omega), add_plain]
        exact hT2.rt.room (n := 1) hl1 hl2 (by omega)
      have hN := hT2.rt.putN hl1 (c := x.Client) (by omega) (by omega) x.Number
      have T3 := T2.putC (p := (⟨b, 0, none⟩ : Addr).add ((IntKind.i64.wrap (x.Client - 1)).toNat * 1)) (cs := [.int .i64 x.Number]) (fun _ => add_block _ _)
      have hl1' : ((t.map (·.number)).set (x.Client - 1).toNat x.Number).length = 8 := by simp [ht.len]
      refine nilL ⟨hw0, hw8, ?_, by simp [add_block, addA]; omega, ?_⟩
      · exact hN.roomR hl1' hl2 (by omega) (by omega)
      have hR := hN.putR hl1' hl2 (c := x.Client) (by omega) (by omega) ⟨0, x.Seq, x.Item, ByteArray.empty⟩
      have T4 := T3.putC (p := (addA ⟨b, 0, none⟩ 8).add ((IntKind.i64.wrap (x.Client - 1)).toNat * 4)) (cs := (⟨0, x.Seq, x.Item, ByteArray.empty⟩ : G_api_Reply).cells) (fun _ => add_block _ _)
      have hl2' : ((t.map (·.reply)).set (x.Client - 1).toNat (⟨0, x.Seq, x.Item, ByteArray.empty⟩ : G_api_Reply)).length = 8 := by simp [ht.len]
      have fin : ∀ w', RT w' b ((t.map (·.number)).set (x.Client - 1).toNat x.Number) ((t.map (·.reply)).set (x.Client - 1).toNat (treply x)) → RTabAt w' b (tapply t x).2 := by
        intro w' hw
        refine RT.tab ?_
        simp only [tapply, h, if_true, if_pos h2, List.map_set]
        exact hw
      refine ifbd (fun hk => ?_) (fun hk => ?_)
      · refine nilL ⟨hw0, hw8, ?_, by simp [add_block, addA]; omega, ?_⟩
        · exact hR.roomI hl1' hl2' (by omega) (by omega)
        have hI := hR.putI hl1' hl2' (c := x.Client) (by omega) (by omega) (r := ⟨0, x.Seq, x.Item, ByteArray.empty⟩) (by rw [List.getElem?_set_self (by simp [ht.len]; omega)]) x.Seq
        refine Reb.use (T4.putC (fun _ => by simp [addA, add_block])) (Nat.le_refl _) (fun w6 T6 t6 _ => ⟨T6.t, ?_, ?_⟩)
        · simp [tapply, h, h2]
        · refine fin _ (Blk.touch (cs := _) ?_ t6 (by simp [blk]; omega))
          have e : treply x = { (⟨0, x.Seq, x.Item, ByteArray.empty⟩ : G_api_Reply) with Item := x.Seq } := by simp [treply, hk]
          rw [e]
          rw [List.set_set] at hI
          exact hI
      · refine Reb.use T4 (Nat.le_refl _) (fun w6 T6 t6 _ => ⟨T6.t, ?_, ?_⟩)
        · simp [tapply, h, h2]
        · refine fin _ (Blk.touch (cs := _) ?_ t6 (by simp [blk]; omega))
          have e : treply x = ⟨0, x.Seq, x.Item, ByteArray.empty⟩ := by
            by_cases hk4 : x.Kind = 4
            · simp [treply, hk4]
            · have := hr.2.2.2.2.2.2.2.2.2.2.1 hk4
              simp [treply, hk, hk4, this]
          rw [e]
          exact hR

end Go.Sh
