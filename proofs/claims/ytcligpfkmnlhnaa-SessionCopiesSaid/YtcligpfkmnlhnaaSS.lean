/- Contracts of the tables: Lasts, Same, Copy.
   Conditions: none. -/
import Derived.Test.YtcligpfkmnlhnaaSQ
import Derived.Test.YtcligpfkmnlhnaaLib6
namespace Go.Sh
open Go
set_option linter.unusedSimpArgs false
set_option linter.unusedVariables false
set_option maxHeartbeats 4000000

theorem intC_one (x : Int) : ∀ u ∈ intC x, u.oneCell' = true := by
  intro u hu
  simp [intC] at hu
  subst hu; rfl

theorem u_arec : PP.underlying t_ar8_session_record = some (.array 8 t_session_record) := by kernel_rfl
theorem c_rec : PP.cellsOf t_session_record = 5 := by kernel_rfl
theorem struct_of {P : Program} {t : TypeId} (h : (match P.underlying t with | some (.struct _) => true | _ => false) = true) : ∃ fs, P.underlying t = some (.struct fs) := by
  split at h
  · rename_i fs hu; exact ⟨fs, hu⟩
  · cases h
theorem i_rec : ∃ i, PP.info? t_session_record = some i := Option.isSome_iff_exists.1 (by kernel_rfl)
theorem u_rec : ∃ fs, PP.underlying t_session_record = some (.struct fs) := struct_of (by kernel_rfl)

theorem recs_at {t : Tab} {m : Nat} {r : G_session_record} (h : t[m]? = some r) : ((recs t).drop (m * 5)).take 5 = r.cells := flat_at rec_len h

theorem session_Lasts_spec {w : World} {b : Nat} {t : Tab} (hT : TabAt w b t) (ht : TabOk t) : Spec PP n_session_Table_Lasts [.pointer (some ⟨b, 0, none⟩)] w noB
    (fun v w' => ∃ s : Sl, v = .slice s.a s.n s.c ∧ Own intC 1 t_i64_2 w' s (t.map (·.number)) ∧ ∀ i, s.on i → w.heap.size ≤ i) := by
  refine session_Table_Lasts_calls (some ⟨b, 0, none⟩) _ w ?_
  unfold F_session_Table_Lasts
  have T : Now noB w w := Now.refl
  have hl := ht.len
  have E := el_sl_i64.t
  refine Reb.A T Anc.nil (fun w1 T t1 => ?_)
  unfold C_session_Table_Lasts_1
  refine Reb.A T Anc.nil (fun w2 T t2 => ?_)
  unfold C_session_Table_Lasts_2
  have hT2 : TabAt w2 b t := hT.tr T.t (by simp)
  refine nilL ⟨recs t, recs_len hl, Blk.at hT2 0 (by simp), notIn_nil, ?_⟩
  refine Reb.A T Anc.nil (fun w3 T t3 => ?_)
  unfold C_session_Table_Lasts_4
  refine ⟨fun x w' => ∃ m : Nat, x.2 = (m : Int) ∧ m ≤ 8 ∧ Now noB w w' ∧ Own intC 1 t_i64_2 w' x.1 ((t.take m).map (·.number)) ∧ (∀ i, x.1.on i → w.heap.size ≤ i), fun x => 8 - x.2.toNat, ?_, ?_⟩
  · exact Reb.A T Anc.nil (fun w4 T t => ⟨0, rfl, by omega, T, by simpa using Own.nil, by simp⟩)
  · rintro ⟨sl, x⟩ wb ⟨m, hx, hm, T, ho, hon⟩
    simp only at hx ho hon
    subst hx
    unfold L_session_Table_Lasts_5
    dsimp only
    unfold B_session_Table_Lasts_5
    refine ifbd (fun h8 => ?_) (fun h8 => ?_)
    · have hml : m < t.length := by omega
      obtain ⟨fs, hfs⟩ := u_rec
      obtain ⟨inf, hinf⟩ := i_rec
      refine ⟨t[m], fun wr => run_index_agg u_arec hinf hfs c_rec (by omega) (by omega) (by rw [Int.toNat_natCast]; exact recs_at (List.getElem?_eq_getElem hml)) wr, fun b2 l2 => ?_⟩
      have ol : ∀ i, sl.on i → i < wb.heap.size := fun i hi => ho.lt hi
      refine NewL.A T Anc.start (fun b3 w T t3 h3 l3 => ?_)
      replace ho := ho.tr t3 (by intro c_ hc_; (try simp only [mem_blk_cons, mem_blk_nil, or_false, false_or] at hc_ ⊢); grind [mem_blk_cons, mem_blk_nil])
      have zt := t3.size
      have p1 := ho.1
      rw [List.length_map, List.length_take] at p1
      refine RunL.appA T Anc.start E (by decide) intC_len intC_one ho (Blk.rd1 (x := (t[m]).number) h3) (fun h => by cases h) (by omega) (fun c hc hh => by have := hon c hh; omega) (fun c hh => by have := ol c hh; simp [blk]; omega) (fun c hh => by simp at hh; rw [← hh]; exact l3.2.2.2) (fun s2 w T t4 o2 f2 n2 => ⟨_, rfl, ?_⟩)
      refine Reb.A T Anc.start (fun w T t5 => ?_)
      have zz := T.t.size
      replace o2 := o2.tr t5 n2
      have step : IntKind.i64.wrap ((m : Int) + 1) = ((m + 1 : Nat) : Int) := by rw [wrap_i64 (by omega) (by omega)]; simp
      refine ⟨rfl, ⟨m + 1, step, by omega, T, ?_, fun i hi => ?_⟩, by simp only [step]; omega⟩
      · rw [List.take_add_one, List.getElem?_eq_getElem hml, Option.toList_some, List.map_append]
        exact o2
      · rcases f2 i hi with h | h
        · exact hon i h
        · omega
    · have h8' : m = 8 := by omega
      refine Reb.A T Anc.nil (fun w4 T t4 => ?_)
      unfold C_session_Table_Lasts_3
      refine Reb.A T Anc.nil (fun w5 T t5 => ⟨T.t, sl, rfl, ?_, hon⟩)
      rw [h8', List.take_of_length_le (by omega)] at ho
      exact (ho.tr t4 (by simp [blk])).tr t5 (by simp [blk])

theorem ref26_Lasts_spec {w : World} {b : Nat} {t : Tab} (hT : RTabAt w b t) (ht : TabOk t) : Spec PP n_cellplaneref26_Table_Lasts [.pointer (some ⟨b, 0, none⟩)] w noB
    (fun v w' => ∃ s : Sl, v = .slice s.a s.n s.c ∧ Own intC 1 t_i64_2 w' s (t.map (·.number)) ∧ ∀ i, s.on i → w.heap.size ≤ i) := by
  refine cellplaneref26_Table_Lasts_calls (some ⟨b, 0, none⟩) _ w ?_
  unfold F_cellplaneref26_Table_Lasts
  have T : Now noB w w := Now.refl
  have hl := ht.len
  have E := el_sl_i64.t
  refine NewL.A T Anc.nil (fun b1 w1 T t1 h1 l1 => nilL ?_)
  have hR : Rd intC 1 w1 ⟨some ⟨b, 0, none⟩, 8, 8⟩ (t.map (·.number)) := by
    refine ⟨by simp [hl], (fun h => by cases h), (fun p hp i x hx => ?_)⟩
    cases hp
    have hT1 : RTabAt w1 b t := hT.tr T.t (by simp)
    rw [List.getElem?_map] at hx
    cases hr : t[i]? with
    | none => rw [hr] at hx; cases hx
    | some r =>
      rw [hr] at hx
      simp only [Option.map_some, Option.some.injEq] at hx
      subst hx
      rw [add_plain]
      have := Blk.elem (c := fun r : G_session_record => [Value.int .i64 r.number]) (k := 1) (fun _ => rfl) (pre := []) (post := t.flatMap (fun r => r.reply.cells)) (w := w1) (b := b) (T := t_cellplaneref26_Table) (xs := t) (by simpa [RTabAt, rrecs] using hT1) hr
      simpa using this
  refine RunL.freshA T Anc.nil E (by decide) intC_len intC_one h1 (fun h => by omega) (by simp [blk]) hR (fun h => by cases h) (by omega) (by simp [blk]) (fun s2 w2 T t o2 f2 n2 => ⟨_, rfl, ?_⟩)
  refine Reb.A T Anc.nil (fun w3 T t => ⟨T.t, s2, rfl, o2.tr t n2, fun i hi => ?_⟩)
  have zz := t1.size
  rcases f2 i hi with h | h <;> omega

/-! ### comparison -/
structure TabW (t : Tab) : Prop where
  rep : ∀ r ∈ t, r.reply.Err = 0 ∧ 0 ≤ r.reply.Seq ∧ r.reply.Seq ≤ 4096 ∧ 0 ≤ r.reply.Item ∧ r.reply.Item ≤ 4096 ∧ r.reply.Value_ = ByteArray.empty

theorem tab0_w : TabW tab0 := ⟨fun r h => by
  simp [tab0] at h
  obtain ⟨_, rfl⟩ := h
  simp [zrec]⟩

theorem tapply_w {t : Tab} (h : TabW t) (x : G_api_Change) : TabW (tapply t x).2 := by
  unfold tapply
  split
  · rename_i hv
    have hr := valid_range hv
    split
    · refine ⟨fun r hm => ?_⟩
      rcases List.mem_or_eq_of_mem_set hm with h' | h'
      · exact h.rep r h'
      · subst h'
        simp only [treply]
        by_cases h3 : x.Kind = 3
        · simp [h3]; omega
        · by_cases h4 : x.Kind = 4
          · have := hr.2.2.2.2.2.2.2.2.2.2.2 h4
            simp [h4]; omega
          · simp [h3, h4]; omega
    · exact h
  · exact h

theorem tfold_w : ∀ {l : List G_api_Change} {t : Tab}, TabW t → TabW (tfold t l).1
  | [], t, h => h
  | x :: r, t, h => by
    unfold tfold
    split
    · exact tfold_w (tapply_w h x)
    · exact h

def recL : List Leaf := [.int .i64, .int .i64, .int .i64, .int .i64, .string]
def repL : List Leaf := [.int .i64, .int .i64, .int .i64, .string]

theorem wf_i64 {n : Int} (h : -9223372036854775808 ≤ n) (h' : n ≤ 9223372036854775807) : (Lit.int .i64 n).wf = true := by
  simp [Lit.wf, IntKind.min, IntKind.max, IntKind.signed, IntKind.bits]; omega

theorem rep_leaves {r : G_api_Reply} (h : r.Err = 0 ∧ 0 ≤ r.Seq ∧ r.Seq ≤ 4096 ∧ 0 ≤ r.Item ∧ r.Item ≤ 4096 ∧ r.Value_ = ByteArray.empty) : okLeaves repL r.cells :=
  ⟨_, _, ⟨_, rfl, wf_i64 (by omega) (by omega)⟩, ⟨_, _, ⟨_, rfl, wf_i64 (by omega) (by omega)⟩, ⟨_, _, ⟨_, rfl, wf_i64 (by omega) (by omega)⟩, ⟨_, _, ⟨_, rfl, by rw [h.2.2.2.2.2]; simp [maxLen]⟩, rfl, rfl⟩, rfl⟩, rfl⟩, rfl⟩

theorem recs_leaves {t : Tab} (h : TabOk t) (hw : TabW t) : okLeaves (List.replicate 8 recL).flatten (recs t) := by
  rw [← h.len]
  refine okLeaves_flat (fun r hr => ?_)
  have h1 := h.num r hr
  exact ⟨_, _, ⟨_, rfl, wf_i64 (by omega) (by omega)⟩, rep_leaves (hw.rep r hr), rfl⟩

theorem rrecs_leaves {t : Tab} (h : TabOk t) (hw : TabW t) : okLeaves ((List.replicate 8 [Leaf.int .i64]).flatten ++ (List.replicate 8 repL).flatten) (rrecs t) := by
  rw [← h.len]
  refine okLeaves_append (okLeaves_flat (fun r hr => ?_)) (okLeaves_flat (fun r hr => rep_leaves (hw.rep r hr)))
  have h1 := h.num r hr
  exact ⟨_, _, ⟨_, rfl, wf_i64 (by omega) (by omega)⟩, rfl, rfl⟩

theorem eqT_sess : EqT PP t_ar8_session_record (List.replicate 8 recL).flatten := ⟨by kernel_rfl, by kernel_rfl, by kernel_rfl, by kernel_rfl, by kernel_rfl, by kernel_rfl⟩
theorem eqT_ref : EqT PP t_cellplaneref26_Table ((List.replicate 8 [Leaf.int .i64]).flatten ++ (List.replicate 8 repL).flatten) := ⟨by kernel_rfl, by kernel_rfl, by kernel_rfl, by kernel_rfl, by kernel_rfl, by kernel_rfl⟩

theorem flat_inj {α : Type} {c : α → List Value} {k : Nat} (hk : ∀ x, (c x).length = k) (hi : ∀ x y, c x = c y → x = y) : ∀ {xs ys : List α}, xs.length = ys.length → xs.flatMap c = ys.flatMap c → xs = ys
  | [], [], _, _ => rfl
  | [], _ :: _, h, _ => by cases h
  | _ :: _, [], h, _ => by cases h
  | x :: r, y :: s, h, e => by
    rw [List.flatMap_cons, List.flatMap_cons] at e
    obtain ⟨e1, e2⟩ := List.append_inj e (by rw [hk, hk])
    rw [hi _ _ e1, flat_inj hk hi (by simpa using h) e2]

theorem rep_inj (x y : G_api_Reply) (h : x.cells = y.cells) : x = y := by
  cases x; cases y
  simp [G_api_Reply.cells] at h
  obtain ⟨rfl, rfl, rfl, rfl⟩ := h
  rfl
theorem rec_inj (x y : G_session_record) (h : x.cells = y.cells) : x = y := by
  cases x; cases y
  have h1 := List.cons.inj h
  have h2 := rep_inj _ _ h1.2
  simp at h1 h2
  rw [h1.1, h2]

theorem recs_inj {a b : Tab} (ha : a.length = 8) (hb : b.length = 8) (h : recs a = recs b) : a = b := flat_inj rec_len rec_inj (by omega) h
theorem rrecs_inj {a b : Tab} (ha : a.length = 8) (hb : b.length = 8) (h : rrecs a = rrecs b) : a = b := by
  unfold rrecs at h
  obtain ⟨h1, h2⟩ := List.append_inj h (by rw [flat_length (k := 1) (fun _ => rfl), flat_length (k := 1) (fun _ => rfl)]; omega)
  have g1 : a.map (·.number) = b.map (·.number) := by
    refine flat_inj (c := fun n : Int => [Value.int .i64 n]) (k := 1) (fun _ => rfl) (fun x y h => by simpa using h) (by simp; omega) ?_
    rw [List.flatMap_map, List.flatMap_map]; exact h1
  have g2 : a.map (·.reply) = b.map (·.reply) := by
    refine flat_inj (c := G_api_Reply.cells) (k := 4) (fun _ => rfl) rep_inj (by simp; omega) ?_
    rw [List.flatMap_map, List.flatMap_map]; exact h2
  apply List.ext_getElem? 
  intro i
  have k1 := congrArg (fun l : List Int => l[i]?) g1
  have k2 := congrArg (fun l : List G_api_Reply => l[i]?) g2
  simp only [List.getElem?_map] at k1 k2
  cases hx : a[i]? with
  | none =>
    cases hy : b[i]? with
    | none => rfl
    | some y => rw [hx, hy] at k1; cases k1
  | some x =>
    cases hy : b[i]? with
    | none => rw [hx, hy] at k1; cases k1
    | some y =>
      rw [hx, hy] at k1 k2
      simp only [Option.map_some, Option.some.injEq] at k1 k2
      cases x; cases y
      simp at k1 k2
      rw [k1, k2]

theorem session_Same_spec {w : World} {a b : Nat} {ta tb : Tab} (hA : TabAt w a ta) (hB : TabAt w b tb) (oa : TabOk ta) (ob : TabOk tb) (wa : TabW ta) (wb : TabW tb) : Spec PP n_session_Same [.pointer (some ⟨a, 0, none⟩), .pointer (some ⟨b, 0, none⟩)] w noB (fun v _ => ∃ e : Bool, v = .bool e ∧ (e = true ↔ ta = tb)) := by
  refine session_Same_calls (some ⟨a, 0, none⟩) (some ⟨b, 0, none⟩) _ w ?_
  unfold F_session_Same
  have T : Now noB w w := Now.refl
  obtain ⟨e, he, hi⟩ := eq_leaves eqT_sess (recs_leaves oa wa) (recs_leaves ob wb)
  refine nilL ⟨recs ta, recs_len oa.len, Blk.at hA 0 (by simp), notIn_nil, nilL ⟨recs tb, recs_len ob.len, Blk.at hB 0 (by simp), notIn_nil, e, he, ?_⟩⟩
  exact Reb.A T Anc.nil (fun w1 T _ => ⟨T.t, e, rfl, hi.trans ⟨recs_inj oa.len ob.len, fun h => by rw [h]⟩⟩)

theorem ref26_Same_spec {w : World} {a b : Nat} {ta tb : Tab} (hA : RTabAt w a ta) (hB : RTabAt w b tb) (oa : TabOk ta) (ob : TabOk tb) (wa : TabW ta) (wb : TabW tb) : Spec PP n_cellplaneref26_Same [.pointer (some ⟨a, 0, none⟩), .pointer (some ⟨b, 0, none⟩)] w noB (fun v _ => ∃ e : Bool, v = .bool e ∧ (e = true ↔ ta = tb)) := by
  refine cellplaneref26_Same_calls (some ⟨a, 0, none⟩) (some ⟨b, 0, none⟩) _ w ?_
  unfold F_cellplaneref26_Same
  have T : Now noB w w := Now.refl
  obtain ⟨e, he, hi⟩ := eq_leaves eqT_ref (rrecs_leaves oa wa) (rrecs_leaves ob wb)
  refine nilL ⟨rrecs ta, rrecs_len oa.len, Blk.at hA 0 (by simp), notIn_nil, nilL ⟨rrecs tb, rrecs_len ob.len, Blk.at hB 0 (by simp), notIn_nil, e, he, ?_⟩⟩
  exact Reb.A T Anc.nil (fun w1 T _ => ⟨T.t, e, rfl, hi.trans ⟨rrecs_inj oa.len ob.len, fun h => by rw [h]⟩⟩)

theorem recs_one (t : Tab) : allOne (recs t) = true := allOne_flat (fun _ => rfl) _

theorem session_Copy_spec {w : World} {b : Nat} {t : Tab} (hT : TabAt w b t) (ht : TabOk t) : Spec PP n_session_Table_Copy [.pointer (some ⟨b, 0, none⟩)] w noB (fun v w' => ∃ c, v = .pointer (some ⟨c, 0, none⟩) ∧ w.heap.size ≤ c ∧ TabAt w' c t) := by
  refine session_Table_Copy_calls (some ⟨b, 0, none⟩) _ w ?_
  unfold F_session_Table_Copy
  have T : Now noB w w := Now.refl
  have hl := recs_len ht.len
  refine nilL ⟨recs t, hl, Blk.at hT 0 (by simp), notIn_nil, ?_⟩
  refine NewL.A T Anc.nil (fun c w1 T t1 h1 l1 => ⟨hl, recs_one t, ?_⟩)
  have zl : Z_session_Table.length = 40 := by rfl
  refine ⟨by rw [hl]; exact Blk.room h1 (by rw [zl]; omega), notIn_nil, ?_⟩
  have h2 : TabAt _ c t := Blk.over h1 (by rw [hl, zl])
  have T := T.putC (p := ⟨c, 0, none⟩) (cs := recs t) (fun h => by have := l1.1; simp only at h; omega)
  exact Reb.A T Anc.nil (fun w2 T t => ⟨T.t, c, rfl, l1.1, h2.tr t (by simp [blk])⟩)

end Go.Sh
