/- The contract of the comparison of a table with the reference's.
   Conditions: none. -/
import Derived.Test.YtcligpfkmnlhnaaSS
import Derived.Test.YtcligpfkmnlhnaaG0
namespace Go.Sh
open Go
set_option linter.unusedSimpArgs false
set_option linter.unusedVariables false
set_option maxHeartbeats 4000000

theorem eqb_refl (x : G_api_Reply) : G_api_Reply.eqb x x = true := G_api_Reply.eqb_iff.2 rfl

theorem same26_spec {w : World} {tb rb : Nat} {t : Tab} (hT : TabAt w tb t) (hR : RTabAt w rb t) (ok : TabOk t) (client number : Int) :
    Spec PP n_cellplanelaw26_same [.pointer (some ⟨tb, 0, none⟩), .pointer (some ⟨rb, 0, none⟩), .int .i64 client, .int .i64 number] w noB (fun v _ => v = .bool true) := by
  refine cellplanelaw26_sameR_calls (some ⟨tb, 0, none⟩) (some ⟨rb, 0, none⟩) client number _ w ?_
  unfold F_cellplanelaw26_sameR
  have T : Now noB w w := Now.refl
  have pT : ∀ w', Now noB w w' → TabAt w' tb t := fun w' T => hT.tr T.t (by simp)
  have pR : ∀ w', Now noB w w' → RTabAt w' rb t := fun w' T => hR.tr T.t (by simp)
  refine Reb.A T Anc.nil (fun w1 T _ => ?_)
  unfold C_cellplanelaw26_sameR_1
  refine CallL.vA T Anc.nil (fun wa T _ => session_Find_spec (pT _ T) ok client number) (fun w2 T _ => ⟨_, _, rfl, fun b1 l1 => ?_⟩)
  refine Reb.A T Anc.start (fun w3 T _ => ?_)
  unfold C_cellplanelaw26_sameR_2
  refine CallL.vA T Anc.start (fun wa T _ => ref26_Find_spec (pR _ T) ok client number) (fun w4 T _ => ⟨_, _, rfl, fun b2 l2 => ?_⟩)
  refine Reb.A T Anc.start (fun w5 T _ => ?_)
  unfold C_cellplanelaw26_sameR_3
  refine ifbn (fun h => by rw [eqb_refl] at h; cases h) (fun _ => ?_)
  refine ifbnd (fun h => absurd rfl h) (fun _ => ?_)
  refine CallL.vA T Anc.start (fun wa T _ => session_Last_spec (pT _ T) ok client) (fun w6 T _ => ⟨_, rfl, ?_⟩)
  refine CallL.vA T Anc.start (fun wa T _ => ref26_Last_spec (pR _ T) ok client) (fun w7 T _ => ⟨_, rfl, ?_⟩)
  refine ifbnd (fun h => absurd rfl h) (fun _ => ?_)
  have zz := T.t.size
  refine CallL.pA T Anc.start (fun wa T _ => session_Lasts_spec (pT _ T) ok) ?_
  rintro wa v w8 T t1 z1 z2 zl1 ⟨s1, rfl, o1, f1⟩
  refine ⟨_, rfl, ?_⟩
  have g1 : ∀ i, s1.on i → i < w8.heap.size ∧ i ∉ blk [⟨b1, (tfind t client number).1.cells, t_api_Reply⟩, ⟨b2, (tfind t client number).1.cells, t_api_Reply⟩] := fun i hi => ⟨o1.lt hi, fun hm => by have := zl1 i hm; have := f1 i hi; omega⟩
  refine CallL.pA T Anc.start (fun wa T _ => ref26_Lasts_spec (pR _ T) ok) ?_
  rintro wa2 v w9 T t2 z3 z4 zl2 ⟨s2, rfl, o2, f2⟩
  refine ⟨_, rfl, ?_⟩
  replace o1 := o1.tr t2 (fun i hi => (g1 i hi).2)
  have g2 : ∀ i, s2.on i → i ∉ blk [⟨b1, (tfind t client number).1.cells, t_api_Reply⟩, ⟨b2, (tfind t client number).1.cells, t_api_Reply⟩] := fun i hi hm => by have := zl2 i hm; have := f2 i hi; omega
  refine CallL.vA T Anc.start (fun wa T ta => ref24_SameInts_spec ((o1.tr ta (fun i hi => (g1 i hi).2)).rd intC_len) ((o2.tr ta g2).rd intC_len) (by rw [List.length_map, ok.len]; omega)) (fun w10 T _ => ⟨_, rfl, ?_⟩)
  refine ifbn (fun h => by simp at h) (fun _ => ?_)
  refine Reb.A T Anc.start (fun w11 T _ => ?_)
  unfold C_cellplanelaw26_sameR_4
  refine Reb.A T Anc.start (fun w12 T _ => ?_)
  unfold C_cellplanelaw26_sameR_6
  refine ⟨fun x w' => ∃ k : Nat, x.2.2 = (k : Int) ∧ 1 ≤ k ∧ k ≤ 9 ∧ Now noB w w', fun x => 9 - x.2.2.toNat, ?_, ?_⟩
  · exact Reb.A T Anc.start (fun w13 T _ => ⟨1, rfl, by omega, by omega, T⟩)
  rintro ⟨xa, xb, x⟩ wb ⟨k, hx, h1, h9, T⟩
  simp only at hx
  subst hx
  unfold L_cellplanelaw26_sameR_7
  dsimp only
  unfold B_cellplanelaw26_sameR_7
  refine ifbd (fun h8 => ?_) (fun h8 => ?_)
  · refine Reb.A T Anc.start (fun w14 T _ => ?_)
    unfold C_cellplanelaw26_sameR_8
    refine Reb.A T Anc.start (fun w15 T _ => ?_)
    unfold C_cellplanelaw26_sameR_10
    refine ⟨fun x w' => -1 ≤ x.2.2 ∧ x.2.2 ≤ 3 ∧ Now noB w w', fun x => (3 - x.2.2).toNat, ?_, ?_⟩
    · exact Reb.A T Anc.start (fun w16 T _ => ⟨by simp only; omega, by simp only; omega, T⟩)
    rintro ⟨ya, yb, y⟩ wc ⟨hy1, hy3, T⟩
    simp only at hy1 hy3
    unfold L_cellplanelaw26_sameR_11
    dsimp only
    unfold B_cellplanelaw26_sameR_11
    refine ifbd (fun hy => ?_) (fun hy => ?_)
    · refine CallL.vA T Anc.start (fun wa T _ => ref26_Last_spec (pR _ T) ok _) (fun w17 T _ => ⟨_, rfl, ?_⟩)
      refine CallL.vA T Anc.start (fun wa T _ => session_Find_spec (pT _ T) ok _ _) (fun w18 T _ => ⟨_, _, rfl, ?_⟩)
      refine CallL.vA T Anc.start (fun wa T _ => ref26_Last_spec (pR _ T) ok _) (fun w19 T _ => ⟨_, rfl, ?_⟩)
      refine CallL.vA T Anc.start (fun wa T _ => ref26_Find_spec (pR _ T) ok _ _) (fun w20 T _ => ⟨_, _, rfl, ?_⟩)
      refine ifbn (fun h => by rw [eqb_refl] at h; cases h) (fun _ => ?_)
      refine ifbnd (fun h => absurd rfl h) (fun _ => ?_)
      refine Reb.A T Anc.start (fun w21 T _ => ⟨rfl, ⟨?_, ?_, T⟩, ?_⟩)
      · simp only; rw [wrap_i64 (by omega) (by omega)]; omega
      · simp only; rw [wrap_i64 (by omega) (by omega)]; omega
      · simp only; rw [wrap_i64 (by omega) (by omega)]; omega
    · refine Reb.A T Anc.start (fun w17 T _ => ?_)
      unfold C_cellplanelaw26_sameR_9
      have step : IntKind.i64.wrap ((k : Int) + 1) = ((k + 1 : Nat) : Int) := by rw [wrap_i64 (by omega) (by omega)]; simp
      exact Reb.A T Anc.start (fun w18 T _ => ⟨rfl, ⟨k + 1, step, by omega, by omega, T⟩, by simp only [step]; omega⟩)
  · refine Reb.A T Anc.start (fun w14 T _ => ?_)
    unfold C_cellplanelaw26_sameR_5
    exact Reb.A T Anc.start (fun w15 T _ => ⟨T.t, rfl⟩)

end Go.Sh
