/- EntryUnlike: the law's walk.
   Conditions: the list of names stands in its variable (N); the integers are integers of 64 bits. -/
import Derived.Test.YtcligpfkmnlhnaaDoorEC
import Derived.Test.YtcligpfkmnlhnaaDoorEW
namespace Go.Sh
open Go
set_option linter.unusedSimpArgs false
set_option linter.unusedVariables false
set_option maxHeartbeats 2000000

theorem spoil_ok {e : G_api_Entry} {which by_ : Int} (h : ∀ n ∈ flds e, okI n) (hb : okI by_) : ∀ n ∈ flds (spoilM e which by_), okI n := by
  simp only [flds, List.mem_cons, List.not_mem_nil, or_false, forall_eq_or_imp, forall_eq] at h ⊢
  unfold spoilM
  dsimp only
  repeat' split
  all_goals simp only [h, hb, and_self]

theorem ebL_iff {a b : G_api_Entry} : decide (ebL (flds a) = ebL (flds b)) = G_api_Entry.eqb a b := by
  rw [Bool.eq_iff_iff, G_api_Entry.eqb_iff, decide_eq_true_iff]
  exact ⟨fun h => flds_inj (ebL_inj _ _ rfl h), fun h => by rw [h]⟩

theorem EntryUnlike_spec {a b : G_api_Entry} {which by_ : Int} (ha : ∀ n ∈ flds a, okI n) (hb : ∀ n ∈ flds b, okI n) (hy : okI by_) {w : World} (hN : NamesAt w) :
    Spec PP n_cellplanelaw06_EntryUnlike [.agg (List.toArray a.cells), .agg (List.toArray b.cells), .int .i64 which, .int .i64 by_] w noB (fun v _ => v = .bool true) := by
  refine cellplanelaw06_EntryUnlike_calls a b which by_ _ w ?_
  unfold F_cellplanelaw06_EntryUnlike
  have T : Now noB w w := Now.refl
  intro b1 hb1 b2 hb2
  refine CallL.vA T Anc.start (fun wa _ _ => make_Spoilt_spec a which by_ wa) (fun w1 T t => ⟨_, rfl, ?_⟩)
  have hc := spoil_ok (which := which) ha hy
  have z1 := T.t.size
  intro b3 hb3
  have A : Anc noB w w.heap.size [⟨b1, a.cells, t_api_Entry⟩, ⟨b2, b.cells, t_api_Entry⟩, ⟨b3, (spoilM a which by_).cells, t_api_Entry⟩] := Anc.start
  refine CallL.vA T A (fun wa T _ => awake06_spec (hN.now T)) (fun w2 T t => ⟨_, rfl, ?_⟩)
  refine ifb (fun _ => ?_) (fun h => absurd h (by decide))
  refine CallL.pA T A (fun wa _ t => entry_Bytes_spec a ha wa) ?_
  rintro wa v w3 T t3 _ _ ya ⟨s1, rfl, o1, f1⟩
  have n1 : ∀ i, s1.on i → i ∉ blk _ := fun i hi hm => by have := f1 i hi; have := ya i hm; omega
  refine ⟨s1, rfl, ?_⟩
  refine CallL.pA T A (fun wb _ t => entry_Bytes_spec b hb wb) ?_
  rintro wb v w4 T t4 _ _ yb ⟨s2, rfl, o2, f2⟩
  have n2 : ∀ i, s2.on i → i ∉ blk _ := fun i hi hm => by have := f2 i hi; have := yb i hm; omega
  refine ⟨s2, rfl, ?_⟩
  replace o1 := o1.tr t4 n1
  refine CallL.vA T A (fun wc _ t => SameBytes_spec ((o1.tr t n1).rd byteC_len) ((o2.tr t n2).rd byteC_len)) (fun w5 T t => ⟨_, rfl, ?_⟩)
  rw [ebL_iff]
  refine ifb (fun _ => ?_) (fun h => absurd h (by simp))
  refine CallL.pA T A (fun wa _ t => entry_Bytes_spec a ha wa) ?_
  rintro wd v w6 T t6 _ _ yd ⟨s3, rfl, o3, f3⟩
  have n3 : ∀ i, s3.on i → i ∉ blk _ := fun i hi hm => by have := f3 i hi; have := yd i hm; omega
  refine ⟨s3, rfl, ?_⟩
  refine CallL.pA T A (fun wb _ t => entry_Bytes_spec _ hc wb) ?_
  rintro we v w7 T t7 _ _ ye ⟨s4, rfl, o4, f4⟩
  have n4 : ∀ i, s4.on i → i ∉ blk _ := fun i hi hm => by have := f4 i hi; have := ye i hm; omega
  refine ⟨s4, rfl, ?_⟩
  replace o3 := o3.tr t7 n3
  refine CallL.vA T A (fun wc _ t => SameBytes_spec ((o3.tr t n3).rd byteC_len) ((o4.tr t n4).rd byteC_len)) (fun w8 T t => ⟨_, rfl, ?_⟩)
  rw [ebL_iff]
  exact Reb.A T A (fun w9 T t => ⟨T.t, by simp⟩)

end Go.Sh
