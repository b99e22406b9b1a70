/- Contracts of the reference's queue: drop, Copy.
   Conditions: none. -/
import Derived.Test.YtcligpfkmnlhnaaSI
namespace Go.Sh
open Go
set_option linter.unusedSimpArgs false
set_option linter.unusedVariables false

def dropM (item : Int) (ls : List Lea) : List Lea := ls.filter (fun x => decide (x.Item ≠ item))

theorem queue25_drop_spec {w : World} {q : Nat} {s r : Sl} {xs : List Itm} {ls : List Lea} {most : Int} (h : QueueAt w q s xs r ls most) (hm : ls.length < 1000000) (item : Int) : Spec PP n_cellplaneref25_Queue_drop [.pointer (some ⟨q, 0, none⟩), .int .i64 item] w (fun i => i = q)
    (fun v w' => v = .tuple #[] ∧ ∃ r', QueueAt w' q s xs r' (dropM item ls) most ∧ (∀ c, r'.on c → w.heap.size ≤ c)) := by
  refine cellplaneref25_Queue_drop_calls (some ⟨q, 0, none⟩) item _ w ?_
  unfold F_cellplaneref25_Queue_drop
  have T : Now (fun i => i = q) w w := Now.refl
  have hq := h.at_.lt
  have hlen := h.rr.rd.1
  have E := el_sl_api_Lease.t
  refine Reb.use T (Nat.le_refl _) (fun w1 T1 t1 _ => ?_)
  have h1 := h.touch t1 (by simp [blk]) (by simp [blk]) (by simp [blk])
  unfold C_cellplaneref25_Queue_drop_1
  refine nilL ⟨r, h1.at_.at 1 rfl, notIn_nil, ?_⟩
  refine Reb.use T1 (Nat.le_refl _) (fun w2 T2 t2 _ => ?_)
  have h2 := h1.touch t2 (by simp [blk]) (by simp [blk]) (by simp [blk])
  unfold C_cellplaneref25_Queue_drop_3
  refine ⟨fun x w' => ∃ m : Nat, x.2 = m ∧ m ≤ ls.length ∧ Now (fun i => i = q) w w' ∧ QueueAt w' q s xs r ls most ∧ Own leC 4 t_api_Lease w' x.1 (dropM item (ls.take m)) ∧ (∀ c, x.1.on c → w.heap.size ≤ c), fun x => ls.length - x.2.toNat, ?_, ?_⟩
  · exact Reb.use T2 (Nat.le_refl _) (fun w3 T3 t3 _ => ⟨0, rfl, Nat.zero_le _, T3, h2.touch t3 (by simp [blk]) (by simp [blk]) (by simp [blk]), by simpa [dropM] using Own.nil, by simp⟩)
  · rintro ⟨sl, x⟩ wb ⟨m, rfl, hml, Tb, hb, ho, hon⟩
    unfold L_cellplaneref25_Queue_drop_4
    dsimp only
    unfold B_cellplaneref25_Queue_drop_4
    simp only at ho hon
    refine ifbd (fun h1 => ?_) (fun h1 => ?_)
    · refine hb.rr.rd.idx (by omega) (by omega) (fun p x hp hx hat => ?_)
      rw [Int.toNat_natCast] at hx
      refine ⟨x, hat, notIn_nil, fun b5 hb5 => ?_⟩
      have hbq := hb.at_.lt
      have sb : ∀ c, s.on c → c ≠ b5 := fun c hc e => by have := hb.ll.lt c hc; omega
      have rb : ∀ c, r.on c → c ≠ b5 := fun c hc e => by have := hb.rr.lt c hc; omega
      have ob : ∀ c, sl.on c → c ≠ b5 := fun c hc e => by have := ho.lt hc; omega
      have tk : ls.take (m + 1) = ls.take m ++ [x] := by rw [List.take_add_one, hx]; rfl
      have step : IntKind.i64.wrap ((m : Int) + 1) = ((m + 1 : Nat) : Int) := by rw [wrap_i64 (by omega) (by omega)]; simp
      refine ifbnd (fun h3 => ?_) (fun h3 => ?_)
      · refine NewL.use Tb (Nat.le_refl _) (fun b6 w7 g1 g2 T7 t7 hb6 hl6 n6 => ?_)
        have b6b : b6 ≠ b5 := by simpa [blk] using n6
        have h7 := hb.touch t7 (by simp [blk]; omega) (fun c hc => by simp [blk]; exact sb c hc) (fun c hc => by simp [blk]; exact rb c hc)
        have o7 := ho.touch t7 (fun c hc => by simp [blk]; exact ob c hc)
        have hlo := o7.1
        have hfl : (dropM item (ls.take m)).length ≤ m := by
          unfold dropM
          exact Nat.le_trans (List.length_filter_le _ _) (by rw [List.length_take]; omega)
        refine RunL.app T7 (Nat.le_refl _) E (by decide) leC_len leC_one o7 (Blk.rd1 (x := x) hb6) (fun h => by cases h) (by omega) (fun c hc hh => by have := hon c hh; omega) (fun c hh => by simp [blk]; exact ob c hh) (fun c hh => by simp at hh; rw [← hh]; exact n6) (fun s2 w8 T8 t8 o8 f8 n8 => ⟨_, rfl, ?_⟩)
        have h8 := h7.touch t8 (by
            simp only [blk, List.mem_singleton]; rintro (hh | hh)
            · omega
            · have := hon q hh; omega) (fun c hc => by
            have := h.ll.lt c hc
            have := sb c hc
            simp only [blk, List.mem_singleton]; rintro (hh | hh)
            · omega
            · have := hon c hh; omega) (fun c hc => by
            have := h.rr.lt c hc
            have := rb c hc
            simp only [blk, List.mem_singleton]; rintro (hh | hh)
            · omega
            · have := hon c hh; omega)
        refine Reb.use T8 (Nat.le_refl _) (fun w9 T9 t9 _ => ⟨rfl, ⟨m + 1, step, by omega, T9, h8.touch t9 (by simp [blk]; omega) (fun c hc => by simp [blk]; exact sb c hc) (fun c hc => by simp [blk]; exact rb c hc), ?_, ?_⟩, ?_⟩)
        · rw [tk]
          have : dropM item (ls.take m ++ [x]) = dropM item (ls.take m) ++ [x] := by simp [dropM, h3]
          rw [this]
          exact o8.touch t9 n8
        · intro c hc
          rcases f8 c hc with hh | hh
          · exact hon c hh
          · have := T7.t.size; omega
        · simp only [step]; omega
      · refine Reb.use Tb (Nat.le_refl _) (fun w9 T9 t9 _ => ⟨rfl, ⟨m + 1, step, by omega, T9, hb.touch t9 (by simp [blk]; omega) (fun c hc => by simp [blk]; exact sb c hc) (fun c hc => by simp [blk]; exact rb c hc), ?_, hon⟩, ?_⟩)
        · rw [tk]
          have : dropM item (ls.take m ++ [x]) = dropM item (ls.take m) := by simp [dropM, h3]
          rw [this]
          exact ho.touch t9 (fun c hc => by simp [blk]; exact ob c hc)
        · simp only [step]; omega
    · have hmx : m = ls.length := by omega
      rw [hmx, List.take_length] at ho
      refine Reb.use Tb (Nat.le_refl _) (fun w5 T5 t5 _ => ?_)
      have h5 := hb.touch t5 (by simp [blk]) (by simp [blk]) (by simp [blk])
      have o5 := ho.touch t5 (by simp [blk])
      unfold C_cellplaneref25_Queue_drop_2
      refine nilL ⟨h5.at_.room (by simp [G_cellplaneref25_Queue.cells, addA]), notIn_nil, ?_⟩
      have tp : Touch (fun i => i = q) w5 (putC w5 (addA ⟨q, 0, none⟩ 1) [.slice sl.a sl.n sl.c]) := (Touch.refl _ _).putC (fun _ => rfl)
      have o6 := o5.touch tp (fun c hc e => by have := hon c hc; omega)
      refine Reb.use (T5.putC (fun _ => rfl)) (Nat.le_refl _) (fun w6 T6 t6 _ => ⟨T6.t, rfl, sl, ?_, hon⟩)
      have hh : QueueAt (putC w5 (addA ⟨q, 0, none⟩ 1) [.slice sl.a sl.n sl.c]) q s xs sl (dropM item ls) most :=
        ⟨h5.at_.putC 1 _, h5.ll.touch tp (fun c hc e => h5.lq (e ▸ hc)), o6.ro leC_len, h5.lq, fun hc => by have := hon q hc; omega⟩
      exact hh.touch t6 (by simp [blk]) (by simp [blk]) (by simp [blk])

end Go.Sh
