/- Disks and journals in memory: what is known of them, and rules; the program's disk.
   Conditions: none. -/
import Derived.Test.YtoenaheehpjmiaaU3
namespace Go.Sh
open Go
set_option linter.unusedSimpArgs false
set_option linter.unusedVariables false
set_option maxHeartbeats 2000000

theorem Own.takeN {α : Type} {c : α → List Value} {k : Nat} {e : TypeId} {w : World} {s : Sl} {xs : List α} (h : Own c k e w s xs) (hk : ∀ x, (c x).length = k) {i : Nat} (hi : i ≤ xs.length) : Own c k e w ⟨s.a, i, s.c⟩ (xs.take i) := by
  refine ⟨by simp [hi], ?_⟩
  rcases h.2 with hs | ⟨b, cs, ha, hb, hc, hm, hl, ht⟩
  · have := h.1
    rw [hs] at this ⊢
    simp only at this
    exact .inl (by rw [show i = 0 by omega])
  · have hn := h.1
    refine .inr ⟨b, cs, ha, hb, by simp only; omega, hm, hl, ?_⟩
    simp only
    rw [← flat_take hk, ← ht, List.take_take, Nat.min_eq_left (Nat.mul_le_mul_right _ (by omega))]

/-- a disk: its slice of bytes, and how many of them are durable -/
structure DAt (Td : TypeId) (w : World) (bd : Nat) (sl : Sl) (B : List UInt8) (d : Nat) : Prop where
  c : Blk w bd [.slice sl.a sl.n sl.c, .int .i64 (d : Int)] Td
  s : Own byteC 1 t_u8 w sl B
  n : ¬ sl.on bd
/-- what may turn of a disk -/
def dOn (bd : Nat) (sl : Sl) : Nat → Prop := fun b => b = bd ∨ sl.on b
section
variable {Td : TypeId} {w w' : World} {bd : Nat} {sl : Sl} {B : List UInt8} {d : Nat} {S : Nat → Prop}
theorem DAt.tr (h : DAt Td w bd sl B d) (t : Touch S w w') (hd : ∀ b, dOn bd sl b → ¬ S b) : DAt Td w' bd sl B d :=
  ⟨h.c.tr t (fun b hb => hd b (.inl hb)), h.s.tr t (fun b hb => hd b (.inr hb)), h.n⟩
theorem DAt.lt (h : DAt Td w bd sl B d) {b : Nat} (hb : dOn bd sl b) : b < w.heap.size := by
  rcases hb with rfl | hb
  · exact h.c.lt
  · exact h.s.lt hb
end
/-- a disk behind a call -/
def DP (Td : TypeId) (w : World) (bd : Nat) (sl : Sl) (B : List UInt8) (d : Nat) (w' : World) : Prop := ∃ sl', DAt Td w' bd sl' B d ∧ ∀ b, sl'.on b → sl.on b ∨ w.heap.size ≤ b

section
variable {w : World} {bd : Nat} {sl : Sl} {B : List UInt8} {d : Nat}

/-- a new slice laid into the disk's block -/
theorem dput {Td : TypeId} {w0 w1 : World} {sl0 s' : Sl} {B' : List UInt8} {K : World → Prop} (T : Now (dOn bd sl0) w0 w1) (c1 : Blk w1 bd [.slice sl.a sl.n sl.c, .int .i64 (d : Int)] Td) (o : Own byteC 1 t_u8 w1 s' B') (nb : ¬ s'.on bd)
    (k : ∀ w2, Now (dOn bd sl0) w0 w2 → DAt Td w2 bd s' B' d → K w2) : StL w1 [] ⟨bd, 0, none⟩ [.slice s'.a s'.n s'.c] K := by
  refine ⟨c1.room (by simp), notIn_nil, ?_⟩
  have tp := (Touch.refl (fun b => b = bd) w1).putC (p := ⟨bd, 0, none⟩) (cs := [.slice s'.a s'.n s'.c]) (fun _ => rfl)
  exact k _ (T.putC (p := ⟨bd, 0, none⟩) (cs := [.slice s'.a s'.n s'.c]) (fun _ => .inl rfl)) ⟨c1.putC 0 [.slice s'.a s'.n s'.c], o.tr tp (fun b hb e => nb (e ▸ hb)), nb⟩
/-- another number of durable bytes -/
theorem dputN {Td : TypeId} {w0 w1 : World} {sl0 : Sl} {n : Int} {d' : Nat} {K : World → Prop} (T : Now (dOn bd sl0) w0 w1) (D : DAt Td w1 bd sl B d) (hn : n = (d' : Int))
    (k : ∀ w2, Now (dOn bd sl0) w0 w2 → DAt Td w2 bd sl B d' → K w2) : StL w1 [] (addA ⟨bd, 0, none⟩ 1) [.int .i64 n] K := by
  subst hn
  refine ⟨D.c.room (o := 1) (by simp), notIn_nil, ?_⟩
  have tp := (Touch.refl (fun b => b = bd) w1).putC (p := ⟨bd, 1, none⟩) (cs := [.int .i64 (d' : Int)]) (fun _ => rfl)
  exact k _ (T.putC (p := ⟨bd, 1, none⟩) (cs := [.int .i64 (d' : Int)]) (fun _ => .inl rfl)) ⟨D.c.putC 1 [.int .i64 (d' : Int)], D.s.tr tp (fun b hb e => D.n (e ▸ hb)), D.n⟩
theorem dfin {Td : TypeId} {w1 : World} {s' : Sl} {B' : List UInt8} {d' : Nat} {v : Value} (T : Now (dOn bd sl) w w1) (D : DAt Td w1 bd s' B' d') (f : ∀ b, s'.on b → sl.on b ∨ w.heap.size ≤ b) :
    Reb w.heap.size w1 [] ((fun v' w' => Touch (dOn bd sl) w w' ∧ (v' = v ∧ DP Td w bd sl B' d' w')) v) :=
  Reb.A T Anc.nil (fun w3 T t3 => ⟨T.t, rfl, s', D.tr t3 (by simp [blk]), f⟩)

theorem disk_New_spec (w : World) : Spec PP n_disk_New [] w noB (fun v w' => ∃ bd, v = .pointer (some ⟨bd, 0, none⟩) ∧ DAt t_disk_Disk w' bd ⟨none, 0, 0⟩ [] 0 ∧ w.heap.size ≤ bd) := by
  refine disk_New_calls _ w ?_
  unfold F_disk_New
  have T : Now noB w w := Now.refl
  refine NewL.A T Anc.nil (fun b w1 T t h1 l1 => ?_)
  exact Reb.A T Anc.nil (fun w2 T t2 => ⟨T.t, b, rfl, ⟨Blk.tr (cs := [.slice none 0 0, .int .i64 ((0 : Nat) : Int)]) h1 t2 (by simp [blk]), Own.nil, by simp⟩, l1.1⟩)

theorem disk_Append_spec {s : Sl} {p : List UInt8} (D : DAt t_disk_Disk w bd sl B d) (hr : Rd byteC 1 w s p) (hc : s.a = none → s.c = 0) (hl : B.length + p.length ≤ 100000000) :
    Spec PP n_disk_Disk_Append [.pointer (some ⟨bd, 0, none⟩), .slice s.a s.n s.c] w (dOn bd sl) (fun v w' => v = .tuple #[] ∧ DP t_disk_Disk w bd sl (B ++ p) d w') := by
  refine disk_Disk_Append_calls (some ⟨bd, 0, none⟩) s _ w ?_
  unfold F_disk_Disk_Append
  have T : Now (dOn bd sl) w w := Now.refl
  have hn := D.s.1
  have hn2 := hr.1
  refine nilL ⟨sl, D.c.at 0 rfl, notIn_nil, ?_⟩
  refine RunL.appA T Anc.nil el_sl_u8.t (by decide) byteC_len byteC_one D.s hr hc (by omega) (fun b _ hb => .inr hb) (by simp [blk]) (by simp [blk]) (fun s' w1 T t o f n => ⟨s', rfl, ?_⟩)
  have c1 := D.c.tr t (by
    rintro c rfl (hm | hm)
    · simp [blk] at hm
    · exact D.n hm)
  have nb : ¬ s'.on bd := fun h => (f bd h).elim D.n (fun h => by have := D.c.lt; omega)
  exact nilL (dput T c1 o nb (fun w2 T D => dfin T D f))

theorem disk_Sync_spec (D : DAt t_disk_Disk w bd sl B d) : Spec PP n_disk_Disk_Sync [.pointer (some ⟨bd, 0, none⟩)] w (dOn bd sl) (fun v w' => v = .tuple #[] ∧ DP t_disk_Disk w bd sl B B.length w') := by
  refine disk_Disk_Sync_calls (some ⟨bd, 0, none⟩) _ w ?_
  unfold F_disk_Disk_Sync
  have T : Now (dOn bd sl) w w := Now.refl
  refine nilL ⟨sl, D.c.at 0 rfl, notIn_nil, ?_⟩
  exact nilL (dputN T D (by rw [D.s.1]) (fun w2 T D => dfin T D (fun b hb => .inl hb)))

theorem disk_Truncate_spec (D : DAt t_disk_Disk w bd sl B d) {a : Nat} (ha : a ≤ B.length) : Spec PP n_disk_Disk_Truncate [.pointer (some ⟨bd, 0, none⟩), .int .i64 (a : Int)] w (dOn bd sl) (fun v w' => v = .int .i64 0 ∧ DP t_disk_Disk w bd sl (B.take a) (min d a) w') := by
  refine disk_Disk_Truncate_calls (some ⟨bd, 0, none⟩) (a : Int) _ w ?_
  unfold F_disk_Disk_Truncate
  have T : Now (dOn bd sl) w w := Now.refl
  have hn := D.s.1
  have hcap := D.s.cap.1
  refine ifbd (fun h => absurd h (by omega)) (fun _ => ?_)
  refine nilL ⟨sl, D.c.at 0 rfl, notIn_nil, ?_⟩
  refine ifbd (fun h => absurd h (by omega)) (fun _ => ?_)
  refine nilL ⟨sl, D.c.at 0 rfl, notIn_nil, by omega, by omega, ?_⟩
  refine nilL (dput (s' := ⟨sl.a, a, sl.c⟩) T D.c (D.s.takeN byteC_len ha) (fun h => D.n h) (fun w2 T D2 => ?_))
  refine nilL ⟨d, D2.c.at 1 rfl, notIn_nil, ?_⟩
  exact nilL (dputN (d' := min d a) T D2 (by split <;> omega) (fun w2 T D => dfin T D (fun b hb => .inl hb)))

theorem disk_Bytes_spec (D : DAt t_disk_Disk w bd sl B d) (hl : B.length ≤ 100000000) : Spec PP n_disk_Disk_Bytes [.pointer (some ⟨bd, 0, none⟩)] w noB (FrB w B) := by
  refine disk_Disk_Bytes_calls (some ⟨bd, 0, none⟩) _ w ?_
  unfold F_disk_Disk_Bytes
  have T : Now noB w w := Now.refl
  have hn := D.s.1
  have hcap := D.s.cap
  refine nilL ⟨sl, D.c.at 0 rfl, notIn_nil, nilL ⟨sl, D.c.at 0 rfl, notIn_nil, by omega, by omega, ?_⟩⟩
  have h0 : Own byteC 1 t_u8 w ⟨none, 0, 0⟩ [] := Own.nil
  refine RunL.appA T Anc.nil el_sl_u8.t (by decide) byteC_len byteC_one h0 (q := sl.a) (m := Int.toNat ((sl.n : Nat) : Int)) (cap := sl.c) (ys := B) (D.s.rd byteC_len) hcap.2 (by simp; omega) (by simp) (by simp [blk]) (by simp [blk]) (fun s' w1 T t o f n => ⟨s', rfl, ?_⟩)
  refine Reb.A T Anc.nil (fun w3 T t3 => ⟨T.t, s', rfl, by simpa using o.tr t3 n, fun b hb => ?_⟩)
  rcases f b hb with h | h
  · simp at h
  · exact h

/-- how many bytes a crash leaves -/
def keepD (n d : Nat) (keep : Int) : Nat := d + (min keep ((n : Int) - d)).toNat
theorem disk_Crash_spec (D : DAt t_disk_Disk w bd sl B d) (hd : d ≤ B.length) (hl : B.length ≤ 100000000) (keep : Int) : Spec PP n_disk_Disk_Crash [.pointer (some ⟨bd, 0, none⟩), .int .i64 keep] w (dOn bd sl)
    (fun v w' => v = .tuple #[] ∧ DP t_disk_Disk w bd sl (B.take (keepD B.length d keep)) (keepD B.length d keep) w') := by
  refine disk_Disk_Crash_calls (some ⟨bd, 0, none⟩) keep _ w ?_
  unfold F_disk_Disk_Crash
  have T : Now (dOn bd sl) w w := Now.refl
  have hn := D.s.1
  have hcap := D.s.cap.1
  refine nilL ⟨sl, D.c.at 0 rfl, notIn_nil, nilL ⟨d, D.c.at 1 rfl, notIn_nil, nilL ⟨sl, D.c.at 0 rfl, notIn_nil, nilL ⟨d, D.c.at 1 rfl, notIn_nil, ?_⟩⟩⟩⟩
  have e : IntKind.i64.wrap ((d : Int) + (if (if (IntKind.i64.wrap (((sl.n : Nat) : Int) - d)) < keep then (IntKind.i64.wrap (((sl.n : Nat) : Int) - d)) else keep) > 0 then (if (IntKind.i64.wrap (((sl.n : Nat) : Int) - d)) < keep then (IntKind.i64.wrap (((sl.n : Nat) : Int) - d)) else keep) else 0)) = ((keepD B.length d keep : Nat) : Int) := by
    rw [wrap_i64 (x := ((sl.n : Nat) : Int) - d) (by omega) (by omega)]
    unfold keepD
    rw [hn]
    split <;> split <;> rw [wrap_i64 (by omega) (by omega)] <;> omega
  have hk : keepD B.length d keep ≤ B.length := by unfold keepD; omega
  rw [e]
  refine ⟨by omega, by omega, ?_⟩
  refine nilL (dput (s' := ⟨sl.a, keepD B.length d keep, sl.c⟩) T D.c (D.s.takeN byteC_len hk) (fun h => D.n h) (fun w2 T D2 => ?_))
  refine nilL ⟨⟨sl.a, keepD B.length d keep, sl.c⟩, D2.c.at 0 rfl, notIn_nil, ?_⟩
  exact nilL (dputN (d' := keepD B.length d keep) T D2 rfl (fun w2 T D => dfin T D (fun b hb => .inl hb)))

theorem disk_Copy_spec (D : DAt t_disk_Disk w bd sl B d) (hl : B.length ≤ 100000000) : Spec PP n_disk_Disk_Copy [.pointer (some ⟨bd, 0, none⟩)] w noB (fun v w' => ∃ bd' sl', v = .pointer (some ⟨bd', 0, none⟩) ∧ DAt t_disk_Disk w' bd' sl' B d ∧ ∀ b, dOn bd' sl' b → w.heap.size ≤ b) := by
  refine disk_Disk_Copy_calls (some ⟨bd, 0, none⟩) _ w ?_
  unfold F_disk_Disk_Copy
  have T : Now noB w w := Now.refl
  refine nilL ⟨d, D.c.at 1 rfl, notIn_nil, ?_⟩
  refine CallL.pA T Anc.nil (fun wa T _ => disk_Bytes_spec (D.tr T.t (by simp [noB])) hl) ?_
  rintro wa v w1 T t z1 z2 _ ⟨s1, rfl, o1, f1⟩
  refine ⟨s1, rfl, (D.tr T.t (by simp [noB])).c.at 1 rfl, ?_⟩
  refine NewL.A T Anc.nil (fun b w2 T t2 h2 l2 => ?_)
  have hn : ¬ s1.on b := fun h => by have := o1.lt h; omega
  refine Reb.A T Anc.nil (fun w3 T t3 => ⟨T.t, b, s1, rfl, ⟨Blk.tr (cs := [.slice s1.a s1.n s1.c, .int .i64 (d : Int)]) h2 t3 (by simp [blk]), (o1.tr t2 (by simp [blk])).tr t3 (by simp [blk]), hn⟩, ?_⟩)
  rintro b' (rfl | hb')
  · exact l2.1
  · have := f1 b' hb'; omega
end

end Go.Sh
