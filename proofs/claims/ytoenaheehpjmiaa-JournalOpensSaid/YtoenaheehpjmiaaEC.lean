/- Contracts of the program's test of entries: the closures, fits, Shape.
   Conditions: none. -/
import Derived.Test.YtoenaheehpjmiaaEB
namespace Go.Sh
open Go
set_option linter.unusedSimpArgs false
set_option linter.unusedVariables false
set_option maxHeartbeats 8000000

/-- the four variables of 'fits' -/
structure FS (w : World) (be bz bp bo : Nat) (e : G_api_Entry) (z : G_entry_sizes) (pl : G_api_Entry) (ok : Bool) : Prop where
  e_ : Blk w be e.cells t_api_Entry
  z_ : Blk w bz z.cells t_entry_sizes
  p_ : Blk w bp pl.cells t_api_Entry
  o_ : Blk w bo [.bool ok] t_bool
  d : be ≠ bp ∧ be ≠ bo ∧ bz ≠ bp ∧ bz ≠ bo ∧ bp ≠ bo

section
variable {w w' w0 : World} {be bz bp bo : Nat} {e pl : G_api_Entry} {z : G_entry_sizes} {ok : Bool}

theorem FS.tr {S : Nat → Prop} (h : FS w be bz bp bo e z pl ok) (t : Touch S w w') (hd : ∀ c, (c = be ∨ c = bz ∨ c = bp ∨ c = bo) → ¬ S c) : FS w' be bz bp bo e z pl ok :=
  ⟨h.e_.touch t (hd _ (.inl rfl)), h.z_.touch t (hd _ (.inr (.inl rfl))), h.p_.touch t (hd _ (.inr (.inr (.inl rfl)))), h.o_.touch t (hd _ (.inr (.inr (.inr rfl)))), h.d⟩
theorem FS.n (h : FS w be bz bp bo e z pl ok) (t : Touch (fun b => b ∈ blk []) w w') : FS w' be bz bp bo e z pl ok := h.tr t (by simp [blk])

theorem FS.putP (h : FS w be bz bp bo e z pl ok) (o : Nat) (v : Value) {pl' : G_api_Entry} (he : lspl pl.cells o [v] = pl'.cells) : FS (putC w ⟨bp, o, none⟩ [v]) be bz bp bo e z pl' ok :=
  ⟨h.e_.putO (fun x => h.d.1 x.symm) _, h.z_.putO (fun x => h.d.2.2.1 x.symm) _, he ▸ h.p_.putC o [v], h.o_.putO h.d.2.2.2.2 _, h.d⟩
theorem FS.putP3 (h : FS w be bz bp bo e z pl ok) (v : Int) : FS (putC w ⟨bp, 3, none⟩ [.int .i64 v]) be bz bp bo e z { pl with Cell := v } ok := h.putP 3 (.int .i64 v) rfl
theorem FS.putP4 (h : FS w be bz bp bo e z pl ok) (v : Int) : FS (putC w ⟨bp, 4, none⟩ [.int .i64 v]) be bz bp bo e z { pl with Other := v } ok := h.putP 4 (.int .i64 v) rfl
theorem FS.putP6 (h : FS w be bz bp bo e z pl ok) (v : Int) : FS (putC w ⟨bp, 6, none⟩ [.int .i64 v]) be bz bp bo e z { pl with From := v } ok := h.putP 6 (.int .i64 v) rfl
theorem FS.putP7 (h : FS w be bz bp bo e z pl ok) (v : Int) : FS (putC w ⟨bp, 7, none⟩ [.int .i64 v]) be bz bp bo e z { pl with Until := v } ok := h.putP 7 (.int .i64 v) rfl
theorem FS.putO (h : FS w be bz bp bo e z pl ok) (b : Bool) : FS (putC w ⟨bo, 0, none⟩ [.bool b]) be bz bp bo e z pl b :=
  ⟨h.e_.putO (fun x => h.d.2.1 x.symm) _, h.z_.putO (fun x => h.d.2.2.2.1 x.symm) _, h.p_.putO (fun x => h.d.2.2.2.2 x.symm) _, h.o_.putC 0 [.bool b], h.d⟩

theorem FS.roomP (h : FS w be bz bp bo e z pl ok) {o : Nat} (ho : o + 1 ≤ 9) : RoomAt w ⟨bp, o, none⟩ 1 := h.p_.room (by simpa [G_api_Entry.cells] using ho)
theorem FS.roomO (h : FS w be bz bp bo e z pl ok) : RoomAt w ⟨bo, 0, none⟩ 1 := h.o_.room (by simp)
end

abbrev poS (bp bo : Nat) : Nat → Prop := fun i => i = bp ∨ i = bo

theorem fits1_spec {w : World} {be bz bp bo : Nat} {e pl : G_api_Entry} {z : G_entry_sizes} {ok : Bool} (h : FS w be bz bp bo e z pl ok) : Spec PP n_entry_fits_1 [.pointer (some ⟨be, 0, none⟩), .pointer (some ⟨bo, 0, none⟩), .pointer (some ⟨bz, 0, none⟩), .pointer (some ⟨bp, 0, none⟩)] w (poS bp bo)
    (fun v w' => v = .tuple #[] ∧ FS w' be bz bp bo e z { pl with Tenant := e.Tenant } (ok && idxM e.Tenant z.tenants)) := by
  refine entry_fits_1_calls ⟨be, 0, none⟩ ⟨bo, 0, none⟩ ⟨bz, 0, none⟩ ⟨bp, 0, none⟩ _ w ?_
  unfold F_entry_fits_1
  have T : Now (poS bp bo) w w := Now.refl
  refine ⟨e.Tenant, h.e_.at 2 rfl, notIn_nil, ok, h.o_.at 0 rfl, notIn_nil, ?_⟩
  refine ifb (fun ho => ?_) (fun ho => ?_)
  · subst ho
    refine ⟨e.Tenant, h.e_.at 2 rfl, notIn_nil, z.tenants, h.z_.at 0 rfl, notIn_nil, ?_⟩
    refine CallL.vA T Anc.nil (fun wa _ _ => entry_index_spec _ _ wa) (fun w1 T t => ⟨_, rfl, ?_⟩)
    have h := h.n t
    refine ⟨h.e_.at 2 rfl, h.roomP (o := 2) (by omega), notIn_nil, ?_⟩
    have h := h.putP 2 (.int .i64 e.Tenant) (pl' := { pl with Tenant := e.Tenant }) rfl
    refine ⟨h.roomO, notIn_nil, ?_⟩
    have h := h.putO (idxM e.Tenant z.tenants)
    have T := (T.putC (p := addA ⟨bp, 0, none⟩ 2) (cs := [.int .i64 e.Tenant]) (fun _ => .inl rfl)).putC (p := ⟨bo, 0, none⟩) (cs := [.bool (idxM e.Tenant z.tenants)]) (fun _ => .inr rfl)
    refine Reb.A T Anc.nil (fun w2 T t => ⟨T.t, rfl, ?_⟩)
    exact h.n t
  · subst ho
    refine ⟨h.roomP (o := 2) (by omega), notIn_nil, ?_⟩
    have h := h.putP 2 (.int .i64 e.Tenant) (pl' := { pl with Tenant := e.Tenant }) rfl
    refine ⟨h.roomO, notIn_nil, ?_⟩
    have h := h.putO false
    have T := (T.putC (p := addA ⟨bp, 0, none⟩ 2) (cs := [.int .i64 e.Tenant]) (fun _ => .inl rfl)).putC (p := ⟨bo, 0, none⟩) (cs := [.bool false]) (fun _ => .inr rfl)
    refine Reb.A T Anc.nil (fun w2 T t => ⟨T.t, rfl, ?_⟩)
    exact h.n t

theorem fits2_spec {w : World} {be bz bp bo : Nat} {e pl : G_api_Entry} {z : G_entry_sizes} {ok : Bool} (h : FS w be bz bp bo e z pl ok) : Spec PP n_entry_fits_2 [.pointer (some ⟨be, 0, none⟩), .pointer (some ⟨bo, 0, none⟩), .pointer (some ⟨bz, 0, none⟩), .pointer (some ⟨bp, 0, none⟩)] w (poS bp bo)
    (fun v w' => v = .tuple #[] ∧ FS w' be bz bp bo e z { pl with Cell := e.Cell } (ok && idxM e.Cell z.cells_)) := by
  refine entry_fits_2_calls ⟨be, 0, none⟩ ⟨bo, 0, none⟩ ⟨bz, 0, none⟩ ⟨bp, 0, none⟩ _ w ?_
  unfold F_entry_fits_2
  have T : Now (poS bp bo) w w := Now.refl
  refine ⟨e.Cell, h.e_.at 3 rfl, notIn_nil, ok, h.o_.at 0 rfl, notIn_nil, ?_⟩
  refine ifb (fun ho => ?_) (fun ho => ?_)
  · subst ho
    refine ⟨e.Cell, h.e_.at 3 rfl, notIn_nil, z.cells_, h.z_.at 1 rfl, notIn_nil, ?_⟩
    refine CallL.vA T Anc.nil (fun wa _ _ => entry_index_spec _ _ wa) (fun w1 T t => ⟨_, rfl, ?_⟩)
    have h := h.n t
    refine ⟨h.e_.at 3 rfl, h.roomP (o := 3) (by omega), notIn_nil, ?_⟩
    have h := h.putP 3 (.int .i64 e.Cell) (pl' := { pl with Cell := e.Cell }) rfl
    refine ⟨h.roomO, notIn_nil, ?_⟩
    have h := h.putO (idxM e.Cell z.cells_)
    have T := (T.putC (p := addA ⟨bp, 0, none⟩ 3) (cs := [.int .i64 e.Cell]) (fun _ => .inl rfl)).putC (p := ⟨bo, 0, none⟩) (cs := [.bool (idxM e.Cell z.cells_)]) (fun _ => .inr rfl)
    refine Reb.A T Anc.nil (fun w2 T t => ⟨T.t, rfl, ?_⟩)
    exact h.n t
  · subst ho
    refine ⟨h.roomP (o := 3) (by omega), notIn_nil, ?_⟩
    have h := h.putP 3 (.int .i64 e.Cell) (pl' := { pl with Cell := e.Cell }) rfl
    refine ⟨h.roomO, notIn_nil, ?_⟩
    have h := h.putO false
    have T := (T.putC (p := addA ⟨bp, 0, none⟩ 3) (cs := [.int .i64 e.Cell]) (fun _ => .inl rfl)).putC (p := ⟨bo, 0, none⟩) (cs := [.bool false]) (fun _ => .inr rfl)
    refine Reb.A T Anc.nil (fun w2 T t => ⟨T.t, rfl, ?_⟩)
    exact h.n t

theorem fits3_spec {w : World} {be bz bp bo : Nat} {e pl : G_api_Entry} {z : G_entry_sizes} {ok : Bool} (h : FS w be bz bp bo e z pl ok) (lo hi : Int) : Spec PP n_entry_fits_3 [.int .i64 lo, .int .i64 hi, .pointer (some ⟨be, 0, none⟩), .pointer (some ⟨bo, 0, none⟩), .pointer (some ⟨bp, 0, none⟩)] w (poS bp bo)
    (fun v w' => v = .tuple #[] ∧ FS w' be bz bp bo e z { pl with N := e.N } (ok && inM e.N lo hi)) := by
  refine entry_fits_3_calls lo hi ⟨be, 0, none⟩ ⟨bo, 0, none⟩ ⟨bp, 0, none⟩ _ w ?_
  unfold F_entry_fits_3
  have T : Now (poS bp bo) w w := Now.refl
  refine ⟨e.N, h.e_.at 8 rfl, notIn_nil, ok, h.o_.at 0 rfl, notIn_nil, ?_⟩
  refine ifb (fun ho => ?_) (fun ho => ?_)
  · subst ho
    refine ⟨e.N, h.e_.at 8 rfl, notIn_nil, ?_⟩
    refine CallL.vA T Anc.nil (fun wa _ _ => entry_between_spec _ _ _ wa) (fun w1 T t => ⟨_, rfl, ?_⟩)
    have h := h.n t
    refine ⟨h.e_.at 8 rfl, h.roomP (o := 8) (by omega), notIn_nil, ?_⟩
    have h := h.putP 8 (.int .i64 e.N) (pl' := { pl with N := e.N }) rfl
    refine ⟨h.roomO, notIn_nil, ?_⟩
    have h := h.putO (inM e.N lo hi)
    have T := (T.putC (p := addA ⟨bp, 0, none⟩ 8) (cs := [.int .i64 e.N]) (fun _ => .inl rfl)).putC (p := ⟨bo, 0, none⟩) (cs := [.bool (inM e.N lo hi)]) (fun _ => .inr rfl)
    refine Reb.A T Anc.nil (fun w2 T t => ⟨T.t, rfl, ?_⟩)
    exact h.n t
  · subst ho
    refine ⟨h.roomP (o := 8) (by omega), notIn_nil, ?_⟩
    have h := h.putP 8 (.int .i64 e.N) (pl' := { pl with N := e.N }) rfl
    refine ⟨h.roomO, notIn_nil, ?_⟩
    have h := h.putO false
    have T := (T.putC (p := addA ⟨bp, 0, none⟩ 8) (cs := [.int .i64 e.N]) (fun _ => .inl rfl)).putC (p := ⟨bo, 0, none⟩) (cs := [.bool false]) (fun _ => .inr rfl)
    refine Reb.A T Anc.nil (fun w2 T t => ⟨T.t, rfl, ?_⟩)
    exact h.n t

theorem fits4_spec {w : World} {be bz bp bo : Nat} {e pl : G_api_Entry} {z : G_entry_sizes} {ok : Bool} (h : FS w be bz bp bo e z pl ok) : Spec PP n_entry_fits_4 [.pointer (some ⟨be, 0, none⟩), .pointer (some ⟨bo, 0, none⟩), .pointer (some ⟨bp, 0, none⟩)] w (poS bp bo)
    (fun v w' => v = .tuple #[] ∧ FS w' be bz bp bo e z { pl with Epoch := e.Epoch } (ok && inM e.Epoch 1 1048576)) := by
  refine entry_fits_4_calls ⟨be, 0, none⟩ ⟨bo, 0, none⟩ ⟨bp, 0, none⟩ _ w ?_
  unfold F_entry_fits_4
  have T : Now (poS bp bo) w w := Now.refl
  refine ⟨e.Epoch, h.e_.at 5 rfl, notIn_nil, ok, h.o_.at 0 rfl, notIn_nil, ?_⟩
  refine ifb (fun ho => ?_) (fun ho => ?_)
  · subst ho
    refine ⟨e.Epoch, h.e_.at 5 rfl, notIn_nil, ?_⟩
    refine CallL.vA T Anc.nil (fun wa _ _ => entry_between_spec _ _ _ wa) (fun w1 T t => ⟨_, rfl, ?_⟩)
    have h := h.n t
    refine ⟨h.e_.at 5 rfl, h.roomP (o := 5) (by omega), notIn_nil, ?_⟩
    have h := h.putP 5 (.int .i64 e.Epoch) (pl' := { pl with Epoch := e.Epoch }) rfl
    refine ⟨h.roomO, notIn_nil, ?_⟩
    have h := h.putO (inM e.Epoch 1 1048576)
    have T := (T.putC (p := addA ⟨bp, 0, none⟩ 5) (cs := [.int .i64 e.Epoch]) (fun _ => .inl rfl)).putC (p := ⟨bo, 0, none⟩) (cs := [.bool (inM e.Epoch 1 1048576)]) (fun _ => .inr rfl)
    refine Reb.A T Anc.nil (fun w2 T t => ⟨T.t, rfl, ?_⟩)
    exact h.n t
  · subst ho
    refine ⟨h.roomP (o := 5) (by omega), notIn_nil, ?_⟩
    have h := h.putP 5 (.int .i64 e.Epoch) (pl' := { pl with Epoch := e.Epoch }) rfl
    refine ⟨h.roomO, notIn_nil, ?_⟩
    have h := h.putO false
    have T := (T.putC (p := addA ⟨bp, 0, none⟩ 5) (cs := [.int .i64 e.Epoch]) (fun _ => .inl rfl)).putC (p := ⟨bo, 0, none⟩) (cs := [.bool false]) (fun _ => .inr rfl)
    refine Reb.A T Anc.nil (fun w2 T t => ⟨T.t, rfl, ?_⟩)
    exact h.n t

section
variable {w w0 : World} {be bz bp bo : Nat} {e pl : G_api_Entry} {z : G_entry_sizes} {ok : Bool}
theorem FS.stO {b : Bool} {K : World → Prop} (h : FS w be bz bp bo e z pl ok) (T : Now noB w0 w) (hb : w0.heap.size ≤ bo) (k : ∀ w', Now noB w0 w' → FS w' be bz bp bo e z pl b → K w') : StL w [] ⟨bo, 0, none⟩ [.bool b] K :=
  ⟨h.roomO, notIn_nil, k _ (T.putC (p := ⟨bo, 0, none⟩) (cs := [.bool b]) (fun h => by simp only at h; omega)) (h.putO b)⟩
theorem FS.st3 {v : Int} {K : World → Prop} (h : FS w be bz bp bo e z pl ok) (T : Now noB w0 w) (hb : w0.heap.size ≤ bp) (k : ∀ w', Now noB w0 w' → FS w' be bz bp bo e z { pl with Cell := v } ok → K w') : StL w [] (addA ⟨bp, 0, none⟩ 3) [.int .i64 v] K :=
  ⟨h.roomP (o := 3) (by omega), notIn_nil, k _ (T.putC (p := addA ⟨bp, 0, none⟩ 3) (cs := [.int .i64 v]) (fun h => by simp only [addA] at h; omega)) (h.putP3 v)⟩
theorem FS.st4 {v : Int} {K : World → Prop} (h : FS w be bz bp bo e z pl ok) (T : Now noB w0 w) (hb : w0.heap.size ≤ bp) (k : ∀ w', Now noB w0 w' → FS w' be bz bp bo e z { pl with Other := v } ok → K w') : StL w [] (addA ⟨bp, 0, none⟩ 4) [.int .i64 v] K :=
  ⟨h.roomP (o := 4) (by omega), notIn_nil, k _ (T.putC (p := addA ⟨bp, 0, none⟩ 4) (cs := [.int .i64 v]) (fun h => by simp only [addA] at h; omega)) (h.putP4 v)⟩
theorem FS.st6 {v : Int} {K : World → Prop} (h : FS w be bz bp bo e z pl ok) (T : Now noB w0 w) (hb : w0.heap.size ≤ bp) (k : ∀ w', Now noB w0 w' → FS w' be bz bp bo e z { pl with From := v } ok → K w') : StL w [] (addA ⟨bp, 0, none⟩ 6) [.int .i64 v] K :=
  ⟨h.roomP (o := 6) (by omega), notIn_nil, k _ (T.putC (p := addA ⟨bp, 0, none⟩ 6) (cs := [.int .i64 v]) (fun h => by simp only [addA] at h; omega)) (h.putP6 v)⟩
theorem FS.st7 {v : Int} {K : World → Prop} (h : FS w be bz bp bo e z pl ok) (T : Now noB w0 w) (hb : w0.heap.size ≤ bp) (k : ∀ w', Now noB w0 w' → FS w' be bz bp bo e z { pl with Until := v } ok → K w') : StL w [] (addA ⟨bp, 0, none⟩ 7) [.int .i64 v] K :=
  ⟨h.roomP (o := 7) (by omega), notIn_nil, k _ (T.putC (p := addA ⟨bp, 0, none⟩ 7) (cs := [.int .i64 v]) (fun h => by simp only [addA] at h; omega)) (h.putP7 v)⟩
end

theorem fits_end {w w1 : World} {be bz bp bo : Nat} {e pl : G_api_Entry} {z : G_entry_sizes} {ok r : Bool} (T : Now noB w w1) (h : FS w1 be bz bp bo e z pl ok) (hr : (ok && G_api_Entry.eqb e pl) = r) :
    C_entry_fits_9 w.heap.size (fun v w' => Touch noB w w' ∧ v = .bool r) ⟨be, 0, none⟩ ⟨bp, 0, none⟩ ⟨bo, 0, none⟩ w1 := by
  unfold C_entry_fits_9
  refine ⟨ok, h.o_.at 0 rfl, notIn_nil, ?_⟩
  refine ifb (fun ho => ?_) (fun ho => ?_)
  · subst ho
    refine ⟨e, h.e_.at 0 rfl, notIn_nil, pl, h.p_.at 0 rfl, notIn_nil, ?_⟩
    exact Reb.A T Anc.nil (fun w2 T t => ⟨T.t, by rw [← hr]; rfl⟩)
  · subst ho
    exact Reb.A T Anc.nil (fun w2 T t => ⟨T.t, by rw [← hr]; rfl⟩)

theorem fits_p4 {kind tick tenant cell other epoch from_ until_ n t c r v : Int} (hc : 0 ≤ c) (hk : kind = 4) (ht : inM tick 0 1073741824 = true) (hh : (true && idxM tenant t) = true) (h : cell = -1) :
    (true && G_api_Entry.eqb ⟨kind, tick, tenant, cell, other, epoch, from_, until_, n⟩ ⟨kind, tick, tenant, cell, -1, 0, 0, 0, 0⟩) = decide (okP ⟨kind, tick, tenant, cell, other, epoch, from_, until_, n⟩ t c r v) := by
  subst hk h
  simp only [idxM, inM] at ht hh
  simp at ht hh
  rw [Bool.eq_iff_iff]
  simp [okP, plP, nuP, G_api_Entry.eqb, ht, hh]
  have : -1 < c := by omega
  simp [this]
  omega

theorem fits_p4' {kind tick tenant cell other epoch from_ until_ n t c r v : Int} (hk : kind = 4) (ht : inM tick 0 1073741824 = true) (hh : (true && idxM tenant t) = true) (h : ¬ cell = -1) :
    (idxM cell c && G_api_Entry.eqb ⟨kind, tick, tenant, cell, other, epoch, from_, until_, n⟩ ⟨kind, tick, tenant, cell, -1, 0, 0, 0, 0⟩) = decide (okP ⟨kind, tick, tenant, cell, other, epoch, from_, until_, n⟩ t c r v) := by
  subst hk
  simp only [idxM, inM] at ht hh
  simp at ht hh
  rw [Bool.eq_iff_iff]
  simp [okP, plP, nuP, G_api_Entry.eqb, idxM, ht, hh]
  omega

theorem fits_spec (e : G_api_Entry) (z : G_entry_sizes) (hz : 0 ≤ z.versions ∧ z.versions ≤ 9223372036854775807) (hzc : 0 ≤ z.cells_) (w : World) : Spec PP n_entry_fits [.agg (List.toArray e.cells), .agg (List.toArray z.cells)] w noB (fun v _ => v = .bool (decide (okP e z.tenants z.cells_ z.regions z.versions))) := by
  obtain ⟨kind, tick, tenant, cell, other, epoch, from_, until_, n⟩ := e
  refine entry_fits_calls _ z _ w ?_
  unfold F_entry_fits
  have T : Now noB w w := Now.refl
  have hwv : IntKind.i64.wrap (z.versions - 1) = z.versions - 1 := wrap_i64 (by omega) (by omega)
  refine NewL.A T Anc.nil (fun be w1 T t he le => ?_)
  refine NewL.A T Anc.nil (fun bz w2 T t hz lz => ?_)
  replace he := he.tr t (by simp [blk])
  refine Reb.A T Anc.nil (fun w3 T t => ?_)
  replace he := he.tr t (by simp [blk])
  replace hz := hz.tr t (by simp [blk])
  have z3 := t.size
  unfold C_entry_fits_1
  refine ⟨kind, he.at 0 rfl, notIn_nil, tick, he.at 1 rfl, notIn_nil, ?_⟩
  refine NewL.A T Anc.nil (fun bp w4 T t hp lp => ?_)
  replace he := he.tr t (by simp [blk])
  replace hz := hz.tr t (by simp [blk])
  have z4 := t.size
  refine ⟨hp.room (by simp [G_api_Entry.cells]), notIn_nil, ?_⟩
  have hp : Blk _ bp (⟨kind, tick, -1, -1, -1, 0, 0, 0, 0⟩ : G_api_Entry).cells t_api_Entry := hp.putC 0 (⟨kind, tick, -1, -1, -1, 0, 0, 0, 0⟩ : G_api_Entry).cells
  have T := T.putC (p := ⟨bp, 0, none⟩) (cs := (⟨kind, tick, -1, -1, -1, 0, 0, 0, 0⟩ : G_api_Entry).cells) (fun h => by have := lp.1; simp only at h; omega)
  have tp := (Touch.refl (fun i => i = bp) w4).putC (p := ⟨bp, 0, none⟩) (cs := (⟨kind, tick, -1, -1, -1, 0, 0, 0, 0⟩ : G_api_Entry).cells) (fun _ => rfl)
  replace he := he.tr tp (by omega)
  replace hz := hz.tr tp (by omega)
  refine Reb.A T Anc.nil (fun w5 T t => ?_)
  replace he := he.tr t (by simp [blk])
  replace hz := hz.tr t (by simp [blk])
  replace hp := hp.tr t (by simp [blk])
  have z5 := t.size
  rw [putC_size] at z5
  unfold C_entry_fits_2
  refine ⟨tick, he.at 1 rfl, notIn_nil, ?_⟩
  refine CallL.vA T Anc.nil (fun wa _ _ => entry_between_spec _ _ _ wa) (fun w6 T t => ⟨_, rfl, ?_⟩)
  replace he := he.tr t (by simp [blk])
  replace hz := hz.tr t (by simp [blk])
  replace hp := hp.tr t (by simp [blk])
  have z6 := t.size
  refine ifbn (fun h => Reb.A T Anc.nil (fun w7 T t => ⟨T.t, by grind [okP, inM]⟩)) (fun htick => ?_)
  refine Reb.A T Anc.nil (fun w7 T t => ?_)
  replace he := he.tr t (by simp [blk])
  replace hz := hz.tr t (by simp [blk])
  replace hp := hp.tr t (by simp [blk])
  have z7 := t.size
  unfold C_entry_fits_3
  refine NewL.A T Anc.nil (fun bo w8 T t ho lo => ?_)
  replace he := he.tr t (by simp [blk])
  replace hz := hz.tr t (by simp [blk])
  replace hp := hp.tr t (by simp [blk])
  have hd : be ≠ bp ∧ be ≠ bo ∧ bz ≠ bp ∧ bz ≠ bo ∧ bp ≠ bo := by omega
  have hF : FS w8 be bz bp bo ⟨kind, tick, tenant, cell, other, epoch, from_, until_, n⟩ z ⟨kind, tick, -1, -1, -1, 0, 0, 0, 0⟩ false := ⟨he, hz, hp, ho, hd⟩
  refine ⟨hF.roomO, notIn_nil, ?_⟩
  replace hF := hF.putO true
  have T := T.putC (p := ⟨bo, 0, none⟩) (cs := [.bool true]) (fun h => by have := lo.1; simp only at h; omega)
  have hs : ∀ i, i < w.heap.size → poS bp bo i → noB i := fun i hi h => by rcases h with rfl | rfl <;> omega
  clear he hz hp ho
  have hok : ∀ {w' : World} {pl : G_api_Entry} {ok : Bool}, FS w' be bz bp bo ⟨kind, tick, tenant, cell, other, epoch, from_, until_, n⟩ z pl ok → Ok (poS bp bo) w' [] := fun h i hi => ⟨by rcases hi with rfl | rfl; exact h.p_.lt; exact h.o_.lt, by simp [blk]⟩
  refine Reb.A T Anc.nil (fun w T t => ?_)
  replace hF := hF.n t
  unfold C_entry_fits_4
  refine Reb.A T Anc.nil (fun w T t => ?_)
  replace hF := hF.n t
  unfold C_entry_fits_5
  refine Reb.A T Anc.nil (fun w T t => ?_)
  replace hF := hF.n t
  unfold C_entry_fits_6
  refine Reb.A T Anc.nil (fun w T t => ?_)
  replace hF := hF.n t
  unfold C_entry_fits_7
  refine Reb.A T Anc.nil (fun w T t => ?_)
  replace hF := hF.n t
  unfold C_entry_fits_8
  refine ⟨kind, hF.e_.at 0 rfl, notIn_nil, ?_⟩
  refine Reb.A T Anc.nil (fun w T t => ?_)
  replace hF := hF.n t
  unfold C_entry_fits_10
  by_cases hk : 1 ≤ kind ∧ kind ≤ 16
  · rcases kinds hk with hkk | hkk | hkk | hkk | hkk | hkk | hkk | hkk | hkk | hkk | hkk | hkk | hkk | hkk | hkk | hkk
    all_goals
      repeat' first
        | refine fits_end T hF ?_
        | (refine Reb.A T Anc.nil (fun w T t => ?_); replace hF := hF.n t)
        | (first | unfold C_entry_fits_11 | unfold C_entry_fits_12 | unfold C_entry_fits_13 | unfold C_entry_fits_14 | unfold C_entry_fits_15 | unfold C_entry_fits_16 | unfold C_entry_fits_17 | unfold C_entry_fits_18 | unfold C_entry_fits_19 | unfold C_entry_fits_20 | unfold C_entry_fits_21 | unfold C_entry_fits_22)
        | refine ifbd (fun _ => ?_) (fun h => by omega)
        | refine ifbd (fun h => by omega) (fun _ => ?_)
        | (refine CallL.A (poS bp bo) T Anc.nil (hok hF) hs (fun wa _ t => fits1_spec (hF.n t)) ?_; rintro wa v w T t _ _ _ ⟨rfl, hF⟩; refine ⟨rfl, ?_⟩)
        | (refine CallL.A (poS bp bo) T Anc.nil (hok hF) hs (fun wa _ t => fits2_spec (hF.n t)) ?_; rintro wa v w T t _ _ _ ⟨rfl, hF⟩; refine ⟨rfl, ?_⟩)
        | (refine CallL.A (poS bp bo) T Anc.nil (hok hF) hs (fun wa _ t => fits3_spec (hF.n t) _ _) ?_; rintro wa v w T t _ _ _ ⟨rfl, hF⟩; refine ⟨rfl, ?_⟩)
        | (refine CallL.A (poS bp bo) T Anc.nil (hok hF) hs (fun wa _ t => fits4_spec (hF.n t)) ?_; rintro wa v w T t _ _ _ ⟨rfl, hF⟩; refine ⟨rfl, ?_⟩)
        | (refine CallL.vA T Anc.nil (fun wa _ _ => entry_index_spec _ _ wa) (fun w T t => ⟨_, rfl, ?_⟩); replace hF := hF.n t)
        | (refine CallL.vA T Anc.nil (fun wa _ _ => entry_between_spec _ _ _ wa) (fun w T t => ⟨_, rfl, ?_⟩); replace hF := hF.n t)
        | refine ⟨_, hF.e_.at 3 rfl, notIn_nil, ?_⟩
        | refine ⟨_, hF.e_.at 4 rfl, notIn_nil, ?_⟩
        | refine ⟨_, hF.e_.at 6 rfl, notIn_nil, ?_⟩
        | refine ⟨_, hF.e_.at 7 rfl, notIn_nil, ?_⟩
        | refine ⟨_, hF.o_.at 0 rfl, notIn_nil, ?_⟩
        | refine ⟨_, hF.z_.at 1 rfl, notIn_nil, ?_⟩
        | refine ⟨_, hF.z_.at 2 rfl, notIn_nil, ?_⟩
        | refine ⟨_, hF.z_.at 3 rfl, notIn_nil, ?_⟩
        | refine ⟨hF.e_.at 3 rfl, ?_⟩
        | refine ⟨hF.e_.at 4 rfl, ?_⟩
        | refine ⟨hF.e_.at 7 rfl, ?_⟩
        | refine hF.st3 T (by omega) (fun w T hF => ?_)
        | refine hF.st4 T (by omega) (fun w T hF => ?_)
        | refine hF.st6 T (by omega) (fun w T hF => ?_)
        | refine hF.st7 T (by omega) (fun w T hF => ?_)
        | refine hF.stO T (by omega) (fun w T hF => ?_)
        | (with_reducible refine ifbnd (fun h => ?_) (fun h => ?_))
        | (with_reducible refine ifbd (fun h => ?_) (fun h => ?_))
        | (refine ifb (fun h => ?_) (fun h => ?_))
    all_goals first
      | grind [okP, plP, nuP, idxM, inM, G_api_Entry.eqb]
      | exact fits_p4 hzc hkk htick (by assumption) (by assumption)
      | exact fits_p4' hkk htick (by assumption) (by assumption)
  · repeat' first
      | (refine Reb.A T Anc.nil (fun w T t => ?_); replace hF := hF.n t)
      | (first | unfold C_entry_fits_11 | unfold C_entry_fits_12 | unfold C_entry_fits_13 | unfold C_entry_fits_14 | unfold C_entry_fits_15 | unfold C_entry_fits_16 | unfold C_entry_fits_17 | unfold C_entry_fits_18 | unfold C_entry_fits_19 | unfold C_entry_fits_20 | unfold C_entry_fits_21 | unfold C_entry_fits_22)
      | refine ifbd (fun h => absurd h (by omega)) (fun _ => ?_)
      | exact ⟨T.t, by grind [okP]⟩

theorem entry_Shape_spec (e : G_api_Entry) (w : World) : Spec PP n_entry_Shape [.agg (List.toArray e.cells)] w noB (fun v _ => v = .bool (decide (okP e 32 16 4 30))) := by
  refine entry_Shape_calls e _ w ?_
  unfold F_entry_Shape
  intro b1 hb
  have T : Now noB w w := Now.refl
  refine CallL.vA T Anc.start (fun wa _ _ => fits_spec e ⟨32, 16, 4, 30⟩ (by decide) (by decide) wa) (fun w1 T t => ⟨_, rfl, ?_⟩)
  exact Reb.A T Anc.start (fun w2 T t => ⟨T.t, rfl⟩)

end Go.Sh
