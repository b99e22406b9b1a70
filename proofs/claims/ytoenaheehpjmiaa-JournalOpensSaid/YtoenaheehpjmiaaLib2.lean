/- Slices that read as lists; slices of one's own, append and make.
   Conditions: none. -/
import Derived.Test.YtoenaheehpjmiaaLib1
namespace Go.Sh
open Go
set_option linter.unusedSimpArgs false
set_option linter.unusedVariables false

/-- the block of a slice -/
def Sl.on (s : Sl) (b : Nat) : Prop := ∃ p, s.a = some p ∧ p.block = b
@[simp] theorem Sl.on_none {n c b : Nat} : ¬ (Sl.mk none n c).on b := by rintro ⟨p, h, _⟩; cases h
@[simp] theorem Sl.on_some {p : Addr} {n c b : Nat} : (Sl.mk (some p) n c).on b ↔ p.block = b := by simp [Sl.on]

/-- a slice reads as a list, each element laid as 'c' says, in 'k' cells -/
def Rd {α : Type} (c : α → List Value) (k : Nat) (w : World) (s : Sl) (xs : List α) : Prop :=
  xs.length = s.n ∧ (s.a = none → s.n = 0) ∧ ∀ p, s.a = some p → ∀ i x, xs[i]? = some x → At w (p.add (i * k)) (c x)

section
variable {α : Type} {c : α → List Value} {k : Nat} {w w' : World} {s : Sl} {xs : List α} {S : Nat → Prop}

theorem Rd.touch (h : Rd c k w s xs) (t : Touch S w w') (hn : ∀ b, s.on b → ¬ S b) : Rd c k w' s xs :=
  ⟨h.1, h.2.1, fun p hp i x hx => (h.2.2 p hp i x hx).touch t (by rw [add_block]; exact hn _ ⟨p, hp, rfl⟩)⟩

theorem Rd.kept (h : Rd c k w s xs) (t : Touch (fun _ => False) w w') : Rd c k w' s xs := h.touch t (fun _ _ h => h)

theorem Rd.nil {n : Nat} : Rd c k w ⟨none, 0, n⟩ [] := ⟨rfl, fun _ => rfl, fun p h => by cases h⟩

theorem Rd.idx {K : Addr → Prop} {i : Int} (h : Rd c k w s xs) (h0 : 0 ≤ i) (hi : i < s.n) (hk : ∀ p x, s.a = some p → xs[i.toNat]? = some x → At w (p.add (i.toNat * k)) (c x) → K p) : IdxL s.a s.n i K := by
  have hlt : i.toNat < xs.length := by rw [h.1]; omega
  cases ha : s.a with
  | none => have := h.2.1 ha; omega
  | some p => exact ⟨h0, hi, hk p _ ha (List.getElem?_eq_getElem hlt) (h.2.2 p ha _ _ (List.getElem?_eq_getElem hlt))⟩

theorem Rd.lt (h : Rd c k w s xs) (hk : ∀ x, c x ≠ []) {b : Nat} (hb : s.on b) (hn : 0 < s.n) : b < w.heap.size := by
  obtain ⟨p, hp, rfl⟩ := hb
  have hlt : 0 < xs.length := by rw [h.1]; exact hn
  have := (h.2.2 p hp 0 _ (List.getElem?_eq_getElem hlt)).lt (hk _)
  simpa [add_block] using this
end

/-- a slice of one's own: nil, or a whole block -/
def Own {α : Type} (c : α → List Value) (k : Nat) (e : TypeId) (w : World) (s : Sl) (xs : List α) : Prop :=
  xs.length = s.n ∧ ((s = ⟨none, 0, 0⟩) ∨ ∃ b cs, s.a = some ⟨b, 0, none⟩ ∧ Blk w b cs e ∧ s.n ≤ s.c ∧ s.c ≤ maxLen ∧ cs.length = s.c * k ∧ cs.take (s.n * k) = xs.flatMap c)

section
variable {α : Type} {c : α → List Value} {k : Nat} {e : TypeId} {w w' : World} {s : Sl} {xs : List α} {S : Nat → Prop}

theorem Own.touch (h : Own c k e w s xs) (t : Touch S w w') (hn : ∀ b, s.on b → ¬ S b) : Own c k e w' s xs := by
  refine ⟨h.1, h.2.imp id ?_⟩
  rintro ⟨b, cs, ha, hb, r⟩
  exact ⟨b, cs, ha, hb.touch t (hn b ⟨_, ha, rfl⟩), r⟩

theorem Own.kept (h : Own c k e w s xs) (t : Touch (fun _ => False) w w') : Own c k e w' s xs := h.touch t (fun _ _ h => h)

theorem Own.nil : Own c k e w ⟨none, 0, 0⟩ [] := ⟨rfl, .inl rfl⟩

theorem Own.lt (h : Own c k e w s xs) {b : Nat} (hb : s.on b) : b < w.heap.size := by
  obtain ⟨p, hp, rfl⟩ := hb
  rcases h.2 with h | ⟨b, cs, ha, hb, _⟩
  · rw [h] at hp; cases hp
  · rw [ha] at hp; cases hp; exact hb.lt

theorem Own.rd (hk : ∀ x, (c x).length = k) (h : Own c k e w s xs) : Rd c k w s xs := by
  refine ⟨h.1, ?_, ?_⟩
  · intro ha
    rcases h.2 with h | ⟨b, cs, ha', _⟩
    · rw [h]
    · rw [ha'] at ha; cases ha
  · intro p hp i x hx
    rcases h.2 with h' | ⟨b, cs, ha, hb, hc, hm, hl, ht⟩
    · rw [h'] at hp; cases hp
    · rw [ha] at hp; cases hp
      rw [add_plain, Nat.zero_add]
      refine hb.at _ ?_
      have hlt : i < s.n := by
        rw [← h.1]
        rcases Nat.lt_or_ge i xs.length with h' | h'
        · exact h'
        · rw [List.getElem?_eq_none h'] at hx; cases hx
      have := flat_at hk hx
      rw [← ht, List.drop_take, List.take_take] at this
      rw [hk]
      rw [Nat.min_eq_left (by rw [← Nat.sub_mul]; exact Nat.le_mul_of_pos_left _ (by omega))] at this
      exact this

theorem Own.ownsRow (h : Own c k e w s xs) (hk : ∀ x, (c x).length = k) : w.ownsRow 0 e k (.slice s.a s.n s.c) s.n (xs.flatMap c) := by
  refine ⟨by rw [flat_length hk, h.1], ?_⟩
  rcases h.2 with h' | ⟨b, cs, ha, hb, hc, hm, hl, ht⟩
  · rw [h']; exact .inl ⟨rfl, rfl⟩
  · exact .inr ⟨b, s.c, cs.toArray, by rw [ha], Nat.zero_le _, hb, hc, hm, by simpa using hl, by simpa using ht⟩

theorem Own.ofRow {v : Value} {n : Nat} (h : w.ownsRow 0 e k v n (xs.flatMap c)) (hx : xs.length = n) : ∃ s : Sl, v = .slice s.a s.n s.c ∧ s.n = n ∧ Own c k e w s xs := by
  rcases h.2 with ⟨rfl, rfl⟩ | ⟨g, cap, cur, rfl, _, hg, hc, hm, hl, ht⟩
  · exact ⟨⟨none, 0, 0⟩, rfl, rfl, hx, .inl rfl⟩
  · refine ⟨⟨some ⟨g, 0, none⟩, n, cap⟩, rfl, rfl, hx, .inr ⟨g, cur.toList, rfl, ?_, hc, hm, by simpa using hl, ht⟩⟩
    unfold Blk
    rw [hg]

/-- what the program's table says of a slice's elements -/
def ElemT (P : Program) (t e : TypeId) (k bytes : Nat) : Prop :=
  ∃ (i : TypeInfo) (z : Value), P.underlying t = some (.slice e) ∧ P.info? e = some i ∧ i.zero = some z ∧ i.size = k ∧ i.bytes = bytes ∧ z.cells.size = k ∧ 0 < k

theorem oneCell_all {v : Value} : v.oneCell' = true ↔ oneCell v = true := by cases v <;> simp [Value.oneCell', oneCell]

theorem flat_cells {ys : List α} {a : Addr} {m cap : Nat} (hk : ∀ x, (c x).length = k) (h0 : 0 < k) (hy : Rd c k w ⟨some a, m, cap⟩ ys) : ∀ j u, (ys.flatMap c)[j]? = some u → w.cell? (a.add j) = some u := by
  intro j u hu
  have hj : j < ys.length * k := by
    rw [← flat_length hk]
    rcases Nat.lt_or_ge j (ys.flatMap c).length with h' | h'
    · exact h'
    · rw [List.getElem?_eq_none h'] at hu; cases hu
  have hd : j / k < ys.length := (Nat.div_lt_iff_lt_mul h0).2 hj
  have hat := hy.2.2 a rfl (j / k) _ (List.getElem?_eq_getElem hd)
  have hq := flat_at hk (List.getElem?_eq_getElem hd)
  have hmod : j % k < k := Nat.mod_lt _ h0
  have hsplit : j = j / k * k + j % k := by rw [Nat.mul_comm]; exact (Nat.div_add_mod j k).symm
  have hu2 : (c ys[j / k])[j % k]? = some u := by
    rw [← hq, List.getElem?_take, if_pos hmod, List.getElem?_drop, ← hsplit]; exact hu
  have := hat (j % k) u hu2
  rw [addr_add_add, ← hsplit] at this
  exact this

/-- append to a slice of one's own -/
theorem append_own {P : Program} {t ty bytes : Nat} (E : ElemT P t e k bytes) (hk : ∀ x, (c x).length = k) (h1 : ∀ x, ∀ u ∈ c x, u.oneCell' = true) (ho : Own c k e w s xs)
    {q : Option Addr} {m cap : Nat} {ys : List α} (hy : Rd c k w ⟨q, m, cap⟩ ys) (hb : (s.n + m) * bytes ≤ 140737488355328) (hb0 : 0 < bytes) (hcap : q = none → cap = 0) :
    ∃ (s' : Sl) (w' : World), (Builtin.append_ #[t, t] ty #[.slice s.a s.n s.c, .slice q m cap]).run P w = .ok (.slice s'.a s'.n s'.c) w' ∧
      Own c k e w' s' (xs ++ ys) ∧ Touch s.on w w' ∧ (∀ b, s'.on b → s.on b ∨ w.heap.size ≤ b) ∧ (s'.a = none ↔ s.a = none ∧ m = 0) := by
  obtain ⟨i, z, e1, e2, e3, e4, e5, e6, e7⟩ := E
  have hsum : s.n + m ≤ 140737488355328 := Nat.le_trans (Nat.le_mul_of_pos_right _ hb0) hb
  have hmax : s.n + m ≤ maxLen := by simp only [maxLen]; omega
  have how := ho.ownsRow hk
  have hml : ys.length = m := hy.1
  have on_eq : ∀ b, s.on b ↔ (Value.slice s.a s.n s.c).ownBlock = some b := by
    intro b
    cases ha : s.a with
    | none => simp [Sl.on, ha, Value.ownBlock]
    | some p => simp [Sl.on, ha, Value.ownBlock]
  have tch : ∀ w', w.grownBy w' (Value.slice s.a s.n s.c).ownBlock → Touch s.on w w' := fun w' hg =>
    ⟨hg.os, hg.tape, hg.output, hg.size, fun b hb hn => hg.block b hb (fun he => hn ((on_eq b).2 he.symm))⟩
  cases q with
  | none =>
    have hm0 : m = 0 := hy.2.1 rfl
    subst hm0
    have hc0 := hcap rfl
    subst hc0
    have hys : ys = [] := List.eq_nil_of_length_eq_zero hml
    subst hys
    refine ⟨s, w, run_append_owned_none (P := P) w 0 t ty e i k e1 e2 _ _ _ how, by simpa using ho, Touch.refl _ _, fun b hb => Or.inl hb, by simp⟩
  | some a =>
    obtain ⟨v', w', hr, hrow, hg, hnil⟩ := run_append_own (P := P) w 0 t ty e i z k bytes e1 e2 e3 e4 e5 e6 e7 (.slice s.a s.n s.c) s.n (xs.flatMap c) how a m cap (ys.flatMap c)
      (by rw [flat_length hk, hml]) (flat_cells hk e7 hy)
      (by intro u hu; obtain ⟨x, _, hx⟩ := List.mem_flatMap.1 hu; exact h1 x u hx)
      hmax hb (Nat.zero_le _)
    rw [← List.flatMap_append] at hrow
    obtain ⟨s', rfl, hn', ho'⟩ := Own.ofRow hrow (by rw [List.length_append, ho.1, hml])
    have hcells := flat_cells hk e7 hy
    have hlen : (ys.flatMap c).length = m * i.size := by rw [flat_length hk, hml, e4]
    have key : (∀ b, s'.on b → s.on b ∨ w.heap.size ≤ b) ∧ (s'.a = none ↔ s.a = none ∧ m = 0) := by
      rcases ho.2 with hs | ⟨b0, cs, ha, hb0', hc0, hm0, hl0, ht0⟩
      · rcases Nat.eq_zero_or_pos m with hm0 | hm0
        · have : Value.slice s'.a s'.n s'.c = .slice none 0 0 := hnil.2 ⟨by rw [hs], hm0⟩
          simp only [Value.slice.injEq] at this
          exact ⟨fun b hb => (by obtain ⟨p, hp, _⟩ := hb; rw [this.1] at hp; cases hp), by rw [this.1, hs]; simp [hm0]⟩
        · have hr2 := run_append_nil (P := P) w t ty e i z e1 e2 e3 a m cap (ys.flatMap c) hlen hcells hm0 (by omega) (by rw [e5]; rw [hs] at hb; simp only [Nat.zero_add] at hb; omega)
          rw [hs] at hr
          have := hr.symm.trans hr2
          simp only [Result.ok.injEq, Value.slice.injEq] at this
          refine ⟨fun b hb => Or.inr ?_, ?_⟩
          · obtain ⟨p, hp, rfl⟩ := hb
            rw [this.1.1] at hp; cases hp; exact Nat.le_refl _
          · rw [this.1.1]; simp; intro _; omega
      · by_cases hroom : s.n + m ≤ s.c
        · obtain ⟨w2, hr2, _, _⟩ := run_append_fits (P := P) w 0 t ty e i k e1 e2 e4 b0 s.n s.c (xs.flatMap c) (by have := how; rw [ha] at this; exact this) a m cap (ys.flatMap c) (by rw [flat_length hk, hml]) hcells
            (by intro u hu; obtain ⟨x, _, hx⟩ := List.mem_flatMap.1 hu; exact h1 x u hx) hroom
          rw [ha] at hr
          have := hr.symm.trans hr2
          simp only [Result.ok.injEq, Value.slice.injEq] at this
          refine ⟨fun b hb => Or.inl ?_, ?_⟩
          · obtain ⟨p, hp, rfl⟩ := hb
            rw [this.1.1] at hp; cases hp; exact ⟨_, ha, rfl⟩
          · rw [this.1.1, ha]; simp
        · have hr2 := run_append_grow (P := P) w t ty e i z e1 e2 e3 ⟨b0, 0, none⟩ s.n s.c (xs.flatMap c) (by rw [flat_length hk, ho.1, e4]) (by
              have := how.cells (g := b0) (by rw [ha]; rfl)
              exact this) a m cap (ys.flatMap c) hlen hcells (by omega) (by omega) (growslice_fits (by omega) (by rw [e5]; exact hb))
          rw [ha] at hr
          have := hr.symm.trans hr2
          simp only [Result.ok.injEq, Value.slice.injEq] at this
          refine ⟨fun b hb => Or.inr ?_, ?_⟩
          · obtain ⟨p, hp, rfl⟩ := hb
            rw [this.1.1] at hp; cases hp; exact Nat.le_refl _
          · rw [this.1.1, ha]; simp
    exact ⟨s', w', hr, ho', tch w' hg, key.1, key.2⟩

/-- an append that the code carries out -/
theorem RunL.append {P : Program} {t ty bytes N : Nat} {L : List LB} {R : Value → World → Prop} (E : ElemT P t e k bytes) (hb0 : 0 < bytes) (hk : ∀ x, (c x).length = k) (h1 : ∀ x, ∀ u ∈ c x, u.oneCell' = true)
    (ho : Own c k e w s xs) {q : Option Addr} {m cap : Nat} {ys : List α} (hy : Rd c k w ⟨q, m, cap⟩ ys) (hcap : q = none → cap = 0) (hb : (s.n + m) * bytes ≤ 140737488355328)
    (hso : ∀ b, s.on b → b ∉ blk L) (hyo : ∀ b, (Sl.mk q m cap).on b → b ∉ blk L)
    (hR : ∀ (wa : World) (s' : Sl) (w' : World), Loc N w L wa → Touch s.on wa w' → Own c k e w' s' (xs ++ ys) → (∀ b, s'.on b → s.on b ∨ wa.heap.size ≤ b) → (s'.a = none ↔ s.a = none ∧ m = 0) → R (.slice s'.a s'.n s'.c) w') :
    RunL P N w L (Builtin.append_ #[t, t] ty #[.slice s.a s.n s.c, .slice q m cap]) R := by
  refine ⟨s.on, fun b hb => ⟨ho.lt hb, hso b hb⟩, fun wa hl => ?_⟩
  obtain ⟨s', w', hr, h2, h3, h4, h5⟩ := append_own (P := P) (w := wa) (t := t) (ty := ty) E hk h1 (ho.touch hl.touch hso) (hy.touch hl.touch hyo) hb hb0 hcap
  exact ⟨_, w', hr, h3, hR wa s' w' hl h3 h2 h4 h5⟩

/-- 'append(s, x)': the element is laid in a row of its own first -/
theorem NewL.append1 {P : Program} {t ty bytes N T : Nat} {L : List LB} {cs : List Value} {R : Nat → Value → World → Prop} (E : ElemT P t e k bytes) (hb0 : 0 < bytes) (hk : ∀ x, (c x).length = k) (h1 : ∀ x, ∀ u ∈ c x, u.oneCell' = true)
    (ho : Own c k e w s xs) {x : α} (hcs : cs = c x) (hb : (s.n + 1) * bytes ≤ 140737488355328) (hso : ∀ b, s.on b → b ∉ blk L)
    (hR : ∀ (b : Nat) (s' : Sl) (w' : World), Touch (fun b => s.on b ∨ b ∈ blk L) w w' → Own c k e w' s' (xs ++ [x]) → (∀ b, s'.on b → s.on b ∨ w.heap.size ≤ b) → s'.a ≠ none → (∀ b ∈ blk L, b < w'.heap.size) → R b (.slice s'.a s'.n s'.c) w') :
    NewL N w L cs T fun b w4 => RunL P N w4 L (Builtin.append_ #[t, t] ty #[.slice s.a s.n s.c, .slice (some ⟨b, 0, none⟩) 1 1]) (R b) := by
  subst hcs
  intro wa hl
  have hblk : Blk (wa.alloc (.cells (c x).toArray T)) wa.heap.size (c x) T := by
    show (wa.heap.push _)[wa.heap.size]? = _
    simp
  have htw : Touch (fun b => b ∈ blk L) w (wa.alloc (.cells (c x).toArray T)) := hl.touch.alloc _
  have hy : Rd c k (wa.alloc (.cells (c x).toArray T)) ⟨some ⟨wa.heap.size, 0, none⟩, 1, 1⟩ [x] := by
    refine ⟨rfl, fun h => (by cases h), fun p hp i y hi => ?_⟩
    cases hp
    match i, hi with
    | 0, hi =>
      simp at hi; subst hi
      rw [add_plain]
      exact hblk.at _ (by simp)
    | i + 1, hi => simp at hi
  refine RunL.append E hb0 hk h1 (ho.touch htw hso) hy (fun h => by cases h) hb hso ?_ ?_
  · intro b hb hm
    simp at hb
    have := hl.lt hm
    omega
  · intro wb s' w' hl2 ht h2 h3 h4
    refine hR _ s' w' (((htw.mono (fun _ _ h => Or.inr h)).comp hl2.touch (fun _ _ h => Or.inr h)).comp ht (fun _ _ h => Or.inl h)) h2 ?_ ?_ ?_
    · intro b hb
      have hsz : w.heap.size ≤ wb.heap.size := Nat.le_trans htw.size hl2.touch.size
      exact (h3 b hb).imp id (fun h => by omega)
    · intro h
      have := h4.1 h
      simp at this
    · intro b hb
      have := hl2.lt hb
      exact Nat.lt_of_lt_of_le this ht.size
end
end Go.Sh
