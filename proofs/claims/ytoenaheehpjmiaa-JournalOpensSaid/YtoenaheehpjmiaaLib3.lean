/- More on slices of one's own: make, store; bytes and strings.
   Conditions: none. -/
import Derived.Test.YtoenaheehpjmiaaLib2
import Derived.Laws.IdiomStrings
namespace Go.Sh
open Go
set_option linter.unusedSimpArgs false
set_option linter.unusedVariables false

abbrev byteC : UInt8 → List Value := fun b => [.int .u8 (b.toNat : Int)]
theorem byteC_len (b : UInt8) : (byteC b).length = 1 := rfl

/-- what the program's table says of a slice's elements, the zero element among it -/
def ElemZ (P : Program) (t e : TypeId) (k bytes : Nat) (zs : List Value) : Prop :=
  ∃ (i : TypeInfo) (z : Value), P.underlying t = some (.slice e) ∧ P.info? e = some i ∧ i.zero = some z ∧ i.size = k ∧ i.bytes = bytes ∧ z.cells.toList = zs ∧ zs.length = k ∧ 0 < k

theorem ElemZ.t {P : Program} {t e k bytes : Nat} {zs : List Value} (h : ElemZ P t e k bytes zs) : ElemT P t e k bytes := by
  obtain ⟨i, z, h1, h2, h3, h4, h5, h6, h7, h8⟩ := h
  exact ⟨i, z, h1, h2, h3, h4, h5, by rw [← Array.length_toList, h6, h7], h8⟩

theorem ElemZ.of {P : Program} {t e k bytes : Nat} {zs : List Value} (h1 : P.underlying t = some (.slice e)) (h2 : (P.info? e).map (fun i => (i.size, i.bytes)) = some (k, bytes))
    (h3 : ((P.info? e).bind (·.zero)).map (fun z => z.cells.toList) = some zs) (h4 : zs.length = k) (h5 : 0 < k) : ElemZ P t e k bytes zs := by
  cases hi : P.info? e with
  | none => rw [hi] at h2; cases h2
  | some i =>
    rw [hi] at h2 h3
    simp only [Option.map_some, Option.some.injEq, Prod.mk.injEq, Option.bind_some] at h2 h3
    cases hz : i.zero with
    | none => rw [hz] at h3; cases h3
    | some z =>
      rw [hz] at h3
      simp only [Option.map_some, Option.some.injEq] at h3
      exact ⟨i, z, h1, hi, hz, h2.1, h2.2, h3, h4, h5⟩

theorem made_flat (z : Array Value) (hz : 0 < z.size) : ∀ n : Nat, (madeCells z (n * z.size)).toList = (List.replicate n z.toList).flatten := by
  intro n
  apply List.ext_getElem?
  intro j
  have hfl : (List.replicate n z.toList).flatten = (List.replicate n ()).flatMap (fun _ => z.toList) := by
    rw [List.flatMap_def]; simp
  by_cases hj : j < n * z.size
  · have hd : j / z.size < n := (Nat.div_lt_iff_lt_mul hz).2 hj
    have hm : j % z.size < z.size := Nat.mod_lt _ hz
    have h1 := flat_at (c := fun _ : Unit => z.toList) (k := z.size) (fun _ => by simp) (xs := List.replicate n ()) (i := j / z.size) (x := ()) (by simp [hd])
    have hs : j = j / z.size * z.size + j % z.size := by rw [Nat.mul_comm]; exact (Nat.div_add_mod j z.size).symm
    have h2 : (z.toList)[j % z.size]? = ((List.replicate n ()).flatMap (fun _ => z.toList))[j]? := by
      have h3 := congrArg (fun l : List Value => l[j % z.size]?) h1
      simp only [List.getElem?_take, if_pos hm, List.getElem?_drop, ← hs] at h3
      exact h3.symm
    rw [hfl, ← h2]
    simp [madeCells, hj, hm, getElem!_pos]
  · have hl : ((List.replicate n ()).flatMap (fun _ => z.toList)).length = n * z.size := by rw [flat_length (k := z.size) (fun _ => by simp)]; simp
    rw [hfl, List.getElem?_eq_none (by rw [Array.length_toList, size_madeCells]; omega), List.getElem?_eq_none (by omega)]

section
variable {α : Type} {c : α → List Value} {k : Nat} {e : TypeId} {w w' : World} {s : Sl} {xs : List α} {S : Nat → Prop}

theorem RunL.makeSlice {P : Program} {t bytes N : Nat} {L : List LB} {R : Value → World → Prop} {z0 : α} (E : ElemZ P t e k bytes (c z0)) {kl kc : IntKind} {n : Int} (h0 : 0 ≤ n) (hb : n.toNat * bytes ≤ 281474976710656) (hm : n.toNat ≤ maxLen)
    (hR : ∀ (wa : World) (s' : Sl) (w' : World), Loc N w L wa → Touch (fun _ => False) wa w' → Own c k e w' s' (List.replicate n.toNat z0) → (∀ b, s'.on b → wa.heap.size ≤ b) → R (.slice s'.a s'.n s'.c) w') :
    RunL P N w L (Instr.makeSlice t (.int kl n) (.int kc n)) R := by
  refine ⟨fun _ => False, Ok.none, fun wa hl => ?_⟩
  obtain ⟨i, z, h1, h2, h3, h4, h5, h6, h7, h8⟩ := E
  obtain ⟨w', hr, ho, hg⟩ := run_make_full (P := P) wa 0 t e i z k h1 h2 h3 h4 kl kc n.toNat (by rw [h5, Nat.mul_comm]; exact hb) hm (Nat.zero_le _)
  rw [Int.toNat_of_nonneg h0] at hr
  have hzk : z.cells.size = k := by rw [← Array.length_toList, h6, h7]
  have hcells : (madeCells z.cells (n.toNat * k)).toList = (List.replicate n.toNat z0).flatMap c := by
    rw [← hzk, made_flat _ (by omega), h6, List.flatMap_def]; simp
  rw [hcells] at ho
  have ht : Touch (fun _ => False) wa w' := ⟨hg.os, hg.tape, hg.output, hg.size, fun b hb _ => hg.block b hb (by simp)⟩
  obtain ⟨s', hs', hn', how⟩ := Own.ofRow ho (by simp)
  refine ⟨_, w', hr, ht, ?_⟩
  rw [hs']
  refine hR wa s' w' hl ht how (fun b hb => ?_)
  simp only [Value.slice.injEq] at hs'
  obtain ⟨p, hp, rfl⟩ := hb
  rw [← hs'.1] at hp
  cases hp
  exact Nat.le_refl _

/-- a store into an element of a slice of one's own -/
theorem Own.set (h : Own c k e w s xs) (hk : ∀ x, (c x).length = k) {i : Nat} (hi : i < xs.length) (y : α) :
    ∃ p, s.a = some p ∧ RoomAt w (p.add (i * k)) (c y).length ∧ (p.add (i * k)).block = p.block ∧ Own c k e (putC w (p.add (i * k)) (c y)) s (xs.set i y) := by
  have hlen := h.1
  rcases h.2 with hs | ⟨b, cs, ha, hb, hc, hm, hl, ht⟩
  · rw [hs] at hlen; simp only at hlen; omega
  · have hik : i * k + k ≤ s.n * k := by rw [← Nat.succ_mul]; exact Nat.mul_le_mul_right _ (by omega)
    have hck : s.n * k ≤ s.c * k := Nat.mul_le_mul_right _ hc
    refine ⟨⟨b, 0, none⟩, ha, ?_, add_block _ _, by simpa using hlen, .inr ⟨b, lspl cs (i * k) (c y), ha, ?_, hc, hm, by rw [lspl_length]; exact hl, ?_⟩⟩
    · rw [add_plain, Nat.zero_add, hk]
      exact hb.room (by omega)
    · rw [add_plain, Nat.zero_add]
      exact hb.putC _ _
    · have := flat_set hk hi y
      rw [← ht] at this
      rw [← this, lspl_eq _ _ _ (by rw [hk]; omega), lspl_eq _ _ _ (by rw [hk, List.length_take]; omega), hk]
      rw [List.take_append, List.take_append, List.take_of_length_le (l := c y) (by rw [hk]; simp; omega)]
      rw [List.take_take, List.take_take, Nat.min_eq_right (by omega), Nat.min_eq_left (by omega), List.drop_take]
      congr 2
      simp [hk]
      omega

theorem RunL.bytesStr {P : Program} {t ts N : Nat} {L : List LB} {R : Value → World → Prop} {bs : List UInt8} (h1 : P.underlying t = some (.slice e)) (h2 : P.underlying e = some (.int .u8)) (h3 : P.underlying ts = some .string)
    (h : Rd byteC 1 w s bs) (hso : ∀ b, s.on b → b ∉ blk L) (hR : ∀ wa, Loc N w L wa → R (.string ⟨bs.toArray⟩) wa) : RunL P N w L (convert t ts (.slice s.a s.n s.c)) R := by
  refine ⟨fun _ => False, Ok.none, fun wa hl => ?_⟩
  have h' := h.touch hl.touch hso
  cases ha : s.a with
  | none =>
    have h0 := h.2.1 ha
    have hbs : bs = [] := List.eq_nil_of_length_eq_zero (by rw [h.1, h0])
    subst hbs
    refine ⟨.string ⟨#[]⟩, wa, ?_, Touch.refl _ _, hR wa hl⟩
    rw [run_convert_bytes_string wa t ts e none _ _ h1 h2 h3]
    simp [Conv.bytesToString]
    rfl
  | some p =>
    refine ⟨_, wa, ?_, Touch.refl _ _, hR wa hl⟩
    rw [← h.1]
    refine run_convert_bytes_back wa t ts e p s.c bs h1 h2 h3 (fun j hj => ?_)
    have := h'.2.2 p ha j _ (List.getElem?_eq_getElem hj) 0 (.int .u8 (bs[j].toNat : Int)) (by simp)
    simpa [addr_add_add] using this

theorem Rd.take (h : Rd c k w s xs) {i : Nat} (hi : i ≤ xs.length) {cap : Nat} : Rd c k w ⟨s.a, i, cap⟩ (xs.take i) := by
  refine ⟨by simp [hi], fun ha => ?_, fun p hp j x hx => ?_⟩
  · have := h.2.1 ha; have := h.1; simp only; omega
  · rw [List.getElem?_take] at hx
    split at hx
    · exact h.2.2 p hp j x hx
    · cases hx

theorem Rd.drop (h : Rd c k w s xs) {i : Nat} (hi : i ≤ xs.length) (hcap : s.n ≤ s.c) {cap : Nat} : Rd c k w ⟨slA s.a s.c i k, s.n - i, cap⟩ (xs.drop i) := by
  have hl := h.1
  refine ⟨by simp [hl], fun ha => ?_, fun p hp j x hx => ?_⟩
  · unfold slA at ha
    split at ha
    · have := h.2.1 ha; simp only; omega
    · have := h.2.1 (by simpa using ha); simp only; omega
  · rw [List.getElem?_drop] at hx
    unfold slA at hp
    split at hp
    · rename_i e
      have : i + j < xs.length := by
        rcases Nat.lt_or_ge (i + j) xs.length with h' | h'
        · exact h'
        · rw [List.getElem?_eq_none h'] at hx; cases hx
      omega
    · cases ha : s.a with
      | none => rw [ha] at hp; cases hp
      | some q =>
        rw [ha] at hp
        simp only [Option.map_some, Option.some.injEq] at hp
        rw [← hp, addr_add_add, ← Nat.add_mul]
        exact h.2.2 q ha (i + j) x hx

theorem slA_on {b i k : Nat} {n cap : Nat} : (Sl.mk (slA s.a s.c i k) n cap).on b → s.on b := by
  rintro ⟨p, hp, rfl⟩
  unfold slA at hp
  simp only at hp
  split at hp
  · exact ⟨p, hp, rfl⟩
  · cases ha : s.a with
    | none => rw [ha] at hp; cases hp
    | some q =>
      rw [ha] at hp
      simp only [Option.map_some, Option.some.injEq] at hp
      exact ⟨q, ha, by rw [← hp, add_block]⟩

theorem Own.cap (h : Own c k e w s xs) : s.n ≤ s.c ∧ (s.a = none → s.c = 0) := by
  rcases h.2 with h' | ⟨b, cs, ha, _, hc, _⟩
  · rw [h']; exact ⟨Nat.le_refl _, fun _ => rfl⟩
  · exact ⟨hc, fun h => by rw [ha] at h; cases h⟩

/-- an empty literal -/
theorem Blk.own0 {b : Nat} (h : Blk w b [] e) : Own c k e w ⟨some ⟨b, 0, none⟩, 0, 0⟩ [] :=
  ⟨rfl, .inr ⟨b, [], rfl, h, Nat.le_refl _, by simp [maxLen], by simp, by simp⟩⟩

/-- a literal of one element -/
theorem Blk.rd1 {b T : Nat} {x : α} (h : Blk w b (c x) T) : Rd c k w ⟨some ⟨b, 0, none⟩, 1, 1⟩ [x] := by
  refine ⟨rfl, fun h => (by cases h), fun p hp i y hi => ?_⟩
  cases hp
  match i, hi with
  | 0, hi =>
    simp at hi; subst hi
    rw [add_plain]
    exact h.at _ (by simp)
  | i + 1, hi => simp at hi

/-- an append, told from where the call began -/
theorem RunL.app {P : Program} {t ty bytes N : Nat} {L : List LB} {R : Value → World → Prop} {w0 : World} {S0 : Nat → Prop} (T : Now S0 w0 w) (hN : w0.heap.size ≤ N) (E : ElemT P t e k bytes) (hb0 : 0 < bytes) (hk : ∀ x, (c x).length = k) (h1 : ∀ x, ∀ u ∈ c x, u.oneCell' = true)
    (ho : Own c k e w s xs) {q : Option Addr} {m cap : Nat} {ys : List α} (hy : Rd c k w ⟨q, m, cap⟩ ys) (hcap : q = none → cap = 0) (hb : (s.n + m) * bytes ≤ 140737488355328)
    (hs : ∀ b, b < w0.heap.size → s.on b → S0 b) (hso : ∀ b, s.on b → b ∉ blk L) (hyo : ∀ b, (Sl.mk q m cap).on b → b ∉ blk L)
    (hR : ∀ (s' : Sl) (w' : World), Now S0 w0 w' → Touch (fun b => b ∈ blk L ∨ s.on b) w w' → Own c k e w' s' (xs ++ ys) → (∀ b, s'.on b → s.on b ∨ w.heap.size ≤ b) → (∀ b, s'.on b → b ∉ blk L) → R (.slice s'.a s'.n s'.c) w') :
    RunL P N w L (Builtin.append_ #[t, t] ty #[.slice s.a s.n s.c, .slice q m cap]) R :=
  RunL.append E hb0 hk h1 ho hy hcap hb hso hyo (fun wa s' w' hl ht how hf _ =>
    hR s' w' ((T.loc hl hN).comp ht hs) ((hl.touch.mono (fun _ _ h => Or.inl h)).comp ht (fun _ _ h => Or.inr h)) how
      (fun b hb => (hf b hb).imp id (fun h => Nat.le_trans hl.touch.size h))
      (fun b hb hm => by
        rcases hf b hb with h | h
        · exact hso b h hm
        · have := hl.lt hm; omega))
end
end Go.Sh
