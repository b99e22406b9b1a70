/- Walks that are told from a world in the middle: what was known there stays known.
   Conditions: none. -/
import Derived.Test.YtoenaheehpjmiaaLib4
namespace Go.Sh
open Go
set_option linter.unusedSimpArgs false
set_option linter.unusedVariables false

/-- the call's own blocks that were there at the anchor are among those that may turn -/
def Anc (S : Nat → Prop) (w0 : World) (N : Nat) (L : List LB) : Prop := ∀ i ∈ blk L, N ≤ i → i < w0.heap.size → S i
theorem Anc.start {S : Nat → Prop} {w0 : World} {L : List LB} : Anc S w0 w0.heap.size L := fun i _ h1 h2 => by omega
theorem Anc.nil {S : Nat → Prop} {w0 : World} {N : Nat} : Anc S w0 N [] := fun i h => by simp [blk] at h

section
variable {P : Program} {N : Nat} {w w0 : World} {L : List LB} {S0 : Nat → Prop}

theorem Now.locA {c : World} (h : Now S0 w0 w) (hl : Loc N w L c) (hA : Anc S0 w0 N L) : Now S0 w0 c := h.comp hl.touch (fun i hi hb => hA i hb (hl.low i hb) hi)

theorem Reb.A {k : World → Prop} (T : Now S0 w0 w) (hA : Anc S0 w0 N L) (h : ∀ wa, Now S0 w0 wa → Touch (fun b => b ∈ blk L) w wa → k wa) : Reb N w L k :=
  fun wa hl => h wa (T.locA hl hA) hl.touch

theorem NewL.A {cs : List Value} {T : TypeId} {k : Nat → World → Prop} (ht : Now S0 w0 w) (hA : Anc S0 w0 N L)
    (h : ∀ b w', Now S0 w0 w' → Touch (fun b => b ∈ blk L) w w' → Blk w' b cs T → N ≤ b ∧ w.heap.size ≤ b ∧ b < w'.heap.size ∧ b ∉ blk L → k b w') : NewL N w L cs T k :=
  fun wa hl => h _ _ ((ht.locA hl hA).alloc _) (hl.touch.alloc _) (by
    show (wa.heap.push _)[wa.heap.size]? = _
    simp) ⟨Nat.le_trans hl.base hl.touch.size, hl.touch.size, by simp, fun hm => Nat.lt_irrefl _ (hl.lt hm)⟩

theorem CallL.A {f : FuncId} {args : List Value} {R : Value → World → Prop} {R' : World → Value → World → Prop} (S : Nat → Prop) (T : Now S0 w0 w) (hA : Anc S0 w0 N L)
    (hok : Ok S w L) (hs : ∀ i, i < w0.heap.size → S i → S0 i)
    (h : ∀ wa, Now S0 w0 wa → Touch (fun b => b ∈ blk L) w wa → Spec P f args wa S (R' wa))
    (k : ∀ wa v w', Now S0 w0 w' → Touch (fun b => b ∈ blk L ∨ S b) w w' → w.heap.size ≤ wa.heap.size → wa.heap.size ≤ w'.heap.size → (∀ b ∈ blk L, b < wa.heap.size) → R' wa v w' → R v w') : CallL P N w L f args R :=
  ⟨S, hok, fun wa hl => Calls.mono (h wa (T.locA hl hA) hl.touch) fun e w' ⟨v, he, ht, hr⟩ =>
    ⟨ht, v, he, k wa v w' ((T.locA hl hA).comp ht hs) ((hl.touch.mono (fun _ _ h => Or.inl h)).comp ht (fun _ _ h => Or.inr h)) hl.touch.size ht.size (fun b hb => hl.lt hb) hr⟩⟩

theorem CallL.pA {f : FuncId} {args : List Value} {R : Value → World → Prop} {R' : World → Value → World → Prop} (T : Now S0 w0 w) (hA : Anc S0 w0 N L)
    (h : ∀ wa, Now S0 w0 wa → Touch (fun b => b ∈ blk L) w wa → Spec P f args wa (fun _ => False) (R' wa))
    (k : ∀ wa v w', Now S0 w0 w' → Touch (fun b => b ∈ blk L) w w' → w.heap.size ≤ wa.heap.size → wa.heap.size ≤ w'.heap.size → (∀ b ∈ blk L, b < wa.heap.size) → R' wa v w' → R v w') : CallL P N w L f args R :=
  CallL.A (fun _ => False) T hA (fun _ h => h.elim) (fun _ _ h => h.elim) h (fun wa v w' T' t z1 z2 l hr => k wa v w' T' (t.mono (fun i _ h => h.elim id False.elim)) z1 z2 l hr)

theorem CallL.vA {f : FuncId} {args : List Value} {R : Value → World → Prop} {m : Value} (T : Now S0 w0 w) (hA : Anc S0 w0 N L)
    (h : ∀ wa, Now S0 w0 wa → Touch (fun b => b ∈ blk L) w wa → Spec P f args wa (fun _ => False) (fun v _ => v = m))
    (k : ∀ w', Now S0 w0 w' → Touch (fun b => b ∈ blk L) w w' → R m w') : CallL P N w L f args R :=
  CallL.pA (R' := fun _ v _ => v = m) T hA h (fun _ v w' T' t _ _ _ hv => hv ▸ k w' T' t)
end

section
variable {α : Type} {c : α → List Value} {k : Nat} {e : TypeId} {w w' w0 : World} {s : Sl} {xs : List α} {S S0 : Nat → Prop}

theorem RunL.appA {P : Program} {t ty bytes N : Nat} {L : List LB} {R : Value → World → Prop} (T : Now S0 w0 w) (hA : Anc S0 w0 N L) (E : ElemT P t e k bytes) (hb0 : 0 < bytes) (hk : ∀ x, (c x).length = k) (h1 : ∀ x, ∀ u ∈ c x, u.oneCell' = true)
    (ho : Own c k e w s xs) {q : Option Addr} {m cap : Nat} {ys : List α} (hy : Rd c k w ⟨q, m, cap⟩ ys) (hcap : q = none → cap = 0) (hb : (s.n + m) * bytes ≤ 140737488355328)
    (hs : ∀ b, b < w0.heap.size → s.on b → S0 b) (hso : ∀ b, s.on b → b ∉ blk L) (hyo : ∀ b, (Sl.mk q m cap).on b → b ∉ blk L)
    (hR : ∀ (s' : Sl) (w' : World), Now S0 w0 w' → Touch (fun b => b ∈ blk L ∨ s.on b) w w' → Own c k e w' s' (xs ++ ys) → (∀ b, s'.on b → s.on b ∨ w.heap.size ≤ b) → (∀ b, s'.on b → b ∉ blk L) → R (.slice s'.a s'.n s'.c) w') :
    RunL P N w L (Builtin.append_ #[t, t] ty #[.slice s.a s.n s.c, .slice q m cap]) R :=
  RunL.append E hb0 hk h1 ho hy hcap hb hso hyo (fun wa s' w' hl ht how hf _ =>
    hR s' w' ((T.locA hl hA).comp ht hs) ((hl.touch.mono (fun _ _ h => Or.inl h)).comp ht (fun _ _ h => Or.inr h)) how
      (fun b hb => (hf b hb).imp id (fun h => Nat.le_trans hl.touch.size h))
      (fun b hb hm => by
        rcases hf b hb with h | h
        · exact hso b h hm
        · have := hl.lt hm; omega))

theorem RunL.freshA {P : Program} {t ty bytes N : Nat} {L : List LB} {R : Value → World → Prop} (T : Now S0 w0 w) (hA : Anc S0 w0 N L)
    (E : ElemT P t e k bytes) (hb0 : 0 < bytes) (hk : ∀ x, (c x).length = k) (h1 : ∀ x, ∀ u ∈ c x, u.oneCell' = true) {b : Nat} (hb : Blk w b [] e) (hge : b < w0.heap.size → S0 b) (hbL : b ∉ blk L)
    {q : Option Addr} {m cap : Nat} {ys : List α} (hy : Rd c k w ⟨q, m, cap⟩ ys) (hcap : q = none → cap = 0) (hsz : m * bytes ≤ 140737488355328) (hyo : ∀ b, (Sl.mk q m cap).on b → b ∉ blk L)
    (hR : ∀ (s' : Sl) (w' : World), Now S0 w0 w' → Touch (fun i => i ∈ blk L ∨ i = b) w w' → Own c k e w' s' ys → (∀ i, s'.on i → i = b ∨ w.heap.size ≤ i) → (∀ i, s'.on i → i ∉ blk L) → R (.slice s'.a s'.n s'.c) w') :
    RunL P N w L (Builtin.append_ #[t, t] ty #[.slice (some ⟨b, 0, none⟩) 0 0, .slice q m cap]) R := by
  refine RunL.appA T hA E hb0 hk h1 (Blk.own0 hb) hy hcap (by simpa using hsz) (fun i hi hon => by simp at hon; subst hon; exact hge hi) (fun i hon => by simp at hon; rw [← hon]; exact hbL) hyo (fun s' w' T' t' o f n => hR s' w' T' (t'.mono (fun i _ hi => ?_)) (by rwa [List.nil_append] at o) (fun i hi => ?_) n)
  · rcases hi with h | h
    · exact Or.inl h
    · simp at h; exact Or.inr h.symm
  · rcases f i hi with h | h
    · simp at h; exact Or.inl h.symm
    · exact Or.inr h

theorem RunL.makeA {P : Program} {t bytes N : Nat} {L : List LB} {R : Value → World → Prop} {z0 : α} (T : Now S0 w0 w) (hA : Anc S0 w0 N L) (E : ElemZ P t e k bytes (c z0)) {kl kc : IntKind} {n : Int} (h0 : 0 ≤ n) (hb : n.toNat * bytes ≤ 281474976710656) (hm : n.toNat ≤ maxLen)
    (hR : ∀ (s' : Sl) (w' : World), Now S0 w0 w' → Touch (fun i => i ∈ blk L) w w' → Own c k e w' s' (List.replicate n.toNat z0) → (∀ b, s'.on b → w.heap.size ≤ b ∧ b ∉ blk L) → R (.slice s'.a s'.n s'.c) w') :
    RunL P N w L (Instr.makeSlice t (.int kl n) (.int kc n)) R :=
  RunL.makeSlice E h0 hb hm (fun wa s' w' hl ht ho hf => hR s' w' ((T.locA hl hA).comp ht (fun _ _ h => h.elim)) (hl.touch.comp ht (fun _ _ h => h.elim)) ho
    (fun b hb => ⟨Nat.le_trans hl.touch.size (hf b hb), fun hm => by have := hf b hb; have := hl.lt hm; omega⟩))
end
end Go.Sh
