/- The words of this family (a function's body told as a proposition over numbers, strings and memory, by computation), and that they are sound: what a formula says of a body holds of the machine's runs.
   Conditions: none. -/
import Derived.Orders
import Derived.OrdersHeld
import Derived.KernelRfl
import Derived.Laws.World
import Derived.Laws.Tables
import Derived.Laws.Cells
import Derived.Laws.Slices
import Derived.Laws.Small
import Derived.Laws.Rows
import Derived.Laws.StructEq
namespace Go.Sh
open Go
set_option linter.unusedSimpArgs false
set_option linter.unusedVariables false
set_option maxHeartbeats 1000000

/-! ## part 1 -/

inductive Leaf where
  | bool | int (k : IntKind) | string | ptr | slice | map | other

def leafOf : TypeDesc → Leaf
  | .bool => .bool
  | .int k => .int k
  | .string => .string
  | .pointer _ => .ptr
  | .slice _ => .slice
  | .map _ _ => .map
  | _ => .other

/-- a slice's three parts -/
structure Sl where
  a : Option Addr
  n : Nat
  c : Nat

/-- how values of a struct's type are told: a Lean type, and its cells -/
structure Rep where
  α : Type
  cells : α → List Value

def leaves (P : Program) : Nat → TypeId → List Leaf
  | 0, _ => []
  | d + 1, t =>
    match P.underlying t with
    | some (.struct fs) => (fs.toList.map fun f => leaves P d f.type).flatten
    | some (.array n e) => (List.replicate n (leaves P d e)).flatten
    | some dsc => [leafOf dsc]
    | none => []

def aggT (P : Program) (t : TypeId) : Bool :=
  match P.underlying t with
  | some (.struct _) => true
  | some (.array _ _) => true
  | _ => false

def sizeT (P : Program) (t : TypeId) : Nat :=
  match P.info? t with
  | some i => i.size
  | none => 0

/-- Some value of this sort. -/
def Leaf.Ex : Leaf → (Value → Prop) → Prop
  | .bool, k => ∃ b : Bool, k (.bool b)
  | .int κ, k => ∃ n : Int, k (.int κ n)
  | .string, k => ∃ s : ByteArray, k (.string s)
  | .ptr, k => ∃ a : Option Addr, k (.pointer a)
  | .slice, k => ∃ l : Sl, k (.slice l.a l.n l.c)
  | .map, k => ∃ r : Option Nat, k (.map r)
  | .other, _ => False

/-- a value of a struct's or an array's type -/
def ExB (R : TypeId → Option Rep) (P : Program) (t : TypeId) (k : Value → Prop) : Prop :=
  match R t with
  | some r => ∃ x : r.α, k (.agg (r.cells x).toArray)
  | none => ∃ cs : List Value, cs.length = sizeT P t ∧ k (.agg cs.toArray)

def ExV (R : TypeId → Option Rep) (P : Program) (t : TypeId) (k : Value → Prop) : Prop :=
  match P.underlying t with
  | some (.struct _) => ExB R P t k
  | some (.array _ _) => ExB R P t k
  | some d => (leafOf d).Ex k
  | none => False

def ExTs (R : TypeId → Option Rep) (P : Program) : List TypeId → (List Value → Prop) → Prop
  | [], k => k []
  | t :: r, k => ExV R P t fun v => ExTs R P r fun vs => k (v :: vs)

def ExR (R : TypeId → Option Rep) (P : Program) (ts : List TypeId) (k : Value → Prop) : Prop :=
  match ts with
  | [] => k (.tuple #[])
  | [t] => ExV R P t k
  | ts => ExTs R P ts fun vs => k (.tuple vs.toArray)

theorem Leaf.Ex.spec {l : Leaf} {k : Value → Prop} (h : l.Ex k) : ∃ v, k v := by
  cases l <;> simp only [Leaf.Ex] at h <;> first
    | (obtain ⟨a, h⟩ := h; exact ⟨_, h⟩)
    | exact h.elim

theorem ExB.spec {R : TypeId → Option Rep} {P : Program} {t : TypeId} {k : Value → Prop} (h : ExB R P t k) : ∃ cs, k (.agg cs) := by
  unfold ExB at h
  split at h
  · obtain ⟨x, h⟩ := h; exact ⟨_, h⟩
  · obtain ⟨cs, _, h⟩ := h; exact ⟨_, h⟩

theorem ExV.spec {R : TypeId → Option Rep} {P : Program} {t : TypeId} {k : Value → Prop} (h : ExV R P t k) : ∃ v, k v := by
  unfold ExV at h
  split at h
  · obtain ⟨cs, h⟩ := ExB.spec h; exact ⟨_, h⟩
  · obtain ⟨cs, h⟩ := ExB.spec h; exact ⟨_, h⟩
  · exact Leaf.Ex.spec h
  · exact h.elim

theorem ExTs.spec {R : TypeId → Option Rep} {P : Program} : ∀ {ts : List TypeId} {k : List Value → Prop}, ExTs R P ts k → ∃ vs, k vs
  | [], _, h => ⟨[], h⟩
  | _ :: r, _, h => by
    obtain ⟨v, h⟩ := ExV.spec h
    obtain ⟨vs, h⟩ := ExTs.spec (ts := r) h
    exact ⟨v :: vs, h⟩

theorem ExR.spec {R : TypeId → Option Rep} {P : Program} {ts : List TypeId} {k : Value → Prop} (h : ExR R P ts k) : ∃ v, k v := by
  unfold ExR at h
  split at h
  · exact ⟨_, h⟩
  · exact ExV.spec h
  · obtain ⟨vs, h⟩ := ExTs.spec h; exact ⟨_, h⟩

/-! ### memory -/

/-- Nothing outside the blocks 'S' has turned; no block has gone. -/
structure Touch (S : Nat → Prop) (w w' : World) : Prop where
  os : w'.os = w.os
  tape : w'.tape = w.tape
  output : w'.output = w.output
  size : w.heap.size ≤ w'.heap.size
  block : ∀ b, b < w.heap.size → ¬ S b → w'.heap[b]? = w.heap[b]?

/-- The cells from an address on. -/
def At (w : World) (a : Addr) (cs : List Value) : Prop := ∀ j v, cs[j]? = some v → w.cell? (a.add j) = some v

/-- A block of the call's own: its number, its cells, its type. -/
structure LB where
  b : Nat
  cs : List Value
  T : TypeId

def blk : List LB → List Nat
  | [] => []
  | l :: r => l.b :: blk r

def Inv : List LB → World → Prop
  | [], _ => True
  | l :: r, w => w.heap[l.b]? = some (.cells l.cs.toArray l.T (0, 0)) ∧ Inv r w

/-- 'wa' is 'w' but for the call's own blocks and new ones. -/
structure Loc (N : Nat) (w : World) (L : List LB) (wa : World) : Prop where
  touch : Touch (fun b => b ∈ blk L) w wa
  inv : Inv L wa
  nodup : (blk L).Nodup
  low : ∀ b ∈ blk L, N ≤ b
  base : N ≤ w.heap.size

def spl (c : Array Value) (o : Nat) : List Value → Array Value
  | [] => c
  | v :: r => spl (c.setIfInBounds o v) (o + 1) r

def lspl (c : List Value) (o : Nat) : List Value → List Value
  | [] => c
  | v :: r => lspl (c.set o v) (o + 1) r

/-- The cells 'cs' are laid from 'a' on. -/
def putC (w : World) (a : Addr) (cs : List Value) : World :=
  { w with heap := w.heap.modify a.block fun
      | .cells c T fz => .cells (spl c a.off cs) T fz
      | o => o }

def oneCell : Value → Bool
  | .agg _ => false
  | .tuple _ => false
  | _ => true

/-! ### the words of a formula -/

def IfB (b : Bool) (p q : Prop) : Prop := match b with | true => p | false => q
def NilL (a : Option Addr) (k : Addr → Prop) : Prop := match a with | some p => k p | none => False
def IdxL (a : Option Addr) (n : Nat) (i : Int) (k : Addr → Prop) : Prop := match a with | some p => 0 ≤ i ∧ i < n ∧ k p | none => False
def NotIn (b : Nat) (L : List LB) : Prop := b ∉ blk L
def selB (c x y : Bool) : Bool := match c with | true => x | false => y

def Ok (S : Nat → Prop) (w : World) (L : List LB) : Prop := ∀ b, S b → b < w.heap.size ∧ b ∉ blk L

def CallL (P : Program) (N : Nat) (w : World) (L : List LB) (f : FuncId) (args : List Value) (R : Value → World → Prop) : Prop :=
  ∃ S : Nat → Prop, Ok S w L ∧ ∀ wa, Loc N w L wa → Calls P f args.toArray wa fun e w' => Touch S wa w' ∧ ∃ v, e = .returned v ∧ R v w'

def LdL (R : TypeId → Option Rep) (P : Program) (w : World) (L : List LB) (t : TypeId) (a : Addr) (k : Value → Prop) : Prop :=
  match P.underlying t with
  | none => False
  | some d => match aggT P t with
    | true => match R t with
      | some r => ∃ x : r.α, match (r.cells x).length == sizeT P t with
        | true => At w a (r.cells x) ∧ NotIn a.block L ∧ k (.agg (r.cells x).toArray)
        | false => False
      | none => ∃ cs : List Value, cs.length = sizeT P t ∧ At w a cs ∧ NotIn a.block L ∧ k (.agg cs.toArray)
    | false => (leafOf d).Ex fun v => At w a [v] ∧ NotIn a.block L ∧ k v

def RoomAt (w : World) (a : Addr) (n : Nat) : Prop :=
  ∃ c T fz, w.heap[a.block]? = some (.cells c T fz) ∧ a.spot = none ∧ a.off + n ≤ c.size ∧ (fz.2 ≤ a.off ∨ a.off + n ≤ fz.1)

def StL (w : World) (L : List LB) (a : Addr) (cs : List Value) (k : World → Prop) : Prop :=
  RoomAt w a cs.length ∧ NotIn a.block L ∧ k (putC w a cs)

def NewL (N : Nat) (w : World) (L : List LB) (cs : List Value) (T : TypeId) (k : Nat → World → Prop) : Prop :=
  ∀ wa, Loc N w L wa → k wa.heap.size (wa.alloc (.cells cs.toArray T))

def RunL (P : Program) (N : Nat) (w : World) (L : List LB) (s : Sem Value) (R : Value → World → Prop) : Prop :=
  ∃ S : Nat → Prop, Ok S w L ∧ ∀ wa, Loc N w L wa → ∃ v w', s.run P wa = .ok v w' ∧ Touch S wa w' ∧ R v w'

def RunU (P : Program) (N : Nat) (w : World) (L : List LB) (s : Sem Unit) (k : World → Prop) : Prop :=
  ∃ S : Nat → Prop, Ok S w L ∧ ∀ wa, Loc N w L wa → ∃ w', s.run P wa = .ok () w' ∧ Touch S wa w' ∧ k w'

def RunP (R : TypeId → Option Rep) (P : Program) (t : TypeId) (s : Sem Value) (k : Value → Prop) : Prop :=
  ExV R P t fun v => (∀ wa, s.run P wa = .ok v wa) ∧ k v

/-- At whatever world the call may be in. -/
def Reb (N : Nat) (w : World) (L : List LB) (k : World → Prop) : Prop := ∀ wa, Loc N w L wa → k wa

def HoldK : List (Addr × List Value) → World → Prop → Prop
  | [], _, p => p
  | x :: r, w, p => At w x.1 x.2 ∧ HoldK r w p

/-! ### the state -/

inductive Tag where
  | dead | val | loc (i o : Nat)

structure St where
  t : List Value
  g : List Tag
  L : List LB

def St.v (s : St) (i : Nat) : Value := s.t.getD i undef
def St.tag (s : St) (i : Nat) : Tag := s.g.getD i .dead
def St.put (s : St) (d : Option Tmp) (v : Value) (g : Tag) : St :=
  match d with
  | none => s
  | some d => { t := s.t.set d v, g := s.g.set d g, L := s.L }
def St.setL (s : St) (L : List LB) : St := { t := s.t, g := s.g, L }
def St.ev (s : St) : Operand → Value
  | .tmp t => s.v t
  | .const v => v
  | .global g => .pointer (some ⟨g, 0, none⟩)
  | .func f => .func (.func f) #[] #[]
def Tag.ok : Tag → Bool
  | .dead => false
  | _ => true
def St.alive (s : St) : Operand → Bool
  | .tmp t => (s.tag t).ok
  | _ => true
def St.tagOf (s : St) : Operand → Tag
  | .tmp t => s.tag t
  | _ => .val
def St.evs (s : St) : List Operand → List Value
  | [] => []
  | x :: r => s.ev x :: s.evs r

structure Ctx where
  P : Program
  N : Nat
  prom : Nat → Bool
  call : Nat → Bool
  rep : TypeId → Option Rep

abbrev Fact := Option (Addr × List Value)
abbrev Kont := Fact → St → World → Prop

def addA (a : Addr) (n : Nat) : Addr := match n with | 0 => a | n + 1 => { block := a.block, off := a.off + (n + 1), spot := none }

def part (P : Program) (t : TypeId) (cs : List Value) (o : Nat) (k : Value → Prop) : Prop :=
  match aggT P t with
  | true => match ((cs.drop o).take (sizeT P t)).length == sizeT P t with
    | true => k (.agg ((cs.drop o).take (sizeT P t)).toArray)
    | false => False
  | false => match cs[o]? with
    | some v => k v
    | none => False

def pickK (c : Bool) (x y : Value) (k : Value → Prop) : Prop :=
  match x, y with
  | .bool a, .bool b => k (.bool (selB c a b))
  | x, y => IfB c (k x) (k y)

def cmpI (op : BinOp) (a b : Int) : Option Bool :=
  match op with
  | .eql => some (decide (a = b))
  | .neq => some (!decide (a = b))
  | .lss => some (decide (a < b))
  | .leq => some (decide (a ≤ b))
  | .gtr => some (decide (b < a))
  | .geq => some (decide (b ≤ a))
  | _ => none

def bt (s : ByteArray) (i : Nat) : Int := (s.data.getD i 0).toNat
def strEq (x y : ByteArray) : Bool := x.toList == y.toList

def eqSem (op : BinOp) (t : TypeId) (x y : Value) : Sem Value := do eqGuard op t (.tmp 0) (.tmp 0) x y; binOp op t x y

def plainFs (f : TypeId → Bool) : List Field → Bool
  | [] => true
  | x :: r => f x.type && plainFs f r
/-- numbers, bools, strings, and structs of such -/
def plainT (P : Program) : Nat → TypeId → Bool
  | 0, _ => false
  | n + 1, t => match P.underlying t with
    | some (.struct fs) => plainFs (plainT P n) fs.toList
    | some .bool => true
    | some (.int _) => true
    | some .string => true
    | _ => false

def partV (P : Program) (t : TypeId) (cs : List Value) (o : Nat) : Option Value :=
  match aggT P t with
  | true => match ((cs.drop o).take (sizeT P t)).length == sizeT P t with
    | true => some (.agg ((cs.drop o).take (sizeT P t)).toArray)
    | false => none
  | false => cs[o]?

def eqFs (P : Program) (e : TypeId → Value → Value → Option Bool) (xs ys : List Value) : List Field → Option Bool
  | [] => some true
  | f :: r => match f.name == "_" with
    | true => none
    | false => match partV P f.type xs f.offset, partV P f.type ys f.offset with
      | some a, some b => match e f.type a b, eqFs P e xs ys r with
        | some p, some q => some (p && q)
        | _, _ => none
      | _, _ => none

def eqV (P : Program) : Nat → TypeId → Value → Value → Option Bool
  | 0, _, _, _ => none
  | n + 1, t, x, y => match P.underlying t, x, y with
    | some .bool, .bool a, .bool b => some (a == b)
    | some (.int _), .int k a, .int k' b => match decide (k = k') with
      | true => some (decide (a = b))
      | false => none
    | some .string, .string a, .string b => some (strEq a b)
    | some (.struct fs), .agg xs, .agg ys => match P.stoodInHeld t with
      | true => none
      | false => eqFs P (eqV P n) xs.toList ys.toList fs.toList
    | _, _, _ => none

def binK (R : TypeId → Option Rep) (P : Program) (op : BinOp) (t : TypeId) (x y : Value) (k : Value → Prop) : Prop :=
  match x, y with
  | .int κ a, .int κ' b =>
    match op with
    | .shl => 0 ≤ b ∧ k (.int κ (κ.wrap (a * 2 ^ (min b.toNat κ.bits))))
    | .shr => 0 ≤ b ∧ k (.int κ (a.fdiv (2 ^ (min b.toNat κ.bits))))
    | op =>
      match (decide (κ = κ')) with
      | true =>
        match op with
        | .add => k (.int κ (κ.wrap (a + b)))
        | .sub => k (.int κ (κ.wrap (a - b)))
        | .mul => k (.int κ (κ.wrap (a * b)))
        | .quo => b ≠ 0 ∧ k (.int κ (κ.wrap (a.tdiv b)))
        | .rem => b ≠ 0 ∧ k (.int κ (a.tmod b))
        | .and => k (.int κ (κ.wrap ((BitVec.ofInt κ.bits a &&& BitVec.ofInt κ.bits b).toNat)))
        | .or => k (.int κ (κ.wrap ((BitVec.ofInt κ.bits a ||| BitVec.ofInt κ.bits b).toNat)))
        | .xor => k (.int κ (κ.wrap ((BitVec.ofInt κ.bits a ^^^ BitVec.ofInt κ.bits b).toNat)))
        | .andNot => k (.int κ (κ.wrap ((BitVec.ofInt κ.bits a &&& ~~~ BitVec.ofInt κ.bits b).toNat)))
        | op => match cmpI op a b with
          | some c => k (.bool c)
          | none => False
      | false => False
  | .string a, .string b =>
    match op with
    | .eql => k (.bool (strEq a b))
    | .neq => k (.bool (!strEq a b))
    | .lss => k (.bool (Op.bytesLess a.toList b.toList))
    | .leq => k (.bool (Op.bytesLess a.toList b.toList || strEq a b))
    | .gtr => k (.bool (!(Op.bytesLess a.toList b.toList || strEq a b)))
    | .geq => k (.bool (!Op.bytesLess a.toList b.toList))
    | .add => ((a.size + b.size : Nat) : Int) ≤ 9223372036854775807 ∧ k (.string (a ++ b))
    | _ => False
  | .pointer a, .pointer none =>
    match P.underlying t, op with
    | some (.pointer _), .eql => k (.bool a.isNone)
    | some (.pointer _), .neq => k (.bool (!a.isNone))
    | _, _ => False
  | .slice a _ _, .slice none _ _ =>
    match P.underlying t, op with
    | some (.slice _), .eql => k (.bool a.isNone)
    | some (.slice _), .neq => k (.bool (!a.isNone))
    | _, _ => False
  | .bool a, .bool b =>
    match P.underlying t, op with
    | some .bool, .eql => k (.bool (a == b))
    | some .bool, .neq => k (.bool (!(a == b)))
    | _, _ => False
  | .agg xs, .agg ys =>
    match op with
    | .eql => match plainT P 12 t && Nat.ble 13 P.depth with
      | true => match eqV P 12 t (.agg xs) (.agg ys) with
        | some b => k (.bool b)
        | none => False
      | false => RunP R P P.rt.bool (eqSem .eql t (.agg xs) (.agg ys)) k
    | .neq => match plainT P 12 t && Nat.ble 13 P.depth with
      | true => match eqV P 12 t (.agg xs) (.agg ys) with
        | some b => k (.bool (!b))
        | none => False
      | false => RunP R P P.rt.bool (eqSem .neq t (.agg xs) (.agg ys)) k
    | _ => False
  | _, _ => False

def unK (op : UnOp) (x : Value) (k : Value → Prop) : Prop :=
  match op, x with
  | .not, .bool b => k (.bool (!b))
  | .neg, .int κ n => k (.int κ (κ.wrap (0 - n)))
  | _, _ => False

def slA (a : Option Addr) (c l size : Nat) : Option Addr := if c = l then a else a.map (·.add (l * size))

def slV (a : Option Addr) (n c size : Nat) (lo hi : Option Value) (k : Value → Prop) : Prop :=
  match lo, hi with
  | none, none => k (.slice a n c)
  | some (.int _ l), none => 0 ≤ l ∧ l ≤ n ∧ k (.slice (slA a c l.toNat size) (n - l.toNat) (c - l.toNat))
  | none, some (.int _ h) => 0 ≤ h ∧ h ≤ c ∧ k (.slice a h.toNat c)
  | some (.int _ l), some (.int _ h) => 0 ≤ l ∧ l ≤ h ∧ h ≤ c ∧ k (.slice (slA a c l.toNat size) (h.toNat - l.toNat) (c - l.toNat))
  | _, _ => False

def strV (s : ByteArray) (lo hi : Option Value) (k : Value → Prop) : Prop :=
  match lo, hi with
  | none, none => k (.string (s.extract 0 s.size))
  | some (.int _ l), none => 0 ≤ l ∧ l ≤ s.size ∧ k (.string (s.extract l.toNat s.size))
  | none, some (.int _ h) => 0 ≤ h ∧ h ≤ s.size ∧ k (.string (s.extract 0 h.toNat))
  | some (.int _ l), some (.int _ h) => 0 ≤ l ∧ l ≤ h ∧ h ≤ s.size ∧ k (.string (s.extract l.toNat h.toNat))
  | _, _ => False

def sliceK (P : Program) (t : TypeId) (x : Value) (lo hi : Option Value) (k : Value → Prop) : Prop :=
  match P.underlying t, x with
  | some (.slice e), .slice a n c => match P.info? e with
    | some _ => slV a n c (sizeT P e) lo hi k
    | none => False
  | some .string, .string s => strV s lo hi k
  | some (.array n e), .pointer (some a) => match P.info? e with
    | some _ => slV (some a) n n (sizeT P e) lo hi k
    | none => False
  | _, _ => False

def partsV (s : St) : List (Nat × Operand) → List (Nat × Value)
  | [] => []
  | p :: r => (p.1, s.ev p.2) :: partsV s r

def zeroT (P : Program) (t : TypeId) : Option (List Value) :=
  match P.info? t with
  | some i => match i.zero with
    | some z => some z.cells.toList
    | none => none
  | none => none

def buildK (P : Program) (t : TypeId) (parts : List (Nat × Value)) (k : Value → Prop) : Prop :=
  match P.built t parts with
  | some cs => k (.agg cs.toList.toArray)
  | none => False

def buildSliceK (P : Program) (t : TypeId) (n : Nat) (parts : List (Nat × Value)) (k : TypeId → List Value → Prop) : Prop :=
  match P.underlying t with
  | some (.slice e) =>
    match zeroT P e with
    | none => False
    | some z => match Nat.ble (n * sizeT P e) 16777216 with
      | true => match Instr.fill (fun i => some (i * sizeT P e, sizeT P e)) ((Array.range (n * sizeT P e)).map (z.toArray[· % z.toArray.size]!)) parts with
        | some cs => k e cs.toList
        | none => False
      | false => False
  | _ => False

def lenK (P : Program) (t : TypeId) (x : Value) (k : Value → Prop) : Prop :=
  match P.underlying t, x with
  | some .string, .string s => k (.int .i64 s.size)
  | some (.array n _), _ => k (.int .i64 n)
  | some (.slice _), .slice _ n _ => k (.int .i64 n)
  | _, _ => False

def allocK (C : Ctx) (d : Option Tmp) (cells : List Value) (T : TypeId) (s : St) (w : World) (K : Kont) : Prop :=
  match d with
  | none => False
  | some d => match C.prom d with
    | true => ∀ b : Nat, w.heap.size ≤ b → K none ((s.setL (s.L ++ [⟨b, cells, T⟩])).put (some d) (.pointer (some ⟨b, 0, none⟩)) (.loc s.L.length 0)) w
    | false => NewL C.N w s.L cells T fun b w' => K none (s.put (some d) (.pointer (some ⟨b, 0, none⟩)) .val) w'

def litIdx : Value → Option Nat
  | .int _ (.ofNat n) => some n
  | _ => none

def funcK (f : Value) (k : FuncId → List Value → List Value → Prop) : Prop :=
  match f with
  | .func (.func g) first captured => k g first.toList captured.toList
  | _ => False

def allAlive (s : St) : List Operand → Bool
  | [] => true
  | x :: r => s.alive x && allAlive s r

def allOne : List Value → Bool
  | [] => true
  | v :: r => oneCell v && allOne r

def rtypes (P : Program) (f : FuncId) : List TypeId :=
  match P.funcs[f]? with
  | some fn => fn.resultTypes.toList
  | none => []

inductive CK where
  | int (k : IntKind) | str | run

def convKind (P : Program) (src dst : TypeId) : CK :=
  match P.underlying src, P.underlying dst with
  | some (.int _), some (.int k) => .int k
  | some .string, some .string => .str
  | _, _ => .run

def denOp (C : Ctx) (H : List (Addr × List Value)) (o : Oper) (s : St) (w : World) (K : Kont) : Prop :=
  match allAlive s o.op.operands.toList with
  | false => False
  | true =>
    match o.op with
    | .move x => K none (s.put o.dst (s.ev x) (s.tagOf x)) w
    | .assign x => K none (s.put o.dst (s.ev x) (s.tagOf x)) w
    | .pick c a b => match s.ev c with
      | .bool t => pickK t (s.ev a) (s.ev b) fun v => K none (s.put o.dst v .val) w
      | _ => False
    | .alloc T => match zeroT C.P T with
      | some z => allocK C o.dst z T s w K
      | none => False
    | .box T x => allocK C o.dst (s.ev x).cells.toList T s w K
    | .load T x => match s.tagOf x with
      | .loc i j => match s.L[i]?, C.P.underlying T with
        | some lb, some _ => part C.P T lb.cs j fun v => K none (s.put o.dst v .val) w
        | _, _ => False
      | _ => match s.ev x with
        | .pointer (some a) => LdL C.rep C.P w s.L T a fun v => K (some (a, v.cells.toList)) (s.put o.dst v .val) w
        | _ => False
    | .store T x y => match (aggT C.P T && (C.rep T).isNone) with
      | true => match C.P.info? T, s.tagOf x, s.ev x, s.ev y with
        | some _, .val, .pointer (some a), .agg cs => cs.toList.length = sizeT C.P T ∧ allOne cs.toList = true ∧ StL w s.L a cs.toList fun w' => HoldK H w' (K none (s.put o.dst undef .val) w')
        | _, _, _, _ => False
      | false => match (C.P.info? T).isSome && ((s.ev y).cells.toList.length == sizeT C.P T && allOne (s.ev y).cells.toList) with
      | false => False
      | true => match s.tagOf x with
        | .loc i j => match s.L[i]? with
          | some lb => match Nat.ble (j + (s.ev y).cells.toList.length) lb.cs.length with
            | true => K none ((s.setL (s.L.set i ⟨lb.b, lspl lb.cs j (s.ev y).cells.toList, lb.T⟩)).put o.dst undef .val) w
            | false => False
          | none => False
        | _ => match s.ev x with
          | .pointer (some a) => StL w s.L a (s.ev y).cells.toList fun w' => HoldK H w' (K none (s.put o.dst undef .val) w')
          | _ => False
    | .nilCheck x => match s.ev x with
      | .pointer p => NilL p fun a => K none (s.put o.dst (.pointer (some a)) (s.tagOf x)) w
      | .func (.func f) first captured => K none (s.put o.dst (.func (.func f) first captured) .val) w
      | _ => False
    | .binOp op t x y _ => binK C.rep C.P op t (s.ev x) (s.ev y) fun v => K none (s.put o.dst v .val) w
    | .unOp op _ x => unK op (s.ev x) fun v => K none (s.put o.dst v .val) w
    | .convert src dst x => match convKind C.P src dst with
      | .int k => match s.ev x with
        | .int _ n => K none (s.put o.dst (.int k (k.wrap n)) .val) w
        | _ => False
      | .str => match s.ev x with
        | .string b => K none (s.put o.dst (.string b) .val) w
        | _ => False
      | .run => RunL C.P C.N w s.L (convert src dst (s.ev x)) fun v w' => ExV C.rep C.P o.type fun u => v = u ∧ HoldK H w' (K none (s.put o.dst u .val) w')
    | .fieldAddr T x f => match C.P.underlying T with
      | some (.struct fs) => match fs.toList[f]? with
        | some fld => match sizeT C.P fld.type with
          | 0 => False
          | _ + 1 => match s.ev x with
            | .pointer (some a) => K none (s.put o.dst (.pointer (some (addA a fld.offset))) (match s.tagOf x with | .loc i j => .loc i (j + fld.offset) | _ => .val)) w
            | _ => False
        | none => False
      | _ => False
    | .field T x f => match C.P.underlying T with
      | some (.struct fs) => match fs.toList[f]? with
        | some fld => match s.ev x, C.P.underlying fld.type with
          | .agg cs, some _ => part C.P fld.type cs.toList fld.offset fun v => K none (s.put o.dst v .val) w
          | _, _ => False
        | none => False
      | _ => False
    | .indexAddr t x i => match C.P.underlying t, s.ev x, s.ev i with
      | some (.slice e), .slice a n _, .int _ j => match C.P.info? e with
        | some _ => IdxL a n j fun p => K none (s.put o.dst (.pointer (some (p.add (j.toNat * sizeT C.P e)))) .val) w
        | none => False
      | some (.array n e), .pointer (some a), .int _ j => match C.P.info? e with
        | none => False
        | some _ => match s.tagOf x, litIdx (s.ev i) with
          | .loc i' o', some jn => match Nat.blt jn n with
            | true => K none (s.put o.dst (.pointer (some (addA a (jn * sizeT C.P e)))) (.loc i' (o' + jn * sizeT C.P e))) w
            | false => False
          | .loc _ _, none => False
          | _, _ => 0 ≤ j ∧ j < n ∧ K none (s.put o.dst (.pointer (some (a.add (j.toNat * sizeT C.P e)))) .val) w
      | _, _, _ => False
    | .index t x i => match C.P.underlying t, s.ev x, s.ev i with
      | some .string, .string b, .int _ j => 0 ≤ j ∧ j < b.size ∧ K none (s.put o.dst (.int .u8 (bt b j.toNat)) .val) w
      | some (.array _ _), .agg cs, .int κ j => RunP C.rep C.P o.type (Instr.index t (.agg cs) (.int κ j)) fun v => K none (s.put o.dst v .val) w
      | _, _, _ => False
    | .slice t x lo hi none => sliceK C.P t (s.ev x) (lo.map s.ev) (hi.map s.ev) fun v => K none (s.put o.dst v .val) w
    | .slice t x lo hi (some mx) => RunP C.rep C.P o.type (Instr.sliceAt t (s.ev x) (lo.map s.ev) (hi.map s.ev) (some (s.ev mx))) fun v => K none (s.put o.dst v .val) w
    | .build T parts => buildK C.P T (partsV s parts.toList) fun v => K none (s.put o.dst v .val) w
    | .buildSlice T n parts => buildSliceK C.P T n (partsV s parts.toList) fun e cs =>
        NewL C.N w s.L cs e fun b w' => K none (s.put o.dst (.slice (some ⟨b, 0, none⟩) n n) .val) w'
    | .extract x i => match s.ev x with
      | .tuple vs => match vs.toList[i]? with
        | some v => K none (s.put o.dst v .val) w
        | none => False
      | _ => False
    | .makeFunc fn first captured => K none (s.put o.dst (.func fn (s.evs first.toList).toArray (s.evs captured.toList).toArray) .val) w
    | .makeSlice t n c => RunL C.P C.N w s.L (Instr.makeSlice t (s.ev n) (s.ev c)) fun v w' => ExV C.rep C.P o.type fun u => v = u ∧ HoldK H w' (K none (s.put o.dst u .val) w')
    | .makeMap t r => RunL C.P C.N w s.L (Instr.makeMap t (r.map s.ev)) fun v w' => ExV C.rep C.P o.type fun u => v = u ∧ HoldK H w' (K none (s.put o.dst u .val) w')
    | .mapUpdate t m k x => RunU C.P C.N w s.L (Instr.mapUpdate t (s.ev m) (s.ev k) (s.ev x)) fun w' => HoldK H w' (K none (s.put o.dst undef .val) w')
    | .insert t m k x => RunU C.P C.N w s.L (Instr.mapUpdate t (s.ev m) (s.ev k) (s.ev x)) fun w' => HoldK H w' (K none (s.put o.dst undef .val) w')
    | .lookup t x ix ok => RunL C.P C.N w s.L (Instr.lookup t (s.ev x) (s.ev ix) ok) fun v w' => ExV C.rep C.P o.type fun u => v = u ∧ HoldK H w' (K none (s.put o.dst u .val) w')
    | .call c => match c.callee with
      | .builtin b => match b with
        | .len => match c.args.toList, c.argTypes.toList with
          | [x], [t] => lenK C.P t (s.ev x) fun v => K none (s.put o.dst v .val) w
          | _, _ => False
        | .max => match s.evs c.args.toList with
          | [.int k x, .int k' y] => match decide (k = k') with
            | true => K none (s.put o.dst (.int k (if y > x then y else x)) .val) w
            | false => False
          | _ => False
        | .min => match s.evs c.args.toList with
          | [.int k x, .int k' y] => match decide (k = k') with
            | true => K none (s.put o.dst (.int k (if y < x then y else x)) .val) w
            | false => False
          | _ => False
        | .append => RunL C.P C.N w s.L (Builtin.append_ c.argTypes o.type (s.evs c.args.toList).toArray) fun v w' => ExV C.rep C.P o.type fun u => v = u ∧ HoldK H w' (K none (s.put o.dst u .val) w')
        | .copy => RunL C.P C.N w s.L (Builtin.copy_ c.argTypes o.type (s.evs c.args.toList).toArray) fun v w' => ExV C.rep C.P o.type fun u => v = u ∧ HoldK H w' (K none (s.put o.dst u .val) w')
        | _ => False
      | .value f => funcK (s.ev f) fun g first captured => match C.call g with
        | true => CallL C.P C.N w s.L g (first ++ s.evs c.args.toList ++ captured) fun v w' => ExR C.rep C.P (rtypes C.P g) fun u => v = u ∧ HoldK H w' (K none (s.put o.dst u .val) w')
        | false => False
      | _ => False
    | _ => False

/-- With the operation's guard. -/
def denG (C : Ctx) (ops : Array Oper) (H : List (Addr × List Value)) (o : Oper) (s : St) (w : World) (K : Kont) : Prop :=
  match o.guard with
  | none => denOp C H o s w K
  | some (j, want) => match (ops.toList[j]?).bind (·.dst) with
    | none => False
    | some d => match (s.tag d).ok with
      | false => False
      | true => match s.v d with
        | .bool b => IfB b
            (match want with | true => denOp C H o (s.put (some d) (.bool true) .val) w K | false => K none ((s.put (some d) (.bool true) .val).put o.dst undef .val) w)
            (match want with | true => K none ((s.put (some d) (.bool false) .val).put o.dst undef .val) w | false => denOp C H o (s.put (some d) (.bool false) .val) w K)
        | .tuple _ => K none (s.put o.dst undef .val) w
        | _ => False

def denOps (C : Ctx) (ops : Array Oper) : List Oper → St → World → (St → World → Prop) → Prop
  | [], s, w, K => K s w
  | o :: r, s, w, K => denG C ops [] o s w fun _ s w => denOps C ops r s w K

def earlyCallee : Callee → Bool
  | .builtin .len => true
  | .builtin .max => true
  | .builtin .min => true
  | _ => false

/-- An operation that only reads, and writes nothing. -/
def early (P : Program) (o : Oper) : Bool :=
  match o.op with
  | .move _ | .assign _ | .pick .. | .load .. | .nilCheck _ | .binOp .. | .unOp .. | .fieldAddr .. | .field .. | .indexAddr .. | .index .. | .slice .. | .build .. | .extract .. | .makeFunc .. => true
  | .convert src dst _ => match convKind P src dst with
    | .run => false
    | _ => true
  | .call c => earlyCallee c.callee
  | _ => false

def depOn (ops : Array Oper) : Nat → Nat → Nat → Bool
  | 0, _, _ => false
  | n + 1, i, j => match ops.toList[j]? with
    | none => false
    | some o => o.after.toList.any fun e => Region.binds .any e && (Nat.beq e.on i || depOn ops n i e.on)

/-- what was read before, at each operation: its number, and where: a block of the call's own, or an address -/
inductive Got where
  | loc (i : Nat)
  | mem (a : Addr) (cs : List Value)

def gotFacts (dep : Nat → Nat → Bool) (j : Nat) : List (Nat × Got) → List (Addr × List Value)
  | [] => []
  | (i, .mem a cs) :: r => match dep i j with | true => gotFacts dep j r | false => (a, cs) :: gotFacts dep j r
  | _ :: r => gotFacts dep j r

def gotDrop (dep : Nat → Nat → Bool) (j : Nat) : List (Nat × Got) → List (Nat × Got)
  | [] => []
  | x :: r => match dep x.1 j with | true => gotDrop dep j r | false => x :: gotDrop dep j r

def isLoc (i : Nat) : List (Nat × Got) → Bool
  | [] => false
  | (_, .loc j) :: r => Nat.beq i j || isLoc i r
  | _ :: r => isLoc i r

/-- a store into a block of the call's own that was read by an operation that need not come first is not followed -/
def storeOk (o : Oper) (s : St) (G : List (Nat × Got)) : Bool :=
  match o.op with
  | .store _ x _ => match s.tagOf x with
    | .loc i _ => !isLoc i G
    | _ => true
  | _ => true

def gotOf (o : Oper) (s : St) (i : Nat) (f : Fact) (G : List (Nat × Got)) : List (Nat × Got) :=
  match o.op with
  | .load _ x => match s.tagOf x with
    | .loc k _ => (i, .loc k) :: G
    | _ => match f with
      | some (a, cs) => (i, .mem a cs) :: G
      | none => G
  | _ => G

def AllR : List Nat → (Nat → Prop) → Prop
  | [], _ => True
  | [j], p => p j
  | j :: r, p => p j ∧ AllR r p

def firstEarly (P : Program) (ops : Array Oper) : List Nat → Option Nat
  | [] => none
  | i :: r => match ops.toList[i]? with
    | some o => match early P o with | true => some i | false => firstEarly P ops r
    | none => firstEarly P ops r

def denAny (C : Ctx) (ops : Array Oper) : Nat → Array Bool → List (Nat × Got) → St → World → (St → World → Prop) → Prop
  | 0, listed, _, s, w, K => match Region.ready .any ops listed with
    | [] => K s w
    | _ => False
  | n + 1, listed, G, s, w, K => match Region.ready .any ops listed with
    | [] => K s w
    | r => match firstEarly C.P ops r with
      | some i => match ops.toList[i]?, Region.free .any ops listed i with
        | some o, true => denG C ops [] o s w fun f s' w' => denAny C ops n (listed.setIfInBounds i true) (gotOf o s i f G) s' w' K
        | _, _ => False
      | none => AllR r fun j => match ops.toList[j]? with
        | some o => match storeOk o s (gotDrop (depOn ops ops.size) j G) with
          | true => denG C ops (gotFacts (depOn ops ops.size) j G) o s w fun _ s' w' => denAny C ops n (listed.setIfInBounds j true) (gotDrop (depOn ops ops.size) j G) s' w' K
          | false => False
        | none => False

inductive DX where
  | normal | exit (id : Nat) | ret

abbrev Cont := DX → St → World → Prop

def thenD (k : St → World → Prop) (Q : Cont) : Cont := fun x s w => match x with | .normal => k s w | x => Q x s w
def inBlockD (id : Nat) (Q : Cont) : Cont := fun x s w => match x with
  | .exit i => match Nat.beq i id with | true => Q .normal s w | false => Q (.exit i) s w
  | x => Q x s w

def den (C : Ctx) : Code → Cont → St → World → Prop
  | .skip, Q, s, w => Q .normal s w
  | .label _, Q, s, w => Q .normal s w
  | .region _ ops false, Q, s, w => denOps C ops ops.toList s w (Q .normal)
  | .region _ ops true, Q, s, w => match Region.noSelect ops with
    | true => denAny C ops ops.size (Array.replicate ops.size false) [] s w (Q .normal)
    | false => False
  | .seq a b, Q, s, w => den C a (thenD (fun s w => den C b Q s w) Q) s w
  | .cond c a b, Q, s, w => match s.alive c with
    | false => False
    | true => match s.ev c with
      | .bool t => IfB t (den C a Q s w) (den C b Q s w)
      | _ => False
  | .block id c, Q, s, w => den C c (inBlockD id Q) s w
  | .exit id, Q, s, w => Q (.exit id) s w
  | .ret, Q, s, w => Q .ret s w
  | _, _, _, _ => False

/-- the results -/
def resK (R : TypeId → Option Rep) (P : Program) (w : World) (s : St) : List ResultVar → (List Value → Prop) → Prop
  | [], k => k []
  | .tmp t :: r, k => match (s.tag t).ok with
    | true => resK R P w s r fun vs => k (s.v t :: vs)
    | false => False
  | .cell a t :: r, k => match s.tag a with
    | .dead => False
    | .loc i o => match s.L[i]? with
      | some lb => match P.underlying t with
        | some _ => part P t lb.cs o fun v => resK R P w s r fun vs => k (v :: vs)
        | none => False
      | none => False
    | .val => match s.v a with
      | .pointer (some p) => LdL R P w s.L t p fun v => resK R P w s r fun vs => k (v :: vs)
      | _ => False

def oneOr : List Value → Value
  | [v] => v
  | vs => .tuple vs.toArray

/-- the function's end: what it returns, at whatever world the call is in -/
def retD (C : Ctx) (fn : Func) (Q : Value → World → Prop) : Cont := fun x s w =>
  match x with
  | .exit _ => False
  | _ => resK C.rep C.P w s fn.results.toList fun vs => Reb C.N w s.L (Q (oneOr vs))

def initT (n : Nat) : List Value → List Value
  | [] => List.replicate n undef
  | v :: r => match n with
    | 0 => v :: r
    | n + 1 => v :: initT n r

def initG (n : Nat) : List Tag := List.replicate n .val

/-! ## part 2 -/

/-! ### blocks -/
theorem Touch.refl (S : Nat → Prop) (w : World) : Touch S w w := ⟨rfl, rfl, rfl, Nat.le_refl _, fun _ _ _ => rfl⟩
theorem Touch.trans {S : Nat → Prop} {a b c : World} (h : Touch S a b) (k : Touch S b c) : Touch S a c :=
  ⟨k.os.trans h.os, k.tape.trans h.tape, k.output.trans h.output, Nat.le_trans h.size k.size,
   fun i hi hs => (k.block i (Nat.lt_of_lt_of_le hi h.size) hs).trans (h.block i hi hs)⟩
theorem Touch.mono {S T : Nat → Prop} {a b : World} (h : Touch S a b) (hs : ∀ i, i < a.heap.size → S i → T i) : Touch T a b :=
  ⟨h.os, h.tape, h.output, h.size, fun i hi ht => h.block i hi fun x => ht (hs i hi x)⟩

theorem lt_size {w : World} {b : Nat} {o : Obj} (h : w.heap[b]? = some o) : b < w.heap.size := by
  rcases Nat.lt_or_ge b w.heap.size with h' | h'
  · exact h'
  · simp [Array.getElem?_eq_none h'] at h

theorem mem_blk {L : List LB} {b : Nat} : b ∈ blk L ↔ ∃ l ∈ L, l.b = b := by
  induction L with
  | nil => simp [blk]
  | cons l r ih => simp only [blk, List.mem_cons, ih]; constructor
                   · rintro (rfl | ⟨x, hx, rfl⟩)
                     · exact ⟨l, .inl rfl, rfl⟩
                     · exact ⟨x, .inr hx, rfl⟩
                   · rintro ⟨x, rfl | hx, rfl⟩
                     · exact .inl rfl
                     · exact .inr ⟨x, hx, rfl⟩

theorem blk_append (L M : List LB) : blk (L ++ M) = blk L ++ blk M := by induction L <;> simp_all [blk]
theorem inv_mem {L : List LB} {w : World} (h : Inv L w) {l : LB} (hl : l ∈ L) : w.heap[l.b]? = some (.cells l.cs.toArray l.T (0, 0)) := by
  induction L with
  | nil => cases hl
  | cons x r ih =>
    simp only [Inv] at h
    cases hl with
    | head => exact h.1
    | tail _ hr => exact ih h.2 hr
theorem inv_of {L : List LB} {w : World} (h : ∀ l ∈ L, w.heap[l.b]? = some (.cells l.cs.toArray l.T (0, 0))) : Inv L w := by
  induction L with
  | nil => trivial
  | cons x r ih => exact ⟨h x (by simp), ih fun l hl => h l (by simp [hl])⟩
theorem Loc.lt {N : Nat} {w wa : World} {L : List LB} (h : Loc N w L wa) {b : Nat} (hb : b ∈ blk L) : b < wa.heap.size := by
  obtain ⟨l, hl, rfl⟩ := mem_blk.1 hb
  exact lt_size (inv_mem h.inv hl)

theorem Loc.refl {N : Nat} {w : World} {L : List LB} (hi : Inv L w) (hn : (blk L).Nodup) (hl : ∀ b ∈ blk L, N ≤ b) (hb : N ≤ w.heap.size) : Loc N w L w :=
  ⟨Touch.refl _ _, hi, hn, hl, hb⟩
theorem Loc.nil {N : Nat} {w : World} (hb : N ≤ w.heap.size) : Loc N w [] w := ⟨Touch.refl _ _, trivial, by simp [blk], by simp [blk], hb⟩
/-- a block of 'w' that is none of the call's own -/
theorem Loc.get {N : Nat} {w wa : World} {L : List LB} (h : Loc N w L wa) {b : Nat} {o : Obj} (hb : w.heap[b]? = some o) (hn : b ∉ blk L) : wa.heap[b]? = some o := by
  rw [h.touch.block b (lt_size hb) hn]; exact hb
/-- behind a call: from the world at the call -/
theorem Loc.after {N : Nat} {w wa w' : World} {L : List LB} {S : Nat → Prop} (h : Loc N w L wa) (hs : Ok S w L) (ht : Touch S wa w') : Loc N w' L w' := by
  refine Loc.refl (inv_of fun l hl => ?_) h.nodup h.low (Nat.le_trans h.base (Nat.le_trans h.touch.size ht.size))
  have hb : l.b ∈ blk L := mem_blk.2 ⟨l, hl, rfl⟩
  rw [ht.block l.b (h.lt hb) fun hS => (hs _ hS).2 hb]
  exact inv_mem h.inv hl
theorem Loc.drawn {N : Nat} {w wa : World} {L : List LB} (h : Loc N w L wa) (n : Nat) : Loc N w L { wa with drawn := n } :=
  ⟨⟨h.touch.os, h.touch.tape, h.touch.output, h.touch.size, h.touch.block⟩, inv_of fun l hl => inv_mem h.inv hl, h.nodup, h.low, h.base⟩
theorem heap_push (w : World) (o : Obj) (k : Nat) (h : k < w.heap.size) : (w.alloc o).heap[k]? = w.heap[k]? := by
  show (w.heap.push o)[k]? = _
  rw [Array.getElem?_push, if_neg (by omega)]
theorem heap_push_new (w : World) (o : Obj) : (w.alloc o).heap[w.heap.size]? = some o := by
  show (w.heap.push o)[_]? = _
  simp

theorem Loc.alloc {N : Nat} {w wa : World} {L : List LB} (h : Loc N w L wa) (cs : List Value) (T : TypeId) :
    Loc N w (L ++ [⟨wa.heap.size, cs, T⟩]) (wa.alloc (.cells cs.toArray T)) := by
  have hsz : w.heap.size ≤ wa.heap.size := h.touch.size
  refine ⟨⟨h.touch.os, h.touch.tape, h.touch.output, by simp; omega, fun b hb hn => ?_⟩, inv_of fun l hl => ?_, ?_, ?_, h.base⟩
  · rw [blk_append] at hn
    rw [heap_push _ _ _ (by omega)]
    exact h.touch.block b hb fun hx => hn (by simp [hx])
  · rcases List.mem_append.1 hl with hl | hl
    · rw [heap_push _ _ _ (h.lt (mem_blk.2 ⟨l, hl, rfl⟩))]; exact inv_mem h.inv hl
    · simp at hl; subst hl; exact heap_push_new wa _
  · rw [blk_append]
    refine List.nodup_append.2 ⟨h.nodup, by simp [blk], ?_⟩
    intro a ha b hb
    simp [blk] at hb
    have := h.lt ha
    omega
  · intro b hb
    rw [blk_append] at hb
    rcases List.mem_append.1 hb with hb | hb
    · exact h.low b hb
    · simp [blk] at hb; have := h.base; omega
theorem Loc.allocNew {N : Nat} {w wa : World} {L : List LB} (h : Loc N w L wa) (o : Obj) : Loc N (wa.alloc o) L (wa.alloc o) := by
  refine Loc.refl (inv_of fun l hl => ?_) h.nodup h.low (by have := h.base; have := h.touch.size; simp; omega)
  rw [heap_push _ _ _ (h.lt (mem_blk.2 ⟨l, hl, rfl⟩))]; exact inv_mem h.inv hl

/-! ### cells -/
theorem At.cellsOf {w wa : World} {a : Addr} {cs : List Value} (h : At w a cs) (hb : wa.heap[a.block]? = w.heap[a.block]?) : At wa a cs := by
  intro j v hj
  have h1 := h j v hj
  have hadd : (a.add j).block = a.block := by unfold Addr.add; split <;> rfl
  unfold World.cell? at *
  rw [hadd] at h1 ⊢
  rw [hb]; exact h1
theorem At.lt {w : World} {a : Addr} {cs : List Value} (h : At w a cs) (hne : cs ≠ []) : a.block < w.heap.size := by
  cases cs with
  | nil => exact absurd rfl hne
  | cons v r =>
    have h1 := h 0 v rfl
    have hadd : a.add 0 = a := by simp [Addr.add]
    rw [hadd] at h1
    exact block_lt_of_cell h1
theorem At.nil (w : World) (a : Addr) : At w a [] := fun j v h => by simp at h
/-- read elsewhere -/
theorem At.loc {N : Nat} {w wa : World} {L : List LB} {a : Addr} {cs : List Value} (h : At w a cs) (hl : Loc N w L wa) (hn : NotIn a.block L) : At wa a cs := by
  by_cases hc : cs = []
  · subst hc; exact At.nil _ _
  · exact h.cellsOf (hl.touch.block _ (h.lt hc) hn)

theorem add_block (a : Addr) (n : Nat) : (a.add n).block = a.block := by unfold Addr.add; split <;> rfl
theorem addA_eq (a : Addr) (n : Nat) : addA a n = a.add n := by
  cases n with
  | zero => simp [addA, Addr.add]
  | succ n => simp [addA, Addr.add]
theorem add_none (b o n : Nat) : (⟨b, o, none⟩ : Addr).add n = ⟨b, o + n, none⟩ := by
  unfold Addr.add; split <;> simp_all

theorem run_isAgg {P : Program} {t : TypeId} {d : TypeDesc} (h : P.underlying t = some d) (w : World) : (isAgg t).run P w = .ok (aggT P t) w := by
  unfold isAgg aggT
  simp only [Sem.run_bind, run_underlying h, Result.andThen_ok, h]
  cases d <;> rfl
theorem run_sizeT {P : Program} {t : TypeId} {i : TypeInfo} (h : P.info? t = some i) (w : World) : (sizeOf t).run P w = .ok (sizeT P t) w := by
  simp [sizeOf, typeInfo, h, sizeT]
theorem info_of_underlying {P : Program} {t : TypeId} {d : TypeDesc} (h : P.underlying t = some d) : ∃ i, P.info? t = some i := by
  unfold Program.underlying at h
  cases hi : P.info? t with
  | none => simp [hi] at h
  | some i => exact ⟨i, rfl⟩

/-- a variable whose cells are known is loaded -/
theorem run_loadVarAt {P : Program} {w : World} {t : TypeId} {a : Addr} {v : Value} (hu : ∃ d, P.underlying t = some d) (h : At w a v.cells.toList)
    (hv : match aggT P t with | true => ∃ cs, v = .agg cs ∧ cs.size = sizeT P t | false => v.cells = #[v]) : (loadVar t a).run P w = .ok v w := by
  obtain ⟨d, hu⟩ := hu
  obtain ⟨i, hi⟩ := info_of_underlying hu
  unfold loadVar
  simp only [Sem.run_bind, run_isAgg hu, Result.andThen_ok]
  cases hag : aggT P t with
  | true =>
    rw [hag] at hv
    obtain ⟨cs, rfl, hsz⟩ := hv
    simp only [if_true, Sem.run_bind, run_sizeT hi, Result.andThen_ok]
    have := run_loadCells_list (P := P) w a cs.toList h
    simp only [Array.length_toList, Array.toArray_toList] at this
    rw [← hsz, this]
    rfl
  | false =>
    rw [hag] at hv
    simp only [Bool.false_eq_true, if_false]
    rw [hv] at h
    have h0 := h 0 v rfl
    have hadd : a.add 0 = a := by simp [Addr.add]
    rw [hadd] at h0
    simp [h0]

theorem leaf_spec {l : Leaf} {k : Value → Prop} (h : l.Ex k) : ∃ v, k v ∧ v.cells = #[v] := by
  cases l <;> simp only [Leaf.Ex] at h <;> first
    | (obtain ⟨a, h⟩ := h; exact ⟨_, h, rfl⟩)
    | exact h.elim
theorem exV_spec {R : TypeId → Option Rep} {P : Program} {t : TypeId} {k : Value → Prop} (h : ExV R P t k) :
    ∃ v, k v ∧ (∃ d, P.underlying t = some d) ∧ (match aggT P t with | true => ∃ cs, v = .agg cs | false => v.cells = #[v]) := by
  unfold ExV at h
  unfold aggT
  split at h
  · rename_i hu; obtain ⟨vs, h⟩ := ExB.spec h; exact ⟨_, h, ⟨_, hu⟩, by simp [hu]⟩
  · rename_i hu; obtain ⟨vs, h⟩ := ExB.spec h; exact ⟨_, h, ⟨_, hu⟩, by simp [hu]⟩
  · rename_i d h1 h2 hu
    obtain ⟨v, h, hc⟩ := leaf_spec h
    refine ⟨v, h, ⟨_, hu⟩, ?_⟩
    rw [hu]
    cases d <;> first | exact hc | exact (h1 _ rfl).elim | exact (h2 _ _ rfl).elim
  · exact h.elim

/-- a load from elsewhere -/
theorem ldL_spec {R : TypeId → Option Rep} {P : Program} {w : World} {L : List LB} {t : TypeId} {a : Addr} {k : Value → Prop} (h : LdL R P w L t a k) :
    ∃ v, k v ∧ At w a v.cells.toList ∧ NotIn a.block L ∧ ∀ wa, At wa a v.cells.toList → (loadVar t a).run P wa = .ok v wa := by
  unfold LdL at h
  split at h
  · exact h.elim
  · rename_i d hu
    split at h
    · rename_i hag
      split at h
      · rename_i r hr
        obtain ⟨x, h⟩ := h
        split at h
        · rename_i hl
          obtain ⟨hat, hni, hk⟩ := h
          refine ⟨_, hk, hat, hni, fun wa hat => run_loadVarAt ⟨_, hu⟩ hat ?_⟩
          rw [hag]
          exact ⟨_, rfl, by simpa using hl⟩
        · exact h.elim
      · obtain ⟨cs, hl, hat, hni, hk⟩ := h
        refine ⟨_, hk, hat, hni, fun wa hat => run_loadVarAt ⟨_, hu⟩ hat ?_⟩
        rw [hag]
        exact ⟨_, rfl, by simpa using hl⟩
    · rename_i hag
      obtain ⟨v, ⟨hat, hni, hk⟩, hc⟩ := leaf_spec h
      exact ⟨v, hk, by rw [hc]; exact hat, hni, fun wa hat => run_loadVarAt ⟨_, hu⟩ hat (by rw [hag]; exact hc)⟩

/-! ### the frame -/
structure Fr (s : St) (a : Act) : Prop where
  st : s.t.length = a.tmps.size
  sg : s.g.length = a.tmps.size
  df : a.defers = []
  val : ∀ i, (s.tag i).ok = true → a.tmps.getD i undef = s.v i
  loc : ∀ i k o, s.tag i = .loc k o → ∃ lb, s.L[k]? = some lb ∧ s.v i = .pointer (some ⟨lb.b, o, none⟩)

theorem Fr.ev {s : St} {a : Act} (h : Fr s a) {x : Operand} (hx : s.alive x = true) : a.eval x = s.ev x := by
  cases x <;> simp only [St.alive, Act.eval, St.ev] at * <;> first | rfl | exact h.val _ hx

theorem put_tag_ne {s : St} {d i : Nat} {v : Value} {g : Tag} (h : i ≠ d) : (s.put (some d) v g).tag i = s.tag i := by
  simp [St.put, St.tag, List.getD, List.getElem?_set_ne (Ne.symm h)]
theorem put_v_ne {s : St} {d i : Nat} {v : Value} {g : Tag} (h : i ≠ d) : (s.put (some d) v g).v i = s.v i := by
  simp [St.put, St.v, List.getD, List.getElem?_set_ne (Ne.symm h)]

theorem Fr.put {s : St} {a : Act} (h : Fr s a) (d : Option Tmp) (v : Value) (g : Tag) (hg : ∀ k o, g = .loc k o → ∃ lb, s.L[k]? = some lb ∧ v = .pointer (some ⟨lb.b, o, none⟩)) :
    Fr (s.put d v g) (a.put d v) := by
  cases d with
  | none => exact h
  | some d =>
    refine ⟨by simpa [St.put, Act.put] using h.st, by simpa [St.put, Act.put] using h.sg, h.df, fun i hi => ?_, fun i k o hi => ?_⟩
    · by_cases hid : i = d
      · subst hid
        by_cases hlt : i < a.tmps.size
        · have h1 : i < s.t.length := by rw [h.st]; exact hlt
          simp [Act.put, St.put, St.v, List.getD, Array.getD, hlt, h1]
        · have h1 : ¬ i < s.g.length := by rw [h.sg]; exact hlt
          simp [St.put, St.tag, List.getD, List.getElem?_set, h1, Tag.ok] at hi
      · rw [put_tag_ne hid] at hi
        rw [put_v_ne hid, ← h.val i hi]
        simp [Act.put, Array.getD_eq_getD_getElem?, Array.getElem?_setIfInBounds_ne (Ne.symm hid)]
    · by_cases hid : i = d
      · subst hid
        by_cases hlt : i < s.g.length
        · have h1 : i < s.t.length := by rw [h.st, ← h.sg]; exact hlt
          have htag : (s.put (some i) v g).tag i = g := by simp [St.put, St.tag, List.getD, List.getElem?_set, hlt]
          rw [htag] at hi
          obtain ⟨lb, h2, h3⟩ := hg k o hi
          exact ⟨lb, h2, by simp [St.put, St.v, List.getD, List.getElem?_set, h1, h3]⟩
        · simp [St.put, St.tag, List.getD, List.getElem?_set, hlt] at hi
      · rw [put_tag_ne hid] at hi
        rw [put_v_ne hid]
        exact h.loc i k o hi
theorem Fr.putv {s : St} {a : Act} (h : Fr s a) (d : Option Tmp) (v : Value) : Fr (s.put d v .val) (a.put d v) := h.put d v .val fun k o hk => by cases hk

/-- the blocks' contents may turn, and blocks may come -/
theorem Fr.setL {s : St} {a : Act} (h : Fr s a) {L : List LB} (hL : ∀ (k : Nat) (lb : LB), s.L[k]? = some lb → ∃ lb' : LB, L[k]? = some lb' ∧ lb'.b = lb.b) : Fr (s.setL L) a := by
  refine ⟨h.st, h.sg, h.df, h.val, fun i k o hi => ?_⟩
  obtain ⟨lb, h1, h2⟩ := h.loc i k o hi
  obtain ⟨lb', h3, h4⟩ := hL k lb h1
  exact ⟨lb', h3, by rw [h4]; exact h2⟩

/-! ## part 3 -/

theorem run_v {P : Program} {S : Sem Value} {v : Value} {w w' : World} (h : S.run P w = .ok v w') : (do pure (Next.value (← S)) : Sem Next).run P w = .ok (.value v) w' := by
  simp [h]
theorem run_u {P : Program} {S : Sem Unit} {w w' : World} (h : S.run P w = .ok () w') : (do S; pure Next.skip : Sem Next).run P w = .ok .skip w' := by
  simp [h]

theorem runP_spec {R : TypeId → Option Rep} {P : Program} {t : TypeId} {S : Sem Value} {k : Value → Prop} (h : RunP R P t S k) : ∃ v, k v ∧ ∀ wa, S.run P wa = .ok v wa := by
  obtain ⟨v, h, _⟩ := exV_spec h
  exact ⟨v, h.2, h.1⟩

theorem cmpI_run {P : Program} {op : BinOp} {a b : Int} {c : Bool} (h : cmpI op a b = some c) (w : World) : (Op.intCmp op a b).run P w = .ok (.bool c) w := by
  cases op <;> simp only [cmpI, Option.some.injEq, reduceCtorEq] at h <;> subst h <;> simp [Op.intCmp, bne, BEq.beq]

theorem run_equalIn_ptr (P : Program) (w : World) (d : Nat) (t e : TypeId) (h : P.underlying t = some (.pointer e)) (a : Option Addr) : (Op.equalIn (d + 1) t (.pointer a) (.pointer none)).run P w = .ok a.isNone w := by
  cases a <;> simp [Op.equalIn, run_underlying h]
theorem run_equal_ptr (P : Program) (w : World) (t e : TypeId) (h : P.underlying t = some (.pointer e)) (a : Option Addr) : (Op.equal t (.pointer a) (.pointer none)).run P w = .ok a.isNone w :=
  run_equalIn_ptr P w 9999 t e h a
theorem run_equalIn_sl (P : Program) (w : World) (d' : Nat) (t e : TypeId) (h : P.underlying t = some (.slice e)) (a : Option Addr) (n c m d : Nat) : (Op.equalIn (d' + 1) t (.slice a n c) (.slice none m d)).run P w = .ok a.isNone w := by
  cases a <;> simp [Op.equalIn, run_underlying h]
theorem run_equal_sl (P : Program) (w : World) (t e : TypeId) (h : P.underlying t = some (.slice e)) (a : Option Addr) (n c m d : Nat) : (Op.equal t (.slice a n c) (.slice none m d)).run P w = .ok a.isNone w :=
  run_equalIn_sl P w 9999 t e h a n c m d
theorem run_shift_l (P : Program) (w : World) (t : TypeId) (κ κ' : IntKind) (a b : Int) (hb : 0 ≤ b) : (binOp .shl t (.int κ a) (.int κ' b)).run P w = .ok (.int κ (κ.wrap (a * 2 ^ (min b.toNat κ.bits)))) w := by
  simp [binOp, Op.shift, show ¬ b < 0 by omega]
theorem run_shift_r (P : Program) (w : World) (t : TypeId) (κ κ' : IntKind) (a b : Int) (hb : 0 ≤ b) : (binOp .shr t (.int κ a) (.int κ' b)).run P w = .ok (.int κ (a.fdiv (2 ^ (min b.toNat κ.bits)))) w := by
  simp [binOp, Op.shift, show ¬ b < 0 by omega]

theorem eqGuard_plain {P : Program} {w : World} {op : BinOp} {t : TypeId} {X Y : Operand} {x y : Value} (h : match x, y with | .nilIface, .nilIface => False | .agg _, .agg _ => False | _, _ => True) :
    (eqGuard op t X Y x y).run P w = .ok () w := by
  unfold eqGuard
  cases op <;> simp <;> (cases x <;> cases y <;> first | exact h.elim | simp)

theorem eqGuard_agg (op : BinOp) (t : TypeId) (X Y X' Y' : Operand) (xs ys : Array Value) : eqGuard op t X Y (.agg xs) (.agg ys) = eqGuard op t X' Y' (.agg xs) (.agg ys) := by
  unfold eqGuard; rfl

theorem partV_run {P : Program} {t : TypeId} {cs : List Value} {o : Nat} {v : Value} (h : partV P t cs o = some v) (hu : ∃ d, P.underlying t = some d) (wa : World) : (Go.part t cs.toArray o).run P wa = .ok v wa := by
  obtain ⟨d, hu⟩ := hu
  obtain ⟨i, hi⟩ := info_of_underlying hu
  unfold partV at h
  cases hag : aggT P t with
  | true =>
    rw [hag] at h
    simp only [] at h
    split at h
    · cases h
      simp only [Go.part, Sem.run_bind, run_isAgg hu, Result.andThen_ok, hag, if_true, run_sizeT hi, Sem.run_pure]
      congr 2
      apply Array.ext'
      simp [Array.toList_extract, List.extract]
    · cases h
  | false =>
    rw [hag] at h
    simp only [] at h
    have hv' : cs.toArray[o]? = some v := by simpa using h
    simp only [Go.part, Sem.run_bind, run_isAgg hu, Result.andThen_ok, hag, Bool.false_eq_true, if_false, hv']
    rfl

theorem eqV_under {P : Program} {n : Nat} {t : TypeId} {x y : Value} {b : Bool} (h : eqV P n t x y = some b) : ∃ d, P.underlying t = some d := by
  cases n with
  | zero => simp [eqV] at h
  | succ n =>
    cases hu : P.underlying t with
    | none => simp [eqV, hu] at h
    | some d => exact ⟨d, rfl⟩

theorem eqV_run {P : Program} : ∀ (n : Nat) (t : TypeId) (x y : Value) (b : Bool), eqV P n t x y = some b → ∀ (D : Nat) (w : World), n ≤ D → (Op.equalIn D t x y).run P w = .ok b w
  | 0, t, x, y, b, h, D, w, hD => by simp [eqV] at h
  | n + 1, t, x, y, b, h, D, w, hD => by
    obtain ⟨D, rfl⟩ : ∃ E, D = E + 1 := ⟨D - 1, by omega⟩
    simp only [eqV] at h
    split at h
    · rename_i a b hu; cases h; exact run_equalIn_bool w D t _ _ hu
    · rename_i k k1 a k2 b hu
      split at h
      · rename_i hk
        have hk' : k1 = k2 := of_decide_eq_true hk
        subst hk'
        cases h
        rw [run_equalIn_int w D t k1 k _ _ hu]
        rfl
      · cases h
    · rename_i a b hu; cases h; exact run_equalIn_string w D t _ _ hu
    · rename_i fs xs ys hu
      split at h
      · cases h
      · rename_i hst
        have hfo : P.fieldsOf t = fs := by simp [Program.fieldsOf, hu]
        rw [run_equalIn_struct w D t xs ys (by rw [hfo]; exact hu) hst, hfo]
        have key : ∀ (l : List Field) (b : Bool), eqFs P (eqV P n) xs.toList ys.toList l = some b → (Op.eqFields D xs ys l).run P w = .ok b w := by
          intro l
          induction l with
          | nil => intro b h; simp [eqFs] at h; subst h; rfl
          | cons f r ih =>
            intro b h
            simp only [eqFs] at h
            split at h
            · cases h
            · rename_i hname
              have hne : f.name ≠ "_" := by intro e; rw [e] at hname; simp at hname
              split at h
              · rename_i u v hu1 hv1
                split at h
                · rename_i p q hp hq
                  cases h
                  obtain ⟨d, hd⟩ := eqV_under hp
                  have r1 := partV_run hu1 ⟨d, hd⟩ w
                  have r2 := partV_run hv1 ⟨d, hd⟩ w
                  have r3 := eqV_run n f.type u v p hp D w (by omega)
                  simp only [Array.toArray_toList] at r1 r2
                  simp only [Op.eqFields, hne, if_true, Sem.run_bind, r1, r2, r3, Result.andThen_ok, ne_eq, not_false_eq_true]
                  cases p
                  · simp
                  · simp only [Bool.not_true, Bool.false_eq_true, if_false, Bool.true_and]
                    exact ih q hq
                · cases h
              · cases h
        exact key _ _ h
    · cases h

theorem plain_guard {P : Program} : ∀ (n : Nat) (t : TypeId), plainT P n t = true → ∀ D, n ≤ D → P.eqGuardType D t = false
  | 0, t, h, D, hD => by simp [plainT] at h
  | n + 1, t, h, D, hD => by
    obtain ⟨D, rfl⟩ : ∃ E, D = E + 1 := ⟨D - 1, by omega⟩
    simp only [plainT] at h
    simp only [Program.eqGuardType]
    split at h
    · rename_i fs hu
      rw [hu]
      simp only []
      have key : ∀ l : List Field, plainFs (plainT P n) l = true → ∀ f ∈ l, P.eqGuardType D f.type = false := by
        intro l
        induction l with
        | nil => intro _ f hf; cases hf
        | cons x r ih =>
          intro h f hf
          simp only [plainFs, Bool.and_eq_true] at h
          cases hf with
          | head => exact plain_guard n _ h.1 D (by omega)
          | tail _ hr => exact ih h.2 f hr
      rw [Array.any_eq_false]
      intro i hi
      rw [key _ h fs[i] (by simp)]
      simp
    · rename_i hu; rw [hu]
    · rename_i hu; rw [hu]
    · rename_i hu; rw [hu]
    · cases h

theorem eqGuard_none {P : Program} {op : BinOp} {t : TypeId} {X Y : Operand} {xs ys : Array Value} {w : World} (hop : op = .eql ∨ op = .neq) (h : P.eqGuardType P.depth t = false) : (eqGuard op t X Y (.agg xs) (.agg ys)).run P w = .ok () w := by
  unfold eqGuard
  rcases hop with rfl | rfl <;> simp [h]

theorem binI_run {R : TypeId → Option Rep} {P : Program} {op : BinOp} {t : TypeId} {κ : IntKind} {a b : Int} {k : Value → Prop} (h : binK R P op t (.int κ a) (.int κ b) k) :
    ∃ v, k v ∧ ∀ wa, (binOp op t (.int κ a) (.int κ b)).run P wa = .ok v wa := by
  cases op <;> simp only [binK, decide_true] at h
  case shl => exact ⟨_, h.2, fun wa => run_shift_l _ _ _ _ _ _ _ h.1⟩
  case shr => exact ⟨_, h.2, fun wa => run_shift_r _ _ _ _ _ _ _ h.1⟩
  case add => exact ⟨_, h, fun wa => by simp [binOp, Op.intArith]⟩
  case sub => exact ⟨_, h, fun wa => by simp [binOp, Op.intArith]⟩
  case mul => exact ⟨_, h, fun wa => by simp [binOp, Op.intArith]⟩
  case quo => exact ⟨_, h.2, fun wa => by simp [binOp, Op.intDiv, h.1]⟩
  case rem => exact ⟨_, h.2, fun wa => by simp [binOp, Op.intDiv, h.1]⟩
  case and => exact ⟨_, h, fun wa => by simp [binOp, Op.intBits]⟩
  case or => exact ⟨_, h, fun wa => by simp [binOp, Op.intBits]⟩
  case xor => exact ⟨_, h, fun wa => by simp [binOp, Op.intBits]⟩
  case andNot => exact ⟨_, h, fun wa => by simp [binOp, Op.intBits]⟩
  all_goals
    simp only [cmpI] at h
    refine ⟨_, h, fun wa => ?_⟩
    simp [binOp, Op.intCmp, bne, BEq.beq]

theorem binK_run {R : TypeId → Option Rep} {P : Program} {op : BinOp} {t : TypeId} {x y : Value} {k : Value → Prop} (h : binK R P op t x y k) :
    ∃ v, k v ∧ ∀ wa X Y, (do eqGuard op t X Y x y; binOp op t x y : Sem Value).run P wa = .ok v wa := by
  by_cases hxy : ∃ κ a κ' b, x = .int κ a ∧ y = .int κ' b
  · obtain ⟨κ, a, κ', b, rfl, rfl⟩ := hxy
    by_cases hk : κ = κ'
    · subst hk
      obtain ⟨v, hv, hr⟩ := binI_run h
      exact ⟨v, hv, fun wa X Y => by simp [eqGuard_plain, hr]⟩
    · have hd : decide (κ = κ') = false := decide_eq_false hk
      cases op <;> simp only [binK, hd] at h
      case shl => exact ⟨_, h.2, fun wa X Y => by simp [eqGuard_plain, run_shift_l, h.1]⟩
      case shr => exact ⟨_, h.2, fun wa X Y => by simp [eqGuard_plain, run_shift_r, h.1]⟩
  · unfold binK at h
    split at h
    · exact absurd ⟨_, _, _, _, rfl, rfl⟩ hxy
    · rename_i a b
      cases op <;> simp only [] at h
      case add =>
        have hn : ¬ (((a.size + b.size : Nat) : Int) > IntKind.i64.max) := by have := h.1; simp [IntKind.max, IntKind.bits, IntKind.signed]; omega
        exact ⟨_, h.2, fun wa X Y => by simp only [Sem.run_bind, eqGuard_plain, Result.andThen_ok, binOp, Op.stringOp, hn, if_false]; rfl⟩
      all_goals first
        | exact h.elim
        | exact ⟨_, h, fun wa X Y => by simp [eqGuard_plain, binOp, Op.stringOp, strEq]⟩
    · rename_i a
      split at h
      · rename_i e hu
        exact ⟨_, h, fun wa X Y => by simp [eqGuard_plain, binOp, run_equal_ptr P _ t e hu]⟩
      · rename_i e hu
        exact ⟨_, h, fun wa X Y => by simp [eqGuard_plain, binOp, run_equal_ptr P _ t e hu]⟩
      · exact h.elim
    · rename_i a n c m d
      split at h
      · rename_i e hu
        exact ⟨_, h, fun wa X Y => by simp [eqGuard_plain, binOp, run_equal_sl P _ t e hu]⟩
      · rename_i e hu
        exact ⟨_, h, fun wa X Y => by simp [eqGuard_plain, binOp, run_equal_sl P _ t e hu]⟩
      · exact h.elim
    · rename_i a b
      split at h
      · rename_i hu
        exact ⟨_, h, fun wa X Y => by simp [eqGuard_plain, run_eql_bool _ t a b hu]⟩
      · rename_i hu
        exact ⟨_, h, fun wa X Y => by simp [eqGuard_plain, run_neq_bool _ t a b hu]⟩
      · exact h.elim
    · rename_i xs ys
      cases op <;> simp only [] at h <;> try exact h.elim
      · split at h
        · rename_i hpl
          simp only [Bool.and_eq_true, Nat.ble_eq] at hpl
          split at h
          · rename_i b hb
            refine ⟨_, h, fun wa X Y => ?_⟩
            have hr := eqV_run 12 t _ _ b hb 10000 wa (by omega)
            simp only [Sem.run_bind, eqGuard_none (.inl rfl) (plain_guard 12 t hpl.1 P.depth (by omega)), Result.andThen_ok, binOp, Op.equal, Op.maxDepth, hr]
            rfl
          · exact h.elim
        · obtain ⟨v, hv, hr⟩ := runP_spec h
          exact ⟨v, hv, fun wa X Y => by rw [eqGuard_agg _ _ X Y (.tmp 0) (.tmp 0)]; exact hr wa⟩
      · split at h
        · rename_i hpl
          simp only [Bool.and_eq_true, Nat.ble_eq] at hpl
          split at h
          · rename_i b hb
            refine ⟨_, h, fun wa X Y => ?_⟩
            have hr := eqV_run 12 t _ _ b hb 10000 wa (by omega)
            simp only [Sem.run_bind, eqGuard_none (.inr rfl) (plain_guard 12 t hpl.1 P.depth (by omega)), Result.andThen_ok, binOp, Op.equal, Op.maxDepth, hr]
            rfl
          · exact h.elim
        · obtain ⟨v, hv, hr⟩ := runP_spec h
          exact ⟨v, hv, fun wa X Y => by rw [eqGuard_agg _ _ X Y (.tmp 0) (.tmp 0)]; exact hr wa⟩
    · exact h.elim

theorem unK_run {P : Program} {op : UnOp} {x : Value} {k : Value → Prop} (h : unK op x k) : ∃ v, k v ∧ ∀ wa, (Op.unary op x).run P wa = .ok v wa := by
  unfold unK at h
  split at h
  · exact ⟨_, h, fun wa => by simp [Op.unary]⟩
  · exact ⟨_, h, fun wa => by simp [Op.unary, Op.intArith]⟩
  · exact h.elim

theorem pickK_run {c : Bool} {x y : Value} {k : Value → Prop} (h : pickK c x y k) : k (if c then x else y) := by
  unfold pickK at h
  split at h
  · cases c <;> exact h
  · cases c <;> exact h

theorem part_run {P : Program} {t : TypeId} {cs : List Value} {o : Nat} {k : Value → Prop} (h : part P t cs o k) (hu : ∃ d, P.underlying t = some d) :
    ∃ v, k v ∧ (∀ wa, (Go.part t cs.toArray o).run P wa = .ok v wa) ∧
      ∀ wa b T fz, wa.heap[b]? = some (.cells cs.toArray T fz) → (loadVar t ⟨b, o, none⟩).run P wa = .ok v wa := by
  obtain ⟨d, hu⟩ := hu
  obtain ⟨i, hi⟩ := info_of_underlying hu
  unfold part at h
  cases hag : aggT P t with
  | true =>
    rw [hag] at h
    simp only [] at h
    split at h
    · rename_i hl
      refine ⟨_, h, fun wa => ?_, fun wa b T fz hb => ?_⟩
      · simp only [Go.part, Sem.run_bind, run_isAgg hu, Result.andThen_ok, hag, if_true, run_sizeT hi, Sem.run_pure]
        congr 2
        apply Array.ext'
        simp [Array.toList_extract, List.extract]
      · refine run_loadVarAt ⟨d, hu⟩ (fun j u hj => ?_) (by rw [hag]; exact ⟨_, rfl, by simpa using hl⟩)
        simp only [Value.cells] at hj
        rw [List.getElem?_take] at hj
        split at hj
        · rw [List.getElem?_drop] at hj
          rw [add_none]
          simp only [World.cell?, hb]
          simpa using hj
        · cases hj
    · exact h.elim
  | false =>
    rw [hag] at h
    simp only [] at h
    split at h
    · rename_i v hv
      have hv' : cs.toArray[o]? = some v := by simpa using hv
      refine ⟨v, h, fun wa => ?_, fun wa b T fz hb => ?_⟩
      · simp only [Go.part, Sem.run_bind, run_isAgg hu, Result.andThen_ok, hag, Bool.false_eq_true, if_false, hv']
        rfl
      · have hc : wa.cell? ⟨b, o, none⟩ = some v := by simp only [World.cell?, hb]; simpa using hv
        simp [loadVar, run_isAgg hu, hag, hc]
    · exact h.elim

/-! ### what was read: a fact -/
def phi (o : Oper) (s : St) (f : Fact) (w : World) : Prop :=
  match o.op with
  | .load _ x => match s.tagOf x with
    | .loc k _ => ∀ lb, s.L[k]? = some lb → w.heap[lb.b]? = some (.cells lb.cs.toArray lb.T (0, 0))
    | _ => match f with
      | some (a, cs) => At w a cs
      | none => True
  | _ => True

theorem allAlive_mem {s : St} : ∀ {l : List Operand}, allAlive s l = true → ∀ x ∈ l, s.alive x = true
  | [], _, x, h => by cases h
  | y :: r, h, x, hx => by
    simp only [allAlive, Bool.and_eq_true] at h
    cases hx with
    | head => exact h.1
    | tail _ hr => exact allAlive_mem h.2 x hr

theorem evs_eq {s : St} {l : List Operand} : s.evs l = l.map s.ev := by induction l <;> simp_all [St.evs]
theorem partsV_eq {s : St} {l : List (Nat × Operand)} : partsV s l = l.map fun x => (x.1, s.ev x.2) := by induction l <;> simp_all [partsV]

theorem run_fieldAt {P : Program} {T : TypeId} {fs : Array Field} {f : Nat} {fld : Field} {n : Nat} (hu : P.underlying T = some (.struct fs)) (hf : fs.toList[f]? = some fld) (hs : sizeT P fld.type = n + 1) (a : Addr) (wa : World) :
    (Instr.fieldAt T (.pointer (some a)) f).run P wa = .ok (.pointer (some (a.add fld.offset))) wa := by
  have hf' : fs[f]? = some fld := by simpa using hf
  have hi : ∃ i, P.info? fld.type = some i := by
    unfold sizeT at hs
    split at hs
    · rename_i i hi; exact ⟨i, hi⟩
    · cases hs
  obtain ⟨i, hi⟩ := hi
  simp [Instr.fieldAt, run_underlying hu, hf', Instr.sureAddr, fieldPlace, run_sizeT hi, hs]

theorem run_indexSl {P : Program} {t e : TypeId} {a : Addr} {n c : Nat} {κ : IntKind} {j : Int} (hu : P.underlying t = some (.slice e)) (h0 : 0 ≤ j) (h1 : j < n) (he : ∃ i, P.info? e = some i) (wa : World) :
    (Instr.indexAt t (.slice (some a) n c) (.int κ j)).run P wa = .ok (.pointer (some (a.add (j.toNat * sizeT P e)))) wa := by
  obtain ⟨i, hi⟩ := he
  simp [Instr.indexAt, run_underlying hu, asIntOf, h0, h1, run_sizeT hi]
theorem run_indexArr {P : Program} {t e : TypeId} {a : Addr} {n : Nat} {κ : IntKind} {j : Int} (hu : P.underlying t = some (.array n e)) (h0 : 0 ≤ j) (h1 : j < n) (he : ∃ i, P.info? e = some i) (wa : World) :
    (Instr.indexAt t (.pointer (some a)) (.int κ j)).run P wa = .ok (.pointer (some (a.add (j.toNat * sizeT P e)))) wa := by
  obtain ⟨i, hi⟩ := he
  simp [Instr.indexAt, run_underlying hu, asIntOf, h0, h1, run_sizeT hi, Instr.sureAddr]

/-! ## part 4 -/

theorem run_bound {P : Program} {κ : IntKind} {i : Int} {y : Nat} {c : BoundsCode} (h0 : 0 ≤ i) (h1 : i ≤ y) (w : World) : (Instr.sliceBound (.int κ i) y c).run P w = .ok i.toNat w := by
  simp [Instr.sliceBound, asIntOf, h0, h1]

theorem slA_zero (a : Option Addr) (c size : Nat) : slA a c 0 size = a := by
  unfold slA
  split
  · rfl
  · cases a with
    | none => rfl
    | some p => simp [Addr.add]

theorem slV_run {P : Program} {b : Bool} {a : Option Addr} {n c size : Nat} {lo hi : Option Value} {k : Value → Prop} (h : slV a n c size lo hi k) :
    ∃ l hh : Nat, k (.slice (slA a c l size) (hh - l) (c - l)) ∧ ∀ w, (Instr.sliceBounds b n c lo hi none).run P w = .ok (l, hh, c) w := by
  unfold slV at h
  split at h
  · exact ⟨0, n, by rw [slA_zero]; exact h, fun w => by simp [Instr.sliceBounds]⟩
  · rename_i l
    refine ⟨l.toNat, n, h.2.2, fun w => ?_⟩
    simp [Instr.sliceBounds, run_bound h.1 h.2.1]
  · rename_i κ hh
    refine ⟨0, hh.toNat, by rw [slA_zero]; exact h.2.2, fun w => ?_⟩
    cases b <;> simp [Instr.sliceBounds, run_bound h.1 h.2.1]
  · rename_i l κ hh
    refine ⟨l.toNat, hh.toNat, h.2.2.2, fun w => ?_⟩
    have h1 : l ≤ (hh.toNat : Int) := by have := h.2.1; have := h.1; omega
    cases b <;> simp [Instr.sliceBounds, run_bound (show 0 ≤ hh by have := h.1; have := h.2.1; omega) h.2.2.1, run_bound h.1 h1]
  · exact h.elim

theorem strV_run {P : Program} {s : ByteArray} {lo hi : Option Value} {k : Value → Prop} (h : strV s lo hi k) :
    ∃ l hh m : Nat, k (.string (s.extract l hh)) ∧ ∀ w, (Instr.sliceBounds false s.size s.size lo hi none).run P w = .ok (l, hh, m) w := by
  unfold strV at h
  split at h
  · exact ⟨0, s.size, s.size, h, fun w => by simp [Instr.sliceBounds]⟩
  · rename_i l
    exact ⟨l.toNat, s.size, s.size, h.2.2, fun w => by simp [Instr.sliceBounds, run_bound h.1 h.2.1]⟩
  · rename_i κ hh
    exact ⟨0, hh.toNat, s.size, h.2.2, fun w => by simp [Instr.sliceBounds, run_bound h.1 h.2.1]⟩
  · rename_i l κ hh
    have h1 : l ≤ (hh.toNat : Int) := by have := h.2.1; have := h.1; omega
    exact ⟨l.toNat, hh.toNat, s.size, h.2.2.2, fun w => by simp [Instr.sliceBounds, run_bound (show 0 ≤ hh by have := h.1; have := h.2.1; omega) h.2.2.1, run_bound h.1 h1]⟩
  · exact h.elim

theorem sliceK_run {P : Program} {t : TypeId} {x : Value} {lo hi : Option Value} {k : Value → Prop} (h : sliceK P t x lo hi k) :
    ∃ v, k v ∧ ∀ wa, (Instr.sliceAt t x lo hi none).run P wa = .ok v wa := by
  unfold sliceK at h
  split at h
  · rename_i e a n c hu
    split at h
    · rename_i i hi
      obtain ⟨l, hh, hk, hr⟩ := slV_run (P := P) (b := true) h
      refine ⟨_, hk, fun wa => ?_⟩
      simp only [Instr.sliceAt, Instr.slice, Sem.run_bind, run_underlying hu, Result.andThen_ok, hr, run_sizeT hi]
      rfl
    · exact h.elim
  · rename_i s hu
    obtain ⟨l, hh, m, hk, hr⟩ := strV_run (P := P) h
    refine ⟨_, hk, fun wa => ?_⟩
    simp [Instr.sliceAt, Instr.slice, run_underlying hu, hr]
  · rename_i n e a hu
    split at h
    · rename_i i hi
      obtain ⟨l, hh, hk, hr⟩ := slV_run (P := P) (b := false) h
      refine ⟨_, hk, fun wa => ?_⟩
      simp only [Instr.sliceAt, Sem.run_bind, run_underlying hu, Result.andThen_ok, hr, run_sizeT hi, Instr.sureAddr, Sem.run_pure]
      congr 2
      unfold slA
      split <;> simp
    · exact h.elim
  · exact h.elim

theorem lenK_run {P : Program} {t ty : TypeId} {x : Value} {k : Value → Prop} (h : lenK P t x k) : ∃ v, k v ∧ ∀ wa, (Builtin.len_ #[t] ty #[x]).run P wa = .ok v wa := by
  unfold lenK at h
  split at h
  · rename_i s hu; exact ⟨_, h, fun wa => by simp [Builtin.len_, run_underlying hu, goInt]⟩
  · rename_i n e hu; exact ⟨_, h, fun wa => by simp [Builtin.len_, run_underlying hu, goInt]⟩
  · rename_i e a n c hu; exact ⟨_, h, fun wa => by simp [Builtin.len_, run_underlying hu, goInt]⟩
  · exact h.elim

theorem toList_eq_one {α : Type} {a : Array α} {x : α} (h : a.toList = [x]) : a = #[x] := by
  apply Array.ext'; simpa using h
theorem toList_eq_two {α : Type} {a : Array α} {x y : α} (h : a.toList = [x, y]) : a = #[x, y] := by
  apply Array.ext'; simpa using h

theorem Fr.ptr {s : St} {a : Act} (hf : Fr s a) {x : Operand} {i j : Nat} (h : s.tagOf x = .loc i j) : ∃ lb, s.L[i]? = some lb ∧ s.ev x = .pointer (some ⟨lb.b, j, none⟩) := by
  cases x <;> simp only [St.tagOf, reduceCtorEq] at h
  exact hf.loc _ _ _ h

/-- What an operation that only reads yields. -/
theorem early_op {C : Ctx} {H : List (Addr × List Value)} {o : Oper} {s : St} {w wa : World} {K : Kont} {a : Act} (he : early C.P o = true) (h : denOp C H o s w K) (hf : Fr s a) (hl : Loc C.N w s.L wa) :
    ∃ v f s', K f s' w ∧ s'.L = s.L ∧ Fr s' (a.put o.dst v) ∧ phi o s f wa ∧ (∀ p cs, (∃ T x, o.op = .load T x) → f = some (p, cs) → NotIn p.block s.L ∧ At w p cs) ∧
      ∀ wb, phi o s f wb → (execOp a.eval o).run C.P wb = .ok (.value v) wb := by
  obtain ⟨dst, op, ty, pos, after, guard⟩ := o
  unfold denOp at h
  split at h
  · exact h.elim
  rename_i hal
  have hex : ∀ cs b, op ≠ .select cs b := by intro cs b heq; subst heq; simp [early] at he
  have hcong : execOp a.eval { dst, op, type := ty, pos, after, guard } = execOp s.ev { dst, op, type := ty, pos, after, guard } :=
    execOp_congr _ hex fun x hx => hf.ev (allAlive_mem hal x (by simpa using hx))
  simp only [hcong]
  cases op <;> simp only [early, Bool.false_eq_true] at he
  case move x =>
    exact ⟨s.ev x, none, _, h, by cases dst <;> rfl, hf.put dst _ _ (fun k o hk => by
      cases x <;> simp only [St.tagOf, reduceCtorEq] at hk
      exact hf.loc _ _ _ hk), trivial, (by rintro p cs ⟨T, x, hx⟩; cases hx), fun wb _ => rfl⟩
  case assign x =>
    exact ⟨s.ev x, none, _, h, by cases dst <;> rfl, hf.put dst _ _ (fun k o hk => by
      cases x <;> simp only [St.tagOf, reduceCtorEq] at hk
      exact hf.loc _ _ _ hk), trivial, (by rintro p cs ⟨T, x, hx⟩; cases hx), fun wb _ => rfl⟩
  case pick c x y =>
    simp only [] at h
    split at h
    · rename_i t ht
      exact ⟨_, none, _, pickK_run h, by cases dst <;> rfl, hf.putv dst _, trivial, (by rintro p cs ⟨T, x, hx⟩; cases hx), fun wb _ => by
        simp only [execOp, ht, Sem.run_bind, asBool, Sem.run_pure, Result.andThen_ok]⟩
    · exact h.elim
  case load T x =>
    simp only [] at h
    split at h
    · rename_i i j htag
      split at h
      · rename_i lb d hlb hu
        obtain ⟨v, hk, _, hr⟩ := part_run h ⟨d, hu⟩
        obtain ⟨lb', h1, h2⟩ : ∃ lb', s.L[i]? = some lb' ∧ s.ev x = .pointer (some ⟨lb'.b, j, none⟩) := by
          cases x <;> simp only [St.tagOf, reduceCtorEq] at htag
          exact hf.loc _ _ _ htag
        rw [hlb] at h1
        cases h1
        refine ⟨v, none, _, hk, by cases dst <;> rfl, hf.putv dst _, ?_, (by rintro p cs _ hx; cases hx), fun wb hp => ?_⟩
        · simp only [phi, htag]
          intro lb' h'
          exact inv_mem hl.inv (List.mem_of_getElem? h')
        · simp only [phi, htag] at hp
          exact run_v (by simp only [Instr.loadAt, h2, Instr.sureAddr, Sem.run_bind, Sem.run_pure, Result.andThen_ok]; exact hr wb lb.b lb.T (0, 0) (hp lb hlb))
      · exact h.elim
    · rename_i hnt
      split at h
      · rename_i p hp
        obtain ⟨v, hk, hat, hni, hr⟩ := ldL_spec h
        refine ⟨v, _, _, hk, by cases dst <;> rfl, hf.putv dst _, ?_, (by rintro q cs _ hx; cases hx; exact ⟨hni, hat⟩), fun wb hph => ?_⟩
        · have : phi { dst, op := .load T x, type := ty, pos, after, guard } s (some (p, v.cells.toList)) wa = At wa p v.cells.toList := by
            simp only [phi]
            try split <;> first | rfl | (rename_i i j htag; exact absurd htag (fun hh => hnt _ _ hh))
          rw [this]
          exact hat.loc hl hni
        · have : phi { dst, op := .load T x, type := ty, pos, after, guard } s (some (p, v.cells.toList)) wb = At wb p v.cells.toList := by
            simp only [phi]
            try split <;> first | rfl | (rename_i i j htag; exact absurd htag (fun hh => hnt _ _ hh))
          rw [this] at hph
          exact run_v (by simp only [Instr.loadAt, hp, Instr.sureAddr, Sem.run_bind, Sem.run_pure, Result.andThen_ok]; exact hr wb hph)
      · exact h.elim
  case nilCheck x =>
    simp only [] at h
    split at h
    · rename_i p hp
      unfold NilL at h
      split at h
      · rename_i q
        exact ⟨_, none, _, h, by cases dst <;> rfl, hf.put dst _ _ (fun k o hk => by
          cases x <;> simp only [St.tagOf, reduceCtorEq] at hk
          obtain ⟨lb, h1, h2⟩ := hf.loc _ _ _ hk
          exact ⟨lb, h1, by rw [← h2]; exact hp.symm⟩), trivial, (by rintro p cs ⟨T, x, hx⟩; cases hx), fun wb _ => by simp only [execOp, hp]; rfl⟩
      · exact h.elim
    · rename_i f first captured hp
      exact ⟨_, none, _, h, by cases dst <;> rfl, hf.putv dst _, trivial, (by rintro p cs ⟨T, x, hx⟩; cases hx), fun wb _ => by simp only [execOp, hp]; rfl⟩
    · exact h.elim
  case binOp op t x y yt =>
    obtain ⟨v, hk, hr⟩ := binK_run h
    exact ⟨v, none, _, hk, by cases dst <;> rfl, hf.putv dst _, trivial, (by rintro p cs ⟨T, x, hx⟩; cases hx), fun wb _ => run_v (hr wb x y)⟩
  case unOp op t x =>
    obtain ⟨v, hk, hr⟩ := unK_run (P := C.P) h
    exact ⟨v, none, _, hk, by cases dst <;> rfl, hf.putv dst _, trivial, (by rintro p cs ⟨T, x, hx⟩; cases hx), fun wb _ => run_v (hr wb)⟩
  case convert src dt x =>
    simp only [] at h he
    split at h
    · rename_i k hck
      split at h
      · rename_i κ n h3
        refine ⟨_, none, _, h, by cases dst <;> rfl, hf.putv dst _, trivial, (by rintro p cs ⟨T, x, hx⟩; cases hx), fun wb _ => run_v ?_⟩
        unfold convKind at hck
        split at hck
        · rename_i k0 k' h1 h2
          cases hck
          rw [h3]
          simp [convert, run_underlying h1, run_underlying h2, Conv.intToInt]
        · cases hck
        · cases hck
      · exact h.elim
    · rename_i hck
      split at h
      · rename_i b h3
        refine ⟨_, none, _, h, by cases dst <;> rfl, hf.putv dst _, trivial, (by rintro p cs ⟨T, x, hx⟩; cases hx), fun wb _ => run_v ?_⟩
        unfold convKind at hck
        split at hck
        · cases hck
        · rename_i h1 h2
          rw [h3]
          simp [convert, run_underlying h1, run_underlying h2]
        · cases hck
      · exact h.elim
    · rename_i hck
      rw [hck] at he
      cases he
  case fieldAddr T x f =>
    simp only [] at h
    split at h
    · rename_i fs hu
      split at h
      · rename_i fld hfld
        split at h
        · exact h.elim
        · rename_i n hn
          split at h
          · rename_i p hp
            refine ⟨_, none, _, h, by cases dst <;> rfl, hf.put dst _ _ (fun k o hk => ?_), trivial, (by rintro p cs ⟨T, x, hx⟩; cases hx), fun wb _ => run_v ?_⟩
            · split at hk
              · rename_i i j htag
                cases hk
                obtain ⟨lb, h1, h2⟩ := hf.ptr htag
                refine ⟨lb, h1, ?_⟩
                have hp' : p = ⟨lb.b, j, none⟩ := by
                  rw [h2] at hp; cases hp; rfl
                rw [hp', addA_eq, add_none]
              · cases hk
            · rw [hp, addA_eq]; exact run_fieldAt hu hfld hn p wb
          · exact h.elim
      · exact h.elim
    · exact h.elim
  case field T x f =>
    simp only [] at h
    split at h
    · rename_i fs hu
      split at h
      · rename_i fld hfld
        split at h
        · rename_i cs d hx hd
          obtain ⟨v, hk, hr, _⟩ := part_run h ⟨d, hd⟩
          refine ⟨v, none, _, hk, by cases dst <;> rfl, hf.putv dst _, trivial, (by rintro p cs ⟨T, x, hx⟩; cases hx), fun wb _ => run_v ?_⟩
          have hf' : fs[f]? = some fld := by simpa using hfld
          rw [hx]
          have := hr wb
          simp only [Array.toArray_toList] at this
          simp [Instr.field, run_underlying hu, hf', asAgg, this]
        · exact h.elim
      · exact h.elim
    · exact h.elim
  case indexAddr t x i =>
    simp only [] at h
    split at h
    · rename_i e p n c κ j hu hx hi
      split at h
      · rename_i inf hinf
        unfold IdxL at h
        split at h
        · rename_i q
          refine ⟨_, none, _, h.2.2, by cases dst <;> rfl, hf.putv dst _, trivial, (by rintro p cs ⟨T, x, hx⟩; cases hx), fun wb _ => run_v ?_⟩
          rw [hx, hi]; exact run_indexSl hu h.1 h.2.1 ⟨_, hinf⟩ wb
        · exact h.elim
      · exact h.elim
    · rename_i n e p κ j hu hx hi
      split at h
      · exact h.elim
      · rename_i inf hinf
        split at h
        · rename_i i' o' jn htag hlit
          split at h
          · rename_i hlt
            have hlt' : jn < n := by simpa [Nat.blt_eq] using hlt
            have hj : j = (jn : Int) := by
              rw [hi] at hlit
              unfold litIdx at hlit
              split at hlit
              · rename_i κ2 m heq; cases heq; cases hlit; rfl
              · cases hlit
            refine ⟨_, none, _, h, by cases dst <;> rfl, hf.put dst _ _ (fun k o hk => ?_), trivial, (by rintro p cs ⟨T, x, hx⟩; cases hx), fun wb _ => run_v ?_⟩
            · cases hk
              obtain ⟨lb, h1, h2⟩ := hf.ptr htag
              refine ⟨lb, h1, ?_⟩
              have hp' : p = ⟨lb.b, o', none⟩ := by
                rw [h2] at hx; cases hx; rfl
              rw [hp', addA_eq, add_none]
            · rw [hx, hi, addA_eq, run_indexArr hu (by omega) (by omega) ⟨_, hinf⟩ wb, hj]; simp
          · exact h.elim
        · exact h.elim
        · refine ⟨_, none, _, h.2.2, by cases dst <;> rfl, hf.putv dst _, trivial, (by rintro p cs ⟨T, x, hx⟩; cases hx), fun wb _ => run_v ?_⟩
          rw [hx, hi]; exact run_indexArr hu h.1 h.2.1 ⟨_, hinf⟩ wb
    · exact h.elim
  case index t x i =>
    simp only [] at h
    split at h
    · rename_i b κ j hu hx hi
      obtain ⟨h0, h1, h⟩ := h
      refine ⟨_, none, _, h, by cases dst <;> rfl, hf.putv dst _, trivial, (by rintro p cs ⟨T, x, hx⟩; cases hx), fun wb _ => run_v ?_⟩
      rw [hx, hi]
      have hlt : j.toNat < b.size := by omega
      simp only [Instr.index, Sem.run_bind, asIntOf, Sem.run_pure, Result.andThen_ok, run_underlying hu, h0, if_true]
      have : b[j.toNat]? = some (b.data.getD j.toNat 0) := by
        have hd : j.toNat < b.data.size := hlt
        rw [getElem?_pos b j.toNat hlt]
        simp only [Array.getD, hd, dif_pos]
        rfl
      rw [this]
      rfl
    · rename_i n e cs κ j hu hx hi
      obtain ⟨v, hk, hr⟩ := runP_spec h
      refine ⟨v, none, _, hk, by cases dst <;> rfl, hf.putv dst _, trivial, (by rintro p cs ⟨T, x, hx⟩; cases hx), fun wb _ => run_v ?_⟩
      rw [hx, hi]; exact hr wb
    · exact h.elim
  case slice t x lo hi mx =>
    cases mx with
    | none =>
      simp only [] at h
      obtain ⟨v, hk, hr⟩ := sliceK_run h
      exact ⟨v, none, _, hk, by cases dst <;> rfl, hf.putv dst _, trivial, (by rintro p cs ⟨T, x, hx⟩; cases hx), fun wb _ => run_v (hr wb)⟩
    | some mx =>
      simp only [] at h
      obtain ⟨v, hk, hr⟩ := runP_spec h
      exact ⟨v, none, _, hk, by cases dst <;> rfl, hf.putv dst _, trivial, (by rintro p cs ⟨T, x, hx⟩; cases hx), fun wb _ => run_v (hr wb)⟩
  case build T parts =>
    simp only [] at h
    unfold buildK at h
    split at h
    · rename_i cs hcs
      refine ⟨_, none, _, h, by cases dst <;> rfl, hf.putv dst _, trivial, (by rintro p cs ⟨T, x, hx⟩; cases hx), fun wb _ => run_v ?_⟩
      rw [run_build wb T _ cs (by rw [← hcs, partsV_eq]; simp)]
    · exact h.elim
  case extract x i =>
    simp only [] at h
    split at h
    · rename_i vs hx
      split at h
      · rename_i v hv
        refine ⟨v, none, _, h, by cases dst <;> rfl, hf.putv dst _, trivial, (by rintro p cs ⟨T, x, hx⟩; cases hx), fun wb _ => run_v ?_⟩
        have hv' : vs[i]? = some v := by simpa using hv
        rw [hx]; simp [Instr.extract, hv']
      · exact h.elim
    · exact h.elim
  case makeFunc fn first captured =>
    simp only [] at h
    refine ⟨_, none, _, h, by cases dst <;> rfl, hf.putv dst _, trivial, (by rintro p cs ⟨T, x, hx⟩; cases hx), fun wb _ => run_v ?_⟩
    have e1 : Array.map s.ev first = (s.evs first.toList).toArray := by apply Array.ext'; simp [evs_eq]
    have e2 : Array.map s.ev captured = (s.evs captured.toList).toArray := by apply Array.ext'; simp [evs_eq]
    rw [← e1, ← e2]; rfl
  case call c =>
    obtain ⟨callee, args, argTypes⟩ := c
    cases callee
    case value f => exact absurd he (by simp [earlyCallee])
    case invoke f => exact absurd he (by simp [earlyCallee])
    case builtin b =>
      cases b
      case len =>
        simp only [] at h
        split at h
        · rename_i x t h1 h2
          obtain ⟨v, hk, hr⟩ := lenK_run (ty := ty) h
          refine ⟨v, none, _, hk, by cases dst <;> rfl, hf.putv dst _, trivial, (by rintro p cs ⟨T, x, hx⟩; cases hx), fun wb _ => ?_⟩
          have e1 := toList_eq_one h1
          have e2 := toList_eq_one h2
          subst e1; subst e2
          simp only [execOp, resolve, Sem.run_bind, Sem.run_pure, Result.andThen_ok, invoke, builtin]
          simp [hr wb]
        · exact h.elim
      case max =>
        simp only [] at h
        split at h
        · rename_i k x k' y h1
          split at h
          · rename_i hkk
            refine ⟨_, none, _, h, by cases dst <;> rfl, hf.putv dst _, trivial, (by rintro p cs ⟨T, x, hx⟩; cases hx), fun wb _ => ?_⟩
            have e1 : Array.map s.ev args = #[.int k x, .int k' y] := toList_eq_two (by rw [← h1, evs_eq]; simp)
            simp only [execOp, resolve, Sem.run_bind, Sem.run_pure, Result.andThen_ok, invoke, builtin, e1]
            simp [run_max_int2]
          · exact h.elim
        · exact h.elim
      case min =>
        simp only [] at h
        split at h
        · rename_i k x k' y h1
          split at h
          · rename_i hkk
            refine ⟨_, none, _, h, by cases dst <;> rfl, hf.putv dst _, trivial, (by rintro p cs ⟨T, x, hx⟩; cases hx), fun wb _ => ?_⟩
            have e1 : Array.map s.ev args = #[.int k x, .int k' y] := toList_eq_two (by rw [← h1, evs_eq]; simp)
            simp only [execOp, resolve, Sem.run_bind, Sem.run_pure, Result.andThen_ok, invoke, builtin, e1]
            simp [run_min_int2]
          · exact h.elim
        · exact h.elim
      all_goals exact absurd he (by simp [earlyCallee])

/-! ## part 5 -/

theorem holdK_spec {w : World} {p : Prop} : ∀ {H : List (Addr × List Value)}, HoldK H w p → p ∧ ∀ x ∈ H, At w x.1 x.2
  | [], h => ⟨h, fun x hx => by cases hx⟩
  | x :: r, h => by
    obtain ⟨h1, h2⟩ := h
    obtain ⟨h3, h4⟩ := holdK_spec h2
    refine ⟨h3, fun y hy => ?_⟩
    cases hy with
    | head => exact h1
    | tail _ hr => exact h4 y hr

theorem putC_size (w : World) (a : Addr) (cs : List Value) : (putC w a cs).heap.size = w.heap.size := by simp [putC]
theorem putC_other (w : World) (a : Addr) (cs : List Value) (b : Nat) (h : b ≠ a.block) : (putC w a cs).heap[b]? = w.heap[b]? := by
  simp only [putC, Array.getElem?_modify]
  rw [if_neg (by omega)]
theorem putC_same (w : World) (a : Addr) (cs : List Value) {c : Array Value} {T : TypeId} {fz : Nat × Nat} (h : w.heap[a.block]? = some (.cells c T fz)) :
    (putC w a cs).heap[a.block]? = some (.cells (spl c a.off cs) T fz) := by
  simp only [putC, Array.getElem?_modify, if_true, h, Option.map_some]

theorem spl_size : ∀ (cs : List Value) (c : Array Value) (o : Nat), (spl c o cs).size = c.size
  | [], _, _ => rfl
  | v :: r, c, o => by simp [spl, spl_size r]
theorem spl_lspl : ∀ (cs : List Value) (c : List Value) (o : Nat), spl c.toArray o cs = (lspl c o cs).toArray
  | [], _, _ => rfl
  | v :: r, c, o => by simp [spl, lspl, spl_lspl r]
theorem lspl_length : ∀ (cs : List Value) (c : List Value) (o : Nat), (lspl c o cs).length = c.length
  | [], _, _ => rfl
  | v :: r, c, o => by simp [lspl, lspl_length r]

theorem world_ext {w w' : World} (h : w.heap = w'.heap) (ht : w.tape = w'.tape) (hd : w.drawn = w'.drawn) (ho : w.os = w'.os) (hp : w.output = w'.output) : w = w' := by
  cases w; cases w'; simp_all

theorem putC_cons (w : World) (b o : Nat) (v : Value) (r : List Value) :
    putC (w.setCell ⟨b, o, none⟩ v) ⟨b, o + 1, none⟩ r = putC w ⟨b, o, none⟩ (v :: r) := by
  refine world_ext ?_ rfl rfl rfl rfl
  simp only [putC, World.setCell]
  apply Array.ext_getElem?
  intro i
  simp only [Array.getElem?_modify]
  split
  · cases w.heap[i]? with
    | none => rfl
    | some x => cases x <;> simp [spl]
  · rfl

theorem run_storeCellsAt {P : Program} (b : Nat) : ∀ (vs : List Value) (o i : Nat) (w : World) (c : Array Value) (T : TypeId) (fz : Nat × Nat), w.heap[b]? = some (.cells c T fz) → o + i + vs.length ≤ c.size →
    (fz.2 ≤ o + i ∨ o + i + vs.length ≤ fz.1) → allOne vs = true → (storeCells ⟨b, o, none⟩ vs i).run P w = .ok () (putC w ⟨b, o + i, none⟩ vs)
  | [], o, i, w, c, T, fz, hb, _, _, _ => by
    simp only [storeCells]
    show Result.ok () w = _
    congr 1
    refine world_ext ?_ rfl rfl rfl rfl
    simp only [putC]
    apply Array.ext_getElem?
    intro k
    simp only [Array.getElem?_modify]
    split
    · cases w.heap[k]? with
      | none => rfl
      | some x => cases x <;> simp [spl]
    · rfl
  | v :: r, o, i, w, c, T, fz, hb, hs, hz, h1 => by
    simp only [allOne, Bool.and_eq_true] at h1
    simp only [List.length_cons] at hs hz
    have hone : v.oneCell' = true := by have := h1.1; cases v <;> simp_all [oneCell, Value.oneCell']
    have hcell : w.cell? ⟨b, o + i, none⟩ = some c[o + i] := by simp [World.cell?, hb, show o + i < c.size by omega]
    have hfro : w.frozen? ⟨b, o + i, none⟩ = false := by simp [World.frozen?, hb]; omega
    have hst : (store ((⟨b, o, none⟩ : Addr).add i) v).run P w = .ok () (w.setCell ⟨b, o + i, none⟩ v) := by
      rw [add_none, run_store P w _ v _ hone, hcell]
      simp [hfro]
    have hb' : (w.setCell ⟨b, o + i, none⟩ v).heap[b]? = some (.cells (c.setIfInBounds (o + i) v) T fz) := by
      simp [World.setCell, Array.getElem?_modify, hb]
    have ih := run_storeCellsAt (P := P) b r o (i + 1) _ _ T fz hb' (by simp; omega) (by omega) h1.2
    simp only [storeCells, Sem.run_bind, hst, Result.andThen_ok, ih]
    rw [show o + (i + 1) = o + i + 1 by omega, putC_cons]

theorem run_storeVarAt {P : Program} {w : World} {t : TypeId} {b o : Nat} {v : Value} {c : Array Value} {T : TypeId} {fz : Nat × Nat} (hb : w.heap[b]? = some (.cells c T fz)) (hi : ∃ i, P.info? t = some i)
    (hsz : v.cells.toList.length = sizeT P t) (hs : o + v.cells.toList.length ≤ c.size) (hz : fz.2 ≤ o ∨ o + v.cells.toList.length ≤ fz.1) (h1 : allOne v.cells.toList = true) :
    (storeVar t ⟨b, o, none⟩ v).run P w = .ok () (putC w ⟨b, o, none⟩ v.cells.toList) := by
  obtain ⟨i, hi⟩ := hi
  have := run_storeCellsAt (P := P) b v.cells.toList o 0 w c T fz hb (by omega) (by omega) h1
  simp only [Nat.add_zero] at this
  simp only [Array.length_toList] at hsz
  simp [storeVar, run_sizeT hi, hsz, this]

theorem Loc.putC {N : Nat} {w wa : World} {L : List LB} (h : Loc N w L wa) {a : Addr} (hn : NotIn a.block L) (hlt : a.block < w.heap.size) (cs : List Value) : Loc N (putC w a cs) L (putC wa a cs) := by
  refine ⟨⟨h.touch.os, h.touch.tape, h.touch.output, by rw [putC_size, putC_size]; exact h.touch.size, fun b hb hnb => ?_⟩, inv_of fun l hl => ?_, h.nodup, h.low, by rw [putC_size]; exact h.base⟩
  · rw [putC_size] at hb
    have h1 := h.touch.block b hb hnb
    by_cases hab : b = a.block
    · subst hab
      simp only [Go.Sh.putC, Array.getElem?_modify, if_true, h1]
    · rw [putC_other _ _ _ _ hab, putC_other _ _ _ _ hab, h1]
  · have hlb : l.b ∈ blk L := mem_blk.2 ⟨l, hl, rfl⟩
    rw [putC_other _ _ _ _ (fun e => hn (e ▸ hlb))]
    exact inv_mem h.inv hl

theorem getElem_unique {L : List LB} (hn : (blk L).Nodup) : ∀ {i k : Nat} {l m : LB}, L[i]? = some l → L[k]? = some m → l.b = m.b → i = k := by
  induction L with
  | nil => intro i k l m h; simp at h
  | cons x r ih =>
    intro i k l m h1 h2 he
    simp only [blk, List.nodup_cons] at hn
    cases i with
    | zero =>
      cases k with
      | zero => rfl
      | succ k =>
        simp at h1 h2
        exact absurd (mem_blk.2 ⟨m, List.mem_of_getElem? h2, by rw [← he, ← h1]⟩) hn.1
    | succ i =>
      cases k with
      | zero =>
        simp at h1 h2
        exact absurd (mem_blk.2 ⟨l, List.mem_of_getElem? h1, by rw [he, ← h2]⟩) hn.1
      | succ k =>
        simp at h1 h2
        exact congrArg (· + 1) (ih hn.2 h1 h2 he)

theorem blk_set (L : List LB) (i : Nat) (l m : LB) (h : L[i]? = some l) (hb : m.b = l.b) : blk (L.set i m) = blk L := by
  induction L generalizing i with
  | nil => simp at h
  | cons x r ih =>
    cases i with
    | zero => simp at h; subst h; simp [blk, hb]
    | succ i => simp at h; simp [blk, ih i h]

theorem Loc.local {N : Nat} {w wa : World} {L : List LB} (h : Loc N w L wa) {i : Nat} {l : LB} (hl : L[i]? = some l) (o : Nat) (cs : List Value) :
    Loc N w (L.set i ⟨l.b, lspl l.cs o cs, l.T⟩) (Go.Sh.putC wa ⟨l.b, o, none⟩ cs) := by
  have hset := blk_set L i l ⟨l.b, lspl l.cs o cs, l.T⟩ hl rfl
  have hinv := inv_mem h.inv (List.mem_of_getElem? hl)
  refine ⟨⟨h.touch.os, h.touch.tape, h.touch.output, by rw [putC_size]; exact h.touch.size, fun b hb hnb => ?_⟩, inv_of fun m hm => ?_, by rw [hset]; exact h.nodup, by rw [hset]; exact h.low, h.base⟩
  · simp only [hset] at hnb
    have hne : b ≠ l.b := fun e => hnb (mem_blk.2 ⟨l, List.mem_of_getElem? hl, e.symm⟩)
    rw [putC_other _ _ _ _ hne]
    exact h.touch.block b hb hnb
  · obtain ⟨k, hk⟩ := List.mem_iff_getElem?.1 hm
    rw [List.getElem?_set] at hk
    split at hk
    · rename_i hik
      split at hk
      · cases hk
        rw [putC_same wa ⟨l.b, o, none⟩ cs hinv, spl_lspl]
      · cases hk
    · rename_i hik
      have hne : m.b ≠ l.b := fun e => hik (getElem_unique h.nodup hl hk e.symm)
      rw [putC_other _ _ _ _ hne]
      exact inv_mem h.inv (List.mem_of_getElem? hk)

def okFn (P : Program) (g : FuncId) : Prop := ∃ fn, P.funcs[g]? = some fn ∧ (fn.name == "runtime.NumGoroutine") = false ∧ fn.body.isNone = false

theorem run_callFunc {P : Program} {g : FuncId} (h : okFn P g) (args : Array Value) (w : World) : (callFunc g args).run P w = .ok (.enter g args) w := by
  obtain ⟨fn, h1, h2, h3⟩ := h
  simp only [callFunc, Sem.run_bind, run_program, Result.andThen_ok, h1, h2, h3, Bool.false_eq_true, if_false]
  rfl

/-- Facts on what was read, at a world. -/
def Facts (H : List (Addr × List Value)) (L : List LB) (wa : World) : Prop := ∀ x ∈ H, At wa x.1 x.2 ∧ (x.2 = [] ∨ x.1.block ∉ blk L)

theorem Facts.lt {H : List (Addr × List Value)} {L : List LB} {wa : World} (h : Facts H L wa) {x : Addr × List Value} (hx : x ∈ H) (hne : x.2 ≠ []) : x.1.block < wa.heap.size := (h x hx).1.lt hne

theorem Facts.alloc {H : List (Addr × List Value)} {L : List LB} {wa : World} (h : Facts H L wa) (o : Obj) : Facts H L (wa.alloc o) := fun x hx => by
  refine ⟨?_, (h x hx).2⟩
  by_cases hne : x.2 = []
  · rw [hne]; exact At.nil _ _
  · exact (h x hx).1.cellsOf (heap_push _ _ _ (h.lt hx hne))
theorem Facts.allocL {H : List (Addr × List Value)} {L : List LB} {wa : World} (h : Facts H L wa) (cs : List Value) (T : TypeId) (o : Obj) : Facts H (L ++ [⟨wa.heap.size, cs, T⟩]) (wa.alloc o) := fun x hx => by
  refine ⟨(h.alloc o x hx).1, ?_⟩
  by_cases hne : x.2 = []
  · exact .inl hne
  · right
    rw [blk_append]
    have := h.lt hx hne
    rcases (h x hx).2 with h' | h'
    · exact absurd h' hne
    · simp [blk, h']; omega

theorem wp_val {P : Program} {o : Oper} {a : Act} {w w' : World} {v : Value} {next : Act → World → Prop} {Q : Exit → Act → World → Prop} (h : (execOp a.eval o).run P w = .ok (.value v) w') (hn : next (a.put o.dst v) w') : o.wp P a w next Q := by
  unfold Oper.wp; rw [h]; exact hn
theorem wp_skp {P : Program} {o : Oper} {a : Act} {w w' : World} {next : Act → World → Prop} {Q : Exit → Act → World → Prop} (h : (execOp a.eval o).run P w = .ok .skip w') (hn : next (a.put o.dst undef) w') : o.wp P a w next Q := by
  unfold Oper.wp; rw [h]; exact hn

theorem runL_spec {P : Program} {N : Nat} {w wa : World} {L : List LB} {s : Sem Value} {R : Value → World → Prop} (h : RunL P N w L s R) (hl : Loc N w L wa) :
    ∃ v w', s.run P wa = .ok v w' ∧ R v w' ∧ Loc N w' L w' := by
  obtain ⟨S, hok, h⟩ := h
  obtain ⟨v, w', hr, ht, hk⟩ := h wa hl
  exact ⟨v, w', hr, hk, hl.after hok ht⟩

/-- What an operation does that writes, calls or makes memory. -/
theorem eff_op {C : Ctx} {H : List (Addr × List Value)} {o : Oper} {s : St} {w wa : World} {K : Kont} {a : Act} {next : Act → World → Prop} {Q : Exit → Act → World → Prop}
    (hcall : ∀ g, C.call g = true → okFn C.P g) (he : early C.P o = false) (h : denOp C H o s w K) (hf : Fr s a) (hl : Loc C.N w s.L wa) (hH : Facts H s.L wa)
    (hn : ∀ s' w' a' wa', K none s' w' → Fr s' a' → Loc C.N w' s'.L wa' → Facts H s'.L wa' →
      (∀ (k : Nat) lb, s.L[k]? = some lb → (∀ T x y, o.op = .store T x y → ∀ j, s.tagOf x ≠ .loc k j) → s'.L[k]? = some lb) → (∀ (k : Nat) lb, s.L[k]? = some lb → ∃ lb' : LB, s'.L[k]? = some lb' ∧ lb'.b = lb.b) →
      (∀ b ∈ blk s.L, b ∈ blk s'.L) → next a' wa') : o.wp C.P a wa next Q := by
  obtain ⟨dst, op, ty, pos, after, guard⟩ := o
  unfold denOp at h
  split at h
  · exact h.elim
  rename_i hal
  have same : ∀ (d : Option Tmp) (v : Value) (k : Nat) lb, s.L[k]? = some lb → (∀ T x y, op = .store T x y → ∀ j, s.tagOf x ≠ .loc k j) → (s.put d v .val).L[k]? = some lb := by
    intro d v k lb h1 _; cases d <;> exact h1
  have same' : ∀ (d : Option Tmp) (v : Value) (k : Nat) lb, s.L[k]? = some lb → ∃ lb' : LB, (s.put d v .val).L[k]? = some lb' ∧ lb'.b = lb.b := by
    intro d v k lb h1; exact ⟨lb, by cases d <;> exact h1, rfl⟩
  have sameb : ∀ (d : Option Tmp) (v : Value) (b : Nat), b ∈ blk s.L → b ∈ blk (s.put d v .val).L := by
    intro d v b hb; cases d <;> exact hb
  have hL : ∀ (d : Option Tmp) (v : Value), (s.put d v .val).L = s.L := by intro d v; cases d <;> rfl
  have hcong : ∀ (hex : ∀ cs b, op ≠ .select cs b), execOp a.eval { dst, op, type := ty, pos, after, guard } = execOp s.ev { dst, op, type := ty, pos, after, guard } := fun hex =>
    execOp_congr _ hex fun x hx => hf.ev (allAlive_mem hal x (by simpa using hx))
  -- a value out of a run
  have runl : ∀ (hex : ∀ cs b, op ≠ .select cs b) (t : TypeId) (S : Sem Value), RunL C.P C.N w s.L S (fun v w' => ExV C.rep C.P t fun u => v = u ∧ HoldK H w' (K none (s.put dst u .val) w')) →
      (∀ v w', S.run C.P wa = .ok v w' → (execOp s.ev { dst, op, type := ty, pos, after, guard }).run C.P wa = .ok (.value v) w') → Oper.wp C.P { dst, op, type := ty, pos, after, guard } a wa next Q := by
    intro hex t S hr hx
    obtain ⟨v, w', h1, h2, h3⟩ := runL_spec hr hl
    obtain ⟨u, ⟨rfl, h2⟩, _⟩ := exV_spec h2
    obtain ⟨h4, h5⟩ := holdK_spec h2
    refine wp_val (by rw [hcong hex]; exact hx v w' h1) (hn _ w' _ w' h4 (hf.putv dst v) (by rw [hL]; exact h3) (fun x hx => ⟨h5 x hx, by rw [hL]; exact (hH x hx).2⟩) (same dst v) (same' dst v) (sameb dst v))
  have runu : ∀ (hex : ∀ cs b, op ≠ .select cs b) (S : Sem Unit), RunU C.P C.N w s.L S (fun w' => HoldK H w' (K none (s.put dst undef .val) w')) →
      (∀ w', S.run C.P wa = .ok () w' → (execOp s.ev { dst, op, type := ty, pos, after, guard }).run C.P wa = .ok .skip w') → Oper.wp C.P { dst, op, type := ty, pos, after, guard } a wa next Q := by
    intro hex S hr hx
    obtain ⟨T, hok, hr⟩ := hr
    obtain ⟨w', h1, ht, h2⟩ := hr wa hl
    obtain ⟨h4, h5⟩ := holdK_spec h2
    refine wp_skp (by rw [hcong hex]; exact hx w' h1) (hn _ w' _ w' h4 (hf.putv dst undef) (by rw [hL]; exact hl.after hok ht) (fun x hx => ⟨h5 x hx, by rw [hL]; exact (hH x hx).2⟩) (same dst undef) (same' dst undef) (sameb dst undef))
  -- a new block
  have alc : ∀ (hex : ∀ cs b, op ≠ .select cs b) (T : TypeId) (cells : List Value), allocK C dst cells T s w K →
      ((execOp s.ev { dst, op, type := ty, pos, after, guard }).run C.P wa = .ok (.value (.pointer (some ⟨wa.heap.size, 0, none⟩))) (wa.alloc (.cells cells.toArray T))) → Oper.wp C.P { dst, op, type := ty, pos, after, guard } a wa next Q := by
    intro hex T cells ha hx
    unfold allocK at ha
    split at ha
    · exact ha.elim
    · rename_i d
      split at ha
      · have hk := ha wa.heap.size hl.touch.size
        refine wp_val (by rw [hcong hex]; exact hx) (hn _ w _ _ hk ?_ (hl.alloc cells T) (hH.allocL cells T _) ?_ ?_ ?_)
        · refine Fr.put (hf.setL fun k lb hk => ?_) (some d) _ _ fun k o hko => ?_
          · have hlt : k < s.L.length := by
              rcases Nat.lt_or_ge k s.L.length with h' | h'
              · exact h'
              · rw [List.getElem?_eq_none h'] at hk; cases hk
            exact ⟨lb, by rw [List.getElem?_append_left hlt]; exact hk, rfl⟩
          · cases hko
            exact ⟨⟨wa.heap.size, cells, T⟩, by simp [St.setL], rfl⟩
        · intro k lb hk _
          have hlt : k < s.L.length := by
            rcases Nat.lt_or_ge k s.L.length with h' | h'
            · exact h'
            · rw [List.getElem?_eq_none h'] at hk; cases hk
          show (s.L ++ _)[k]? = _
          rw [List.getElem?_append_left hlt]; exact hk
        · intro k lb hk
          have hlt : k < s.L.length := by
            rcases Nat.lt_or_ge k s.L.length with h' | h'
            · exact h'
            · rw [List.getElem?_eq_none h'] at hk; cases hk
          refine ⟨lb, ?_, rfl⟩
          show (s.L ++ _)[k]? = _
          rw [List.getElem?_append_left hlt]; exact hk
        · intro b hb
          show b ∈ blk (s.L ++ _)
          rw [blk_append]; simp [hb]
      · have hk := ha wa hl
        exact wp_val (by rw [hcong hex]; exact hx) (hn _ _ _ _ hk (hf.putv (some d) _) (hl.allocNew _) (hH.alloc _) (same (some d) _) (same' (some d) _) (sameb (some d) _))
  cases op <;> simp only [early, Bool.true_eq_false] at he <;> try exact h.elim
  case alloc T =>
    simp only [] at h
    split at h
    · rename_i z hz
      refine alc (by intro cs b hh; cases hh) T z h (run_v ?_)
      unfold zeroT at hz
      split at hz
      · rename_i i hi
        split at hz
        · rename_i z' hz'
          cases hz
          simp [Instr.alloc, zeroValue, typeInfo, hi, hz', newVar, newRow]
        · cases hz
      · cases hz
    · exact h.elim
  case box T x =>
    refine alc (by intro cs b hh; cases hh) T _ h (run_v ?_)
    simp [Instr.box, newVar, newRow]
  case store T x y =>
    have hex : ∀ cs b, Op.store T x y ≠ .select cs b := by intro cs b hh; cases hh
    simp only [] at h
    split at h
    · split at h
      · rename_i i p cs hi htag hp hy
        obtain ⟨hlen, hone, ⟨c, T', fz, hb, hsp, hsz, hfz⟩, hni, hk⟩ := h
        obtain ⟨hk1, hk2⟩ := holdK_spec hk
        have hpe : p = ⟨p.block, p.off, none⟩ := by cases p; simp at hsp; simp [hsp]
        have hwa : wa.heap[p.block]? = some (.cells c T' fz) := hl.get hb hni
        refine wp_skp (by rw [hcong hex]; exact run_u (by
          simp only [Instr.storeAt, hp, hy, Instr.sureAddr, Sem.run_bind, Sem.run_pure, Result.andThen_ok]
          rw [hpe]; exact run_storeVarAt (v := .agg cs) hwa ⟨_, hi⟩ hlen hsz hfz hone)) ?_
        rw [← hpe]
        have hl' := hl.putC hni (lt_size hb) cs.toList
        refine hn _ _ _ _ hk1 (hf.putv dst undef) (by rw [hL]; exact hl') (fun z hz => ⟨?_, by rw [hL]; exact (hH z hz).2⟩) (same dst undef) (same' dst undef) (sameb dst undef)
        by_cases hne : z.2 = []
        · rw [hne]; exact At.nil _ _
        · rcases (hH z hz).2 with h' | h'
          · exact absurd h' hne
          · exact (hk2 z hz).loc hl' h'
      · exact h.elim
    split at h
    · exact h.elim
    · rename_i hchk
      simp only [Bool.and_eq_true, beq_iff_eq] at hchk
      have hi : ∃ i, C.P.info? T = some i := Option.isSome_iff_exists.1 hchk.1
      replace hchk := hchk.2
      split at h
      · rename_i i j htag
        split at h
        · rename_i lb hlb
          split at h
          · rename_i hle
            have hle' : j + (s.ev y).cells.toList.length ≤ lb.cs.length := by simpa [Nat.ble_eq] using hle
            obtain ⟨lb', h1, h2⟩ := hf.ptr htag
            rw [hlb] at h1; cases h1
            have hinv := inv_mem hl.inv (List.mem_of_getElem? hlb)
            refine wp_skp (by rw [hcong hex]; exact run_u (by simp only [Instr.storeAt, h2, Instr.sureAddr, Sem.run_bind, Sem.run_pure, Result.andThen_ok]; exact run_storeVarAt hinv hi hchk.1 (by simpa using hle') (.inl (Nat.zero_le _)) hchk.2)) ?_
            refine hn _ w _ _ h ?_ (by rw [show ∀ (S : St) d v g, (S.put d v g).L = S.L from fun S d v g => by cases d <;> rfl]; exact hl.local hlb j _) ?_ ?_ ?_ ?_
            · refine Fr.putv (hf.setL fun k m hk => ?_) dst undef
              by_cases hki : i = k
              · subst hki
                rw [hlb] at hk; cases hk
                exact ⟨⟨lb.b, lspl lb.cs j (s.ev y).cells.toList, lb.T⟩, by
                  have : i < s.L.length := by
                    rcases Nat.lt_or_ge i s.L.length with h' | h'
                    · exact h'
                    · rw [List.getElem?_eq_none h'] at hlb; cases hlb
                  simp [List.getElem?_set, this], rfl⟩
              · exact ⟨m, by rw [List.getElem?_set_ne hki]; exact hk, rfl⟩
            · rw [show ∀ (S : St) d v g, (S.put d v g).L = S.L from fun S d v g => by cases d <;> rfl]
              intro z hz
              have hb' : blk (s.setL (s.L.set i ⟨lb.b, lspl lb.cs j (s.ev y).cells.toList, lb.T⟩)).L = blk s.L := blk_set _ _ _ _ hlb rfl
              rw [hb']
              refine ⟨?_, (hH z hz).2⟩
              by_cases hne : z.2 = []
              · rw [hne]; exact At.nil _ _
              · refine (hH z hz).1.cellsOf (putC_other _ _ _ _ fun e => ?_)
                rcases (hH z hz).2 with h' | h'
                · exact hne h'
                · exact h' (mem_blk.2 ⟨lb, List.mem_of_getElem? hlb, e.symm⟩)
            · intro k m hk hns
              rw [show ∀ (S : St) d v g, (S.put d v g).L = S.L from fun S d v g => by cases d <;> rfl]
              have hki : i ≠ k := fun e => hns T x y rfl j (e ▸ htag)
              show (s.L.set i _)[k]? = _
              rw [List.getElem?_set_ne hki]; exact hk
            · intro k m hk
              rw [show ∀ (S : St) d v g, (S.put d v g).L = S.L from fun S d v g => by cases d <;> rfl]
              show ∃ lb' : LB, (s.L.set i _)[k]? = some lb' ∧ _
              by_cases hki : i = k
              · subst hki
                rw [hlb] at hk; cases hk
                have : i < s.L.length := by
                  rcases Nat.lt_or_ge i s.L.length with h' | h'
                  · exact h'
                  · rw [List.getElem?_eq_none h'] at hlb; cases hlb
                exact ⟨⟨lb.b, lspl lb.cs j (s.ev y).cells.toList, lb.T⟩, by simp [List.getElem?_set, this], rfl⟩
              · exact ⟨m, by rw [List.getElem?_set_ne hki]; exact hk, rfl⟩
            · intro b hb
              rw [show ∀ (S : St) d v g, (S.put d v g).L = S.L from fun S d v g => by cases d <;> rfl]
              rw [show blk (s.setL (s.L.set i ⟨lb.b, lspl lb.cs j (s.ev y).cells.toList, lb.T⟩)).L = blk s.L from blk_set _ _ _ _ hlb rfl]
              exact hb
          · exact h.elim
        · exact h.elim
      · split at h
        · rename_i p hp
          obtain ⟨⟨c, T', fz, hb, hsp, hsz, hfz⟩, hni, hk⟩ := h
          obtain ⟨hk1, hk2⟩ := holdK_spec hk
          have hpe : p = ⟨p.block, p.off, none⟩ := by cases p; simp at hsp; simp [hsp]
          have hwa : wa.heap[p.block]? = some (.cells c T' fz) := hl.get hb hni
          refine wp_skp (by rw [hcong hex]; exact run_u (by
            simp only [Instr.storeAt, hp, Instr.sureAddr, Sem.run_bind, Sem.run_pure, Result.andThen_ok]
            rw [hpe]; exact run_storeVarAt hwa hi hchk.1 hsz hfz hchk.2)) ?_
          rw [← hpe]
          have hl' := hl.putC hni (lt_size hb) (s.ev y).cells.toList
          refine hn _ _ _ _ hk1 (hf.putv dst undef) (by rw [hL]; exact hl') (fun z hz => ⟨?_, by rw [hL]; exact (hH z hz).2⟩) (same dst undef) (same' dst undef) (sameb dst undef)
          by_cases hne : z.2 = []
          · rw [hne]; exact At.nil _ _
          · rcases (hH z hz).2 with h' | h'
            · exact absurd h' hne
            · exact (hk2 z hz).loc hl' h'
        · exact h.elim
  case convert src dt x =>
    simp only [] at h
    split at h
    · rename_i k hck; rw [hck] at he; cases he
    · rename_i hck; rw [hck] at he; cases he
    · exact runl (by intro cs b hh; cases hh) _ _ h fun v w' hr => run_v hr
  case buildSlice T n parts =>
    have hex : ∀ cs b, Op.buildSlice T n parts ≠ .select cs b := by intro cs b hh; cases hh
    simp only [] at h
    unfold buildSliceK at h
    split at h
    · rename_i e hu
      split at h
      · exact h.elim
      · rename_i z hz
        split at h
        · rename_i hle
          split at h
          · rename_i cs hcs
            obtain ⟨i, hi, z', hz', rfl⟩ : ∃ i, C.P.info? e = some i ∧ ∃ z' : Value, i.zero = some z' ∧ z'.cells.toList = z := by
              unfold zeroT at hz
              split at hz
              · rename_i i hi
                split at hz
                · rename_i z' hz'; exact ⟨i, hi, z', hz', by cases hz; rfl⟩
                · cases hz
              · cases hz
            have hle' : ¬ n * sizeT C.P e > 2 ^ 24 := by have : n * sizeT C.P e ≤ 16777216 := by simpa [Nat.ble_eq] using hle
                                                         omega
            have epf : (fun x : Nat × Operand => match x with | (i, x) => (i, s.ev x)) = fun x => (x.1, s.ev x.2) := rfl
            have eparts : (Array.map (fun x : Nat × Operand => (x.1, s.ev x.2)) parts).toList = partsV s parts.toList := by rw [partsV_eq]; simp
            refine wp_val (w' := wa.alloc (.cells cs e)) (v := .slice (some ⟨wa.heap.size, 0, none⟩) n n) (by
              rw [hcong hex]
              refine run_v ?_
              have hfill : ∀ z0 : Array Value, (n * sizeT C.P e ≠ 0 → z0 = z'.cells) → Instr.fill (fun i => some (i * sizeT C.P e, sizeT C.P e)) ((Array.range (n * sizeT C.P e)).map (z0[· % z0.size]!)) (Array.map (fun x : Nat × Operand => (x.1, s.ev x.2)) parts).toList = some cs := by
                intro z0 hz0
                rw [eparts, ← hcs]
                congr 1
                by_cases h0 : n * sizeT C.P e = 0
                · rw [h0]; first | rfl | simp
                · rw [hz0 h0]
              unfold Instr.buildSlice
              simp only [epf]
              simp only [Sem.run_bind, run_underlying hu, Result.andThen_ok, run_sizeT hi, hle', if_false, Sem.run_pure]
              by_cases h0 : n * sizeT C.P e = 0
              · rw [if_pos h0]
                simp only [Sem.run_bind, Sem.run_pure, Result.andThen_ok]
                rw [hfill #[] (fun hh => absurd h0 hh)]
                simp [newRow]
              · rw [if_neg h0]
                have hzv : (zeroValue e).run C.P wa = .ok z' wa := by simp [zeroValue, typeInfo, hi, hz']
                simp only [Sem.run_bind, hzv, Result.andThen_ok, Sem.run_pure]
                rw [hfill z'.cells (fun _ => rfl)]
                simp [newRow]) ?_
            have hk := h wa hl
            exact hn _ _ _ _ hk (hf.putv dst _) (by rw [hL]; simpa using hl.allocNew (.cells cs e)) (fun x hx => ⟨by simpa using (hH.alloc (.cells cs e) x hx).1, by rw [hL]; exact (hH x hx).2⟩) (same dst _) (same' dst _) (sameb dst _)
          · exact h.elim
        · exact h.elim
    · exact h.elim
  case makeSlice t n c => exact runl (by intro cs b hh; cases hh) _ _ h fun v w' hr => run_v hr
  case makeMap t r => exact runl (by intro cs b hh; cases hh) _ _ h fun v w' hr => run_v hr
  case lookup t x ix ok => exact runl (by intro cs b hh; cases hh) _ _ h fun v w' hr => run_v hr
  case mapUpdate t m k x => exact runu (by intro cs b hh; cases hh) _ h fun w' hr => run_u hr
  case insert t m k x => exact runu (by intro cs b hh; cases hh) _ h fun w' hr => run_u hr
  case call c =>
    obtain ⟨callee, args, argTypes⟩ := c
    have hex : ∀ cs b, Op.call ⟨callee, args, argTypes⟩ ≠ .select cs b := by intro cs b hh; cases hh
    have eargs : Array.map s.ev args = (s.evs args.toList).toArray := by apply Array.ext'; simp [evs_eq]
    cases callee
    case invoke => exact h.elim
    case builtin b =>
      cases b
      case append =>
        refine runl hex _ _ h fun v w' hr => ?_
        simp only [execOp, resolve, Sem.run_bind, Sem.run_pure, Result.andThen_ok, invoke, builtin, eargs]
        simp [hr]
      case copy =>
        refine runl hex _ _ h fun v w' hr => ?_
        simp only [execOp, resolve, Sem.run_bind, Sem.run_pure, Result.andThen_ok, invoke, builtin, eargs]
        simp [hr]
      case len => exact absurd he (by simp [earlyCallee])
      case max => exact absurd he (by simp [earlyCallee])
      case min => exact absurd he (by simp [earlyCallee])
      all_goals exact h.elim
    case value f =>
      simp only [] at h
      unfold funcK at h
      split at h
      · rename_i g first captured hfv
        split at h
        · rename_i hcg
          obtain ⟨S, hok, hc⟩ := h
          have hrun : (execOp s.ev { dst, op := .call ⟨.value f, args, argTypes⟩, type := ty, pos, after, guard }).run C.P wa = .ok (.enter g (first.toList ++ s.evs args.toList ++ captured.toList).toArray) wa := by
            simp only [execOp, resolve, hfv, Deferred.ofValue, Sem.run_bind, Sem.run_pure, Result.andThen_ok, invoke, eargs]
            rw [run_callFunc (hcall g hcg)]
            congr 2
            apply Array.ext'; simp
          unfold Oper.wp
          rw [hcong hex, hrun]
          refine Calls.mono (hc wa hl) ?_
          rintro e w' ⟨ht, v, rfl, hx⟩
          obtain ⟨u, rfl, hk⟩ := ExR.spec hx
          obtain ⟨h4, h5⟩ := holdK_spec hk
          exact hn _ w' _ w' h4 (hf.putv dst v) (by rw [hL]; exact hl.after hok ht) (fun x hx => ⟨h5 x hx, by rw [hL]; exact (hH x hx).2⟩) (same dst v) (same' dst v) (sameb dst v)
        · exact h.elim
      · exact h.elim

/-! ## part 6 -/

/-! ### with its guard -/
theorem yielded_of {s : St} {a : Act} (hf : Fr s a) {ops : Array Oper} {j d : Nat} {b : Bool} (hd : (ops.toList[j]?).bind (·.dst) = some d) (hok : (s.tag d).ok = true) (hv : s.v d = .bool b) : yielded ops a.tmps j = some b := by
  have h1 : a.tmps.getD d undef = .bool b := by rw [hf.val d hok, hv]
  have h2 : a.tmps[d]? = some (.bool b) := by
    rw [Array.getD_eq_getD_getElem?] at h1
    cases h3 : a.tmps[d]? with
    | none => rw [h3] at h1; simp [undef] at h1
    | some u => rw [h3] at h1; simp at h1; rw [h1]
  unfold yielded
  have hd' : (ops[j]?).bind (·.dst) = some d := by simpa using hd
  simp [hd', h2]

theorem yielded_none {s : St} {a : Act} (hf : Fr s a) {ops : Array Oper} {j d : Nat} {vs : Array Value} (hd : (ops.toList[j]?).bind (·.dst) = some d) (hok : (s.tag d).ok = true) (hv : s.v d = .tuple vs) : yielded ops a.tmps j = none := by
  have h1 : a.tmps.getD d undef = .tuple vs := by rw [hf.val d hok, hv]
  unfold yielded
  have hd' : (ops[j]?).bind (·.dst) = some d := by simpa using hd
  rw [hd']
  simp only [Option.bind_some]
  rw [Array.getD_eq_getD_getElem?] at h1
  cases h3 : a.tmps[d]? with
  | none => rfl
  | some u => rw [h3] at h1; simp at h1; subst h1; rfl

theorem Fr.lit {s : St} {a : Act} (hf : Fr s a) {d : Nat} {b : Bool} (hok : (s.tag d).ok = true) (hv : s.v d = .bool b) : Fr (s.put (some d) (.bool b) .val) a := by
  have hlt : d < s.t.length := by
    rcases Nat.lt_or_ge d s.t.length with h | h
    · exact h
    · simp [St.v, List.getD, List.getElem?_eq_none h, undef] at hv
  have hlg : d < s.g.length := by rw [hf.sg, ← hf.st]; exact hlt
  refine ⟨by simpa [St.put] using hf.st, by simpa [St.put] using hf.sg, hf.df, fun i hi => ?_, fun i k o hi => ?_⟩
  · by_cases hid : i = d
    · subst hid
      have h1 : (s.put (some i) (.bool b) .val).v i = .bool b := by simp [St.put, St.v, List.getD, List.getElem?_set, hlt]
      rw [h1, hf.val i hok, hv]
    · rw [put_tag_ne hid] at hi; rw [put_v_ne hid]; exact hf.val i hi
  · by_cases hid : i = d
    · subst hid
      simp [St.put, St.tag, List.getD, List.getElem?_set, hlg] at hi
    · rw [put_tag_ne hid] at hi; rw [put_v_ne hid]; exact hf.loc i k o hi

theorem put_L (s : St) (d : Option Tmp) (v : Value) (g : Tag) : (s.put d v g).L = s.L := by cases d <;> rfl

theorem lit_tagOf {s : St} {a : Act} (hf : Fr s a) {d : Nat} {b : Bool} (hok : (s.tag d).ok = true) (hv : s.v d = .bool b) (x : Operand) (b' : Bool) : (s.put (some d) (.bool b') .val).tagOf x = s.tagOf x := by
  cases x with
  | tmp t =>
    simp only [St.tagOf]
    by_cases htd : t = d
    · subst htd
      have hlt : t < s.t.length := by
        rcases Nat.lt_or_ge t s.t.length with h | h
        · exact h
        · simp [St.v, List.getD, List.getElem?_eq_none h, undef] at hv
      have hlg : t < s.g.length := by rw [hf.sg, ← hf.st]; exact hlt
      have h1 : (s.put (some t) (.bool b') .val).tag t = .val := by simp [St.put, St.tag, List.getD, List.getElem?_set, hlg]
      rw [h1]
      cases hg : s.tag t with
      | dead => rw [hg] at hok; cases hok
      | val => rfl
      | loc k o =>
        obtain ⟨lb, _, h3⟩ := hf.loc t k o hg
        rw [h3] at hv; cases hv
    · exact put_tag_ne htd
  | _ => rfl

theorem wpOp_some {P : Program} {ops : Array Oper} {Q : Exit → Act → World → Prop} {j : Nat} {o : Oper} (hj : ops[j]? = some o) {K : Act → World → Prop} {a : Act} {w : World}
    (h1 : Region.wanted o (yielded ops a.tmps) = true → o.wp P a w K Q) (h2 : Region.wanted o (yielded ops a.tmps) = false → K (a.put o.dst undef) w) : wpOp P ops Q j K a w := by
  unfold Go.wpOp
  simp only [hj]
  by_cases hw : Region.wanted o (yielded ops a.tmps) = true
  · simp only [hw, if_true]; exact .inl (h1 hw)
  · simp only [hw, if_false, Bool.false_eq_true]; exact h2 (by simpa using hw)

/-- what an operation that only reads yields, its guard seen to -/
theorem early_g {C : Ctx} {ops : Array Oper} {H : List (Addr × List Value)} {o : Oper} {s : St} {w wa : World} {K : Kont} {a : Act} (he : early C.P o = true) (h : denG C ops H o s w K) (hf : Fr s a) (hl : Loc C.N w s.L wa) :
    ∃ v f s', K f s' w ∧ s'.L = s.L ∧ Fr s' (a.put o.dst v) ∧ phi o s f wa ∧ (∀ p cs, (∃ T x, o.op = .load T x) → f = some (p, cs) → NotIn p.block s.L ∧ At w p cs) ∧ YieldsIf C.P ops (phi o s f) o v a := by
  unfold denG at h
  split at h
  · rename_i hg
    obtain ⟨v, f, s', h1, h2, h3, h4, h5, h6⟩ := early_op he h hf hl
    exact ⟨v, f, s', h1, h2, h3, h4, h5, .inl ⟨by simp [Region.wanted, hg], h6⟩⟩
  · rename_i j want hg
    split at h
    · exact h.elim
    · rename_i d hd
      split at h
      · exact h.elim
      · rename_i hok
        split at h
        · rename_i b hv
          have hy := yielded_of hf hd hok hv
          have hwant : Region.wanted o (yielded ops a.tmps) = (b == want) := by simp [Region.wanted, hg, hy]
          have hphi : ∀ f w', phi o (s.put (some d) (.bool b) .val) f w' = phi o s f w' := by
            intro f w'
            unfold phi
            split
            · rename_i T x _; rw [lit_tagOf hf hok hv x b]; rfl
            · rfl
          have run : denOp C H o (s.put (some d) (.bool b) .val) w K → b = want →
              ∃ v f s', K f s' w ∧ s'.L = s.L ∧ Fr s' (a.put o.dst v) ∧ phi o s f wa ∧ (∀ p cs, (∃ T x, o.op = .load T x) → f = some (p, cs) → NotIn p.block s.L ∧ At w p cs) ∧ YieldsIf C.P ops (phi o s f) o v a := by
            intro hk hb
            obtain ⟨v, f, s', h1, h2, h3, h4, h5, h6⟩ := early_op he hk (hf.lit hok hv) (by rw [put_L]; exact hl)
            refine ⟨v, f, s', h1, by rw [h2, put_L], h3, by rw [← hphi]; exact h4, by rw [put_L] at h5; exact h5, .inl ⟨by rw [hwant, hb]; simp, fun wb hp => h6 wb (by rw [hphi]; exact hp)⟩⟩
          have skip : K none ((s.put (some d) (.bool b) .val).put o.dst undef .val) w → b ≠ want →
              ∃ v f s', K f s' w ∧ s'.L = s.L ∧ Fr s' (a.put o.dst v) ∧ phi o s f wa ∧ (∀ p cs, (∃ T x, o.op = .load T x) → f = some (p, cs) → NotIn p.block s.L ∧ At w p cs) ∧ YieldsIf C.P ops (phi o s f) o v a := by
            intro hk hb
            refine ⟨undef, none, _, hk, by rw [put_L, put_L], (hf.lit hok hv).putv o.dst undef, ?_, (by intro p cs _ hc; cases hc), .inr ⟨by rw [hwant]; cases b <;> cases want <;> simp_all, rfl⟩⟩
            unfold phi
            split
            · split
              · intro lb hlb; exact inv_mem hl.inv (List.mem_of_getElem? hlb)
              · trivial
            · trivial
          unfold IfB at h
          cases b <;> cases want <;> simp only [] at h
          · exact run h rfl
          · exact skip h (by simp)
          · exact skip h (by simp)
          · exact run h rfl
        · rename_i vs hv
          have hy := yielded_none hf hd hok hv
          refine ⟨undef, none, _, h, by rw [put_L], hf.putv o.dst undef, ?_, (by intro p cs _ hc; cases hc), .inr ⟨by simp [Region.wanted, hg, hy], rfl⟩⟩
          unfold phi
          split
          · split
            · intro lb hlb; exact inv_mem hl.inv (List.mem_of_getElem? hlb)
            · trivial
          · trivial
        · exact h.elim

/-- what an operation does, its guard seen to -/
theorem eff_g {C : Ctx} {ops : Array Oper} {H : List (Addr × List Value)} {o : Oper} {j : Nat} {s : St} {w wa : World} {K : Kont} {a : Act} {next : Act → World → Prop} {Q : Exit → Act → World → Prop}
    (hcall : ∀ g, C.call g = true → okFn C.P g) (hj : ops[j]? = some o) (he : early C.P o = false) (h : denG C ops H o s w K) (hf : Fr s a) (hl : Loc C.N w s.L wa) (hH : Facts H s.L wa)
    (hn : ∀ s' w' a' wa', K none s' w' → Fr s' a' → Loc C.N w' s'.L wa' → Facts H s'.L wa' →
      (∀ (k : Nat) lb, s.L[k]? = some lb → (∀ T x y, o.op = .store T x y → ∀ j, s.tagOf x ≠ .loc k j) → s'.L[k]? = some lb) → (∀ (k : Nat) lb, s.L[k]? = some lb → ∃ lb' : LB, s'.L[k]? = some lb' ∧ lb'.b = lb.b) →
      (∀ b ∈ blk s.L, b ∈ blk s'.L) → next a' wa') : wpOp C.P ops Q j next a wa := by
  unfold denG at h
  split at h
  · rename_i hg
    refine wpOp_some hj (fun _ => eff_op hcall he h hf hl hH hn) (fun hw => ?_)
    simp [Region.wanted, hg] at hw
  · rename_i i want hg
    split at h
    · exact h.elim
    · rename_i d hd
      split at h
      · exact h.elim
      · rename_i hok
        split at h
        · rename_i b hv
          have hy := yielded_of hf hd hok hv
          have hwant : Region.wanted o (yielded ops a.tmps) = (b == want) := by simp [Region.wanted, hg, hy]
          have run : denOp C H o (s.put (some d) (.bool b) .val) w K → b = want → wpOp C.P ops Q j next a wa := by
            intro hk hb
            refine wpOp_some hj (fun _ => eff_op hcall he hk (hf.lit hok hv) (by rw [put_L]; exact hl) (by rw [put_L]; exact hH) (fun s' w' a' wa' k1 k2 k3 k4 k5 k6 k7 => hn s' w' a' wa' k1 k2 k3 k4 (fun k lb hk hs => k5 k lb (by rw [put_L]; exact hk) (fun T x y he j => by rw [lit_tagOf hf hok hv]; exact hs T x y he j)) (fun k lb hk => k6 k lb (by rw [put_L]; exact hk)) (fun b hb => k7 b (by rw [put_L]; exact hb)))) (fun hw => ?_)
            rw [hwant, hb] at hw; simp at hw
          have skip : K none ((s.put (some d) (.bool b) .val).put o.dst undef .val) w → b ≠ want → wpOp C.P ops Q j next a wa := by
            intro hk hb
            refine wpOp_some hj (fun hw => ?_) (fun _ => hn _ w _ wa hk ((hf.lit hok hv).putv o.dst undef) (by rw [put_L, put_L]; exact hl) (by rw [put_L, put_L]; exact hH) (fun k lb hk _ => by rw [put_L, put_L]; exact hk) (fun k lb hk => ⟨lb, by rw [put_L, put_L]; exact hk, rfl⟩) (fun b hb => by rw [put_L, put_L]; exact hb))
            rw [hwant] at hw
            cases b <;> cases want <;> simp_all
          unfold IfB at h
          cases b <;> cases want <;> simp only [] at h
          · exact run h rfl
          · exact skip h (by simp)
          · exact skip h (by simp)
          · exact run h rfl
        · rename_i vs hv
          have hy := yielded_none hf hd hok hv
          refine wpOp_some hj (fun hw => ?_) (fun _ => hn _ w _ wa h (hf.putv o.dst undef) (by rw [put_L]; exact hl) (by rw [put_L]; exact hH) (fun k lb hk _ => by rw [put_L]; exact hk) (fun k lb hk => ⟨lb, by rw [put_L]; exact hk, rfl⟩) (fun b hb => by rw [put_L]; exact hb))
          simp [Region.wanted, hg, hy] at hw
        · exact h.elim

/-! ### in the text's order -/
theorem YieldsIf.wp1 {P : Program} {ops : Array Oper} {Q : Exit → Act → World → Prop} {S : World → Prop} {i : Nat} {o : Oper} {v : Value} {a : Act} (hi : ops[i]? = some o) (hy : YieldsIf P ops S o v a)
    {K : Act → World → Prop} {w : World} (hS : S w) (h : K (a.put o.dst v) w) : wpOp P ops Q i K a w := YieldsIf.wpOp hi hy hS h

theorem Facts.nil (L : List LB) (w : World) : Facts [] L w := fun x hx => by cases hx

theorem denOps_sound {C : Ctx} {ops : Array Oper} {Q : Exit → Act → World → Prop} {K : St → World → Prop} (hcall : ∀ g, C.call g = true → okFn C.P g)
    (hK : ∀ s w a wa, K s w → Fr s a → Loc C.N w s.L wa → Q .normal a wa) : ∀ (r : List Oper) (n : Nat), (∀ i o, r[i]? = some o → ops[n + i]? = some o) → ∀ (s : St) (w : World) (a : Act) (wa : World),
      denOps C ops r s w K → Fr s a → Loc C.N w s.L wa → wpOps C.P ops Q (List.range' n r.length) a wa
  | [], n, _, s, w, a, wa, h, hf, hl => hK s w a wa h hf hl
  | o :: r, n, hr, s, w, a, wa, h, hf, hl => by
    have h0 : ops[n]? = some o := by have := hr 0 o rfl; simpa using this
    have hr' : ∀ i o', r[i]? = some o' → ops[n + 1 + i]? = some o' := fun i o' hi => by have := hr (i + 1) o' (by simpa using hi); rwa [show n + (i + 1) = n + 1 + i by omega] at this
    simp only [List.length_cons, List.range'_succ]
    rw [wpOps_cons]
    simp only [denOps] at h
    by_cases he : early C.P o = true
    · obtain ⟨v, f, s', h1, h2, h3, h4, _, h6⟩ := early_g he h hf hl
      exact YieldsIf.wp1 h0 h6 h4 (denOps_sound hcall hK r (n + 1) hr' s' w _ wa h1 h3 (by rw [h2]; exact hl))
    · exact eff_g hcall h0 (by simpa using he) h hf hl (Facts.nil _ _) fun s' w' a' wa' k1 k2 k3 _ _ _ _ => denOps_sound hcall hK r (n + 1) hr' s' w' a' wa' k1 k2 k3

/-! ## part 7 -/

section
variable {P : Program} {ops : Array Oper} {Q : Exit → Act → World → Prop}

def dropF (dep : Nat → Nat → Bool) (j : Nat) (F : Nat → World → Prop) : Nat → World → Prop := fun i w => dep i j = false → F i w

/-- Whatever order is picked, and what was read is still so behind every operation that need not wait for the reading. -/
def AnyF (P : Program) (ops : Array Oper) (Q : Exit → Act → World → Prop) (dep : Nat → Nat → Bool) : Nat → Array Bool → (Nat → World → Prop) → Act → World → Prop
  | 0, listed, _, a, w => Region.ready .any ops listed = [] ∧ Q .normal a w
  | n + 1, listed, F, a, w => (Region.ready .any ops listed = [] → Q .normal a w) ∧
    ∀ j ∈ Region.ready .any ops listed, wpOp P ops Q j (fun a' w' => (∀ i, dep i j = false → F i w') ∧ AnyF P ops Q dep n (listed.setIfInBounds j true) (dropF dep j F) a' w') a w

theorem AnyF.mono {dep : Nat → Nat → Bool} : ∀ {n : Nat} {listed : Array Bool} {F G : Nat → World → Prop} {a : Act} {w : World}, (∀ i w, F i w → G i w) → AnyF P ops Q dep n listed F a w → AnyF P ops Q dep n listed G a w
  | 0, _, _, _, _, _, _, h => h
  | n + 1, listed, F, G, a, w, hfg, h => ⟨h.1, fun j hj => wpOp_mono (fun a' w' h' => ⟨fun i hi => hfg i w' (h'.1 i hi), AnyF.mono (fun i w hF hd => hfg i w (hF hd)) h'.2⟩) (h.2 j hj)⟩

theorem AnyF.any {dep : Nat → Nat → Bool} : ∀ {n : Nat} {listed : Array Bool} {F : Nat → World → Prop} {a : Act} {w : World}, AnyF P ops Q dep n listed F a w → wpAny P .any ops Q n listed a w
  | 0, _, _, _, _, h => h
  | n + 1, listed, F, a, w, h => ⟨h.1, fun j hj => wpOp_mono (fun a' w' h' => AnyF.any h'.2) (h.2 j hj)⟩

/-- what is listed has all that it waits for listed -/
def Closed (ops : Array Oper) (listed : Array Bool) : Prop := ∀ j o, ops[j]? = some o → listed.getD j false = true → ∀ e ∈ o.after, Region.binds .any e = true → listed.getD e.on false = true

theorem dep_listed {listed : Array Bool} (hc : Closed ops listed) : ∀ (n i j : Nat) (o : Oper), ops[j]? = some o → (∀ e ∈ o.after, Region.binds .any e = true → listed.getD e.on false = true) → depOn ops n i j = true → listed.getD i false = true
  | 0, i, j, o, _, _, h => by simp [depOn] at h
  | n + 1, i, j, o, ho, ha, h => by
    have ho' : ops.toList[j]? = some o := by simpa using ho
    simp only [depOn, ho', List.any_eq_true, Bool.and_eq_true, Bool.or_eq_true] at h
    obtain ⟨e, he, hb, h⟩ := h
    have hel := ha e (by simpa using he) hb
    rcases h with h | h
    · have : e.on = i := by simpa [Nat.beq_eq] using h
      rw [← this]; exact hel
    · cases hoe : ops[e.on]? with
      | none =>
        cases n with
        | zero => simp [depOn] at h
        | succ n => simp [depOn, hoe] at h
      | some oe => exact dep_listed hc n i e.on oe hoe (hc e.on oe hoe hel) h

theorem Closed.list {listed : Array Bool} (hc : Closed ops listed) {j : Nat} (hj : j ∈ Region.ready .any ops listed) : Closed ops (listed.setIfInBounds j true) := by
  intro k o ho hk e he hb
  obtain ⟨h0, oj, hoj, hall⟩ := mem_ready.1 hj
  by_cases hkj : k = j
  · subst hkj
    rw [hoj] at ho; cases ho
    exact getD_set_true (hall e he hb)
  · rw [getD_set_ne false (fun hh => hkj hh.symm)] at hk
    exact getD_set_true (hc k o ho hk e he hb)

theorem not_dep {listed : Array Bool} (hc : Closed ops listed) {i j n : Nat} (hj : j ∈ Region.ready .any ops listed) (hi : listed.getD i false = false) : depOn ops n i j = false := by
  obtain ⟨h0, oj, hoj, hall⟩ := mem_ready.1 hj
  cases h : depOn ops n i j with
  | false => rfl
  | true => rw [dep_listed hc n i j oj hoj hall h] at hi; cases hi

/-- An operation that only reads may be taken first. -/
theorem AnyF.take {m i : Nat} {oi : Oper} {v : Value} {φ : World → Prop} (hi : ops[i]? = some oi) (hsel : ∀ (j : Nat) (o : Oper) cs b, ops[j]? = some o → o.op ≠ .select cs b)
    (hQ : ∀ c a w, Q (.panic c) (a.put oi.dst v) w → Q (.panic c) a w) :
    ∀ (n : Nat) (listed : Array Bool) (F : Nat → World → Prop) (a : Act) (w : World), Closed ops listed →
      (∀ j oj, ops[j]? = some oj → j ≠ i → listed.getD j true = false → (∀ e ∈ oj.after, Region.binds .any e = true → e.on ≠ i) → oi.apart ops oj = true) →
      i ∈ Region.ready .any ops listed → YieldsIf P ops φ oi v a → φ w → (∀ k, F k w) → (∀ w, F i w) →
      AnyF P ops Q (depOn ops m) n (listed.setIfInBounds i true) (fun k w => if k = i then φ w else F k w) (a.put oi.dst v) w → AnyF P ops Q (depOn ops m) (n + 1) listed F a w := by
  intro n
  induction n with
  | zero =>
    intro listed F a w hc _ hr hy hS hF hFi H
    refine ⟨fun h => (by rw [h] at hr; cases hr), fun j hj => ?_⟩
    by_cases hji : j = i
    · subst hji
      refine YieldsIf.wp1 hi hy hS ⟨fun k _ => hF k, ?_⟩
      exact ⟨H.1, H.2⟩
    · have := ready_mono hj hji
      rw [H.1] at this
      cases this
  | succ n ih =>
    intro listed F a w hc hfree hr hy hS hF hFi H
    refine ⟨fun h => (by rw [h] at hr; cases hr), fun j hj => ?_⟩
    have hui : listed.getD i false = false := by
      have h0 := (mem_ready.1 hr).1
      rcases Nat.lt_or_ge i listed.size with h' | h'
      · simp [h'] at h0 ⊢; exact h0
      · simp [Array.getElem?_eq_none h'] at h0
    by_cases hji : j = i
    · subst hji
      refine YieldsIf.wp1 hi hy hS ⟨fun k _ => hF k, AnyF.mono (fun k w hk hd => ?_) H⟩
      by_cases hkj : k = j
      · subst hkj
        exact hFi w
      · simpa [hkj] using hk
    · have h1 := H.2 j (ready_mono hj hji)
      obtain ⟨hjun, oj, hoj, hall⟩ := mem_ready.1 hj
      have hnot : ∀ e ∈ oj.after, Region.binds .any e = true → e.on ≠ i := fun e he hb heq => by
        have h1 := hall e he hb
        rw [heq, hui] at h1; cases h1
      have hnd : depOn ops m i j = false := not_dep hc hj hui
      have h2 := wpOp_putIf hoj (hfree j oj hoj hji hjun hnot) (fun cs b => hsel i oi cs b hi) (fun cs b => hsel j oj cs b hoj) hQ hy h1
      have hfree' : ∀ k ok, ops[k]? = some ok → k ≠ i → (listed.setIfInBounds j true).getD k true = false →
          (∀ e ∈ ok.after, Region.binds .any e = true → e.on ≠ i) → oi.apart ops ok = true := fun k ok hk hki hun hno => by
        refine hfree k ok hk hki ?_ hno
        by_cases hjk : j = k
        · subst hjk; exact hjun
        · rw [getD_set_ne true hjk] at hun; exact hun
      refine wpOp_mono (fun a' w' h3 => ?_) h2
      obtain ⟨hy', hfacts, hrest⟩ := h3
      have hφ : φ w' := by have := hfacts i hnd; simpa using this
      have hF' : ∀ k, depOn ops m k j = false → F k w' := fun k hk => by
        by_cases hki : k = i
        · subst hki; exact hFi w'
        · have := hfacts k hk; simpa [hki] using this
      refine ⟨hF', ih (listed.setIfInBounds j true) (dropF (depOn ops m) j F) a' w' (hc.list hj) hfree' (ready_mono hr (Ne.symm hji)) hy' hφ hF' (fun w _ => hFi w) ?_⟩
      rw [Array.setIfInBounds_comm _ _ hji]
      refine AnyF.mono (fun k w hk => ?_) hrest
      by_cases hki : k = i
      · subst hki
        have := hk hnd
        simpa using this
      · simp only [hki, if_false]
        intro hd
        have := hk hd
        simpa [hki] using this
end

/-! ### the walk through a statement whose order is open -/
def phiG (L : List LB) (x : Got) (w : World) : Prop :=
  match x with
  | .loc k => ∀ lb, L[k]? = some lb → w.heap[lb.b]? = some (.cells lb.cs.toArray lb.T (0, 0))
  | .mem a cs => At w a cs

def factF (L : List LB) (G : List (Nat × Got)) (i : Nat) (w : World) : Prop := ∀ x ∈ G, x.1 = i → phiG L x.2 w

/-- what is known of what was read -/
def GOk (L : List LB) (G : List (Nat × Got)) (wa : World) (listed : Array Bool) : Prop :=
  ∀ x ∈ G, listed.getD x.1 false = true ∧ (match x.2 with | .loc k => ∃ lb, L[k]? = some lb | .mem a cs => At wa a cs ∧ (cs = [] ∨ a.block ∉ blk L))

theorem mem_gotDrop {dep : Nat → Nat → Bool} {j : Nat} : ∀ {G : List (Nat × Got)} {x : Nat × Got}, x ∈ gotDrop dep j G ↔ x ∈ G ∧ dep x.1 j = false
  | [], x => by simp [gotDrop]
  | y :: r, x => by
    simp only [gotDrop]
    cases h : dep y.1 j with
    | true =>
      simp only [mem_gotDrop (G := r), List.mem_cons]
      constructor
      · rintro ⟨h1, h2⟩; exact ⟨.inr h1, h2⟩
      · rintro ⟨rfl | h1, h2⟩
        · rw [h] at h2; cases h2
        · exact ⟨h1, h2⟩
    | false =>
      simp only [List.mem_cons, mem_gotDrop (G := r)]
      constructor
      · rintro (rfl | ⟨h1, h2⟩)
        · exact ⟨.inl rfl, h⟩
        · exact ⟨.inr h1, h2⟩
      · rintro ⟨rfl | h1, h2⟩
        · exact .inl rfl
        · exact .inr ⟨h1, h2⟩
theorem mem_gotFacts {dep : Nat → Nat → Bool} {j : Nat} : ∀ {G : List (Nat × Got)} {y : Addr × List Value}, y ∈ gotFacts dep j G ↔ ∃ i, (i, Got.mem y.1 y.2) ∈ G ∧ dep i j = false
  | [], y => by simp [gotFacts]
  | (i, .loc k) :: r, y => by
    simp only [gotFacts, mem_gotFacts (G := r), List.mem_cons]
    constructor
    · rintro ⟨i', h1, h2⟩; exact ⟨i', .inr h1, h2⟩
    · rintro ⟨i', h1 | h1, h2⟩
      · cases h1
      · exact ⟨i', h1, h2⟩
  | (i, .mem a cs) :: r, y => by
    simp only [gotFacts]
    cases h : dep i j with
    | true =>
      simp only [mem_gotFacts (G := r), List.mem_cons]
      constructor
      · rintro ⟨i', h1, h2⟩; exact ⟨i', .inr h1, h2⟩
      · rintro ⟨i', h1 | h1, h2⟩
        · cases h1; rw [h] at h2; cases h2
        · exact ⟨i', h1, h2⟩
    | false =>
      simp only [List.mem_cons, mem_gotFacts (G := r)]
      constructor
      · rintro (h1 | ⟨i', h1, h2⟩)
        · subst h1; exact ⟨i, .inl rfl, h⟩
        · exact ⟨i', .inr h1, h2⟩
      · rintro ⟨i', h1 | h1, h2⟩
        · cases h1; exact .inl rfl
        · exact .inr ⟨i', h1, h2⟩
theorem isLoc_of {i k : Nat} {G : List (Nat × Got)} (h : (i, Got.loc k) ∈ G) : isLoc k G = true := by
  induction G with
  | nil => cases h
  | cons y r ih =>
    cases h with
    | head => simp [isLoc, Nat.beq_eq]
    | tail _ hr =>
      obtain ⟨j, g⟩ := y
      cases g with
      | loc m => simp [isLoc, ih hr]
      | mem a cs => simp only [isLoc]; exact ih hr

theorem mem_firstEarly {P : Program} {ops : Array Oper} : ∀ {r : List Nat} {i : Nat}, firstEarly P ops r = some i → i ∈ r ∧ ∃ o, ops.toList[i]? = some o ∧ early P o = true
  | [], i, h => by simp [firstEarly] at h
  | k :: r, i, h => by
    simp only [firstEarly] at h
    split at h
    · rename_i o ho
      split at h
      · rename_i he; cases h; exact ⟨by simp, o, ho, he⟩
      · obtain ⟨h1, h2⟩ := mem_firstEarly h; exact ⟨by simp [h1], h2⟩
    · obtain ⟨h1, h2⟩ := mem_firstEarly h; exact ⟨by simp [h1], h2⟩
theorem firstEarly_none {P : Program} {ops : Array Oper} : ∀ {r : List Nat}, firstEarly P ops r = none → ∀ i ∈ r, ∀ o, ops.toList[i]? = some o → early P o = false
  | [], _, i, h => by cases h
  | k :: r, h, i, hi => by
    simp only [firstEarly] at h
    intro o ho
    cases hi with
    | head =>
      rw [ho] at h
      simp only [] at h
      split at h
      · cases h
      · rename_i he; exact he
    | tail _ hr =>
      refine firstEarly_none ?_ i hr o ho
      split at h
      · split at h
        · cases h
        · exact h
      · exact h
theorem allR_mem : ∀ {r : List Nat} {p : Nat → Prop}, AllR r p → ∀ j ∈ r, p j
  | [], _, _, j, hj => by cases hj
  | [k], p, h, j, hj => by simp at hj; subst hj; exact h
  | k :: l :: r, p, h, j, hj => by
    cases hj with
    | head => exact h.1
    | tail _ hr => exact allR_mem h.2 j hr

theorem denAny_sound {C : Ctx} {ops : Array Oper} {Q : Exit → Act → World → Prop} {K : St → World → Prop} (hcall : ∀ g, C.call g = true → okFn C.P g) (hns : Region.noSelect ops = true)
    (hQ : ∀ c a b w, Q (.panic c) a w → Q (.panic c) b w)
    (hK : ∀ s w a wa, K s w → Fr s a → Loc C.N w s.L wa → Q .normal a wa) : ∀ (n : Nat) (listed : Array Bool) (G : List (Nat × Got)) (s : St) (w : World) (a : Act) (wa : World),
      denAny C ops n listed G s w K → Fr s a → Loc C.N w s.L wa → Closed ops listed → GOk s.L G wa listed → AnyF C.P ops Q (depOn ops ops.size) n listed (factF s.L G) a wa
  | 0, listed, G, s, w, a, wa, h, hf, hl, hc, hG => by
    simp only [denAny] at h
    split at h
    · rename_i hr; exact ⟨hr, hK s w a wa h hf hl⟩
    · exact h.elim
  | n + 1, listed, G, s, w, a, wa, h, hf, hl, hc, hG => by
    simp only [denAny] at h
    split at h
    · rename_i hr
      exact ⟨fun _ => hK s w a wa h hf hl, by rw [hr]; intro j hj; cases hj⟩
    · rename_i r hrne
      split at h
      · -- an operation that only reads
        rename_i i hfe
        obtain ⟨hir, o, ho, he⟩ := mem_firstEarly hfe
        rw [ho] at h
        split at h
        · rename_i o' hfree heq hfr
          cases heq
          have ho' : ops[i]? = some o := by simpa using ho
          obtain ⟨v, f, s', h1, h2, h3, h4, h5, h6⟩ := early_g he h hf hl
          have hilt : i < listed.size := by
            have h0 := (mem_ready.1 hir).1
            rcases Nat.lt_or_ge i listed.size with h' | h'
            · exact h'
            · simp [Array.getElem?_eq_none h'] at h0
          have hui : listed.getD i false = false := by
            have h0 := (mem_ready.1 hir).1
            simp [hilt] at h0 ⊢; exact h0
          have hfactnow : ∀ k, factF s.L G k wa := by
            intro k x hx _
            have := (hG x hx).2
            unfold phiG
            split
            · intro lb hlb; exact inv_mem hl.inv (List.mem_of_getElem? hlb)
            · rename_i a' cs heq; rw [heq] at this; exact this.1
          have hvac : ∀ w, factF s.L G i w := by
            intro w x hx hxi
            have := (hG x hx).1
            rw [hxi, hui] at this; cases this
          have hG' : GOk s'.L (gotOf o s i f G) wa (listed.setIfInBounds i true) := by
            rw [h2]
            have old : ∀ x ∈ G, (listed.setIfInBounds i true).getD x.1 false = true ∧ (match x.2 with | .loc k => ∃ lb, s.L[k]? = some lb | .mem a cs => At wa a cs ∧ (cs = [] ∨ a.block ∉ blk s.L)) :=
              fun x hx => ⟨getD_set_true (hG x hx).1, (hG x hx).2⟩
            have new : (listed.setIfInBounds i true).getD i false = true := by simp [hilt]
            intro x hx
            unfold gotOf at hx
            split at hx
            · rename_i T y hop
              split at hx
              · rename_i k o' htag
                cases hx with
                | head => exact ⟨new, by obtain ⟨lb, hlb, _⟩ := hf.ptr htag; exact ⟨lb, hlb⟩⟩
                | tail _ hr => exact old x hr
              · split at hx
                · rename_i p cs
                  cases hx with
                  | head =>
                    obtain ⟨h7, h8⟩ := h5 p cs ⟨T, y, hop⟩ rfl
                    exact ⟨new, h8.loc hl h7, .inr h7⟩
                  | tail _ hr => exact old x hr
                · exact old x hx
            · exact old x hx
          have ih := denAny_sound hcall hns hQ hK n (listed.setIfInBounds i true) _ s' w (a.put o.dst v) wa h1 h3 (by rw [h2]; exact hl) (hc.list hir) hG'
          refine AnyF.take ho' (Region.noSelect_spec hns) (fun c a w hq => hQ c _ _ w hq) n listed _ a wa hc (Region.free_spec ho' hfr) hir h6 h4 hfactnow hvac (AnyF.mono (fun k w hk => ?_) ih)
          rw [h2] at hk
          by_cases hki : k = i
          · subst hki
            simp only [if_true]
            unfold phi
            split
            · rename_i T y hop
              split
              · rename_i k' o' htag
                have := hk (k, .loc k') (by unfold gotOf; rw [hop]; simp [htag]) rfl
                exact this
              · rename_i hnt
                split
                · rename_i p cs
                  refine hk (k, .mem p cs) ?_ rfl
                  unfold gotOf
                  rw [hop]
                  simp only []
                  cases htag : s.tagOf y with
                  | loc k' o' => exact absurd htag (fun hh => hnt _ _ hh)
                  | dead => simp
                  | val => simp
                · trivial
            · trivial
          · simp only [hki, if_false]
            intro x hx hxk
            refine hk x ?_ hxk
            unfold gotOf
            split
            · split
              · exact List.mem_cons_of_mem _ hx
              · split
                · exact List.mem_cons_of_mem _ hx
                · exact hx
            · exact hx
        · exact h.elim
      · -- an operation that writes, calls or makes memory
        rename_i hfe
        refine ⟨fun hr => absurd hr (fun hh => hrne hh), fun j hj => ?_⟩
        have hj1 := allR_mem h j hj
        split at hj1
        · rename_i o ho
          have ho' : ops[j]? = some o := by simpa using ho
          have he := firstEarly_none hfe j hj o ho
          split at hj1
          · rename_i hso
            refine eff_g hcall ho' he hj1 hf hl (fun y hy => ?_) (fun s' w' a' wa' k1 k2 k3 k4 k5 k6 k7 => ?_)
            · obtain ⟨i, hm, _⟩ := mem_gotFacts.1 hy
              exact (hG _ hm).2
            · have hloc : ∀ k i, (i, Got.loc k) ∈ gotDrop (depOn ops ops.size) j G → ∀ lb, s.L[k]? = some lb → s'.L[k]? = some lb := by
                intro k i hm lb hlb
                refine k5 k lb hlb fun T x y hop j' htag => ?_
                unfold storeOk at hso
                rw [hop] at hso
                simp only [htag] at hso
                rw [isLoc_of hm] at hso; simp at hso
              have hnowF : ∀ i, depOn ops ops.size i j = false → factF s.L G i wa' := by
                intro i hd x hx hxi
                subst hxi
                have hgx := (hG x hx).2
                obtain ⟨i, g⟩ := x
                cases g with
                | loc k =>
                  intro lb hlb
                  exact inv_mem k3.inv (List.mem_of_getElem? (hloc k i (mem_gotDrop.2 ⟨hx, hd⟩) lb hlb))
                | mem p cs => exact (k4 (p, cs) (mem_gotFacts.2 ⟨i, hx, hd⟩)).1
              refine ⟨hnowF, ?_⟩
              have hG' : GOk s'.L (gotDrop (depOn ops ops.size) j G) wa' (listed.setIfInBounds j true) := by
                intro x hx
                obtain ⟨hx1, hd⟩ := mem_gotDrop.1 hx
                refine ⟨getD_set_true (hG x hx1).1, ?_⟩
                have hgx := (hG x hx1).2
                obtain ⟨i, g⟩ := x
                cases g with
                | loc k => obtain ⟨lb, hlb⟩ := hgx; exact ⟨lb, hloc k i hx lb hlb⟩
                | mem p cs => exact k4 (p, cs) (mem_gotFacts.2 ⟨i, hx1, hd⟩)
              have ih := denAny_sound hcall hns hQ hK n (listed.setIfInBounds j true) _ s' w' a' wa' k1 k2 k3 (hc.list hj) hG'
              refine AnyF.mono (fun i w hi hd x hx hxi => ?_) ih
              have h9 := hi x (mem_gotDrop.2 ⟨hx, by rw [hxi]; exact hd⟩) hxi
              obtain ⟨i', g⟩ := x
              cases g with
              | loc k =>
                intro lb hlb
                exact h9 lb (hloc k i' (mem_gotDrop.2 ⟨hx, by simp at hxi; rw [hxi]; exact hd⟩) lb hlb)
              | mem p cs => exact h9
          · exact hj1.elim
        · exact hj1.elim

theorem closed_none (ops : Array Oper) : Closed ops (Array.replicate ops.size false) := by
  intro j o ho hj
  rcases Nat.lt_or_ge j ops.size with h | h
  · simp [h] at hj
  · rw [Array.getElem?_eq_none h] at ho; cases ho

/-! ## part 8 -/

/-- the machine's exit that a formula's exit stands for -/
def PostQ (C : Ctx) (Q : Cont) : Exit → Act → World → Prop
  | .normal, a, wa => ∃ s w, Q .normal s w ∧ Fr s a ∧ Loc C.N w s.L wa
  | .exit id, a, wa => ∃ s w, Q (.exit id) s w ∧ Fr s a ∧ Loc C.N w s.L wa
  | .ret, a, wa => ∃ s w, Q .ret s w ∧ Fr s a ∧ Loc C.N w s.L wa
  | _, _, _ => False

/-- the code does what 'Q' says, from every frame that fits -/
def Snd (C : Ctx) (c : Code) (Q : Cont) (s : St) (w : World) : Prop := ∀ a wa, Fr s a → Loc C.N w s.L wa → c.wp C.P (PostQ C Q) a wa

theorem PostQ.mono {C : Ctx} {Q R : Cont} (h : ∀ x s w, Q x s w → R x s w) : ∀ e a w, PostQ C Q e a w → PostQ C R e a w := by
  intro e a w hq
  cases e <;> simp only [PostQ] at * <;> first
    | exact hq.elim
    | (obtain ⟨s, w', h1, h2⟩ := hq; exact ⟨s, w', h _ _ _ h1, h2⟩)
theorem Snd.mono {C : Ctx} {c : Code} {Q R : Cont} {s : St} {w : World} (h : Snd C c Q s w) (hq : ∀ x s w, Q x s w → R x s w) : Snd C c R s w :=
  fun a wa hf hl => wp_mono (h a wa hf hl) (PostQ.mono hq)

theorem Snd.seq {C : Ctx} {x y : Code} {Q : Cont} {s : St} {w : World} (M : St → World → Prop) (h : Snd C x (thenD M Q) s w) (hy : ∀ s w, M s w → Snd C y Q s w) : Snd C (.seq x y) Q s w := by
  intro a wa hf hl
  refine wp_seq (wp_mono (h a wa hf hl) ?_)
  intro e a' wa' hq
  cases e <;> simp only [PostQ, thenD] at hq
  case normal => obtain ⟨s', w', h1, h2, h3⟩ := hq; exact hy s' w' h1 a' wa' h2 h3
  case exit id => exact hq
  case ret => exact hq
  all_goals exact hq.elim

theorem Snd.block {C : Ctx} {id : Nat} {c : Code} {Q : Cont} {s : St} {w : World} (h : Snd C c (inBlockD id Q) s w) : Snd C (.block id c) Q s w := by
  intro a wa hf hl
  refine wp_block (wp_mono (h a wa hf hl) ?_)
  intro e a' wa' hq
  cases e <;> simp only [PostQ, inBlockD] at hq
  case normal => exact hq
  case exit i =>
    simp only [Exit.inBlock]
    obtain ⟨s', w', h1, h2⟩ := hq
    by_cases hi : i = id
    · rw [if_pos hi]
      have : Nat.beq i id = true := by simpa [Nat.beq_eq] using hi
      rw [this] at h1
      exact ⟨s', w', h1, h2⟩
    · rw [if_neg hi]
      have : Nat.beq i id = false := by
        cases hb : Nat.beq i id with
        | false => rfl
        | true => exact absurd (by simpa [Nat.beq_eq] using hb) hi
      rw [this] at h1
      exact ⟨s', w', h1, h2⟩
  case ret => exact hq
  all_goals exact hq.elim

theorem Snd.cond {C : Ctx} {x : Operand} {c d : Code} {Q : Cont} {s : St} {w : World} {t : Bool} (hx : s.alive x = true) (ht : s.ev x = .bool t) (h1 : t = true → Snd C c Q s w) (h2 : t = false → Snd C d Q s w) : Snd C (.cond x c d) Q s w := by
  intro a wa hf hl
  refine wp_cond_split (t := t) (by rw [hf.ev hx, ht]) (fun h => h1 h a wa hf hl) (fun h => h2 h a wa hf hl)

theorem den_sound {C : Ctx} (hcall : ∀ g, C.call g = true → okFn C.P g) (hm : C.P.follows .mixedOrders = true) : ∀ (c : Code) (Q : Cont) (s : St) (w : World), den C c Q s w → Snd C c Q s w
  | .skip, Q, s, w, h => fun a wa hf hl => wp_skip ⟨s, w, h, hf, hl⟩
  | .label _, Q, s, w, h => fun a wa hf hl => wp_label ⟨s, w, h, hf, hl⟩
  | .region id ops false, Q, s, w, h => fun a wa hf hl => by
    simp only [den] at h
    refine wp_region ?_
    rw [List.range_eq_range']
    have := denOps_sound (Q := PostQ C Q) hcall (fun s w a wa hk hf hl => (⟨s, w, hk, hf, hl⟩ : PostQ C Q .normal a wa)) ops.toList 0 (fun i o hi => by simpa using hi) s w a wa h hf hl
    simpa using this
  | .region id ops true, Q, s, w, h => fun a wa hf hl => by
    simp only [den] at h
    split at h
    · rename_i hns
      refine wp_region_any hm (AnyF.any (denAny_sound hcall hns (fun c a b w hq => hq.elim) (fun s w a wa hk hf hl => (⟨s, w, hk, hf, hl⟩ : PostQ C Q .normal a wa)) ops.size _ [] s w a _ h hf (hl.drawn _) (closed_none ops) (fun x hx => by cases hx)))
    · exact h.elim
  | .seq a b, Q, s, w, h => Snd.seq _ (den_sound hcall hm a _ s w h) fun s w hm' => den_sound hcall hm b Q s w hm'
  | .cond c a b, Q, s, w, h => by
    simp only [den] at h
    split at h
    · exact h.elim
    · rename_i hal
      split at h
      · rename_i t ht
        unfold IfB at h
        refine Snd.cond hal ht (fun hh => ?_) (fun hh => ?_) <;> subst hh <;> exact den_sound hcall hm _ Q s w h
      · exact h.elim
  | .block id c, Q, s, w, h => Snd.block (den_sound hcall hm c _ s w h)
  | .exit id, Q, s, w, h => fun a wa hf hl => wp_exit ⟨s, w, h, hf, hl⟩
  | .ret, Q, s, w, h => fun a wa hf hl => wp_ret ⟨s, w, h, hf, hl⟩
  | .loop _, _, _, _, h => h.elim
  | .rangeFunc .., _, _, _, h => h.elim
  | .scope _, _, _, _, h => h.elim
  | .goto _, _, _, _, h => h.elim
  | .refuse _, _, _, _, h => h.elim

/-! ### forgetting -/
/-- 's' knows no more than 'r'. -/
structure Sub (s r : St) : Prop where
  st : s.t.length = r.t.length
  sg : s.g.length = r.g.length
  val : ∀ i, (s.tag i).ok = true → (r.tag i).ok = true ∧ s.v i = r.v i
  loc : ∀ i k o, s.tag i = .loc k o → ∃ lb, s.L[k]? = some lb ∧ s.v i = .pointer (some ⟨lb.b, o, none⟩)

theorem Fr.sub {s r : St} {a : Act} (h : Fr r a) (hs : Sub s r) : Fr s a :=
  ⟨by rw [hs.st]; exact h.st, by rw [hs.sg]; exact h.sg, h.df, fun i hi => by rw [h.val i (hs.val i hi).1, (hs.val i hi).2], hs.loc⟩

/-- at whatever world the call is in, some of its own blocks forgotten -/
theorem Snd.weaken {C : Ctx} {c : Code} {Q : Cont} {s r : St} {w : World} (hs : Sub s r) (h : ∀ wa, Loc C.N w r.L wa → Loc C.N wa s.L wa ∧ Snd C c Q s wa) : Snd C c Q r w := by
  intro a wa hf hl
  obtain ⟨h1, h2⟩ := h wa hl
  exact h2 a wa (hf.sub hs) h1

/-! ### loops -/
theorem Snd.loop {C : Ctx} {c : Code} {Q : Cont} {s : St} {w : World} (I : St → World → Prop) (μ : St → World → Nat → Prop)
    (h0 : ∃ n, I s w ∧ μ s w n) (round : ∀ s w n, I s w → μ s w n → Snd C c (thenD (fun s' w' => ∃ m, I s' w' ∧ μ s' w' m ∧ m < n) Q) s w) : Snd C (.loop c) Q s w := by
  intro a wa hf hl
  intro b k cs
  have key : ∀ n s w a wa, I s w → μ s w n → Fr s a → Loc C.N w s.L wa →
      ∃ e a' w', PostQ C Q e a' w' ∧ Arrives C.P (lone (b.at a (.code c :: .inLoop c :: k)) cs wa) b k cs e a' w' := by
    intro n
    induction n using Nat.strongRecOn with
    | _ n ih =>
      intro s w a wa hI hμ hf hl
      obtain ⟨e, a₁, w₁, hq, harr⟩ := round s w n hI hμ a wa hf hl b (.inLoop c :: k) cs
      cases e with
      | normal =>
        simp only [PostQ, thenD] at hq
        obtain ⟨s', w', ⟨m, hI', hμ', hlt⟩, hf', hl'⟩ := hq
        obtain ⟨e₂, a₂, w₂, hq₂, harr₂⟩ := ih m hlt s' w' a₁ w₁ hI' hμ' hf' hl'
        exact ⟨e₂, a₂, w₂, hq₂, .of_steps (Steps.trans harr (.one step_inLoop)) harr₂⟩
      | exit id => exact ⟨_, a₁, w₁, by simpa only [PostQ, thenD] using hq, .pass (x := .inLoop c) rfl (fun _ _ => .inl (by simp)) harr⟩
      | goto l => exact hq.elim
      | ret => exact ⟨_, a₁, w₁, by simpa only [PostQ, thenD] using hq, .pass (x := .inLoop c) rfl (fun _ _ => .inl (by simp)) harr⟩
      | panic ch => exact hq.elim
      | outgrown => exact hq.elim
  obtain ⟨n, hI, hμ⟩ := h0
  obtain ⟨e, a', w', hq, harr⟩ := key n s w a wa hI hμ hf hl
  exact ⟨e, a', w', hq, .of_steps (.one step_loop) harr⟩

/-! ### whole functions -/
def resF (tmps : Array Value) : ResultVar → Sem Value
  | .tmp t => pure (tmps.getD t undef)
  | .cell p t => do loadVar t (← asAddr (tmps.getD p undef))

theorem mapM_step {P : Program} {f : ResultVar → Sem Value} {x : ResultVar} {r : List ResultVar} {v : Value} {vs : List Value} {wa : World} (h1 : (f x).run P wa = .ok v wa) (h2 : (r.mapM f).run P wa = .ok vs wa) :
    ((x :: r).mapM f).run P wa = .ok (v :: vs) wa := by
  simp only [List.mapM_cons, Sem.run_bind, h1, h2, Result.andThen_ok, Sem.run_pure]

theorem run_results {C : Ctx} {s : St} {a : Act} {w wa : World} (hf : Fr s a) (hl : Loc C.N w s.L wa) : ∀ (rs : List ResultVar) (k : List Value → Prop), resK C.rep C.P w s rs k →
    ∃ vs, k vs ∧ (rs.mapM (resF a.tmps)).run C.P wa = .ok vs wa
  | [], k, h => ⟨[], h, rfl⟩
  | .tmp t :: r, k, h => by
    simp only [resK] at h
    split at h
    · rename_i hok
      obtain ⟨vs, h1, h2⟩ := run_results hf hl r _ h
      exact ⟨_, h1, mapM_step (by simp only [resF, hf.val t hok, Sem.run_pure]) h2⟩
    · exact h.elim
  | .cell p t :: r, k, h => by
    simp only [resK] at h
    split at h
    · exact h.elim
    · rename_i i o htag
      split at h
      · rename_i lb hlb
        split at h
        · rename_i d hu
          obtain ⟨v, hk, _, hr⟩ := part_run h ⟨d, hu⟩
          obtain ⟨vs, h1, h2⟩ := run_results hf hl r _ hk
          obtain ⟨lb', h3, h4⟩ := hf.loc p i o htag
          rw [hlb] at h3; cases h3
          have h5 : a.tmps.getD p undef = .pointer (some ⟨lb.b, o, none⟩) := by rw [hf.val p (by rw [htag]; rfl), h4]
          exact ⟨_, h1, mapM_step (by simp only [resF, h5, asAddr, Sem.run_bind, Sem.run_pure, Result.andThen_ok]; exact hr wa lb.b lb.T (0, 0) (inv_mem hl.inv (List.mem_of_getElem? hlb))) h2⟩
        · exact h.elim
      · exact h.elim
    · rename_i htag
      split at h
      · rename_i q hq
        obtain ⟨v, hk, hat, hni, hr⟩ := ldL_spec h
        obtain ⟨vs, h1, h2⟩ := run_results hf hl r _ hk
        have h5 : a.tmps.getD p undef = .pointer (some q) := by rw [hf.val p (by rw [htag]; rfl), hq]
        exact ⟨_, h1, mapM_step (by simp only [resF, h5, asAddr, Sem.run_bind, Sem.run_pure, Result.andThen_ok]; exact hr wa (hat.loc hl hni)) h2⟩
      · exact h.elim

theorem results_eq (fn : Func) (tmps : Array Value) : results fn tmps = (do
    let vs ← fn.results.mapM (resF tmps)
    pure (if h : vs.size = 1 then vs[0] else .tuple vs)) := by
  unfold results
  have : (fun r : ResultVar => match r with
    | .tmp t => (pure (tmps.getD t undef) : Sem Value)
    | .cell a t => do loadVar t (← asAddr (tmps.getD a undef))) = resF tmps := by
    funext r; cases r <;> rfl
  exact congrArg (fun f : ResultVar → Sem Value => (fn.results.mapM f >>= fun vs => pure (if h : vs.size = 1 then vs[0] else .tuple vs) : Sem Value)) this

theorem oneOr_eq (vs : List Value) : oneOr vs = if h : vs.toArray.size = 1 then vs.toArray[0] else .tuple vs.toArray := by
  match vs with
  | [] => rfl
  | [v] => rfl
  | v :: u :: r => simp [oneOr]

theorem run_result {C : Ctx} {fn : Func} {s : St} {a : Act} {w wa : World} {Q : Value → World → Prop} (hf : Fr s a) (hl : Loc C.N w s.L wa) (h : resK C.rep C.P w s fn.results.toList fun vs => Reb C.N w s.L (Q (oneOr vs))) :
    ∃ v, (results fn a.tmps).run C.P wa = .ok v wa ∧ Q v wa := by
  obtain ⟨vs, h1, h2⟩ := run_results hf hl _ _ h
  refine ⟨oneOr vs, ?_, h1 wa hl⟩
  rw [oneOr_eq, results_eq]
  have h3 : (fn.results.mapM (resF a.tmps)).run C.P wa = .ok vs.toArray wa := by
    rw [← Array.toArray_toList (xs := fn.results), List.mapM_toArray]
    simp only [Sem.run_map, h2, Result.andThen_ok]
  simp only [Sem.run_bind, h3, Result.andThen_ok]
  rfl

def entry (n : Nat) (args : List Value) : St := { t := args ++ List.replicate (n - args.length) undef, g := List.replicate (args.length + (n - args.length)) .val, L := [] }

/-- A function's body told, its calls are told. -/
theorem calls_of {C : Ctx} {f : FuncId} {fn : Func} {c : Code} {args : List Value} {w : World} {Q : Value → World → Prop} (hf : C.P.funcs[f]? = some fn) (hb : fn.body = some c) (hN : C.N ≤ w.heap.size)
    (h : Snd C c (retD C fn Q) (entry fn.ntmps args) w) : Calls C.P f args.toArray w fun e w' => ∃ v, e = .returned v ∧ Q v w' := by
  refine calls_of_wp hf hb (wp_mono (h _ w ?_ (Loc.nil hN)) ?_)
  · refine ⟨by simp [entry], by simp [entry], rfl, fun i _ => ?_, fun i k o hi => ?_⟩
    · simp only [St.v, entry, Array.getD_eq_getD_getElem?, List.getD_eq_getElem?_getD]
      congr 1
      simp [Array.getElem?_append, List.getElem?_append, Array.getElem?_replicate, List.getElem?_replicate]
    · exfalso
      simp only [St.tag, entry, List.getD_eq_getElem?_getD, List.getElem?_replicate] at hi
      split at hi <;> simp at hi
  · intro e a wa hq
    cases e <;> simp only [PostQ, retD] at hq <;> simp only [bodyPost]
    case normal =>
      obtain ⟨s, w', h1, h2, h3⟩ := hq
      obtain ⟨v, h4, h5⟩ := run_result h2 h3 h1
      exact ⟨h2.df, v, h4, v, rfl, h5⟩
    case ret =>
      obtain ⟨s, w', h1, h2, h3⟩ := hq
      obtain ⟨v, h4, h5⟩ := run_result h2 h3 h1
      exact ⟨h2.df, v, h4, v, rfl, h5⟩
    case exit => obtain ⟨_, _, h1, _⟩ := hq; exact h1
    all_goals exact hq.elim

/-! ## part 9 -/

/-- a slot that is still known: a value, or a block of the call's own -/
inductive Pk where
  | val (i : Nat)
  | loc (i : Nat)

def grabV (s : St) : List Pk → (List Value → List LB → List Nat → Prop) → Prop
  | [], K => K [] [] []
  | .val i :: r, K => match s.tag i with
    | .val => grabV s r fun vs ls ks => K (s.v i :: vs) ls ks
    | _ => False
  | .loc i :: r, K => match s.tag i with
    | .loc k 0 => match s.L[k]? with
      | some lb => grabV s r fun vs ls ks => K vs (lb :: ls) (k :: ks)
      | none => False
    | _ => False

def memN (k : Nat) : List Nat → Bool
  | [] => false
  | j :: r => Nat.beq k j || memN k r
def nodupN : List Nat → Bool
  | [] => true
  | k :: r => !memN k r && nodupN r

def grabK (n : Nat) (spec : List Pk) (s : St) (K : List Value → List LB → Prop) : Prop :=
  match Nat.beq s.t.length n && Nat.beq s.g.length n with
  | true => grabV s spec fun vs ls ks => match nodupN ks with
    | true => K vs ls
    | false => False
  | false => False

def mkF : List Pk → List Value → List LB → Nat → St → St
  | .val i :: r, v :: vs, ls, j, s => mkF r vs ls j (s.put (some i) v .val)
  | .loc i :: r, vs, l :: ls, j, s => mkF r vs ls (j + 1) (s.put (some i) (.pointer (some ⟨l.b, 0, none⟩)) (.loc j 0))
  | _, _, _, _, s => s
def mkS (n : Nat) (spec : List Pk) (vs : List Value) (ls : List LB) : St :=
  mkF spec vs ls 0 { t := List.replicate n undef, g := List.replicate n .dead, L := ls }

/-- what 'grabK' finds -/
inductive GrabR (s : St) : List Pk → List Value → List LB → List Nat → Prop
  | nil : GrabR s [] [] [] []
  | val {i r vs ls ks} : s.tag i = .val → GrabR s r vs ls ks → GrabR s (.val i :: r) (s.v i :: vs) ls ks
  | loc {i k lb r vs ls ks} : s.tag i = .loc k 0 → s.L[k]? = some lb → GrabR s r vs ls ks → GrabR s (.loc i :: r) vs (lb :: ls) (k :: ks)

theorem grabV_spec {s : St} : ∀ {spec : List Pk} {K : List Value → List LB → List Nat → Prop}, grabV s spec K → ∃ vs ls ks, GrabR s spec vs ls ks ∧ K vs ls ks
  | [], K, h => ⟨[], [], [], .nil, h⟩
  | .val i :: r, K, h => by
    simp only [grabV] at h
    split at h
    · rename_i ht
      obtain ⟨vs, ls, ks, h1, h2⟩ := grabV_spec h
      exact ⟨_, _, _, .val ht h1, h2⟩
    · exact h.elim
  | .loc i :: r, K, h => by
    simp only [grabV] at h
    split at h
    · rename_i k ht
      split at h
      · rename_i lb hlb
        obtain ⟨vs, ls, ks, h1, h2⟩ := grabV_spec h
        exact ⟨_, _, _, .loc ht hlb h1, h2⟩
      · exact h.elim
    · exact h.elim

theorem memN_iff {k : Nat} : ∀ {l : List Nat}, memN k l = true ↔ k ∈ l
  | [] => by simp [memN]
  | j :: r => by simp [memN, memN_iff (l := r), Nat.beq_eq]
theorem nodupN_iff : ∀ {l : List Nat}, nodupN l = true → l.Nodup
  | [], _ => List.nodup_nil
  | k :: r, h => by
    simp only [nodupN, Bool.and_eq_true, Bool.not_eq_true'] at h
    refine List.nodup_cons.2 ⟨fun hm => ?_, nodupN_iff h.2⟩
    rw [memN_iff.2 hm] at h; exact absurd h.1 (by simp)

theorem grabR_blk {s : St} {spec : List Pk} {vs : List Value} {ls : List LB} {ks : List Nat} (h : GrabR s spec vs ls ks) : ∀ l ∈ ls, ∃ k ∈ ks, s.L[k]? = some l := by
  induction h with
  | nil => intro l hl; cases hl
  | val _ _ ih => exact ih
  | loc _ hlb _ ih =>
    intro l hl
    cases hl with
    | head => exact ⟨_, by simp, hlb⟩
    | tail _ hr => obtain ⟨k, hk, h2⟩ := ih l hr; exact ⟨k, by simp [hk], h2⟩

theorem grabR_nodup {s : St} {spec : List Pk} {vs : List Value} {ls : List LB} {ks : List Nat} (h : GrabR s spec vs ls ks) (hL : (blk s.L).Nodup) (hk : ks.Nodup) : (blk ls).Nodup := by
  induction h with
  | nil => simp [blk]
  | val _ _ ih => exact ih hk
  | @loc i k lb r vs ls ks _ hlb hr ih =>
    simp only [List.nodup_cons] at hk
    simp only [blk, List.nodup_cons]
    refine ⟨fun hm => ?_, ih hk.2⟩
    obtain ⟨l, hl, he⟩ := mem_blk.1 hm
    obtain ⟨k', hk', hlk⟩ := grabR_blk hr l hl
    have := getElem_unique hL hlk hlb he
    subst this
    exact hk.1 hk'

theorem put_tag_eq {s : St} {d : Nat} {v : Value} {g : Tag} (h : d < s.g.length) : (s.put (some d) v g).tag d = g := by
  simp [St.put, St.tag, List.getD, List.getElem?_set, h]
theorem put_v_eq {s : St} {d : Nat} {v : Value} {g : Tag} (h : d < s.t.length) : (s.put (some d) v g).v d = v := by
  simp [St.put, St.v, List.getD, List.getElem?_set, h]

theorem mkF_sub {s : St} {spec : List Pk} {vs : List Value} {ls : List LB} {ks : List Nat} (h : GrabR s spec vs ls ks) (hs : ∀ i k o, s.tag i = .loc k o → ∃ lb, s.L[k]? = some lb ∧ s.v i = .pointer (some ⟨lb.b, o, none⟩)) :
    ∀ (j : Nat) (r : St), r.t.length = s.t.length → r.g.length = s.g.length → s.t.length = s.g.length → (∀ m l, ls[m]? = some l → r.L[j + m]? = some l) →
      (∀ i, (r.tag i).ok = true → (s.tag i).ok = true ∧ r.v i = s.v i) → (∀ i k o, r.tag i = .loc k o → ∃ lb, r.L[k]? = some lb ∧ r.v i = .pointer (some ⟨lb.b, o, none⟩)) →
      Sub (mkF spec vs ls j r) s ∧ (mkF spec vs ls j r).L = r.L := by
  induction h with
  | nil => intro j r h1 h2 h3 h4 h5 h6; exact ⟨⟨h1, h2, h5, h6⟩, rfl⟩
  | @val i sp vs ls ks ht hr ih =>
    intro j r h1 h2 h3 h4 h5 h6
    simp only [mkF]
    have hil : i < r.g.length := by
      rcases Nat.lt_or_ge i s.g.length with h' | h'
      · omega
      · simp [St.tag, List.getD, List.getElem?_eq_none h'] at ht
    have := ih j (r.put (some i) (s.v i) .val) (by simpa [St.put] using h1) (by simpa [St.put] using h2) h3 (fun m l hm => by rw [put_L]; exact h4 m l hm) (fun k hk => ?_) (fun k k' o hk => ?_)
    · rw [put_L] at this; exact this
    · by_cases hki : k = i
      · subst hki
        rw [put_v_eq (by omega), ht]; exact ⟨rfl, rfl⟩
      · rw [put_tag_ne hki] at hk; rw [put_v_ne hki]; exact h5 k hk
    · by_cases hki : k = i
      · subst hki; rw [put_tag_eq hil] at hk; cases hk
      · rw [put_tag_ne hki] at hk; rw [put_v_ne hki, put_L]; exact h6 k k' o hk
  | @loc i k lb sp vs ls ks ht hlb hr ih =>
    intro j r h1 h2 h3 h4 h5 h6
    simp only [mkF]
    have hil : i < r.g.length := by
      rcases Nat.lt_or_ge i s.g.length with h' | h'
      · omega
      · simp [St.tag, List.getD, List.getElem?_eq_none h'] at ht
    have := ih (j + 1) (r.put (some i) (.pointer (some ⟨lb.b, 0, none⟩)) (.loc j 0)) (by simpa [St.put] using h1) (by simpa [St.put] using h2) h3 (fun m l hm => by rw [put_L, show j + 1 + m = j + (m + 1) by omega]; exact h4 (m + 1) l (by simpa using hm)) (fun q hq => ?_) (fun q k' o hq => ?_)
    · rw [put_L] at this; exact this
    · by_cases hqi : q = i
      · subst hqi
        obtain ⟨lb', h7, h8⟩ := hs q k 0 ht
        rw [hlb] at h7; cases h7
        rw [put_v_eq (by omega), h8, ht]; exact ⟨rfl, rfl⟩
      · rw [put_tag_ne hqi] at hq; rw [put_v_ne hqi]; exact h5 q hq
    · by_cases hqi : q = i
      · subst hqi
        rw [put_tag_eq hil] at hq
        cases hq
        exact ⟨lb, by rw [put_L]; exact h4 0 lb rfl, put_v_eq (by omega)⟩
      · rw [put_tag_ne hqi] at hq; rw [put_v_ne hqi, put_L]; exact h6 q k' o hq

/-- What is grabbed is enough to go on from. -/
theorem Snd.grab {C : Ctx} {c : Code} {Q : Cont} {s : St} {w : World} {n : Nat} {spec : List Pk} {K : List Value → List LB → Prop} (h : grabK n spec s K)
    (hk : ∀ vs ls, K vs ls → (∀ wa, Loc C.N w s.L wa → Loc C.N wa ls wa) → ∀ wa, Loc C.N w s.L wa → Snd C c Q (mkS n spec vs ls) wa) : Snd C c Q s w := by
  intro a wa hf hl
  unfold grabK at h
  split at h
  · rename_i hlen
    simp only [Bool.and_eq_true, Nat.beq_eq] at hlen
    obtain ⟨vs, ls, ks, h1, h2⟩ := grabV_spec h
    split at h2
    · rename_i hnd
      have hloc : ∀ wa, Loc C.N w s.L wa → Loc C.N wa ls wa := fun wa hl => by
        refine Loc.refl (inv_of fun l hm => ?_) (grabR_nodup h1 hl.nodup (nodupN_iff hnd)) (fun b hb => ?_) (Nat.le_trans hl.base hl.touch.size)
        · obtain ⟨k, _, h3⟩ := grabR_blk h1 l hm
          exact inv_mem hl.inv (List.mem_of_getElem? h3)
        · obtain ⟨l, hm, rfl⟩ := mem_blk.1 hb
          obtain ⟨k, _, h3⟩ := grabR_blk h1 l hm
          exact hl.low _ (mem_blk.2 ⟨l, List.mem_of_getElem? h3, rfl⟩)
      have hsub := mkF_sub h1 hf.loc 0 { t := List.replicate n undef, g := List.replicate n .dead, L := ls } (by simp [hlen.1]) (by simp [hlen.2]) (by omega) (fun m l hm => by simpa using hm) (fun i hi => by
        exfalso
        simp only [St.tag, List.getD_eq_getElem?_getD, List.getElem?_replicate] at hi
        split at hi <;> simp [Tag.ok] at hi) (fun i k o hi => by
        exfalso
        simp only [St.tag, List.getD_eq_getElem?_getD, List.getElem?_replicate] at hi
        split at hi <;> simp at hi)
      have h3 := hk vs ls h2 hloc wa hl
      refine h3 a wa (hf.sub hsub.1) ?_
      rw [show (mkS n spec vs ls).L = ls from hsub.2]
      exact hloc wa hl
    · exact h2.elim
  · exact h.elim

/-- A loop: 'c' is what its rounds leave alone, 'x' what they turn. -/
def LoopC {κ τ : Type} (N : Nat) (w : World) (L : List LB) (c : κ) (x : τ) (body : (κ → τ → World → Prop) → κ → τ → World → Prop) : Prop :=
  ∃ (I : Nat → τ → World → Prop) (m0 : Nat), Reb N w L (I m0 x) ∧ ∀ m x wa, I m x wa → body (fun c' x' w' => c' = c ∧ ∃ m', m' < m ∧ I m' x' w') c x wa
/-- the measure is told by what the rounds turn -/
theorem LoopC.mk {κ τ : Type} {N : Nat} {w : World} {L : List LB} {c : κ} {x : τ} {body : (κ → τ → World → Prop) → κ → τ → World → Prop} (I : τ → World → Prop) (μ : τ → Nat) (h0 : Reb N w L (I x))
    (h : ∀ x wa, I x wa → body (fun c' x' w' => c' = c ∧ I x' w' ∧ μ x' < μ x) c x wa) : LoopC N w L c x body := by
  refine ⟨fun m x w => I x w ∧ μ x = m, μ x, fun wa hl => ⟨h0 wa hl, rfl⟩, ?_⟩
  rintro m x wa ⟨hI, rfl⟩
  have e : (fun (c' : κ) (x' : τ) (w' : World) => c' = c ∧ ∃ m', m' < μ x ∧ (I x' w' ∧ μ x' = m')) = (fun c' x' w' => c' = c ∧ I x' w' ∧ μ x' < μ x) := by
    funext c' x' w'
    apply propext
    constructor
    · rintro ⟨h1, m', h2, h3, rfl⟩
      exact ⟨h1, h3, h2⟩
    · rintro ⟨h1, h2, h3⟩
      exact ⟨h1, _, h3, h2, rfl⟩
  rw [e]
  exact h x wa hI

/-- the loop's head, come to -/
def HeadE {κ τ : Type} (N : Nat) (n : Nat) (spec : List Pk) (D : (κ → τ → Prop) → List Value → List LB → Prop) (body : (κ → τ → World → Prop) → κ → τ → World → Prop) : St → World → Prop :=
  fun s w => grabK n spec s (D fun c x => LoopC N w s.L c x body)
/-- the loop's head, come to again -/
def HeadK {κ τ : Type} (N : Nat) (n : Nat) (spec : List Pk) (D : (κ → τ → Prop) → List Value → List LB → Prop) (K : κ → τ → World → Prop) : St → World → Prop :=
  fun s w => grabK n spec s (D fun c x => Reb N w s.L (K c x))

theorem grabK_ex {n : Nat} {spec : List Pk} {s : St} {K : List Value → List LB → Prop} (h : grabK n spec s K) : ∃ vs ls, K vs ls ∧ ∀ K' : List Value → List LB → Prop, K' vs ls → grabK n spec s K' := by
  unfold grabK at h
  split at h
  · rename_i hlen
    obtain ⟨vs, ls, ks, h1, h2⟩ := grabV_spec h
    split at h2
    · rename_i hnd
      refine ⟨vs, ls, h2, fun K' hk => ?_⟩
      unfold grabK
      rw [hlen]
      have key : ∀ (sp : List Pk) (vs : List Value) (ls : List LB) (ks : List Nat) (K : List Value → List LB → List Nat → Prop), GrabR s sp vs ls ks → K vs ls ks → grabV s sp K := by
        intro sp vs ls ks K hg
        induction hg generalizing K with
        | nil => intro hk; exact hk
        | val ht _ ih => intro hk; simp only [grabV, ht]; exact ih _ hk
        | loc ht hlb _ ih => intro hk; simp only [grabV, ht, hlb]; exact ih _ hk
      refine key _ _ _ _ _ h1 ?_
      rw [hnd]; exact hk
    · exact h2.elim
  · exact h.elim

theorem Snd.mono' {C : Ctx} {c : Code} {Q R : Cont} {s : St} {w : World} (h : Snd C c Q s w) (hq : ∀ x s w wa, Loc C.N w s.L wa → Q x s w → R x s w) : Snd C c R s w := by
  intro a wa hf hl
  refine wp_mono (h a wa hf hl) fun e a' w' hp => ?_
  cases e <;> simp only [PostQ] at * <;> first
    | exact hp.elim
    | (obtain ⟨s', w'', h1, h2, h3⟩ := hp; exact ⟨s', w'', hq _ _ _ _ h3 h1, h2, h3⟩)

theorem Snd.loopC {C : Ctx} {κ τ : Type} {c : Code} {Q : Cont} {n : Nat} {spec : List Pk} {D : (κ → τ → Prop) → List Value → List LB → Prop} {body : (κ → τ → World → Prop) → κ → τ → World → Prop}
    (enc : κ → τ → List Value × List LB) (hD : ∀ K vs ls, D K vs ls → ∃ c x, (vs, ls) = enc c x ∧ K c x) 
    (round : ∀ K k x w, body K k x w → Snd C c (thenD (HeadK C.N n spec D K) Q) (mkS n spec (enc k x).1 (enc k x).2) w)
    {s : St} {w : World} (h : HeadE C.N n spec D body s w) : Snd C (.loop c) Q s w := by
  obtain ⟨vs, ls, hd, hgr⟩ := grabK_ex h
  obtain ⟨c0, x0, he, I, m0, h0, hr⟩ := hD _ _ _ hd
  refine Snd.loop (fun _ _ => True) (fun s w M => ∃ x, grabK n spec s (fun vs ls => (vs, ls) = enc c0 x) ∧ Reb C.N w s.L (fun w' => ∃ m, m ≤ M ∧ I m x w')) ⟨m0, trivial, x0, hgr _ he, fun wa hl => ⟨m0, Nat.le_refl _, h0 wa hl⟩⟩ ?_
  rintro s w M - ⟨x, hg, hI⟩
  refine Snd.grab hg fun vs ls he hloc wa hl => ?_
  have e1 : vs = (enc c0 x).1 := by rw [← he]
  have e2 : ls = (enc c0 x).2 := by rw [← he]
  subst e1; subst e2
  obtain ⟨m, hm, hIm⟩ := hI wa hl
  refine Snd.mono' (round _ c0 x wa (hr m x wa hIm)) fun e s' w' wb hlb hq => ?_
  cases e with
  | normal =>
    simp only [thenD] at hq ⊢
    obtain ⟨vs', ls', hd', hgr'⟩ := grabK_ex hq
    obtain ⟨c', x', he', hR⟩ := hD _ _ _ hd'
    obtain ⟨rfl, m1, h1, _⟩ := hR wb hlb
    exact ⟨m - 1, trivial, ⟨x', hgr' _ he', fun wc hlc => by
      obtain ⟨_, m2, h2, h3⟩ := hR wc hlc
      exact ⟨m2, by omega, h3⟩⟩, by omega⟩
  | exit id => exact hq
  | ret => exact hq

def cL : Code → Code
  | .seq a _ => a
  | .block _ c => c
  | .loop c => c
  | .cond _ a _ => a
  | c => c
def cR : Code → Code
  | .seq _ b => b
  | .cond _ _ b => b
  | c => c
def bodyOf (fn : Func) : Code := match fn.body with | some c => c | none => .skip

theorem mpr' {p q : Prop} (e : p = q) (h : q) : p := by rw [e]; exact h
theorem Snd.cast {C : Ctx} {c c' : Code} {Q : Cont} {s : St} {w : World} (e : c = c') (h : Snd C c' Q s w) : Snd C c Q s w := by subst e; exact h
theorem ifb_t {b : Bool} {p q : Prop} (h : IfB b p q) (hb : b = true) : p := by subst hb; exact h
theorem ifb_f {b : Bool} {p q : Prop} (h : IfB b p q) (hb : b = false) : q := by subst hb; exact h

/-! ## part 10 -/

abbrev VP := Value → World → Prop

/-- how values of a struct's type are told, and read back -/
structure RepD where
  α : Type
  cells : α → List Value
  dec : List Value → (α → Prop) → Prop
  spec : ∀ {l k}, dec l k → ∃ x, l = cells x ∧ k x

/-- the sorts of what is known in a slot -/
inductive Sh where
  | b | i (k : IntKind) | s | p | o | l | m | g (r : RepD)

def Sh.T : Sh → Type
  | .b => Bool
  | .i _ => Int
  | .s => ByteArray
  | .p => Addr
  | .o => Option Addr
  | .l => Sl
  | .m => Option Nat
  | .g r => r.α

def Sh.enc : (σ : Sh) → σ.T → Value
  | .b, x => .bool x
  | .i k, x => .int k x
  | .s, x => .string x
  | .p, x => .pointer (some x)
  | .o, x => .pointer x
  | .l, x => .slice (Sl.a x) (Sl.n x) (Sl.c x)
  | .m, x => .map x
  | .g r, x => .agg (List.toArray (r.cells x))
def Sh.encC : (σ : Sh) → σ.T → List Value
  | .g r, x => r.cells x
  | .b, x => [.bool x]
  | .i k, x => [.int k x]
  | .s, x => [.string x]
  | .p, x => [.pointer (some x)]
  | .o, x => [.pointer x]
  | .l, x => [.slice (Sl.a x) (Sl.n x) (Sl.c x)]
  | .m, x => [.map x]

def Sh.dec : (σ : Sh) → Value → (σ.T → Prop) → Prop
  | .b, v, K => match v with | .bool x => K x | _ => False
  | .i k, v, K => match v with | .int k' x => (match decide (k = k') with | true => K x | false => False) | _ => False
  | .s, v, K => match v with | .string x => K x | _ => False
  | .p, v, K => match v with | .pointer (some x) => K x | _ => False
  | .o, v, K => match v with | .pointer x => K x | _ => False
  | .l, v, K => match v with | .slice a n c => K (Sl.mk a n c) | _ => False
  | .m, v, K => match v with | .map x => K x | _ => False
  | .g r, v, K => match v with | .agg cs => r.dec cs.toList K | _ => False
def Sh.decC : (σ : Sh) → List Value → (σ.T → Prop) → Prop
  | .g r, cs, K => r.dec cs K
  | .b, cs, K => match cs with | [v] => Sh.dec .b v K | _ => False
  | .i k, cs, K => match cs with | [v] => Sh.dec (.i k) v K | _ => False
  | .s, cs, K => match cs with | [v] => Sh.dec .s v K | _ => False
  | .p, cs, K => match cs with | [v] => Sh.dec .p v K | _ => False
  | .o, cs, K => match cs with | [v] => Sh.dec .o v K | _ => False
  | .l, cs, K => match cs with | [v] => Sh.dec .l v K | _ => False
  | .m, cs, K => match cs with | [v] => Sh.dec .m v K | _ => False

theorem Sh.dec_spec : ∀ {σ : Sh} {v : Value} {K : σ.T → Prop}, σ.dec v K → ∃ x, v = σ.enc x ∧ K x
  | .b, v, K, h => by
    simp only [Sh.dec] at h
    split at h
    · exact ⟨_, rfl, h⟩
    · exact h.elim
  | .i k, v, K, h => by
    simp only [Sh.dec] at h
    split at h
    · split at h
      · rename_i hk
        have := of_decide_eq_true hk
        subst this
        exact ⟨_, rfl, h⟩
      · exact h.elim
    · exact h.elim
  | .s, v, K, h => by
    simp only [Sh.dec] at h
    split at h
    · exact ⟨_, rfl, h⟩
    · exact h.elim
  | .p, v, K, h => by
    simp only [Sh.dec] at h
    split at h
    · exact ⟨_, rfl, h⟩
    · exact h.elim
  | .o, v, K, h => by
    simp only [Sh.dec] at h
    split at h
    · exact ⟨_, rfl, h⟩
    · exact h.elim
  | .l, v, K, h => by
    simp only [Sh.dec] at h
    split at h
    · exact ⟨_, rfl, h⟩
    · exact h.elim
  | .m, v, K, h => by
    simp only [Sh.dec] at h
    split at h
    · exact ⟨_, rfl, h⟩
    · exact h.elim
  | .g r, v, K, h => by
    simp only [Sh.dec] at h
    split at h
    · rename_i cs
      obtain ⟨x, e, h'⟩ := r.spec h
      exact ⟨x, by show Value.agg cs = .agg (List.toArray (r.cells x)); rw [← e], h'⟩
    · exact h.elim
theorem one_spec {σ : Sh} {cs : List Value} {K : σ.T → Prop} (h : match cs with | [v] => σ.dec v K | _ => False) : ∃ x, cs = [σ.enc x] ∧ K x := by
  split at h
  · obtain ⟨x, rfl, h'⟩ := Sh.dec_spec h
    exact ⟨x, rfl, h'⟩
  · exact h.elim
theorem Sh.decC_spec : ∀ {σ : Sh} {cs : List Value} {K : σ.T → Prop}, σ.decC cs K → ∃ x, cs = σ.encC x ∧ K x
  | .g r, cs, K, h => r.spec h
  | .b, cs, K, h => one_spec (σ := .b) h
  | .i k, cs, K, h => one_spec (σ := .i k) h
  | .s, cs, K, h => one_spec (σ := .s) h
  | .p, cs, K, h => one_spec (σ := .p) h
  | .o, cs, K, h => one_spec (σ := .o) h
  | .l, cs, K, h => one_spec (σ := .l) h
  | .m, cs, K, h => one_spec (σ := .m) h

inductive It where
  | v (i : Nat) (σ : Sh)
  | c (i : Nat) (σ : Sh)
def pks : List It → List Pk
  | [] => []
  | .v i _ :: r => .val i :: pks r
  | .c i _ :: r => .loc i :: pks r
def Cur : List It → Type
  | [] => World → Prop
  | .v _ σ :: r => σ.T → Cur r
  | .c _ σ :: r => Nat → σ.T → Nat → Cur r
def decG : (I : List It) → Cur I → List Value → List LB → ((World → Prop) → Prop) → Prop
  | [], C, vs, ls, K => match vs, ls with | [], [] => K C | _, _ => False
  | .v _ σ :: r, C, vs, ls, K => match vs with | x :: vs => σ.dec x fun a => decG r (C a) vs ls K | [] => False
  | .c _ σ :: r, C, vs, ls, K => match ls with | lb :: ls => σ.decC lb.cs fun a => decG r (C lb.b a lb.T) vs ls K | [] => False
def AllG : (I : List It) → Cur I → (List Value → List LB → World → Prop) → Prop
  | [], C, P => ∀ w : World, C w → P [] [] w
  | .v _ σ :: r, C, P => ∀ a : σ.T, AllG r (C a) fun vs ls w => P (σ.enc a :: vs) ls w
  | .c _ σ :: r, C, P => ∀ (b : Nat) (a : σ.T) (T : Nat), AllG r (C b a T) fun vs ls w => P vs (⟨b, σ.encC a, T⟩ :: ls) w
theorem decG_spec : ∀ {I : List It} {C : Cur I} {vs : List Value} {ls : List LB} {K : (World → Prop) → Prop} {P : List Value → List LB → World → Prop}, decG I C vs ls K → AllG I C P → ∃ C', K C' ∧ ∀ w, C' w → P vs ls w
  | [], C, vs, ls, K, P, h, g => by
    simp only [decG] at h
    split at h
    · exact ⟨C, h, g⟩
    · exact h.elim
  | .v i σ :: r, C, vs, ls, K, P, h, g => by
    simp only [decG] at h
    split at h
    · rename_i vs
      obtain ⟨a, rfl, h'⟩ := Sh.dec_spec h
      exact decG_spec (P := fun vs ls w => P (σ.enc a :: vs) ls w) h' (g a)
    · exact h.elim
  | .c i σ :: r, C, vs, ls, K, P, h, g => by
    simp only [decG] at h
    split at h
    · rename_i lb ls
      obtain ⟨b, cs, T⟩ := lb
      obtain ⟨a, rfl, h'⟩ := Sh.decC_spec h
      exact decG_spec (P := fun vs ls w => P vs (⟨b, σ.encC a, T⟩ :: ls) w) h' (g b a T)
    · exact h.elim

/-- ways meet: what is known is decoded, and handed on -/
def HG (N n : Nat) (I : List It) (C : Cur I) : St → World → Prop := fun s w => grabK n (pks I) s fun vs ls => decG I C vs ls fun c => Reb N w s.L c
theorem Snd.HG {X : Ctx} {code : Code} {Q : Cont} {n : Nat} {I : List It} {C : Cur I} {s : St} {w : World} (h : HG X.N n I C s w) (hk : AllG I C fun vs ls wa => Snd X code Q (mkS n (pks I) vs ls) wa) : Snd X code Q s w := by
  refine Snd.grab h (fun vs ls hd hloc wa hl => ?_)
  obtain ⟨C', h1, h2⟩ := decG_spec hd hk
  exact h2 wa (h1 wa hl)
theorem sq {X : Ctx} {c : Code} {Q : Cont} {s : St} {w : World} (H : St → World → Prop) (p : Snd X (cL c) (thenD H Q) s w) (T : ∀ s w, H s w → Snd X (cR c) Q s w) (e : c = .seq (cL c) (cR c) := by kernel_rfl) : Snd X c Q s w := Snd.cast e (Snd.seq H p T)
theorem bk {X : Ctx} {c : Code} {Q : Cont} {s : St} {w : World} (id : Nat) (p : Snd X (cL c) (inBlockD id Q) s w) (e : c = .block id (cL c) := by kernel_rfl) : Snd X c Q s w := Snd.cast e (Snd.block p)

attribute [irreducible] den grabK mkS entry retD HeadE HeadK
end Go.Sh
