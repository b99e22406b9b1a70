/-
  No cell of these rows narrows 'for every input' (looked for: loops, veiled, ifaces, maps, wideKeys, modest, calm, conditions, laid).
  DERIVED. THE GIVEN ROWS OF THIS SEAT. 6 by the template 'for every input the law returns true; each argument reads behind the call as it read before'; 0 by the template 'total and deterministic' (their statements: YtcligpfkmnlhnaaTotals.lean).
  GIVEN WITH THE SEED: the statements are not yours to turn. If you find one false, say at which input.
  Laid BY PROGRAM, IN A SANDBOX (cutbox-rows.mjs): the forced cells as the released guide's own fill.sh prints them over the translation 4b95041227e8eb98… (all of the seat's roots in one cut). By AI agents, Wed Nov 11 2026. No macro, syntax, notation, axiom, sorry.
-/
import Derived.Test.YtcligpfkmnlhnaaChecked
import GoSem.Claim
import GoSem.ClaimJoined
import GoSem.ClaimMapViews
import Derived.JoinedTies
import Derived.KernelRfl
namespace Go.Proofs.Ytcligpfkmnlhnaa
/- THE CELL 'sum', in the pinned program and in every row, IS THE sha256 OF THE DUMP (.gsa) THAT YtcligpfkmnlhnaaProg.lean LOADS. Nothing in Lean hashes anything: it is a label: what it is worth is what the hold of that sum in a sandbox is worth. -/
noncomputable def Try.pinned : Pinned := { name := "ytcligpfkmnlhnaa", sum := "4b95041227e8eb987b2092a361c21a0779f145005db48dba3b2c3d0e995351b0", checked := Try.checked }
namespace Rows
def none {H : Type} : Left H := { results := [], args := [] }

/-- 'cellplanelaw26.SessionReplies': WHATEVER THE INPUT: true; the input reads as it did. -/
def sessionRepliesSpec : ChangeSpec := { name := "sessionReplies", fn := fun _ => fun
  | [d] => { results := [.lit (.bool true)], args := [d] }
  | _ => none }
def sessionRepliesRow : OpenClaim := { program := "ytcligpfkmnlhnaa", sum := "4b95041227e8eb987b2092a361c21a0779f145005db48dba3b2c3d0e995351b0", func := "cellplane/cellplanelaw26.SessionReplies", spec := "sessionReplies", apart := false }
def SessionRepliesSaid : Prop := sessionRepliesRow.holds Try.pinned (OpenSpec.ofChange sessionRepliesSpec)

/-- ITS FALSE NEIGHBOUR: 'it returns false'. Refute it at one input. -/
def sessionRepliesWrong : ChangeSpec := { name := "sessionReplies", fn := fun _ => fun
  | [d] => { results := [.lit (.bool false)], args := [d] }
  | _ => none }
def SessionRepliesWrongFalsely : Prop := sessionRepliesRow.holds Try.pinned (OpenSpec.ofChange sessionRepliesWrong)

/-- 'cellplanelaw26.SessionOnce': WHATEVER THE INPUT: true; the input reads as it did. -/
def sessionOnceSpec : ChangeSpec := { name := "sessionOnce", fn := fun _ => fun
  | [d1, d2] => { results := [.lit (.bool true)], args := [d1, d2] }
  | _ => none }
def sessionOnceRow : OpenClaim := { program := "ytcligpfkmnlhnaa", sum := "4b95041227e8eb987b2092a361c21a0779f145005db48dba3b2c3d0e995351b0", func := "cellplane/cellplanelaw26.SessionOnce", spec := "sessionOnce", apart := false }
def SessionOnceSaid : Prop := sessionOnceRow.holds Try.pinned (OpenSpec.ofChange sessionOnceSpec)

/-- ITS FALSE NEIGHBOUR: 'it returns false'. Refute it at one input. -/
def sessionOnceWrong : ChangeSpec := { name := "sessionOnce", fn := fun _ => fun
  | [d1, d2] => { results := [.lit (.bool false)], args := [d1, d2] }
  | _ => none }
def SessionOnceWrongFalsely : Prop := sessionOnceRow.holds Try.pinned (OpenSpec.ofChange sessionOnceWrong)

/-- 'cellplanelaw26.SessionApart': WHATEVER THE INPUT: true; the input reads as it did. -/
def sessionApartSpec : ChangeSpec := { name := "sessionApart", fn := fun _ => fun
  | [d1, d2, d3] => { results := [.lit (.bool true)], args := [d1, d2, d3] }
  | _ => none }
def sessionApartRow : OpenClaim := { program := "ytcligpfkmnlhnaa", sum := "4b95041227e8eb987b2092a361c21a0779f145005db48dba3b2c3d0e995351b0", func := "cellplane/cellplanelaw26.SessionApart", spec := "sessionApart", apart := false }
def SessionApartSaid : Prop := sessionApartRow.holds Try.pinned (OpenSpec.ofChange sessionApartSpec)

/-- ITS FALSE NEIGHBOUR: 'it returns false'. Refute it at one input. -/
def sessionApartWrong : ChangeSpec := { name := "sessionApart", fn := fun _ => fun
  | [d1, d2, d3] => { results := [.lit (.bool false)], args := [d1, d2, d3] }
  | _ => none }
def SessionApartWrongFalsely : Prop := sessionApartRow.holds Try.pinned (OpenSpec.ofChange sessionApartWrong)

/-- 'cellplanelaw26.SessionApplies': WHATEVER THE INPUT: true; the input reads as it did. -/
def sessionAppliesSpec : ChangeSpec := { name := "sessionApplies", fn := fun _ => fun
  | [d1, d2, d3, d4] => { results := [.lit (.bool true)], args := [d1, d2, d3, d4] }
  | _ => none }
def sessionAppliesRow : OpenClaim := { program := "ytcligpfkmnlhnaa", sum := "4b95041227e8eb987b2092a361c21a0779f145005db48dba3b2c3d0e995351b0", func := "cellplane/cellplanelaw26.SessionApplies", spec := "sessionApplies", apart := false }
def SessionAppliesSaid : Prop := sessionAppliesRow.holds Try.pinned (OpenSpec.ofChange sessionAppliesSpec)

/-- ITS FALSE NEIGHBOUR: 'it returns false'. Refute it at one input. -/
def sessionAppliesWrong : ChangeSpec := { name := "sessionApplies", fn := fun _ => fun
  | [d1, d2, d3, d4] => { results := [.lit (.bool false)], args := [d1, d2, d3, d4] }
  | _ => none }
def SessionAppliesWrongFalsely : Prop := sessionAppliesRow.holds Try.pinned (OpenSpec.ofChange sessionAppliesWrong)

/-- 'cellplanelaw26.SessionFolds': WHATEVER THE INPUT: true; the input reads as it did. -/
def sessionFoldsSpec : ChangeSpec := { name := "sessionFolds", fn := fun _ => fun
  | [d1, d2, d3] => { results := [.lit (.bool true)], args := [d1, d2, d3] }
  | _ => none }
def sessionFoldsRow : OpenClaim := { program := "ytcligpfkmnlhnaa", sum := "4b95041227e8eb987b2092a361c21a0779f145005db48dba3b2c3d0e995351b0", func := "cellplane/cellplanelaw26.SessionFolds", spec := "sessionFolds", apart := false }
def SessionFoldsSaid : Prop := sessionFoldsRow.holds Try.pinned (OpenSpec.ofChange sessionFoldsSpec)

/-- ITS FALSE NEIGHBOUR: 'it returns false'. Refute it at one input. -/
def sessionFoldsWrong : ChangeSpec := { name := "sessionFolds", fn := fun _ => fun
  | [d1, d2, d3] => { results := [.lit (.bool false)], args := [d1, d2, d3] }
  | _ => none }
def SessionFoldsWrongFalsely : Prop := sessionFoldsRow.holds Try.pinned (OpenSpec.ofChange sessionFoldsWrong)

/-- 'cellplanelaw26.SessionCopies': WHATEVER THE INPUT: true; the input reads as it did. -/
def sessionCopiesSpec : ChangeSpec := { name := "sessionCopies", fn := fun _ => fun
  | [d1, d2, d3] => { results := [.lit (.bool true)], args := [d1, d2, d3] }
  | _ => none }
def sessionCopiesRow : OpenClaim := { program := "ytcligpfkmnlhnaa", sum := "4b95041227e8eb987b2092a361c21a0779f145005db48dba3b2c3d0e995351b0", func := "cellplane/cellplanelaw26.SessionCopies", spec := "sessionCopies", apart := false }
def SessionCopiesSaid : Prop := sessionCopiesRow.holds Try.pinned (OpenSpec.ofChange sessionCopiesSpec)

/-- ITS FALSE NEIGHBOUR: 'it returns false'. Refute it at one input. -/
def sessionCopiesWrong : ChangeSpec := { name := "sessionCopies", fn := fun _ => fun
  | [d1, d2, d3] => { results := [.lit (.bool false)], args := [d1, d2, d3] }
  | _ => none }
def SessionCopiesWrongFalsely : Prop := sessionCopiesRow.holds Try.pinned (OpenSpec.ofChange sessionCopiesWrong)

/- THE SECOND FORM. 'bulk': how many values and letters a reading holds, each counted each time it is reached (what is shared counts as often as it is met; a slice's spare places count too). A statement '..UptoSaid' is the law's where the arguments, and the package variables that the reading takes, are together of bulk at most 1048576: NARROWER than '..Said'. Prove '..Said' where nothing that the law and all that it calls make is longer than what came in: it says more and counts as full. Else prove '..UptoSaid'. A law counts once. -/
mutual
def uptoBulk {H : Type} : DataW H → Nat
  | .lit (.string bytes) => bytes.length + 1
  | .lit _ => 1
  | .nil => 1
  | .ptr d => uptoBulk d + 1
  | .slice elems spare => uptoBulkAll elems + uptoBulkAll spare + 1
  | .agg parts => uptoBulkAll parts + 1
  | .iface _ d => uptoBulk d + 1
  | .map entries => uptoBulkEntries entries + 1
  | .held _ => 1
def uptoBulkAll {H : Type} : List (DataW H) → Nat
  | [] => 0
  | d :: r => uptoBulk d + uptoBulkAll r
def uptoBulkEntries {H : Type} : List (Lit × DataW H) → Nat
  | [] => 0
  | x :: r => uptoBulkEntry x + uptoBulkEntries r
def uptoBulkEntry {H : Type} : Lit × DataW H → Nat
  | (.string bytes, d) => bytes.length + uptoBulk d + 1
  | (_, d) => uptoBulk d + 1
 end
def uptoSmall : (H : Type) → List (DataW H) → Bool := fun _ ds => decide (uptoBulkAll ds ≤ 1048576)
def OpenSpec.upto (s : _root_.Go.ChangeSpec) : _root_.Go.OpenSpec := { _root_.Go.OpenSpec.ofChange s with cond := some uptoSmall }

/-- 'cellplanelaw26.SessionReplies', WHERE WHAT IT READS IS OF BULK AT MOST 1048576: true; the input reads as it did. -/
def sessionRepliesUptoRow : OpenClaim := { program := "ytcligpfkmnlhnaa", sum := "4b95041227e8eb987b2092a361c21a0779f145005db48dba3b2c3d0e995351b0", func := "cellplane/cellplanelaw26.SessionReplies", spec := "sessionReplies", apart := false, narrowed := true }
def SessionRepliesUptoSaid : Prop := sessionRepliesUptoRow.holds Try.pinned (OpenSpec.upto sessionRepliesSpec)

/-- 'cellplanelaw26.SessionOnce', WHERE WHAT IT READS IS OF BULK AT MOST 1048576: true; the input reads as it did. -/
def sessionOnceUptoRow : OpenClaim := { program := "ytcligpfkmnlhnaa", sum := "4b95041227e8eb987b2092a361c21a0779f145005db48dba3b2c3d0e995351b0", func := "cellplane/cellplanelaw26.SessionOnce", spec := "sessionOnce", apart := false, narrowed := true }
def SessionOnceUptoSaid : Prop := sessionOnceUptoRow.holds Try.pinned (OpenSpec.upto sessionOnceSpec)

/-- 'cellplanelaw26.SessionApart', WHERE WHAT IT READS IS OF BULK AT MOST 1048576: true; the input reads as it did. -/
def sessionApartUptoRow : OpenClaim := { program := "ytcligpfkmnlhnaa", sum := "4b95041227e8eb987b2092a361c21a0779f145005db48dba3b2c3d0e995351b0", func := "cellplane/cellplanelaw26.SessionApart", spec := "sessionApart", apart := false, narrowed := true }
def SessionApartUptoSaid : Prop := sessionApartUptoRow.holds Try.pinned (OpenSpec.upto sessionApartSpec)

/-- 'cellplanelaw26.SessionApplies', WHERE WHAT IT READS IS OF BULK AT MOST 1048576: true; the input reads as it did. -/
def sessionAppliesUptoRow : OpenClaim := { program := "ytcligpfkmnlhnaa", sum := "4b95041227e8eb987b2092a361c21a0779f145005db48dba3b2c3d0e995351b0", func := "cellplane/cellplanelaw26.SessionApplies", spec := "sessionApplies", apart := false, narrowed := true }
def SessionAppliesUptoSaid : Prop := sessionAppliesUptoRow.holds Try.pinned (OpenSpec.upto sessionAppliesSpec)

/-- 'cellplanelaw26.SessionFolds', WHERE WHAT IT READS IS OF BULK AT MOST 1048576: true; the input reads as it did. -/
def sessionFoldsUptoRow : OpenClaim := { program := "ytcligpfkmnlhnaa", sum := "4b95041227e8eb987b2092a361c21a0779f145005db48dba3b2c3d0e995351b0", func := "cellplane/cellplanelaw26.SessionFolds", spec := "sessionFolds", apart := false, narrowed := true }
def SessionFoldsUptoSaid : Prop := sessionFoldsUptoRow.holds Try.pinned (OpenSpec.upto sessionFoldsSpec)

/-- 'cellplanelaw26.SessionCopies', WHERE WHAT IT READS IS OF BULK AT MOST 1048576: true; the input reads as it did. -/
def sessionCopiesUptoRow : OpenClaim := { program := "ytcligpfkmnlhnaa", sum := "4b95041227e8eb987b2092a361c21a0779f145005db48dba3b2c3d0e995351b0", func := "cellplane/cellplanelaw26.SessionCopies", spec := "sessionCopies", apart := false, narrowed := true }
def SessionCopiesUptoSaid : Prop := sessionCopiesUptoRow.holds Try.pinned (OpenSpec.upto sessionCopiesSpec)

end Rows
end Go.Proofs.Ytcligpfkmnlhnaa
