/-
  NARROWER THAN 'FOR EVERY INPUT', by the rows' own cells (each row's printed sentence says how): EntryShape: laid · EntryKinds: laid · EntryName: laid · EntryValid: laid · EntryValidShape: laid · EntryUnlike: laid · EntryBytes: laid · EntryBack: laid.
  DERIVED. THE GIVEN ROWS OF THIS SEAT. 8 by the template 'for every input the law returns true; each argument reads behind the call as it read before'; 0 by the template 'total and deterministic' (their statements: YtoenaheehpjmiaaDoorTotals.lean).
  GIVEN WITH THE SEED: the statements are not yours to turn. If you find one false, say at which input.
  Laid BY PROGRAM, IN A SANDBOX (cutbox-rows.mjs): the forced cells as the released guide's own fill.sh prints them over the translation 9223249eb6f794a1… (all of the seat's roots in one cut). By AI agents, Wed Nov 11 2026. No macro, syntax, notation, axiom, sorry.
-/
import Derived.Test.YtoenaheehpjmiaaDoorChecked
import GoSem.Claim
import GoSem.ClaimJoined
import GoSem.ClaimMapViews
import Derived.JoinedTies
import Derived.KernelRfl
namespace Go.Proofs.YtoenaheehpjmiaaDoor
/- THE CELL 'sum', in the pinned program and in every row, IS THE sha256 OF THE DUMP (.gsa) THAT YtoenaheehpjmiaaDoorProg.lean LOADS. Nothing in Lean hashes anything: it is a label: what it is worth is what the hold of that sum in a sandbox is worth. -/
noncomputable def Tryd.pinned : Pinned := { name := "ytoenaheehpjmiaadoor", sum := "9223249eb6f794a139c1d54b531c396d04b25b0a0a0a7e9fcd75196d5d7d25a7", checked := Tryd.checked }
namespace Rows
def none {H : Type} : Left H := { results := [], args := [] }

/- WHAT THE LISTED PACKAGE-LEVEL VARIABLES READ AS WHEN THE CALL BEGINS. Each datum BY PROGRAM (the guide's laid-datum.mjs) off the statement by which the dump's own 'gosem.cut.vars' lays the variable. In a bare row this is a premise. The card (YtoenaheehpjmiaaDoorCards.lean) ties it to the program's text. -/
def laid_cellplane_entry_names {H : Type} : DataW H := .agg [.lit (.string [112, 108, 97, 99, 101]), .lit (.string [103, 114, 97, 110, 116]), .lit (.string [99, 117, 116]), .lit (.string [115, 116, 97, 110, 100, 98, 121]), .lit (.string [114, 101, 97, 100, 121]), .lit (.string [109, 105, 103, 114, 97, 116, 101]), .lit (.string [97, 98, 97, 110, 100, 111, 110]), .lit (.string [115, 104, 101, 100]), .lit (.string [109, 111, 100, 101]), .lit (.string [119, 97, 110, 116]), .lit (.string [114, 117, 110, 115]), .lit (.string [112, 114, 111, 118, 101]), .lit (.string [101, 118, 97, 99, 117, 97, 116, 101]), .lit (.string [101, 120, 112, 97, 110, 100]), .lit (.string [99, 111, 110, 116, 114, 97, 99, 116]), .lit (.string [110, 111, 116, 101])]

/-- 'cellplanelaw06.EntryShape': WHATEVER THE INPUT: true; the input reads as it did. -/
def entryShapeSpec : ChangeSpec := { name := "entryShape", fn := fun _ => fun
  | [d1, d2, d3, d4] => { results := [.lit (.bool true)], args := [d1, d2, d3, d4] }
  | _ => none }
def entryShapeRow : OpenClaim := { program := "ytoenaheehpjmiaadoor", sum := "9223249eb6f794a139c1d54b531c396d04b25b0a0a0a7e9fcd75196d5d7d25a7", func := "cellplane/cellplanelaw06.EntryShape", spec := "entryShape", unfollowed := true, recurses := true, named := ["cellplane/entry.names"], apart := false, laid := [("cellplane/entry.names", laid_cellplane_entry_names)] }
def EntryShapeSaid : Prop := entryShapeRow.holds Tryd.pinned (OpenSpec.ofChange entryShapeSpec)

/-- ITS FALSE NEIGHBOUR: 'it returns false'. Refute it at one input. -/
def entryShapeWrong : ChangeSpec := { name := "entryShape", fn := fun _ => fun
  | [d1, d2, d3, d4] => { results := [.lit (.bool false)], args := [d1, d2, d3, d4] }
  | _ => none }
def EntryShapeWrongFalsely : Prop := entryShapeRow.holds Tryd.pinned (OpenSpec.ofChange entryShapeWrong)

/-- 'cellplanelaw06.EntryKinds': WHATEVER THE INPUT: true; the input reads as it did. -/
def entryKindsSpec : ChangeSpec := { name := "entryKinds", fn := fun _ => fun
  | [d1, d2, d3, d4, d5, d6, d7, d8] => { results := [.lit (.bool true)], args := [d1, d2, d3, d4, d5, d6, d7, d8] }
  | _ => none }
def entryKindsRow : OpenClaim := { program := "ytoenaheehpjmiaadoor", sum := "9223249eb6f794a139c1d54b531c396d04b25b0a0a0a7e9fcd75196d5d7d25a7", func := "cellplane/cellplanelaw06.EntryKinds", spec := "entryKinds", unfollowed := true, recurses := true, named := ["cellplane/entry.names"], apart := false, laid := [("cellplane/entry.names", laid_cellplane_entry_names)] }
def EntryKindsSaid : Prop := entryKindsRow.holds Tryd.pinned (OpenSpec.ofChange entryKindsSpec)

/-- ITS FALSE NEIGHBOUR: 'it returns false'. Refute it at one input. -/
def entryKindsWrong : ChangeSpec := { name := "entryKinds", fn := fun _ => fun
  | [d1, d2, d3, d4, d5, d6, d7, d8] => { results := [.lit (.bool false)], args := [d1, d2, d3, d4, d5, d6, d7, d8] }
  | _ => none }
def EntryKindsWrongFalsely : Prop := entryKindsRow.holds Tryd.pinned (OpenSpec.ofChange entryKindsWrong)

/-- 'cellplanelaw06.EntryName': WHATEVER THE INPUT: true; the input reads as it did. -/
def entryNameSpec : ChangeSpec := { name := "entryName", fn := fun _ => fun
  | [d] => { results := [.lit (.bool true)], args := [d] }
  | _ => none }
def entryNameRow : OpenClaim := { program := "ytoenaheehpjmiaadoor", sum := "9223249eb6f794a139c1d54b531c396d04b25b0a0a0a7e9fcd75196d5d7d25a7", func := "cellplane/cellplanelaw06.EntryName", spec := "entryName", unfollowed := true, recurses := true, named := ["cellplane/entry.names"], apart := false, laid := [("cellplane/entry.names", laid_cellplane_entry_names)] }
def EntryNameSaid : Prop := entryNameRow.holds Tryd.pinned (OpenSpec.ofChange entryNameSpec)

/-- ITS FALSE NEIGHBOUR: 'it returns false'. Refute it at one input. -/
def entryNameWrong : ChangeSpec := { name := "entryName", fn := fun _ => fun
  | [d] => { results := [.lit (.bool false)], args := [d] }
  | _ => none }
def EntryNameWrongFalsely : Prop := entryNameRow.holds Tryd.pinned (OpenSpec.ofChange entryNameWrong)

/-- 'cellplanelaw06.EntryValid': WHATEVER THE INPUT: true; the input reads as it did. -/
def entryValidSpec : ChangeSpec := { name := "entryValid", fn := fun _ => fun
  | [d1, d2, d3, d4] => { results := [.lit (.bool true)], args := [d1, d2, d3, d4] }
  | _ => none }
def entryValidRow : OpenClaim := { program := "ytoenaheehpjmiaadoor", sum := "9223249eb6f794a139c1d54b531c396d04b25b0a0a0a7e9fcd75196d5d7d25a7", func := "cellplane/cellplanelaw06.EntryValid", spec := "entryValid", unfollowed := true, recurses := true, named := ["cellplane/entry.names"], apart := false, laid := [("cellplane/entry.names", laid_cellplane_entry_names)] }
def EntryValidSaid : Prop := entryValidRow.holds Tryd.pinned (OpenSpec.ofChange entryValidSpec)

/-- ITS FALSE NEIGHBOUR: 'it returns false'. Refute it at one input. -/
def entryValidWrong : ChangeSpec := { name := "entryValid", fn := fun _ => fun
  | [d1, d2, d3, d4] => { results := [.lit (.bool false)], args := [d1, d2, d3, d4] }
  | _ => none }
def EntryValidWrongFalsely : Prop := entryValidRow.holds Tryd.pinned (OpenSpec.ofChange entryValidWrong)

/-- 'cellplanelaw06.EntryValidShape': WHATEVER THE INPUT: true; the input reads as it did. -/
def entryValidShapeSpec : ChangeSpec := { name := "entryValidShape", fn := fun _ => fun
  | [d1, d2, d3, d4] => { results := [.lit (.bool true)], args := [d1, d2, d3, d4] }
  | _ => none }
def entryValidShapeRow : OpenClaim := { program := "ytoenaheehpjmiaadoor", sum := "9223249eb6f794a139c1d54b531c396d04b25b0a0a0a7e9fcd75196d5d7d25a7", func := "cellplane/cellplanelaw06.EntryValidShape", spec := "entryValidShape", unfollowed := true, recurses := true, named := ["cellplane/entry.names"], apart := false, laid := [("cellplane/entry.names", laid_cellplane_entry_names)] }
def EntryValidShapeSaid : Prop := entryValidShapeRow.holds Tryd.pinned (OpenSpec.ofChange entryValidShapeSpec)

/-- ITS FALSE NEIGHBOUR: 'it returns false'. Refute it at one input. -/
def entryValidShapeWrong : ChangeSpec := { name := "entryValidShape", fn := fun _ => fun
  | [d1, d2, d3, d4] => { results := [.lit (.bool false)], args := [d1, d2, d3, d4] }
  | _ => none }
def EntryValidShapeWrongFalsely : Prop := entryValidShapeRow.holds Tryd.pinned (OpenSpec.ofChange entryValidShapeWrong)

/-- 'cellplanelaw06.EntryUnlike': WHATEVER THE INPUT: true; the input reads as it did. -/
def entryUnlikeSpec : ChangeSpec := { name := "entryUnlike", fn := fun _ => fun
  | [d1, d2, d3, d4] => { results := [.lit (.bool true)], args := [d1, d2, d3, d4] }
  | _ => none }
def entryUnlikeRow : OpenClaim := { program := "ytoenaheehpjmiaadoor", sum := "9223249eb6f794a139c1d54b531c396d04b25b0a0a0a7e9fcd75196d5d7d25a7", func := "cellplane/cellplanelaw06.EntryUnlike", spec := "entryUnlike", unfollowed := true, recurses := true, named := ["cellplane/entry.names"], apart := false, laid := [("cellplane/entry.names", laid_cellplane_entry_names)] }
def EntryUnlikeSaid : Prop := entryUnlikeRow.holds Tryd.pinned (OpenSpec.ofChange entryUnlikeSpec)

/-- ITS FALSE NEIGHBOUR: 'it returns false'. Refute it at one input. -/
def entryUnlikeWrong : ChangeSpec := { name := "entryUnlike", fn := fun _ => fun
  | [d1, d2, d3, d4] => { results := [.lit (.bool false)], args := [d1, d2, d3, d4] }
  | _ => none }
def EntryUnlikeWrongFalsely : Prop := entryUnlikeRow.holds Tryd.pinned (OpenSpec.ofChange entryUnlikeWrong)

/-- 'cellplanelaw06.EntryBytes': WHATEVER THE INPUT: true; the input reads as it did. -/
def entryBytesSpec : ChangeSpec := { name := "entryBytes", fn := fun _ => fun
  | [d1, d2, d3] => { results := [.lit (.bool true)], args := [d1, d2, d3] }
  | _ => none }
def entryBytesRow : OpenClaim := { program := "ytoenaheehpjmiaadoor", sum := "9223249eb6f794a139c1d54b531c396d04b25b0a0a0a7e9fcd75196d5d7d25a7", func := "cellplane/cellplanelaw06.EntryBytes", spec := "entryBytes", unfollowed := true, recurses := true, named := ["cellplane/entry.names"], apart := false, laid := [("cellplane/entry.names", laid_cellplane_entry_names)] }
def EntryBytesSaid : Prop := entryBytesRow.holds Tryd.pinned (OpenSpec.ofChange entryBytesSpec)

/-- ITS FALSE NEIGHBOUR: 'it returns false'. Refute it at one input. -/
def entryBytesWrong : ChangeSpec := { name := "entryBytes", fn := fun _ => fun
  | [d1, d2, d3] => { results := [.lit (.bool false)], args := [d1, d2, d3] }
  | _ => none }
def EntryBytesWrongFalsely : Prop := entryBytesRow.holds Tryd.pinned (OpenSpec.ofChange entryBytesWrong)

/-- 'cellplanelaw06.EntryBack': WHATEVER THE INPUT: true; the input reads as it did. -/
def entryBackSpec : ChangeSpec := { name := "entryBack", fn := fun _ => fun
  | [d1, d2, d3] => { results := [.lit (.bool true)], args := [d1, d2, d3] }
  | _ => none }
def entryBackRow : OpenClaim := { program := "ytoenaheehpjmiaadoor", sum := "9223249eb6f794a139c1d54b531c396d04b25b0a0a0a7e9fcd75196d5d7d25a7", func := "cellplane/cellplanelaw06.EntryBack", spec := "entryBack", unfollowed := true, recurses := true, named := ["cellplane/entry.names"], apart := false, laid := [("cellplane/entry.names", laid_cellplane_entry_names)] }
def EntryBackSaid : Prop := entryBackRow.holds Tryd.pinned (OpenSpec.ofChange entryBackSpec)

/-- ITS FALSE NEIGHBOUR: 'it returns false'. Refute it at one input. -/
def entryBackWrong : ChangeSpec := { name := "entryBack", fn := fun _ => fun
  | [d1, d2, d3] => { results := [.lit (.bool false)], args := [d1, d2, d3] }
  | _ => none }
def EntryBackWrongFalsely : Prop := entryBackRow.holds Tryd.pinned (OpenSpec.ofChange entryBackWrong)

/- THE SECOND FORM. 'bulk': how many values and letters a reading holds, each counted each time it is reached (what is shared counts as often as it is met; a slice's spare places count too). A statement '..UptoSaid' is the law's where the arguments, and the package variables that the reading takes, are together of bulk at most 1048576: NARROWER than '..Said'. Prove '..Said' where nothing that the law and all that it calls make is longer than what came in: it says more and counts as full. Else prove '..UptoSaid'. A law counts once. -/
mutual
def uptoBulk {H : Type} : DataW H → Nat
  | .lit (.string bytes) => bytes.length + 1
  | .lit _ => 1
  | .nil => 1
  | .ptr d => uptoBulk d + 1
  | .slice elems spare => uptoBulkAll elems + uptoBulkAll spare + 1
  | .agg parts => uptoBulkAll parts + 1
  | .iface _ d => uptoBulk d + 1
  | .map entries => uptoBulkEntries entries + 1
  | .held _ => 1
def uptoBulkAll {H : Type} : List (DataW H) → Nat
  | [] => 0
  | d :: r => uptoBulk d + uptoBulkAll r
def uptoBulkEntries {H : Type} : List (Lit × DataW H) → Nat
  | [] => 0
  | x :: r => uptoBulkEntry x + uptoBulkEntries r
def uptoBulkEntry {H : Type} : Lit × DataW H → Nat
  | (.string bytes, d) => bytes.length + uptoBulk d + 1
  | (_, d) => uptoBulk d + 1
 end
def uptoSmall : (H : Type) → List (DataW H) → Bool := fun _ ds => decide (uptoBulkAll ds ≤ 1048576)
def OpenSpec.upto (s : _root_.Go.ChangeSpec) : _root_.Go.OpenSpec := { _root_.Go.OpenSpec.ofChange s with cond := some uptoSmall }

/-- 'cellplanelaw06.EntryShape', WHERE WHAT IT READS IS OF BULK AT MOST 1048576: true; the input reads as it did. -/
def entryShapeUptoRow : OpenClaim := { program := "ytoenaheehpjmiaadoor", sum := "9223249eb6f794a139c1d54b531c396d04b25b0a0a0a7e9fcd75196d5d7d25a7", func := "cellplane/cellplanelaw06.EntryShape", spec := "entryShape", unfollowed := true, recurses := true, named := ["cellplane/entry.names"], apart := false, laid := [("cellplane/entry.names", laid_cellplane_entry_names)], narrowed := true }
def EntryShapeUptoSaid : Prop := entryShapeUptoRow.holds Tryd.pinned (OpenSpec.upto entryShapeSpec)

/-- 'cellplanelaw06.EntryKinds', WHERE WHAT IT READS IS OF BULK AT MOST 1048576: true; the input reads as it did. -/
def entryKindsUptoRow : OpenClaim := { program := "ytoenaheehpjmiaadoor", sum := "9223249eb6f794a139c1d54b531c396d04b25b0a0a0a7e9fcd75196d5d7d25a7", func := "cellplane/cellplanelaw06.EntryKinds", spec := "entryKinds", unfollowed := true, recurses := true, named := ["cellplane/entry.names"], apart := false, laid := [("cellplane/entry.names", laid_cellplane_entry_names)], narrowed := true }
def EntryKindsUptoSaid : Prop := entryKindsUptoRow.holds Tryd.pinned (OpenSpec.upto entryKindsSpec)

/-- 'cellplanelaw06.EntryName', WHERE WHAT IT READS IS OF BULK AT MOST 1048576: true; the input reads as it did. -/
def entryNameUptoRow : OpenClaim := { program := "ytoenaheehpjmiaadoor", sum := "9223249eb6f794a139c1d54b531c396d04b25b0a0a0a7e9fcd75196d5d7d25a7", func := "cellplane/cellplanelaw06.EntryName", spec := "entryName", unfollowed := true, recurses := true, named := ["cellplane/entry.names"], apart := false, laid := [("cellplane/entry.names", laid_cellplane_entry_names)], narrowed := true }
def EntryNameUptoSaid : Prop := entryNameUptoRow.holds Tryd.pinned (OpenSpec.upto entryNameSpec)

/-- 'cellplanelaw06.EntryValid', WHERE WHAT IT READS IS OF BULK AT MOST 1048576: true; the input reads as it did. -/
def entryValidUptoRow : OpenClaim := { program := "ytoenaheehpjmiaadoor", sum := "9223249eb6f794a139c1d54b531c396d04b25b0a0a0a7e9fcd75196d5d7d25a7", func := "cellplane/cellplanelaw06.EntryValid", spec := "entryValid", unfollowed := true, recurses := true, named := ["cellplane/entry.names"], apart := false, laid := [("cellplane/entry.names", laid_cellplane_entry_names)], narrowed := true }
def EntryValidUptoSaid : Prop := entryValidUptoRow.holds Tryd.pinned (OpenSpec.upto entryValidSpec)

/-- 'cellplanelaw06.EntryValidShape', WHERE WHAT IT READS IS OF BULK AT MOST 1048576: true; the input reads as it did. -/
def entryValidShapeUptoRow : OpenClaim := { program := "ytoenaheehpjmiaadoor", sum := "9223249eb6f794a139c1d54b531c396d04b25b0a0a0a7e9fcd75196d5d7d25a7", func := "cellplane/cellplanelaw06.EntryValidShape", spec := "entryValidShape", unfollowed := true, recurses := true, named := ["cellplane/entry.names"], apart := false, laid := [("cellplane/entry.names", laid_cellplane_entry_names)], narrowed := true }
def EntryValidShapeUptoSaid : Prop := entryValidShapeUptoRow.holds Tryd.pinned (OpenSpec.upto entryValidShapeSpec)

/-- 'cellplanelaw06.EntryUnlike', WHERE WHAT IT READS IS OF BULK AT MOST 1048576: true; the input reads as it did. -/
def entryUnlikeUptoRow : OpenClaim := { program := "ytoenaheehpjmiaadoor", sum := "9223249eb6f794a139c1d54b531c396d04b25b0a0a0a7e9fcd75196d5d7d25a7", func := "cellplane/cellplanelaw06.EntryUnlike", spec := "entryUnlike", unfollowed := true, recurses := true, named := ["cellplane/entry.names"], apart := false, laid := [("cellplane/entry.names", laid_cellplane_entry_names)], narrowed := true }
def EntryUnlikeUptoSaid : Prop := entryUnlikeUptoRow.holds Tryd.pinned (OpenSpec.upto entryUnlikeSpec)

/-- 'cellplanelaw06.EntryBytes', WHERE WHAT IT READS IS OF BULK AT MOST 1048576: true; the input reads as it did. -/
def entryBytesUptoRow : OpenClaim := { program := "ytoenaheehpjmiaadoor", sum := "9223249eb6f794a139c1d54b531c396d04b25b0a0a0a7e9fcd75196d5d7d25a7", func := "cellplane/cellplanelaw06.EntryBytes", spec := "entryBytes", unfollowed := true, recurses := true, named := ["cellplane/entry.names"], apart := false, laid := [("cellplane/entry.names", laid_cellplane_entry_names)], narrowed := true }
def EntryBytesUptoSaid : Prop := entryBytesUptoRow.holds Tryd.pinned (OpenSpec.upto entryBytesSpec)

/-- 'cellplanelaw06.EntryBack', WHERE WHAT IT READS IS OF BULK AT MOST 1048576: true; the input reads as it did. -/
def entryBackUptoRow : OpenClaim := { program := "ytoenaheehpjmiaadoor", sum := "9223249eb6f794a139c1d54b531c396d04b25b0a0a0a7e9fcd75196d5d7d25a7", func := "cellplane/cellplanelaw06.EntryBack", spec := "entryBack", unfollowed := true, recurses := true, named := ["cellplane/entry.names"], apart := false, laid := [("cellplane/entry.names", laid_cellplane_entry_names)], narrowed := true }
def EntryBackUptoSaid : Prop := entryBackUptoRow.holds Tryd.pinned (OpenSpec.upto entryBackSpec)

end Rows
end Go.Proofs.YtoenaheehpjmiaaDoor
