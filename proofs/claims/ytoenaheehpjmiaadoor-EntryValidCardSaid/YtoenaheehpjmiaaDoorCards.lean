/-
  DERIVED. GIVEN WITH THE SEED: THE CARDS: each row of YtoenaheehpjmiaaDoorRows.lean that lists a variable, with what it lists TIED to the program's text (the seventh form; the later family's looks); each row that meets fmt, with fmt's text TOLD by the authors' own Lean function (tested against real Go, not proved from fmt's source: count such statements apart). THE CARD IS WHAT COUNTS. Prove the row's statement (the work); the ties are given (YtoenaheehpjmiaaDoorTie.lean); close each card by the builder's one call (the guide's Derived/Test/ToyasCard.lean, 'card_holds'). Laid BY PROGRAM, IN A SANDBOX (cutbox-door.mjs). By AI agents, Wed Nov 11 2026. No macro, syntax, notation, axiom, sorry.
-/
import Derived.Test.YtoenaheehpjmiaaDoorRows
import GoSem.ClaimSeven
namespace Go.Proofs.YtoenaheehpjmiaaDoor
namespace Rows

/-- THE TIED CARD OF 'cellplanelaw06.EntryShape'. -/
def entryShapeCard : Claim7 := { stood := { row := entryShapeRow, standIns := [], harness := (true, "81a1dd593cec514f664d0226b1f7232033442efbecd0f368f250ee0a5c45e5e7"), looks := false }, kinds := [], alts := [], laidByText := true, laidKinds := [.data], laidTests := true, laidLooks := .later }
def EntryShapeCardSaid : Prop := Claim7.holds Tryd.pinned (.plain (OpenSpec.ofChange entryShapeSpec)) entryShapeCard

/-- THE TIED CARD OF 'cellplanelaw06.EntryKinds'. -/
def entryKindsCard : Claim7 := { stood := { row := entryKindsRow, standIns := [], harness := (true, "81a1dd593cec514f664d0226b1f7232033442efbecd0f368f250ee0a5c45e5e7"), looks := false }, kinds := [], alts := [], laidByText := true, laidKinds := [.data], laidTests := true, laidLooks := .later }
def EntryKindsCardSaid : Prop := Claim7.holds Tryd.pinned (.plain (OpenSpec.ofChange entryKindsSpec)) entryKindsCard

/-- THE TIED CARD OF 'cellplanelaw06.EntryName'. -/
def entryNameCard : Claim7 := { stood := { row := entryNameRow, standIns := [], harness := (true, "81a1dd593cec514f664d0226b1f7232033442efbecd0f368f250ee0a5c45e5e7"), looks := false }, kinds := [], alts := [], laidByText := true, laidKinds := [.data], laidTests := true, laidLooks := .later }
def EntryNameCardSaid : Prop := Claim7.holds Tryd.pinned (.plain (OpenSpec.ofChange entryNameSpec)) entryNameCard

/-- THE TIED CARD OF 'cellplanelaw06.EntryValid'. -/
def entryValidCard : Claim7 := { stood := { row := entryValidRow, standIns := [], harness := (true, "81a1dd593cec514f664d0226b1f7232033442efbecd0f368f250ee0a5c45e5e7"), looks := false }, kinds := [], alts := [], laidByText := true, laidKinds := [.data], laidTests := true, laidLooks := .later }
def EntryValidCardSaid : Prop := Claim7.holds Tryd.pinned (.plain (OpenSpec.ofChange entryValidSpec)) entryValidCard

/-- THE TIED CARD OF 'cellplanelaw06.EntryValidShape'. -/
def entryValidShapeCard : Claim7 := { stood := { row := entryValidShapeRow, standIns := [], harness := (true, "81a1dd593cec514f664d0226b1f7232033442efbecd0f368f250ee0a5c45e5e7"), looks := false }, kinds := [], alts := [], laidByText := true, laidKinds := [.data], laidTests := true, laidLooks := .later }
def EntryValidShapeCardSaid : Prop := Claim7.holds Tryd.pinned (.plain (OpenSpec.ofChange entryValidShapeSpec)) entryValidShapeCard

/-- THE TIED CARD OF 'cellplanelaw06.EntryUnlike'. -/
def entryUnlikeCard : Claim7 := { stood := { row := entryUnlikeRow, standIns := [], harness := (true, "81a1dd593cec514f664d0226b1f7232033442efbecd0f368f250ee0a5c45e5e7"), looks := false }, kinds := [], alts := [], laidByText := true, laidKinds := [.data], laidTests := true, laidLooks := .later }
def EntryUnlikeCardSaid : Prop := Claim7.holds Tryd.pinned (.plain (OpenSpec.ofChange entryUnlikeSpec)) entryUnlikeCard

/-- THE TIED CARD OF 'cellplanelaw06.EntryBytes'. -/
def entryBytesCard : Claim7 := { stood := { row := entryBytesRow, standIns := [], harness := (true, "81a1dd593cec514f664d0226b1f7232033442efbecd0f368f250ee0a5c45e5e7"), looks := false }, kinds := [], alts := [], laidByText := true, laidKinds := [.data], laidTests := true, laidLooks := .later }
def EntryBytesCardSaid : Prop := Claim7.holds Tryd.pinned (.plain (OpenSpec.ofChange entryBytesSpec)) entryBytesCard

/-- THE TIED CARD OF 'cellplanelaw06.EntryBack'. -/
def entryBackCard : Claim7 := { stood := { row := entryBackRow, standIns := [], harness := (true, "81a1dd593cec514f664d0226b1f7232033442efbecd0f368f250ee0a5c45e5e7"), looks := false }, kinds := [], alts := [], laidByText := true, laidKinds := [.data], laidTests := true, laidLooks := .later }
def EntryBackCardSaid : Prop := Claim7.holds Tryd.pinned (.plain (OpenSpec.ofChange entryBackSpec)) entryBackCard

/-- THE SECOND FORM's CARD OF 'cellplanelaw06.EntryShape'. -/
def entryShapeUptoCard : Claim7 := { stood := { row := entryShapeUptoRow, standIns := [], harness := (true, "81a1dd593cec514f664d0226b1f7232033442efbecd0f368f250ee0a5c45e5e7"), looks := false }, kinds := [], alts := [], laidByText := true, laidKinds := [.data], laidTests := true, laidLooks := .later }
def EntryShapeUptoCardSaid : Prop := Claim7.holds Tryd.pinned (.plain (OpenSpec.upto entryShapeSpec)) entryShapeUptoCard

/-- THE SECOND FORM's CARD OF 'cellplanelaw06.EntryKinds'. -/
def entryKindsUptoCard : Claim7 := { stood := { row := entryKindsUptoRow, standIns := [], harness := (true, "81a1dd593cec514f664d0226b1f7232033442efbecd0f368f250ee0a5c45e5e7"), looks := false }, kinds := [], alts := [], laidByText := true, laidKinds := [.data], laidTests := true, laidLooks := .later }
def EntryKindsUptoCardSaid : Prop := Claim7.holds Tryd.pinned (.plain (OpenSpec.upto entryKindsSpec)) entryKindsUptoCard

/-- THE SECOND FORM's CARD OF 'cellplanelaw06.EntryName'. -/
def entryNameUptoCard : Claim7 := { stood := { row := entryNameUptoRow, standIns := [], harness := (true, "81a1dd593cec514f664d0226b1f7232033442efbecd0f368f250ee0a5c45e5e7"), looks := false }, kinds := [], alts := [], laidByText := true, laidKinds := [.data], laidTests := true, laidLooks := .later }
def EntryNameUptoCardSaid : Prop := Claim7.holds Tryd.pinned (.plain (OpenSpec.upto entryNameSpec)) entryNameUptoCard

/-- THE SECOND FORM's CARD OF 'cellplanelaw06.EntryValid'. -/
def entryValidUptoCard : Claim7 := { stood := { row := entryValidUptoRow, standIns := [], harness := (true, "81a1dd593cec514f664d0226b1f7232033442efbecd0f368f250ee0a5c45e5e7"), looks := false }, kinds := [], alts := [], laidByText := true, laidKinds := [.data], laidTests := true, laidLooks := .later }
def EntryValidUptoCardSaid : Prop := Claim7.holds Tryd.pinned (.plain (OpenSpec.upto entryValidSpec)) entryValidUptoCard

/-- THE SECOND FORM's CARD OF 'cellplanelaw06.EntryValidShape'. -/
def entryValidShapeUptoCard : Claim7 := { stood := { row := entryValidShapeUptoRow, standIns := [], harness := (true, "81a1dd593cec514f664d0226b1f7232033442efbecd0f368f250ee0a5c45e5e7"), looks := false }, kinds := [], alts := [], laidByText := true, laidKinds := [.data], laidTests := true, laidLooks := .later }
def EntryValidShapeUptoCardSaid : Prop := Claim7.holds Tryd.pinned (.plain (OpenSpec.upto entryValidShapeSpec)) entryValidShapeUptoCard

/-- THE SECOND FORM's CARD OF 'cellplanelaw06.EntryUnlike'. -/
def entryUnlikeUptoCard : Claim7 := { stood := { row := entryUnlikeUptoRow, standIns := [], harness := (true, "81a1dd593cec514f664d0226b1f7232033442efbecd0f368f250ee0a5c45e5e7"), looks := false }, kinds := [], alts := [], laidByText := true, laidKinds := [.data], laidTests := true, laidLooks := .later }
def EntryUnlikeUptoCardSaid : Prop := Claim7.holds Tryd.pinned (.plain (OpenSpec.upto entryUnlikeSpec)) entryUnlikeUptoCard

/-- THE SECOND FORM's CARD OF 'cellplanelaw06.EntryBytes'. -/
def entryBytesUptoCard : Claim7 := { stood := { row := entryBytesUptoRow, standIns := [], harness := (true, "81a1dd593cec514f664d0226b1f7232033442efbecd0f368f250ee0a5c45e5e7"), looks := false }, kinds := [], alts := [], laidByText := true, laidKinds := [.data], laidTests := true, laidLooks := .later }
def EntryBytesUptoCardSaid : Prop := Claim7.holds Tryd.pinned (.plain (OpenSpec.upto entryBytesSpec)) entryBytesUptoCard

/-- THE SECOND FORM's CARD OF 'cellplanelaw06.EntryBack'. -/
def entryBackUptoCard : Claim7 := { stood := { row := entryBackUptoRow, standIns := [], harness := (true, "81a1dd593cec514f664d0226b1f7232033442efbecd0f368f250ee0a5c45e5e7"), looks := false }, kinds := [], alts := [], laidByText := true, laidKinds := [.data], laidTests := true, laidLooks := .later }
def EntryBackUptoCardSaid : Prop := Claim7.holds Tryd.pinned (.plain (OpenSpec.upto entryBackSpec)) entryBackUptoCard
end Rows
end Go.Proofs.YtoenaheehpjmiaaDoor
