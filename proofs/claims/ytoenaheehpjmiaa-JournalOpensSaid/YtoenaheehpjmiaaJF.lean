/- Facts of the seat's program that all its rows share.
   Conditions: none. -/
import Derived.Test.YtoenaheehpjmiaaElem
import Derived.Test.YtoenaheehpjmiaaRows
namespace Go.Proofs.Ytoenaheehpjmiaa
open Go Go.Sh
theorem mayT : Try.pinned.checked.prog.mayEnter = true := by kernel_rfl
theorem liftT : (Rows.journalVotesRow.lifted == Try.pinned.checked.prog.liftsFinal) = true := by kernel_rfl
theorem makeT : (Try.pinned.checked.prog.make == some Rows.journalVotesRow.make) = true := by kernel_rfl
end Go.Proofs.Ytoenaheehpjmiaa
