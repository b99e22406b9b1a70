/-
  No cell of these rows narrows 'for every input' (looked for: loops, veiled, ifaces, maps, wideKeys, modest, calm, conditions, laid).
  DERIVED. THE GIVEN ROWS OF THIS SEAT. 15 by the template 'for every input the law returns true; each argument reads behind the call as it read before'; 0 by the template 'total and deterministic' (their statements: YtoenaheehpjmiaaTotals.lean).
  GIVEN WITH THE SEED: the statements are not yours to turn. If you find one false, say at which input.
  Laid BY PROGRAM, IN A SANDBOX (cutbox-rows.mjs): the forced cells as the released guide's own fill.sh prints them over the translation bcac5675921debe7… (all of the seat's roots in one cut). By AI agents, Wed Nov 11 2026. No macro, syntax, notation, axiom, sorry.
-/
import Derived.Test.YtoenaheehpjmiaaChecked
import GoSem.Claim
import GoSem.ClaimJoined
import GoSem.ClaimMapViews
import Derived.JoinedTies
import Derived.KernelRfl
namespace Go.Proofs.Ytoenaheehpjmiaa
/- THE CELL 'sum', in the pinned program and in every row, IS THE sha256 OF THE DUMP (.gsa) THAT YtoenaheehpjmiaaProg.lean LOADS. Nothing in Lean hashes anything: it is a label: what it is worth is what the hold of that sum in a sandbox is worth. -/
noncomputable def Try.pinned : Pinned := { name := "ytoenaheehpjmiaa", sum := "bcac5675921debe7658b776fb73a486c08250540aab5ab8ae639996a585ec4fe", checked := Try.checked }
namespace Rows
def none {H : Type} : Left H := { results := [], args := [] }

/-- 'cellplanelaw09.ReplicaNew': WHATEVER THE INPUT: true; the input reads as it did. -/
def replicaNewSpec : ChangeSpec := { name := "replicaNew", fn := fun _ => fun
  | [d1, d2] => { results := [.lit (.bool true)], args := [d1, d2] }
  | _ => none }
def replicaNewRow : OpenClaim := { program := "ytoenaheehpjmiaa", sum := "bcac5675921debe7658b776fb73a486c08250540aab5ab8ae639996a585ec4fe", func := "cellplane/cellplanelaw09.ReplicaNew", spec := "replicaNew", unfollowed := true, recurses := true, apart := false }
def ReplicaNewSaid : Prop := replicaNewRow.holds Try.pinned (OpenSpec.ofChange replicaNewSpec)

/-- ITS FALSE NEIGHBOUR: 'it returns false'. Refute it at one input. -/
def replicaNewWrong : ChangeSpec := { name := "replicaNew", fn := fun _ => fun
  | [d1, d2] => { results := [.lit (.bool false)], args := [d1, d2] }
  | _ => none }
def ReplicaNewWrongFalsely : Prop := replicaNewRow.holds Try.pinned (OpenSpec.ofChange replicaNewWrong)

/-- 'cellplanelaw08.JournalKeeps': WHATEVER THE INPUT: true; the input reads as it did. -/
def journalKeepsSpec : ChangeSpec := { name := "journalKeeps", fn := fun _ => fun
  | [d1, d2, d3] => { results := [.lit (.bool true)], args := [d1, d2, d3] }
  | _ => none }
def journalKeepsRow : OpenClaim := { program := "ytoenaheehpjmiaa", sum := "bcac5675921debe7658b776fb73a486c08250540aab5ab8ae639996a585ec4fe", func := "cellplane/cellplanelaw08.JournalKeeps", spec := "journalKeeps", unfollowed := true, recurses := true, apart := false }
def JournalKeepsSaid : Prop := journalKeepsRow.holds Try.pinned (OpenSpec.ofChange journalKeepsSpec)

/-- ITS FALSE NEIGHBOUR: 'it returns false'. Refute it at one input. -/
def journalKeepsWrong : ChangeSpec := { name := "journalKeeps", fn := fun _ => fun
  | [d1, d2, d3] => { results := [.lit (.bool false)], args := [d1, d2, d3] }
  | _ => none }
def JournalKeepsWrongFalsely : Prop := journalKeepsRow.holds Try.pinned (OpenSpec.ofChange journalKeepsWrong)

/-- 'cellplanelaw08.JournalVotes': WHATEVER THE INPUT: true; the input reads as it did. -/
def journalVotesSpec : ChangeSpec := { name := "journalVotes", fn := fun _ => fun
  | [d] => { results := [.lit (.bool true)], args := [d] }
  | _ => none }
def journalVotesRow : OpenClaim := { program := "ytoenaheehpjmiaa", sum := "bcac5675921debe7658b776fb73a486c08250540aab5ab8ae639996a585ec4fe", func := "cellplane/cellplanelaw08.JournalVotes", spec := "journalVotes", unfollowed := true, recurses := true, apart := false }
def JournalVotesSaid : Prop := journalVotesRow.holds Try.pinned (OpenSpec.ofChange journalVotesSpec)

/-- ITS FALSE NEIGHBOUR: 'it returns false'. Refute it at one input. -/
def journalVotesWrong : ChangeSpec := { name := "journalVotes", fn := fun _ => fun
  | [d] => { results := [.lit (.bool false)], args := [d] }
  | _ => none }
def JournalVotesWrongFalsely : Prop := journalVotesRow.holds Try.pinned (OpenSpec.ofChange journalVotesWrong)

/-- 'cellplanelaw08.JournalOrder': WHATEVER THE INPUT: true; the input reads as it did. -/
def journalOrderSpec : ChangeSpec := { name := "journalOrder", fn := fun _ => fun
  | [d] => { results := [.lit (.bool true)], args := [d] }
  | _ => none }
def journalOrderRow : OpenClaim := { program := "ytoenaheehpjmiaa", sum := "bcac5675921debe7658b776fb73a486c08250540aab5ab8ae639996a585ec4fe", func := "cellplane/cellplanelaw08.JournalOrder", spec := "journalOrder", unfollowed := true, recurses := true, apart := false }
def JournalOrderSaid : Prop := journalOrderRow.holds Try.pinned (OpenSpec.ofChange journalOrderSpec)

/-- ITS FALSE NEIGHBOUR: 'it returns false'. Refute it at one input. -/
def journalOrderWrong : ChangeSpec := { name := "journalOrder", fn := fun _ => fun
  | [d] => { results := [.lit (.bool false)], args := [d] }
  | _ => none }
def JournalOrderWrongFalsely : Prop := journalOrderRow.holds Try.pinned (OpenSpec.ofChange journalOrderWrong)

/-- 'cellplanelaw08.JournalPlays': WHATEVER THE INPUT: true; the input reads as it did. -/
def journalPlaysSpec : ChangeSpec := { name := "journalPlays", fn := fun _ => fun
  | [d] => { results := [.lit (.bool true)], args := [d] }
  | _ => none }
def journalPlaysRow : OpenClaim := { program := "ytoenaheehpjmiaa", sum := "bcac5675921debe7658b776fb73a486c08250540aab5ab8ae639996a585ec4fe", func := "cellplane/cellplanelaw08.JournalPlays", spec := "journalPlays", unfollowed := true, recurses := true, apart := false }
def JournalPlaysSaid : Prop := journalPlaysRow.holds Try.pinned (OpenSpec.ofChange journalPlaysSpec)

/-- ITS FALSE NEIGHBOUR: 'it returns false'. Refute it at one input. -/
def journalPlaysWrong : ChangeSpec := { name := "journalPlays", fn := fun _ => fun
  | [d] => { results := [.lit (.bool false)], args := [d] }
  | _ => none }
def JournalPlaysWrongFalsely : Prop := journalPlaysRow.holds Try.pinned (OpenSpec.ofChange journalPlaysWrong)

/-- 'cellplanelaw08.JournalOpens': WHATEVER THE INPUT: true; the input reads as it did. -/
def journalOpensSpec : ChangeSpec := { name := "journalOpens", fn := fun _ => fun
  | [d1, d2, d3, d4] => { results := [.lit (.bool true)], args := [d1, d2, d3, d4] }
  | _ => none }
def journalOpensRow : OpenClaim := { program := "ytoenaheehpjmiaa", sum := "bcac5675921debe7658b776fb73a486c08250540aab5ab8ae639996a585ec4fe", func := "cellplane/cellplanelaw08.JournalOpens", spec := "journalOpens", unfollowed := true, recurses := true, apart := false }
def JournalOpensSaid : Prop := journalOpensRow.holds Try.pinned (OpenSpec.ofChange journalOpensSpec)

/-- ITS FALSE NEIGHBOUR: 'it returns false'. Refute it at one input. -/
def journalOpensWrong : ChangeSpec := { name := "journalOpens", fn := fun _ => fun
  | [d1, d2, d3, d4] => { results := [.lit (.bool false)], args := [d1, d2, d3, d4] }
  | _ => none }
def JournalOpensWrongFalsely : Prop := journalOpensRow.holds Try.pinned (OpenSpec.ofChange journalOpensWrong)

/-- 'cellplanelaw08.JournalReopens': WHATEVER THE INPUT: true; the input reads as it did. -/
def journalReopensSpec : ChangeSpec := { name := "journalReopens", fn := fun _ => fun
  | [d1, d2] => { results := [.lit (.bool true)], args := [d1, d2] }
  | _ => none }
def journalReopensRow : OpenClaim := { program := "ytoenaheehpjmiaa", sum := "bcac5675921debe7658b776fb73a486c08250540aab5ab8ae639996a585ec4fe", func := "cellplane/cellplanelaw08.JournalReopens", spec := "journalReopens", unfollowed := true, recurses := true, apart := false }
def JournalReopensSaid : Prop := journalReopensRow.holds Try.pinned (OpenSpec.ofChange journalReopensSpec)

/-- ITS FALSE NEIGHBOUR: 'it returns false'. Refute it at one input. -/
def journalReopensWrong : ChangeSpec := { name := "journalReopens", fn := fun _ => fun
  | [d1, d2] => { results := [.lit (.bool false)], args := [d1, d2] }
  | _ => none }
def JournalReopensWrongFalsely : Prop := journalReopensRow.holds Try.pinned (OpenSpec.ofChange journalReopensWrong)

/-- 'cellplanelaw08.JournalCopies': WHATEVER THE INPUT: true; the input reads as it did. -/
def journalCopiesSpec : ChangeSpec := { name := "journalCopies", fn := fun _ => fun
  | [d1, d2] => { results := [.lit (.bool true)], args := [d1, d2] }
  | _ => none }
def journalCopiesRow : OpenClaim := { program := "ytoenaheehpjmiaa", sum := "bcac5675921debe7658b776fb73a486c08250540aab5ab8ae639996a585ec4fe", func := "cellplane/cellplanelaw08.JournalCopies", spec := "journalCopies", unfollowed := true, recurses := true, apart := false }
def JournalCopiesSaid : Prop := journalCopiesRow.holds Try.pinned (OpenSpec.ofChange journalCopiesSpec)

/-- ITS FALSE NEIGHBOUR: 'it returns false'. Refute it at one input. -/
def journalCopiesWrong : ChangeSpec := { name := "journalCopies", fn := fun _ => fun
  | [d1, d2] => { results := [.lit (.bool false)], args := [d1, d2] }
  | _ => none }
def JournalCopiesWrongFalsely : Prop := journalCopiesRow.holds Try.pinned (OpenSpec.ofChange journalCopiesWrong)

/-- 'cellplanelaw09.ReplicaElected': WHATEVER THE INPUT: true; the input reads as it did. -/
def replicaElectedSpec : ChangeSpec := { name := "replicaElected", fn := fun _ => fun
  | [d1, d2] => { results := [.lit (.bool true)], args := [d1, d2] }
  | _ => none }
def replicaElectedRow : OpenClaim := { program := "ytoenaheehpjmiaa", sum := "bcac5675921debe7658b776fb73a486c08250540aab5ab8ae639996a585ec4fe", func := "cellplane/cellplanelaw09.ReplicaElected", spec := "replicaElected", unfollowed := true, recurses := true, apart := false }
def ReplicaElectedSaid : Prop := replicaElectedRow.holds Try.pinned (OpenSpec.ofChange replicaElectedSpec)

/-- ITS FALSE NEIGHBOUR: 'it returns false'. Refute it at one input. -/
def replicaElectedWrong : ChangeSpec := { name := "replicaElected", fn := fun _ => fun
  | [d1, d2] => { results := [.lit (.bool false)], args := [d1, d2] }
  | _ => none }
def ReplicaElectedWrongFalsely : Prop := replicaElectedRow.holds Try.pinned (OpenSpec.ofChange replicaElectedWrong)

/-- 'cellplanelaw09.ReplicaStores': WHATEVER THE INPUT: true; the input reads as it did. -/
def replicaStoresSpec : ChangeSpec := { name := "replicaStores", fn := fun _ => fun
  | [d1, d2, d3] => { results := [.lit (.bool true)], args := [d1, d2, d3] }
  | _ => none }
def replicaStoresRow : OpenClaim := { program := "ytoenaheehpjmiaa", sum := "bcac5675921debe7658b776fb73a486c08250540aab5ab8ae639996a585ec4fe", func := "cellplane/cellplanelaw09.ReplicaStores", spec := "replicaStores", unfollowed := true, recurses := true, apart := false }
def ReplicaStoresSaid : Prop := replicaStoresRow.holds Try.pinned (OpenSpec.ofChange replicaStoresSpec)

/-- ITS FALSE NEIGHBOUR: 'it returns false'. Refute it at one input. -/
def replicaStoresWrong : ChangeSpec := { name := "replicaStores", fn := fun _ => fun
  | [d1, d2, d3] => { results := [.lit (.bool false)], args := [d1, d2, d3] }
  | _ => none }
def ReplicaStoresWrongFalsely : Prop := replicaStoresRow.holds Try.pinned (OpenSpec.ofChange replicaStoresWrong)

/-- 'cellplanelaw10.QuorumNew': WHATEVER THE INPUT: true; the input reads as it did. -/
def quorumNewSpec : ChangeSpec := { name := "quorumNew", fn := fun _ => fun
  | [d] => { results := [.lit (.bool true)], args := [d] }
  | _ => none }
def quorumNewRow : OpenClaim := { program := "ytoenaheehpjmiaa", sum := "bcac5675921debe7658b776fb73a486c08250540aab5ab8ae639996a585ec4fe", func := "cellplane/cellplanelaw10.QuorumNew", spec := "quorumNew", unfollowed := true, recurses := true, apart := false }
def QuorumNewSaid : Prop := quorumNewRow.holds Try.pinned (OpenSpec.ofChange quorumNewSpec)

/-- ITS FALSE NEIGHBOUR: 'it returns false'. Refute it at one input. -/
def quorumNewWrong : ChangeSpec := { name := "quorumNew", fn := fun _ => fun
  | [d] => { results := [.lit (.bool false)], args := [d] }
  | _ => none }
def QuorumNewWrongFalsely : Prop := quorumNewRow.holds Try.pinned (OpenSpec.ofChange quorumNewWrong)

/-- 'cellplanelaw10.QuorumMatches': WHATEVER THE INPUT: true; the input reads as it did. -/
def quorumMatchesSpec : ChangeSpec := { name := "quorumMatches", fn := fun _ => fun
  | [d1, d2] => { results := [.lit (.bool true)], args := [d1, d2] }
  | _ => none }
def quorumMatchesRow : OpenClaim := { program := "ytoenaheehpjmiaa", sum := "bcac5675921debe7658b776fb73a486c08250540aab5ab8ae639996a585ec4fe", func := "cellplane/cellplanelaw10.QuorumMatches", spec := "quorumMatches", unfollowed := true, recurses := true, apart := false }
def QuorumMatchesSaid : Prop := quorumMatchesRow.holds Try.pinned (OpenSpec.ofChange quorumMatchesSpec)

/-- ITS FALSE NEIGHBOUR: 'it returns false'. Refute it at one input. -/
def quorumMatchesWrong : ChangeSpec := { name := "quorumMatches", fn := fun _ => fun
  | [d1, d2] => { results := [.lit (.bool false)], args := [d1, d2] }
  | _ => none }
def QuorumMatchesWrongFalsely : Prop := quorumMatchesRow.holds Try.pinned (OpenSpec.ofChange quorumMatchesWrong)

/-- 'cellplanelaw10.QuorumLeads': WHATEVER THE INPUT: true; the input reads as it did. -/
def quorumLeadsSpec : ChangeSpec := { name := "quorumLeads", fn := fun _ => fun
  | [d1, d2] => { results := [.lit (.bool true)], args := [d1, d2] }
  | _ => none }
def quorumLeadsRow : OpenClaim := { program := "ytoenaheehpjmiaa", sum := "bcac5675921debe7658b776fb73a486c08250540aab5ab8ae639996a585ec4fe", func := "cellplane/cellplanelaw10.QuorumLeads", spec := "quorumLeads", unfollowed := true, recurses := true, apart := false }
def QuorumLeadsSaid : Prop := quorumLeadsRow.holds Try.pinned (OpenSpec.ofChange quorumLeadsSpec)

/-- ITS FALSE NEIGHBOUR: 'it returns false'. Refute it at one input. -/
def quorumLeadsWrong : ChangeSpec := { name := "quorumLeads", fn := fun _ => fun
  | [d1, d2] => { results := [.lit (.bool false)], args := [d1, d2] }
  | _ => none }
def QuorumLeadsWrongFalsely : Prop := quorumLeadsRow.holds Try.pinned (OpenSpec.ofChange quorumLeadsWrong)

/-- 'cellplanelaw10.QuorumAgrees': WHATEVER THE INPUT: true; the input reads as it did. -/
def quorumAgreesSpec : ChangeSpec := { name := "quorumAgrees", fn := fun _ => fun
  | [d1, d2] => { results := [.lit (.bool true)], args := [d1, d2] }
  | _ => none }
def quorumAgreesRow : OpenClaim := { program := "ytoenaheehpjmiaa", sum := "bcac5675921debe7658b776fb73a486c08250540aab5ab8ae639996a585ec4fe", func := "cellplane/cellplanelaw10.QuorumAgrees", spec := "quorumAgrees", unfollowed := true, recurses := true, apart := false }
def QuorumAgreesSaid : Prop := quorumAgreesRow.holds Try.pinned (OpenSpec.ofChange quorumAgreesSpec)

/-- ITS FALSE NEIGHBOUR: 'it returns false'. Refute it at one input. -/
def quorumAgreesWrong : ChangeSpec := { name := "quorumAgrees", fn := fun _ => fun
  | [d1, d2] => { results := [.lit (.bool false)], args := [d1, d2] }
  | _ => none }
def QuorumAgreesWrongFalsely : Prop := quorumAgreesRow.holds Try.pinned (OpenSpec.ofChange quorumAgreesWrong)

/-- 'cellplanelaw10.QuorumCommits': WHATEVER THE INPUT: true; the input reads as it did. -/
def quorumCommitsSpec : ChangeSpec := { name := "quorumCommits", fn := fun _ => fun
  | [d1, d2, d3] => { results := [.lit (.bool true)], args := [d1, d2, d3] }
  | _ => none }
def quorumCommitsRow : OpenClaim := { program := "ytoenaheehpjmiaa", sum := "bcac5675921debe7658b776fb73a486c08250540aab5ab8ae639996a585ec4fe", func := "cellplane/cellplanelaw10.QuorumCommits", spec := "quorumCommits", unfollowed := true, recurses := true, apart := false }
def QuorumCommitsSaid : Prop := quorumCommitsRow.holds Try.pinned (OpenSpec.ofChange quorumCommitsSpec)

/-- ITS FALSE NEIGHBOUR: 'it returns false'. Refute it at one input. -/
def quorumCommitsWrong : ChangeSpec := { name := "quorumCommits", fn := fun _ => fun
  | [d1, d2, d3] => { results := [.lit (.bool false)], args := [d1, d2, d3] }
  | _ => none }
def QuorumCommitsWrongFalsely : Prop := quorumCommitsRow.holds Try.pinned (OpenSpec.ofChange quorumCommitsWrong)

/- THE SECOND FORM. 'bulk': how many values and letters a reading holds, each counted each time it is reached (what is shared counts as often as it is met; a slice's spare places count too). A statement '..UptoSaid' is the law's where the arguments, and the package variables that the reading takes, are together of bulk at most 1048576: NARROWER than '..Said'. Prove '..Said' where nothing that the law and all that it calls make is longer than what came in: it says more and counts as full. Else prove '..UptoSaid'. A law counts once. -/
mutual
def uptoBulk {H : Type} : DataW H → Nat
  | .lit (.string bytes) => bytes.length + 1
  | .lit _ => 1
  | .nil => 1
  | .ptr d => uptoBulk d + 1
  | .slice elems spare => uptoBulkAll elems + uptoBulkAll spare + 1
  | .agg parts => uptoBulkAll parts + 1
  | .iface _ d => uptoBulk d + 1
  | .map entries => uptoBulkEntries entries + 1
  | .held _ => 1
def uptoBulkAll {H : Type} : List (DataW H) → Nat
  | [] => 0
  | d :: r => uptoBulk d + uptoBulkAll r
def uptoBulkEntries {H : Type} : List (Lit × DataW H) → Nat
  | [] => 0
  | x :: r => uptoBulkEntry x + uptoBulkEntries r
def uptoBulkEntry {H : Type} : Lit × DataW H → Nat
  | (.string bytes, d) => bytes.length + uptoBulk d + 1
  | (_, d) => uptoBulk d + 1
 end
def uptoSmall : (H : Type) → List (DataW H) → Bool := fun _ ds => decide (uptoBulkAll ds ≤ 1048576)
def OpenSpec.upto (s : _root_.Go.ChangeSpec) : _root_.Go.OpenSpec := { _root_.Go.OpenSpec.ofChange s with cond := some uptoSmall }

/-- 'cellplanelaw09.ReplicaNew', WHERE WHAT IT READS IS OF BULK AT MOST 1048576: true; the input reads as it did. -/
def replicaNewUptoRow : OpenClaim := { program := "ytoenaheehpjmiaa", sum := "bcac5675921debe7658b776fb73a486c08250540aab5ab8ae639996a585ec4fe", func := "cellplane/cellplanelaw09.ReplicaNew", spec := "replicaNew", unfollowed := true, recurses := true, apart := false, narrowed := true }
def ReplicaNewUptoSaid : Prop := replicaNewUptoRow.holds Try.pinned (OpenSpec.upto replicaNewSpec)

/-- 'cellplanelaw08.JournalKeeps', WHERE WHAT IT READS IS OF BULK AT MOST 1048576: true; the input reads as it did. -/
def journalKeepsUptoRow : OpenClaim := { program := "ytoenaheehpjmiaa", sum := "bcac5675921debe7658b776fb73a486c08250540aab5ab8ae639996a585ec4fe", func := "cellplane/cellplanelaw08.JournalKeeps", spec := "journalKeeps", unfollowed := true, recurses := true, apart := false, narrowed := true }
def JournalKeepsUptoSaid : Prop := journalKeepsUptoRow.holds Try.pinned (OpenSpec.upto journalKeepsSpec)

/-- 'cellplanelaw08.JournalVotes', WHERE WHAT IT READS IS OF BULK AT MOST 1048576: true; the input reads as it did. -/
def journalVotesUptoRow : OpenClaim := { program := "ytoenaheehpjmiaa", sum := "bcac5675921debe7658b776fb73a486c08250540aab5ab8ae639996a585ec4fe", func := "cellplane/cellplanelaw08.JournalVotes", spec := "journalVotes", unfollowed := true, recurses := true, apart := false, narrowed := true }
def JournalVotesUptoSaid : Prop := journalVotesUptoRow.holds Try.pinned (OpenSpec.upto journalVotesSpec)

/-- 'cellplanelaw08.JournalOrder', WHERE WHAT IT READS IS OF BULK AT MOST 1048576: true; the input reads as it did. -/
def journalOrderUptoRow : OpenClaim := { program := "ytoenaheehpjmiaa", sum := "bcac5675921debe7658b776fb73a486c08250540aab5ab8ae639996a585ec4fe", func := "cellplane/cellplanelaw08.JournalOrder", spec := "journalOrder", unfollowed := true, recurses := true, apart := false, narrowed := true }
def JournalOrderUptoSaid : Prop := journalOrderUptoRow.holds Try.pinned (OpenSpec.upto journalOrderSpec)

/-- 'cellplanelaw08.JournalPlays', WHERE WHAT IT READS IS OF BULK AT MOST 1048576: true; the input reads as it did. -/
def journalPlaysUptoRow : OpenClaim := { program := "ytoenaheehpjmiaa", sum := "bcac5675921debe7658b776fb73a486c08250540aab5ab8ae639996a585ec4fe", func := "cellplane/cellplanelaw08.JournalPlays", spec := "journalPlays", unfollowed := true, recurses := true, apart := false, narrowed := true }
def JournalPlaysUptoSaid : Prop := journalPlaysUptoRow.holds Try.pinned (OpenSpec.upto journalPlaysSpec)

/-- 'cellplanelaw08.JournalOpens', WHERE WHAT IT READS IS OF BULK AT MOST 1048576: true; the input reads as it did. -/
def journalOpensUptoRow : OpenClaim := { program := "ytoenaheehpjmiaa", sum := "bcac5675921debe7658b776fb73a486c08250540aab5ab8ae639996a585ec4fe", func := "cellplane/cellplanelaw08.JournalOpens", spec := "journalOpens", unfollowed := true, recurses := true, apart := false, narrowed := true }
def JournalOpensUptoSaid : Prop := journalOpensUptoRow.holds Try.pinned (OpenSpec.upto journalOpensSpec)

/-- 'cellplanelaw08.JournalReopens', WHERE WHAT IT READS IS OF BULK AT MOST 1048576: true; the input reads as it did. -/
def journalReopensUptoRow : OpenClaim := { program := "ytoenaheehpjmiaa", sum := "bcac5675921debe7658b776fb73a486c08250540aab5ab8ae639996a585ec4fe", func := "cellplane/cellplanelaw08.JournalReopens", spec := "journalReopens", unfollowed := true, recurses := true, apart := false, narrowed := true }
def JournalReopensUptoSaid : Prop := journalReopensUptoRow.holds Try.pinned (OpenSpec.upto journalReopensSpec)

/-- 'cellplanelaw08.JournalCopies', WHERE WHAT IT READS IS OF BULK AT MOST 1048576: true; the input reads as it did. -/
def journalCopiesUptoRow : OpenClaim := { program := "ytoenaheehpjmiaa", sum := "bcac5675921debe7658b776fb73a486c08250540aab5ab8ae639996a585ec4fe", func := "cellplane/cellplanelaw08.JournalCopies", spec := "journalCopies", unfollowed := true, recurses := true, apart := false, narrowed := true }
def JournalCopiesUptoSaid : Prop := journalCopiesUptoRow.holds Try.pinned (OpenSpec.upto journalCopiesSpec)

/-- 'cellplanelaw09.ReplicaElected', WHERE WHAT IT READS IS OF BULK AT MOST 1048576: true; the input reads as it did. -/
def replicaElectedUptoRow : OpenClaim := { program := "ytoenaheehpjmiaa", sum := "bcac5675921debe7658b776fb73a486c08250540aab5ab8ae639996a585ec4fe", func := "cellplane/cellplanelaw09.ReplicaElected", spec := "replicaElected", unfollowed := true, recurses := true, apart := false, narrowed := true }
def ReplicaElectedUptoSaid : Prop := replicaElectedUptoRow.holds Try.pinned (OpenSpec.upto replicaElectedSpec)

/-- 'cellplanelaw09.ReplicaStores', WHERE WHAT IT READS IS OF BULK AT MOST 1048576: true; the input reads as it did. -/
def replicaStoresUptoRow : OpenClaim := { program := "ytoenaheehpjmiaa", sum := "bcac5675921debe7658b776fb73a486c08250540aab5ab8ae639996a585ec4fe", func := "cellplane/cellplanelaw09.ReplicaStores", spec := "replicaStores", unfollowed := true, recurses := true, apart := false, narrowed := true }
def ReplicaStoresUptoSaid : Prop := replicaStoresUptoRow.holds Try.pinned (OpenSpec.upto replicaStoresSpec)

/-- 'cellplanelaw10.QuorumNew', WHERE WHAT IT READS IS OF BULK AT MOST 1048576: true; the input reads as it did. -/
def quorumNewUptoRow : OpenClaim := { program := "ytoenaheehpjmiaa", sum := "bcac5675921debe7658b776fb73a486c08250540aab5ab8ae639996a585ec4fe", func := "cellplane/cellplanelaw10.QuorumNew", spec := "quorumNew", unfollowed := true, recurses := true, apart := false, narrowed := true }
def QuorumNewUptoSaid : Prop := quorumNewUptoRow.holds Try.pinned (OpenSpec.upto quorumNewSpec)

/-- 'cellplanelaw10.QuorumMatches', WHERE WHAT IT READS IS OF BULK AT MOST 1048576: true; the input reads as it did. -/
def quorumMatchesUptoRow : OpenClaim := { program := "ytoenaheehpjmiaa", sum := "bcac5675921debe7658b776fb73a486c08250540aab5ab8ae639996a585ec4fe", func := "cellplane/cellplanelaw10.QuorumMatches", spec := "quorumMatches", unfollowed := true, recurses := true, apart := false, narrowed := true }
def QuorumMatchesUptoSaid : Prop := quorumMatchesUptoRow.holds Try.pinned (OpenSpec.upto quorumMatchesSpec)

/-- 'cellplanelaw10.QuorumLeads', WHERE WHAT IT READS IS OF BULK AT MOST 1048576: true; the input reads as it did. -/
def quorumLeadsUptoRow : OpenClaim := { program := "ytoenaheehpjmiaa", sum := "bcac5675921debe7658b776fb73a486c08250540aab5ab8ae639996a585ec4fe", func := "cellplane/cellplanelaw10.QuorumLeads", spec := "quorumLeads", unfollowed := true, recurses := true, apart := false, narrowed := true }
def QuorumLeadsUptoSaid : Prop := quorumLeadsUptoRow.holds Try.pinned (OpenSpec.upto quorumLeadsSpec)

/-- 'cellplanelaw10.QuorumAgrees', WHERE WHAT IT READS IS OF BULK AT MOST 1048576: true; the input reads as it did. -/
def quorumAgreesUptoRow : OpenClaim := { program := "ytoenaheehpjmiaa", sum := "bcac5675921debe7658b776fb73a486c08250540aab5ab8ae639996a585ec4fe", func := "cellplane/cellplanelaw10.QuorumAgrees", spec := "quorumAgrees", unfollowed := true, recurses := true, apart := false, narrowed := true }
def QuorumAgreesUptoSaid : Prop := quorumAgreesUptoRow.holds Try.pinned (OpenSpec.upto quorumAgreesSpec)

/-- 'cellplanelaw10.QuorumCommits', WHERE WHAT IT READS IS OF BULK AT MOST 1048576: true; the input reads as it did. -/
def quorumCommitsUptoRow : OpenClaim := { program := "ytoenaheehpjmiaa", sum := "bcac5675921debe7658b776fb73a486c08250540aab5ab8ae639996a585ec4fe", func := "cellplane/cellplanelaw10.QuorumCommits", spec := "quorumCommits", unfollowed := true, recurses := true, apart := false, narrowed := true }
def QuorumCommitsUptoSaid : Prop := quorumCommitsUptoRow.holds Try.pinned (OpenSpec.upto quorumCommitsSpec)

end Rows
end Go.Proofs.Ytoenaheehpjmiaa
