/-
  No cell of these rows narrows 'for every input' (looked for: loops, veiled, ifaces, maps, wideKeys, modest, calm, conditions, laid).
  DERIVED. THE GIVEN ROWS OF THIS SEAT. 4 by the template 'for every input the law returns true; each argument reads behind the call as it read before'; 0 by the template 'total and deterministic' (their statements: YtkeefgiajogkkaaTotals.lean).
  GIVEN WITH THE SEED: the statements are not yours to turn. If you find one false, say at which input.
  Laid BY PROGRAM, IN A SANDBOX (cutbox-rows.mjs): the forced cells as the released guide's own fill.sh prints them over the translation 8cda6577eeb32b4e… (all of the seat's roots in one cut). By AI agents, Wed Nov 11 2026. No macro, syntax, notation, axiom, sorry.
-/
import Derived.Test.YtkeefgiajogkkaaChecked
import GoSem.Claim
import GoSem.ClaimJoined
import GoSem.ClaimMapViews
import Derived.JoinedTies
import Derived.KernelRfl
namespace Go.Proofs.Ytkeefgiajogkkaa
/- THE CELL 'sum', in the pinned program and in every row, IS THE sha256 OF THE DUMP (.gsa) THAT YtkeefgiajogkkaaProg.lean LOADS. Nothing in Lean hashes anything: it is a label: what it is worth is what the hold of that sum in a sandbox is worth. -/
noncomputable def Try.pinned : Pinned := { name := "ytkeefgiajogkkaa", sum := "8cda6577eeb32b4eaa3382522c809dcc167a2ccf889119202e95bb06f1829c61", checked := Try.checked }
namespace Rows
def none {H : Type} : Left H := { results := [], args := [] }

/-- 'ipsecgatelaw04.ProposalReads': WHATEVER THE INPUT: true; the input reads as it did. -/
def proposalReadsSpec : ChangeSpec := { name := "proposalReads", fn := fun _ => fun
  | [d1, d2] => { results := [.lit (.bool true)], args := [d1, d2] }
  | _ => none }
def proposalReadsRow : OpenClaim := { program := "ytkeefgiajogkkaa", sum := "8cda6577eeb32b4eaa3382522c809dcc167a2ccf889119202e95bb06f1829c61", func := "ipsecgate/ipsecgatelaw04.ProposalReads", spec := "proposalReads", unfollowed := true, recurses := true, plainKeys := false, apart := false }
def ProposalReadsSaid : Prop := proposalReadsRow.holds Try.pinned (OpenSpec.ofChange proposalReadsSpec)

/-- ITS FALSE NEIGHBOUR: 'it returns false'. Refute it at one input. -/
def proposalReadsWrong : ChangeSpec := { name := "proposalReads", fn := fun _ => fun
  | [d1, d2] => { results := [.lit (.bool false)], args := [d1, d2] }
  | _ => none }
def ProposalReadsWrongFalsely : Prop := proposalReadsRow.holds Try.pinned (OpenSpec.ofChange proposalReadsWrong)

/-- 'ipsecgatelaw04.ProposalWrites': WHATEVER THE INPUT: true; the input reads as it did. -/
def proposalWritesSpec : ChangeSpec := { name := "proposalWrites", fn := fun _ => fun
  | [d] => { results := [.lit (.bool true)], args := [d] }
  | _ => none }
def proposalWritesRow : OpenClaim := { program := "ytkeefgiajogkkaa", sum := "8cda6577eeb32b4eaa3382522c809dcc167a2ccf889119202e95bb06f1829c61", func := "ipsecgate/ipsecgatelaw04.ProposalWrites", spec := "proposalWrites", unfollowed := true, recurses := true, plainKeys := false, apart := false }
def ProposalWritesSaid : Prop := proposalWritesRow.holds Try.pinned (OpenSpec.ofChange proposalWritesSpec)

/-- ITS FALSE NEIGHBOUR: 'it returns false'. Refute it at one input. -/
def proposalWritesWrong : ChangeSpec := { name := "proposalWrites", fn := fun _ => fun
  | [d] => { results := [.lit (.bool false)], args := [d] }
  | _ => none }
def ProposalWritesWrongFalsely : Prop := proposalWritesRow.holds Try.pinned (OpenSpec.ofChange proposalWritesWrong)

/-- 'ipsecgatelaw04.ProposalCuts': WHATEVER THE INPUT: true; the input reads as it did. -/
def proposalCutsSpec : ChangeSpec := { name := "proposalCuts", fn := fun _ => fun
  | [d1, d2] => { results := [.lit (.bool true)], args := [d1, d2] }
  | _ => none }
def proposalCutsRow : OpenClaim := { program := "ytkeefgiajogkkaa", sum := "8cda6577eeb32b4eaa3382522c809dcc167a2ccf889119202e95bb06f1829c61", func := "ipsecgate/ipsecgatelaw04.ProposalCuts", spec := "proposalCuts", unfollowed := true, recurses := true, plainKeys := false, apart := false }
def ProposalCutsSaid : Prop := proposalCutsRow.holds Try.pinned (OpenSpec.ofChange proposalCutsSpec)

/-- ITS FALSE NEIGHBOUR: 'it returns false'. Refute it at one input. -/
def proposalCutsWrong : ChangeSpec := { name := "proposalCuts", fn := fun _ => fun
  | [d1, d2] => { results := [.lit (.bool false)], args := [d1, d2] }
  | _ => none }
def ProposalCutsWrongFalsely : Prop := proposalCutsRow.holds Try.pinned (OpenSpec.ofChange proposalCutsWrong)

/-- 'ipsecgatelaw04.ProposalCounts': WHATEVER THE INPUT: true; the input reads as it did. -/
def proposalCountsSpec : ChangeSpec := { name := "proposalCounts", fn := fun _ => fun
  | [d1, d2] => { results := [.lit (.bool true)], args := [d1, d2] }
  | _ => none }
def proposalCountsRow : OpenClaim := { program := "ytkeefgiajogkkaa", sum := "8cda6577eeb32b4eaa3382522c809dcc167a2ccf889119202e95bb06f1829c61", func := "ipsecgate/ipsecgatelaw04.ProposalCounts", spec := "proposalCounts", unfollowed := true, recurses := true, plainKeys := false, apart := false }
def ProposalCountsSaid : Prop := proposalCountsRow.holds Try.pinned (OpenSpec.ofChange proposalCountsSpec)

/-- ITS FALSE NEIGHBOUR: 'it returns false'. Refute it at one input. -/
def proposalCountsWrong : ChangeSpec := { name := "proposalCounts", fn := fun _ => fun
  | [d1, d2] => { results := [.lit (.bool false)], args := [d1, d2] }
  | _ => none }
def ProposalCountsWrongFalsely : Prop := proposalCountsRow.holds Try.pinned (OpenSpec.ofChange proposalCountsWrong)

/- THE SECOND FORM. 'bulk': how many values and letters a reading holds, each counted each time it is reached (what is shared counts as often as it is met; a slice's spare places count too). A statement '..UptoSaid' is the law's where the arguments, and the package variables that the reading takes, are together of bulk at most 1048576: NARROWER than '..Said'. Prove '..Said' where nothing that the law and all that it calls make is longer than what came in: it says more and counts as full. Else prove '..UptoSaid'. A law counts once. -/
mutual
def uptoBulk {H : Type} : DataW H → Nat
  | .lit (.string bytes) => bytes.length + 1
  | .lit _ => 1
  | .nil => 1
  | .ptr d => uptoBulk d + 1
  | .slice elems spare => uptoBulkAll elems + uptoBulkAll spare + 1
  | .agg parts => uptoBulkAll parts + 1
  | .iface _ d => uptoBulk d + 1
  | .map entries => uptoBulkEntries entries + 1
  | .held _ => 1
def uptoBulkAll {H : Type} : List (DataW H) → Nat
  | [] => 0
  | d :: r => uptoBulk d + uptoBulkAll r
def uptoBulkEntries {H : Type} : List (Lit × DataW H) → Nat
  | [] => 0
  | x :: r => uptoBulkEntry x + uptoBulkEntries r
def uptoBulkEntry {H : Type} : Lit × DataW H → Nat
  | (.string bytes, d) => bytes.length + uptoBulk d + 1
  | (_, d) => uptoBulk d + 1
 end
def uptoSmall : (H : Type) → List (DataW H) → Bool := fun _ ds => decide (uptoBulkAll ds ≤ 1048576)
def OpenSpec.upto (s : _root_.Go.ChangeSpec) : _root_.Go.OpenSpec := { _root_.Go.OpenSpec.ofChange s with cond := some uptoSmall }

/-- 'ipsecgatelaw04.ProposalReads', WHERE WHAT IT READS IS OF BULK AT MOST 1048576: true; the input reads as it did. -/
def proposalReadsUptoRow : OpenClaim := { program := "ytkeefgiajogkkaa", sum := "8cda6577eeb32b4eaa3382522c809dcc167a2ccf889119202e95bb06f1829c61", func := "ipsecgate/ipsecgatelaw04.ProposalReads", spec := "proposalReads", unfollowed := true, recurses := true, plainKeys := false, apart := false, narrowed := true }
def ProposalReadsUptoSaid : Prop := proposalReadsUptoRow.holds Try.pinned (OpenSpec.upto proposalReadsSpec)

/-- 'ipsecgatelaw04.ProposalWrites', WHERE WHAT IT READS IS OF BULK AT MOST 1048576: true; the input reads as it did. -/
def proposalWritesUptoRow : OpenClaim := { program := "ytkeefgiajogkkaa", sum := "8cda6577eeb32b4eaa3382522c809dcc167a2ccf889119202e95bb06f1829c61", func := "ipsecgate/ipsecgatelaw04.ProposalWrites", spec := "proposalWrites", unfollowed := true, recurses := true, plainKeys := false, apart := false, narrowed := true }
def ProposalWritesUptoSaid : Prop := proposalWritesUptoRow.holds Try.pinned (OpenSpec.upto proposalWritesSpec)

/-- 'ipsecgatelaw04.ProposalCuts', WHERE WHAT IT READS IS OF BULK AT MOST 1048576: true; the input reads as it did. -/
def proposalCutsUptoRow : OpenClaim := { program := "ytkeefgiajogkkaa", sum := "8cda6577eeb32b4eaa3382522c809dcc167a2ccf889119202e95bb06f1829c61", func := "ipsecgate/ipsecgatelaw04.ProposalCuts", spec := "proposalCuts", unfollowed := true, recurses := true, plainKeys := false, apart := false, narrowed := true }
def ProposalCutsUptoSaid : Prop := proposalCutsUptoRow.holds Try.pinned (OpenSpec.upto proposalCutsSpec)

/-- 'ipsecgatelaw04.ProposalCounts', WHERE WHAT IT READS IS OF BULK AT MOST 1048576: true; the input reads as it did. -/
def proposalCountsUptoRow : OpenClaim := { program := "ytkeefgiajogkkaa", sum := "8cda6577eeb32b4eaa3382522c809dcc167a2ccf889119202e95bb06f1829c61", func := "ipsecgate/ipsecgatelaw04.ProposalCounts", spec := "proposalCounts", unfollowed := true, recurses := true, plainKeys := false, apart := false, narrowed := true }
def ProposalCountsUptoSaid : Prop := proposalCountsUptoRow.holds Try.pinned (OpenSpec.upto proposalCountsSpec)

end Rows
end Go.Proofs.Ytkeefgiajogkkaa
