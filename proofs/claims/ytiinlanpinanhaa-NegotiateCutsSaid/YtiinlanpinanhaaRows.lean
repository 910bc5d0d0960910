/-
  No cell of these rows narrows 'for every input' (looked for: loops, veiled, ifaces, maps, wideKeys, modest, calm, conditions, laid).
  DERIVED. THE GIVEN ROWS OF THIS SEAT. 11 by the template 'for every input the law returns true; each argument reads behind the call as it read before'; 0 by the template 'total and deterministic' (their statements: YtiinlanpinanhaaTotals.lean).
  GIVEN WITH THE SEED: the statements are not yours to turn. If you find one false, say at which input.
  Laid BY PROGRAM, IN A SANDBOX (cutbox-rows.mjs): the forced cells as the released guide's own fill.sh prints them over the translation 853074b8cb4cc009… (all of the seat's roots in one cut). By AI agents, Wed Nov 11 2026. No macro, syntax, notation, axiom, sorry.
-/
import Derived.Test.YtiinlanpinanhaaChecked
import GoSem.Claim
import GoSem.ClaimJoined
import GoSem.ClaimMapViews
import Derived.JoinedTies
import Derived.KernelRfl
namespace Go.Proofs.Ytiinlanpinanhaa
/- THE CELL 'sum', in the pinned program and in every row, IS THE sha256 OF THE DUMP (.gsa) THAT YtiinlanpinanhaaProg.lean LOADS. Nothing in Lean hashes anything: it is a label: what it is worth is what the hold of that sum in a sandbox is worth. -/
noncomputable def Try.pinned : Pinned := { name := "ytiinlanpinanhaa", sum := "853074b8cb4cc00987c22eff0db2538143eec1262435e51247fcb5fe4cd8c78a", checked := Try.checked }
namespace Rows
def none {H : Type} : Left H := { results := [], args := [] }

/-- 'ipsecgatelaw05.SelectorMeets': WHATEVER THE INPUT: true; the input reads as it did. -/
def selectorMeetsSpec : ChangeSpec := { name := "selectorMeets", fn := fun _ => fun
  | [d] => { results := [.lit (.bool true)], args := [d] }
  | _ => none }
def selectorMeetsRow : OpenClaim := { program := "ytiinlanpinanhaa", sum := "853074b8cb4cc00987c22eff0db2538143eec1262435e51247fcb5fe4cd8c78a", func := "ipsecgate/ipsecgatelaw05.SelectorMeets", spec := "selectorMeets", plainKeys := false, apart := false }
def SelectorMeetsSaid : Prop := selectorMeetsRow.holds Try.pinned (OpenSpec.ofChange selectorMeetsSpec)

/-- ITS FALSE NEIGHBOUR: 'it returns false'. Refute it at one input. -/
def selectorMeetsWrong : ChangeSpec := { name := "selectorMeets", fn := fun _ => fun
  | [d] => { results := [.lit (.bool false)], args := [d] }
  | _ => none }
def SelectorMeetsWrongFalsely : Prop := selectorMeetsRow.holds Try.pinned (OpenSpec.ofChange selectorMeetsWrong)

/-- 'ipsecgatelaw05.SelectorSets': WHATEVER THE INPUT: true; the input reads as it did. -/
def selectorSetsSpec : ChangeSpec := { name := "selectorSets", fn := fun _ => fun
  | [d1, d2] => { results := [.lit (.bool true)], args := [d1, d2] }
  | _ => none }
def selectorSetsRow : OpenClaim := { program := "ytiinlanpinanhaa", sum := "853074b8cb4cc00987c22eff0db2538143eec1262435e51247fcb5fe4cd8c78a", func := "ipsecgate/ipsecgatelaw05.SelectorSets", spec := "selectorSets", plainKeys := false, apart := false }
def SelectorSetsSaid : Prop := selectorSetsRow.holds Try.pinned (OpenSpec.ofChange selectorSetsSpec)

/-- ITS FALSE NEIGHBOUR: 'it returns false'. Refute it at one input. -/
def selectorSetsWrong : ChangeSpec := { name := "selectorSets", fn := fun _ => fun
  | [d1, d2] => { results := [.lit (.bool false)], args := [d1, d2] }
  | _ => none }
def SelectorSetsWrongFalsely : Prop := selectorSetsRow.holds Try.pinned (OpenSpec.ofChange selectorSetsWrong)

/-- 'ipsecgatelaw21.NegotiatePrefers': WHATEVER THE INPUT: true; the input reads as it did. -/
def negotiatePrefersSpec : ChangeSpec := { name := "negotiatePrefers", fn := fun _ => fun
  | [d1, d2] => { results := [.lit (.bool true)], args := [d1, d2] }
  | _ => none }
def negotiatePrefersRow : OpenClaim := { program := "ytiinlanpinanhaa", sum := "853074b8cb4cc00987c22eff0db2538143eec1262435e51247fcb5fe4cd8c78a", func := "ipsecgate/ipsecgatelaw21.NegotiatePrefers", spec := "negotiatePrefers", unfollowed := true, recurses := true, plainKeys := false, apart := false }
def NegotiatePrefersSaid : Prop := negotiatePrefersRow.holds Try.pinned (OpenSpec.ofChange negotiatePrefersSpec)

/-- ITS FALSE NEIGHBOUR: 'it returns false'. Refute it at one input. -/
def negotiatePrefersWrong : ChangeSpec := { name := "negotiatePrefers", fn := fun _ => fun
  | [d1, d2] => { results := [.lit (.bool false)], args := [d1, d2] }
  | _ => none }
def NegotiatePrefersWrongFalsely : Prop := negotiatePrefersRow.holds Try.pinned (OpenSpec.ofChange negotiatePrefersWrong)

/-- 'ipsecgatelaw21.NegotiateAccepts': WHATEVER THE INPUT: true; the input reads as it did. -/
def negotiateAcceptsSpec : ChangeSpec := { name := "negotiateAccepts", fn := fun _ => fun
  | [d] => { results := [.lit (.bool true)], args := [d] }
  | _ => none }
def negotiateAcceptsRow : OpenClaim := { program := "ytiinlanpinanhaa", sum := "853074b8cb4cc00987c22eff0db2538143eec1262435e51247fcb5fe4cd8c78a", func := "ipsecgate/ipsecgatelaw21.NegotiateAccepts", spec := "negotiateAccepts", unfollowed := true, recurses := true, plainKeys := false, apart := false }
def NegotiateAcceptsSaid : Prop := negotiateAcceptsRow.holds Try.pinned (OpenSpec.ofChange negotiateAcceptsSpec)

/-- ITS FALSE NEIGHBOUR: 'it returns false'. Refute it at one input. -/
def negotiateAcceptsWrong : ChangeSpec := { name := "negotiateAccepts", fn := fun _ => fun
  | [d] => { results := [.lit (.bool false)], args := [d] }
  | _ => none }
def NegotiateAcceptsWrongFalsely : Prop := negotiateAcceptsRow.holds Try.pinned (OpenSpec.ofChange negotiateAcceptsWrong)

/-- 'ipsecgatelaw05.SelectorWrites': WHATEVER THE INPUT: true; the input reads as it did. -/
def selectorWritesSpec : ChangeSpec := { name := "selectorWrites", fn := fun _ => fun
  | [d1, d2, d3, d4] => { results := [.lit (.bool true)], args := [d1, d2, d3, d4] }
  | _ => none }
def selectorWritesRow : OpenClaim := { program := "ytiinlanpinanhaa", sum := "853074b8cb4cc00987c22eff0db2538143eec1262435e51247fcb5fe4cd8c78a", func := "ipsecgate/ipsecgatelaw05.SelectorWrites", spec := "selectorWrites", plainKeys := false, apart := false }
def SelectorWritesSaid : Prop := selectorWritesRow.holds Try.pinned (OpenSpec.ofChange selectorWritesSpec)

/-- ITS FALSE NEIGHBOUR: 'it returns false'. Refute it at one input. -/
def selectorWritesWrong : ChangeSpec := { name := "selectorWrites", fn := fun _ => fun
  | [d1, d2, d3, d4] => { results := [.lit (.bool false)], args := [d1, d2, d3, d4] }
  | _ => none }
def SelectorWritesWrongFalsely : Prop := selectorWritesRow.holds Try.pinned (OpenSpec.ofChange selectorWritesWrong)

/-- 'ipsecgatelaw21.NegotiateWithin': WHATEVER THE INPUT: true; the input reads as it did. -/
def negotiateWithinSpec : ChangeSpec := { name := "negotiateWithin", fn := fun _ => fun
  | [d1, d2] => { results := [.lit (.bool true)], args := [d1, d2] }
  | _ => none }
def negotiateWithinRow : OpenClaim := { program := "ytiinlanpinanhaa", sum := "853074b8cb4cc00987c22eff0db2538143eec1262435e51247fcb5fe4cd8c78a", func := "ipsecgate/ipsecgatelaw21.NegotiateWithin", spec := "negotiateWithin", unfollowed := true, recurses := true, plainKeys := false, apart := false }
def NegotiateWithinSaid : Prop := negotiateWithinRow.holds Try.pinned (OpenSpec.ofChange negotiateWithinSpec)

/-- ITS FALSE NEIGHBOUR: 'it returns false'. Refute it at one input. -/
def negotiateWithinWrong : ChangeSpec := { name := "negotiateWithin", fn := fun _ => fun
  | [d1, d2] => { results := [.lit (.bool false)], args := [d1, d2] }
  | _ => none }
def NegotiateWithinWrongFalsely : Prop := negotiateWithinRow.holds Try.pinned (OpenSpec.ofChange negotiateWithinWrong)

/-- 'ipsecgatelaw05.SelectorReads': WHATEVER THE INPUT: true; the input reads as it did. -/
def selectorReadsSpec : ChangeSpec := { name := "selectorReads", fn := fun _ => fun
  | [d1, d2] => { results := [.lit (.bool true)], args := [d1, d2] }
  | _ => none }
def selectorReadsRow : OpenClaim := { program := "ytiinlanpinanhaa", sum := "853074b8cb4cc00987c22eff0db2538143eec1262435e51247fcb5fe4cd8c78a", func := "ipsecgate/ipsecgatelaw05.SelectorReads", spec := "selectorReads", plainKeys := false, apart := false }
def SelectorReadsSaid : Prop := selectorReadsRow.holds Try.pinned (OpenSpec.ofChange selectorReadsSpec)

/-- ITS FALSE NEIGHBOUR: 'it returns false'. Refute it at one input. -/
def selectorReadsWrong : ChangeSpec := { name := "selectorReads", fn := fun _ => fun
  | [d1, d2] => { results := [.lit (.bool false)], args := [d1, d2] }
  | _ => none }
def SelectorReadsWrongFalsely : Prop := selectorReadsRow.holds Try.pinned (OpenSpec.ofChange selectorReadsWrong)

/-- 'ipsecgatelaw05.SelectorReturns': WHATEVER THE INPUT: true; the input reads as it did. -/
def selectorReturnsSpec : ChangeSpec := { name := "selectorReturns", fn := fun _ => fun
  | [d1, d2] => { results := [.lit (.bool true)], args := [d1, d2] }
  | _ => none }
def selectorReturnsRow : OpenClaim := { program := "ytiinlanpinanhaa", sum := "853074b8cb4cc00987c22eff0db2538143eec1262435e51247fcb5fe4cd8c78a", func := "ipsecgate/ipsecgatelaw05.SelectorReturns", spec := "selectorReturns", plainKeys := false, apart := false }
def SelectorReturnsSaid : Prop := selectorReturnsRow.holds Try.pinned (OpenSpec.ofChange selectorReturnsSpec)

/-- ITS FALSE NEIGHBOUR: 'it returns false'. Refute it at one input. -/
def selectorReturnsWrong : ChangeSpec := { name := "selectorReturns", fn := fun _ => fun
  | [d1, d2] => { results := [.lit (.bool false)], args := [d1, d2] }
  | _ => none }
def SelectorReturnsWrongFalsely : Prop := selectorReturnsRow.holds Try.pinned (OpenSpec.ofChange selectorReturnsWrong)

/-- 'ipsecgatelaw21.NegotiateTurns': WHATEVER THE INPUT: true; the input reads as it did. -/
def negotiateTurnsSpec : ChangeSpec := { name := "negotiateTurns", fn := fun _ => fun
  | [d] => { results := [.lit (.bool true)], args := [d] }
  | _ => none }
def negotiateTurnsRow : OpenClaim := { program := "ytiinlanpinanhaa", sum := "853074b8cb4cc00987c22eff0db2538143eec1262435e51247fcb5fe4cd8c78a", func := "ipsecgate/ipsecgatelaw21.NegotiateTurns", spec := "negotiateTurns", unfollowed := true, recurses := true, plainKeys := false, apart := false }
def NegotiateTurnsSaid : Prop := negotiateTurnsRow.holds Try.pinned (OpenSpec.ofChange negotiateTurnsSpec)

/-- ITS FALSE NEIGHBOUR: 'it returns false'. Refute it at one input. -/
def negotiateTurnsWrong : ChangeSpec := { name := "negotiateTurns", fn := fun _ => fun
  | [d] => { results := [.lit (.bool false)], args := [d] }
  | _ => none }
def NegotiateTurnsWrongFalsely : Prop := negotiateTurnsRow.holds Try.pinned (OpenSpec.ofChange negotiateTurnsWrong)

/-- 'ipsecgatelaw21.NegotiateNarrows': WHATEVER THE INPUT: true; the input reads as it did. -/
def negotiateNarrowsSpec : ChangeSpec := { name := "negotiateNarrows", fn := fun _ => fun
  | [d1, d2] => { results := [.lit (.bool true)], args := [d1, d2] }
  | _ => none }
def negotiateNarrowsRow : OpenClaim := { program := "ytiinlanpinanhaa", sum := "853074b8cb4cc00987c22eff0db2538143eec1262435e51247fcb5fe4cd8c78a", func := "ipsecgate/ipsecgatelaw21.NegotiateNarrows", spec := "negotiateNarrows", unfollowed := true, recurses := true, plainKeys := false, apart := false }
def NegotiateNarrowsSaid : Prop := negotiateNarrowsRow.holds Try.pinned (OpenSpec.ofChange negotiateNarrowsSpec)

/-- ITS FALSE NEIGHBOUR: 'it returns false'. Refute it at one input. -/
def negotiateNarrowsWrong : ChangeSpec := { name := "negotiateNarrows", fn := fun _ => fun
  | [d1, d2] => { results := [.lit (.bool false)], args := [d1, d2] }
  | _ => none }
def NegotiateNarrowsWrongFalsely : Prop := negotiateNarrowsRow.holds Try.pinned (OpenSpec.ofChange negotiateNarrowsWrong)

/-- 'ipsecgatelaw21.NegotiateCuts': WHATEVER THE INPUT: true; the input reads as it did. -/
def negotiateCutsSpec : ChangeSpec := { name := "negotiateCuts", fn := fun _ => fun
  | [d1, d2] => { results := [.lit (.bool true)], args := [d1, d2] }
  | _ => none }
def negotiateCutsRow : OpenClaim := { program := "ytiinlanpinanhaa", sum := "853074b8cb4cc00987c22eff0db2538143eec1262435e51247fcb5fe4cd8c78a", func := "ipsecgate/ipsecgatelaw21.NegotiateCuts", spec := "negotiateCuts", unfollowed := true, recurses := true, plainKeys := false, apart := false }
def NegotiateCutsSaid : Prop := negotiateCutsRow.holds Try.pinned (OpenSpec.ofChange negotiateCutsSpec)

/-- ITS FALSE NEIGHBOUR: 'it returns false'. Refute it at one input. -/
def negotiateCutsWrong : ChangeSpec := { name := "negotiateCuts", fn := fun _ => fun
  | [d1, d2] => { results := [.lit (.bool false)], args := [d1, d2] }
  | _ => none }
def NegotiateCutsWrongFalsely : Prop := negotiateCutsRow.holds Try.pinned (OpenSpec.ofChange negotiateCutsWrong)

/- THE SECOND FORM. 'bulk': how many values and letters a reading holds, each counted each time it is reached (what is shared counts as often as it is met; a slice's spare places count too). A statement '..UptoSaid' is the law's where the arguments, and the package variables that the reading takes, are together of bulk at most 1048576: NARROWER than '..Said'. Prove '..Said' where nothing that the law and all that it calls make is longer than what came in: it says more and counts as full. Else prove '..UptoSaid'. A law counts once. -/
mutual
def uptoBulk {H : Type} : DataW H → Nat
  | .lit (.string bytes) => bytes.length + 1
  | .lit _ => 1
  | .nil => 1
  | .ptr d => uptoBulk d + 1
  | .slice elems spare => uptoBulkAll elems + uptoBulkAll spare + 1
  | .agg parts => uptoBulkAll parts + 1
  | .iface _ d => uptoBulk d + 1
  | .map entries => uptoBulkEntries entries + 1
  | .held _ => 1
def uptoBulkAll {H : Type} : List (DataW H) → Nat
  | [] => 0
  | d :: r => uptoBulk d + uptoBulkAll r
def uptoBulkEntries {H : Type} : List (Lit × DataW H) → Nat
  | [] => 0
  | x :: r => uptoBulkEntry x + uptoBulkEntries r
def uptoBulkEntry {H : Type} : Lit × DataW H → Nat
  | (.string bytes, d) => bytes.length + uptoBulk d + 1
  | (_, d) => uptoBulk d + 1
 end
def uptoSmall : (H : Type) → List (DataW H) → Bool := fun _ ds => decide (uptoBulkAll ds ≤ 1048576)
def OpenSpec.upto (s : _root_.Go.ChangeSpec) : _root_.Go.OpenSpec := { _root_.Go.OpenSpec.ofChange s with cond := some uptoSmall }

/-- 'ipsecgatelaw05.SelectorMeets', WHERE WHAT IT READS IS OF BULK AT MOST 1048576: true; the input reads as it did. -/
def selectorMeetsUptoRow : OpenClaim := { program := "ytiinlanpinanhaa", sum := "853074b8cb4cc00987c22eff0db2538143eec1262435e51247fcb5fe4cd8c78a", func := "ipsecgate/ipsecgatelaw05.SelectorMeets", spec := "selectorMeets", plainKeys := false, apart := false, narrowed := true }
def SelectorMeetsUptoSaid : Prop := selectorMeetsUptoRow.holds Try.pinned (OpenSpec.upto selectorMeetsSpec)

/-- 'ipsecgatelaw05.SelectorSets', WHERE WHAT IT READS IS OF BULK AT MOST 1048576: true; the input reads as it did. -/
def selectorSetsUptoRow : OpenClaim := { program := "ytiinlanpinanhaa", sum := "853074b8cb4cc00987c22eff0db2538143eec1262435e51247fcb5fe4cd8c78a", func := "ipsecgate/ipsecgatelaw05.SelectorSets", spec := "selectorSets", plainKeys := false, apart := false, narrowed := true }
def SelectorSetsUptoSaid : Prop := selectorSetsUptoRow.holds Try.pinned (OpenSpec.upto selectorSetsSpec)

/-- 'ipsecgatelaw21.NegotiatePrefers', WHERE WHAT IT READS IS OF BULK AT MOST 1048576: true; the input reads as it did. -/
def negotiatePrefersUptoRow : OpenClaim := { program := "ytiinlanpinanhaa", sum := "853074b8cb4cc00987c22eff0db2538143eec1262435e51247fcb5fe4cd8c78a", func := "ipsecgate/ipsecgatelaw21.NegotiatePrefers", spec := "negotiatePrefers", unfollowed := true, recurses := true, plainKeys := false, apart := false, narrowed := true }
def NegotiatePrefersUptoSaid : Prop := negotiatePrefersUptoRow.holds Try.pinned (OpenSpec.upto negotiatePrefersSpec)

/-- 'ipsecgatelaw21.NegotiateAccepts', WHERE WHAT IT READS IS OF BULK AT MOST 1048576: true; the input reads as it did. -/
def negotiateAcceptsUptoRow : OpenClaim := { program := "ytiinlanpinanhaa", sum := "853074b8cb4cc00987c22eff0db2538143eec1262435e51247fcb5fe4cd8c78a", func := "ipsecgate/ipsecgatelaw21.NegotiateAccepts", spec := "negotiateAccepts", unfollowed := true, recurses := true, plainKeys := false, apart := false, narrowed := true }
def NegotiateAcceptsUptoSaid : Prop := negotiateAcceptsUptoRow.holds Try.pinned (OpenSpec.upto negotiateAcceptsSpec)

/-- 'ipsecgatelaw05.SelectorWrites', WHERE WHAT IT READS IS OF BULK AT MOST 1048576: true; the input reads as it did. -/
def selectorWritesUptoRow : OpenClaim := { program := "ytiinlanpinanhaa", sum := "853074b8cb4cc00987c22eff0db2538143eec1262435e51247fcb5fe4cd8c78a", func := "ipsecgate/ipsecgatelaw05.SelectorWrites", spec := "selectorWrites", plainKeys := false, apart := false, narrowed := true }
def SelectorWritesUptoSaid : Prop := selectorWritesUptoRow.holds Try.pinned (OpenSpec.upto selectorWritesSpec)

/-- 'ipsecgatelaw21.NegotiateWithin', WHERE WHAT IT READS IS OF BULK AT MOST 1048576: true; the input reads as it did. -/
def negotiateWithinUptoRow : OpenClaim := { program := "ytiinlanpinanhaa", sum := "853074b8cb4cc00987c22eff0db2538143eec1262435e51247fcb5fe4cd8c78a", func := "ipsecgate/ipsecgatelaw21.NegotiateWithin", spec := "negotiateWithin", unfollowed := true, recurses := true, plainKeys := false, apart := false, narrowed := true }
def NegotiateWithinUptoSaid : Prop := negotiateWithinUptoRow.holds Try.pinned (OpenSpec.upto negotiateWithinSpec)

/-- 'ipsecgatelaw05.SelectorReads', WHERE WHAT IT READS IS OF BULK AT MOST 1048576: true; the input reads as it did. -/
def selectorReadsUptoRow : OpenClaim := { program := "ytiinlanpinanhaa", sum := "853074b8cb4cc00987c22eff0db2538143eec1262435e51247fcb5fe4cd8c78a", func := "ipsecgate/ipsecgatelaw05.SelectorReads", spec := "selectorReads", plainKeys := false, apart := false, narrowed := true }
def SelectorReadsUptoSaid : Prop := selectorReadsUptoRow.holds Try.pinned (OpenSpec.upto selectorReadsSpec)

/-- 'ipsecgatelaw05.SelectorReturns', WHERE WHAT IT READS IS OF BULK AT MOST 1048576: true; the input reads as it did. -/
def selectorReturnsUptoRow : OpenClaim := { program := "ytiinlanpinanhaa", sum := "853074b8cb4cc00987c22eff0db2538143eec1262435e51247fcb5fe4cd8c78a", func := "ipsecgate/ipsecgatelaw05.SelectorReturns", spec := "selectorReturns", plainKeys := false, apart := false, narrowed := true }
def SelectorReturnsUptoSaid : Prop := selectorReturnsUptoRow.holds Try.pinned (OpenSpec.upto selectorReturnsSpec)

/-- 'ipsecgatelaw21.NegotiateTurns', WHERE WHAT IT READS IS OF BULK AT MOST 1048576: true; the input reads as it did. -/
def negotiateTurnsUptoRow : OpenClaim := { program := "ytiinlanpinanhaa", sum := "853074b8cb4cc00987c22eff0db2538143eec1262435e51247fcb5fe4cd8c78a", func := "ipsecgate/ipsecgatelaw21.NegotiateTurns", spec := "negotiateTurns", unfollowed := true, recurses := true, plainKeys := false, apart := false, narrowed := true }
def NegotiateTurnsUptoSaid : Prop := negotiateTurnsUptoRow.holds Try.pinned (OpenSpec.upto negotiateTurnsSpec)

/-- 'ipsecgatelaw21.NegotiateNarrows', WHERE WHAT IT READS IS OF BULK AT MOST 1048576: true; the input reads as it did. -/
def negotiateNarrowsUptoRow : OpenClaim := { program := "ytiinlanpinanhaa", sum := "853074b8cb4cc00987c22eff0db2538143eec1262435e51247fcb5fe4cd8c78a", func := "ipsecgate/ipsecgatelaw21.NegotiateNarrows", spec := "negotiateNarrows", unfollowed := true, recurses := true, plainKeys := false, apart := false, narrowed := true }
def NegotiateNarrowsUptoSaid : Prop := negotiateNarrowsUptoRow.holds Try.pinned (OpenSpec.upto negotiateNarrowsSpec)

/-- 'ipsecgatelaw21.NegotiateCuts', WHERE WHAT IT READS IS OF BULK AT MOST 1048576: true; the input reads as it did. -/
def negotiateCutsUptoRow : OpenClaim := { program := "ytiinlanpinanhaa", sum := "853074b8cb4cc00987c22eff0db2538143eec1262435e51247fcb5fe4cd8c78a", func := "ipsecgate/ipsecgatelaw21.NegotiateCuts", spec := "negotiateCuts", unfollowed := true, recurses := true, plainKeys := false, apart := false, narrowed := true }
def NegotiateCutsUptoSaid : Prop := negotiateCutsUptoRow.holds Try.pinned (OpenSpec.upto negotiateCutsSpec)

end Rows
end Go.Proofs.Ytiinlanpinanhaa
