/-
  No cell of these rows narrows 'for every input' (looked for: loops, veiled, ifaces, maps, wideKeys, modest, calm, conditions, laid).
  DERIVED. THE GIVEN ROWS OF THIS SEAT. 4 by the template 'for every input the law returns true; each argument reads behind the call as it read before'; 0 by the template 'total and deterministic' (their statements: YtihhjiinoffboaaTotals.lean).
  GIVEN WITH THE SEED: the statements are not yours to turn. If you find one false, say at which input.
  Laid BY PROGRAM, IN A SANDBOX (cutbox-rows.mjs): the forced cells as the released guide's own fill.sh prints them over the translation 02ffa764575ff04a… (all of the seat's roots in one cut). By AI agents, Wed Nov 11 2026. No macro, syntax, notation, axiom, sorry.
-/
import Derived.Test.YtihhjiinoffboaaChecked
import GoSem.Claim
import GoSem.ClaimJoined
import GoSem.ClaimMapViews
import Derived.JoinedTies
import Derived.KernelRfl
namespace Go.Proofs.Ytihhjiinoffboaa
/- THE CELL 'sum', in the pinned program and in every row, IS THE sha256 OF THE DUMP (.gsa) THAT YtihhjiinoffboaaProg.lean LOADS. Nothing in Lean hashes anything: it is a label: what it is worth is what the hold of that sum in a sandbox is worth. -/
noncomputable def Try.pinned : Pinned := { name := "ytihhjiinoffboaa", sum := "02ffa764575ff04adc28bb42d0aac3f9939e4f5534b4b2e24510fde1ac0d43ed", checked := Try.checked }
namespace Rows
def none {H : Type} : Left H := { results := [], args := [] }

/-- 'ipsecgatelaw01.WireOrders': WHATEVER THE INPUT: true; the input reads as it did. -/
def wireOrdersSpec : ChangeSpec := { name := "wireOrders", fn := fun _ => fun
  | [d1, d2, d3] => { results := [.lit (.bool true)], args := [d1, d2, d3] }
  | _ => none }
def wireOrdersRow : OpenClaim := { program := "ytihhjiinoffboaa", sum := "02ffa764575ff04adc28bb42d0aac3f9939e4f5534b4b2e24510fde1ac0d43ed", func := "ipsecgate/ipsecgatelaw01.WireOrders", spec := "wireOrders", inPlace := ["internal/bytealg.Compare"], apart := false }
def WireOrdersSaid : Prop := wireOrdersRow.holds Try.pinned (OpenSpec.ofChange wireOrdersSpec)

/-- ITS FALSE NEIGHBOUR: 'it returns false'. Refute it at one input. -/
def wireOrdersWrong : ChangeSpec := { name := "wireOrders", fn := fun _ => fun
  | [d1, d2, d3] => { results := [.lit (.bool false)], args := [d1, d2, d3] }
  | _ => none }
def WireOrdersWrongFalsely : Prop := wireOrdersRow.holds Try.pinned (OpenSpec.ofChange wireOrdersWrong)

/-- 'ipsecgatelaw01.WireCompares': WHATEVER THE INPUT: true; the input reads as it did. -/
def wireComparesSpec : ChangeSpec := { name := "wireCompares", fn := fun _ => fun
  | [d1, d2, d3] => { results := [.lit (.bool true)], args := [d1, d2, d3] }
  | _ => none }
def wireComparesRow : OpenClaim := { program := "ytihhjiinoffboaa", sum := "02ffa764575ff04adc28bb42d0aac3f9939e4f5534b4b2e24510fde1ac0d43ed", func := "ipsecgate/ipsecgatelaw01.WireCompares", spec := "wireCompares", inPlace := ["internal/bytealg.Compare"], apart := false }
def WireComparesSaid : Prop := wireComparesRow.holds Try.pinned (OpenSpec.ofChange wireComparesSpec)

/-- ITS FALSE NEIGHBOUR: 'it returns false'. Refute it at one input. -/
def wireComparesWrong : ChangeSpec := { name := "wireCompares", fn := fun _ => fun
  | [d1, d2, d3] => { results := [.lit (.bool false)], args := [d1, d2, d3] }
  | _ => none }
def WireComparesWrongFalsely : Prop := wireComparesRow.holds Try.pinned (OpenSpec.ofChange wireComparesWrong)

/-- 'ipsecgatelaw01.WireSlices': WHATEVER THE INPUT: true; the input reads as it did. -/
def wireSlicesSpec : ChangeSpec := { name := "wireSlices", fn := fun _ => fun
  | [d1, d2] => { results := [.lit (.bool true)], args := [d1, d2] }
  | _ => none }
def wireSlicesRow : OpenClaim := { program := "ytihhjiinoffboaa", sum := "02ffa764575ff04adc28bb42d0aac3f9939e4f5534b4b2e24510fde1ac0d43ed", func := "ipsecgate/ipsecgatelaw01.WireSlices", spec := "wireSlices", inPlace := ["internal/bytealg.Compare"], apart := false }
def WireSlicesSaid : Prop := wireSlicesRow.holds Try.pinned (OpenSpec.ofChange wireSlicesSpec)

/-- ITS FALSE NEIGHBOUR: 'it returns false'. Refute it at one input. -/
def wireSlicesWrong : ChangeSpec := { name := "wireSlices", fn := fun _ => fun
  | [d1, d2] => { results := [.lit (.bool false)], args := [d1, d2] }
  | _ => none }
def WireSlicesWrongFalsely : Prop := wireSlicesRow.holds Try.pinned (OpenSpec.ofChange wireSlicesWrong)

/-- 'ipsecgatelaw01.WireTexts': WHATEVER THE INPUT: true; the input reads as it did. -/
def wireTextsSpec : ChangeSpec := { name := "wireTexts", fn := fun _ => fun
  | [d1, d2] => { results := [.lit (.bool true)], args := [d1, d2] }
  | _ => none }
def wireTextsRow : OpenClaim := { program := "ytihhjiinoffboaa", sum := "02ffa764575ff04adc28bb42d0aac3f9939e4f5534b4b2e24510fde1ac0d43ed", func := "ipsecgate/ipsecgatelaw01.WireTexts", spec := "wireTexts", inPlace := ["internal/bytealg.Compare"], apart := false }
def WireTextsSaid : Prop := wireTextsRow.holds Try.pinned (OpenSpec.ofChange wireTextsSpec)

/-- ITS FALSE NEIGHBOUR: 'it returns false'. Refute it at one input. -/
def wireTextsWrong : ChangeSpec := { name := "wireTexts", fn := fun _ => fun
  | [d1, d2] => { results := [.lit (.bool false)], args := [d1, d2] }
  | _ => none }
def WireTextsWrongFalsely : Prop := wireTextsRow.holds Try.pinned (OpenSpec.ofChange wireTextsWrong)

/- THE SECOND FORM. 'bulk': how many values and letters a reading holds, each counted each time it is reached (what is shared counts as often as it is met; a slice's spare places count too). A statement '..UptoSaid' is the law's where the arguments, and the package variables that the reading takes, are together of bulk at most 1048576: NARROWER than '..Said'. Prove '..Said' where nothing that the law and all that it calls make is longer than what came in: it says more and counts as full. Else prove '..UptoSaid'. A law counts once. -/
mutual
def uptoBulk {H : Type} : DataW H → Nat
  | .lit (.string bytes) => bytes.length + 1
  | .lit _ => 1
  | .nil => 1
  | .ptr d => uptoBulk d + 1
  | .slice elems spare => uptoBulkAll elems + uptoBulkAll spare + 1
  | .agg parts => uptoBulkAll parts + 1
  | .iface _ d => uptoBulk d + 1
  | .map entries => uptoBulkEntries entries + 1
  | .held _ => 1
def uptoBulkAll {H : Type} : List (DataW H) → Nat
  | [] => 0
  | d :: r => uptoBulk d + uptoBulkAll r
def uptoBulkEntries {H : Type} : List (Lit × DataW H) → Nat
  | [] => 0
  | x :: r => uptoBulkEntry x + uptoBulkEntries r
def uptoBulkEntry {H : Type} : Lit × DataW H → Nat
  | (.string bytes, d) => bytes.length + uptoBulk d + 1
  | (_, d) => uptoBulk d + 1
 end
def uptoSmall : (H : Type) → List (DataW H) → Bool := fun _ ds => decide (uptoBulkAll ds ≤ 1048576)
def OpenSpec.upto (s : _root_.Go.ChangeSpec) : _root_.Go.OpenSpec := { _root_.Go.OpenSpec.ofChange s with cond := some uptoSmall }

/-- 'ipsecgatelaw01.WireOrders', WHERE WHAT IT READS IS OF BULK AT MOST 1048576: true; the input reads as it did. -/
def wireOrdersUptoRow : OpenClaim := { program := "ytihhjiinoffboaa", sum := "02ffa764575ff04adc28bb42d0aac3f9939e4f5534b4b2e24510fde1ac0d43ed", func := "ipsecgate/ipsecgatelaw01.WireOrders", spec := "wireOrders", inPlace := ["internal/bytealg.Compare"], apart := false, narrowed := true }
def WireOrdersUptoSaid : Prop := wireOrdersUptoRow.holds Try.pinned (OpenSpec.upto wireOrdersSpec)

/-- 'ipsecgatelaw01.WireCompares', WHERE WHAT IT READS IS OF BULK AT MOST 1048576: true; the input reads as it did. -/
def wireComparesUptoRow : OpenClaim := { program := "ytihhjiinoffboaa", sum := "02ffa764575ff04adc28bb42d0aac3f9939e4f5534b4b2e24510fde1ac0d43ed", func := "ipsecgate/ipsecgatelaw01.WireCompares", spec := "wireCompares", inPlace := ["internal/bytealg.Compare"], apart := false, narrowed := true }
def WireComparesUptoSaid : Prop := wireComparesUptoRow.holds Try.pinned (OpenSpec.upto wireComparesSpec)

/-- 'ipsecgatelaw01.WireSlices', WHERE WHAT IT READS IS OF BULK AT MOST 1048576: true; the input reads as it did. -/
def wireSlicesUptoRow : OpenClaim := { program := "ytihhjiinoffboaa", sum := "02ffa764575ff04adc28bb42d0aac3f9939e4f5534b4b2e24510fde1ac0d43ed", func := "ipsecgate/ipsecgatelaw01.WireSlices", spec := "wireSlices", inPlace := ["internal/bytealg.Compare"], apart := false, narrowed := true }
def WireSlicesUptoSaid : Prop := wireSlicesUptoRow.holds Try.pinned (OpenSpec.upto wireSlicesSpec)

/-- 'ipsecgatelaw01.WireTexts', WHERE WHAT IT READS IS OF BULK AT MOST 1048576: true; the input reads as it did. -/
def wireTextsUptoRow : OpenClaim := { program := "ytihhjiinoffboaa", sum := "02ffa764575ff04adc28bb42d0aac3f9939e4f5534b4b2e24510fde1ac0d43ed", func := "ipsecgate/ipsecgatelaw01.WireTexts", spec := "wireTexts", inPlace := ["internal/bytealg.Compare"], apart := false, narrowed := true }
def WireTextsUptoSaid : Prop := wireTextsUptoRow.holds Try.pinned (OpenSpec.upto wireTextsSpec)

end Rows
end Go.Proofs.Ytihhjiinoffboaa
