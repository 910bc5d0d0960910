/-
  No cell of these rows narrows 'for every input' (looked for: loops, veiled, ifaces, maps, wideKeys, modest, calm, conditions, laid).
  DERIVED. THE GIVEN ROWS OF THIS SEAT. 9 by the template 'for every input the law returns true; each argument reads behind the call as it read before'; 0 by the template 'total and deterministic' (their statements: YtfcpbeolhlkmnaaTotals.lean).
  GIVEN WITH THE SEED: the statements are not yours to turn. If you find one false, say at which input.
  Laid BY PROGRAM, IN A SANDBOX (cutbox-rows.mjs): the forced cells as the released guide's own fill.sh prints them over the translation 2d81064a7ec50943… (all of the seat's roots in one cut). By AI agents, Wed Nov 11 2026. No macro, syntax, notation, axiom, sorry.
-/
import Derived.Test.YtfcpbeolhlkmnaaChecked
import GoSem.Claim
import GoSem.ClaimJoined
import GoSem.ClaimMapViews
import Derived.JoinedTies
import Derived.KernelRfl
namespace Go.Proofs.Ytfcpbeolhlkmnaa
/- THE CELL 'sum', in the pinned program and in every row, IS THE sha256 OF THE DUMP (.gsa) THAT YtfcpbeolhlkmnaaProg.lean LOADS. Nothing in Lean hashes anything: it is a label: what it is worth is what the hold of that sum in a sandbox is worth. -/
noncomputable def Try.pinned : Pinned := { name := "ytfcpbeolhlkmnaa", sum := "2d81064a7ec50943518a4455ac5703e4b849f2c09ae65fe34c135b50748ac821", checked := Try.checked }
namespace Rows
def none {H : Type} : Left H := { results := [], args := [] }

/-- 'ipsecgatelaw03.ChainWrites': WHATEVER THE INPUT: true; the input reads as it did. -/
def chainWritesSpec : ChangeSpec := { name := "chainWrites", fn := fun _ => fun
  | [d1, d2, d3] => { results := [.lit (.bool true)], args := [d1, d2, d3] }
  | _ => none }
def chainWritesRow : OpenClaim := { program := "ytfcpbeolhlkmnaa", sum := "2d81064a7ec50943518a4455ac5703e4b849f2c09ae65fe34c135b50748ac821", func := "ipsecgate/ipsecgatelaw03.ChainWrites", spec := "chainWrites", apart := false }
def ChainWritesSaid : Prop := chainWritesRow.holds Try.pinned (OpenSpec.ofChange chainWritesSpec)

/-- ITS FALSE NEIGHBOUR: 'it returns false'. Refute it at one input. -/
def chainWritesWrong : ChangeSpec := { name := "chainWrites", fn := fun _ => fun
  | [d1, d2, d3] => { results := [.lit (.bool false)], args := [d1, d2, d3] }
  | _ => none }
def ChainWritesWrongFalsely : Prop := chainWritesRow.holds Try.pinned (OpenSpec.ofChange chainWritesWrong)

/-- 'ipsecgatelaw02.HeaderReads': WHATEVER THE INPUT: true; the input reads as it did. -/
def headerReadsSpec : ChangeSpec := { name := "headerReads", fn := fun _ => fun
  | [d1, d2] => { results := [.lit (.bool true)], args := [d1, d2] }
  | _ => none }
def headerReadsRow : OpenClaim := { program := "ytfcpbeolhlkmnaa", sum := "2d81064a7ec50943518a4455ac5703e4b849f2c09ae65fe34c135b50748ac821", func := "ipsecgate/ipsecgatelaw02.HeaderReads", spec := "headerReads", apart := false }
def HeaderReadsSaid : Prop := headerReadsRow.holds Try.pinned (OpenSpec.ofChange headerReadsSpec)

/-- ITS FALSE NEIGHBOUR: 'it returns false'. Refute it at one input. -/
def headerReadsWrong : ChangeSpec := { name := "headerReads", fn := fun _ => fun
  | [d1, d2] => { results := [.lit (.bool false)], args := [d1, d2] }
  | _ => none }
def HeaderReadsWrongFalsely : Prop := headerReadsRow.holds Try.pinned (OpenSpec.ofChange headerReadsWrong)

/-- 'ipsecgatelaw02.HeaderReturns': WHATEVER THE INPUT: true; the input reads as it did. -/
def headerReturnsSpec : ChangeSpec := { name := "headerReturns", fn := fun _ => fun
  | [d1, d2, d3, d4] => { results := [.lit (.bool true)], args := [d1, d2, d3, d4] }
  | _ => none }
def headerReturnsRow : OpenClaim := { program := "ytfcpbeolhlkmnaa", sum := "2d81064a7ec50943518a4455ac5703e4b849f2c09ae65fe34c135b50748ac821", func := "ipsecgate/ipsecgatelaw02.HeaderReturns", spec := "headerReturns", apart := false }
def HeaderReturnsSaid : Prop := headerReturnsRow.holds Try.pinned (OpenSpec.ofChange headerReturnsSpec)

/-- ITS FALSE NEIGHBOUR: 'it returns false'. Refute it at one input. -/
def headerReturnsWrong : ChangeSpec := { name := "headerReturns", fn := fun _ => fun
  | [d1, d2, d3, d4] => { results := [.lit (.bool false)], args := [d1, d2, d3, d4] }
  | _ => none }
def HeaderReturnsWrongFalsely : Prop := headerReturnsRow.holds Try.pinned (OpenSpec.ofChange headerReturnsWrong)

/-- 'ipsecgatelaw02.HeaderCuts': WHATEVER THE INPUT: true; the input reads as it did. -/
def headerCutsSpec : ChangeSpec := { name := "headerCuts", fn := fun _ => fun
  | [d1, d2, d3] => { results := [.lit (.bool true)], args := [d1, d2, d3] }
  | _ => none }
def headerCutsRow : OpenClaim := { program := "ytfcpbeolhlkmnaa", sum := "2d81064a7ec50943518a4455ac5703e4b849f2c09ae65fe34c135b50748ac821", func := "ipsecgate/ipsecgatelaw02.HeaderCuts", spec := "headerCuts", apart := false }
def HeaderCutsSaid : Prop := headerCutsRow.holds Try.pinned (OpenSpec.ofChange headerCutsSpec)

/-- ITS FALSE NEIGHBOUR: 'it returns false'. Refute it at one input. -/
def headerCutsWrong : ChangeSpec := { name := "headerCuts", fn := fun _ => fun
  | [d1, d2, d3] => { results := [.lit (.bool false)], args := [d1, d2, d3] }
  | _ => none }
def HeaderCutsWrongFalsely : Prop := headerCutsRow.holds Try.pinned (OpenSpec.ofChange headerCutsWrong)

/-- 'ipsecgatelaw02.HeaderWrites': WHATEVER THE INPUT: true; the input reads as it did. -/
def headerWritesSpec : ChangeSpec := { name := "headerWrites", fn := fun _ => fun
  | [d1, d2, d3] => { results := [.lit (.bool true)], args := [d1, d2, d3] }
  | _ => none }
def headerWritesRow : OpenClaim := { program := "ytfcpbeolhlkmnaa", sum := "2d81064a7ec50943518a4455ac5703e4b849f2c09ae65fe34c135b50748ac821", func := "ipsecgate/ipsecgatelaw02.HeaderWrites", spec := "headerWrites", apart := false }
def HeaderWritesSaid : Prop := headerWritesRow.holds Try.pinned (OpenSpec.ofChange headerWritesSpec)

/-- ITS FALSE NEIGHBOUR: 'it returns false'. Refute it at one input. -/
def headerWritesWrong : ChangeSpec := { name := "headerWrites", fn := fun _ => fun
  | [d1, d2, d3] => { results := [.lit (.bool false)], args := [d1, d2, d3] }
  | _ => none }
def HeaderWritesWrongFalsely : Prop := headerWritesRow.holds Try.pinned (OpenSpec.ofChange headerWritesWrong)

/-- 'ipsecgatelaw03.ChainReads': WHATEVER THE INPUT: true; the input reads as it did. -/
def chainReadsSpec : ChangeSpec := { name := "chainReads", fn := fun _ => fun
  | [d1, d2, d3] => { results := [.lit (.bool true)], args := [d1, d2, d3] }
  | _ => none }
def chainReadsRow : OpenClaim := { program := "ytfcpbeolhlkmnaa", sum := "2d81064a7ec50943518a4455ac5703e4b849f2c09ae65fe34c135b50748ac821", func := "ipsecgate/ipsecgatelaw03.ChainReads", spec := "chainReads", unfollowed := true, recurses := true, apart := false }
def ChainReadsSaid : Prop := chainReadsRow.holds Try.pinned (OpenSpec.ofChange chainReadsSpec)

/-- ITS FALSE NEIGHBOUR: 'it returns false'. Refute it at one input. -/
def chainReadsWrong : ChangeSpec := { name := "chainReads", fn := fun _ => fun
  | [d1, d2, d3] => { results := [.lit (.bool false)], args := [d1, d2, d3] }
  | _ => none }
def ChainReadsWrongFalsely : Prop := chainReadsRow.holds Try.pinned (OpenSpec.ofChange chainReadsWrong)

/-- 'ipsecgatelaw03.ChainReturns': WHATEVER THE INPUT: true; the input reads as it did. -/
def chainReturnsSpec : ChangeSpec := { name := "chainReturns", fn := fun _ => fun
  | [d1, d2] => { results := [.lit (.bool true)], args := [d1, d2] }
  | _ => none }
def chainReturnsRow : OpenClaim := { program := "ytfcpbeolhlkmnaa", sum := "2d81064a7ec50943518a4455ac5703e4b849f2c09ae65fe34c135b50748ac821", func := "ipsecgate/ipsecgatelaw03.ChainReturns", spec := "chainReturns", unfollowed := true, recurses := true, apart := false }
def ChainReturnsSaid : Prop := chainReturnsRow.holds Try.pinned (OpenSpec.ofChange chainReturnsSpec)

/-- ITS FALSE NEIGHBOUR: 'it returns false'. Refute it at one input. -/
def chainReturnsWrong : ChangeSpec := { name := "chainReturns", fn := fun _ => fun
  | [d1, d2] => { results := [.lit (.bool false)], args := [d1, d2] }
  | _ => none }
def ChainReturnsWrongFalsely : Prop := chainReturnsRow.holds Try.pinned (OpenSpec.ofChange chainReturnsWrong)

/-- 'ipsecgatelaw03.ChainCuts': WHATEVER THE INPUT: true; the input reads as it did. -/
def chainCutsSpec : ChangeSpec := { name := "chainCuts", fn := fun _ => fun
  | [d1, d2] => { results := [.lit (.bool true)], args := [d1, d2] }
  | _ => none }
def chainCutsRow : OpenClaim := { program := "ytfcpbeolhlkmnaa", sum := "2d81064a7ec50943518a4455ac5703e4b849f2c09ae65fe34c135b50748ac821", func := "ipsecgate/ipsecgatelaw03.ChainCuts", spec := "chainCuts", unfollowed := true, recurses := true, apart := false }
def ChainCutsSaid : Prop := chainCutsRow.holds Try.pinned (OpenSpec.ofChange chainCutsSpec)

/-- ITS FALSE NEIGHBOUR: 'it returns false'. Refute it at one input. -/
def chainCutsWrong : ChangeSpec := { name := "chainCuts", fn := fun _ => fun
  | [d1, d2] => { results := [.lit (.bool false)], args := [d1, d2] }
  | _ => none }
def ChainCutsWrongFalsely : Prop := chainCutsRow.holds Try.pinned (OpenSpec.ofChange chainCutsWrong)

/-- 'ipsecgatelaw03.ChainSealed': WHATEVER THE INPUT: true; the input reads as it did. -/
def chainSealedSpec : ChangeSpec := { name := "chainSealed", fn := fun _ => fun
  | [d1, d2, d3] => { results := [.lit (.bool true)], args := [d1, d2, d3] }
  | _ => none }
def chainSealedRow : OpenClaim := { program := "ytfcpbeolhlkmnaa", sum := "2d81064a7ec50943518a4455ac5703e4b849f2c09ae65fe34c135b50748ac821", func := "ipsecgate/ipsecgatelaw03.ChainSealed", spec := "chainSealed", unfollowed := true, recurses := true, apart := false }
def ChainSealedSaid : Prop := chainSealedRow.holds Try.pinned (OpenSpec.ofChange chainSealedSpec)

/-- ITS FALSE NEIGHBOUR: 'it returns false'. Refute it at one input. -/
def chainSealedWrong : ChangeSpec := { name := "chainSealed", fn := fun _ => fun
  | [d1, d2, d3] => { results := [.lit (.bool false)], args := [d1, d2, d3] }
  | _ => none }
def ChainSealedWrongFalsely : Prop := chainSealedRow.holds Try.pinned (OpenSpec.ofChange chainSealedWrong)

/- THE SECOND FORM. 'bulk': how many values and letters a reading holds, each counted each time it is reached (what is shared counts as often as it is met; a slice's spare places count too). A statement '..UptoSaid' is the law's where the arguments, and the package variables that the reading takes, are together of bulk at most 1048576: NARROWER than '..Said'. Prove '..Said' where nothing that the law and all that it calls make is longer than what came in: it says more and counts as full. Else prove '..UptoSaid'. A law counts once. -/
mutual
def uptoBulk {H : Type} : DataW H → Nat
  | .lit (.string bytes) => bytes.length + 1
  | .lit _ => 1
  | .nil => 1
  | .ptr d => uptoBulk d + 1
  | .slice elems spare => uptoBulkAll elems + uptoBulkAll spare + 1
  | .agg parts => uptoBulkAll parts + 1
  | .iface _ d => uptoBulk d + 1
  | .map entries => uptoBulkEntries entries + 1
  | .held _ => 1
def uptoBulkAll {H : Type} : List (DataW H) → Nat
  | [] => 0
  | d :: r => uptoBulk d + uptoBulkAll r
def uptoBulkEntries {H : Type} : List (Lit × DataW H) → Nat
  | [] => 0
  | x :: r => uptoBulkEntry x + uptoBulkEntries r
def uptoBulkEntry {H : Type} : Lit × DataW H → Nat
  | (.string bytes, d) => bytes.length + uptoBulk d + 1
  | (_, d) => uptoBulk d + 1
 end
def uptoSmall : (H : Type) → List (DataW H) → Bool := fun _ ds => decide (uptoBulkAll ds ≤ 1048576)
def OpenSpec.upto (s : _root_.Go.ChangeSpec) : _root_.Go.OpenSpec := { _root_.Go.OpenSpec.ofChange s with cond := some uptoSmall }

/-- 'ipsecgatelaw03.ChainWrites', WHERE WHAT IT READS IS OF BULK AT MOST 1048576: true; the input reads as it did. -/
def chainWritesUptoRow : OpenClaim := { program := "ytfcpbeolhlkmnaa", sum := "2d81064a7ec50943518a4455ac5703e4b849f2c09ae65fe34c135b50748ac821", func := "ipsecgate/ipsecgatelaw03.ChainWrites", spec := "chainWrites", apart := false, narrowed := true }
def ChainWritesUptoSaid : Prop := chainWritesUptoRow.holds Try.pinned (OpenSpec.upto chainWritesSpec)

/-- 'ipsecgatelaw02.HeaderReads', WHERE WHAT IT READS IS OF BULK AT MOST 1048576: true; the input reads as it did. -/
def headerReadsUptoRow : OpenClaim := { program := "ytfcpbeolhlkmnaa", sum := "2d81064a7ec50943518a4455ac5703e4b849f2c09ae65fe34c135b50748ac821", func := "ipsecgate/ipsecgatelaw02.HeaderReads", spec := "headerReads", apart := false, narrowed := true }
def HeaderReadsUptoSaid : Prop := headerReadsUptoRow.holds Try.pinned (OpenSpec.upto headerReadsSpec)

/-- 'ipsecgatelaw02.HeaderReturns', WHERE WHAT IT READS IS OF BULK AT MOST 1048576: true; the input reads as it did. -/
def headerReturnsUptoRow : OpenClaim := { program := "ytfcpbeolhlkmnaa", sum := "2d81064a7ec50943518a4455ac5703e4b849f2c09ae65fe34c135b50748ac821", func := "ipsecgate/ipsecgatelaw02.HeaderReturns", spec := "headerReturns", apart := false, narrowed := true }
def HeaderReturnsUptoSaid : Prop := headerReturnsUptoRow.holds Try.pinned (OpenSpec.upto headerReturnsSpec)

/-- 'ipsecgatelaw02.HeaderCuts', WHERE WHAT IT READS IS OF BULK AT MOST 1048576: true; the input reads as it did. -/
def headerCutsUptoRow : OpenClaim := { program := "ytfcpbeolhlkmnaa", sum := "2d81064a7ec50943518a4455ac5703e4b849f2c09ae65fe34c135b50748ac821", func := "ipsecgate/ipsecgatelaw02.HeaderCuts", spec := "headerCuts", apart := false, narrowed := true }
def HeaderCutsUptoSaid : Prop := headerCutsUptoRow.holds Try.pinned (OpenSpec.upto headerCutsSpec)

/-- 'ipsecgatelaw02.HeaderWrites', WHERE WHAT IT READS IS OF BULK AT MOST 1048576: true; the input reads as it did. -/
def headerWritesUptoRow : OpenClaim := { program := "ytfcpbeolhlkmnaa", sum := "2d81064a7ec50943518a4455ac5703e4b849f2c09ae65fe34c135b50748ac821", func := "ipsecgate/ipsecgatelaw02.HeaderWrites", spec := "headerWrites", apart := false, narrowed := true }
def HeaderWritesUptoSaid : Prop := headerWritesUptoRow.holds Try.pinned (OpenSpec.upto headerWritesSpec)

/-- 'ipsecgatelaw03.ChainReads', WHERE WHAT IT READS IS OF BULK AT MOST 1048576: true; the input reads as it did. -/
def chainReadsUptoRow : OpenClaim := { program := "ytfcpbeolhlkmnaa", sum := "2d81064a7ec50943518a4455ac5703e4b849f2c09ae65fe34c135b50748ac821", func := "ipsecgate/ipsecgatelaw03.ChainReads", spec := "chainReads", unfollowed := true, recurses := true, apart := false, narrowed := true }
def ChainReadsUptoSaid : Prop := chainReadsUptoRow.holds Try.pinned (OpenSpec.upto chainReadsSpec)

/-- 'ipsecgatelaw03.ChainReturns', WHERE WHAT IT READS IS OF BULK AT MOST 1048576: true; the input reads as it did. -/
def chainReturnsUptoRow : OpenClaim := { program := "ytfcpbeolhlkmnaa", sum := "2d81064a7ec50943518a4455ac5703e4b849f2c09ae65fe34c135b50748ac821", func := "ipsecgate/ipsecgatelaw03.ChainReturns", spec := "chainReturns", unfollowed := true, recurses := true, apart := false, narrowed := true }
def ChainReturnsUptoSaid : Prop := chainReturnsUptoRow.holds Try.pinned (OpenSpec.upto chainReturnsSpec)

/-- 'ipsecgatelaw03.ChainCuts', WHERE WHAT IT READS IS OF BULK AT MOST 1048576: true; the input reads as it did. -/
def chainCutsUptoRow : OpenClaim := { program := "ytfcpbeolhlkmnaa", sum := "2d81064a7ec50943518a4455ac5703e4b849f2c09ae65fe34c135b50748ac821", func := "ipsecgate/ipsecgatelaw03.ChainCuts", spec := "chainCuts", unfollowed := true, recurses := true, apart := false, narrowed := true }
def ChainCutsUptoSaid : Prop := chainCutsUptoRow.holds Try.pinned (OpenSpec.upto chainCutsSpec)

/-- 'ipsecgatelaw03.ChainSealed', WHERE WHAT IT READS IS OF BULK AT MOST 1048576: true; the input reads as it did. -/
def chainSealedUptoRow : OpenClaim := { program := "ytfcpbeolhlkmnaa", sum := "2d81064a7ec50943518a4455ac5703e4b849f2c09ae65fe34c135b50748ac821", func := "ipsecgate/ipsecgatelaw03.ChainSealed", spec := "chainSealed", unfollowed := true, recurses := true, apart := false, narrowed := true }
def ChainSealedUptoSaid : Prop := chainSealedUptoRow.holds Try.pinned (OpenSpec.upto chainSealedSpec)

end Rows
end Go.Proofs.Ytfcpbeolhlkmnaa
