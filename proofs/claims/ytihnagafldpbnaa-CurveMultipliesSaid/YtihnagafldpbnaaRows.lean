/-
  No cell of these rows narrows 'for every input' (looked for: loops, veiled, ifaces, maps, wideKeys, modest, calm, conditions, laid).
  DERIVED. THE GIVEN ROWS OF THIS SEAT. 4 by the template 'for every input the law returns true; each argument reads behind the call as it read before'; 0 by the template 'total and deterministic' (their statements: YtihnagafldpbnaaTotals.lean).
  GIVEN WITH THE SEED: the statements are not yours to turn. If you find one false, say at which input.
  Laid BY PROGRAM, IN A SANDBOX (cutbox-rows.mjs): the forced cells as the released guide's own fill.sh prints them over the translation 352a83c7c4824d66… (all of the seat's roots in one cut). By AI agents, Wed Nov 11 2026. No macro, syntax, notation, axiom, sorry.
-/
import Derived.Test.YtihnagafldpbnaaChecked
import GoSem.Claim
import GoSem.ClaimJoined
import GoSem.ClaimMapViews
import Derived.JoinedTies
import Derived.KernelRfl
namespace Go.Proofs.Ytihnagafldpbnaa
/- THE CELL 'sum', in the pinned program and in every row, IS THE sha256 OF THE DUMP (.gsa) THAT YtihnagafldpbnaaProg.lean LOADS. Nothing in Lean hashes anything: it is a label: what it is worth is what the hold of that sum in a sandbox is worth. -/
noncomputable def Try.pinned : Pinned := { name := "ytihnagafldpbnaa", sum := "352a83c7c4824d66a3776f7d23dceff44dd88cedd85bfda7c433f3310e0df8ee", checked := Try.checked }
namespace Rows
def none {H : Type} : Left H := { results := [], args := [] }

/-- 'ipsecgatelaw14.CurveMultiplies': WHATEVER THE INPUT: true; the input reads as it did. -/
def curveMultipliesSpec : ChangeSpec := { name := "curveMultiplies", fn := fun _ => fun
  | [d1, d2, d3, d4] => { results := [.lit (.bool true)], args := [d1, d2, d3, d4] }
  | _ => none }
def curveMultipliesRow : OpenClaim := { program := "ytihnagafldpbnaa", sum := "352a83c7c4824d66a3776f7d23dceff44dd88cedd85bfda7c433f3310e0df8ee", func := "ipsecgate/ipsecgatelaw14.CurveMultiplies", spec := "curveMultiplies", inPlace := ["math/bits.Add64"], apart := false }
def CurveMultipliesSaid : Prop := curveMultipliesRow.holds Try.pinned (OpenSpec.ofChange curveMultipliesSpec)

/-- ITS FALSE NEIGHBOUR: 'it returns false'. Refute it at one input. -/
def curveMultipliesWrong : ChangeSpec := { name := "curveMultiplies", fn := fun _ => fun
  | [d1, d2, d3, d4] => { results := [.lit (.bool false)], args := [d1, d2, d3, d4] }
  | _ => none }
def CurveMultipliesWrongFalsely : Prop := curveMultipliesRow.holds Try.pinned (OpenSpec.ofChange curveMultipliesWrong)

/-- 'ipsecgatelaw14.CurveAgrees': WHATEVER THE INPUT: true; the input reads as it did. -/
def curveAgreesSpec : ChangeSpec := { name := "curveAgrees", fn := fun _ => fun
  | [d] => { results := [.lit (.bool true)], args := [d] }
  | _ => none }
def curveAgreesRow : OpenClaim := { program := "ytihnagafldpbnaa", sum := "352a83c7c4824d66a3776f7d23dceff44dd88cedd85bfda7c433f3310e0df8ee", func := "ipsecgate/ipsecgatelaw14.CurveAgrees", spec := "curveAgrees", inPlace := ["math/bits.Add64"], apart := false }
def CurveAgreesSaid : Prop := curveAgreesRow.holds Try.pinned (OpenSpec.ofChange curveAgreesSpec)

/-- ITS FALSE NEIGHBOUR: 'it returns false'. Refute it at one input. -/
def curveAgreesWrong : ChangeSpec := { name := "curveAgrees", fn := fun _ => fun
  | [d] => { results := [.lit (.bool false)], args := [d] }
  | _ => none }
def CurveAgreesWrongFalsely : Prop := curveAgreesRow.holds Try.pinned (OpenSpec.ofChange curveAgreesWrong)

/-- 'ipsecgatelaw14.CurveIgnores': WHATEVER THE INPUT: true; the input reads as it did. -/
def curveIgnoresSpec : ChangeSpec := { name := "curveIgnores", fn := fun _ => fun
  | [d1, d2, d3, d4] => { results := [.lit (.bool true)], args := [d1, d2, d3, d4] }
  | _ => none }
def curveIgnoresRow : OpenClaim := { program := "ytihnagafldpbnaa", sum := "352a83c7c4824d66a3776f7d23dceff44dd88cedd85bfda7c433f3310e0df8ee", func := "ipsecgate/ipsecgatelaw14.CurveIgnores", spec := "curveIgnores", inPlace := ["math/bits.Add64"], apart := false }
def CurveIgnoresSaid : Prop := curveIgnoresRow.holds Try.pinned (OpenSpec.ofChange curveIgnoresSpec)

/-- ITS FALSE NEIGHBOUR: 'it returns false'. Refute it at one input. -/
def curveIgnoresWrong : ChangeSpec := { name := "curveIgnores", fn := fun _ => fun
  | [d1, d2, d3, d4] => { results := [.lit (.bool false)], args := [d1, d2, d3, d4] }
  | _ => none }
def CurveIgnoresWrongFalsely : Prop := curveIgnoresRow.holds Try.pinned (OpenSpec.ofChange curveIgnoresWrong)

/-- 'ipsecgatelaw14.CurveSmall': WHATEVER THE INPUT: true; the input reads as it did. -/
def curveSmallSpec : ChangeSpec := { name := "curveSmall", fn := fun _ => fun
  | [d1, d2] => { results := [.lit (.bool true)], args := [d1, d2] }
  | _ => none }
def curveSmallRow : OpenClaim := { program := "ytihnagafldpbnaa", sum := "352a83c7c4824d66a3776f7d23dceff44dd88cedd85bfda7c433f3310e0df8ee", func := "ipsecgate/ipsecgatelaw14.CurveSmall", spec := "curveSmall", inPlace := ["math/bits.Add64"], apart := false }
def CurveSmallSaid : Prop := curveSmallRow.holds Try.pinned (OpenSpec.ofChange curveSmallSpec)

/-- ITS FALSE NEIGHBOUR: 'it returns false'. Refute it at one input. -/
def curveSmallWrong : ChangeSpec := { name := "curveSmall", fn := fun _ => fun
  | [d1, d2] => { results := [.lit (.bool false)], args := [d1, d2] }
  | _ => none }
def CurveSmallWrongFalsely : Prop := curveSmallRow.holds Try.pinned (OpenSpec.ofChange curveSmallWrong)

/- THE SECOND FORM. 'bulk': how many values and letters a reading holds, each counted each time it is reached (what is shared counts as often as it is met; a slice's spare places count too). A statement '..UptoSaid' is the law's where the arguments, and the package variables that the reading takes, are together of bulk at most 1048576: NARROWER than '..Said'. Prove '..Said' where nothing that the law and all that it calls make is longer than what came in: it says more and counts as full. Else prove '..UptoSaid'. A law counts once. -/
mutual
def uptoBulk {H : Type} : DataW H → Nat
  | .lit (.string bytes) => bytes.length + 1
  | .lit _ => 1
  | .nil => 1
  | .ptr d => uptoBulk d + 1
  | .slice elems spare => uptoBulkAll elems + uptoBulkAll spare + 1
  | .agg parts => uptoBulkAll parts + 1
  | .iface _ d => uptoBulk d + 1
  | .map entries => uptoBulkEntries entries + 1
  | .held _ => 1
def uptoBulkAll {H : Type} : List (DataW H) → Nat
  | [] => 0
  | d :: r => uptoBulk d + uptoBulkAll r
def uptoBulkEntries {H : Type} : List (Lit × DataW H) → Nat
  | [] => 0
  | x :: r => uptoBulkEntry x + uptoBulkEntries r
def uptoBulkEntry {H : Type} : Lit × DataW H → Nat
  | (.string bytes, d) => bytes.length + uptoBulk d + 1
  | (_, d) => uptoBulk d + 1
 end
def uptoSmall : (H : Type) → List (DataW H) → Bool := fun _ ds => decide (uptoBulkAll ds ≤ 1048576)
def OpenSpec.upto (s : _root_.Go.ChangeSpec) : _root_.Go.OpenSpec := { _root_.Go.OpenSpec.ofChange s with cond := some uptoSmall }

/-- 'ipsecgatelaw14.CurveMultiplies', WHERE WHAT IT READS IS OF BULK AT MOST 1048576: true; the input reads as it did. -/
def curveMultipliesUptoRow : OpenClaim := { program := "ytihnagafldpbnaa", sum := "352a83c7c4824d66a3776f7d23dceff44dd88cedd85bfda7c433f3310e0df8ee", func := "ipsecgate/ipsecgatelaw14.CurveMultiplies", spec := "curveMultiplies", inPlace := ["math/bits.Add64"], apart := false, narrowed := true }
def CurveMultipliesUptoSaid : Prop := curveMultipliesUptoRow.holds Try.pinned (OpenSpec.upto curveMultipliesSpec)

/-- 'ipsecgatelaw14.CurveAgrees', WHERE WHAT IT READS IS OF BULK AT MOST 1048576: true; the input reads as it did. -/
def curveAgreesUptoRow : OpenClaim := { program := "ytihnagafldpbnaa", sum := "352a83c7c4824d66a3776f7d23dceff44dd88cedd85bfda7c433f3310e0df8ee", func := "ipsecgate/ipsecgatelaw14.CurveAgrees", spec := "curveAgrees", inPlace := ["math/bits.Add64"], apart := false, narrowed := true }
def CurveAgreesUptoSaid : Prop := curveAgreesUptoRow.holds Try.pinned (OpenSpec.upto curveAgreesSpec)

/-- 'ipsecgatelaw14.CurveIgnores', WHERE WHAT IT READS IS OF BULK AT MOST 1048576: true; the input reads as it did. -/
def curveIgnoresUptoRow : OpenClaim := { program := "ytihnagafldpbnaa", sum := "352a83c7c4824d66a3776f7d23dceff44dd88cedd85bfda7c433f3310e0df8ee", func := "ipsecgate/ipsecgatelaw14.CurveIgnores", spec := "curveIgnores", inPlace := ["math/bits.Add64"], apart := false, narrowed := true }
def CurveIgnoresUptoSaid : Prop := curveIgnoresUptoRow.holds Try.pinned (OpenSpec.upto curveIgnoresSpec)

/-- 'ipsecgatelaw14.CurveSmall', WHERE WHAT IT READS IS OF BULK AT MOST 1048576: true; the input reads as it did. -/
def curveSmallUptoRow : OpenClaim := { program := "ytihnagafldpbnaa", sum := "352a83c7c4824d66a3776f7d23dceff44dd88cedd85bfda7c433f3310e0df8ee", func := "ipsecgate/ipsecgatelaw14.CurveSmall", spec := "curveSmall", inPlace := ["math/bits.Add64"], apart := false, narrowed := true }
def CurveSmallUptoSaid : Prop := curveSmallUptoRow.holds Try.pinned (OpenSpec.upto curveSmallSpec)

end Rows
end Go.Proofs.Ytihnagafldpbnaa
