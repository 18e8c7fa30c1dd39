/-
  No cell of these rows narrows 'for every input' (looked for: loops, veiled, ifaces, maps, wideKeys, modest, calm, conditions, laid).
  DERIVED. THE GIVEN ROWS OF THIS SEAT. 12 by the template 'for every input the law returns true; each argument reads behind the call as it read before'; 0 by the template 'total and deterministic' (their statements: YtkcpijjcdbljdaaTotals.lean).
  GIVEN WITH THE SEED: the statements are not yours to turn. If you find one false, say at which input.
  Laid BY PROGRAM, IN A SANDBOX (cutbox-rows.mjs): the forced cells as the released guide's own fill.sh prints them over the translation 3263d496015d5500… (all of the seat's roots in one cut). By AI agents, Wed Nov 11 2026. No macro, syntax, notation, axiom, sorry.
-/
import Derived.Test.YtkcpijjcdbljdaaChecked
import GoSem.Claim
import GoSem.ClaimJoined
import GoSem.ClaimMapViews
import Derived.JoinedTies
import Derived.KernelRfl
namespace Go.Proofs.Ytkcpijjcdbljdaa
/- THE CELL 'sum', in the pinned program and in every row, IS THE sha256 OF THE DUMP (.gsa) THAT YtkcpijjcdbljdaaProg.lean LOADS. Nothing in Lean hashes anything: it is a label: what it is worth is what the hold of that sum in a sandbox is worth. -/
noncomputable def Try.pinned : Pinned := { name := "ytkcpijjcdbljdaa", sum := "3263d496015d5500555d951ff295aea3a68580a504e296576a621f8b02601115", checked := Try.checked }
namespace Rows
def none {H : Type} : Left H := { results := [], args := [] }

/-- 'laws.FnExactConstants': WHATEVER THE INPUT: true; the input reads as it did. -/
def fnExactConstantsSpec : ChangeSpec := { name := "fnExactConstants", fn := fun _ => fun
  | [] => { results := [.lit (.bool true)], args := [] }
  | _ => none }
def fnExactConstantsRow : OpenClaim := { program := "ytkcpijjcdbljdaa", sum := "3263d496015d5500555d951ff295aea3a68580a504e296576a621f8b02601115", func := "loop.example/g00878/laws.FnExactConstants", spec := "fnExactConstants", apart := false }
def FnExactConstantsSaid : Prop := fnExactConstantsRow.holds Try.pinned (OpenSpec.ofChange fnExactConstantsSpec)

/-- ITS FALSE NEIGHBOUR: 'it returns false'. Refute it at one input. -/
def fnExactConstantsWrong : ChangeSpec := { name := "fnExactConstants", fn := fun _ => fun
  | [] => { results := [.lit (.bool false)], args := [] }
  | _ => none }
def FnExactConstantsWrongFalsely : Prop := fnExactConstantsRow.holds Try.pinned (OpenSpec.ofChange fnExactConstantsWrong)

/-- 'laws.FnExactDigestText': WHATEVER THE INPUT: true; the input reads as it did. -/
def fnExactDigestTextSpec : ChangeSpec := { name := "fnExactDigestText", fn := fun _ => fun
  | [d] => { results := [.lit (.bool true)], args := [d] }
  | _ => none }
def fnExactDigestTextRow : OpenClaim := { program := "ytkcpijjcdbljdaa", sum := "3263d496015d5500555d951ff295aea3a68580a504e296576a621f8b02601115", func := "loop.example/g00878/laws.FnExactDigestText", spec := "fnExactDigestText", apart := false }
def FnExactDigestTextSaid : Prop := fnExactDigestTextRow.holds Try.pinned (OpenSpec.ofChange fnExactDigestTextSpec)

/-- ITS FALSE NEIGHBOUR: 'it returns false'. Refute it at one input. -/
def fnExactDigestTextWrong : ChangeSpec := { name := "fnExactDigestText", fn := fun _ => fun
  | [d] => { results := [.lit (.bool false)], args := [d] }
  | _ => none }
def FnExactDigestTextWrongFalsely : Prop := fnExactDigestTextRow.holds Try.pinned (OpenSpec.ofChange fnExactDigestTextWrong)

/-- 'laws.FnExactPowerMod': WHATEVER THE INPUT: true; the input reads as it did. -/
def fnExactPowerModSpec : ChangeSpec := { name := "fnExactPowerMod", fn := fun _ => fun
  | [d1, d2, d3] => { results := [.lit (.bool true)], args := [d1, d2, d3] }
  | _ => none }
def fnExactPowerModRow : OpenClaim := { program := "ytkcpijjcdbljdaa", sum := "3263d496015d5500555d951ff295aea3a68580a504e296576a621f8b02601115", func := "loop.example/g00878/laws.FnExactPowerMod", spec := "fnExactPowerMod", apart := false }
def FnExactPowerModSaid : Prop := fnExactPowerModRow.holds Try.pinned (OpenSpec.ofChange fnExactPowerModSpec)

/-- ITS FALSE NEIGHBOUR: 'it returns false'. Refute it at one input. -/
def fnExactPowerModWrong : ChangeSpec := { name := "fnExactPowerMod", fn := fun _ => fun
  | [d1, d2, d3] => { results := [.lit (.bool false)], args := [d1, d2, d3] }
  | _ => none }
def FnExactPowerModWrongFalsely : Prop := fnExactPowerModRow.holds Try.pinned (OpenSpec.ofChange fnExactPowerModWrong)

/-- 'laws.FnExactIsPrime': WHATEVER THE INPUT: true; the input reads as it did. -/
def fnExactIsPrimeSpec : ChangeSpec := { name := "fnExactIsPrime", fn := fun _ => fun
  | [d] => { results := [.lit (.bool true)], args := [d] }
  | _ => none }
def fnExactIsPrimeRow : OpenClaim := { program := "ytkcpijjcdbljdaa", sum := "3263d496015d5500555d951ff295aea3a68580a504e296576a621f8b02601115", func := "loop.example/g00878/laws.FnExactIsPrime", spec := "fnExactIsPrime", apart := false }
def FnExactIsPrimeSaid : Prop := fnExactIsPrimeRow.holds Try.pinned (OpenSpec.ofChange fnExactIsPrimeSpec)

/-- ITS FALSE NEIGHBOUR: 'it returns false'. Refute it at one input. -/
def fnExactIsPrimeWrong : ChangeSpec := { name := "fnExactIsPrime", fn := fun _ => fun
  | [d] => { results := [.lit (.bool false)], args := [d] }
  | _ => none }
def FnExactIsPrimeWrongFalsely : Prop := fnExactIsPrimeRow.holds Try.pinned (OpenSpec.ofChange fnExactIsPrimeWrong)

/-- 'laws.FnExactParseDigest': WHATEVER THE INPUT: true; the input reads as it did. -/
def fnExactParseDigestSpec : ChangeSpec := { name := "fnExactParseDigest", fn := fun _ => fun
  | [d] => { results := [.lit (.bool true)], args := [d] }
  | _ => none }
def fnExactParseDigestRow : OpenClaim := { program := "ytkcpijjcdbljdaa", sum := "3263d496015d5500555d951ff295aea3a68580a504e296576a621f8b02601115", func := "loop.example/g00878/laws.FnExactParseDigest", spec := "fnExactParseDigest", inPlace := ["internal/bytealg.IndexByteString"], apart := false }
def FnExactParseDigestSaid : Prop := fnExactParseDigestRow.holds Try.pinned (OpenSpec.ofChange fnExactParseDigestSpec)

/-- ITS FALSE NEIGHBOUR: 'it returns false'. Refute it at one input. -/
def fnExactParseDigestWrong : ChangeSpec := { name := "fnExactParseDigest", fn := fun _ => fun
  | [d] => { results := [.lit (.bool false)], args := [d] }
  | _ => none }
def FnExactParseDigestWrongFalsely : Prop := fnExactParseDigestRow.holds Try.pinned (OpenSpec.ofChange fnExactParseDigestWrong)

/-- 'laws.FnExactInverseMod': WHATEVER THE INPUT: true; the input reads as it did. -/
def fnExactInverseModSpec : ChangeSpec := { name := "fnExactInverseMod", fn := fun _ => fun
  | [d1, d2] => { results := [.lit (.bool true)], args := [d1, d2] }
  | _ => none }
def fnExactInverseModRow : OpenClaim := { program := "ytkcpijjcdbljdaa", sum := "3263d496015d5500555d951ff295aea3a68580a504e296576a621f8b02601115", func := "loop.example/g00878/laws.FnExactInverseMod", spec := "fnExactInverseMod", apart := false }
def FnExactInverseModSaid : Prop := fnExactInverseModRow.holds Try.pinned (OpenSpec.ofChange fnExactInverseModSpec)

/-- ITS FALSE NEIGHBOUR: 'it returns false'. Refute it at one input. -/
def fnExactInverseModWrong : ChangeSpec := { name := "fnExactInverseMod", fn := fun _ => fun
  | [d1, d2] => { results := [.lit (.bool false)], args := [d1, d2] }
  | _ => none }
def FnExactInverseModWrongFalsely : Prop := fnExactInverseModRow.holds Try.pinned (OpenSpec.ofChange fnExactInverseModWrong)

/-- 'laws.FnExactIsValidGroup': WHATEVER THE INPUT: true; the input reads as it did. -/
def fnExactIsValidGroupSpec : ChangeSpec := { name := "fnExactIsValidGroup", fn := fun _ => fun
  | [d] => { results := [.lit (.bool true)], args := [d] }
  | _ => none }
def fnExactIsValidGroupRow : OpenClaim := { program := "ytkcpijjcdbljdaa", sum := "3263d496015d5500555d951ff295aea3a68580a504e296576a621f8b02601115", func := "loop.example/g00878/laws.FnExactIsValidGroup", spec := "fnExactIsValidGroup", apart := false }
def FnExactIsValidGroupSaid : Prop := fnExactIsValidGroupRow.holds Try.pinned (OpenSpec.ofChange fnExactIsValidGroupSpec)

/-- ITS FALSE NEIGHBOUR: 'it returns false'. Refute it at one input. -/
def fnExactIsValidGroupWrong : ChangeSpec := { name := "fnExactIsValidGroup", fn := fun _ => fun
  | [d] => { results := [.lit (.bool false)], args := [d] }
  | _ => none }
def FnExactIsValidGroupWrongFalsely : Prop := fnExactIsValidGroupRow.holds Try.pinned (OpenSpec.ofChange fnExactIsValidGroupWrong)

/-- 'laws.FnExactLegendreOf': WHATEVER THE INPUT: true; the input reads as it did. -/
def fnExactLegendreOfSpec : ChangeSpec := { name := "fnExactLegendreOf", fn := fun _ => fun
  | [d1, d2] => { results := [.lit (.bool true)], args := [d1, d2] }
  | _ => none }
def fnExactLegendreOfRow : OpenClaim := { program := "ytkcpijjcdbljdaa", sum := "3263d496015d5500555d951ff295aea3a68580a504e296576a621f8b02601115", func := "loop.example/g00878/laws.FnExactLegendreOf", spec := "fnExactLegendreOf", apart := false }
def FnExactLegendreOfSaid : Prop := fnExactLegendreOfRow.holds Try.pinned (OpenSpec.ofChange fnExactLegendreOfSpec)

/-- ITS FALSE NEIGHBOUR: 'it returns false'. Refute it at one input. -/
def fnExactLegendreOfWrong : ChangeSpec := { name := "fnExactLegendreOf", fn := fun _ => fun
  | [d1, d2] => { results := [.lit (.bool false)], args := [d1, d2] }
  | _ => none }
def FnExactLegendreOfWrongFalsely : Prop := fnExactLegendreOfRow.holds Try.pinned (OpenSpec.ofChange fnExactLegendreOfWrong)

/-- 'laws.FnExactElementFrom': WHATEVER THE INPUT: true; the input reads as it did. -/
def fnExactElementFromSpec : ChangeSpec := { name := "fnExactElementFrom", fn := fun _ => fun
  | [d1, d2] => { results := [.lit (.bool true)], args := [d1, d2] }
  | _ => none }
def fnExactElementFromRow : OpenClaim := { program := "ytkcpijjcdbljdaa", sum := "3263d496015d5500555d951ff295aea3a68580a504e296576a621f8b02601115", func := "loop.example/g00878/laws.FnExactElementFrom", spec := "fnExactElementFrom", apart := false }
def FnExactElementFromSaid : Prop := fnExactElementFromRow.holds Try.pinned (OpenSpec.ofChange fnExactElementFromSpec)

/-- ITS FALSE NEIGHBOUR: 'it returns false'. Refute it at one input. -/
def fnExactElementFromWrong : ChangeSpec := { name := "fnExactElementFrom", fn := fun _ => fun
  | [d1, d2] => { results := [.lit (.bool false)], args := [d1, d2] }
  | _ => none }
def FnExactElementFromWrongFalsely : Prop := fnExactElementFromRow.holds Try.pinned (OpenSpec.ofChange fnExactElementFromWrong)

/-- 'laws.FnExactDotMod': WHATEVER THE INPUT: true; the input reads as it did. -/
def fnExactDotModSpec : ChangeSpec := { name := "fnExactDotMod", fn := fun _ => fun
  | [d1, d2, d3] => { results := [.lit (.bool true)], args := [d1, d2, d3] }
  | _ => none }
def fnExactDotModRow : OpenClaim := { program := "ytkcpijjcdbljdaa", sum := "3263d496015d5500555d951ff295aea3a68580a504e296576a621f8b02601115", func := "loop.example/g00878/laws.FnExactDotMod", spec := "fnExactDotMod", unfollowed := true, recurses := true, apart := false }
def FnExactDotModSaid : Prop := fnExactDotModRow.holds Try.pinned (OpenSpec.ofChange fnExactDotModSpec)

/-- ITS FALSE NEIGHBOUR: 'it returns false'. Refute it at one input. -/
def fnExactDotModWrong : ChangeSpec := { name := "fnExactDotMod", fn := fun _ => fun
  | [d1, d2, d3] => { results := [.lit (.bool false)], args := [d1, d2, d3] }
  | _ => none }
def FnExactDotModWrongFalsely : Prop := fnExactDotModRow.holds Try.pinned (OpenSpec.ofChange fnExactDotModWrong)

/-- 'laws.FnExactSumMod': WHATEVER THE INPUT: true; the input reads as it did. -/
def fnExactSumModSpec : ChangeSpec := { name := "fnExactSumMod", fn := fun _ => fun
  | [d1, d2] => { results := [.lit (.bool true)], args := [d1, d2] }
  | _ => none }
def fnExactSumModRow : OpenClaim := { program := "ytkcpijjcdbljdaa", sum := "3263d496015d5500555d951ff295aea3a68580a504e296576a621f8b02601115", func := "loop.example/g00878/laws.FnExactSumMod", spec := "fnExactSumMod", unfollowed := true, recurses := true, apart := false }
def FnExactSumModSaid : Prop := fnExactSumModRow.holds Try.pinned (OpenSpec.ofChange fnExactSumModSpec)

/-- ITS FALSE NEIGHBOUR: 'it returns false'. Refute it at one input. -/
def fnExactSumModWrong : ChangeSpec := { name := "fnExactSumMod", fn := fun _ => fun
  | [d1, d2] => { results := [.lit (.bool false)], args := [d1, d2] }
  | _ => none }
def FnExactSumModWrongFalsely : Prop := fnExactSumModRow.holds Try.pinned (OpenSpec.ofChange fnExactSumModWrong)

/-- 'laws.FnExactIsElement': WHATEVER THE INPUT: true; the input reads as it did. -/
def fnExactIsElementSpec : ChangeSpec := { name := "fnExactIsElement", fn := fun _ => fun
  | [d1, d2] => { results := [.lit (.bool true)], args := [d1, d2] }
  | _ => none }
def fnExactIsElementRow : OpenClaim := { program := "ytkcpijjcdbljdaa", sum := "3263d496015d5500555d951ff295aea3a68580a504e296576a621f8b02601115", func := "loop.example/g00878/laws.FnExactIsElement", spec := "fnExactIsElement", apart := false }
def FnExactIsElementSaid : Prop := fnExactIsElementRow.holds Try.pinned (OpenSpec.ofChange fnExactIsElementSpec)

/-- ITS FALSE NEIGHBOUR: 'it returns false'. Refute it at one input. -/
def fnExactIsElementWrong : ChangeSpec := { name := "fnExactIsElement", fn := fun _ => fun
  | [d1, d2] => { results := [.lit (.bool false)], args := [d1, d2] }
  | _ => none }
def FnExactIsElementWrongFalsely : Prop := fnExactIsElementRow.holds Try.pinned (OpenSpec.ofChange fnExactIsElementWrong)

/- THE SECOND FORM. 'bulk': how many values and letters a reading holds, each counted each time it is reached (what is shared counts as often as it is met; a slice's spare places count too). A statement '..UptoSaid' is the law's where the arguments, and the package variables that the reading takes, are together of bulk at most 1048576: NARROWER than '..Said'. Prove '..Said' where nothing that the law and all that it calls make is longer than what came in: it says more and counts as full. Else prove '..UptoSaid'. A law counts once. -/
mutual
def uptoBulk {H : Type} : DataW H → Nat
  | .lit (.string bytes) => bytes.length + 1
  | .lit _ => 1
  | .nil => 1
  | .ptr d => uptoBulk d + 1
  | .slice elems spare => uptoBulkAll elems + uptoBulkAll spare + 1
  | .agg parts => uptoBulkAll parts + 1
  | .iface _ d => uptoBulk d + 1
  | .map entries => uptoBulkEntries entries + 1
  | .held _ => 1
def uptoBulkAll {H : Type} : List (DataW H) → Nat
  | [] => 0
  | d :: r => uptoBulk d + uptoBulkAll r
def uptoBulkEntries {H : Type} : List (Lit × DataW H) → Nat
  | [] => 0
  | x :: r => uptoBulkEntry x + uptoBulkEntries r
def uptoBulkEntry {H : Type} : Lit × DataW H → Nat
  | (.string bytes, d) => bytes.length + uptoBulk d + 1
  | (_, d) => uptoBulk d + 1
 end
def uptoSmall : (H : Type) → List (DataW H) → Bool := fun _ ds => decide (uptoBulkAll ds ≤ 1048576)
def OpenSpec.upto (s : _root_.Go.ChangeSpec) : _root_.Go.OpenSpec := { _root_.Go.OpenSpec.ofChange s with cond := some uptoSmall }

/-- 'laws.FnExactConstants', WHERE WHAT IT READS IS OF BULK AT MOST 1048576: true; the input reads as it did. -/
def fnExactConstantsUptoRow : OpenClaim := { program := "ytkcpijjcdbljdaa", sum := "3263d496015d5500555d951ff295aea3a68580a504e296576a621f8b02601115", func := "loop.example/g00878/laws.FnExactConstants", spec := "fnExactConstants", apart := false, narrowed := true }
def FnExactConstantsUptoSaid : Prop := fnExactConstantsUptoRow.holds Try.pinned (OpenSpec.upto fnExactConstantsSpec)

/-- 'laws.FnExactDigestText', WHERE WHAT IT READS IS OF BULK AT MOST 1048576: true; the input reads as it did. -/
def fnExactDigestTextUptoRow : OpenClaim := { program := "ytkcpijjcdbljdaa", sum := "3263d496015d5500555d951ff295aea3a68580a504e296576a621f8b02601115", func := "loop.example/g00878/laws.FnExactDigestText", spec := "fnExactDigestText", apart := false, narrowed := true }
def FnExactDigestTextUptoSaid : Prop := fnExactDigestTextUptoRow.holds Try.pinned (OpenSpec.upto fnExactDigestTextSpec)

/-- 'laws.FnExactPowerMod', WHERE WHAT IT READS IS OF BULK AT MOST 1048576: true; the input reads as it did. -/
def fnExactPowerModUptoRow : OpenClaim := { program := "ytkcpijjcdbljdaa", sum := "3263d496015d5500555d951ff295aea3a68580a504e296576a621f8b02601115", func := "loop.example/g00878/laws.FnExactPowerMod", spec := "fnExactPowerMod", apart := false, narrowed := true }
def FnExactPowerModUptoSaid : Prop := fnExactPowerModUptoRow.holds Try.pinned (OpenSpec.upto fnExactPowerModSpec)

/-- 'laws.FnExactIsPrime', WHERE WHAT IT READS IS OF BULK AT MOST 1048576: true; the input reads as it did. -/
def fnExactIsPrimeUptoRow : OpenClaim := { program := "ytkcpijjcdbljdaa", sum := "3263d496015d5500555d951ff295aea3a68580a504e296576a621f8b02601115", func := "loop.example/g00878/laws.FnExactIsPrime", spec := "fnExactIsPrime", apart := false, narrowed := true }
def FnExactIsPrimeUptoSaid : Prop := fnExactIsPrimeUptoRow.holds Try.pinned (OpenSpec.upto fnExactIsPrimeSpec)

/-- 'laws.FnExactParseDigest', WHERE WHAT IT READS IS OF BULK AT MOST 1048576: true; the input reads as it did. -/
def fnExactParseDigestUptoRow : OpenClaim := { program := "ytkcpijjcdbljdaa", sum := "3263d496015d5500555d951ff295aea3a68580a504e296576a621f8b02601115", func := "loop.example/g00878/laws.FnExactParseDigest", spec := "fnExactParseDigest", inPlace := ["internal/bytealg.IndexByteString"], apart := false, narrowed := true }
def FnExactParseDigestUptoSaid : Prop := fnExactParseDigestUptoRow.holds Try.pinned (OpenSpec.upto fnExactParseDigestSpec)

/-- 'laws.FnExactInverseMod', WHERE WHAT IT READS IS OF BULK AT MOST 1048576: true; the input reads as it did. -/
def fnExactInverseModUptoRow : OpenClaim := { program := "ytkcpijjcdbljdaa", sum := "3263d496015d5500555d951ff295aea3a68580a504e296576a621f8b02601115", func := "loop.example/g00878/laws.FnExactInverseMod", spec := "fnExactInverseMod", apart := false, narrowed := true }
def FnExactInverseModUptoSaid : Prop := fnExactInverseModUptoRow.holds Try.pinned (OpenSpec.upto fnExactInverseModSpec)

/-- 'laws.FnExactIsValidGroup', WHERE WHAT IT READS IS OF BULK AT MOST 1048576: true; the input reads as it did. -/
def fnExactIsValidGroupUptoRow : OpenClaim := { program := "ytkcpijjcdbljdaa", sum := "3263d496015d5500555d951ff295aea3a68580a504e296576a621f8b02601115", func := "loop.example/g00878/laws.FnExactIsValidGroup", spec := "fnExactIsValidGroup", apart := false, narrowed := true }
def FnExactIsValidGroupUptoSaid : Prop := fnExactIsValidGroupUptoRow.holds Try.pinned (OpenSpec.upto fnExactIsValidGroupSpec)

/-- 'laws.FnExactLegendreOf', WHERE WHAT IT READS IS OF BULK AT MOST 1048576: true; the input reads as it did. -/
def fnExactLegendreOfUptoRow : OpenClaim := { program := "ytkcpijjcdbljdaa", sum := "3263d496015d5500555d951ff295aea3a68580a504e296576a621f8b02601115", func := "loop.example/g00878/laws.FnExactLegendreOf", spec := "fnExactLegendreOf", apart := false, narrowed := true }
def FnExactLegendreOfUptoSaid : Prop := fnExactLegendreOfUptoRow.holds Try.pinned (OpenSpec.upto fnExactLegendreOfSpec)

/-- 'laws.FnExactElementFrom', WHERE WHAT IT READS IS OF BULK AT MOST 1048576: true; the input reads as it did. -/
def fnExactElementFromUptoRow : OpenClaim := { program := "ytkcpijjcdbljdaa", sum := "3263d496015d5500555d951ff295aea3a68580a504e296576a621f8b02601115", func := "loop.example/g00878/laws.FnExactElementFrom", spec := "fnExactElementFrom", apart := false, narrowed := true }
def FnExactElementFromUptoSaid : Prop := fnExactElementFromUptoRow.holds Try.pinned (OpenSpec.upto fnExactElementFromSpec)

/-- 'laws.FnExactDotMod', WHERE WHAT IT READS IS OF BULK AT MOST 1048576: true; the input reads as it did. -/
def fnExactDotModUptoRow : OpenClaim := { program := "ytkcpijjcdbljdaa", sum := "3263d496015d5500555d951ff295aea3a68580a504e296576a621f8b02601115", func := "loop.example/g00878/laws.FnExactDotMod", spec := "fnExactDotMod", unfollowed := true, recurses := true, apart := false, narrowed := true }
def FnExactDotModUptoSaid : Prop := fnExactDotModUptoRow.holds Try.pinned (OpenSpec.upto fnExactDotModSpec)

/-- 'laws.FnExactSumMod', WHERE WHAT IT READS IS OF BULK AT MOST 1048576: true; the input reads as it did. -/
def fnExactSumModUptoRow : OpenClaim := { program := "ytkcpijjcdbljdaa", sum := "3263d496015d5500555d951ff295aea3a68580a504e296576a621f8b02601115", func := "loop.example/g00878/laws.FnExactSumMod", spec := "fnExactSumMod", unfollowed := true, recurses := true, apart := false, narrowed := true }
def FnExactSumModUptoSaid : Prop := fnExactSumModUptoRow.holds Try.pinned (OpenSpec.upto fnExactSumModSpec)

/-- 'laws.FnExactIsElement', WHERE WHAT IT READS IS OF BULK AT MOST 1048576: true; the input reads as it did. -/
def fnExactIsElementUptoRow : OpenClaim := { program := "ytkcpijjcdbljdaa", sum := "3263d496015d5500555d951ff295aea3a68580a504e296576a621f8b02601115", func := "loop.example/g00878/laws.FnExactIsElement", spec := "fnExactIsElement", apart := false, narrowed := true }
def FnExactIsElementUptoSaid : Prop := fnExactIsElementUptoRow.holds Try.pinned (OpenSpec.upto fnExactIsElementSpec)

end Rows
end Go.Proofs.Ytkcpijjcdbljdaa
