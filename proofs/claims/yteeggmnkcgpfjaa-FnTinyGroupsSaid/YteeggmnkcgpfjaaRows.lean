/-
  No cell of these rows narrows 'for every input' (looked for: loops, veiled, ifaces, maps, wideKeys, modest, calm, conditions, laid).
  DERIVED. THE GIVEN ROWS OF THIS SEAT. 11 by the template 'for every input the law returns true; each argument reads behind the call as it read before'; 0 by the template 'total and deterministic' (their statements: YteeggmnkcgpfjaaTotals.lean).
  GIVEN WITH THE SEED: the statements are not yours to turn. If you find one false, say at which input.
  Laid BY PROGRAM, IN A SANDBOX (cutbox-rows.mjs): the forced cells as the released guide's own fill.sh prints them over the translation 9017332d9f768319… (all of the seat's roots in one cut). By AI agents, Wed Nov 11 2026. No macro, syntax, notation, axiom, sorry.
-/
import Derived.Test.YteeggmnkcgpfjaaChecked
import GoSem.Claim
import GoSem.ClaimJoined
import GoSem.ClaimMapViews
import Derived.JoinedTies
import Derived.KernelRfl
namespace Go.Proofs.Yteeggmnkcgpfjaa
/- THE CELL 'sum', in the pinned program and in every row, IS THE sha256 OF THE DUMP (.gsa) THAT YteeggmnkcgpfjaaProg.lean LOADS. Nothing in Lean hashes anything: it is a label: what it is worth is what the hold of that sum in a sandbox is worth. -/
noncomputable def Try.pinned : Pinned := { name := "yteeggmnkcgpfjaa", sum := "9017332d9f76831949cf369057de63aa19559ee76cefdfc0cd676e9222bdba66", checked := Try.checked }
namespace Rows
def none {H : Type} : Left H := { results := [], args := [] }

/-- 'laws.FnExactElementsOf': WHATEVER THE INPUT: true; the input reads as it did. -/
def fnExactElementsOfSpec : ChangeSpec := { name := "fnExactElementsOf", fn := fun _ => fun
  | [d] => { results := [.lit (.bool true)], args := [d] }
  | _ => none }
def fnExactElementsOfRow : OpenClaim := { program := "yteeggmnkcgpfjaa", sum := "9017332d9f76831949cf369057de63aa19559ee76cefdfc0cd676e9222bdba66", func := "loop.example/g00878/laws.FnExactElementsOf", spec := "fnExactElementsOf", recurses := true, apart := false }
def FnExactElementsOfSaid : Prop := fnExactElementsOfRow.holds Try.pinned (OpenSpec.ofChange fnExactElementsOfSpec)

/-- ITS FALSE NEIGHBOUR: 'it returns false'. Refute it at one input. -/
def fnExactElementsOfWrong : ChangeSpec := { name := "fnExactElementsOf", fn := fun _ => fun
  | [d] => { results := [.lit (.bool false)], args := [d] }
  | _ => none }
def FnExactElementsOfWrongFalsely : Prop := fnExactElementsOfRow.holds Try.pinned (OpenSpec.ofChange fnExactElementsOfWrong)

/-- 'laws.FnTinyGroups': WHATEVER THE INPUT: true; the input reads as it did. -/
def fnTinyGroupsSpec : ChangeSpec := { name := "fnTinyGroups", fn := fun _ => fun
  | [d1, d2] => { results := [.lit (.bool true)], args := [d1, d2] }
  | _ => none }
def fnTinyGroupsRow : OpenClaim := { program := "yteeggmnkcgpfjaa", sum := "9017332d9f76831949cf369057de63aa19559ee76cefdfc0cd676e9222bdba66", func := "loop.example/g00878/laws.FnTinyGroups", spec := "fnTinyGroups", recurses := true, apart := false }
def FnTinyGroupsSaid : Prop := fnTinyGroupsRow.holds Try.pinned (OpenSpec.ofChange fnTinyGroupsSpec)

/-- ITS FALSE NEIGHBOUR: 'it returns false'. Refute it at one input. -/
def fnTinyGroupsWrong : ChangeSpec := { name := "fnTinyGroups", fn := fun _ => fun
  | [d1, d2] => { results := [.lit (.bool false)], args := [d1, d2] }
  | _ => none }
def FnTinyGroupsWrongFalsely : Prop := fnTinyGroupsRow.holds Try.pinned (OpenSpec.ofChange fnTinyGroupsWrong)

/-- 'laws.FnExactDecodeText': WHATEVER THE INPUT: true; the input reads as it did. -/
def fnExactDecodeTextSpec : ChangeSpec := { name := "fnExactDecodeText", fn := fun _ => fun
  | [d] => { results := [.lit (.bool true)], args := [d] }
  | _ => none }
def fnExactDecodeTextRow : OpenClaim := { program := "yteeggmnkcgpfjaa", sum := "9017332d9f76831949cf369057de63aa19559ee76cefdfc0cd676e9222bdba66", func := "loop.example/g00878/laws.FnExactDecodeText", spec := "fnExactDecodeText", unfollowed := true, recurses := true, apart := false }
def FnExactDecodeTextSaid : Prop := fnExactDecodeTextRow.holds Try.pinned (OpenSpec.ofChange fnExactDecodeTextSpec)

/-- ITS FALSE NEIGHBOUR: 'it returns false'. Refute it at one input. -/
def fnExactDecodeTextWrong : ChangeSpec := { name := "fnExactDecodeText", fn := fun _ => fun
  | [d] => { results := [.lit (.bool false)], args := [d] }
  | _ => none }
def FnExactDecodeTextWrongFalsely : Prop := fnExactDecodeTextRow.holds Try.pinned (OpenSpec.ofChange fnExactDecodeTextWrong)

/-- 'laws.FnExactDecodeCiphers': WHATEVER THE INPUT: true; the input reads as it did. -/
def fnExactDecodeCiphersSpec : ChangeSpec := { name := "fnExactDecodeCiphers", fn := fun _ => fun
  | [d] => { results := [.lit (.bool true)], args := [d] }
  | _ => none }
def fnExactDecodeCiphersRow : OpenClaim := { program := "yteeggmnkcgpfjaa", sum := "9017332d9f76831949cf369057de63aa19559ee76cefdfc0cd676e9222bdba66", func := "loop.example/g00878/laws.FnExactDecodeCiphers", spec := "fnExactDecodeCiphers", unfollowed := true, recurses := true, apart := false }
def FnExactDecodeCiphersSaid : Prop := fnExactDecodeCiphersRow.holds Try.pinned (OpenSpec.ofChange fnExactDecodeCiphersSpec)

/-- ITS FALSE NEIGHBOUR: 'it returns false'. Refute it at one input. -/
def fnExactDecodeCiphersWrong : ChangeSpec := { name := "fnExactDecodeCiphers", fn := fun _ => fun
  | [d] => { results := [.lit (.bool false)], args := [d] }
  | _ => none }
def FnExactDecodeCiphersWrongFalsely : Prop := fnExactDecodeCiphersRow.holds Try.pinned (OpenSpec.ofChange fnExactDecodeCiphersWrong)

/-- 'laws.FnExactDecodeProof': WHATEVER THE INPUT: true; the input reads as it did. -/
def fnExactDecodeProofSpec : ChangeSpec := { name := "fnExactDecodeProof", fn := fun _ => fun
  | [d] => { results := [.lit (.bool true)], args := [d] }
  | _ => none }
def fnExactDecodeProofRow : OpenClaim := { program := "yteeggmnkcgpfjaa", sum := "9017332d9f76831949cf369057de63aa19559ee76cefdfc0cd676e9222bdba66", func := "loop.example/g00878/laws.FnExactDecodeProof", spec := "fnExactDecodeProof", unfollowed := true, recurses := true, apart := false }
def FnExactDecodeProofSaid : Prop := fnExactDecodeProofRow.holds Try.pinned (OpenSpec.ofChange fnExactDecodeProofSpec)

/-- ITS FALSE NEIGHBOUR: 'it returns false'. Refute it at one input. -/
def fnExactDecodeProofWrong : ChangeSpec := { name := "fnExactDecodeProof", fn := fun _ => fun
  | [d] => { results := [.lit (.bool false)], args := [d] }
  | _ => none }
def FnExactDecodeProofWrongFalsely : Prop := fnExactDecodeProofRow.holds Try.pinned (OpenSpec.ofChange fnExactDecodeProofWrong)

/-- 'laws.FnExactImagesOf': WHATEVER THE INPUT: true; the input reads as it did. -/
def fnExactImagesOfSpec : ChangeSpec := { name := "fnExactImagesOf", fn := fun _ => fun
  | [d1, d2, d3] => { results := [.lit (.bool true)], args := [d1, d2, d3] }
  | _ => none }
def fnExactImagesOfRow : OpenClaim := { program := "yteeggmnkcgpfjaa", sum := "9017332d9f76831949cf369057de63aa19559ee76cefdfc0cd676e9222bdba66", func := "loop.example/g00878/laws.FnExactImagesOf", spec := "fnExactImagesOf", unfollowed := true, recurses := true, apart := false }
def FnExactImagesOfSaid : Prop := fnExactImagesOfRow.holds Try.pinned (OpenSpec.ofChange fnExactImagesOfSpec)

/-- ITS FALSE NEIGHBOUR: 'it returns false'. Refute it at one input. -/
def fnExactImagesOfWrong : ChangeSpec := { name := "fnExactImagesOf", fn := fun _ => fun
  | [d1, d2, d3] => { results := [.lit (.bool false)], args := [d1, d2, d3] }
  | _ => none }
def FnExactImagesOfWrongFalsely : Prop := fnExactImagesOfRow.holds Try.pinned (OpenSpec.ofChange fnExactImagesOfWrong)

/-- 'laws.FnExactValueFrom': WHATEVER THE INPUT: true; the input reads as it did. -/
def fnExactValueFromSpec : ChangeSpec := { name := "fnExactValueFrom", fn := fun _ => fun
  | [d1, d2, d3, d4] => { results := [.lit (.bool true)], args := [d1, d2, d3, d4] }
  | _ => none }
def fnExactValueFromRow : OpenClaim := { program := "yteeggmnkcgpfjaa", sum := "9017332d9f76831949cf369057de63aa19559ee76cefdfc0cd676e9222bdba66", func := "loop.example/g00878/laws.FnExactValueFrom", spec := "fnExactValueFrom", unfollowed := true, recurses := true, apart := false }
def FnExactValueFromSaid : Prop := fnExactValueFromRow.holds Try.pinned (OpenSpec.ofChange fnExactValueFromSpec)

/-- ITS FALSE NEIGHBOUR: 'it returns false'. Refute it at one input. -/
def fnExactValueFromWrong : ChangeSpec := { name := "fnExactValueFrom", fn := fun _ => fun
  | [d1, d2, d3, d4] => { results := [.lit (.bool false)], args := [d1, d2, d3, d4] }
  | _ => none }
def FnExactValueFromWrongFalsely : Prop := fnExactValueFromRow.holds Try.pinned (OpenSpec.ofChange fnExactValueFromWrong)

/-- 'laws.FnExactInterpolate': WHATEVER THE INPUT: true; the input reads as it did. -/
def fnExactInterpolateSpec : ChangeSpec := { name := "fnExactInterpolate", fn := fun _ => fun
  | [d1, d2, d3] => { results := [.lit (.bool true)], args := [d1, d2, d3] }
  | _ => none }
def fnExactInterpolateRow : OpenClaim := { program := "yteeggmnkcgpfjaa", sum := "9017332d9f76831949cf369057de63aa19559ee76cefdfc0cd676e9222bdba66", func := "loop.example/g00878/laws.FnExactInterpolate", spec := "fnExactInterpolate", unfollowed := true, recurses := true, apart := false }
def FnExactInterpolateSaid : Prop := fnExactInterpolateRow.holds Try.pinned (OpenSpec.ofChange fnExactInterpolateSpec)

/-- ITS FALSE NEIGHBOUR: 'it returns false'. Refute it at one input. -/
def fnExactInterpolateWrong : ChangeSpec := { name := "fnExactInterpolate", fn := fun _ => fun
  | [d1, d2, d3] => { results := [.lit (.bool false)], args := [d1, d2, d3] }
  | _ => none }
def FnExactInterpolateWrongFalsely : Prop := fnExactInterpolateRow.holds Try.pinned (OpenSpec.ofChange fnExactInterpolateWrong)

/-- 'laws.FnExactProveKnowledge': WHATEVER THE INPUT: true; the input reads as it did. -/
def fnExactProveKnowledgeSpec : ChangeSpec := { name := "fnExactProveKnowledge", fn := fun _ => fun
  | [d1, d2, d3, d4, d5] => { results := [.lit (.bool true)], args := [d1, d2, d3, d4, d5] }
  | _ => none }
def fnExactProveKnowledgeRow : OpenClaim := { program := "yteeggmnkcgpfjaa", sum := "9017332d9f76831949cf369057de63aa19559ee76cefdfc0cd676e9222bdba66", func := "loop.example/g00878/laws.FnExactProveKnowledge", spec := "fnExactProveKnowledge", unfollowed := true, recurses := true, apart := false }
def FnExactProveKnowledgeSaid : Prop := fnExactProveKnowledgeRow.holds Try.pinned (OpenSpec.ofChange fnExactProveKnowledgeSpec)

/-- ITS FALSE NEIGHBOUR: 'it returns false'. Refute it at one input. -/
def fnExactProveKnowledgeWrong : ChangeSpec := { name := "fnExactProveKnowledge", fn := fun _ => fun
  | [d1, d2, d3, d4, d5] => { results := [.lit (.bool false)], args := [d1, d2, d3, d4, d5] }
  | _ => none }
def FnExactProveKnowledgeWrongFalsely : Prop := fnExactProveKnowledgeRow.holds Try.pinned (OpenSpec.ofChange fnExactProveKnowledgeWrong)

/-- 'laws.FnExactVerifyEqual': WHATEVER THE INPUT: true; the input reads as it did. -/
def fnExactVerifyEqualSpec : ChangeSpec := { name := "fnExactVerifyEqual", fn := fun _ => fun
  | [d1, d2, d3, d4] => { results := [.lit (.bool true)], args := [d1, d2, d3, d4] }
  | _ => none }
def fnExactVerifyEqualRow : OpenClaim := { program := "yteeggmnkcgpfjaa", sum := "9017332d9f76831949cf369057de63aa19559ee76cefdfc0cd676e9222bdba66", func := "loop.example/g00878/laws.FnExactVerifyEqual", spec := "fnExactVerifyEqual", unfollowed := true, recurses := true, apart := false }
def FnExactVerifyEqualSaid : Prop := fnExactVerifyEqualRow.holds Try.pinned (OpenSpec.ofChange fnExactVerifyEqualSpec)

/-- ITS FALSE NEIGHBOUR: 'it returns false'. Refute it at one input. -/
def fnExactVerifyEqualWrong : ChangeSpec := { name := "fnExactVerifyEqual", fn := fun _ => fun
  | [d1, d2, d3, d4] => { results := [.lit (.bool false)], args := [d1, d2, d3, d4] }
  | _ => none }
def FnExactVerifyEqualWrongFalsely : Prop := fnExactVerifyEqualRow.holds Try.pinned (OpenSpec.ofChange fnExactVerifyEqualWrong)

/-- 'laws.FnExactVerifyKnowledge': WHATEVER THE INPUT: true; the input reads as it did. -/
def fnExactVerifyKnowledgeSpec : ChangeSpec := { name := "fnExactVerifyKnowledge", fn := fun _ => fun
  | [d1, d2, d3, d4, d5] => { results := [.lit (.bool true)], args := [d1, d2, d3, d4, d5] }
  | _ => none }
def fnExactVerifyKnowledgeRow : OpenClaim := { program := "yteeggmnkcgpfjaa", sum := "9017332d9f76831949cf369057de63aa19559ee76cefdfc0cd676e9222bdba66", func := "loop.example/g00878/laws.FnExactVerifyKnowledge", spec := "fnExactVerifyKnowledge", unfollowed := true, recurses := true, apart := false }
def FnExactVerifyKnowledgeSaid : Prop := fnExactVerifyKnowledgeRow.holds Try.pinned (OpenSpec.ofChange fnExactVerifyKnowledgeSpec)

/-- ITS FALSE NEIGHBOUR: 'it returns false'. Refute it at one input. -/
def fnExactVerifyKnowledgeWrong : ChangeSpec := { name := "fnExactVerifyKnowledge", fn := fun _ => fun
  | [d1, d2, d3, d4, d5] => { results := [.lit (.bool false)], args := [d1, d2, d3, d4, d5] }
  | _ => none }
def FnExactVerifyKnowledgeWrongFalsely : Prop := fnExactVerifyKnowledgeRow.holds Try.pinned (OpenSpec.ofChange fnExactVerifyKnowledgeWrong)

/- THE SECOND FORM. 'bulk': how many values and letters a reading holds, each counted each time it is reached (what is shared counts as often as it is met; a slice's spare places count too). A statement '..UptoSaid' is the law's where the arguments, and the package variables that the reading takes, are together of bulk at most 1048576: NARROWER than '..Said'. Prove '..Said' where nothing that the law and all that it calls make is longer than what came in: it says more and counts as full. Else prove '..UptoSaid'. A law counts once. -/
mutual
def uptoBulk {H : Type} : DataW H → Nat
  | .lit (.string bytes) => bytes.length + 1
  | .lit _ => 1
  | .nil => 1
  | .ptr d => uptoBulk d + 1
  | .slice elems spare => uptoBulkAll elems + uptoBulkAll spare + 1
  | .agg parts => uptoBulkAll parts + 1
  | .iface _ d => uptoBulk d + 1
  | .map entries => uptoBulkEntries entries + 1
  | .held _ => 1
def uptoBulkAll {H : Type} : List (DataW H) → Nat
  | [] => 0
  | d :: r => uptoBulk d + uptoBulkAll r
def uptoBulkEntries {H : Type} : List (Lit × DataW H) → Nat
  | [] => 0
  | x :: r => uptoBulkEntry x + uptoBulkEntries r
def uptoBulkEntry {H : Type} : Lit × DataW H → Nat
  | (.string bytes, d) => bytes.length + uptoBulk d + 1
  | (_, d) => uptoBulk d + 1
 end
def uptoSmall : (H : Type) → List (DataW H) → Bool := fun _ ds => decide (uptoBulkAll ds ≤ 1048576)
def OpenSpec.upto (s : _root_.Go.ChangeSpec) : _root_.Go.OpenSpec := { _root_.Go.OpenSpec.ofChange s with cond := some uptoSmall }

/-- 'laws.FnExactElementsOf', WHERE WHAT IT READS IS OF BULK AT MOST 1048576: true; the input reads as it did. -/
def fnExactElementsOfUptoRow : OpenClaim := { program := "yteeggmnkcgpfjaa", sum := "9017332d9f76831949cf369057de63aa19559ee76cefdfc0cd676e9222bdba66", func := "loop.example/g00878/laws.FnExactElementsOf", spec := "fnExactElementsOf", recurses := true, apart := false, narrowed := true }
def FnExactElementsOfUptoSaid : Prop := fnExactElementsOfUptoRow.holds Try.pinned (OpenSpec.upto fnExactElementsOfSpec)

/-- 'laws.FnTinyGroups', WHERE WHAT IT READS IS OF BULK AT MOST 1048576: true; the input reads as it did. -/
def fnTinyGroupsUptoRow : OpenClaim := { program := "yteeggmnkcgpfjaa", sum := "9017332d9f76831949cf369057de63aa19559ee76cefdfc0cd676e9222bdba66", func := "loop.example/g00878/laws.FnTinyGroups", spec := "fnTinyGroups", recurses := true, apart := false, narrowed := true }
def FnTinyGroupsUptoSaid : Prop := fnTinyGroupsUptoRow.holds Try.pinned (OpenSpec.upto fnTinyGroupsSpec)

/-- 'laws.FnExactDecodeText', WHERE WHAT IT READS IS OF BULK AT MOST 1048576: true; the input reads as it did. -/
def fnExactDecodeTextUptoRow : OpenClaim := { program := "yteeggmnkcgpfjaa", sum := "9017332d9f76831949cf369057de63aa19559ee76cefdfc0cd676e9222bdba66", func := "loop.example/g00878/laws.FnExactDecodeText", spec := "fnExactDecodeText", unfollowed := true, recurses := true, apart := false, narrowed := true }
def FnExactDecodeTextUptoSaid : Prop := fnExactDecodeTextUptoRow.holds Try.pinned (OpenSpec.upto fnExactDecodeTextSpec)

/-- 'laws.FnExactDecodeCiphers', WHERE WHAT IT READS IS OF BULK AT MOST 1048576: true; the input reads as it did. -/
def fnExactDecodeCiphersUptoRow : OpenClaim := { program := "yteeggmnkcgpfjaa", sum := "9017332d9f76831949cf369057de63aa19559ee76cefdfc0cd676e9222bdba66", func := "loop.example/g00878/laws.FnExactDecodeCiphers", spec := "fnExactDecodeCiphers", unfollowed := true, recurses := true, apart := false, narrowed := true }
def FnExactDecodeCiphersUptoSaid : Prop := fnExactDecodeCiphersUptoRow.holds Try.pinned (OpenSpec.upto fnExactDecodeCiphersSpec)

/-- 'laws.FnExactDecodeProof', WHERE WHAT IT READS IS OF BULK AT MOST 1048576: true; the input reads as it did. -/
def fnExactDecodeProofUptoRow : OpenClaim := { program := "yteeggmnkcgpfjaa", sum := "9017332d9f76831949cf369057de63aa19559ee76cefdfc0cd676e9222bdba66", func := "loop.example/g00878/laws.FnExactDecodeProof", spec := "fnExactDecodeProof", unfollowed := true, recurses := true, apart := false, narrowed := true }
def FnExactDecodeProofUptoSaid : Prop := fnExactDecodeProofUptoRow.holds Try.pinned (OpenSpec.upto fnExactDecodeProofSpec)

/-- 'laws.FnExactImagesOf', WHERE WHAT IT READS IS OF BULK AT MOST 1048576: true; the input reads as it did. -/
def fnExactImagesOfUptoRow : OpenClaim := { program := "yteeggmnkcgpfjaa", sum := "9017332d9f76831949cf369057de63aa19559ee76cefdfc0cd676e9222bdba66", func := "loop.example/g00878/laws.FnExactImagesOf", spec := "fnExactImagesOf", unfollowed := true, recurses := true, apart := false, narrowed := true }
def FnExactImagesOfUptoSaid : Prop := fnExactImagesOfUptoRow.holds Try.pinned (OpenSpec.upto fnExactImagesOfSpec)

/-- 'laws.FnExactValueFrom', WHERE WHAT IT READS IS OF BULK AT MOST 1048576: true; the input reads as it did. -/
def fnExactValueFromUptoRow : OpenClaim := { program := "yteeggmnkcgpfjaa", sum := "9017332d9f76831949cf369057de63aa19559ee76cefdfc0cd676e9222bdba66", func := "loop.example/g00878/laws.FnExactValueFrom", spec := "fnExactValueFrom", unfollowed := true, recurses := true, apart := false, narrowed := true }
def FnExactValueFromUptoSaid : Prop := fnExactValueFromUptoRow.holds Try.pinned (OpenSpec.upto fnExactValueFromSpec)

/-- 'laws.FnExactInterpolate', WHERE WHAT IT READS IS OF BULK AT MOST 1048576: true; the input reads as it did. -/
def fnExactInterpolateUptoRow : OpenClaim := { program := "yteeggmnkcgpfjaa", sum := "9017332d9f76831949cf369057de63aa19559ee76cefdfc0cd676e9222bdba66", func := "loop.example/g00878/laws.FnExactInterpolate", spec := "fnExactInterpolate", unfollowed := true, recurses := true, apart := false, narrowed := true }
def FnExactInterpolateUptoSaid : Prop := fnExactInterpolateUptoRow.holds Try.pinned (OpenSpec.upto fnExactInterpolateSpec)

/-- 'laws.FnExactProveKnowledge', WHERE WHAT IT READS IS OF BULK AT MOST 1048576: true; the input reads as it did. -/
def fnExactProveKnowledgeUptoRow : OpenClaim := { program := "yteeggmnkcgpfjaa", sum := "9017332d9f76831949cf369057de63aa19559ee76cefdfc0cd676e9222bdba66", func := "loop.example/g00878/laws.FnExactProveKnowledge", spec := "fnExactProveKnowledge", unfollowed := true, recurses := true, apart := false, narrowed := true }
def FnExactProveKnowledgeUptoSaid : Prop := fnExactProveKnowledgeUptoRow.holds Try.pinned (OpenSpec.upto fnExactProveKnowledgeSpec)

/-- 'laws.FnExactVerifyEqual', WHERE WHAT IT READS IS OF BULK AT MOST 1048576: true; the input reads as it did. -/
def fnExactVerifyEqualUptoRow : OpenClaim := { program := "yteeggmnkcgpfjaa", sum := "9017332d9f76831949cf369057de63aa19559ee76cefdfc0cd676e9222bdba66", func := "loop.example/g00878/laws.FnExactVerifyEqual", spec := "fnExactVerifyEqual", unfollowed := true, recurses := true, apart := false, narrowed := true }
def FnExactVerifyEqualUptoSaid : Prop := fnExactVerifyEqualUptoRow.holds Try.pinned (OpenSpec.upto fnExactVerifyEqualSpec)

/-- 'laws.FnExactVerifyKnowledge', WHERE WHAT IT READS IS OF BULK AT MOST 1048576: true; the input reads as it did. -/
def fnExactVerifyKnowledgeUptoRow : OpenClaim := { program := "yteeggmnkcgpfjaa", sum := "9017332d9f76831949cf369057de63aa19559ee76cefdfc0cd676e9222bdba66", func := "loop.example/g00878/laws.FnExactVerifyKnowledge", spec := "fnExactVerifyKnowledge", unfollowed := true, recurses := true, apart := false, narrowed := true }
def FnExactVerifyKnowledgeUptoSaid : Prop := fnExactVerifyKnowledgeUptoRow.holds Try.pinned (OpenSpec.upto fnExactVerifyKnowledgeSpec)

end Rows
end Go.Proofs.Yteeggmnkcgpfjaa
