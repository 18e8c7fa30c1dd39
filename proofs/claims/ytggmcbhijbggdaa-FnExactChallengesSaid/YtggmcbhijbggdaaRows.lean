/-
  No cell of these rows narrows 'for every input' (looked for: loops, veiled, ifaces, maps, wideKeys, modest, calm, conditions, laid).
  DERIVED. THE GIVEN ROWS OF THIS SEAT. 12 by the template 'for every input the law returns true; each argument reads behind the call as it read before'; 0 by the template 'total and deterministic' (their statements: YtggmcbhijbggdaaTotals.lean).
  GIVEN WITH THE SEED: the statements are not yours to turn. If you find one false, say at which input.
  Laid BY PROGRAM, IN A SANDBOX (cutbox-rows.mjs): the forced cells as the released guide's own fill.sh prints them over the translation 0dd928eafa839a6d… (all of the seat's roots in one cut). By AI agents, Wed Nov 11 2026. No macro, syntax, notation, axiom, sorry.
-/
import Derived.Test.YtggmcbhijbggdaaChecked
import GoSem.Claim
import GoSem.ClaimJoined
import GoSem.ClaimMapViews
import Derived.JoinedTies
import Derived.KernelRfl
namespace Go.Proofs.Ytggmcbhijbggdaa
/- THE CELL 'sum', in the pinned program and in every row, IS THE sha256 OF THE DUMP (.gsa) THAT YtggmcbhijbggdaaProg.lean LOADS. Nothing in Lean hashes anything: it is a label: what it is worth is what the hold of that sum in a sandbox is worth. -/
noncomputable def Try.pinned : Pinned := { name := "ytggmcbhijbggdaa", sum := "0dd928eafa839a6d822ad8bb8b7588e79644ade84609bf31931590479802444e", checked := Try.checked }
namespace Rows
def none {H : Type} : Left H := { results := [], args := [] }

/-- 'laws.FnExactHashInts': WHATEVER THE INPUT: true; the input reads as it did. -/
def fnExactHashIntsSpec : ChangeSpec := { name := "fnExactHashInts", fn := fun _ => fun
  | [d] => { results := [.lit (.bool true)], args := [d] }
  | _ => none }
def fnExactHashIntsRow : OpenClaim := { program := "ytggmcbhijbggdaa", sum := "0dd928eafa839a6d822ad8bb8b7588e79644ade84609bf31931590479802444e", func := "loop.example/g00878/laws.FnExactHashInts", spec := "fnExactHashInts", unfollowed := true, recurses := true, apart := false }
def FnExactHashIntsSaid : Prop := fnExactHashIntsRow.holds Try.pinned (OpenSpec.ofChange fnExactHashIntsSpec)

/-- ITS FALSE NEIGHBOUR: 'it returns false'. Refute it at one input. -/
def fnExactHashIntsWrong : ChangeSpec := { name := "fnExactHashInts", fn := fun _ => fun
  | [d] => { results := [.lit (.bool false)], args := [d] }
  | _ => none }
def FnExactHashIntsWrongFalsely : Prop := fnExactHashIntsRow.holds Try.pinned (OpenSpec.ofChange fnExactHashIntsWrong)

/-- 'laws.FnExactHashLabelled': WHATEVER THE INPUT: true; the input reads as it did. -/
def fnExactHashLabelledSpec : ChangeSpec := { name := "fnExactHashLabelled", fn := fun _ => fun
  | [d1, d2] => { results := [.lit (.bool true)], args := [d1, d2] }
  | _ => none }
def fnExactHashLabelledRow : OpenClaim := { program := "ytggmcbhijbggdaa", sum := "0dd928eafa839a6d822ad8bb8b7588e79644ade84609bf31931590479802444e", func := "loop.example/g00878/laws.FnExactHashLabelled", spec := "fnExactHashLabelled", unfollowed := true, recurses := true, apart := false }
def FnExactHashLabelledSaid : Prop := fnExactHashLabelledRow.holds Try.pinned (OpenSpec.ofChange fnExactHashLabelledSpec)

/-- ITS FALSE NEIGHBOUR: 'it returns false'. Refute it at one input. -/
def fnExactHashLabelledWrong : ChangeSpec := { name := "fnExactHashLabelled", fn := fun _ => fun
  | [d1, d2] => { results := [.lit (.bool false)], args := [d1, d2] }
  | _ => none }
def FnExactHashLabelledWrongFalsely : Prop := fnExactHashLabelledRow.holds Try.pinned (OpenSpec.ofChange fnExactHashLabelledWrong)

/-- 'laws.FnExactChallenge': WHATEVER THE INPUT: true; the input reads as it did. -/
def fnExactChallengeSpec : ChangeSpec := { name := "fnExactChallenge", fn := fun _ => fun
  | [d1, d2, d3] => { results := [.lit (.bool true)], args := [d1, d2, d3] }
  | _ => none }
def fnExactChallengeRow : OpenClaim := { program := "ytggmcbhijbggdaa", sum := "0dd928eafa839a6d822ad8bb8b7588e79644ade84609bf31931590479802444e", func := "loop.example/g00878/laws.FnExactChallenge", spec := "fnExactChallenge", unfollowed := true, recurses := true, apart := false }
def FnExactChallengeSaid : Prop := fnExactChallengeRow.holds Try.pinned (OpenSpec.ofChange fnExactChallengeSpec)

/-- ITS FALSE NEIGHBOUR: 'it returns false'. Refute it at one input. -/
def fnExactChallengeWrong : ChangeSpec := { name := "fnExactChallenge", fn := fun _ => fun
  | [d1, d2, d3] => { results := [.lit (.bool false)], args := [d1, d2, d3] }
  | _ => none }
def FnExactChallengeWrongFalsely : Prop := fnExactChallengeRow.holds Try.pinned (OpenSpec.ofChange fnExactChallengeWrong)

/-- 'laws.FnExactChallenges': WHATEVER THE INPUT: true; the input reads as it did. -/
def fnExactChallengesSpec : ChangeSpec := { name := "fnExactChallenges", fn := fun _ => fun
  | [d1, d2, d3, d4] => { results := [.lit (.bool true)], args := [d1, d2, d3, d4] }
  | _ => none }
def fnExactChallengesRow : OpenClaim := { program := "ytggmcbhijbggdaa", sum := "0dd928eafa839a6d822ad8bb8b7588e79644ade84609bf31931590479802444e", func := "loop.example/g00878/laws.FnExactChallenges", spec := "fnExactChallenges", unfollowed := true, recurses := true, apart := false }
def FnExactChallengesSaid : Prop := fnExactChallengesRow.holds Try.pinned (OpenSpec.ofChange fnExactChallengesSpec)

/-- ITS FALSE NEIGHBOUR: 'it returns false'. Refute it at one input. -/
def fnExactChallengesWrong : ChangeSpec := { name := "fnExactChallenges", fn := fun _ => fun
  | [d1, d2, d3, d4] => { results := [.lit (.bool false)], args := [d1, d2, d3, d4] }
  | _ => none }
def FnExactChallengesWrongFalsely : Prop := fnExactChallengesRow.holds Try.pinned (OpenSpec.ofChange fnExactChallengesWrong)

/-- 'laws.FnExactDeriveElement': WHATEVER THE INPUT: true; the input reads as it did. -/
def fnExactDeriveElementSpec : ChangeSpec := { name := "fnExactDeriveElement", fn := fun _ => fun
  | [d1, d2, d3] => { results := [.lit (.bool true)], args := [d1, d2, d3] }
  | _ => none }
def fnExactDeriveElementRow : OpenClaim := { program := "ytggmcbhijbggdaa", sum := "0dd928eafa839a6d822ad8bb8b7588e79644ade84609bf31931590479802444e", func := "loop.example/g00878/laws.FnExactDeriveElement", spec := "fnExactDeriveElement", unfollowed := true, recurses := true, apart := false }
def FnExactDeriveElementSaid : Prop := fnExactDeriveElementRow.holds Try.pinned (OpenSpec.ofChange fnExactDeriveElementSpec)

/-- ITS FALSE NEIGHBOUR: 'it returns false'. Refute it at one input. -/
def fnExactDeriveElementWrong : ChangeSpec := { name := "fnExactDeriveElement", fn := fun _ => fun
  | [d1, d2, d3] => { results := [.lit (.bool false)], args := [d1, d2, d3] }
  | _ => none }
def FnExactDeriveElementWrongFalsely : Prop := fnExactDeriveElementRow.holds Try.pinned (OpenSpec.ofChange fnExactDeriveElementWrong)

/-- 'laws.FnExactDeriveElements': WHATEVER THE INPUT: true; the input reads as it did. -/
def fnExactDeriveElementsSpec : ChangeSpec := { name := "fnExactDeriveElements", fn := fun _ => fun
  | [d1, d2, d3] => { results := [.lit (.bool true)], args := [d1, d2, d3] }
  | _ => none }
def fnExactDeriveElementsRow : OpenClaim := { program := "ytggmcbhijbggdaa", sum := "0dd928eafa839a6d822ad8bb8b7588e79644ade84609bf31931590479802444e", func := "loop.example/g00878/laws.FnExactDeriveElements", spec := "fnExactDeriveElements", unfollowed := true, recurses := true, apart := false }
def FnExactDeriveElementsSaid : Prop := fnExactDeriveElementsRow.holds Try.pinned (OpenSpec.ofChange fnExactDeriveElementsSpec)

/-- ITS FALSE NEIGHBOUR: 'it returns false'. Refute it at one input. -/
def fnExactDeriveElementsWrong : ChangeSpec := { name := "fnExactDeriveElements", fn := fun _ => fun
  | [d1, d2, d3] => { results := [.lit (.bool false)], args := [d1, d2, d3] }
  | _ => none }
def FnExactDeriveElementsWrongFalsely : Prop := fnExactDeriveElementsRow.holds Try.pinned (OpenSpec.ofChange fnExactDeriveElementsWrong)

/-- 'laws.FnExactEncodeText': WHATEVER THE INPUT: true; the input reads as it did. -/
def fnExactEncodeTextSpec : ChangeSpec := { name := "fnExactEncodeText", fn := fun _ => fun
  | [d] => { results := [.lit (.bool true)], args := [d] }
  | _ => none }
def fnExactEncodeTextRow : OpenClaim := { program := "ytggmcbhijbggdaa", sum := "0dd928eafa839a6d822ad8bb8b7588e79644ade84609bf31931590479802444e", func := "loop.example/g00878/laws.FnExactEncodeText", spec := "fnExactEncodeText", unfollowed := true, recurses := true, apart := false }
def FnExactEncodeTextSaid : Prop := fnExactEncodeTextRow.holds Try.pinned (OpenSpec.ofChange fnExactEncodeTextSpec)

/-- ITS FALSE NEIGHBOUR: 'it returns false'. Refute it at one input. -/
def fnExactEncodeTextWrong : ChangeSpec := { name := "fnExactEncodeText", fn := fun _ => fun
  | [d] => { results := [.lit (.bool false)], args := [d] }
  | _ => none }
def FnExactEncodeTextWrongFalsely : Prop := fnExactEncodeTextRow.holds Try.pinned (OpenSpec.ofChange fnExactEncodeTextWrong)

/-- 'laws.FnExactDecodeText': WHATEVER THE INPUT: true; the input reads as it did. -/
def fnExactDecodeTextSpec : ChangeSpec := { name := "fnExactDecodeText", fn := fun _ => fun
  | [d] => { results := [.lit (.bool true)], args := [d] }
  | _ => none }
def fnExactDecodeTextRow : OpenClaim := { program := "ytggmcbhijbggdaa", sum := "0dd928eafa839a6d822ad8bb8b7588e79644ade84609bf31931590479802444e", func := "loop.example/g00878/laws.FnExactDecodeText", spec := "fnExactDecodeText", unfollowed := true, recurses := true, apart := false }
def FnExactDecodeTextSaid : Prop := fnExactDecodeTextRow.holds Try.pinned (OpenSpec.ofChange fnExactDecodeTextSpec)

/-- ITS FALSE NEIGHBOUR: 'it returns false'. Refute it at one input. -/
def fnExactDecodeTextWrong : ChangeSpec := { name := "fnExactDecodeText", fn := fun _ => fun
  | [d] => { results := [.lit (.bool false)], args := [d] }
  | _ => none }
def FnExactDecodeTextWrongFalsely : Prop := fnExactDecodeTextRow.holds Try.pinned (OpenSpec.ofChange fnExactDecodeTextWrong)

/-- 'laws.FnExactImagesOf': WHATEVER THE INPUT: true; the input reads as it did. -/
def fnExactImagesOfSpec : ChangeSpec := { name := "fnExactImagesOf", fn := fun _ => fun
  | [d1, d2, d3] => { results := [.lit (.bool true)], args := [d1, d2, d3] }
  | _ => none }
def fnExactImagesOfRow : OpenClaim := { program := "ytggmcbhijbggdaa", sum := "0dd928eafa839a6d822ad8bb8b7588e79644ade84609bf31931590479802444e", func := "loop.example/g00878/laws.FnExactImagesOf", spec := "fnExactImagesOf", unfollowed := true, recurses := true, apart := false }
def FnExactImagesOfSaid : Prop := fnExactImagesOfRow.holds Try.pinned (OpenSpec.ofChange fnExactImagesOfSpec)

/-- ITS FALSE NEIGHBOUR: 'it returns false'. Refute it at one input. -/
def fnExactImagesOfWrong : ChangeSpec := { name := "fnExactImagesOf", fn := fun _ => fun
  | [d1, d2, d3] => { results := [.lit (.bool false)], args := [d1, d2, d3] }
  | _ => none }
def FnExactImagesOfWrongFalsely : Prop := fnExactImagesOfRow.holds Try.pinned (OpenSpec.ofChange fnExactImagesOfWrong)

/-- 'laws.FnExactProveKnowledge': WHATEVER THE INPUT: true; the input reads as it did. -/
def fnExactProveKnowledgeSpec : ChangeSpec := { name := "fnExactProveKnowledge", fn := fun _ => fun
  | [d1, d2, d3, d4, d5] => { results := [.lit (.bool true)], args := [d1, d2, d3, d4, d5] }
  | _ => none }
def fnExactProveKnowledgeRow : OpenClaim := { program := "ytggmcbhijbggdaa", sum := "0dd928eafa839a6d822ad8bb8b7588e79644ade84609bf31931590479802444e", func := "loop.example/g00878/laws.FnExactProveKnowledge", spec := "fnExactProveKnowledge", unfollowed := true, recurses := true, apart := false }
def FnExactProveKnowledgeSaid : Prop := fnExactProveKnowledgeRow.holds Try.pinned (OpenSpec.ofChange fnExactProveKnowledgeSpec)

/-- ITS FALSE NEIGHBOUR: 'it returns false'. Refute it at one input. -/
def fnExactProveKnowledgeWrong : ChangeSpec := { name := "fnExactProveKnowledge", fn := fun _ => fun
  | [d1, d2, d3, d4, d5] => { results := [.lit (.bool false)], args := [d1, d2, d3, d4, d5] }
  | _ => none }
def FnExactProveKnowledgeWrongFalsely : Prop := fnExactProveKnowledgeRow.holds Try.pinned (OpenSpec.ofChange fnExactProveKnowledgeWrong)

/-- 'laws.FnExactVerifyEqual': WHATEVER THE INPUT: true; the input reads as it did. -/
def fnExactVerifyEqualSpec : ChangeSpec := { name := "fnExactVerifyEqual", fn := fun _ => fun
  | [d1, d2, d3, d4] => { results := [.lit (.bool true)], args := [d1, d2, d3, d4] }
  | _ => none }
def fnExactVerifyEqualRow : OpenClaim := { program := "ytggmcbhijbggdaa", sum := "0dd928eafa839a6d822ad8bb8b7588e79644ade84609bf31931590479802444e", func := "loop.example/g00878/laws.FnExactVerifyEqual", spec := "fnExactVerifyEqual", unfollowed := true, recurses := true, apart := false }
def FnExactVerifyEqualSaid : Prop := fnExactVerifyEqualRow.holds Try.pinned (OpenSpec.ofChange fnExactVerifyEqualSpec)

/-- ITS FALSE NEIGHBOUR: 'it returns false'. Refute it at one input. -/
def fnExactVerifyEqualWrong : ChangeSpec := { name := "fnExactVerifyEqual", fn := fun _ => fun
  | [d1, d2, d3, d4] => { results := [.lit (.bool false)], args := [d1, d2, d3, d4] }
  | _ => none }
def FnExactVerifyEqualWrongFalsely : Prop := fnExactVerifyEqualRow.holds Try.pinned (OpenSpec.ofChange fnExactVerifyEqualWrong)

/-- 'laws.FnExactVerifyKnowledge': WHATEVER THE INPUT: true; the input reads as it did. -/
def fnExactVerifyKnowledgeSpec : ChangeSpec := { name := "fnExactVerifyKnowledge", fn := fun _ => fun
  | [d1, d2, d3, d4, d5] => { results := [.lit (.bool true)], args := [d1, d2, d3, d4, d5] }
  | _ => none }
def fnExactVerifyKnowledgeRow : OpenClaim := { program := "ytggmcbhijbggdaa", sum := "0dd928eafa839a6d822ad8bb8b7588e79644ade84609bf31931590479802444e", func := "loop.example/g00878/laws.FnExactVerifyKnowledge", spec := "fnExactVerifyKnowledge", unfollowed := true, recurses := true, apart := false }
def FnExactVerifyKnowledgeSaid : Prop := fnExactVerifyKnowledgeRow.holds Try.pinned (OpenSpec.ofChange fnExactVerifyKnowledgeSpec)

/-- ITS FALSE NEIGHBOUR: 'it returns false'. Refute it at one input. -/
def fnExactVerifyKnowledgeWrong : ChangeSpec := { name := "fnExactVerifyKnowledge", fn := fun _ => fun
  | [d1, d2, d3, d4, d5] => { results := [.lit (.bool false)], args := [d1, d2, d3, d4, d5] }
  | _ => none }
def FnExactVerifyKnowledgeWrongFalsely : Prop := fnExactVerifyKnowledgeRow.holds Try.pinned (OpenSpec.ofChange fnExactVerifyKnowledgeWrong)

/- THE SECOND FORM. 'bulk': how many values and letters a reading holds, each counted each time it is reached (what is shared counts as often as it is met; a slice's spare places count too). A statement '..UptoSaid' is the law's where the arguments, and the package variables that the reading takes, are together of bulk at most 1048576: NARROWER than '..Said'. Prove '..Said' where nothing that the law and all that it calls make is longer than what came in: it says more and counts as full. Else prove '..UptoSaid'. A law counts once. -/
mutual
def uptoBulk {H : Type} : DataW H → Nat
  | .lit (.string bytes) => bytes.length + 1
  | .lit _ => 1
  | .nil => 1
  | .ptr d => uptoBulk d + 1
  | .slice elems spare => uptoBulkAll elems + uptoBulkAll spare + 1
  | .agg parts => uptoBulkAll parts + 1
  | .iface _ d => uptoBulk d + 1
  | .map entries => uptoBulkEntries entries + 1
  | .held _ => 1
def uptoBulkAll {H : Type} : List (DataW H) → Nat
  | [] => 0
  | d :: r => uptoBulk d + uptoBulkAll r
def uptoBulkEntries {H : Type} : List (Lit × DataW H) → Nat
  | [] => 0
  | x :: r => uptoBulkEntry x + uptoBulkEntries r
def uptoBulkEntry {H : Type} : Lit × DataW H → Nat
  | (.string bytes, d) => bytes.length + uptoBulk d + 1
  | (_, d) => uptoBulk d + 1
 end
def uptoSmall : (H : Type) → List (DataW H) → Bool := fun _ ds => decide (uptoBulkAll ds ≤ 1048576)
def OpenSpec.upto (s : _root_.Go.ChangeSpec) : _root_.Go.OpenSpec := { _root_.Go.OpenSpec.ofChange s with cond := some uptoSmall }

/-- 'laws.FnExactHashInts', WHERE WHAT IT READS IS OF BULK AT MOST 1048576: true; the input reads as it did. -/
def fnExactHashIntsUptoRow : OpenClaim := { program := "ytggmcbhijbggdaa", sum := "0dd928eafa839a6d822ad8bb8b7588e79644ade84609bf31931590479802444e", func := "loop.example/g00878/laws.FnExactHashInts", spec := "fnExactHashInts", unfollowed := true, recurses := true, apart := false, narrowed := true }
def FnExactHashIntsUptoSaid : Prop := fnExactHashIntsUptoRow.holds Try.pinned (OpenSpec.upto fnExactHashIntsSpec)

/-- 'laws.FnExactHashLabelled', WHERE WHAT IT READS IS OF BULK AT MOST 1048576: true; the input reads as it did. -/
def fnExactHashLabelledUptoRow : OpenClaim := { program := "ytggmcbhijbggdaa", sum := "0dd928eafa839a6d822ad8bb8b7588e79644ade84609bf31931590479802444e", func := "loop.example/g00878/laws.FnExactHashLabelled", spec := "fnExactHashLabelled", unfollowed := true, recurses := true, apart := false, narrowed := true }
def FnExactHashLabelledUptoSaid : Prop := fnExactHashLabelledUptoRow.holds Try.pinned (OpenSpec.upto fnExactHashLabelledSpec)

/-- 'laws.FnExactChallenge', WHERE WHAT IT READS IS OF BULK AT MOST 1048576: true; the input reads as it did. -/
def fnExactChallengeUptoRow : OpenClaim := { program := "ytggmcbhijbggdaa", sum := "0dd928eafa839a6d822ad8bb8b7588e79644ade84609bf31931590479802444e", func := "loop.example/g00878/laws.FnExactChallenge", spec := "fnExactChallenge", unfollowed := true, recurses := true, apart := false, narrowed := true }
def FnExactChallengeUptoSaid : Prop := fnExactChallengeUptoRow.holds Try.pinned (OpenSpec.upto fnExactChallengeSpec)

/-- 'laws.FnExactChallenges', WHERE WHAT IT READS IS OF BULK AT MOST 1048576: true; the input reads as it did. -/
def fnExactChallengesUptoRow : OpenClaim := { program := "ytggmcbhijbggdaa", sum := "0dd928eafa839a6d822ad8bb8b7588e79644ade84609bf31931590479802444e", func := "loop.example/g00878/laws.FnExactChallenges", spec := "fnExactChallenges", unfollowed := true, recurses := true, apart := false, narrowed := true }
def FnExactChallengesUptoSaid : Prop := fnExactChallengesUptoRow.holds Try.pinned (OpenSpec.upto fnExactChallengesSpec)

/-- 'laws.FnExactDeriveElement', WHERE WHAT IT READS IS OF BULK AT MOST 1048576: true; the input reads as it did. -/
def fnExactDeriveElementUptoRow : OpenClaim := { program := "ytggmcbhijbggdaa", sum := "0dd928eafa839a6d822ad8bb8b7588e79644ade84609bf31931590479802444e", func := "loop.example/g00878/laws.FnExactDeriveElement", spec := "fnExactDeriveElement", unfollowed := true, recurses := true, apart := false, narrowed := true }
def FnExactDeriveElementUptoSaid : Prop := fnExactDeriveElementUptoRow.holds Try.pinned (OpenSpec.upto fnExactDeriveElementSpec)

/-- 'laws.FnExactDeriveElements', WHERE WHAT IT READS IS OF BULK AT MOST 1048576: true; the input reads as it did. -/
def fnExactDeriveElementsUptoRow : OpenClaim := { program := "ytggmcbhijbggdaa", sum := "0dd928eafa839a6d822ad8bb8b7588e79644ade84609bf31931590479802444e", func := "loop.example/g00878/laws.FnExactDeriveElements", spec := "fnExactDeriveElements", unfollowed := true, recurses := true, apart := false, narrowed := true }
def FnExactDeriveElementsUptoSaid : Prop := fnExactDeriveElementsUptoRow.holds Try.pinned (OpenSpec.upto fnExactDeriveElementsSpec)

/-- 'laws.FnExactEncodeText', WHERE WHAT IT READS IS OF BULK AT MOST 1048576: true; the input reads as it did. -/
def fnExactEncodeTextUptoRow : OpenClaim := { program := "ytggmcbhijbggdaa", sum := "0dd928eafa839a6d822ad8bb8b7588e79644ade84609bf31931590479802444e", func := "loop.example/g00878/laws.FnExactEncodeText", spec := "fnExactEncodeText", unfollowed := true, recurses := true, apart := false, narrowed := true }
def FnExactEncodeTextUptoSaid : Prop := fnExactEncodeTextUptoRow.holds Try.pinned (OpenSpec.upto fnExactEncodeTextSpec)

/-- 'laws.FnExactDecodeText', WHERE WHAT IT READS IS OF BULK AT MOST 1048576: true; the input reads as it did. -/
def fnExactDecodeTextUptoRow : OpenClaim := { program := "ytggmcbhijbggdaa", sum := "0dd928eafa839a6d822ad8bb8b7588e79644ade84609bf31931590479802444e", func := "loop.example/g00878/laws.FnExactDecodeText", spec := "fnExactDecodeText", unfollowed := true, recurses := true, apart := false, narrowed := true }
def FnExactDecodeTextUptoSaid : Prop := fnExactDecodeTextUptoRow.holds Try.pinned (OpenSpec.upto fnExactDecodeTextSpec)

/-- 'laws.FnExactImagesOf', WHERE WHAT IT READS IS OF BULK AT MOST 1048576: true; the input reads as it did. -/
def fnExactImagesOfUptoRow : OpenClaim := { program := "ytggmcbhijbggdaa", sum := "0dd928eafa839a6d822ad8bb8b7588e79644ade84609bf31931590479802444e", func := "loop.example/g00878/laws.FnExactImagesOf", spec := "fnExactImagesOf", unfollowed := true, recurses := true, apart := false, narrowed := true }
def FnExactImagesOfUptoSaid : Prop := fnExactImagesOfUptoRow.holds Try.pinned (OpenSpec.upto fnExactImagesOfSpec)

/-- 'laws.FnExactProveKnowledge', WHERE WHAT IT READS IS OF BULK AT MOST 1048576: true; the input reads as it did. -/
def fnExactProveKnowledgeUptoRow : OpenClaim := { program := "ytggmcbhijbggdaa", sum := "0dd928eafa839a6d822ad8bb8b7588e79644ade84609bf31931590479802444e", func := "loop.example/g00878/laws.FnExactProveKnowledge", spec := "fnExactProveKnowledge", unfollowed := true, recurses := true, apart := false, narrowed := true }
def FnExactProveKnowledgeUptoSaid : Prop := fnExactProveKnowledgeUptoRow.holds Try.pinned (OpenSpec.upto fnExactProveKnowledgeSpec)

/-- 'laws.FnExactVerifyEqual', WHERE WHAT IT READS IS OF BULK AT MOST 1048576: true; the input reads as it did. -/
def fnExactVerifyEqualUptoRow : OpenClaim := { program := "ytggmcbhijbggdaa", sum := "0dd928eafa839a6d822ad8bb8b7588e79644ade84609bf31931590479802444e", func := "loop.example/g00878/laws.FnExactVerifyEqual", spec := "fnExactVerifyEqual", unfollowed := true, recurses := true, apart := false, narrowed := true }
def FnExactVerifyEqualUptoSaid : Prop := fnExactVerifyEqualUptoRow.holds Try.pinned (OpenSpec.upto fnExactVerifyEqualSpec)

/-- 'laws.FnExactVerifyKnowledge', WHERE WHAT IT READS IS OF BULK AT MOST 1048576: true; the input reads as it did. -/
def fnExactVerifyKnowledgeUptoRow : OpenClaim := { program := "ytggmcbhijbggdaa", sum := "0dd928eafa839a6d822ad8bb8b7588e79644ade84609bf31931590479802444e", func := "loop.example/g00878/laws.FnExactVerifyKnowledge", spec := "fnExactVerifyKnowledge", unfollowed := true, recurses := true, apart := false, narrowed := true }
def FnExactVerifyKnowledgeUptoSaid : Prop := fnExactVerifyKnowledgeUptoRow.holds Try.pinned (OpenSpec.upto fnExactVerifyKnowledgeSpec)

end Rows
end Go.Proofs.Ytggmcbhijbggdaa
