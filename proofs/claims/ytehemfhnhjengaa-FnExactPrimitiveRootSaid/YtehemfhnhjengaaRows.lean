/-
  No cell of these rows narrows 'for every input' (looked for: loops, veiled, ifaces, maps, wideKeys, modest, calm, conditions, laid).
  DERIVED. THE GIVEN ROWS OF THIS SEAT. 12 by the template 'for every input the law returns true; each argument reads behind the call as it read before'; 0 by the template 'total and deterministic' (their statements: YtehemfhnhjengaaTotals.lean).
  GIVEN WITH THE SEED: the statements are not yours to turn. If you find one false, say at which input.
  Laid BY PROGRAM, IN A SANDBOX (cutbox-rows.mjs): the forced cells as the released guide's own fill.sh prints them over the translation e2e110e208c56123… (all of the seat's roots in one cut). By AI agents, Wed Nov 11 2026. No macro, syntax, notation, axiom, sorry.
-/
import Derived.Test.YtehemfhnhjengaaChecked
import GoSem.Claim
import GoSem.ClaimJoined
import GoSem.ClaimMapViews
import Derived.JoinedTies
import Derived.KernelRfl
namespace Go.Proofs.Ytehemfhnhjengaa
/- THE CELL 'sum', in the pinned program and in every row, IS THE sha256 OF THE DUMP (.gsa) THAT YtehemfhnhjengaaProg.lean LOADS. Nothing in Lean hashes anything: it is a label: what it is worth is what the hold of that sum in a sandbox is worth. -/
noncomputable def Try.pinned : Pinned := { name := "ytehemfhnhjengaa", sum := "e2e110e208c56123f8b38f3e81e0155520ad9ddf50b21bf1aadfefefffacc941", checked := Try.checked }
namespace Rows
def none {H : Type} : Left H := { results := [], args := [] }

/-- 'laws.FnExactFactorOf': WHATEVER THE INPUT: true; the input reads as it did. -/
def fnExactFactorOfSpec : ChangeSpec := { name := "fnExactFactorOf", fn := fun _ => fun
  | [d] => { results := [.lit (.bool true)], args := [d] }
  | _ => none }
def fnExactFactorOfRow : OpenClaim := { program := "ytehemfhnhjengaa", sum := "e2e110e208c56123f8b38f3e81e0155520ad9ddf50b21bf1aadfefefffacc941", func := "loop.example/g00878/laws.FnExactFactorOf", spec := "fnExactFactorOf", apart := false }
def FnExactFactorOfSaid : Prop := fnExactFactorOfRow.holds Try.pinned (OpenSpec.ofChange fnExactFactorOfSpec)

/-- ITS FALSE NEIGHBOUR: 'it returns false'. Refute it at one input. -/
def fnExactFactorOfWrong : ChangeSpec := { name := "fnExactFactorOf", fn := fun _ => fun
  | [d] => { results := [.lit (.bool false)], args := [d] }
  | _ => none }
def FnExactFactorOfWrongFalsely : Prop := fnExactFactorOfRow.holds Try.pinned (OpenSpec.ofChange fnExactFactorOfWrong)

/-- 'laws.FnExactMakeGroup': WHATEVER THE INPUT: true; the input reads as it did. -/
def fnExactMakeGroupSpec : ChangeSpec := { name := "fnExactMakeGroup", fn := fun _ => fun
  | [d] => { results := [.lit (.bool true)], args := [d] }
  | _ => none }
def fnExactMakeGroupRow : OpenClaim := { program := "ytehemfhnhjengaa", sum := "e2e110e208c56123f8b38f3e81e0155520ad9ddf50b21bf1aadfefefffacc941", func := "loop.example/g00878/laws.FnExactMakeGroup", spec := "fnExactMakeGroup", apart := false }
def FnExactMakeGroupSaid : Prop := fnExactMakeGroupRow.holds Try.pinned (OpenSpec.ofChange fnExactMakeGroupSpec)

/-- ITS FALSE NEIGHBOUR: 'it returns false'. Refute it at one input. -/
def fnExactMakeGroupWrong : ChangeSpec := { name := "fnExactMakeGroup", fn := fun _ => fun
  | [d] => { results := [.lit (.bool false)], args := [d] }
  | _ => none }
def FnExactMakeGroupWrongFalsely : Prop := fnExactMakeGroupRow.holds Try.pinned (OpenSpec.ofChange fnExactMakeGroupWrong)

/-- 'laws.FnExactPrimitiveRoot': WHATEVER THE INPUT: true; the input reads as it did. -/
def fnExactPrimitiveRootSpec : ChangeSpec := { name := "fnExactPrimitiveRoot", fn := fun _ => fun
  | [d] => { results := [.lit (.bool true)], args := [d] }
  | _ => none }
def fnExactPrimitiveRootRow : OpenClaim := { program := "ytehemfhnhjengaa", sum := "e2e110e208c56123f8b38f3e81e0155520ad9ddf50b21bf1aadfefefffacc941", func := "loop.example/g00878/laws.FnExactPrimitiveRoot", spec := "fnExactPrimitiveRoot", unfollowed := true, recurses := true, apart := false }
def FnExactPrimitiveRootSaid : Prop := fnExactPrimitiveRootRow.holds Try.pinned (OpenSpec.ofChange fnExactPrimitiveRootSpec)

/-- ITS FALSE NEIGHBOUR: 'it returns false'. Refute it at one input. -/
def fnExactPrimitiveRootWrong : ChangeSpec := { name := "fnExactPrimitiveRoot", fn := fun _ => fun
  | [d] => { results := [.lit (.bool false)], args := [d] }
  | _ => none }
def FnExactPrimitiveRootWrongFalsely : Prop := fnExactPrimitiveRootRow.holds Try.pinned (OpenSpec.ofChange fnExactPrimitiveRootWrong)

/-- 'laws.FnExactInverseOf': WHATEVER THE INPUT: true; the input reads as it did. -/
def fnExactInverseOfSpec : ChangeSpec := { name := "fnExactInverseOf", fn := fun _ => fun
  | [d1, d2] => { results := [.lit (.bool true)], args := [d1, d2] }
  | _ => none }
def fnExactInverseOfRow : OpenClaim := { program := "ytehemfhnhjengaa", sum := "e2e110e208c56123f8b38f3e81e0155520ad9ddf50b21bf1aadfefefffacc941", func := "loop.example/g00878/laws.FnExactInverseOf", spec := "fnExactInverseOf", apart := false }
def FnExactInverseOfSaid : Prop := fnExactInverseOfRow.holds Try.pinned (OpenSpec.ofChange fnExactInverseOfSpec)

/-- ITS FALSE NEIGHBOUR: 'it returns false'. Refute it at one input. -/
def fnExactInverseOfWrong : ChangeSpec := { name := "fnExactInverseOf", fn := fun _ => fun
  | [d1, d2] => { results := [.lit (.bool false)], args := [d1, d2] }
  | _ => none }
def FnExactInverseOfWrongFalsely : Prop := fnExactInverseOfRow.holds Try.pinned (OpenSpec.ofChange fnExactInverseOfWrong)

/-- 'laws.FnExactKeyOf': WHATEVER THE INPUT: true; the input reads as it did. -/
def fnExactKeyOfSpec : ChangeSpec := { name := "fnExactKeyOf", fn := fun _ => fun
  | [d1, d2] => { results := [.lit (.bool true)], args := [d1, d2] }
  | _ => none }
def fnExactKeyOfRow : OpenClaim := { program := "ytehemfhnhjengaa", sum := "e2e110e208c56123f8b38f3e81e0155520ad9ddf50b21bf1aadfefefffacc941", func := "loop.example/g00878/laws.FnExactKeyOf", spec := "fnExactKeyOf", apart := false }
def FnExactKeyOfSaid : Prop := fnExactKeyOfRow.holds Try.pinned (OpenSpec.ofChange fnExactKeyOfSpec)

/-- ITS FALSE NEIGHBOUR: 'it returns false'. Refute it at one input. -/
def fnExactKeyOfWrong : ChangeSpec := { name := "fnExactKeyOf", fn := fun _ => fun
  | [d1, d2] => { results := [.lit (.bool false)], args := [d1, d2] }
  | _ => none }
def FnExactKeyOfWrongFalsely : Prop := fnExactKeyOfRow.holds Try.pinned (OpenSpec.ofChange fnExactKeyOfWrong)

/-- 'laws.FnExactIsValidCipher': WHATEVER THE INPUT: true; the input reads as it did. -/
def fnExactIsValidCipherSpec : ChangeSpec := { name := "fnExactIsValidCipher", fn := fun _ => fun
  | [d1, d2] => { results := [.lit (.bool true)], args := [d1, d2] }
  | _ => none }
def fnExactIsValidCipherRow : OpenClaim := { program := "ytehemfhnhjengaa", sum := "e2e110e208c56123f8b38f3e81e0155520ad9ddf50b21bf1aadfefefffacc941", func := "loop.example/g00878/laws.FnExactIsValidCipher", spec := "fnExactIsValidCipher", apart := false }
def FnExactIsValidCipherSaid : Prop := fnExactIsValidCipherRow.holds Try.pinned (OpenSpec.ofChange fnExactIsValidCipherSpec)

/-- ITS FALSE NEIGHBOUR: 'it returns false'. Refute it at one input. -/
def fnExactIsValidCipherWrong : ChangeSpec := { name := "fnExactIsValidCipher", fn := fun _ => fun
  | [d1, d2] => { results := [.lit (.bool false)], args := [d1, d2] }
  | _ => none }
def FnExactIsValidCipherWrongFalsely : Prop := fnExactIsValidCipherRow.holds Try.pinned (OpenSpec.ofChange fnExactIsValidCipherWrong)

/-- 'laws.FnExactExpOf': WHATEVER THE INPUT: true; the input reads as it did. -/
def fnExactExpOfSpec : ChangeSpec := { name := "fnExactExpOf", fn := fun _ => fun
  | [d1, d2, d3] => { results := [.lit (.bool true)], args := [d1, d2, d3] }
  | _ => none }
def fnExactExpOfRow : OpenClaim := { program := "ytehemfhnhjengaa", sum := "e2e110e208c56123f8b38f3e81e0155520ad9ddf50b21bf1aadfefefffacc941", func := "loop.example/g00878/laws.FnExactExpOf", spec := "fnExactExpOf", apart := false }
def FnExactExpOfSaid : Prop := fnExactExpOfRow.holds Try.pinned (OpenSpec.ofChange fnExactExpOfSpec)

/-- ITS FALSE NEIGHBOUR: 'it returns false'. Refute it at one input. -/
def fnExactExpOfWrong : ChangeSpec := { name := "fnExactExpOf", fn := fun _ => fun
  | [d1, d2, d3] => { results := [.lit (.bool false)], args := [d1, d2, d3] }
  | _ => none }
def FnExactExpOfWrongFalsely : Prop := fnExactExpOfRow.holds Try.pinned (OpenSpec.ofChange fnExactExpOfWrong)

/-- 'laws.FnExactLogOf': WHATEVER THE INPUT: true; the input reads as it did. -/
def fnExactLogOfSpec : ChangeSpec := { name := "fnExactLogOf", fn := fun _ => fun
  | [d1, d2, d3, d4] => { results := [.lit (.bool true)], args := [d1, d2, d3, d4] }
  | _ => none }
def fnExactLogOfRow : OpenClaim := { program := "ytehemfhnhjengaa", sum := "e2e110e208c56123f8b38f3e81e0155520ad9ddf50b21bf1aadfefefffacc941", func := "loop.example/g00878/laws.FnExactLogOf", spec := "fnExactLogOf", unfollowed := true, recurses := true, apart := false }
def FnExactLogOfSaid : Prop := fnExactLogOfRow.holds Try.pinned (OpenSpec.ofChange fnExactLogOfSpec)

/-- ITS FALSE NEIGHBOUR: 'it returns false'. Refute it at one input. -/
def fnExactLogOfWrong : ChangeSpec := { name := "fnExactLogOf", fn := fun _ => fun
  | [d1, d2, d3, d4] => { results := [.lit (.bool false)], args := [d1, d2, d3, d4] }
  | _ => none }
def FnExactLogOfWrongFalsely : Prop := fnExactLogOfRow.holds Try.pinned (OpenSpec.ofChange fnExactLogOfWrong)

/-- 'laws.FnExactIsTrueEqual': WHATEVER THE INPUT: true; the input reads as it did. -/
def fnExactIsTrueEqualSpec : ChangeSpec := { name := "fnExactIsTrueEqual", fn := fun _ => fun
  | [d1, d2, d3] => { results := [.lit (.bool true)], args := [d1, d2, d3] }
  | _ => none }
def fnExactIsTrueEqualRow : OpenClaim := { program := "ytehemfhnhjengaa", sum := "e2e110e208c56123f8b38f3e81e0155520ad9ddf50b21bf1aadfefefffacc941", func := "loop.example/g00878/laws.FnExactIsTrueEqual", spec := "fnExactIsTrueEqual", unfollowed := true, recurses := true, apart := false }
def FnExactIsTrueEqualSaid : Prop := fnExactIsTrueEqualRow.holds Try.pinned (OpenSpec.ofChange fnExactIsTrueEqualSpec)

/-- ITS FALSE NEIGHBOUR: 'it returns false'. Refute it at one input. -/
def fnExactIsTrueEqualWrong : ChangeSpec := { name := "fnExactIsTrueEqual", fn := fun _ => fun
  | [d1, d2, d3] => { results := [.lit (.bool false)], args := [d1, d2, d3] }
  | _ => none }
def FnExactIsTrueEqualWrongFalsely : Prop := fnExactIsTrueEqualRow.holds Try.pinned (OpenSpec.ofChange fnExactIsTrueEqualWrong)

/-- 'laws.FnExactPowCipher': WHATEVER THE INPUT: true; the input reads as it did. -/
def fnExactPowCipherSpec : ChangeSpec := { name := "fnExactPowCipher", fn := fun _ => fun
  | [d1, d2, d3] => { results := [.lit (.bool true)], args := [d1, d2, d3] }
  | _ => none }
def fnExactPowCipherRow : OpenClaim := { program := "ytehemfhnhjengaa", sum := "e2e110e208c56123f8b38f3e81e0155520ad9ddf50b21bf1aadfefefffacc941", func := "loop.example/g00878/laws.FnExactPowCipher", spec := "fnExactPowCipher", apart := false }
def FnExactPowCipherSaid : Prop := fnExactPowCipherRow.holds Try.pinned (OpenSpec.ofChange fnExactPowCipherSpec)

/-- ITS FALSE NEIGHBOUR: 'it returns false'. Refute it at one input. -/
def fnExactPowCipherWrong : ChangeSpec := { name := "fnExactPowCipher", fn := fun _ => fun
  | [d1, d2, d3] => { results := [.lit (.bool false)], args := [d1, d2, d3] }
  | _ => none }
def FnExactPowCipherWrongFalsely : Prop := fnExactPowCipherRow.holds Try.pinned (OpenSpec.ofChange fnExactPowCipherWrong)

/-- 'laws.FnExactMulOf': WHATEVER THE INPUT: true; the input reads as it did. -/
def fnExactMulOfSpec : ChangeSpec := { name := "fnExactMulOf", fn := fun _ => fun
  | [d1, d2] => { results := [.lit (.bool true)], args := [d1, d2] }
  | _ => none }
def fnExactMulOfRow : OpenClaim := { program := "ytehemfhnhjengaa", sum := "e2e110e208c56123f8b38f3e81e0155520ad9ddf50b21bf1aadfefefffacc941", func := "loop.example/g00878/laws.FnExactMulOf", spec := "fnExactMulOf", unfollowed := true, recurses := true, apart := false }
def FnExactMulOfSaid : Prop := fnExactMulOfRow.holds Try.pinned (OpenSpec.ofChange fnExactMulOfSpec)

/-- ITS FALSE NEIGHBOUR: 'it returns false'. Refute it at one input. -/
def fnExactMulOfWrong : ChangeSpec := { name := "fnExactMulOf", fn := fun _ => fun
  | [d1, d2] => { results := [.lit (.bool false)], args := [d1, d2] }
  | _ => none }
def FnExactMulOfWrongFalsely : Prop := fnExactMulOfRow.holds Try.pinned (OpenSpec.ofChange fnExactMulOfWrong)

/-- 'laws.FnExactProductOfPowers': WHATEVER THE INPUT: true; the input reads as it did. -/
def fnExactProductOfPowersSpec : ChangeSpec := { name := "fnExactProductOfPowers", fn := fun _ => fun
  | [d1, d2, d3] => { results := [.lit (.bool true)], args := [d1, d2, d3] }
  | _ => none }
def fnExactProductOfPowersRow : OpenClaim := { program := "ytehemfhnhjengaa", sum := "e2e110e208c56123f8b38f3e81e0155520ad9ddf50b21bf1aadfefefffacc941", func := "loop.example/g00878/laws.FnExactProductOfPowers", spec := "fnExactProductOfPowers", unfollowed := true, recurses := true, apart := false }
def FnExactProductOfPowersSaid : Prop := fnExactProductOfPowersRow.holds Try.pinned (OpenSpec.ofChange fnExactProductOfPowersSpec)

/-- ITS FALSE NEIGHBOUR: 'it returns false'. Refute it at one input. -/
def fnExactProductOfPowersWrong : ChangeSpec := { name := "fnExactProductOfPowers", fn := fun _ => fun
  | [d1, d2, d3] => { results := [.lit (.bool false)], args := [d1, d2, d3] }
  | _ => none }
def FnExactProductOfPowersWrongFalsely : Prop := fnExactProductOfPowersRow.holds Try.pinned (OpenSpec.ofChange fnExactProductOfPowersWrong)

/- THE SECOND FORM. 'bulk': how many values and letters a reading holds, each counted each time it is reached (what is shared counts as often as it is met; a slice's spare places count too). A statement '..UptoSaid' is the law's where the arguments, and the package variables that the reading takes, are together of bulk at most 1048576: NARROWER than '..Said'. Prove '..Said' where nothing that the law and all that it calls make is longer than what came in: it says more and counts as full. Else prove '..UptoSaid'. A law counts once. -/
mutual
def uptoBulk {H : Type} : DataW H → Nat
  | .lit (.string bytes) => bytes.length + 1
  | .lit _ => 1
  | .nil => 1
  | .ptr d => uptoBulk d + 1
  | .slice elems spare => uptoBulkAll elems + uptoBulkAll spare + 1
  | .agg parts => uptoBulkAll parts + 1
  | .iface _ d => uptoBulk d + 1
  | .map entries => uptoBulkEntries entries + 1
  | .held _ => 1
def uptoBulkAll {H : Type} : List (DataW H) → Nat
  | [] => 0
  | d :: r => uptoBulk d + uptoBulkAll r
def uptoBulkEntries {H : Type} : List (Lit × DataW H) → Nat
  | [] => 0
  | x :: r => uptoBulkEntry x + uptoBulkEntries r
def uptoBulkEntry {H : Type} : Lit × DataW H → Nat
  | (.string bytes, d) => bytes.length + uptoBulk d + 1
  | (_, d) => uptoBulk d + 1
 end
def uptoSmall : (H : Type) → List (DataW H) → Bool := fun _ ds => decide (uptoBulkAll ds ≤ 1048576)
def OpenSpec.upto (s : _root_.Go.ChangeSpec) : _root_.Go.OpenSpec := { _root_.Go.OpenSpec.ofChange s with cond := some uptoSmall }

/-- 'laws.FnExactFactorOf', WHERE WHAT IT READS IS OF BULK AT MOST 1048576: true; the input reads as it did. -/
def fnExactFactorOfUptoRow : OpenClaim := { program := "ytehemfhnhjengaa", sum := "e2e110e208c56123f8b38f3e81e0155520ad9ddf50b21bf1aadfefefffacc941", func := "loop.example/g00878/laws.FnExactFactorOf", spec := "fnExactFactorOf", apart := false, narrowed := true }
def FnExactFactorOfUptoSaid : Prop := fnExactFactorOfUptoRow.holds Try.pinned (OpenSpec.upto fnExactFactorOfSpec)

/-- 'laws.FnExactMakeGroup', WHERE WHAT IT READS IS OF BULK AT MOST 1048576: true; the input reads as it did. -/
def fnExactMakeGroupUptoRow : OpenClaim := { program := "ytehemfhnhjengaa", sum := "e2e110e208c56123f8b38f3e81e0155520ad9ddf50b21bf1aadfefefffacc941", func := "loop.example/g00878/laws.FnExactMakeGroup", spec := "fnExactMakeGroup", apart := false, narrowed := true }
def FnExactMakeGroupUptoSaid : Prop := fnExactMakeGroupUptoRow.holds Try.pinned (OpenSpec.upto fnExactMakeGroupSpec)

/-- 'laws.FnExactPrimitiveRoot', WHERE WHAT IT READS IS OF BULK AT MOST 1048576: true; the input reads as it did. -/
def fnExactPrimitiveRootUptoRow : OpenClaim := { program := "ytehemfhnhjengaa", sum := "e2e110e208c56123f8b38f3e81e0155520ad9ddf50b21bf1aadfefefffacc941", func := "loop.example/g00878/laws.FnExactPrimitiveRoot", spec := "fnExactPrimitiveRoot", unfollowed := true, recurses := true, apart := false, narrowed := true }
def FnExactPrimitiveRootUptoSaid : Prop := fnExactPrimitiveRootUptoRow.holds Try.pinned (OpenSpec.upto fnExactPrimitiveRootSpec)

/-- 'laws.FnExactInverseOf', WHERE WHAT IT READS IS OF BULK AT MOST 1048576: true; the input reads as it did. -/
def fnExactInverseOfUptoRow : OpenClaim := { program := "ytehemfhnhjengaa", sum := "e2e110e208c56123f8b38f3e81e0155520ad9ddf50b21bf1aadfefefffacc941", func := "loop.example/g00878/laws.FnExactInverseOf", spec := "fnExactInverseOf", apart := false, narrowed := true }
def FnExactInverseOfUptoSaid : Prop := fnExactInverseOfUptoRow.holds Try.pinned (OpenSpec.upto fnExactInverseOfSpec)

/-- 'laws.FnExactKeyOf', WHERE WHAT IT READS IS OF BULK AT MOST 1048576: true; the input reads as it did. -/
def fnExactKeyOfUptoRow : OpenClaim := { program := "ytehemfhnhjengaa", sum := "e2e110e208c56123f8b38f3e81e0155520ad9ddf50b21bf1aadfefefffacc941", func := "loop.example/g00878/laws.FnExactKeyOf", spec := "fnExactKeyOf", apart := false, narrowed := true }
def FnExactKeyOfUptoSaid : Prop := fnExactKeyOfUptoRow.holds Try.pinned (OpenSpec.upto fnExactKeyOfSpec)

/-- 'laws.FnExactIsValidCipher', WHERE WHAT IT READS IS OF BULK AT MOST 1048576: true; the input reads as it did. -/
def fnExactIsValidCipherUptoRow : OpenClaim := { program := "ytehemfhnhjengaa", sum := "e2e110e208c56123f8b38f3e81e0155520ad9ddf50b21bf1aadfefefffacc941", func := "loop.example/g00878/laws.FnExactIsValidCipher", spec := "fnExactIsValidCipher", apart := false, narrowed := true }
def FnExactIsValidCipherUptoSaid : Prop := fnExactIsValidCipherUptoRow.holds Try.pinned (OpenSpec.upto fnExactIsValidCipherSpec)

/-- 'laws.FnExactExpOf', WHERE WHAT IT READS IS OF BULK AT MOST 1048576: true; the input reads as it did. -/
def fnExactExpOfUptoRow : OpenClaim := { program := "ytehemfhnhjengaa", sum := "e2e110e208c56123f8b38f3e81e0155520ad9ddf50b21bf1aadfefefffacc941", func := "loop.example/g00878/laws.FnExactExpOf", spec := "fnExactExpOf", apart := false, narrowed := true }
def FnExactExpOfUptoSaid : Prop := fnExactExpOfUptoRow.holds Try.pinned (OpenSpec.upto fnExactExpOfSpec)

/-- 'laws.FnExactLogOf', WHERE WHAT IT READS IS OF BULK AT MOST 1048576: true; the input reads as it did. -/
def fnExactLogOfUptoRow : OpenClaim := { program := "ytehemfhnhjengaa", sum := "e2e110e208c56123f8b38f3e81e0155520ad9ddf50b21bf1aadfefefffacc941", func := "loop.example/g00878/laws.FnExactLogOf", spec := "fnExactLogOf", unfollowed := true, recurses := true, apart := false, narrowed := true }
def FnExactLogOfUptoSaid : Prop := fnExactLogOfUptoRow.holds Try.pinned (OpenSpec.upto fnExactLogOfSpec)

/-- 'laws.FnExactIsTrueEqual', WHERE WHAT IT READS IS OF BULK AT MOST 1048576: true; the input reads as it did. -/
def fnExactIsTrueEqualUptoRow : OpenClaim := { program := "ytehemfhnhjengaa", sum := "e2e110e208c56123f8b38f3e81e0155520ad9ddf50b21bf1aadfefefffacc941", func := "loop.example/g00878/laws.FnExactIsTrueEqual", spec := "fnExactIsTrueEqual", unfollowed := true, recurses := true, apart := false, narrowed := true }
def FnExactIsTrueEqualUptoSaid : Prop := fnExactIsTrueEqualUptoRow.holds Try.pinned (OpenSpec.upto fnExactIsTrueEqualSpec)

/-- 'laws.FnExactPowCipher', WHERE WHAT IT READS IS OF BULK AT MOST 1048576: true; the input reads as it did. -/
def fnExactPowCipherUptoRow : OpenClaim := { program := "ytehemfhnhjengaa", sum := "e2e110e208c56123f8b38f3e81e0155520ad9ddf50b21bf1aadfefefffacc941", func := "loop.example/g00878/laws.FnExactPowCipher", spec := "fnExactPowCipher", apart := false, narrowed := true }
def FnExactPowCipherUptoSaid : Prop := fnExactPowCipherUptoRow.holds Try.pinned (OpenSpec.upto fnExactPowCipherSpec)

/-- 'laws.FnExactMulOf', WHERE WHAT IT READS IS OF BULK AT MOST 1048576: true; the input reads as it did. -/
def fnExactMulOfUptoRow : OpenClaim := { program := "ytehemfhnhjengaa", sum := "e2e110e208c56123f8b38f3e81e0155520ad9ddf50b21bf1aadfefefffacc941", func := "loop.example/g00878/laws.FnExactMulOf", spec := "fnExactMulOf", unfollowed := true, recurses := true, apart := false, narrowed := true }
def FnExactMulOfUptoSaid : Prop := fnExactMulOfUptoRow.holds Try.pinned (OpenSpec.upto fnExactMulOfSpec)

/-- 'laws.FnExactProductOfPowers', WHERE WHAT IT READS IS OF BULK AT MOST 1048576: true; the input reads as it did. -/
def fnExactProductOfPowersUptoRow : OpenClaim := { program := "ytehemfhnhjengaa", sum := "e2e110e208c56123f8b38f3e81e0155520ad9ddf50b21bf1aadfefefffacc941", func := "loop.example/g00878/laws.FnExactProductOfPowers", spec := "fnExactProductOfPowers", unfollowed := true, recurses := true, apart := false, narrowed := true }
def FnExactProductOfPowersUptoSaid : Prop := fnExactProductOfPowersUptoRow.holds Try.pinned (OpenSpec.upto fnExactProductOfPowersSpec)

end Rows
end Go.Proofs.Ytehemfhnhjengaa
