/-
  No cell of these rows narrows 'for every input' (looked for: loops, veiled, ifaces, maps, wideKeys, modest, calm, conditions, laid).
  DERIVED. THE GIVEN ROWS OF THIS SEAT. 12 by the template 'for every input the law returns true; each argument reads behind the call as it read before'; 0 by the template 'total and deterministic' (their statements: YtemhjhaokbgldaaTotals.lean).
  GIVEN WITH THE SEED: the statements are not yours to turn. If you find one false, say at which input.
  Laid BY PROGRAM, IN A SANDBOX (cutbox-rows.mjs): the forced cells as the released guide's own fill.sh prints them over the translation c8aef5e5c86f9795… (all of the seat's roots in one cut). By AI agents, Wed Nov 11 2026. No macro, syntax, notation, axiom, sorry.
-/
import Derived.Test.YtemhjhaokbgldaaChecked
import GoSem.Claim
import GoSem.ClaimJoined
import GoSem.ClaimMapViews
import Derived.JoinedTies
import Derived.KernelRfl
namespace Go.Proofs.Ytemhjhaokbgldaa
/- THE CELL 'sum', in the pinned program and in every row, IS THE sha256 OF THE DUMP (.gsa) THAT YtemhjhaokbgldaaProg.lean LOADS. Nothing in Lean hashes anything: it is a label: what it is worth is what the hold of that sum in a sandbox is worth. -/
noncomputable def Try.pinned : Pinned := { name := "ytemhjhaokbgldaa", sum := "c8aef5e5c86f9795d9720e5ed778dc43db14b62548fa085611a09efd00f1638a", checked := Try.checked }
namespace Rows
def none {H : Type} : Left H := { results := [], args := [] }

/-- 'laws.FnExactDecryptElement': WHATEVER THE INPUT: true; the input reads as it did. -/
def fnExactDecryptElementSpec : ChangeSpec := { name := "fnExactDecryptElement", fn := fun _ => fun
  | [d1, d2, d3] => { results := [.lit (.bool true)], args := [d1, d2, d3] }
  | _ => none }
def fnExactDecryptElementRow : OpenClaim := { program := "ytemhjhaokbgldaa", sum := "c8aef5e5c86f9795d9720e5ed778dc43db14b62548fa085611a09efd00f1638a", func := "loop.example/g00878/laws.FnExactDecryptElement", spec := "fnExactDecryptElement", apart := false }
def FnExactDecryptElementSaid : Prop := fnExactDecryptElementRow.holds Try.pinned (OpenSpec.ofChange fnExactDecryptElementSpec)

/-- ITS FALSE NEIGHBOUR: 'it returns false'. Refute it at one input. -/
def fnExactDecryptElementWrong : ChangeSpec := { name := "fnExactDecryptElement", fn := fun _ => fun
  | [d1, d2, d3] => { results := [.lit (.bool false)], args := [d1, d2, d3] }
  | _ => none }
def FnExactDecryptElementWrongFalsely : Prop := fnExactDecryptElementRow.holds Try.pinned (OpenSpec.ofChange fnExactDecryptElementWrong)

/-- 'laws.FnExactEncryptElement': WHATEVER THE INPUT: true; the input reads as it did. -/
def fnExactEncryptElementSpec : ChangeSpec := { name := "fnExactEncryptElement", fn := fun _ => fun
  | [d1, d2, d3, d4] => { results := [.lit (.bool true)], args := [d1, d2, d3, d4] }
  | _ => none }
def fnExactEncryptElementRow : OpenClaim := { program := "ytemhjhaokbgldaa", sum := "c8aef5e5c86f9795d9720e5ed778dc43db14b62548fa085611a09efd00f1638a", func := "loop.example/g00878/laws.FnExactEncryptElement", spec := "fnExactEncryptElement", unfollowed := true, recurses := true, apart := false }
def FnExactEncryptElementSaid : Prop := fnExactEncryptElementRow.holds Try.pinned (OpenSpec.ofChange fnExactEncryptElementSpec)

/-- ITS FALSE NEIGHBOUR: 'it returns false'. Refute it at one input. -/
def fnExactEncryptElementWrong : ChangeSpec := { name := "fnExactEncryptElement", fn := fun _ => fun
  | [d1, d2, d3, d4] => { results := [.lit (.bool false)], args := [d1, d2, d3, d4] }
  | _ => none }
def FnExactEncryptElementWrongFalsely : Prop := fnExactEncryptElementRow.holds Try.pinned (OpenSpec.ofChange fnExactEncryptElementWrong)

/-- 'laws.FnExactEncryptExp': WHATEVER THE INPUT: true; the input reads as it did. -/
def fnExactEncryptExpSpec : ChangeSpec := { name := "fnExactEncryptExp", fn := fun _ => fun
  | [d1, d2, d3, d4] => { results := [.lit (.bool true)], args := [d1, d2, d3, d4] }
  | _ => none }
def fnExactEncryptExpRow : OpenClaim := { program := "ytemhjhaokbgldaa", sum := "c8aef5e5c86f9795d9720e5ed778dc43db14b62548fa085611a09efd00f1638a", func := "loop.example/g00878/laws.FnExactEncryptExp", spec := "fnExactEncryptExp", unfollowed := true, recurses := true, apart := false }
def FnExactEncryptExpSaid : Prop := fnExactEncryptExpRow.holds Try.pinned (OpenSpec.ofChange fnExactEncryptExpSpec)

/-- ITS FALSE NEIGHBOUR: 'it returns false'. Refute it at one input. -/
def fnExactEncryptExpWrong : ChangeSpec := { name := "fnExactEncryptExp", fn := fun _ => fun
  | [d1, d2, d3, d4] => { results := [.lit (.bool false)], args := [d1, d2, d3, d4] }
  | _ => none }
def FnExactEncryptExpWrongFalsely : Prop := fnExactEncryptExpRow.holds Try.pinned (OpenSpec.ofChange fnExactEncryptExpWrong)

/-- 'laws.FnExactReencrypt': WHATEVER THE INPUT: true; the input reads as it did. -/
def fnExactReencryptSpec : ChangeSpec := { name := "fnExactReencrypt", fn := fun _ => fun
  | [d1, d2, d3, d4] => { results := [.lit (.bool true)], args := [d1, d2, d3, d4] }
  | _ => none }
def fnExactReencryptRow : OpenClaim := { program := "ytemhjhaokbgldaa", sum := "c8aef5e5c86f9795d9720e5ed778dc43db14b62548fa085611a09efd00f1638a", func := "loop.example/g00878/laws.FnExactReencrypt", spec := "fnExactReencrypt", apart := false }
def FnExactReencryptSaid : Prop := fnExactReencryptRow.holds Try.pinned (OpenSpec.ofChange fnExactReencryptSpec)

/-- ITS FALSE NEIGHBOUR: 'it returns false'. Refute it at one input. -/
def fnExactReencryptWrong : ChangeSpec := { name := "fnExactReencrypt", fn := fun _ => fun
  | [d1, d2, d3, d4] => { results := [.lit (.bool false)], args := [d1, d2, d3, d4] }
  | _ => none }
def FnExactReencryptWrongFalsely : Prop := fnExactReencryptRow.holds Try.pinned (OpenSpec.ofChange fnExactReencryptWrong)

/-- 'laws.FnExactDecryptExp': WHATEVER THE INPUT: true; the input reads as it did. -/
def fnExactDecryptExpSpec : ChangeSpec := { name := "fnExactDecryptExp", fn := fun _ => fun
  | [d1, d2, d3, d4] => { results := [.lit (.bool true)], args := [d1, d2, d3, d4] }
  | _ => none }
def fnExactDecryptExpRow : OpenClaim := { program := "ytemhjhaokbgldaa", sum := "c8aef5e5c86f9795d9720e5ed778dc43db14b62548fa085611a09efd00f1638a", func := "loop.example/g00878/laws.FnExactDecryptExp", spec := "fnExactDecryptExp", unfollowed := true, recurses := true, apart := false }
def FnExactDecryptExpSaid : Prop := fnExactDecryptExpRow.holds Try.pinned (OpenSpec.ofChange fnExactDecryptExpSpec)

/-- ITS FALSE NEIGHBOUR: 'it returns false'. Refute it at one input. -/
def fnExactDecryptExpWrong : ChangeSpec := { name := "fnExactDecryptExp", fn := fun _ => fun
  | [d1, d2, d3, d4] => { results := [.lit (.bool false)], args := [d1, d2, d3, d4] }
  | _ => none }
def FnExactDecryptExpWrongFalsely : Prop := fnExactDecryptExpRow.holds Try.pinned (OpenSpec.ofChange fnExactDecryptExpWrong)

/-- 'laws.FnExactMulCiphers': WHATEVER THE INPUT: true; the input reads as it did. -/
def fnExactMulCiphersSpec : ChangeSpec := { name := "fnExactMulCiphers", fn := fun _ => fun
  | [d1, d2] => { results := [.lit (.bool true)], args := [d1, d2] }
  | _ => none }
def fnExactMulCiphersRow : OpenClaim := { program := "ytemhjhaokbgldaa", sum := "c8aef5e5c86f9795d9720e5ed778dc43db14b62548fa085611a09efd00f1638a", func := "loop.example/g00878/laws.FnExactMulCiphers", spec := "fnExactMulCiphers", unfollowed := true, recurses := true, apart := false }
def FnExactMulCiphersSaid : Prop := fnExactMulCiphersRow.holds Try.pinned (OpenSpec.ofChange fnExactMulCiphersSpec)

/-- ITS FALSE NEIGHBOUR: 'it returns false'. Refute it at one input. -/
def fnExactMulCiphersWrong : ChangeSpec := { name := "fnExactMulCiphers", fn := fun _ => fun
  | [d1, d2] => { results := [.lit (.bool false)], args := [d1, d2] }
  | _ => none }
def FnExactMulCiphersWrongFalsely : Prop := fnExactMulCiphersRow.holds Try.pinned (OpenSpec.ofChange fnExactMulCiphersWrong)

/-- 'laws.FnExactCipherSum': WHATEVER THE INPUT: true; the input reads as it did. -/
def fnExactCipherSumSpec : ChangeSpec := { name := "fnExactCipherSum", fn := fun _ => fun
  | [d1, d2] => { results := [.lit (.bool true)], args := [d1, d2] }
  | _ => none }
def fnExactCipherSumRow : OpenClaim := { program := "ytemhjhaokbgldaa", sum := "c8aef5e5c86f9795d9720e5ed778dc43db14b62548fa085611a09efd00f1638a", func := "loop.example/g00878/laws.FnExactCipherSum", spec := "fnExactCipherSum", unfollowed := true, recurses := true, apart := false }
def FnExactCipherSumSaid : Prop := fnExactCipherSumRow.holds Try.pinned (OpenSpec.ofChange fnExactCipherSumSpec)

/-- ITS FALSE NEIGHBOUR: 'it returns false'. Refute it at one input. -/
def fnExactCipherSumWrong : ChangeSpec := { name := "fnExactCipherSum", fn := fun _ => fun
  | [d1, d2] => { results := [.lit (.bool false)], args := [d1, d2] }
  | _ => none }
def FnExactCipherSumWrongFalsely : Prop := fnExactCipherSumRow.holds Try.pinned (OpenSpec.ofChange fnExactCipherSumWrong)

/-- 'laws.FnExactWeightedProduct': WHATEVER THE INPUT: true; the input reads as it did. -/
def fnExactWeightedProductSpec : ChangeSpec := { name := "fnExactWeightedProduct", fn := fun _ => fun
  | [d1, d2, d3] => { results := [.lit (.bool true)], args := [d1, d2, d3] }
  | _ => none }
def fnExactWeightedProductRow : OpenClaim := { program := "ytemhjhaokbgldaa", sum := "c8aef5e5c86f9795d9720e5ed778dc43db14b62548fa085611a09efd00f1638a", func := "loop.example/g00878/laws.FnExactWeightedProduct", spec := "fnExactWeightedProduct", unfollowed := true, recurses := true, apart := false }
def FnExactWeightedProductSaid : Prop := fnExactWeightedProductRow.holds Try.pinned (OpenSpec.ofChange fnExactWeightedProductSpec)

/-- ITS FALSE NEIGHBOUR: 'it returns false'. Refute it at one input. -/
def fnExactWeightedProductWrong : ChangeSpec := { name := "fnExactWeightedProduct", fn := fun _ => fun
  | [d1, d2, d3] => { results := [.lit (.bool false)], args := [d1, d2, d3] }
  | _ => none }
def FnExactWeightedProductWrongFalsely : Prop := fnExactWeightedProductRow.holds Try.pinned (OpenSpec.ofChange fnExactWeightedProductWrong)

/-- 'laws.FnExactReencryptAll': WHATEVER THE INPUT: true; the input reads as it did. -/
def fnExactReencryptAllSpec : ChangeSpec := { name := "fnExactReencryptAll", fn := fun _ => fun
  | [d1, d2, d3, d4] => { results := [.lit (.bool true)], args := [d1, d2, d3, d4] }
  | _ => none }
def fnExactReencryptAllRow : OpenClaim := { program := "ytemhjhaokbgldaa", sum := "c8aef5e5c86f9795d9720e5ed778dc43db14b62548fa085611a09efd00f1638a", func := "loop.example/g00878/laws.FnExactReencryptAll", spec := "fnExactReencryptAll", unfollowed := true, recurses := true, apart := false }
def FnExactReencryptAllSaid : Prop := fnExactReencryptAllRow.holds Try.pinned (OpenSpec.ofChange fnExactReencryptAllSpec)

/-- ITS FALSE NEIGHBOUR: 'it returns false'. Refute it at one input. -/
def fnExactReencryptAllWrong : ChangeSpec := { name := "fnExactReencryptAll", fn := fun _ => fun
  | [d1, d2, d3, d4] => { results := [.lit (.bool false)], args := [d1, d2, d3, d4] }
  | _ => none }
def FnExactReencryptAllWrongFalsely : Prop := fnExactReencryptAllRow.holds Try.pinned (OpenSpec.ofChange fnExactReencryptAllWrong)

/-- 'laws.FnExactEncodeCiphers': WHATEVER THE INPUT: true; the input reads as it did. -/
def fnExactEncodeCiphersSpec : ChangeSpec := { name := "fnExactEncodeCiphers", fn := fun _ => fun
  | [d] => { results := [.lit (.bool true)], args := [d] }
  | _ => none }
def fnExactEncodeCiphersRow : OpenClaim := { program := "ytemhjhaokbgldaa", sum := "c8aef5e5c86f9795d9720e5ed778dc43db14b62548fa085611a09efd00f1638a", func := "loop.example/g00878/laws.FnExactEncodeCiphers", spec := "fnExactEncodeCiphers", unfollowed := true, recurses := true, apart := false }
def FnExactEncodeCiphersSaid : Prop := fnExactEncodeCiphersRow.holds Try.pinned (OpenSpec.ofChange fnExactEncodeCiphersSpec)

/-- ITS FALSE NEIGHBOUR: 'it returns false'. Refute it at one input. -/
def fnExactEncodeCiphersWrong : ChangeSpec := { name := "fnExactEncodeCiphers", fn := fun _ => fun
  | [d] => { results := [.lit (.bool false)], args := [d] }
  | _ => none }
def FnExactEncodeCiphersWrongFalsely : Prop := fnExactEncodeCiphersRow.holds Try.pinned (OpenSpec.ofChange fnExactEncodeCiphersWrong)

/-- 'laws.FnExactDecodeCiphers': WHATEVER THE INPUT: true; the input reads as it did. -/
def fnExactDecodeCiphersSpec : ChangeSpec := { name := "fnExactDecodeCiphers", fn := fun _ => fun
  | [d] => { results := [.lit (.bool true)], args := [d] }
  | _ => none }
def fnExactDecodeCiphersRow : OpenClaim := { program := "ytemhjhaokbgldaa", sum := "c8aef5e5c86f9795d9720e5ed778dc43db14b62548fa085611a09efd00f1638a", func := "loop.example/g00878/laws.FnExactDecodeCiphers", spec := "fnExactDecodeCiphers", unfollowed := true, recurses := true, apart := false }
def FnExactDecodeCiphersSaid : Prop := fnExactDecodeCiphersRow.holds Try.pinned (OpenSpec.ofChange fnExactDecodeCiphersSpec)

/-- ITS FALSE NEIGHBOUR: 'it returns false'. Refute it at one input. -/
def fnExactDecodeCiphersWrong : ChangeSpec := { name := "fnExactDecodeCiphers", fn := fun _ => fun
  | [d] => { results := [.lit (.bool false)], args := [d] }
  | _ => none }
def FnExactDecodeCiphersWrongFalsely : Prop := fnExactDecodeCiphersRow.holds Try.pinned (OpenSpec.ofChange fnExactDecodeCiphersWrong)

/-- 'laws.FnExactDecodeProof': WHATEVER THE INPUT: true; the input reads as it did. -/
def fnExactDecodeProofSpec : ChangeSpec := { name := "fnExactDecodeProof", fn := fun _ => fun
  | [d] => { results := [.lit (.bool true)], args := [d] }
  | _ => none }
def fnExactDecodeProofRow : OpenClaim := { program := "ytemhjhaokbgldaa", sum := "c8aef5e5c86f9795d9720e5ed778dc43db14b62548fa085611a09efd00f1638a", func := "loop.example/g00878/laws.FnExactDecodeProof", spec := "fnExactDecodeProof", unfollowed := true, recurses := true, apart := false }
def FnExactDecodeProofSaid : Prop := fnExactDecodeProofRow.holds Try.pinned (OpenSpec.ofChange fnExactDecodeProofSpec)

/-- ITS FALSE NEIGHBOUR: 'it returns false'. Refute it at one input. -/
def fnExactDecodeProofWrong : ChangeSpec := { name := "fnExactDecodeProof", fn := fun _ => fun
  | [d] => { results := [.lit (.bool false)], args := [d] }
  | _ => none }
def FnExactDecodeProofWrongFalsely : Prop := fnExactDecodeProofRow.holds Try.pinned (OpenSpec.ofChange fnExactDecodeProofWrong)

/- THE SECOND FORM. 'bulk': how many values and letters a reading holds, each counted each time it is reached (what is shared counts as often as it is met; a slice's spare places count too). A statement '..UptoSaid' is the law's where the arguments, and the package variables that the reading takes, are together of bulk at most 1048576: NARROWER than '..Said'. Prove '..Said' where nothing that the law and all that it calls make is longer than what came in: it says more and counts as full. Else prove '..UptoSaid'. A law counts once. -/
mutual
def uptoBulk {H : Type} : DataW H → Nat
  | .lit (.string bytes) => bytes.length + 1
  | .lit _ => 1
  | .nil => 1
  | .ptr d => uptoBulk d + 1
  | .slice elems spare => uptoBulkAll elems + uptoBulkAll spare + 1
  | .agg parts => uptoBulkAll parts + 1
  | .iface _ d => uptoBulk d + 1
  | .map entries => uptoBulkEntries entries + 1
  | .held _ => 1
def uptoBulkAll {H : Type} : List (DataW H) → Nat
  | [] => 0
  | d :: r => uptoBulk d + uptoBulkAll r
def uptoBulkEntries {H : Type} : List (Lit × DataW H) → Nat
  | [] => 0
  | x :: r => uptoBulkEntry x + uptoBulkEntries r
def uptoBulkEntry {H : Type} : Lit × DataW H → Nat
  | (.string bytes, d) => bytes.length + uptoBulk d + 1
  | (_, d) => uptoBulk d + 1
 end
def uptoSmall : (H : Type) → List (DataW H) → Bool := fun _ ds => decide (uptoBulkAll ds ≤ 1048576)
def OpenSpec.upto (s : _root_.Go.ChangeSpec) : _root_.Go.OpenSpec := { _root_.Go.OpenSpec.ofChange s with cond := some uptoSmall }

/-- 'laws.FnExactDecryptElement', WHERE WHAT IT READS IS OF BULK AT MOST 1048576: true; the input reads as it did. -/
def fnExactDecryptElementUptoRow : OpenClaim := { program := "ytemhjhaokbgldaa", sum := "c8aef5e5c86f9795d9720e5ed778dc43db14b62548fa085611a09efd00f1638a", func := "loop.example/g00878/laws.FnExactDecryptElement", spec := "fnExactDecryptElement", apart := false, narrowed := true }
def FnExactDecryptElementUptoSaid : Prop := fnExactDecryptElementUptoRow.holds Try.pinned (OpenSpec.upto fnExactDecryptElementSpec)

/-- 'laws.FnExactEncryptElement', WHERE WHAT IT READS IS OF BULK AT MOST 1048576: true; the input reads as it did. -/
def fnExactEncryptElementUptoRow : OpenClaim := { program := "ytemhjhaokbgldaa", sum := "c8aef5e5c86f9795d9720e5ed778dc43db14b62548fa085611a09efd00f1638a", func := "loop.example/g00878/laws.FnExactEncryptElement", spec := "fnExactEncryptElement", unfollowed := true, recurses := true, apart := false, narrowed := true }
def FnExactEncryptElementUptoSaid : Prop := fnExactEncryptElementUptoRow.holds Try.pinned (OpenSpec.upto fnExactEncryptElementSpec)

/-- 'laws.FnExactEncryptExp', WHERE WHAT IT READS IS OF BULK AT MOST 1048576: true; the input reads as it did. -/
def fnExactEncryptExpUptoRow : OpenClaim := { program := "ytemhjhaokbgldaa", sum := "c8aef5e5c86f9795d9720e5ed778dc43db14b62548fa085611a09efd00f1638a", func := "loop.example/g00878/laws.FnExactEncryptExp", spec := "fnExactEncryptExp", unfollowed := true, recurses := true, apart := false, narrowed := true }
def FnExactEncryptExpUptoSaid : Prop := fnExactEncryptExpUptoRow.holds Try.pinned (OpenSpec.upto fnExactEncryptExpSpec)

/-- 'laws.FnExactReencrypt', WHERE WHAT IT READS IS OF BULK AT MOST 1048576: true; the input reads as it did. -/
def fnExactReencryptUptoRow : OpenClaim := { program := "ytemhjhaokbgldaa", sum := "c8aef5e5c86f9795d9720e5ed778dc43db14b62548fa085611a09efd00f1638a", func := "loop.example/g00878/laws.FnExactReencrypt", spec := "fnExactReencrypt", apart := false, narrowed := true }
def FnExactReencryptUptoSaid : Prop := fnExactReencryptUptoRow.holds Try.pinned (OpenSpec.upto fnExactReencryptSpec)

/-- 'laws.FnExactDecryptExp', WHERE WHAT IT READS IS OF BULK AT MOST 1048576: true; the input reads as it did. -/
def fnExactDecryptExpUptoRow : OpenClaim := { program := "ytemhjhaokbgldaa", sum := "c8aef5e5c86f9795d9720e5ed778dc43db14b62548fa085611a09efd00f1638a", func := "loop.example/g00878/laws.FnExactDecryptExp", spec := "fnExactDecryptExp", unfollowed := true, recurses := true, apart := false, narrowed := true }
def FnExactDecryptExpUptoSaid : Prop := fnExactDecryptExpUptoRow.holds Try.pinned (OpenSpec.upto fnExactDecryptExpSpec)

/-- 'laws.FnExactMulCiphers', WHERE WHAT IT READS IS OF BULK AT MOST 1048576: true; the input reads as it did. -/
def fnExactMulCiphersUptoRow : OpenClaim := { program := "ytemhjhaokbgldaa", sum := "c8aef5e5c86f9795d9720e5ed778dc43db14b62548fa085611a09efd00f1638a", func := "loop.example/g00878/laws.FnExactMulCiphers", spec := "fnExactMulCiphers", unfollowed := true, recurses := true, apart := false, narrowed := true }
def FnExactMulCiphersUptoSaid : Prop := fnExactMulCiphersUptoRow.holds Try.pinned (OpenSpec.upto fnExactMulCiphersSpec)

/-- 'laws.FnExactCipherSum', WHERE WHAT IT READS IS OF BULK AT MOST 1048576: true; the input reads as it did. -/
def fnExactCipherSumUptoRow : OpenClaim := { program := "ytemhjhaokbgldaa", sum := "c8aef5e5c86f9795d9720e5ed778dc43db14b62548fa085611a09efd00f1638a", func := "loop.example/g00878/laws.FnExactCipherSum", spec := "fnExactCipherSum", unfollowed := true, recurses := true, apart := false, narrowed := true }
def FnExactCipherSumUptoSaid : Prop := fnExactCipherSumUptoRow.holds Try.pinned (OpenSpec.upto fnExactCipherSumSpec)

/-- 'laws.FnExactWeightedProduct', WHERE WHAT IT READS IS OF BULK AT MOST 1048576: true; the input reads as it did. -/
def fnExactWeightedProductUptoRow : OpenClaim := { program := "ytemhjhaokbgldaa", sum := "c8aef5e5c86f9795d9720e5ed778dc43db14b62548fa085611a09efd00f1638a", func := "loop.example/g00878/laws.FnExactWeightedProduct", spec := "fnExactWeightedProduct", unfollowed := true, recurses := true, apart := false, narrowed := true }
def FnExactWeightedProductUptoSaid : Prop := fnExactWeightedProductUptoRow.holds Try.pinned (OpenSpec.upto fnExactWeightedProductSpec)

/-- 'laws.FnExactReencryptAll', WHERE WHAT IT READS IS OF BULK AT MOST 1048576: true; the input reads as it did. -/
def fnExactReencryptAllUptoRow : OpenClaim := { program := "ytemhjhaokbgldaa", sum := "c8aef5e5c86f9795d9720e5ed778dc43db14b62548fa085611a09efd00f1638a", func := "loop.example/g00878/laws.FnExactReencryptAll", spec := "fnExactReencryptAll", unfollowed := true, recurses := true, apart := false, narrowed := true }
def FnExactReencryptAllUptoSaid : Prop := fnExactReencryptAllUptoRow.holds Try.pinned (OpenSpec.upto fnExactReencryptAllSpec)

/-- 'laws.FnExactEncodeCiphers', WHERE WHAT IT READS IS OF BULK AT MOST 1048576: true; the input reads as it did. -/
def fnExactEncodeCiphersUptoRow : OpenClaim := { program := "ytemhjhaokbgldaa", sum := "c8aef5e5c86f9795d9720e5ed778dc43db14b62548fa085611a09efd00f1638a", func := "loop.example/g00878/laws.FnExactEncodeCiphers", spec := "fnExactEncodeCiphers", unfollowed := true, recurses := true, apart := false, narrowed := true }
def FnExactEncodeCiphersUptoSaid : Prop := fnExactEncodeCiphersUptoRow.holds Try.pinned (OpenSpec.upto fnExactEncodeCiphersSpec)

/-- 'laws.FnExactDecodeCiphers', WHERE WHAT IT READS IS OF BULK AT MOST 1048576: true; the input reads as it did. -/
def fnExactDecodeCiphersUptoRow : OpenClaim := { program := "ytemhjhaokbgldaa", sum := "c8aef5e5c86f9795d9720e5ed778dc43db14b62548fa085611a09efd00f1638a", func := "loop.example/g00878/laws.FnExactDecodeCiphers", spec := "fnExactDecodeCiphers", unfollowed := true, recurses := true, apart := false, narrowed := true }
def FnExactDecodeCiphersUptoSaid : Prop := fnExactDecodeCiphersUptoRow.holds Try.pinned (OpenSpec.upto fnExactDecodeCiphersSpec)

/-- 'laws.FnExactDecodeProof', WHERE WHAT IT READS IS OF BULK AT MOST 1048576: true; the input reads as it did. -/
def fnExactDecodeProofUptoRow : OpenClaim := { program := "ytemhjhaokbgldaa", sum := "c8aef5e5c86f9795d9720e5ed778dc43db14b62548fa085611a09efd00f1638a", func := "loop.example/g00878/laws.FnExactDecodeProof", spec := "fnExactDecodeProof", unfollowed := true, recurses := true, apart := false, narrowed := true }
def FnExactDecodeProofUptoSaid : Prop := fnExactDecodeProofUptoRow.holds Try.pinned (OpenSpec.upto fnExactDecodeProofSpec)

end Rows
end Go.Proofs.Ytemhjhaokbgldaa
