/- EvalAll: contracts of both sides. -/
import Derived.Test.YteeggmnkcgpfjaaPoly2
import Derived.Test.YteeggmnkcgpfjaaAp
namespace Go.Proofs.Yteeggmnkcgpfjaa
open Go.RowKit
set_option linter.unusedVariables false

def evAll (q : Int) (f xs : List Int) : List Int × Bool := if polyB q f && polyB q xs then (xs.map (evalP q f), true) else ([], false)

theorem evAll_len (q : Int) (f xs : List Int) : (evAll q f xs).1.length ≤ xs.length := by unfold evAll; split <;> simp


theorem two_short (q : Int) (B B' : Option Addr) (c c' : Nat) (f g : List Int) : (fieldB q && [(B, c, f), (B', c', g)].all fun x : Option Addr × Nat × List Int => shortB q x.2.2) = (polyB q f && polyB q g) := by
  simp only [polyB, List.all_cons, List.all_nil, Bool.and_true]
  cases fieldB q <;> simp
theorem poly2_of {q : Int} {f g : List Int} (h : (polyB q f && polyB q g) = true) : polyB q f = true ∧ polyB q g = true := by simpa using h

end Go.Proofs.Yteeggmnkcgpfjaa
