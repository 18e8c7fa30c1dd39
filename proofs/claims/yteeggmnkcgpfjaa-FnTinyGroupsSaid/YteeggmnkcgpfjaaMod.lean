/- Contracts: PowerMod of both sides, and the walk of the law. -/
import Derived.Test.YteeggmnkcgpfjaaFrame
import Derived.Test.YteeggmnkcgpfjaaBase
namespace Go.Proofs.Yteeggmnkcgpfjaa
open Go.ChangeShapes Go.WideShapes Go.ChangeAt Go.RowKit
set_option linter.unusedVariables false

def pwMod (a e m : Int) : Int × Bool := if inB m 2 2000000000 && inB a 0 (m - 1) && inB e 0 2000000000 then (pw a e m, true) else (0, false)
theorem ret_ib {a c : Int} {b d : Bool} (h : (a, b) = (c, d)) : Ending.returned (.tuple #[.int .i64 a, .bool b]) = .returned (.tuple #[.int .i64 c, .bool d]) := by
  injection h with h1 h2
  rw [h1, h2]