/- Walks of the laws on numbers. -/
import Derived.Test.YteeggmnkcgpfjaaFrame
import Derived.Test.YteeggmnkcgpfjaaBase
import Derived.Test.YteeggmnkcgpfjaaPrime
import Derived.Test.YteeggmnkcgpfjaaInv
import Derived.Test.YteeggmnkcgpfjaaMod
namespace Go.Proofs.Yteeggmnkcgpfjaa
open Go.ChangeShapes Go.WideShapes Go.ChangeAt Go.RowKit
set_option linter.unusedVariables false

theorem ret_bb {a b c d : Bool} (h : (a, b) = (c, d)) : Ending.returned (.tuple #[.bool a, .bool b]) = .returned (.tuple #[.bool c, .bool d]) := by
  injection h with h1 h2
  rw [h1, h2]



end Go.Proofs.Yteeggmnkcgpfjaa
