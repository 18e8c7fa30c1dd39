/- MulPolys, PolyFromRoots: contracts of both sides. -/
import Derived.Test.YteeggmnkcgpfjaaPoly3
import Derived.Test.YteeggmnkcgpfjaaMul
namespace Go.Proofs.Yteeggmnkcgpfjaa
open Go.RowKit
set_option linter.unusedVariables false

theorem Res.of_all {q : Int} {f : List Int} (h : (f.all fun z => inB z 0 (q - 1)) = true) : Res q f := fun j hj => all_bd rfl h hj
def mlM (q : Int) (f g : List Int) : List Int × Bool := if polyB q f && polyB q g && decide (f.length + g.length ≤ 25) then (mulL q f g, true) else ([], false)
theorem mlM_len (q : Int) (f g : List Int) : (mlM q f g).1.length ≤ f.length + g.length := by
  unfold mlM
  split
  · exact mulL_le q f g
  · simp


end Go.Proofs.Yteeggmnkcgpfjaa
