/- A result's box that is laid ahead of the calls stands behind them. -/
import Derived.Test.YtehemfhnhjengaaCi
import Derived.Test.YtehemfhnhjengaaLx
namespace Go.Proofs.Ytehemfhnhjengaa
open Go.RowKit
theorem roomNew {X w1 : World} {x y : Value} {t : TypeId} (hb : Below (X.alloc (.cells #[x, y] t)).heap.size (X.alloc (.cells #[x, y] t)) w1) : Room w1 X.heap.size := (Room.new X x y t).below hb
theorem roomNewD {X w1 : World} {x y : Value} {t : TypeId} (hb : Below (X.drew.alloc (.cells #[x, y] t)).heap.size (X.drew.alloc (.cells #[x, y] t)) w1) : Room w1 X.heap.size := (Room.new X.drew x y t).below hb
end Go.Proofs.Ytehemfhnhjengaa
