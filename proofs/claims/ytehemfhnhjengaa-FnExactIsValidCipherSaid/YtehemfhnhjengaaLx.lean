/- A cell stands while a new block is laid and written. -/
import Derived.Test.YtehemfhnhjengaaSl
namespace Go.Proofs.Ytehemfhnhjengaa
open Go.RowKit

theorem keepAA {W : World} {o o' : Obj} {a : Addr} {v : Value} (h : (W.alloc o).cell? a = some v) (hne : a.block < W.heap.size) : (W.alloc o').cell? a = some v := by
  rw [World.cell?_alloc_lt W o a hne] at h
  rw [World.cell?_alloc_lt W o' a hne]
  exact h
theorem szB {B : Nat} {W w1 : World} (h : B < W.heap.size) (hb : Below W.heap.size W w1) : B < w1.heap.size := Nat.lt_of_lt_of_le h hb.size
end Go.Proofs.Ytehemfhnhjengaa
