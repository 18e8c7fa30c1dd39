/- A cell stands while a new block is laid and written. -/
import Derived.Test.YtemhjhaokbgldaaSl
namespace Go.Proofs.Ytemhjhaokbgldaa
open Go.RowKit

theorem keepAA {W : World} {o o' : Obj} {a : Addr} {v : Value} (h : (W.alloc o).cell? a = some v) (hne : a.block < W.heap.size) : (W.alloc o').cell? a = some v := by
  rw [World.cell?_alloc_lt W o a hne] at h
  rw [World.cell?_alloc_lt W o' a hne]
  exact h
theorem szB {B : Nat} {W w1 : World} (h : B < W.heap.size) (hb : Below W.heap.size W w1) : B < w1.heap.size := Nat.lt_of_lt_of_le h hb.size
theorem szAA {B : Nat} {W : World} {o o' : Obj} (h : B < (W.alloc o).heap.size) : B < (W.alloc o').heap.size := by
  have e : (W.alloc o').heap.size = (W.alloc o).heap.size := by simp
  rwa [e]
theorem keepHB {W w1 : World} {b : Nat} {x : Obj} (hb : Below W.heap.size W w1) (h : Hid (W.heap[b]? = some x)) : Hid (w1.heap[b]? = some x) := by
  have h' := h.out
  exact Lib.hid (by rw [hb.block b (Array.getElem?_eq_some_iff.1 h').1]; exact h')
theorem keepHA {W : World} {o' : Obj} {b : Nat} {cs cs' : Array Value} {t t' : TypeId} (h : Hid ((W.alloc (.cells cs' t')).heap[b]? = some (.cells cs t (0, 0)))) (hne : t ≠ t') : b < W.heap.size ∧ Hid ((W.alloc o').heap[b]? = some (.cells cs t (0, 0))) := by
  have h' := h.out
  have hlt := (Array.getElem?_eq_some_iff.1 h').1
  have hb : b < W.heap.size := by
    rcases Nat.lt_or_ge b W.heap.size with h1 | h1
    · exact h1
    · have e : b = W.heap.size := by
        have : (W.alloc (.cells cs' t')).heap.size = W.heap.size + 1 := by simp
        omega
      subst e
      rw [heap_alloc_new] at h'
      injection h' with h'
      injection h' with _ h2
      exact absurd h2.symm hne
  refine ⟨hb, Lib.hid ?_⟩
  have e1 : (W.alloc (.cells cs' t')).heap[b]? = W.heap[b]? := ((Below.refl (b + 1) W).alloc (by omega) _).block b (by omega)
  have e2 : (W.alloc o').heap[b]? = W.heap[b]? := ((Below.refl (b + 1) W).alloc (by omega) _).block b (by omega)
  rw [e2, ← e1]
  exact h'
theorem keepAH {W : World} {o' : Obj} {b j : Nat} {v : Value} {cs cs' : Array Value} {t t' : TypeId} (hh : Hid ((W.alloc (.cells cs' t')).heap[b]? = some (.cells cs t (0, 0)))) (hne : t ≠ t') (h : (W.alloc (.cells cs' t')).cell? ⟨b, j, none⟩ = some v) : (W.alloc o').cell? ⟨b, j, none⟩ = some v :=
  keepAA h (keepHA (o' := o') hh hne).1
theorem newB0 {W : World} {o o' : Obj} : ((W.alloc o).alloc o').heap[W.heap.size]? = some o := by
  have e : ((W.alloc o).alloc o').heap[W.heap.size]? = (W.alloc o).heap[W.heap.size]? := ((Below.refl (W.heap.size + 1) (W.alloc o)).alloc (by simp) o').block _ (by omega)
  rw [e]
  exact heap_alloc_new W o
theorem newB1 {W : World} {o o' : Obj} : ((W.alloc o).alloc o').heap[W.heap.size + 1]? = some o' := by
  have := heap_alloc_new (W.alloc o) o'
  rwa [show (W.alloc o).heap.size = W.heap.size + 1 by simp] at this
end Go.Proofs.Ytemhjhaokbgldaa
