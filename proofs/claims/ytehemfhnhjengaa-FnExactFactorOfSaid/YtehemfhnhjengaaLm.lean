/- Contracts of the laws' helpers that write: marks in a slice of the call's own, and the look at them. -/
import Derived.Test.YtehemfhnhjengaaLw
namespace Go.Proofs.Ytehemfhnhjengaa
open Go.RowKit
set_option linter.unusedVariables false

theorem Own.len {w : World} {lo hi : Nat} {A : Option Addr} {n c : Nat} {zs : List Int} (h : Own w lo hi A n c zs) : zs.length = n := h.ints.len
theorem Own.grown {w w' : World} {lo hi : Nat} {A : Option Addr} {n c : Nat} {zs : List Int} {row : Option Nat} (h : Own w lo hi A n c zs) (hg : w.grownBy w' row) (hne : ∀ k, row = some k → k < lo ∨ hi ≤ k) : Own w' lo hi A n c zs := by
  refine ⟨h.own.kept hg ?_, h.lt⟩
  cases hv : (Value.slice A n c).ownBlock with
  | none => exact .inl rfl
  | some b =>
    right
    intro e
    have h1 := h.own.lt b hv
    have h2 := h.lt b hv
    rcases hne b e.symm with h3 | h3 <;> omega
theorem Ints.base {w : World} {A : Option Addr} {n : Nat} {zs : List Int} (h : Ints w A n zs) : ∀ b off, A = some ⟨b, off, none⟩ → 0 < n → b < w.heap.size := by
  intro b off e hn
  obtain ⟨b', off', e', hb, _⟩ := h.2.2 hn
  rw [e] at e'
  injection e' with e'
  injection e' with e1 e2
  subst e1
  exact hb
/-- an argument's slice stands while one of the call's own blocks is written -/
theorem Ints.grown {w w' : World} {A : Option Addr} {n : Nat} {zs : List Int} {row : Option Nat} {B : Nat} (h : Ints w A n zs) (hA : ∀ b off, A = some ⟨b, off, none⟩ → 0 < n → b < B) (hg : w.grownBy w' row) (hne : ∀ k, row = some k → B ≤ k) : Ints w' A n zs := by
  refine ⟨h.1, h.2.1, fun hn => ?_⟩
  obtain ⟨b, off, e, hb, hc⟩ := h.2.2 hn
  have hlt := hA b off e hn
  have hne' : some b ≠ row := fun e' => by have := hne b e'.symm; omega
  exact ⟨b, off, e, Nat.lt_of_lt_of_le hb hg.size, fun k hk => hg.cell (hc k hk) hne'⟩
theorem below_of_grown {a w w' : World} {row : Option Nat} {B : Nat} (h : Below B a w) (hg : w.grownBy w' row) (hB : B ≤ w.heap.size) (hr : ∀ k, row = some k → B ≤ k) : Below B a w' := h.grown hg hB hr

/-- k, k + 1, .. -/
def marks (k : Int) (n : Nat) : List Int := (List.range n).map fun j : Nat => k + (j : Int)
theorem marks_len (k : Int) (n : Nat) : (marks k n).length = n := by simp [marks]
theorem marks_get (k : Int) (n j : Nat) (h : j < n) : (marks k n).getD j 0 = k + (j : Int) := by
  simp [marks, List.getD_eq_getElem?_getD, h]
theorem marks_step {zs : List Int} {k : Int} {n j : Nat} (hl : zs.length = n) (hj : j < n) :
    ((marks k j ++ zs.drop j).map (Value.int .i64)).set j (.int .i64 (k + (j : Int))) = (marks k (j + 1) ++ zs.drop (j + 1)).map (Value.int .i64) := by
  rw [← List.map_set]
  have e : zs.drop j = zs[j] :: zs.drop (j + 1) := List.drop_eq_getElem_cons (by omega)
  rw [e, List.set_append_right _ _ (by rw [marks_len]; exact Nat.le_refl _), marks_len, Nat.sub_self, List.set_cons_zero]
  simp [marks, List.range_succ]


end Go.Proofs.Ytehemfhnhjengaa
