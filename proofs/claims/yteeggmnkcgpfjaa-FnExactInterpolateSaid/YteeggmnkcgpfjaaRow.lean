/- Rows of integers of the call's own: reading, writing. -/
import Derived.Test.YteeggmnkcgpfjaaAp
namespace Go.Proofs.Yteeggmnkcgpfjaa
open Go.RowKit
set_option linter.unusedVariables false

theorem own_at {w : World} {B g n c k : Nat} {zs : List Int} (h : w.ownsRow B 3 1 (.slice (some ⟨g, 0, none⟩) n c) n (zs.map (Value.int .i64))) (hk : k < n) :
    w.cell? ⟨g, k, none⟩ = some (.int .i64 (zs.getD k 0)) := by
  have hl : zs.length = n := by have := h.1; simpa using this
  rw [h.cellAt k (by omega), List.getElem?_map, List.getD_eq_getElem?_getD, List.getElem?_eq_getElem (by omega)]
  rfl
theorem own_put {w : World} {B g n c k : Nat} {zs : List Int} {z : Int} (h : w.ownsRow B 3 1 (.slice (some ⟨g, 0, none⟩) n c) n (zs.map (Value.int .i64))) :
    (w.setCell ⟨g, k, none⟩ (.int .i64 z)).ownsRow B 3 1 (.slice (some ⟨g, 0, none⟩) n c) n ((zs.set k z).map (Value.int .i64)) := by
  have := (h.stored k (.int .i64 z)).1
  rwa [← List.map_set] at this
theorem own_base {w : World} {B g n c : Nat} {xs : List Value} (h : w.ownsRow B 3 1 (.slice (some ⟨g, 0, none⟩) n c) n xs) : B ≤ g := (h.lt g rfl).1
theorem own_zero {w : World} {B g n c : Nat} (h : w.ownsRow B 3 1 (.slice (some ⟨g, 0, none⟩) n c) n (madeCells (Value.int .i64 0).cells (n * 1)).toList) :
    w.ownsRow B 3 1 (.slice (some ⟨g, 0, none⟩) n c) n ((List.replicate n (0 : Int)).map (Value.int .i64)) := by
  rw [Nat.mul_one, show (Value.int .i64 0).cells = #[.int .i64 0] from rfl, toList_madeCells_one] at h
  simpa using h
theorem getD_set_same {l : List Int} {k : Nat} {z : Int} (h : k < l.length) : (l.set k z).getD k 0 = z := by
  rw [List.getD_eq_getElem?_getD, List.getElem?_set_self h]
  rfl
theorem getD_set_ne {l : List Int} {k j : Nat} {z : Int} (h : k ≠ j) : (l.set k z).getD j 0 = l.getD j 0 := by
  rw [List.getD_eq_getElem?_getD, List.getElem?_set_ne h, List.getD_eq_getElem?_getD]
/-- residues -/
def Res (q : Int) (l : List Int) : Prop := ∀ j, j < l.length → 0 ≤ l.getD j 0 ∧ l.getD j 0 < q
theorem Res.set {q : Int} {l : List Int} {k : Nat} {z : Int} (h : Res q l) (h0 : 0 ≤ z) (h1 : z < q) : Res q (l.set k z) := by
  intro j hj
  rw [List.length_set] at hj
  by_cases e : k = j
  · subst e
    rw [getD_set_same hj]
    exact ⟨h0, h1⟩
  · rw [getD_set_ne e]
    exact h j hj
theorem Res.zero {q : Int} (n : Nat) (hq : 0 < q) : Res q (List.replicate n 0) := by
  intro j hj
  rw [List.length_replicate] at hj
  rw [List.getD_eq_getElem?_getD, List.getElem?_replicate_of_lt hj]
  exact ⟨Int.le_refl _, hq⟩
theorem Res.getD {q : Int} {l : List Int} (h : Res q l) (k : Nat) (hq : 0 < q) : 0 ≤ l.getD k 0 ∧ l.getD k 0 < q := by
  by_cases hk : k < l.length
  · exact h k hk
  · rw [List.getD_eq_getElem?_getD, List.getElem?_eq_none (by omega)]
    exact ⟨Int.le_refl _, hq⟩
end Go.Proofs.Yteeggmnkcgpfjaa
