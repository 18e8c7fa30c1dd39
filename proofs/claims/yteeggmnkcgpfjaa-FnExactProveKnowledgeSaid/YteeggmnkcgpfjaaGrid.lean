/- Slices of slices of integers. -/
import Derived.Test.YteeggmnkcgpfjaaApI
namespace Go.Proofs.Yteeggmnkcgpfjaa
open Go.RowKit
set_option linter.unusedVariables false

/-- a row that stands in a slice of slices: its address, its capacity, its elements -/
def dRow : Option Addr × Nat × List Int := (none, 0, [])
/-- a slice of slices of integers -/
def Grid (W : World) (R : Option Addr) (r : Nat) (bs : List (Option Addr × Nat × List Int)) : Prop :=
  bs.length = r ∧ r ≤ 9223372036854775807 ∧ (0 < r → ∃ b off, R = some ⟨b, off, none⟩ ∧ b < W.heap.size ∧
    ∀ k, k < r → W.cell? ⟨b, off + k, none⟩ = some (.slice (bs.getD k dRow).1 (bs.getD k dRow).2.2.length (bs.getD k dRow).2.1) ∧ Ints W (bs.getD k dRow).1 (bs.getD k dRow).2.2.length (bs.getD k dRow).2.2)
section
variable {w w' : World} {R : Option Addr} {r : Nat} {bs : List (Option Addr × Nat × List Int)}
theorem Grid.len (h : Grid w R r bs) : bs.length = r := h.1
theorem Grid.le (h : Grid w R r bs) : r ≤ 9223372036854775807 := h.2.1
theorem Grid.at_ {k : Nat} (h : Grid w R r bs) (hk : k < r) : ∃ b off, R = some ⟨b, off, none⟩ ∧ b < w.heap.size ∧
    w.cell? ⟨b, off + k, none⟩ = some (.slice (bs.getD k dRow).1 (bs.getD k dRow).2.2.length (bs.getD k dRow).2.1) ∧ Ints w (bs.getD k dRow).1 (bs.getD k dRow).2.2.length (bs.getD k dRow).2.2 := by
  obtain ⟨b, off, e, hb, hc⟩ := h.2.2 (by omega)
  exact ⟨b, off, e, hb, hc k hk⟩
theorem Grid.row {k : Nat} (h : Grid w R r bs) (hk : k < r) : Ints w (bs.getD k dRow).1 (bs.getD k dRow).2.2.length (bs.getD k dRow).2.2 := by
  obtain ⟨b, off, _, _, _, hc⟩ := h.at_ hk
  exact hc
theorem Grid.below (h : Grid w R r bs) (hb : Below w.heap.size w w') : Grid w' R r bs := by
  refine ⟨h.1, h.2.1, fun h0 => ?_⟩
  obtain ⟨b, off, e, hlt, hc⟩ := h.2.2 h0
  exact ⟨b, off, e, Nat.lt_of_lt_of_le hlt hb.size, fun k hk => ⟨(hb.cell (p := ⟨b, off + k, none⟩) hlt).trans (hc k hk).1, (hc k hk).2.below hb⟩⟩
theorem Grid.nil (w : World) (R : Option Addr) : Grid w R 0 [] := ⟨rfl, by omega, fun h => by omega⟩
end
/-- the elements, row behind row -/
def flatK (bs : List (Option Addr × Nat × List Int)) (k : Nat) : List Int := ((bs.take k).map fun x => x.2.2).flatten
def flatG (bs : List (Option Addr × Nat × List Int)) : List Int := (bs.map fun x => x.2.2).flatten
theorem flatK_zero (bs : List (Option Addr × Nat × List Int)) : flatK bs 0 = [] := rfl
theorem flatK_succ {bs : List (Option Addr × Nat × List Int)} {k : Nat} (hk : k < bs.length) : flatK bs (k + 1) = flatK bs k ++ (bs.getD k dRow).2.2 := by
  unfold flatK
  rw [List.take_succ_eq_append_getElem hk, List.map_append, List.flatten_append, List.getD_eq_getElem?_getD, List.getElem?_eq_getElem hk]
  simp
theorem flatK_all (bs : List (Option Addr × Nat × List Int)) : flatK bs bs.length = flatG bs := by rw [flatK, List.take_length]; rfl
theorem flatK_le (bs : List (Option Addr × Nat × List Int)) (k : Nat) : (flatK bs k).length ≤ (flatG bs).length := by
  have h : flatG bs = flatK bs k ++ flatG (bs.drop k) := by
    unfold flatK flatG
    rw [← List.flatten_append, ← List.map_append, List.take_append_drop]
  rw [h]
  simp
/-- the rows' elements alone -/
def rowsG (bs : List (Option Addr × Nat × List Int)) : List (List Int) := bs.map fun x => x.2.2
theorem rowsG_len (bs : List (Option Addr × Nat × List Int)) : (rowsG bs).length = bs.length := by simp [rowsG]
theorem rowsG_get (bs : List (Option Addr × Nat × List Int)) (k : Nat) : (rowsG bs).getD k [] = (bs.getD k dRow).2.2 := by
  simp only [rowsG, List.getD_eq_getElem?_getD, List.getElem?_map]
  cases bs[k]? <;> rfl
theorem rowsG_flat (bs : List (Option Addr × Nat × List Int)) : flatG bs = (rowsG bs).flatten := rfl
end Go.Proofs.Yteeggmnkcgpfjaa
