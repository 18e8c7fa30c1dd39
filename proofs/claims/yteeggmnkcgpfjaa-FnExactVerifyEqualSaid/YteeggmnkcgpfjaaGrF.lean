/- Arguments that are slices of slices of integers, and slices in a struct, opened. -/
import Derived.Test.YteeggmnkcgpfjaaGrid
import Derived.Deep.Slices
namespace Go.Proofs.Yteeggmnkcgpfjaa
open Go.ChangeShapes Go.WideShapes Go.ChangeAt Go.RowKit Go.Joins Go.Deep
set_option linter.unusedVariables false
theorem ints_open {H : Type} {enc : TypeId × Value → H} {W : World} {base : Nat} {held : Bool} {fuel : Nat} {cs : List Value} {x : DataW H × List MemPlace}
    (h : DataW.trod enc Try.prog W base (fun _ => true) held fuel 24 cs = some x) : ∃ A n c zs, cs = [.slice A n c] ∧ Ints W A n zs := by
  rcases open_ints Try.underlying24 Try.underlying3 (by kernel_rfl) h with ⟨rfl, _⟩ | ⟨ad, l, c, zs, rfl, _, hl, hm, hz, _, hcell, hwz⟩
  · exact ⟨none, 0, 0, [], rfl, Ints.nil _ _⟩
  · exact ⟨some ad, l, c, zs.take l, rfl, Ints.of_row (.inr ⟨ad, rfl, hl, hm, by simpa using hz, hcell, hwz⟩)⟩
theorem ints_open1 {H : Type} {enc : TypeId × Value → H} {W : World} {base : Nat} {held : Bool} {fuel : Nat} {v : Value} {x : DataW H × List MemPlace}
    (h : DataW.trod enc Try.prog W base (fun _ => true) held fuel 24 [v] = some x) : ∃ A n c zs, v = .slice A n c ∧ Ints W A n zs := by
  obtain ⟨A, n, c, zs, e, hI⟩ := ints_open h
  injection e with e _
  exact ⟨A, n, c, zs, e, hI⟩

theorem grid_open {H : Type} {enc : TypeId × Value → H} {W : World} {base : Nat} {held : Bool} {fuel : Nat} {a : Option Addr} {len cap : Nat} {x : DataW H × List MemPlace}
    (h : DataW.trod enc Try.prog W base (fun _ => true) held fuel 57 (Value.slice a len cap).cells.toList = some x) : ∃ bs, Grid W a len bs := by
  rcases open_slice1 Try.underlying57 (by kernel_rfl) h with ⟨hcs, _⟩ | ⟨ad, l, c, m, n, V, D, Pl, hcs, _, hl, hm, hmm, _, hc⟩
  · simp [Value.cells] at hcs
    obtain ⟨rfl, rfl, rfl⟩ := hcs
    exact ⟨[], Grid.nil _ _⟩
  · simp [Value.cells] at hcs
    obtain ⟨rfl, rfl, rfl⟩ := hcs
    have hlm : len ≤ m := by rw [hmm]; split <;> omega
    have each : ∀ i, i < len → ∃ q : Option Addr × Nat × List Int, W.cell? (ad.add i) = some (.slice q.1 q.2.2.length q.2.1) ∧ Ints W q.1 q.2.2.length q.2.2 := by
      intro i hi
      obtain ⟨c0, t0⟩ := hc i (by omega)
      obtain ⟨A, n', c', zs, e, hI⟩ := ints_open1 t0
      have hl' := hI.len
      subst hl'
      exact ⟨(A, c', zs), by rw [c0, e], hI⟩
    obtain ⟨f, hf⟩ := choose_lt each
    refine ⟨(List.range len).map f, by simp, by unfold maxLen at hm; omega, fun hn => ?_⟩
    obtain ⟨b, off, spot⟩ := ad
    have h0 := (hf 0 hn).1
    have hspot : spot = none := by simpa [Addr.add] using World.cell?_spot h0
    subst hspot
    have hadd : ∀ k, (⟨b, off, none⟩ : Addr).add k = ⟨b, off + k, none⟩ := by intro k; unfold Addr.add; split <;> simp_all
    refine ⟨b, off, rfl, ?_, fun k hk => ?_⟩
    · have := World.block_lt_of_cell? _ _ h0
      simpa [Addr.add] using this
    · have e : ((List.range len).map f).getD k dRow = f k := by rw [List.getD_eq_getElem?_getD, List.getElem?_map, List.getElem?_range hk]; rfl
      rw [e, ← hadd]
      exact hf k hk
end Go.Proofs.Yteeggmnkcgpfjaa
