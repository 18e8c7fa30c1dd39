/- Contract of the program's side: MakeGroup. -/
import Derived.Test.YtehemfhnhjengaaMg
import Derived.Deep.RegionHeld3
namespace Go.Proofs.Ytehemfhnhjengaa
open Go.RowKit
set_option linter.unusedVariables false
attribute [local go_sem ↓] Go.wp_at_zero Go.wp_at_succ
set_option linter.unusedSimpArgs false

/-- the boxes: the result's (b), the group that is being made (b + 1) -/
structure GB (W : World) (b : Nat) (p q g : Int) : Prop where
  c0 : W.cell? ⟨b + 1, 0, none⟩ = some (.int .i64 p)
  c1 : W.cell? ⟨b + 1, 1, none⟩ = some (.int .i64 q)
  c2 : W.cell? ⟨b + 1, 2, none⟩ = some (.int .i64 g)
  f0 : W.frozen? ⟨b + 1, 0, none⟩ = false
  f2 : W.frozen? ⟨b + 1, 2, none⟩ = false
  r0 : W.cell? ⟨b, 0, none⟩ = some (.int .i64 0)
  r1 : W.cell? ⟨b, 1, none⟩ = some (.int .i64 0)
  r2 : W.cell? ⟨b, 2, none⟩ = some (.int .i64 0)
  e0 : W.frozen? ⟨b, 0, none⟩ = false
  e1 : W.frozen? ⟨b, 1, none⟩ = false
  e2 : W.frozen? ⟨b, 2, none⟩ = false
theorem GB.put0 {W : World} {b : Nat} {p q g : Int} (h : GB W b p q g) (x : Int) : GB (W.setCell ⟨b + 1, 0, none⟩ (.int .i64 x)) b x q g := by
  refine ⟨World.cell?_setCell_same _ _ _ h.c0, (World.cell?_setCell_other _ _ _ _ (by simp)).trans h.c1, (World.cell?_setCell_other _ _ _ _ (by simp)).trans h.c2, ?_, ?_, (World.cell?_setCell_other _ _ _ _ (by simp)).trans h.r0, (World.cell?_setCell_other _ _ _ _ (by simp)).trans h.r1, (World.cell?_setCell_other _ _ _ _ (by simp)).trans h.r2, ?_, ?_, ?_⟩
  · rw [World.frozen?_setCell]; exact h.f0
  · rw [World.frozen?_setCell]; exact h.f2
  · rw [World.frozen?_setCell]; exact h.e0
  · rw [World.frozen?_setCell]; exact h.e1
  · rw [World.frozen?_setCell]; exact h.e2
theorem GB.put2 {W : World} {b : Nat} {p q g : Int} (h : GB W b p q g) (x : Int) : GB (W.setCell ⟨b + 1, 2, none⟩ (.int .i64 x)) b p q x := by
  refine ⟨(World.cell?_setCell_other _ _ _ _ (by simp)).trans h.c0, (World.cell?_setCell_other _ _ _ _ (by simp)).trans h.c1, World.cell?_setCell_same _ _ _ h.c2, ?_, ?_, (World.cell?_setCell_other _ _ _ _ (by simp)).trans h.r0, (World.cell?_setCell_other _ _ _ _ (by simp)).trans h.r1, (World.cell?_setCell_other _ _ _ _ (by simp)).trans h.r2, ?_, ?_, ?_⟩
  · rw [World.frozen?_setCell]; exact h.f0
  · rw [World.frozen?_setCell]; exact h.f2
  · rw [World.frozen?_setCell]; exact h.e0
  · rw [World.frozen?_setCell]; exact h.e1
  · rw [World.frozen?_setCell]; exact h.e2
theorem GB.new (w : World) (p q : Int) (T : TypeId) : GB ((w.alloc (.cells #[.int .i64 0, .int .i64 0, .int .i64 0] T)).alloc (.cells #[.int .i64 p, .int .i64 q, .int .i64 0] T)) w.heap.size p q 0 := by
  refine ⟨?_, ?_, ?_, ?_, ?_, ?_, ?_, ?_, ?_, ?_, ?_⟩
  · rw [World.cell?_alloc_at _ _ _ _ (by simp)]; rfl
  · rw [World.cell?_alloc_at _ _ _ _ (by simp)]; rfl
  · rw [World.cell?_alloc_at _ _ _ _ (by simp)]; rfl
  · exact World.frozen?_alloc_at _ _ _ _ (by simp)
  · exact World.frozen?_alloc_at _ _ _ _ (by simp)
  · rw [World.cell?_alloc_past _ _ _ (by simp <;> omega), World.cell?_alloc_at _ _ _ _ (by simp)]; rfl
  · rw [World.cell?_alloc_past _ _ _ (by simp <;> omega), World.cell?_alloc_at _ _ _ _ (by simp)]; rfl
  · rw [World.cell?_alloc_past _ _ _ (by simp <;> omega), World.cell?_alloc_at _ _ _ _ (by simp)]; rfl
  · simp [World.frozen?_alloc_at]
  · simp [World.frozen?_alloc_at]
  · simp [World.frozen?_alloc_at]
end Go.Proofs.Ytehemfhnhjengaa
