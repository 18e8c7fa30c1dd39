/- Rows put together; a list of two. -/
import Derived.Test.YteeggmnkcgpfjaaSgN
namespace Go.Proofs.Yteeggmnkcgpfjaa
open Go.RowKit
set_option linter.unusedVariables false
theorem grid3' {W : World} {t : TypeId} {A B C : Option Addr} {a b c k m n : Nat} {x y z : List Int} (hx : Ints W A k x) (hy : Ints W B m y) (hz : Ints W C n z) : Grid (W.alloc (.cells #[.slice A k a, .slice B m b, .slice C n c] t)) (some ⟨W.heap.size, 0, none⟩) 3 [(A, a, x), (B, b, y), (C, c, z)] := by
  have e1 := hx.len
  have e2 := hy.len
  have e3 := hz.len
  subst e1 e2 e3
  have hb : Below W.heap.size W (W.alloc (.cells #[.slice A x.length a, .slice B y.length b, .slice C z.length c] t)) := belA (Below.refl _ _)
  refine ⟨rfl, by omega, fun _ => ⟨W.heap.size, 0, rfl, by simp, fun k hk => ?_⟩⟩
  have e : k = 0 ∨ k = 1 ∨ k = 2 := by omega
  rcases e with rfl | rfl | rfl
  · exact ⟨(by rw [World.cell?_alloc_at _ _ _ _ (by simp)]; rfl), hx.below hb⟩
  · exact ⟨(by rw [World.cell?_alloc_at _ _ _ _ (by simp)]; rfl), hy.below hb⟩
  · exact ⟨(by rw [World.cell?_alloc_at _ _ _ _ (by simp)]; rfl), hz.below hb⟩
theorem flat3 {A B C : Option Addr} {a b c : Nat} {x y z : List Int} : flatG [(A, a, x), (B, b, y), (C, c, z)] = x ++ y ++ z := by simp [flatG, List.append_assoc]
theorem lit2_of {B : Nat} {a W : World} {x y : Int} {t : TypeId} (h : Below B a (W.alloc (.cells #[.int .i64 x, .int .i64 y] t))) : Ints (W.alloc (.cells #[.int .i64 x, .int .i64 y] t)) (some ⟨W.heap.size, 0, none⟩) 2 [x, y] := Ints.two (by rw [World.cell?_alloc_at _ _ _ _ (by simp)]; rfl) (by rw [World.cell?_alloc_at _ _ _ _ (by simp)]; rfl)
end Go.Proofs.Yteeggmnkcgpfjaa
