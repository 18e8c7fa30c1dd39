/- Contracts of both sides: products of powers, logarithms. -/
import Derived.Test.YtemhjhaokbgldaaGr3
namespace Go.Proofs.Ytemhjhaokbgldaa
open Go.RowKit
set_option linter.unusedVariables false
attribute [local go_sem ↓] Go.wp_at_zero Go.wp_at_succ

theorem Ints.two {w : World} {b : Nat} {x y : Int} (hc : w.cell? ⟨b, 0, none⟩ = some (.int .i64 x)) (hd : w.cell? ⟨b, 1, none⟩ = some (.int .i64 y)) : Ints w (some ⟨b, 0, none⟩) 2 [x, y] :=
  ⟨rfl, by omega, fun _ => ⟨b, 0, rfl, World.block_lt_of_cell? _ _ hc, fun k hk => by
    have e : k = 0 ∨ k = 1 := by omega
    rcases e with rfl | rfl
    · exact hc
    · exact hd⟩⟩
theorem small2 {p x y : Int} (hx : 0 ≤ x ∧ x < p) (hy : 0 ≤ y ∧ y < p) : ∀ z ∈ [x, y], Small p z := by
  intro z hz
  rcases List.mem_cons.1 hz with rfl | hz
  · exact hx
  · rcases List.mem_cons.1 hz with rfl | hz
    · exact hy
    · cases hz


def prodM (p q g : Int) (zs es : List Int) : Int × Bool :=
  if goodB p q g && decide (zs.length ≤ 24) && zs.all (hasB p q) && decide (es.length = zs.length) && (es.all fun e => inB e 0 (q - 1)) then (prodK p q zs es zs.length, true) else (0, false)

end Go.Proofs.Ytemhjhaokbgldaa
