/- Contracts of both sides: KeyOf, ExpOf, InverseOf, MulOf, ProductOfPowers. -/
import Derived.Test.YteeggmnkcgpfjaaGr2
namespace Go.Proofs.Yteeggmnkcgpfjaa
open Go.RowKit
set_option linter.unusedVariables false
attribute [local go_sem ↓] Go.wp_at_zero Go.wp_at_succ

theorem ret_ib {a c : Int} {b d : Bool} (h : (a, b) = (c, d)) : Ending.returned (.tuple #[.int .i64 a, .bool b]) = .returned (.tuple #[.int .i64 c, .bool d]) := by
  injection h with h1 h2
  rw [h1, h2]
theorem ret_bb {a b c d : Bool} (h : (a, b) = (c, d)) : Ending.returned (.tuple #[.bool a, .bool b]) = .returned (.tuple #[.bool c, .bool d]) := by
  injection h with h1 h2
  rw [h1, h2]
/-- what a valid group gives for omega -/
theorem good_om {p q g : Int} (h : goodB p q g = true) : 3 ≤ p ∧ p ≤ 2000000000 ∧ 2 ≤ q ∧ q ≤ p - 1 ∧ 2 ≤ g ∧ g ≤ p - 1 := by
  have G := good_of h
  exact ⟨G.p1, G.p2, G.q1, G.q2, G.g1, G.g2⟩
theorem one_all (f : Int → Bool) (x : Int) : [x].all f = f x := by simp

def expM (p q g x e : Int) : Int × Bool := if goodB p q g && hasB p q x && inB e 0 (q - 1) then (gpow p q x e, true) else (0, false)

def keyM (p q g e : Int) : Int × Bool := if goodB p q g && inB e 0 (q - 1) then (gpow p q g e, true) else (0, false)
theorem good_has {p q g : Int} (h : goodB p q g = true) : hasB p q g = true := by
  have G := good_of h
  unfold hasB
  rw [inB_mk (by have := G.g1; omega) G.g2, G.o]
  rfl
theorem keyM_eq (p q g e : Int) : expM p q g g e = keyM p q g e := by
  unfold expM keyM
  cases h : goodB p q g
  · rfl
  · rw [good_has h]; simp

def invE (p q g x : Int) : Int × Bool := if goodB p q g && hasB p q x then (pw x (q - 1) p, true) else (0, false)

def mulM (p q g : Int) (zs : List Int) : Int × Bool := if goodB p q g && decide (zs.length ≤ 24) && zs.all (hasB p q) then (mulK p zs zs.length, true) else (0, false)