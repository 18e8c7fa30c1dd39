/- Contracts of both sides: IsValidCipher, PowCipher, IsTrueEqual. -/
import Derived.Test.YteeggmnkcgpfjaaCi
namespace Go.Proofs.Yteeggmnkcgpfjaa
open Go.RowKit
set_option linter.unusedVariables false
attribute [local go_sem ↓] Go.wp_at_zero Go.wp_at_succ
set_option linter.unusedSimpArgs false


theorem ret_cb {a b a' b' : Int} {c c' : Bool} (h : ((a, b), c) = ((a', b'), c')) : Ending.returned (.tuple #[.agg #[.int .i64 a, .int .i64 b], .bool c]) = .returned (.tuple #[.agg #[.int .i64 a', .int .i64 b'], .bool c']) := by
  injection h with h1 h2
  injection h1 with h3 h4
  rw [h2, h3, h4]
theorem hasC_small {p q u v : Int} (h : hasC p q (u, v) = true) : (0 ≤ u ∧ u < p) ∧ 0 ≤ v ∧ v < p := by
  simp only [hasC, Bool.and_eq_true] at h
  exact ⟨has_small h.1, has_small h.2⟩



theorem Ints.four {w : World} {b : Nat} {x y z t : Int} (hc : w.cell? ⟨b, 0, none⟩ = some (.int .i64 x)) (hd : w.cell? ⟨b, 1, none⟩ = some (.int .i64 y)) (he : w.cell? ⟨b, 2, none⟩ = some (.int .i64 z)) (hf : w.cell? ⟨b, 3, none⟩ = some (.int .i64 t)) : Ints w (some ⟨b, 0, none⟩) 4 [x, y, z, t] :=
  ⟨rfl, by omega, fun _ => ⟨b, 0, rfl, World.block_lt_of_cell? _ _ hc, fun k hk => by
    have e : k = 0 ∨ k = 1 ∨ k = 2 ∨ k = 3 := by omega
    rcases e with rfl | rfl | rfl | rfl
    · exact hc
    · exact hd
    · exact he
    · exact hf⟩⟩

/-- the components of a statement are elements -/
def eqlB (p q a b c d : Int) : Bool := [a, b, c, d].all (hasB p q)
set_option maxHeartbeats 400000 in
theorem sElements_any (p q g a b c d : Int) (w : World) (p1 : 3 ≤ p) (p2 : p ≤ 2000000000) (k1 : 2 ≤ q) (k2 : q ≤ p - 1) :
    Calls Try.prog 105 #[.agg #[.int .i64 p, .int .i64 q, .int .i64 g], .agg #[.int .i64 a, .int .i64 b, .int .i64 c, .int .i64 d]] w fun e' w' => e' = .returned (.bool (eqlB p q a b c d)) ∧ Below w.heap.size w w' := by
  go_enter Try.func105, Try.ntmps105
  go_wp2_with fail
  refine (gIs_any p q g _ 4 4 [a, b, c, d] _ (Ints.four (by rw [World.cell?_alloc_at _ _ _ _ (by simp)]; rfl) (by rw [World.cell?_alloc_at _ _ _ _ (by simp)]; rfl) (by rw [World.cell?_alloc_at _ _ _ _ (by simp)]; rfl) (by rw [World.cell?_alloc_at _ _ _ _ (by simp)]; rfl)) p1 p2 k1 k2).mono ?_
  rintro e w1_ ⟨rfl, hb1⟩
  have hW := hb1
  obtain ⟨hc, hf⟩ := bcell hW
  go_wp2
  go_ret
  exact ⟨ret_bool (by simp [eqlB]), belT (by repeat (first | exact Below.refl _ _ | assumption | refine belA ?_ | refine belD ?_ | refine belN ?_ | refine belS ?_ (by simp) | refine belT ?_ (by assumption))) hW⟩
end Go.Proofs.Yteeggmnkcgpfjaa
