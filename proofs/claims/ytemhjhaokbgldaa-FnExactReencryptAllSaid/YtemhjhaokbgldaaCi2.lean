/- Contracts of both sides: IsValidCipher, PowCipher, IsTrueEqual. -/
import Derived.Test.YtemhjhaokbgldaaCi
namespace Go.Proofs.Ytemhjhaokbgldaa
open Go.RowKit
set_option linter.unusedVariables false
attribute [local go_sem ↓] Go.wp_at_zero Go.wp_at_succ
set_option linter.unusedSimpArgs false

set_option maxRecDepth 100000 in
set_option maxHeartbeats 1000000 in
theorem ePow_any (p q g u v e : Int) (w : World) (p1 : 1 ≤ p) (p2 : p ≤ 3000000000) (q1 : 1 ≤ q) (q2 : q ≤ 3000000000) (u0 : 0 ≤ u) (u1 : u < p) (v0 : 0 ≤ v) (v1 : v < p) :
    Calls Try.prog 108 #[.agg #[.int .i64 p, .int .i64 q, .int .i64 g], .agg #[.int .i64 u, .int .i64 v], .int .i64 e] w fun e' w' => e' = .returned (.agg #[.int .i64 (gpow p q u e), .int .i64 (gpow p q v e)]) ∧ Below w.heap.size w w' := by
  have HR := Room.new ((w.alloc (.cells #[.int .i64 p, .int .i64 q, .int .i64 g] 28)).alloc (.cells #[.int .i64 u, .int .i64 v] 30)) (.int .i64 0) (.int .i64 0) 30
  have eR : ((w.alloc (.cells #[.int .i64 p, .int .i64 q, .int .i64 g] 28)).alloc (.cells #[.int .i64 u, .int .i64 v] 30)).heap.size = w.heap.size + 1 + 1 := by simp
  rw [eR] at HR
  clear eR
  go_enter Try.func108, Try.ntmps108
  go_wp2
  have hB : Below w.heap.size w (((w.alloc (.cells #[.int .i64 p, .int .i64 q, .int .i64 g] 28)).alloc (.cells #[.int .i64 u, .int .i64 v] 30)).alloc (.cells #[.int .i64 0, .int .i64 0] 30)) := (by repeat (first | exact Below.refl _ _ | assumption | refine belA ?_ | refine belD ?_ | refine belN ?_ | refine belS ?_ (by simp) | refine belT ?_ (by assumption)))
  have hg := @id True trivial
  generalize hW0 : ((w.alloc (.cells #[.int .i64 p, .int .i64 q, .int .i64 g] 28)).alloc (.cells #[.int .i64 u, .int .i64 v] 30)).alloc (.cells #[.int .i64 0, .int .i64 0] 30) = W0 at HR hB
  have k1 : W0.cell? ⟨w.heap.size, 0, none⟩ = some (.int .i64 p) := by subst hW0; rw [World.cell?_alloc_past _ _ _ (by simp <;> omega), World.cell?_alloc_past _ _ _ (by simp <;> omega), World.cell?_alloc_at _ _ _ _ (by simp)]; rfl
  have k2 : W0.cell? ⟨w.heap.size, 1, none⟩ = some (.int .i64 q) := by subst hW0; rw [World.cell?_alloc_past _ _ _ (by simp <;> omega), World.cell?_alloc_past _ _ _ (by simp <;> omega), World.cell?_alloc_at _ _ _ _ (by simp)]; rfl
  have k3 : W0.cell? ⟨w.heap.size, 2, none⟩ = some (.int .i64 g) := by subst hW0; rw [World.cell?_alloc_past _ _ _ (by simp <;> omega), World.cell?_alloc_past _ _ _ (by simp <;> omega), World.cell?_alloc_at _ _ _ _ (by simp)]; rfl
  have k4 : W0.cell? ⟨w.heap.size + 1, 0, none⟩ = some (.int .i64 u) := by subst hW0; rw [World.cell?_alloc_past _ _ _ (by simp <;> omega), World.cell?_alloc_at _ _ _ _ (by simp)]; rfl
  have k5 : W0.cell? ⟨w.heap.size + 1, 1, none⟩ = some (.int .i64 v) := by subst hW0; rw [World.cell?_alloc_past _ _ _ (by simp <;> omega), World.cell?_alloc_at _ _ _ _ (by simp)]; rfl
  clear hW0 hg
  go_region_held3 (fun W => W.cell? ⟨w.heap.size, 0, none⟩ = some (.int .i64 p) ∧ W.cell? ⟨w.heap.size, 1, none⟩ = some (.int .i64 q) ∧ W.cell? ⟨w.heap.size, 2, none⟩ = some (.int .i64 g) ∧ W.cell? ⟨w.heap.size + 1, 0, none⟩ = some (.int .i64 u) ∧ W.cell? ⟨w.heap.size + 1, 1, none⟩ = some (.int .i64 v)) (first | (go_split_ands; (repeat' apply And.intro) <;> first | assumption | exact keepB hb1 (by assumption) | (refine keepS (by simp <;> omega) (keepS (by simp <;> omega) ?_); assumption) | (refine keepS (by simp <;> omega) ?_; assumption) | (refine keepB (belA (Below.refl _ _)) ?_; assumption) | go_keep) | go_keep) ((go_at_call 67; refine (gExp_any p q g _ e _ (by omega) (by omega) (by omega) (by omega) (by omega) (by omega)).mono ?_; rintro e' w1 ⟨rfl, hb1⟩; (first | replace HR := Room.below HR hb1 | replace HR := Room.below HR.drew hb1); obtain ⟨rx, ry, rc0, rc1, rf0, rf1⟩ := HR.facts))
  all_goals go_wp2
  all_goals refine bodyPost_ret (v := .agg #[.int .i64 (gpow p q u e), .int .i64 (gpow p q v e)]) (by simp [results, Try.results108, go_sem, rc0, rc1]) rfl ⟨rfl, ?_⟩
  all_goals exact (by repeat (first | exact Below.refl _ _ | assumption | refine belA ?_ | refine belD ?_ | refine belN ?_ | refine belS ?_ (by simp <;> omega) | refine belT ?_ (by assumption)))

theorem ret_cb {a b a' b' : Int} {c c' : Bool} (h : ((a, b), c) = ((a', b'), c')) : Ending.returned (.tuple #[.agg #[.int .i64 a, .int .i64 b], .bool c]) = .returned (.tuple #[.agg #[.int .i64 a', .int .i64 b'], .bool c']) := by
  injection h with h1 h2
  injection h1 with h3 h4
  rw [h2, h3, h4]
theorem hasC_small {p q u v : Int} (h : hasC p q (u, v) = true) : (0 ≤ u ∧ u < p) ∧ 0 ≤ v ∧ v < p := by
  simp only [hasC, Bool.and_eq_true] at h
  exact ⟨has_small h.1, has_small h.2⟩



theorem Ints.four {w : World} {b : Nat} {x y z t : Int} (hc : w.cell? ⟨b, 0, none⟩ = some (.int .i64 x)) (hd : w.cell? ⟨b, 1, none⟩ = some (.int .i64 y)) (he : w.cell? ⟨b, 2, none⟩ = some (.int .i64 z)) (hf : w.cell? ⟨b, 3, none⟩ = some (.int .i64 t)) : Ints w (some ⟨b, 0, none⟩) 4 [x, y, z, t] :=
  ⟨rfl, by omega, fun _ => ⟨b, 0, rfl, World.block_lt_of_cell? _ _ hc, fun k hk => by
    have e : k = 0 ∨ k = 1 ∨ k = 2 ∨ k = 3 := by omega
    rcases e with rfl | rfl | rfl | rfl
    · exact hc
    · exact hd
    · exact he
    · exact hf⟩⟩

/-- the components of a statement are elements -/
def eqlB (p q a b c d : Int) : Bool := [a, b, c, d].all (hasB p q)
end Go.Proofs.Ytemhjhaokbgldaa
