/- Contracts: products of ciphertexts, other ciphertexts of the same messages. -/
import Derived.Test.YtemhjhaokbgldaaEn
namespace Go.Proofs.Ytemhjhaokbgldaa
open Go.RowKit
set_option linter.unusedVariables false
attribute [local go_sem ↓] Go.wp_at_zero Go.wp_at_succ
set_option linter.unusedSimpArgs false

set_option maxRecDepth 100000 in
set_option maxHeartbeats 8000000 in
theorem mulTwo_any (p q g a b c d : Int) (w : World) (p1 : 2 ≤ p) (p2 : p ≤ 3000000000) (a0 : 0 ≤ a) (a1 : a < p) (b0 : 0 ≤ b) (b1 : b < p) (c0 : 0 ≤ c) (c1 : c < p) (d0 : 0 ≤ d) (d1 : d < p) :
    Calls Try.prog 104 #[.agg #[.int .i64 p, .int .i64 q, .int .i64 g], .agg #[.int .i64 a, .int .i64 b], .agg #[.int .i64 c, .int .i64 d]] w fun e' w' => e' = .returned (.agg #[.int .i64 (mulK p [a, c] 2), .int .i64 (mulK p [b, d] 2)]) ∧ Below w.heap.size w w' := by
  have HR := Room.new (((w.alloc (.cells #[.int .i64 p, .int .i64 q, .int .i64 g] 28)).alloc (.cells #[.int .i64 a, .int .i64 b] 30)).alloc (.cells #[.int .i64 c, .int .i64 d] 30)) (.int .i64 0) (.int .i64 0) 30
  have eR : (((w.alloc (.cells #[.int .i64 p, .int .i64 q, .int .i64 g] 28)).alloc (.cells #[.int .i64 a, .int .i64 b] 30)).alloc (.cells #[.int .i64 c, .int .i64 d] 30)).heap.size = w.heap.size + 1 + 1 + 1 := by simp
  rw [eR] at HR
  clear eR
  go_enter Try.func104, Try.ntmps104
  go_wp2
  have hB : Below w.heap.size w ((((w.alloc (.cells #[.int .i64 p, .int .i64 q, .int .i64 g] 28)).alloc (.cells #[.int .i64 a, .int .i64 b] 30)).alloc (.cells #[.int .i64 c, .int .i64 d] 30)).alloc (.cells #[.int .i64 0, .int .i64 0] 30)) := (by repeat (first | exact Below.refl _ _ | assumption | refine belA ?_ | refine belD ?_ | refine belN ?_ | refine belS ?_ (by simp) | refine belT ?_ (by assumption)))
  generalize hW0 : (((w.alloc (.cells #[.int .i64 p, .int .i64 q, .int .i64 g] 28)).alloc (.cells #[.int .i64 a, .int .i64 b] 30)).alloc (.cells #[.int .i64 c, .int .i64 d] 30)).alloc (.cells #[.int .i64 0, .int .i64 0] 30) = W0 at HR hB
  have k1 : W0.cell? ⟨w.heap.size, 0, none⟩ = some (.int .i64 p) := by subst hW0; rw [World.cell?_alloc_past _ _ _ (by simp <;> omega), World.cell?_alloc_past _ _ _ (by simp <;> omega), World.cell?_alloc_past _ _ _ (by simp <;> omega), World.cell?_alloc_at _ _ _ _ (by simp)]; rfl
  have k2 : W0.cell? ⟨w.heap.size, 1, none⟩ = some (.int .i64 q) := by subst hW0; rw [World.cell?_alloc_past _ _ _ (by simp <;> omega), World.cell?_alloc_past _ _ _ (by simp <;> omega), World.cell?_alloc_past _ _ _ (by simp <;> omega), World.cell?_alloc_at _ _ _ _ (by simp)]; rfl
  have k3 : W0.cell? ⟨w.heap.size, 2, none⟩ = some (.int .i64 g) := by subst hW0; rw [World.cell?_alloc_past _ _ _ (by simp <;> omega), World.cell?_alloc_past _ _ _ (by simp <;> omega), World.cell?_alloc_past _ _ _ (by simp <;> omega), World.cell?_alloc_at _ _ _ _ (by simp)]; rfl
  have k4 : W0.cell? ⟨w.heap.size + 1, 0, none⟩ = some (.int .i64 a) := by subst hW0; rw [World.cell?_alloc_past _ _ _ (by simp <;> omega), World.cell?_alloc_past _ _ _ (by simp <;> omega), World.cell?_alloc_at _ _ _ _ (by simp)]; rfl
  have k5 : W0.cell? ⟨w.heap.size + 1, 1, none⟩ = some (.int .i64 b) := by subst hW0; rw [World.cell?_alloc_past _ _ _ (by simp <;> omega), World.cell?_alloc_past _ _ _ (by simp <;> omega), World.cell?_alloc_at _ _ _ _ (by simp)]; rfl
  have k6 : W0.cell? ⟨w.heap.size + 1 + 1, 0, none⟩ = some (.int .i64 c) := by subst hW0; rw [World.cell?_alloc_past _ _ _ (by simp <;> omega), World.cell?_alloc_at _ _ _ _ (by simp)]; rfl
  have k7 : W0.cell? ⟨w.heap.size + 1 + 1, 1, none⟩ = some (.int .i64 d) := by subst hW0; rw [World.cell?_alloc_past _ _ _ (by simp <;> omega), World.cell?_alloc_at _ _ _ _ (by simp)]; rfl
  clear hW0
  go_region_held3 (fun W => W.cell? ⟨w.heap.size, 0, none⟩ = some (.int .i64 p) ∧ W.cell? ⟨w.heap.size, 1, none⟩ = some (.int .i64 q) ∧ W.cell? ⟨w.heap.size, 2, none⟩ = some (.int .i64 g) ∧ W.cell? ⟨w.heap.size + 1, 0, none⟩ = some (.int .i64 a) ∧ W.cell? ⟨w.heap.size + 1, 1, none⟩ = some (.int .i64 b) ∧ W.cell? ⟨w.heap.size + 1 + 1, 0, none⟩ = some (.int .i64 c) ∧ W.cell? ⟨w.heap.size + 1 + 1, 1, none⟩ = some (.int .i64 d)) (first | (go_split_ands; (repeat' apply And.intro) <;> first | assumption | exact keepB hb1 (by assumption) | (refine keepS (by simp <;> omega) (keepS (by simp <;> omega) ?_); assumption) | (refine keepS (by simp <;> omega) ?_; assumption) | (refine keepB (belA (Below.refl _ _)) ?_; assumption) | go_keep) | go_keep) ((first | (go_at_call 99; refine (mul_any p q g _ 2 2 [a, c] _ (Ints.two ?_ ?_) (by omega) (by omega) (small2 ⟨a0, a1⟩ ⟨c0, c1⟩)).mono ?_; (focus (first | (simp [go_sem]; done) | (simp [go_sem, hc1]; done))); (focus (first | (simp [go_sem]; done) | (simp [go_sem, hc1]; done))); rintro e' w1 ⟨rfl, hb1⟩; have hX : Below W0.heap.size W0 w1 := (by repeat (first | exact Below.refl _ _ | assumption | refine belA ?_ | refine belD ?_ | refine belN ?_ | refine belS ?_ (by simp <;> omega) | refine belT ?_ (by assumption))); obtain ⟨rx, ry, rc0, rc1, rf0, rf1⟩ := (Room.below HR hX).facts; obtain ⟨hc1, hf1⟩ := bcell hb1) | (go_at_call 99; refine (mul_any p q g _ 2 2 [b, d] _ (Ints.two ?_ ?_) (by omega) (by omega) (small2 ⟨b0, b1⟩ ⟨d0, d1⟩)).mono ?_; (focus (first | (simp [go_sem]; done) | (simp [go_sem, hc1]; done))); (focus (first | (simp [go_sem]; done) | (simp [go_sem, hc1]; done))); rintro e' w1 ⟨rfl, hb1⟩; have hX : Below W0.heap.size W0 w1 := (by repeat (first | exact Below.refl _ _ | assumption | refine belA ?_ | refine belD ?_ | refine belN ?_ | refine belS ?_ (by simp <;> omega) | refine belT ?_ (by assumption))); obtain ⟨rx, ry, rc0, rc1, rf0, rf1⟩ := (Room.below HR hX).facts; obtain ⟨hc1, hf1⟩ := bcell hb1)))
  all_goals go_wp2
  all_goals refine bodyPost_ret (v := .agg #[.int .i64 (mulK p [a, c] 2), .int .i64 (mulK p [b, d] 2)]) (by simp [results, Try.results104, go_sem, rc0, rc1]) rfl ⟨rfl, ?_⟩
  all_goals exact (by repeat (first | exact Below.refl _ _ | assumption | refine belA ?_ | refine belD ?_ | refine belN ?_ | refine belS ?_ (by simp <;> omega) | refine belT ?_ (by assumption)))
end Go.Proofs.Ytemhjhaokbgldaa
