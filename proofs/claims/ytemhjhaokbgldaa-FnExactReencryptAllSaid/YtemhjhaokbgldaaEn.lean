/- Contracts: encryption. -/
import Derived.Test.YtemhjhaokbgldaaEk
namespace Go.Proofs.Ytemhjhaokbgldaa
open Go.RowKit
set_option linter.unusedVariables false
attribute [local go_sem ↓] Go.wp_at_zero Go.wp_at_succ
set_option linter.unusedSimpArgs false

set_option maxRecDepth 100000 in
set_option maxHeartbeats 2000000 in
theorem encrypt_any (p q g key m r : Int) (w : World) (p1 : 2 ≤ p) (p2 : p ≤ 3000000000) (q1 : 2 ≤ q) (q2 : q ≤ 3000000000) (g0 : 0 ≤ g) (g1 : g < p) (u0 : 0 ≤ key) (u1 : key < p) (v0 : 0 ≤ m) (v1 : m < p) :
    Calls Try.prog 66 #[.agg #[.int .i64 p, .int .i64 q, .int .i64 g], .int .i64 key, .int .i64 m, .int .i64 r] w fun e' w' => e' = .returned (.agg #[.int .i64 (encA p q g r), .int .i64 (encB p q key m r)]) ∧ Below w.heap.size w w' := by
  have HZ := Lib.hid (small2 (p := p) ⟨v0, v1⟩ (gpow_bd (p := p) (q := q) (x := key) (e := r) (by omega)))
  have HR := Room.new (w.alloc (.cells #[.int .i64 p, .int .i64 q, .int .i64 g] 28)) (.int .i64 0) (.int .i64 0) 30
  have eR : (w.alloc (.cells #[.int .i64 p, .int .i64 q, .int .i64 g] 28)).heap.size = w.heap.size + 1 := by simp
  rw [eR] at HR
  clear eR
  go_enter Try.func66, Try.ntmps66
  go_wp2
  have hB : Below w.heap.size w ((w.alloc (.cells #[.int .i64 p, .int .i64 q, .int .i64 g] 28)).alloc (.cells #[.int .i64 0, .int .i64 0] 30)) := (by repeat (first | exact Below.refl _ _ | assumption | refine belA ?_ | refine belD ?_ | refine belN ?_ | refine belS ?_ (by simp) | refine belT ?_ (by assumption)))
  generalize hW0 : (w.alloc (.cells #[.int .i64 p, .int .i64 q, .int .i64 g] 28)).alloc (.cells #[.int .i64 0, .int .i64 0] 30) = W0 at HR hB
  have k1 : W0.cell? ⟨w.heap.size, 0, none⟩ = some (.int .i64 p) := by subst hW0; rw [World.cell?_alloc_past _ _ _ (by simp <;> omega), World.cell?_alloc_at _ _ _ _ (by simp)]; rfl
  have k2 : W0.cell? ⟨w.heap.size, 1, none⟩ = some (.int .i64 q) := by subst hW0; rw [World.cell?_alloc_past _ _ _ (by simp <;> omega), World.cell?_alloc_at _ _ _ _ (by simp)]; rfl
  have k3 : W0.cell? ⟨w.heap.size, 2, none⟩ = some (.int .i64 g) := by subst hW0; rw [World.cell?_alloc_past _ _ _ (by simp <;> omega), World.cell?_alloc_at _ _ _ _ (by simp)]; rfl
  clear hW0
  go_region_held3 (fun W => W.cell? ⟨w.heap.size, 0, none⟩ = some (.int .i64 p) ∧ W.cell? ⟨w.heap.size, 1, none⟩ = some (.int .i64 q) ∧ W.cell? ⟨w.heap.size, 2, none⟩ = some (.int .i64 g)) (first | (go_split_ands; (repeat' apply And.intro) <;> first | assumption | exact keepB hb1 (by assumption) | (refine keepS (by simp <;> omega) (keepS (by simp <;> omega) ?_); assumption) | (refine keepS (by simp <;> omega) ?_; assumption) | (refine keepB (belA (Below.refl _ _)) ?_; assumption) | go_keep) | go_keep) ((first | (go_at_call 70; refine (pow_any p q g _ r _ (by omega) (by omega) (by omega) (by omega) (by omega) (by omega)).mono ?_; rintro e' w1 ⟨rfl, hb1⟩; (first | replace HR := Room.below HR hb1 | replace HR := Room.below HR.drew hb1 | replace HR := Room.below (HR.alloc _) hb1 | replace HR := Room.below (HR.alloc _).drew hb1); obtain ⟨rx, ry, rc0, rc1, rf0, rf1⟩ := HR.facts) | (go_at_call 99; refine (mul_any p q g _ 2 2 [m, gpow p q key r] _ (Ints.two (by rw [World.cell?_alloc_at _ _ _ _ (by simp)]; rfl) (by rw [World.cell?_alloc_at _ _ _ _ (by simp)]; rfl)) (by omega) (by omega) HZ.out).mono ?_; rintro e' w1 ⟨rfl, hb1⟩; (first | replace HR := Room.below HR hb1 | replace HR := Room.below HR.drew hb1 | replace HR := Room.below (HR.alloc _) hb1 | replace HR := Room.below (HR.alloc _).drew hb1); obtain ⟨rx, ry, rc0, rc1, rf0, rf1⟩ := HR.facts)))
  all_goals go_wp2
  all_goals refine bodyPost_ret (v := .agg #[.int .i64 (encA p q g r), .int .i64 (encB p q key m r)]) (by simp [results, Try.results66, go_sem, rc0, rc1, encA, encB]) rfl ⟨rfl, ?_⟩
  all_goals exact (by repeat (first | exact Below.refl _ _ | assumption | refine belA ?_ | refine belD ?_ | refine belN ?_ | refine belS ?_ (by simp <;> omega) | refine belT ?_ (by assumption)))
set_option maxRecDepth 100000 in
set_option maxHeartbeats 2000000 in
theorem eEnc_any (p q g key m r : Int) (w : World) (p1 : 2 ≤ p) (p2 : p ≤ 3000000000) (q1 : 2 ≤ q) (q2 : q ≤ 3000000000) (g0 : 0 ≤ g) (g1 : g < p) (u0 : 0 ≤ key) (u1 : key < p) (v0 : 0 ≤ m) (v1 : m < p) :
    Calls Try.prog 64 #[.agg #[.int .i64 p, .int .i64 q, .int .i64 g], .int .i64 key, .int .i64 m, .int .i64 r] w fun e' w' => e' = .returned (.agg #[.int .i64 (encA p q g r), .int .i64 (encB p q key m r)]) ∧ Below w.heap.size w w' := by
  have HZ := Lib.hid (small2 (p := p) ⟨v0, v1⟩ (gpow_bd (p := p) (q := q) (x := key) (e := r) (by omega)))
  have HR := Room.new (w.alloc (.cells #[.int .i64 p, .int .i64 q, .int .i64 g] 28)) (.int .i64 0) (.int .i64 0) 30
  have eR : (w.alloc (.cells #[.int .i64 p, .int .i64 q, .int .i64 g] 28)).heap.size = w.heap.size + 1 := by simp
  rw [eR] at HR
  clear eR
  go_enter Try.func64, Try.ntmps64
  go_wp2
  have hB : Below w.heap.size w ((w.alloc (.cells #[.int .i64 p, .int .i64 q, .int .i64 g] 28)).alloc (.cells #[.int .i64 0, .int .i64 0] 30)) := (by repeat (first | exact Below.refl _ _ | assumption | refine belA ?_ | refine belD ?_ | refine belN ?_ | refine belS ?_ (by simp) | refine belT ?_ (by assumption)))
  generalize hW0 : (w.alloc (.cells #[.int .i64 p, .int .i64 q, .int .i64 g] 28)).alloc (.cells #[.int .i64 0, .int .i64 0] 30) = W0 at HR hB
  have k1 : W0.cell? ⟨w.heap.size, 0, none⟩ = some (.int .i64 p) := by subst hW0; rw [World.cell?_alloc_past _ _ _ (by simp <;> omega), World.cell?_alloc_at _ _ _ _ (by simp)]; rfl
  have k2 : W0.cell? ⟨w.heap.size, 1, none⟩ = some (.int .i64 q) := by subst hW0; rw [World.cell?_alloc_past _ _ _ (by simp <;> omega), World.cell?_alloc_at _ _ _ _ (by simp)]; rfl
  have k3 : W0.cell? ⟨w.heap.size, 2, none⟩ = some (.int .i64 g) := by subst hW0; rw [World.cell?_alloc_past _ _ _ (by simp <;> omega), World.cell?_alloc_at _ _ _ _ (by simp)]; rfl
  clear hW0
  go_region_held3 (fun W => W.cell? ⟨w.heap.size, 0, none⟩ = some (.int .i64 p) ∧ W.cell? ⟨w.heap.size, 1, none⟩ = some (.int .i64 q) ∧ W.cell? ⟨w.heap.size, 2, none⟩ = some (.int .i64 g)) (first | (go_split_ands; (repeat' apply And.intro) <;> first | assumption | exact keepB hb1 (by assumption) | (refine keepS (by simp <;> omega) (keepS (by simp <;> omega) ?_); assumption) | (refine keepS (by simp <;> omega) ?_; assumption) | (refine keepB (belA (Below.refl _ _)) ?_; assumption) | go_keep) | go_keep) ((first | (go_at_call 67; refine (gExp_any p q g _ r _ (by omega) (by omega) (by omega) (by omega) (by omega) (by omega)).mono ?_; rintro e' w1 ⟨rfl, hb1⟩; (first | replace HR := Room.below HR hb1 | replace HR := Room.below HR.drew hb1 | replace HR := Room.below (HR.alloc _) hb1 | replace HR := Room.below (HR.alloc _).drew hb1); obtain ⟨rx, ry, rc0, rc1, rf0, rf1⟩ := HR.facts) | (go_at_call 94; refine (gMul_any p q g _ 2 2 [m, gpow p q key r] _ (Ints.two (by rw [World.cell?_alloc_at _ _ _ _ (by simp)]; rfl) (by rw [World.cell?_alloc_at _ _ _ _ (by simp)]; rfl)) (by omega) (by omega) HZ.out).mono ?_; rintro e' w1 ⟨rfl, hb1⟩; (first | replace HR := Room.below HR hb1 | replace HR := Room.below HR.drew hb1 | replace HR := Room.below (HR.alloc _) hb1 | replace HR := Room.below (HR.alloc _).drew hb1); obtain ⟨rx, ry, rc0, rc1, rf0, rf1⟩ := HR.facts)))
  all_goals go_wp2
  all_goals refine bodyPost_ret (v := .agg #[.int .i64 (encA p q g r), .int .i64 (encB p q key m r)]) (by simp [results, Try.results64, go_sem, rc0, rc1, encA, encB]) rfl ⟨rfl, ?_⟩
  all_goals exact (by repeat (first | exact Below.refl _ _ | assumption | refine belA ?_ | refine belD ?_ | refine belN ?_ | refine belS ?_ (by simp <;> omega) | refine belT ?_ (by assumption)))
end Go.Proofs.Ytemhjhaokbgldaa
