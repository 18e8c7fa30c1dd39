/- Contracts: decryption, encryption, products of two ciphertexts. -/
import Derived.Test.YtemhjhaokbgldaaCi2
import Derived.Test.YtemhjhaokbgldaaLx
namespace Go.Proofs.Ytemhjhaokbgldaa
open Go.RowKit
set_option linter.unusedVariables false
attribute [local go_sem ↓] Go.wp_at_zero Go.wp_at_succ
set_option linter.unusedSimpArgs false

theorem Room.alloc {W : World} {R : Nat} (h : Room W R) (o : Obj) : Room (W.alloc o) R := by
  have hb : Below W.heap.size W (W.alloc o) := belA (Below.refl _ _)
  exact h.below hb
theorem mul2_bd {p : Int} {zs : List Int} (hp : 2 ≤ p) : 0 ≤ mulK p zs 2 ∧ mulK p zs 2 < p := mulK_bd zs hp 2
/-- the element of a ciphertext -/
def decV (p q s u v : Int) : Int := mulK p [v, pw (gpow p q u s) (q - 1) p] 2
/-- a ciphertext of an element -/
def encA (p q g r : Int) : Int := gpow p q g r
def encB (p q key m r : Int) : Int := mulK p [m, gpow p q key r] 2
theorem encA_bd {p q g r : Int} (hp : 2 ≤ p) : 0 ≤ encA p q g r ∧ encA p q g r < p := gpow_bd (by omega)
theorem encB_bd {p q key m r : Int} (hp : 2 ≤ p) : 0 ≤ encB p q key m r ∧ encB p q key m r < p := mulK_bd _ hp 2

set_option maxRecDepth 100000 in
set_option maxHeartbeats 1000000 in
theorem decrypt_any (p q g s u v : Int) (w : World) (p1 : 2 ≤ p) (p2 : p ≤ 3000000000) (q1 : 2 ≤ q) (q2 : q ≤ 3000000000) (u0 : 0 ≤ u) (u1 : u < p) (v0 : 0 ≤ v) (v1 : v < p) :
    Calls Try.prog 61 #[.agg #[.int .i64 p, .int .i64 q, .int .i64 g], .int .i64 s, .agg #[.int .i64 u, .int .i64 v]] w fun e' w' => e' = .returned (.int .i64 (decV p q s u v)) ∧ Below w.heap.size w w' := by
  obtain ⟨y1, y2⟩ := gpow_bd (p := p) (q := q) (x := u) (e := s) (by omega)
  generalize hgp : gpow p q u s = x at y1 y2
  obtain ⟨y3, y4⟩ := pw_bd (a := x) (e := q - 1) (m := p) (by omega)
  generalize hiv : pw x (q - 1) p = y at y3 y4
  have HZ := Lib.hid (small2 (p := p) ⟨v0, v1⟩ ⟨y3, y4⟩)
  have HD : Hid (mulK p [v, y] 2 = decV p q s u v) := Lib.hid (by rw [decV, hgp, hiv])
  have HP := Lib.hid hgp
  have HV := Lib.hid hiv
  clear hgp hiv
  go_enter Try.func61, Try.ntmps61
  go_wp2
  have hB : Below w.heap.size w ((w.alloc (.cells #[.int .i64 p, .int .i64 q, .int .i64 g] 28)).alloc (.cells #[.int .i64 u, .int .i64 v] 30)) := (by repeat (first | exact Below.refl _ _ | assumption | refine belA ?_ | refine belD ?_ | refine belN ?_ | refine belS ?_ (by simp) | refine belT ?_ (by assumption)))
  generalize hW0 : (w.alloc (.cells #[.int .i64 p, .int .i64 q, .int .i64 g] 28)).alloc (.cells #[.int .i64 u, .int .i64 v] 30) = W0 at hB
  have k1 : W0.cell? ⟨w.heap.size, 0, none⟩ = some (.int .i64 p) := by subst hW0; rw [World.cell?_alloc_past _ _ _ (by simp <;> omega), World.cell?_alloc_at _ _ _ _ (by simp)]; rfl
  have k2 : W0.cell? ⟨w.heap.size, 1, none⟩ = some (.int .i64 q) := by subst hW0; rw [World.cell?_alloc_past _ _ _ (by simp <;> omega), World.cell?_alloc_at _ _ _ _ (by simp)]; rfl
  have k3 : W0.cell? ⟨w.heap.size, 2, none⟩ = some (.int .i64 g) := by subst hW0; rw [World.cell?_alloc_past _ _ _ (by simp <;> omega), World.cell?_alloc_at _ _ _ _ (by simp)]; rfl
  have k4 : W0.cell? ⟨w.heap.size + 1, 0, none⟩ = some (.int .i64 u) := by subst hW0; rw [World.cell?_alloc_at _ _ _ _ (by simp)]; rfl
  have k5 : W0.cell? ⟨w.heap.size + 1, 1, none⟩ = some (.int .i64 v) := by subst hW0; rw [World.cell?_alloc_at _ _ _ _ (by simp)]; rfl
  clear hW0
  go_region_held3 (fun W => W.cell? ⟨w.heap.size, 0, none⟩ = some (.int .i64 p) ∧ W.cell? ⟨w.heap.size, 1, none⟩ = some (.int .i64 q) ∧ W.cell? ⟨w.heap.size, 2, none⟩ = some (.int .i64 g) ∧ W.cell? ⟨w.heap.size + 1, 0, none⟩ = some (.int .i64 u) ∧ W.cell? ⟨w.heap.size + 1, 1, none⟩ = some (.int .i64 v)) (first | (go_split_ands; (repeat' apply And.intro) <;> first | assumption | exact keepB hb1 (by assumption) | (refine keepS (by simp <;> omega) (keepS (by simp <;> omega) ?_); assumption) | (refine keepS (by simp <;> omega) ?_; assumption) | (refine keepB (belA (Below.refl _ _)) ?_; assumption) | go_keep) | go_keep) ((first | (go_at_call 70; refine (pow_any p q g u s _ (by omega) (by omega) (by omega) (by omega) (by omega) (by omega)).mono ?_; rintro e' w1 ⟨rfl, hb1⟩; rw [HP.out]) | (go_at_call 100; refine (inv_any p q g x _ (by omega) (by omega) (by omega) (by omega) (by omega) (by omega)).mono ?_; rintro e' w1 ⟨rfl, hb1⟩; rw [HV.out]) | (go_at_call 99; refine (mul_any p q g _ 2 2 [v, y] _ (Ints.two (by rw [World.cell?_alloc_at _ _ _ _ (by simp)]; rfl) (by rw [World.cell?_alloc_at _ _ _ _ (by simp)]; rfl)) (by omega) (by omega) HZ.out).mono ?_; rintro e' w1 ⟨rfl, hb1⟩; rw [HD.out])))
  all_goals go_wp2
  all_goals go_ret
  all_goals exact ⟨rfl, (by repeat (first | exact Below.refl _ _ | assumption | refine belA ?_ | refine belD ?_ | refine belN ?_ | refine belS ?_ (by simp) | refine belT ?_ (by assumption)))⟩
set_option maxRecDepth 100000 in
set_option maxHeartbeats 1000000 in
theorem eDec_any (p q g s u v : Int) (w : World) (p1 : 2 ≤ p) (p2 : p ≤ 3000000000) (q1 : 2 ≤ q) (q2 : q ≤ 3000000000) (u0 : 0 ≤ u) (u1 : u < p) (v0 : 0 ≤ v) (v1 : v < p) :
    Calls Try.prog 57 #[.agg #[.int .i64 p, .int .i64 q, .int .i64 g], .int .i64 s, .agg #[.int .i64 u, .int .i64 v]] w fun e' w' => e' = .returned (.int .i64 (decV p q s u v)) ∧ Below w.heap.size w w' := by
  obtain ⟨y1, y2⟩ := gpow_bd (p := p) (q := q) (x := u) (e := s) (by omega)
  generalize hgp : gpow p q u s = x at y1 y2
  obtain ⟨y3, y4⟩ := pw_bd (a := x) (e := q - 1) (m := p) (by omega)
  generalize hiv : pw x (q - 1) p = y at y3 y4
  have HZ := Lib.hid (small2 (p := p) ⟨v0, v1⟩ ⟨y3, y4⟩)
  have HD : Hid (mulK p [v, y] 2 = decV p q s u v) := Lib.hid (by rw [decV, hgp, hiv])
  have HP := Lib.hid hgp
  have HV := Lib.hid hiv
  clear hgp hiv
  go_enter Try.func57, Try.ntmps57
  go_wp2
  have hB : Below w.heap.size w ((w.alloc (.cells #[.int .i64 p, .int .i64 q, .int .i64 g] 28)).alloc (.cells #[.int .i64 u, .int .i64 v] 30)) := (by repeat (first | exact Below.refl _ _ | assumption | refine belA ?_ | refine belD ?_ | refine belN ?_ | refine belS ?_ (by simp) | refine belT ?_ (by assumption)))
  generalize hW0 : (w.alloc (.cells #[.int .i64 p, .int .i64 q, .int .i64 g] 28)).alloc (.cells #[.int .i64 u, .int .i64 v] 30) = W0 at hB
  have k1 : W0.cell? ⟨w.heap.size, 0, none⟩ = some (.int .i64 p) := by subst hW0; rw [World.cell?_alloc_past _ _ _ (by simp <;> omega), World.cell?_alloc_at _ _ _ _ (by simp)]; rfl
  have k2 : W0.cell? ⟨w.heap.size, 1, none⟩ = some (.int .i64 q) := by subst hW0; rw [World.cell?_alloc_past _ _ _ (by simp <;> omega), World.cell?_alloc_at _ _ _ _ (by simp)]; rfl
  have k3 : W0.cell? ⟨w.heap.size, 2, none⟩ = some (.int .i64 g) := by subst hW0; rw [World.cell?_alloc_past _ _ _ (by simp <;> omega), World.cell?_alloc_at _ _ _ _ (by simp)]; rfl
  have k4 : W0.cell? ⟨w.heap.size + 1, 0, none⟩ = some (.int .i64 u) := by subst hW0; rw [World.cell?_alloc_at _ _ _ _ (by simp)]; rfl
  have k5 : W0.cell? ⟨w.heap.size + 1, 1, none⟩ = some (.int .i64 v) := by subst hW0; rw [World.cell?_alloc_at _ _ _ _ (by simp)]; rfl
  clear hW0
  go_region_held3 (fun W => W.cell? ⟨w.heap.size, 0, none⟩ = some (.int .i64 p) ∧ W.cell? ⟨w.heap.size, 1, none⟩ = some (.int .i64 q) ∧ W.cell? ⟨w.heap.size, 2, none⟩ = some (.int .i64 g) ∧ W.cell? ⟨w.heap.size + 1, 0, none⟩ = some (.int .i64 u) ∧ W.cell? ⟨w.heap.size + 1, 1, none⟩ = some (.int .i64 v)) (first | (go_split_ands; (repeat' apply And.intro) <;> first | assumption | exact keepB hb1 (by assumption) | (refine keepS (by simp <;> omega) (keepS (by simp <;> omega) ?_); assumption) | (refine keepS (by simp <;> omega) ?_; assumption) | (refine keepB (belA (Below.refl _ _)) ?_; assumption) | go_keep) | go_keep) ((first | (go_at_call 67; refine (gExp_any p q g u s _ (by omega) (by omega) (by omega) (by omega) (by omega) (by omega)).mono ?_; rintro e' w1 ⟨rfl, hb1⟩; rw [HP.out]) | (go_at_call 95; refine (gInv_any p q g x _ (by omega) (by omega) (by omega) (by omega) (by omega) (by omega)).mono ?_; rintro e' w1 ⟨rfl, hb1⟩; rw [HV.out]) | (go_at_call 94; refine (gMul_any p q g _ 2 2 [v, y] _ (Ints.two (by rw [World.cell?_alloc_at _ _ _ _ (by simp)]; rfl) (by rw [World.cell?_alloc_at _ _ _ _ (by simp)]; rfl)) (by omega) (by omega) HZ.out).mono ?_; rintro e' w1 ⟨rfl, hb1⟩; rw [HD.out])))
  all_goals go_wp2
  all_goals go_ret
  all_goals exact ⟨rfl, (by repeat (first | exact Below.refl _ _ | assumption | refine belA ?_ | refine belD ?_ | refine belN ?_ | refine belS ?_ (by simp) | refine belT ?_ (by assumption)))⟩
end Go.Proofs.Ytemhjhaokbgldaa
