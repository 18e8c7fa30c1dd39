/- Walks of the laws IsValidGroup, IsElement, ElementFrom. -/
import Derived.Test.YteeggmnkcgpfjaaGr
import Derived.Test.YteeggmnkcgpfjaaMod
import Derived.Test.YteeggmnkcgpfjaaWk1
namespace Go.Proofs.Yteeggmnkcgpfjaa
open Go.RowKit
set_option linter.unusedVariables false

set_option maxHeartbeats 400000 in
theorem sIsValidGroup_any (p q g : Int) (w : World) :
    Calls Try.prog 26 #[.agg #[.int .i64 p, .int .i64 q, .int .i64 g]] w fun e w' => e = .returned (.bool (goodB p q g)) ∧ Below w.heap.size w w' := by
  go_enter Try.func26, Try.ntmps26
  go_wp2_with (go_at_call 60; refine (l2Good_any _ _ _ _).mono ?_; rintro e w' ⟨rfl, hb⟩)
  go_ret
  exact ⟨rfl, (by repeat (first | exact Below.refl _ _ | assumption | refine belA ?_ | refine belD ?_ | refine belN ?_ | refine belS ?_ (by simp) | refine belT ?_ (by assumption)))⟩


def elF (p q g r : Int) : Int × Bool := if goodB p q g && inB r 1 (p - 1) then (pw r ((p - 1) / q) p, true) else (0, false)
theorem div_bd {p q : Int} (h1 : 3 ≤ p) (h2 : p ≤ 2000000000) (h3 : 2 ≤ q) : 0 ≤ (p - 1) / q ∧ (p - 1) / q ≤ 2000000000 := by
  have a := Int.ediv_nonneg (show 0 ≤ p - 1 by omega) (show 0 ≤ q by omega)
  have b : (p - 1) / q ≤ p - 1 := Int.ediv_le_self _ (by omega)
  omega
set_option maxHeartbeats 400000 in
theorem gFrom_any (p q g r : Int) (w : World) (h1 : 3 ≤ p) (h2 : p ≤ 2000000000) (h3 : 2 ≤ q) (h4 : q ≤ p - 1) (r0 : 0 ≤ r) (r1 : r < p) :
    Calls Try.prog 73 #[.agg #[.int .i64 p, .int .i64 q, .int .i64 g], .int .i64 r] w fun e w' => e = .returned (.int .i64 (pw r ((p - 1) / q) p)) ∧ Below w.heap.size w w' := by
  obtain ⟨d1, d2⟩ := div_bd h1 h2 h3
  have hq : (q == 0) = false := by simp; omega
  go_enter Try.func73, Try.ntmps73
  go_wp2
  go_quiet ((first | (go_at_call 110; exact Calls.quiet_of_same (quietL (nPower_any _ _ _ _ (by omega) (by omega) (by omega) (by omega))))))
  go_wp2
  go_ret
  exact ⟨rfl, (by repeat (first | exact Below.refl _ _ | assumption | refine belA ?_ | refine belD ?_ | refine belN ?_ | refine belS ?_ (by simp) | refine belT ?_ (by assumption)))⟩
set_option maxHeartbeats 400000 in
theorem sElementFrom_any (p q g r : Int) (w : World) :
    Calls Try.prog 23 #[.agg #[.int .i64 p, .int .i64 q, .int .i64 g], .int .i64 r] w fun e w' => e = .returned (.tuple #[.int .i64 (elF p q g r).1, .bool (elF p q g r).2]) ∧ Below w.heap.size w w' := by
  have H := Lib.hid fun W => l2Good_any p q g W
  cases hg : goodB p q g
  · rw [hg] at H
    go_enter Try.func23, Try.ntmps23
    go_wp2_with (go_at_call 60; refine (H.out _).mono ?_; rintro e w1 ⟨rfl, hb1⟩; obtain ⟨hc1, hf1⟩ := bcell hb1)
    go_ret2
    exact ⟨ret_ib (by simp [elF, hg]), (by repeat (first | exact Below.refl _ _ | assumption | refine belA ?_ | refine belD ?_ | refine belN ?_ | refine belS ?_ (by simp) | refine belT ?_ (by assumption)))⟩
  · rw [hg] at H
    have G := good_of hg
    have g1 := G.p1
    have g2 := G.p2
    have g3 := G.q1
    have g4 := G.q2
    clear G
    cases hr : inB r 1 (p - 1)
    · go_enter Try.func23, Try.ntmps23
      go_wp2_with (first | (go_at_call 72; refine (l1In_any _ _ _ _).mono ?_; rintro e w' ⟨rfl, rfl⟩) | (go_at_call 60; refine (H.out _).mono ?_; rintro e w1 ⟨rfl, hb1⟩; obtain ⟨hc1, hf1⟩ := bcell hb1))
      go_ret2
      exact ⟨ret_ib (by simp [elF, hr]), (by repeat (first | exact Below.refl _ _ | assumption | refine belA ?_ | refine belD ?_ | refine belN ?_ | refine belS ?_ (by simp) | refine belT ?_ (by assumption)))⟩
    · obtain ⟨r0, r1⟩ := inB_true hr
      go_enter Try.func23, Try.ntmps23
      go_wp2_with (first | (go_at_call 72; refine (l1In_any _ _ _ _).mono ?_; rintro e w' ⟨rfl, rfl⟩) | (go_at_call 60; refine (H.out _).mono ?_; rintro e w1 ⟨rfl, hb1⟩; obtain ⟨hc1, hf1⟩ := bcell hb1) | (go_at_call 73; refine (gFrom_any p q g r _ (by omega) (by omega) (by omega) (by omega) (by omega) (by omega)).mono ?_; rintro e w2 ⟨rfl, hb2⟩))
      go_ret2
      exact ⟨ret_ib (by simp [elF, hg, hr]), (by repeat (first | exact Below.refl _ _ | assumption | refine belA ?_ | refine belD ?_ | refine belN ?_ | refine belS ?_ (by simp) | refine belT ?_ (by assumption)))⟩

set_option maxHeartbeats 400000 in
theorem iElementFrom_any (p q g r : Int) (w : World) :
    Calls Try.prog 22 #[.agg #[.int .i64 p, .int .i64 q, .int .i64 g], .int .i64 r] w fun e w' => e = .returned (.tuple #[.int .i64 (elF p q g r).1, .bool (elF p q g r).2]) ∧ Below w.heap.size w w' := by
  have H := Lib.hid fun W => IsValidGroup_any p q g W
  cases hg : goodB p q g
  · rw [hg] at H
    go_enter Try.func22, Try.ntmps22
    go_wp2_with (go_at_call 25; refine (H.out _).mono ?_; rintro e w1 ⟨rfl, hb1⟩; obtain ⟨hc1, hf1⟩ := bcell hb1)
    go_ret2
    exact ⟨ret_ib (by simp [elF, hg]), (by repeat (first | exact Below.refl _ _ | assumption | refine belA ?_ | refine belD ?_ | refine belN ?_ | refine belS ?_ (by simp) | refine belT ?_ (by assumption)))⟩
  · rw [hg] at H
    have G := good_of hg
    have g1 := G.p1
    have g2 := G.p2
    have g3 := G.q1
    have g4 := G.q2
    clear G
    obtain ⟨d1, d2⟩ := div_bd g1 g2 g3
    have hq : (q == 0) = false := by simp; omega
    cases hr : inB r 1 (p - 1)
    · go_enter Try.func22, Try.ntmps22
      go_wp2_with (first | (go_at_call 70; refine (within_any _ _ _ _).mono ?_; rintro e w' ⟨rfl, rfl⟩) | (go_at_call 25; refine (H.out _).mono ?_; rintro e w1 ⟨rfl, hb1⟩; obtain ⟨hc1, hf1⟩ := bcell hb1))
      go_ret2
      exact ⟨ret_ib (by simp [elF, hr]), (by repeat (first | exact Below.refl _ _ | assumption | refine belA ?_ | refine belD ?_ | refine belN ?_ | refine belS ?_ (by simp) | refine belT ?_ (by assumption)))⟩
    · obtain ⟨r0, r1⟩ := inB_true hr
      go_enter Try.func22, Try.ntmps22
      go_wp2_with (first | (go_at_call 70; refine (within_any _ _ _ _).mono ?_; rintro e w' ⟨rfl, rfl⟩) | (go_at_call 25; refine (H.out _).mono ?_; rintro e w1 ⟨rfl, hb1⟩; obtain ⟨hc1, hf1⟩ := bcell hb1))
      go_quiet ((first | (go_at_call 71; exact Calls.quiet_of_same (quietL (power_any _ _ _ _ (by omega) (by omega) (by omega) (by omega))))))
      go_wp2
      go_ret2
      exact ⟨ret_ib (by simp [elF, hg, hr]), (by repeat (first | exact Below.refl _ _ | assumption | refine belA ?_ | refine belD ?_ | refine belN ?_ | refine belS ?_ (by simp) | refine belT ?_ (by assumption)))⟩
end Go.Proofs.Yteeggmnkcgpfjaa
