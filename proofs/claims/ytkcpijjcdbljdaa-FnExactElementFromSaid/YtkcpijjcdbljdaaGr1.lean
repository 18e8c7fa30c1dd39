/- Walks of the laws IsValidGroup, IsElement, ElementFrom. -/
import Derived.Test.YtkcpijjcdbljdaaGr
import Derived.Test.YtkcpijjcdbljdaaMod
import Derived.Test.YtkcpijjcdbljdaaWk1
namespace Go.Proofs.Ytkcpijjcdbljdaa
open Go.RowKit
set_option linter.unusedVariables false

set_option maxHeartbeats 400000 in
theorem sIsValidGroup_any (p q g : Int) (w : World) :
    Calls Try.prog 25 #[.agg #[.int .i64 p, .int .i64 q, .int .i64 g]] w fun e w' => e = .returned (.bool (goodB p q g)) ∧ Below w.heap.size w w' := by
  go_enter Try.func25, Try.ntmps25
  go_wp2_with (go_at_call 53; refine (l2Good_any _ _ _ _).mono ?_; rintro e w' ⟨rfl, hb⟩)
  go_ret
  exact ⟨rfl, (by repeat (first | exact Below.refl _ _ | assumption | refine belA ?_ | refine belD ?_ | refine belN ?_ | refine belS ?_ (by simp) | refine belT ?_ (by assumption)))⟩

set_option maxHeartbeats 400000 in
theorem walk_FnExactIsValidGroup (w : World) (p q g : Int) (wp : (Lit.int .i64 p).wf = true) (wq : (Lit.int .i64 q).wf = true) (wg : (Lit.int .i64 g).wf = true) :
    Calls Try.prog 9 #[.agg #[.int .i64 p, .int .i64 q, .int .i64 g]] w fun e w' => e = .returned (.bool true) ∧ Below w.heap.size w w' := by
  clear wp wq wg
  have hs := fun W => sIsValidGroup_any p q g W
  have hi := fun W => IsValidGroup_any p q g W
  generalize goodB p q g = x at hs hi
  have Hs := Lib.hid hs
  have Hi := Lib.hid hi
  clear hs hi
  go_enter Try.func9, Try.ntmps9
  go_wp2_with fail
  refine (toGroup_any _ _ _ _).mono ?_
  rintro e w1 ⟨rfl, hb1⟩
  go_wp2_with fail
  refine (Hs.out _).mono ?_
  rintro e w2 ⟨rfl, hb2⟩
  obtain ⟨hc1, hf1⟩ := bcell (belT hb1 hb2)
  go_wp2_with fail
  refine (toGroup_any _ _ _ _).mono ?_
  rintro e w3 ⟨rfl, hb3⟩
  go_wp2_with fail
  refine (Hi.out _).mono ?_
  rintro e w4 ⟨rfl, hb4⟩
  go_wp2
  go_ret
  exact ⟨rfl, (by repeat (first | exact Below.refl _ _ | assumption | refine belA ?_ | refine belD ?_ | refine belN ?_ | refine belS ?_ (by simp) | refine belT ?_ (by assumption)))⟩

def elM (p q g x : Int) : Bool × Bool := (goodB p q g && hasB p q x, goodB p q g)
set_option maxHeartbeats 400000 in
theorem sIsElement_any (p q g x : Int) (w : World) :
    Calls Try.prog 38 #[.agg #[.int .i64 p, .int .i64 q, .int .i64 g], .int .i64 x] w fun e w' => e = .returned (.tuple #[.bool (elM p q g x).1, .bool (elM p q g x).2]) ∧ Below w.heap.size w w' := by
  have H := Lib.hid fun W => l2Good_any p q g W
  cases hg : goodB p q g
  · rw [hg] at H
    go_enter Try.func38, Try.ntmps38
    go_wp2_with (go_at_call 53; refine (H.out _).mono ?_; rintro e w1 ⟨rfl, hb1⟩; obtain ⟨hc1, hf1⟩ := bcell hb1)
    go_ret2
    exact ⟨ret_bb (by simp [elM, hg]), (by repeat (first | exact Below.refl _ _ | assumption | refine belA ?_ | refine belD ?_ | refine belN ?_ | refine belS ?_ (by simp) | refine belT ?_ (by assumption)))⟩
  · rw [hg] at H
    have G := good_of hg
    have g1 := G.p1
    have g2 := G.p2
    have g3 := G.q1
    have g4 := G.q2
    clear G
    go_enter Try.func38, Try.ntmps38
    go_wp2_with fail
    refine (H.out _).mono ?_
    rintro e w1 ⟨rfl, hb1⟩
    obtain ⟨hc1, hf1⟩ := bcell hb1
    go_wp2_with fail
    refine (gIs_any p q g _ 1 1 [x] _ (Ints.one (by rw [World.cell?_alloc_at _ _ _ _ rfl]; rfl)) (by omega) (by omega) (by omega) (by omega)).mono ?_
    rintro e w2 ⟨rfl, hb2⟩
    go_wp2
    go_ret2
    exact ⟨ret_bb (by simp [elM, hg]), (by repeat (first | exact Below.refl _ _ | assumption | refine belA ?_ | refine belD ?_ | refine belN ?_ | refine belS ?_ (by simp) | refine belT ?_ (by assumption)))⟩

set_option maxHeartbeats 400000 in
theorem iIsElement_any (p q g x : Int) (w : World) :
    Calls Try.prog 39 #[.agg #[.int .i64 p, .int .i64 q, .int .i64 g], .int .i64 x] w fun e w' => e = .returned (.tuple #[.bool (elM p q g x).1, .bool (elM p q g x).2]) ∧ Below w.heap.size w w' := by
  have H := Lib.hid fun W => IsValidGroup_any p q g W
  cases hg : goodB p q g
  · rw [hg] at H
    go_enter Try.func39, Try.ntmps39
    go_wp2_with (go_at_call 27; refine (H.out _).mono ?_; rintro e w1 ⟨rfl, hb1⟩; obtain ⟨hc1, hf1⟩ := bcell hb1)
    go_ret2
    exact ⟨ret_bb (by simp [elM, hg]), (by repeat (first | exact Below.refl _ _ | assumption | refine belA ?_ | refine belD ?_ | refine belN ?_ | refine belS ?_ (by simp) | refine belT ?_ (by assumption)))⟩
  · rw [hg] at H
    have G := good_of hg
    have g1 := G.p1
    have g2 := G.p2
    have g3 := G.q1
    have g4 := G.q2
    clear G
    go_enter Try.func39, Try.ntmps39
    go_wp2_with fail
    refine (H.out _).mono ?_
    rintro e w1 ⟨rfl, hb1⟩
    obtain ⟨hc1, hf1⟩ := bcell hb1
    go_wp2_with fail
    refine (has_any p q g x _ (by omega) (by omega) (by omega) (by omega)).mono ?_
    rintro e w2 ⟨rfl, hb2⟩
    go_wp2
    go_ret2
    exact ⟨ret_bb (by simp [elM, hg]), (by repeat (first | exact Below.refl _ _ | assumption | refine belA ?_ | refine belD ?_ | refine belN ?_ | refine belS ?_ (by simp) | refine belT ?_ (by assumption)))⟩

def elF (p q g r : Int) : Int × Bool := if goodB p q g && inB r 1 (p - 1) then (pw r ((p - 1) / q) p, true) else (0, false)
theorem div_bd {p q : Int} (h1 : 3 ≤ p) (h2 : p ≤ 2000000000) (h3 : 2 ≤ q) : 0 ≤ (p - 1) / q ∧ (p - 1) / q ≤ 2000000000 := by
  have a := Int.ediv_nonneg (show 0 ≤ p - 1 by omega) (show 0 ≤ q by omega)
  have b : (p - 1) / q ≤ p - 1 := Int.ediv_le_self _ (by omega)
  omega
set_option maxHeartbeats 400000 in
theorem gFrom_any (p q g r : Int) (w : World) (h1 : 3 ≤ p) (h2 : p ≤ 2000000000) (h3 : 2 ≤ q) (h4 : q ≤ p - 1) (r0 : 0 ≤ r) (r1 : r < p) :
    Calls Try.prog 54 #[.agg #[.int .i64 p, .int .i64 q, .int .i64 g], .int .i64 r] w fun e w' => e = .returned (.int .i64 (pw r ((p - 1) / q) p)) ∧ Below w.heap.size w w' := by
  obtain ⟨d1, d2⟩ := div_bd h1 h2 h3
  have hq : (q == 0) = false := by simp; omega
  go_enter Try.func54, Try.ntmps54
  go_wp2
  go_quiet ((first | (go_at_call 44; exact Calls.quiet_of_same (quietL (nPower_any _ _ _ _ (by omega) (by omega) (by omega) (by omega))))))
  go_wp2
  go_ret
  exact ⟨rfl, (by repeat (first | exact Below.refl _ _ | assumption | refine belA ?_ | refine belD ?_ | refine belN ?_ | refine belS ?_ (by simp) | refine belT ?_ (by assumption)))⟩
set_option maxHeartbeats 400000 in
theorem sElementFrom_any (p q g r : Int) (w : World) :
    Calls Try.prog 30 #[.agg #[.int .i64 p, .int .i64 q, .int .i64 g], .int .i64 r] w fun e w' => e = .returned (.tuple #[.int .i64 (elF p q g r).1, .bool (elF p q g r).2]) ∧ Below w.heap.size w w' := by
  have H := Lib.hid fun W => l2Good_any p q g W
  cases hg : goodB p q g
  · rw [hg] at H
    go_enter Try.func30, Try.ntmps30
    go_wp2_with (go_at_call 53; refine (H.out _).mono ?_; rintro e w1 ⟨rfl, hb1⟩; obtain ⟨hc1, hf1⟩ := bcell hb1)
    go_ret2
    exact ⟨ret_ib (by simp [elF, hg]), (by repeat (first | exact Below.refl _ _ | assumption | refine belA ?_ | refine belD ?_ | refine belN ?_ | refine belS ?_ (by simp) | refine belT ?_ (by assumption)))⟩
  · rw [hg] at H
    have G := good_of hg
    have g1 := G.p1
    have g2 := G.p2
    have g3 := G.q1
    have g4 := G.q2
    clear G
    cases hr : inB r 1 (p - 1)
    · go_enter Try.func30, Try.ntmps30
      go_wp2_with (first | (go_at_call 43; refine (l1In_any _ _ _ _).mono ?_; rintro e w' ⟨rfl, rfl⟩) | (go_at_call 53; refine (H.out _).mono ?_; rintro e w1 ⟨rfl, hb1⟩; obtain ⟨hc1, hf1⟩ := bcell hb1))
      go_ret2
      exact ⟨ret_ib (by simp [elF, hr]), (by repeat (first | exact Below.refl _ _ | assumption | refine belA ?_ | refine belD ?_ | refine belN ?_ | refine belS ?_ (by simp) | refine belT ?_ (by assumption)))⟩
    · obtain ⟨r0, r1⟩ := inB_true hr
      go_enter Try.func30, Try.ntmps30
      go_wp2_with (first | (go_at_call 43; refine (l1In_any _ _ _ _).mono ?_; rintro e w' ⟨rfl, rfl⟩) | (go_at_call 53; refine (H.out _).mono ?_; rintro e w1 ⟨rfl, hb1⟩; obtain ⟨hc1, hf1⟩ := bcell hb1) | (go_at_call 54; refine (gFrom_any p q g r _ (by omega) (by omega) (by omega) (by omega) (by omega) (by omega)).mono ?_; rintro e w2 ⟨rfl, hb2⟩))
      go_ret2
      exact ⟨ret_ib (by simp [elF, hg, hr]), (by repeat (first | exact Below.refl _ _ | assumption | refine belA ?_ | refine belD ?_ | refine belN ?_ | refine belS ?_ (by simp) | refine belT ?_ (by assumption)))⟩

set_option maxHeartbeats 400000 in
theorem iElementFrom_any (p q g r : Int) (w : World) :
    Calls Try.prog 31 #[.agg #[.int .i64 p, .int .i64 q, .int .i64 g], .int .i64 r] w fun e w' => e = .returned (.tuple #[.int .i64 (elF p q g r).1, .bool (elF p q g r).2]) ∧ Below w.heap.size w w' := by
  have H := Lib.hid fun W => IsValidGroup_any p q g W
  cases hg : goodB p q g
  · rw [hg] at H
    go_enter Try.func31, Try.ntmps31
    go_wp2_with (go_at_call 27; refine (H.out _).mono ?_; rintro e w1 ⟨rfl, hb1⟩; obtain ⟨hc1, hf1⟩ := bcell hb1)
    go_ret2
    exact ⟨ret_ib (by simp [elF, hg]), (by repeat (first | exact Below.refl _ _ | assumption | refine belA ?_ | refine belD ?_ | refine belN ?_ | refine belS ?_ (by simp) | refine belT ?_ (by assumption)))⟩
  · rw [hg] at H
    have G := good_of hg
    have g1 := G.p1
    have g2 := G.p2
    have g3 := G.q1
    have g4 := G.q2
    clear G
    obtain ⟨d1, d2⟩ := div_bd g1 g2 g3
    have hq : (q == 0) = false := by simp; omega
    cases hr : inB r 1 (p - 1)
    · go_enter Try.func31, Try.ntmps31
      go_wp2_with (first | (go_at_call 46; refine (within_any _ _ _ _).mono ?_; rintro e w' ⟨rfl, rfl⟩) | (go_at_call 27; refine (H.out _).mono ?_; rintro e w1 ⟨rfl, hb1⟩; obtain ⟨hc1, hf1⟩ := bcell hb1))
      go_ret2
      exact ⟨ret_ib (by simp [elF, hr]), (by repeat (first | exact Below.refl _ _ | assumption | refine belA ?_ | refine belD ?_ | refine belN ?_ | refine belS ?_ (by simp) | refine belT ?_ (by assumption)))⟩
    · obtain ⟨r0, r1⟩ := inB_true hr
      go_enter Try.func31, Try.ntmps31
      go_wp2_with (first | (go_at_call 46; refine (within_any _ _ _ _).mono ?_; rintro e w' ⟨rfl, rfl⟩) | (go_at_call 27; refine (H.out _).mono ?_; rintro e w1 ⟨rfl, hb1⟩; obtain ⟨hc1, hf1⟩ := bcell hb1))
      go_quiet ((first | (go_at_call 47; exact Calls.quiet_of_same (quietL (power_any _ _ _ _ (by omega) (by omega) (by omega) (by omega))))))
      go_wp2
      go_ret2
      exact ⟨ret_ib (by simp [elF, hg, hr]), (by repeat (first | exact Below.refl _ _ | assumption | refine belA ?_ | refine belD ?_ | refine belN ?_ | refine belS ?_ (by simp) | refine belT ?_ (by assumption)))⟩
end Go.Proofs.Ytkcpijjcdbljdaa
