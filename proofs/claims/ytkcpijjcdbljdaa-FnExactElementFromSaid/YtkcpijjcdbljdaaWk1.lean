/- Walks of the laws on numbers. -/
import Derived.Test.YtkcpijjcdbljdaaFrame
import Derived.Test.YtkcpijjcdbljdaaBase
import Derived.Test.YtkcpijjcdbljdaaPrime
import Derived.Test.YtkcpijjcdbljdaaInv
import Derived.Test.YtkcpijjcdbljdaaMod
namespace Go.Proofs.Ytkcpijjcdbljdaa
open Go.ChangeShapes Go.WideShapes Go.ChangeAt Go.RowKit
set_option linter.unusedVariables false

theorem ret_bb {a b c d : Bool} (h : (a, b) = (c, d)) : Ending.returned (.tuple #[.bool a, .bool b]) = .returned (.tuple #[.bool c, .bool d]) := by
  injection h with h1 h2
  rw [h1, h2]

set_option maxHeartbeats 400000 in
theorem walk_FnExactConstants (w : World) : Calls Try.prog 3 #[] w fun e w' => e = .returned (.bool true) ∧ Below w.heap.size w w' := by
  go_enter Try.func3, Try.ntmps3
  go_wp2
  go_ret
  exact ⟨rfl, Below.refl _ _⟩

set_option maxHeartbeats 400000 in
theorem sIsPrime_any (n : Int) (w : World) :
    Calls Try.prog 19 #[.int .i64 n] w fun e' w' => e' = .returned (.tuple #[.bool (inB n 0 2000000000 && primeB n), .bool (inB n 0 2000000000)]) ∧ w = w' := by
  cases h1 : inB n 0 2000000000
  · go_enter Try.func19, Try.ntmps19
    go_wp2_with (first | (go_at_call 43; refine (l1In_any _ _ _ _).mono ?_; rintro e w' ⟨rfl, rfl⟩))
    go_ret2
    exact ⟨ret_bb (by simp), rfl⟩
  obtain ⟨p1, p2⟩ := inB_true h1
  go_enter Try.func19, Try.ntmps19
  go_wp2_with (first | (go_at_call 43; refine (l1In_any _ _ _ _).mono ?_; rintro e w' ⟨rfl, rfl⟩) | (go_at_call 48; refine (nPrime_any _ _ (by omega)).mono ?_; rintro e w' ⟨rfl, rfl⟩))
  go_ret2
  exact ⟨ret_bb (by simp), rfl⟩

set_option maxHeartbeats 400000 in
theorem iIsPrime_any (n : Int) (w : World) :
    Calls Try.prog 20 #[.int .i64 n] w fun e' w' => e' = .returned (.tuple #[.bool (inB n 0 2000000000 && primeB n), .bool (inB n 0 2000000000)]) ∧ w = w' := by
  cases h1 : inB n 0 2000000000
  · go_enter Try.func20, Try.ntmps20
    go_wp2_with (first | (go_at_call 46; refine (within_any _ _ _ _).mono ?_; rintro e w' ⟨rfl, rfl⟩))
    go_ret2
    exact ⟨ret_bb (by simp), rfl⟩
  obtain ⟨p1, p2⟩ := inB_true h1
  go_enter Try.func20, Try.ntmps20
  go_wp2_with (first | (go_at_call 46; refine (within_any _ _ _ _).mono ?_; rintro e w' ⟨rfl, rfl⟩) | (go_at_call 49; refine (isPrime_any _ _).mono ?_; rintro e w' ⟨rfl, rfl⟩))
  go_ret2
  exact ⟨ret_bb (by
    rcases Int.lt_or_le n 2 with h | h
    · simp [primeB_small h]
    · simp [inB_mk h p2]), rfl⟩

set_option maxHeartbeats 400000 in
theorem walk_FnExactIsPrime (n : Int) (wn : (Lit.int .i64 n).wf = true) (w : World) :
    Calls Try.prog 6 #[.int .i64 n] w fun e w' => e = .returned (.bool true) ∧ Below w.heap.size w w' := by
  clear wn
  have hs := sIsPrime_any n w
  have hi := iIsPrime_any n w
  generalize (inB n 0 2000000000 && primeB n) = x at hs hi
  generalize inB n 0 2000000000 = y at hs hi
  have Hs := Lib.hid hs
  have Hi := Lib.hid hi
  clear hs hi
  go_enter Try.func6, Try.ntmps6
  go_wp2_with (first | (go_at_call 19; refine Hs.out.mono ?_; rintro e w' ⟨rfl, rfl⟩) | (go_at_call 20; refine Hi.out.mono ?_; rintro e w' ⟨rfl, rfl⟩))
  go_ret
  exact ⟨rfl, Below.refl _ _⟩

def invMod (a m : Int) : Int × Bool := if inB m 2 2000000000 && inB a 0 (m - 1) && decide (Int.gcd m a = 1) then (invM a m, true) else (0, false)

set_option maxHeartbeats 400000 in
theorem sInverseMod_any (a m : Int) (w : World) :
    Calls Try.prog 23 #[.int .i64 a, .int .i64 m] w fun e' w' => e' = .returned (.tuple #[.int .i64 (invMod a m).1, .bool (invMod a m).2]) ∧ w = w' := by
  cases h1 : inB m 2 2000000000
  · go_enter Try.func23, Try.ntmps23
    go_wp2_with (first | (go_at_call 43; refine (l1In_any _ _ _ _).mono ?_; rintro e w' ⟨rfl, rfl⟩) | (go_at_call 42; refine (nModulus_any _ _).mono ?_; rintro e w' ⟨rfl, rfl⟩))
    go_ret2
    exact ⟨ret_ib (by simp [invMod, h1]), rfl⟩
  obtain ⟨p1, p2⟩ := inB_true h1
  cases h2 : inB a 0 (m - 1)
  · go_enter Try.func23, Try.ntmps23
    go_wp2_with (first | (go_at_call 43; refine (l1In_any _ _ _ _).mono ?_; rintro e w' ⟨rfl, rfl⟩) | (go_at_call 42; refine (nModulus_any _ _).mono ?_; rintro e w' ⟨rfl, rfl⟩))
    go_ret2
    exact ⟨ret_ib (by simp [invMod, h2]), rfl⟩
  obtain ⟨p3, p4⟩ := inB_true h2
  go_enter Try.func23, Try.ntmps23
  go_wp2_with (first | (go_at_call 43; refine (l1In_any _ _ _ _).mono ?_; rintro e w' ⟨rfl, rfl⟩) | (go_at_call 42; refine (nModulus_any _ _).mono ?_; rintro e w' ⟨rfl, rfl⟩))
  refine (nInverse_any _ _ _ (by omega) (by omega) (by omega) (by omega)).mono ?_
  rintro e w' ⟨y, rfl, hy, rfl⟩
  have HY := Lib.hid hy
  clear hy
  cases hg : decide (Int.gcd m a = 1)
  · go_wp2
    go_ret2
    exact ⟨ret_ib (by simp [invMod, hg]), rfl⟩
  · go_wp2
    go_ret2
    exact ⟨ret_ib (by simp [invMod, hg, h1, h2, HY.out (of_decide_eq_true hg)]), rfl⟩

theorem invM_ne {a m : Int} (h0 : 0 ≤ a) (h1 : a < m) (h2 : 2 ≤ m) : (invM a m != 0) = decide (Int.gcd m a = 1) := by
  by_cases hg : Int.gcd m a = 1
  · rw [decide_eq_true hg, bne_iff_ne]
    exact invM_nz h2 h0 h1 hg
  · rw [decide_eq_false hg, invM_no hg]
    rfl

set_option maxHeartbeats 400000 in
theorem iInverseMod_any (a m : Int) (w : World) :
    Calls Try.prog 24 #[.int .i64 a, .int .i64 m] w fun e' w' => e' = .returned (.tuple #[.int .i64 (invMod a m).1, .bool (invMod a m).2]) ∧ w = w' := by
  cases h1 : inB m 2 2000000000
  · go_enter Try.func24, Try.ntmps24
    go_wp2_with (first | (go_at_call 46; refine (within_any _ _ _ _).mono ?_; rintro e w' ⟨rfl, rfl⟩) | (go_at_call 45; refine (isModulus_any _ _).mono ?_; rintro e w' ⟨rfl, rfl⟩))
    go_ret2
    exact ⟨ret_ib (by simp [invMod, h1]), rfl⟩
  obtain ⟨p1, p2⟩ := inB_true h1
  cases h2 : inB a 0 (m - 1)
  · go_enter Try.func24, Try.ntmps24
    go_wp2_with (first | (go_at_call 46; refine (within_any _ _ _ _).mono ?_; rintro e w' ⟨rfl, rfl⟩) | (go_at_call 45; refine (isModulus_any _ _).mono ?_; rintro e w' ⟨rfl, rfl⟩))
    go_ret2
    exact ⟨ret_ib (by simp [invMod, h2]), rfl⟩
  obtain ⟨p3, p4⟩ := inB_true h2
  have hn := invM_ne p3 (show a < m by omega) p1
  have hno := @invM_no a m
  have HN := Lib.hid hn
  have HO := Lib.hid hno
  clear hn hno
  go_enter Try.func24, Try.ntmps24
  go_wp2_with (first | (go_at_call 46; refine (within_any _ _ _ _).mono ?_; rintro e w' ⟨rfl, rfl⟩) | (go_at_call 45; refine (isModulus_any _ _).mono ?_; rintro e w' ⟨rfl, rfl⟩) | (go_at_call 52; refine (inverse_any _ _ _ (by omega) (by omega) (by omega) (by omega)).mono ?_; rintro e w' ⟨rfl, rfl⟩))
  go_ret2
  exact ⟨ret_ib (by
    rw [HN.out]
    by_cases hg : Int.gcd m a = 1
    · simp [invMod, hg, h1, h2]
    · simp [invMod, hg, HO.out hg]), rfl⟩

set_option maxHeartbeats 400000 in
theorem walk_FnExactInverseMod (a : Int) (wa : (Lit.int .i64 a).wf = true) (m : Int) (wm : (Lit.int .i64 m).wf = true) (w : World) :
    Calls Try.prog 8 #[.int .i64 a, .int .i64 m] w fun e w' => e = .returned (.bool true) ∧ Below w.heap.size w w' := by
  clear wa wm
  have hs := sInverseMod_any a m w
  have hi := iInverseMod_any a m w
  generalize (invMod a m).1 = x at hs hi
  generalize (invMod a m).2 = y at hs hi
  have Hs := Lib.hid hs
  have Hi := Lib.hid hi
  clear hs hi
  go_enter Try.func8, Try.ntmps8
  go_wp2_with (first | (go_at_call 23; refine Hs.out.mono ?_; rintro e w' ⟨rfl, rfl⟩) | (go_at_call 24; refine Hi.out.mono ?_; rintro e w' ⟨rfl, rfl⟩))
  go_ret
  exact ⟨rfl, Below.refl _ _⟩
end Go.Proofs.Ytkcpijjcdbljdaa
