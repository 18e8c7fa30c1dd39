/- Contracts: PowerMod of both sides, and the walk of the law. -/
import Derived.Test.YtkcpijjcdbljdaaFrame
import Derived.Test.YtkcpijjcdbljdaaBase
namespace Go.Proofs.Ytkcpijjcdbljdaa
open Go.ChangeShapes Go.WideShapes Go.ChangeAt Go.RowKit
set_option linter.unusedVariables false

def pwMod (a e m : Int) : Int × Bool := if inB m 2 2000000000 && inB a 0 (m - 1) && inB e 0 2000000000 then (pw a e m, true) else (0, false)
theorem ret_ib {a c : Int} {b d : Bool} (h : (a, b) = (c, d)) : Ending.returned (.tuple #[.int .i64 a, .bool b]) = .returned (.tuple #[.int .i64 c, .bool d]) := by
  injection h with h1 h2
  rw [h1, h2]

set_option maxHeartbeats 400000 in
theorem sPowerMod_any (a e m : Int) (w : World) :
    Calls Try.prog 17 #[.int .i64 a, .int .i64 e, .int .i64 m] w fun e' w' => e' = .returned (.tuple #[.int .i64 (pwMod a e m).1, .bool (pwMod a e m).2]) ∧ w = w' := by
  cases hm : inB m 2 2000000000
  · go_enter Try.func17, Try.ntmps17
    go_wp2_with (go_at_call 42; refine (nModulus_any _ _).mono ?_; rintro e w' ⟨rfl, rfl⟩)
    go_ret2
    exact ⟨ret_ib (by simp [pwMod, hm]), rfl⟩
  · obtain ⟨h1, h2⟩ := inB_true hm
    cases ha : inB a 0 (m - 1)
    · go_enter Try.func17, Try.ntmps17
      go_wp2_with (first | (go_at_call 42; refine (nModulus_any _ _).mono ?_; rintro e w' ⟨rfl, rfl⟩) | (go_at_call 43; refine (l1In_any _ _ _ _).mono ?_; rintro e w' ⟨rfl, rfl⟩))
      go_ret2
      exact ⟨ret_ib (by simp [pwMod, ha]), rfl⟩
    · obtain ⟨h3, h4⟩ := inB_true ha
      cases he : inB e 0 2000000000
      · go_enter Try.func17, Try.ntmps17
        go_wp2_with (first | (go_at_call 42; refine (nModulus_any _ _).mono ?_; rintro e w' ⟨rfl, rfl⟩) | (go_at_call 43; refine (l1In_any _ _ _ _).mono ?_; rintro e w' ⟨rfl, rfl⟩))
        go_ret2
        exact ⟨ret_ib (by simp [pwMod, he]), rfl⟩
      · obtain ⟨h5, h6⟩ := inB_true he
        go_enter Try.func17, Try.ntmps17
        go_wp2_with (first | (go_at_call 42; refine (nModulus_any _ _).mono ?_; rintro e w' ⟨rfl, rfl⟩) | (go_at_call 43; refine (l1In_any _ _ _ _).mono ?_; rintro e w' ⟨rfl, rfl⟩) | (go_at_call 44; refine (nPower_any _ _ _ _ (by omega) (by omega) (by omega) (by omega)).mono ?_; rintro e w' ⟨rfl, rfl⟩))
        go_ret2
        exact ⟨ret_ib (by simp [pwMod, hm, ha, he]), rfl⟩

set_option maxHeartbeats 400000 in
theorem iPowerMod_any (a e m : Int) (w : World) :
    Calls Try.prog 18 #[.int .i64 a, .int .i64 e, .int .i64 m] w fun e' w' => e' = .returned (.tuple #[.int .i64 (pwMod a e m).1, .bool (pwMod a e m).2]) ∧ w = w' := by
  cases hm : inB m 2 2000000000
  · go_enter Try.func18, Try.ntmps18
    go_wp2_with (go_at_call 45; refine (isModulus_any _ _).mono ?_; rintro e w' ⟨rfl, rfl⟩)
    go_ret2
    exact ⟨ret_ib (by simp [pwMod, hm]), rfl⟩
  · obtain ⟨h1, h2⟩ := inB_true hm
    cases ha : inB a 0 (m - 1)
    · go_enter Try.func18, Try.ntmps18
      go_wp2_with (first | (go_at_call 45; refine (isModulus_any _ _).mono ?_; rintro e w' ⟨rfl, rfl⟩) | (go_at_call 46; refine (within_any _ _ _ _).mono ?_; rintro e w' ⟨rfl, rfl⟩))
      go_ret2
      exact ⟨ret_ib (by simp [pwMod, ha]), rfl⟩
    · obtain ⟨h3, h4⟩ := inB_true ha
      cases he : inB e 0 2000000000
      · go_enter Try.func18, Try.ntmps18
        go_wp2_with (first | (go_at_call 45; refine (isModulus_any _ _).mono ?_; rintro e w' ⟨rfl, rfl⟩) | (go_at_call 46; refine (within_any _ _ _ _).mono ?_; rintro e w' ⟨rfl, rfl⟩))
        go_ret2
        exact ⟨ret_ib (by simp [pwMod, he]), rfl⟩
      · obtain ⟨h5, h6⟩ := inB_true he
        go_enter Try.func18, Try.ntmps18
        go_wp2_with (first | (go_at_call 45; refine (isModulus_any _ _).mono ?_; rintro e w' ⟨rfl, rfl⟩) | (go_at_call 46; refine (within_any _ _ _ _).mono ?_; rintro e w' ⟨rfl, rfl⟩) | (go_at_call 47; refine (power_any _ _ _ _ (by omega) (by omega) (by omega) (by omega)).mono ?_; rintro e w' ⟨rfl, rfl⟩))
        go_ret2
        exact ⟨ret_ib (by simp [pwMod, hm, ha, he]), rfl⟩

set_option maxHeartbeats 400000 in
theorem walk_FnExactPowerMod (a : Int) (wa : (Lit.int .i64 a).wf = true) (e : Int) (we : (Lit.int .i64 e).wf = true) (m : Int) (wm : (Lit.int .i64 m).wf = true) (w : World) :
    Calls Try.prog 5 #[.int .i64 a, .int .i64 e, .int .i64 m] w fun e w' => e = .returned (.bool true) ∧ Below w.heap.size w w' := by
  clear wa we wm
  have hs := sPowerMod_any a e m w
  have hi := iPowerMod_any a e m w
  generalize (pwMod a e m).1 = x at hs hi
  generalize (pwMod a e m).2 = y at hs hi
  have Hs := Lib.hid hs
  have Hi := Lib.hid hi
  clear hs hi
  go_enter Try.func5, Try.ntmps5
  go_wp2_with (first | (go_at_call 17; refine Hs.out.mono ?_; rintro e w' ⟨rfl, rfl⟩) | (go_at_call 18; refine Hi.out.mono ?_; rintro e w' ⟨rfl, rfl⟩))
  go_ret
  exact ⟨rfl, Below.refl _ _⟩
end Go.Proofs.Ytkcpijjcdbljdaa
