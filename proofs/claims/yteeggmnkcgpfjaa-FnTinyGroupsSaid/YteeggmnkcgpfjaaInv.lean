/- Contracts: the modular inverse on both sides. -/
import Derived.Test.YteeggmnkcgpfjaaBase
import Derived.Test.YteeggmnkcgpfjaaInvNt
namespace Go.Proofs.Yteeggmnkcgpfjaa
open Go.RowKit
set_option linter.unusedVariables false

theorem EInv.less {m a r n x o : Int} (h : EInv m a r n x o) (hn : 0 < n) : r - r / n * n < n := by
  have hdm := Int.mul_ediv_add_emod r n
  have hmodlt := Int.emod_lt_of_pos r hn
  rw [Int.mul_comm] at hdm
  omega

set_option maxHeartbeats 400000 in
theorem inverse_any (a m : Int) (w : World) (h0 : 0 ≤ a) (h1 : a < m) (h2 : 2 ≤ m) (hm : m ≤ 3000000000) :
    Calls Try.prog 147 #[.int .i64 a, .int .i64 m] w fun e w' => e = .returned (.int .i64 (invM a m)) ∧ w = w' := by
  go_enter Try.func147, Try.ntmps147
  go_wp2
  go_loop [5, 6, 7, 8] (fun r n x o => ∃ r' n' x' o' : Int, r = .int .i64 r' ∧ n = .int .i64 n' ∧ x = .int .i64 x' ∧ o = .int .i64 o' ∧ Hid (EInv m a r' n' x' o')) (fun _ n _ _ => (intOf n).toNat)
  case atStart => exact ⟨m, a, 0, 1, rfl, rfl, rfl, rfl, Lib.hid (EInv.start h0 h1)⟩
  case round =>
    obtain ⟨r, n, x, o, rfl, rfl, rfl, rfl, HH⟩ := hrel
    have c1 := HH.out.r0
    have c2 := HH.out.r2
    have c3 := HH.out.n0
    have c4 := HH.out.n2
    have c5 := HH.out.x1
    have c6 := HH.out.x2
    have c7 := HH.out.o1
    have c8 := HH.out.o2
    by_cases hz : n = 0
    · subst hz
      obtain ⟨d1, d2⟩ := HH.out.done h2
      have D1 := Lib.hid d1
      have D2 := Lib.hid d2
      clear d1 d2
      by_cases hr : r = 1
      · subst hr
        go_wp2_with (go_at_call 175; refine (mod_any _ _ _ (by omega) (by omega)).mono ?_; rintro e w' ⟨rfl, rfl⟩)
        go_ret
        exact ⟨ret_int (D1.out trivial).1.symm, rfl⟩
      · have hr' : (r != 1) = true := by simp; omega
        have HR := Lib.hid hr
        clear hr
        go_wp2
        go_ret
        exact ⟨ret_int (invM_no (D2.out HR.out)).symm, rfl⟩
    · have hn : 0 < n := by omega
      have hz' : (n != 0) = true := by simp; omega
      have hz'' : (n == 0) = false := by simp; omega
      have s := HH.out.step hn
      have l := HH.out.less hn
      obtain ⟨p1, p2, p3, p4⟩ := HH.out.prods hn
      have q1 := s.n0
      have q2 := s.o1
      have q3 := s.o2
      have hq := Int.ediv_nonneg c1 c3
      have hq' : r / n ≤ r := Int.ediv_le_self _ c1 
      have SS := Lib.hid s
      clear s hz
      go_wp2
      go_round
      case rel => exact ⟨_, _, _, _, rfl, rfl, rfl, rfl, SS⟩
      case measure => simp [intOf]; omega

/-- what the reference's nInverse gives: the inverse and true, or some number and false -/
def NInv (a m : Int) (w : World) (e : Ending) (w' : World) : Prop :=
  ∃ y : Int, e = .returned (.tuple #[.int .i64 y, .bool (decide (Int.gcd m a = 1))]) ∧ (Int.gcd m a = 1 → y = invM a m) ∧ w = w'

set_option maxHeartbeats 400000 in
theorem nInverse_any (a m : Int) (w : World) (h0 : 0 ≤ a) (h1 : a < m) (h2 : 2 ≤ m) (hm : m ≤ 3000000000) :
    Calls Try.prog 134 #[.int .i64 a, .int .i64 m] w (NInv a m w) := by
  have ha : Hid (a % m = a) := Int.emod_eq_of_lt h0 h1
  go_enter Try.func134, Try.ntmps134
  go_wp2_with (go_at_call 112; refine (nMod_any _ _ _ (by omega) (by omega)).mono ?_; rintro e w' ⟨rfl, rfl⟩; rw [ha.out])
  go_loop [6, 7, 8, 9] (fun r n x o => ∃ r' n' x' o' : Int, r = .int .i64 r' ∧ n = .int .i64 n' ∧ x = .int .i64 x' ∧ o = .int .i64 o' ∧ Hid (EInv m a r' n' x' o')) (fun _ n _ _ => (intOf n).toNat)
  case atStart => exact ⟨a, m, 1, 0, rfl, rfl, rfl, rfl, Lib.hid (EInv.start' h0 h1)⟩
  case round =>
    clear ha
    obtain ⟨r, n, x, o, rfl, rfl, rfl, rfl, HH⟩ := hrel
    have c1 := HH.out.r0
    have c2 := HH.out.r2
    have c3 := HH.out.n0
    have c4 := HH.out.n2
    have c5 := HH.out.x1
    have c6 := HH.out.x2
    have c7 := HH.out.o1
    have c8 := HH.out.o2
    by_cases hz : n = 0
    · subst hz
      obtain ⟨d1, d2⟩ := HH.out.done h2
      have D1 := Lib.hid d1
      have D2 := Lib.hid d2
      clear d1 d2
      go_wp2_with (go_at_call 112; refine (nMod_any _ _ _ (by omega) (by omega)).mono ?_; rintro e w' ⟨rfl, rfl⟩)
      go_ret2
      refine ⟨x % m, ?_, ?_, rfl⟩
      · by_cases hr : r = 1
        · rw [decide_eq_true (D1.out hr).2.2]
          subst hr
          rfl
        · rw [decide_eq_false (D2.out hr)]
          have : (r == 1) = false := by simp; omega
          simp [this]
      · intro hg
        by_cases hr : r = 1
        · exact (D1.out hr).1.symm
        · exact absurd hg (D2.out hr)
    · have hn : 0 < n := by omega
      have hz' : (n != 0) = true := by simp; omega
      have hz'' : (n == 0) = false := by simp; omega
      have s := HH.out.step hn
      have l := HH.out.less hn
      obtain ⟨p1, p2, p3, p4⟩ := HH.out.prods hn
      have q1 := s.n0
      have q2 := s.o1
      have q3 := s.o2
      have hq := Int.ediv_nonneg c1 c3
      have hq' : r / n ≤ r := Int.ediv_le_self _ c1
      have SS := Lib.hid s
      clear s hz
      go_wp2
      go_round
      case rel => exact ⟨_, _, _, _, rfl, rfl, rfl, rfl, SS⟩
      case measure => simp [intOf]; omega
end Go.Proofs.Yteeggmnkcgpfjaa
