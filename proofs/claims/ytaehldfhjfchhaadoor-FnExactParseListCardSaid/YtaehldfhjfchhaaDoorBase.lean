/- Contracts of the smallest functions: bounds, residues, powers. -/
import Derived.Test.YtaehldfhjfchhaaDoorRows
import Derived.Test.YtaehldfhjfchhaaDoorNt
import Derived.WalkKit
import Derived.WalkSpells
import Derived.WalkLawsBesides
import Derived.Lib.Hide
namespace Go.Proofs.YtaehldfhjfchhaaDoor
open Go.RowKit

def inB (n lo hi : Int) : Bool := decide (lo ≤ n) && decide (n ≤ hi)
theorem inB_true {n lo hi : Int} (h : inB n lo hi = true) : lo ≤ n ∧ n ≤ hi := by simpa [inB] using h
theorem inB_false {n lo hi : Int} (h : inB n lo hi = false) : n < lo ∨ hi < n := by simp [inB] at h; omega
theorem inB_mk {n lo hi : Int} (h1 : lo ≤ n) (h2 : n ≤ hi) : inB n lo hi = true := by simp [inB, h1, h2]
theorem inB_no {n lo hi : Int} (h : n < lo ∨ hi < n) : inB n lo hi = false := by simp [inB]; omega
theorem ret_bool {a b : Bool} (h : a = b) : Ending.returned (.bool a) = .returned (.bool b) := by rw [h]
theorem ret_int {a b : Int} (h : a = b) : Ending.returned (.int .i64 a) = .returned (.int .i64 b) := by rw [h]

set_option maxHeartbeats 400000 in
theorem within_any (n lo hi : Int) (w : World) :
    Calls Tryd.prog 48 #[.int .i64 n, .int .i64 lo, .int .i64 hi] w fun e w' => e = .returned (.bool (inB n lo hi)) ∧ w = w' := by
  go_enter Tryd.func48, Tryd.ntmps48
  go_wp2
  · go_ret
    exact ⟨ret_bool (by have : lo ≤ n := by assumption
                        simp [inB, this]), rfl⟩
  · go_ret
    exact ⟨ret_bool (by have : n < lo := by assumption
                        simp [inB]; omega), rfl⟩

set_option maxHeartbeats 400000 in
theorem l1In_any (n lo hi : Int) (w : World) :
    Calls Tryd.prog 36 #[.int .i64 n, .int .i64 lo, .int .i64 hi] w fun e w' => e = .returned (.bool (inB n lo hi)) ∧ w = w' := by
  go_enter Tryd.func36, Tryd.ntmps36
  go_wp2
  · go_ret
    exact ⟨ret_bool (by have : lo ≤ n := by assumption
                        simp [inB, this]), rfl⟩
  · go_ret
    exact ⟨ret_bool (by have : n < lo := by assumption
                        simp [inB]; omega), rfl⟩

theorem tmod_bd (n m : Int) (h : 0 < m) : -m < n.tmod m ∧ n.tmod m < m := by
  have h1 := Int.lt_tmod_of_pos n h
  have h2 := Int.tmod_lt_of_pos n h
  exact ⟨h1, h2⟩
theorem tmod_emod (n m : Int) (h : 0 < m) : (n.tmod m + m) % m = n % m := by
  rw [Int.add_emod_right, Int.tmod_eq_emod]
  split
  · simp
  · rw [show (m.natAbs : Int) = m from by omega, Int.sub_emod_right, Int.emod_emod]

/-- a power of a residue -/
def pw (a e m : Int) : Int := ((a.toNat ^ e.toNat % m.toNat : Nat) : Int)

theorem pw_odd (o a e m : Nat) (h : e % 2 = 1) : (o * a % m) * (a * a % m) ^ (e / 2) % m = o * a ^ e % m := by
  have e1 : a ^ e = a * (a * a) ^ (e / 2) := by
    rw [← Nat.pow_two, ← Nat.pow_mul]
    conv => lhs; rw [← Nat.div_add_mod e 2, h, Nat.pow_succ, Nat.mul_comm]
  rw [Nat.mul_mod, ← Nat.pow_mod, Nat.mod_mod, ← Nat.mul_mod, e1, Nat.mul_assoc]
theorem pw_even (o a e m : Nat) (h : e % 2 = 0) : o * (a * a % m) ^ (e / 2) % m = o * a ^ e % m := by
  have e1 : a ^ e = (a * a) ^ (e / 2) := by
    rw [← Nat.pow_two, ← Nat.pow_mul]
    conv => lhs; rw [← Nat.div_add_mod e 2, h, Nat.add_zero]
  rw [Nat.mul_mod, ← Nat.pow_mod, ← Nat.mul_mod, e1]

theorem land_i64 (a b : Nat) (ha : a ≤ 9223372036854775807) (hb : b ≤ 9223372036854775807) : bits .and .i64 (a : Int) (b : Int) = ((a &&& b : Nat) : Int) := by
  have hx : a &&& b < 2 ^ 63 := Nat.and_lt_two_pow _ (by omega)
  have e : ∀ n : Nat, n ≤ 9223372036854775807 → (BitVec.ofInt 64 (n : Int)).toNat = n := by
    intro n hn
    rw [BitVec.ofInt_natCast, BitVec.toNat_ofNat, Nat.mod_eq_of_lt (by omega)]
  show IntKind.i64.wrap ((BitVec.ofInt 64 (a : Int) &&& BitVec.ofInt 64 (b : Int)).toNat : Int) = _
  rw [BitVec.toNat_and, e a ha, e b hb, IntKind.wrap_i64]
  omega
theorem and_one (f : Nat) (hf : f ≤ 9223372036854775807) : bits .and .i64 (f : Int) 1 = ((f % 2 : Nat) : Int) := by
  have := land_i64 f 1 hf (by omega)
  rw [Nat.and_one_is_mod] at this
  exact this

theorem mul_bd {a b m : Nat} (ha : a < m) (hb : b < m) (hm : m ≤ 3000000000) : 0 ≤ (a : Int) * (b : Int) ∧ (a : Int) * (b : Int) ≤ 9000000000000000000 := by
  have h1 : a * b ≤ 3000000000 * 3000000000 := Nat.mul_le_mul (by omega) (by omega)
  have h2 : ((a * b : Nat) : Int) = (a : Int) * (b : Int) := by simp
  omega

end Go.Proofs.YtaehldfhjfchhaaDoor
