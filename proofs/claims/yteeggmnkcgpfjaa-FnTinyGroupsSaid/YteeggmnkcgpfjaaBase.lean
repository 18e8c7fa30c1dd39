/- Contracts of the smallest functions: bounds, residues, powers. -/
import Derived.Test.YteeggmnkcgpfjaaRows
import Derived.Test.YteeggmnkcgpfjaaNt
import Derived.WalkKit
import Derived.WalkSpells
import Derived.WalkLawsBesides
import Derived.Lib.Hide
namespace Go.Proofs.Yteeggmnkcgpfjaa
open Go.RowKit

def inB (n lo hi : Int) : Bool := decide (lo ≤ n) && decide (n ≤ hi)
theorem inB_true {n lo hi : Int} (h : inB n lo hi = true) : lo ≤ n ∧ n ≤ hi := by simpa [inB] using h
theorem inB_false {n lo hi : Int} (h : inB n lo hi = false) : n < lo ∨ hi < n := by simp [inB] at h; omega
theorem inB_mk {n lo hi : Int} (h1 : lo ≤ n) (h2 : n ≤ hi) : inB n lo hi = true := by simp [inB, h1, h2]
theorem inB_no {n lo hi : Int} (h : n < lo ∨ hi < n) : inB n lo hi = false := by simp [inB]; omega
theorem ret_bool {a b : Bool} (h : a = b) : Ending.returned (.bool a) = .returned (.bool b) := by rw [h]
theorem ret_int {a b : Int} (h : a = b) : Ending.returned (.int .i64 a) = .returned (.int .i64 b) := by rw [h]

set_option maxHeartbeats 400000 in
theorem within_any (n lo hi : Int) (w : World) :
    Calls Try.prog 70 #[.int .i64 n, .int .i64 lo, .int .i64 hi] w fun e w' => e = .returned (.bool (inB n lo hi)) ∧ w = w' := by
  go_enter Try.func70, Try.ntmps70
  go_wp2
  · go_ret
    exact ⟨ret_bool (by have : lo ≤ n := by assumption
                        simp [inB, this]), rfl⟩
  · go_ret
    exact ⟨ret_bool (by have : n < lo := by assumption
                        simp [inB]; omega), rfl⟩

set_option maxHeartbeats 400000 in
theorem l1In_any (n lo hi : Int) (w : World) :
    Calls Try.prog 72 #[.int .i64 n, .int .i64 lo, .int .i64 hi] w fun e w' => e = .returned (.bool (inB n lo hi)) ∧ w = w' := by
  go_enter Try.func72, Try.ntmps72
  go_wp2
  · go_ret
    exact ⟨ret_bool (by have : lo ≤ n := by assumption
                        simp [inB, this]), rfl⟩
  · go_ret
    exact ⟨ret_bool (by have : n < lo := by assumption
                        simp [inB]; omega), rfl⟩

set_option maxHeartbeats 400000 in
theorem isModulus_any (m : Int) (w : World) :
    Calls Try.prog 118 #[.int .i64 m] w fun e w' => e = .returned (.bool (inB m 2 2000000000)) ∧ w = w' := by
  go_enter Try.func118, Try.ntmps118
  go_wp2_with (go_at_call 70; refine (within_any _ _ _ _).mono ?_; rintro e w' ⟨rfl, rfl⟩)
  go_ret
  exact ⟨rfl, rfl⟩

set_option maxHeartbeats 400000 in
theorem nModulus_any (m : Int) (w : World) :
    Calls Try.prog 189 #[.int .i64 m] w fun e w' => e = .returned (.bool (inB m 2 2000000000)) ∧ w = w' := by
  go_enter Try.func189, Try.ntmps189
  go_wp2_with (go_at_call 72; refine (l1In_any _ _ _ _).mono ?_; rintro e w' ⟨rfl, rfl⟩)
  go_ret
  exact ⟨rfl, rfl⟩

theorem tmod_bd (n m : Int) (h : 0 < m) : -m < n.tmod m ∧ n.tmod m < m := by
  have h1 := Int.lt_tmod_of_pos n h
  have h2 := Int.tmod_lt_of_pos n h
  exact ⟨h1, h2⟩
theorem tmod_emod (n m : Int) (h : 0 < m) : (n.tmod m + m) % m = n % m := by
  rw [Int.add_emod_right, Int.tmod_eq_emod]
  split
  · simp
  · rw [show (m.natAbs : Int) = m from by omega, Int.sub_emod_right, Int.emod_emod]

set_option maxHeartbeats 400000 in
theorem mod_any (n m : Int) (w : World) (h0 : 0 < m) (h1 : m ≤ 4000000000000) :
    Calls Try.prog 175 #[.int .i64 n, .int .i64 m] w fun e w' => e = .returned (.int .i64 (n % m)) ∧ w = w' := by
  have hb := tmod_bd n m h0
  have hb1 := hb.1
  have hb2 := hb.2
  clear hb
  have hne : (m == 0) = false := by simp; omega
  go_enter Try.func175, Try.ntmps175
  go_wp2
  go_ret
  exact ⟨ret_int (tmod_emod n m h0), rfl⟩

set_option maxHeartbeats 400000 in
theorem nMod_any (n m : Int) (w : World) (h0 : 0 < m) (h1 : m ≤ 4000000000000) :
    Calls Try.prog 112 #[.int .i64 n, .int .i64 m] w fun e w' => e = .returned (.int .i64 (n % m)) ∧ w = w' := by
  have hb := tmod_bd n m h0
  have hb1 := hb.1
  have hb2 := hb.2
  clear hb
  have hne : (m == 0) = false := by simp; omega
  go_enter Try.func112, Try.ntmps112
  go_wp2
  go_ret
  exact ⟨ret_int (tmod_emod n m h0), rfl⟩

/-- a power of a residue -/
def pw (a e m : Int) : Int := ((a.toNat ^ e.toNat % m.toNat : Nat) : Int)

theorem pw_odd (o a e m : Nat) (h : e % 2 = 1) : (o * a % m) * (a * a % m) ^ (e / 2) % m = o * a ^ e % m := by
  have e1 : a ^ e = a * (a * a) ^ (e / 2) := by
    rw [← Nat.pow_two, ← Nat.pow_mul]
    conv => lhs; rw [← Nat.div_add_mod e 2, h, Nat.pow_succ, Nat.mul_comm]
  rw [Nat.mul_mod, ← Nat.pow_mod, Nat.mod_mod, ← Nat.mul_mod, e1, Nat.mul_assoc]
theorem pw_even (o a e m : Nat) (h : e % 2 = 0) : o * (a * a % m) ^ (e / 2) % m = o * a ^ e % m := by
  have e1 : a ^ e = (a * a) ^ (e / 2) := by
    rw [← Nat.pow_two, ← Nat.pow_mul]
    conv => lhs; rw [← Nat.div_add_mod e 2, h, Nat.add_zero]
  rw [Nat.mul_mod, ← Nat.pow_mod, ← Nat.mul_mod, e1]

theorem land_i64 (a b : Nat) (ha : a ≤ 9223372036854775807) (hb : b ≤ 9223372036854775807) : bits .and .i64 (a : Int) (b : Int) = ((a &&& b : Nat) : Int) := by
  have hx : a &&& b < 2 ^ 63 := Nat.and_lt_two_pow _ (by omega)
  have e : ∀ n : Nat, n ≤ 9223372036854775807 → (BitVec.ofInt 64 (n : Int)).toNat = n := by
    intro n hn
    rw [BitVec.ofInt_natCast, BitVec.toNat_ofNat, Nat.mod_eq_of_lt (by omega)]
  show IntKind.i64.wrap ((BitVec.ofInt 64 (a : Int) &&& BitVec.ofInt 64 (b : Int)).toNat : Int) = _
  rw [BitVec.toNat_and, e a ha, e b hb, IntKind.wrap_i64]
  omega
theorem and_one (f : Nat) (hf : f ≤ 9223372036854775807) : bits .and .i64 (f : Int) 1 = ((f % 2 : Nat) : Int) := by
  have := land_i64 f 1 hf (by omega)
  rw [Nat.and_one_is_mod] at this
  exact this

theorem mul_bd {a b m : Nat} (ha : a < m) (hb : b < m) (hm : m ≤ 3000000000) : 0 ≤ (a : Int) * (b : Int) ∧ (a : Int) * (b : Int) ≤ 9000000000000000000 := by
  have h1 : a * b ≤ 3000000000 * 3000000000 := Nat.mul_le_mul (by omega) (by omega)
  have h2 : ((a * b : Nat) : Int) = (a : Int) * (b : Int) := by simp
  omega

set_option maxHeartbeats 400000 in
theorem nPower_any (a e m : Int) (w : World) (h0 : 0 ≤ a) (h1 : a < m) (hm : m ≤ 3000000000) (he : e ≤ 9223372036854775807) :
    Calls Try.prog 110 #[.int .i64 a, .int .i64 e, .int .i64 m] w fun e' w' => e' = .returned (.int .i64 (pw a e m)) ∧ w = w' := by
  obtain ⟨m, rfl⟩ := Int.eq_ofNat_of_zero_le (show 0 ≤ m by omega)
  obtain ⟨a, rfl⟩ := Int.eq_ofNat_of_zero_le h0
  have ha : a < m := by omega
  have hne : ((m : Int) == 0) = false := by simp; omega
  have hm1 : (1 : Int) ≤ m := by omega
  have hen : e.toNat ≤ 9223372036854775807 := by omega
  go_enter Try.func110, Try.ntmps110
  go_wp2
  go_loop [7, 0, 1] (fun o x y => ∃ (o' a' : Nat) (e' : Int), o' < m ∧ a' < m ∧ e' ≤ 9223372036854775807 ∧ o = .int .i64 o' ∧ x = .int .i64 a' ∧ y = .int .i64 e' ∧ Hid (((o' * a' ^ e'.toNat % m : Nat) : Int) = pw a e m)) (fun _ _ y => (intOf y).toNat)
  case atStart => exact ⟨1 % m, a, e, Nat.mod_lt _ (by omega), ha, he, by simp, rfl, rfl, Lib.hid (by simp only [pw, Int.toNat_natCast]; rw [Nat.mul_mod, Nat.mod_mod, ← Nat.mul_mod, Nat.one_mul])⟩
  case round =>
    obtain ⟨o', a', e', ho, ha', he', rfl, rfl, rfl, HH⟩ := hrel
    obtain ⟨b1, b2⟩ := mul_bd ho ha' (by omega)
    obtain ⟨b3, b4⟩ := mul_bd ha' ha' (by omega)
    by_cases hz : e' ≤ 0
    · go_wp2
      go_ret
      exact ⟨ret_int (by have hx := HH.out; rw [show e'.toNat = 0 from by omega, Nat.pow_zero, Nat.mul_one, Nat.mod_eq_of_lt ho] at hx; exact hx), rfl⟩
    · obtain ⟨f, rfl⟩ := Int.eq_ofNat_of_zero_le (show 0 ≤ e' by omega)
      have hfz : 0 < f := by omega
      clear hz
      by_cases hodd : f % 2 = 1
      · go_wp2
        go_round
        case rel => exact ⟨o' * a' % m, a' * a' % m, ((f / 2 : Nat) : Int), Nat.mod_lt _ (by omega), Nat.mod_lt _ (by omega), by omega, by simp, by simp, by simp, Lib.hid (by rw [← HH.out, Int.toNat_natCast, Int.toNat_natCast, pw_odd _ _ _ _ hodd])⟩
        case measure => simp [intOf]; omega
      · go_wp2
        go_round
        case rel => exact ⟨o', a' * a' % m, ((f / 2 : Nat) : Int), ho, Nat.mod_lt _ (by omega), by omega, by simp, by simp, by simp, Lib.hid (by rw [← HH.out, Int.toNat_natCast, Int.toNat_natCast, pw_even _ _ _ _ (by omega)])⟩
        case measure => simp [intOf]; omega

set_option maxHeartbeats 400000 in
theorem power_any (a e m : Int) (w : World) (h0 : 0 ≤ a) (h1 : a < m) (hm : m ≤ 3000000000) (he : e ≤ 9223372036854775807) :
    Calls Try.prog 71 #[.int .i64 a, .int .i64 e, .int .i64 m] w fun e' w' => e' = .returned (.int .i64 (pw a e m)) ∧ w = w' := by
  obtain ⟨m, rfl⟩ := Int.eq_ofNat_of_zero_le (show 0 ≤ m by omega)
  obtain ⟨a, rfl⟩ := Int.eq_ofNat_of_zero_le h0
  have ha : a < m := by omega
  have hne : ((m : Int) == 0) = false := by simp; omega
  have hm1 : (1 : Int) ≤ m := by omega
  have hen : e.toNat ≤ 9223372036854775807 := by omega
  go_enter Try.func71, Try.ntmps71
  go_wp2
  go_loop [7, 0, 1] (fun o x y => ∃ (o' a' : Nat) (e' : Int), o' < m ∧ a' < m ∧ e' ≤ 9223372036854775807 ∧ o = .int .i64 o' ∧ x = .int .i64 a' ∧ y = .int .i64 e' ∧ Hid (((o' * a' ^ e'.toNat % m : Nat) : Int) = pw a e m)) (fun _ _ y => (intOf y).toNat)
  case atStart => exact ⟨1 % m, a, e, Nat.mod_lt _ (by omega), ha, he, by simp, rfl, rfl, Lib.hid (by simp only [pw, Int.toNat_natCast]; rw [Nat.mul_mod, Nat.mod_mod, ← Nat.mul_mod, Nat.one_mul])⟩
  case round =>
    obtain ⟨o', a', e', ho, ha', he', rfl, rfl, rfl, HH⟩ := hrel
    obtain ⟨b1, b2⟩ := mul_bd ho ha' (by omega)
    obtain ⟨b3, b4⟩ := mul_bd ha' ha' (by omega)
    by_cases hz : e' ≤ 0
    · go_wp2
      go_ret
      exact ⟨ret_int (by have hx := HH.out; rw [show e'.toNat = 0 from by omega, Nat.pow_zero, Nat.mul_one, Nat.mod_eq_of_lt ho] at hx; exact hx), rfl⟩
    · obtain ⟨f, rfl⟩ := Int.eq_ofNat_of_zero_le (show 0 ≤ e' by omega)
      have hfz : 0 < f := by omega
      clear hz
      by_cases hodd : f % 2 = 1
      · have hb : (bits .and .i64 (f : Int) 1 == 1) = true := by rw [and_one f (by omega), hodd]; rfl
        go_wp2
        go_round
        case rel => exact ⟨o' * a' % m, a' * a' % m, ((f / 2 : Nat) : Int), Nat.mod_lt _ (by omega), Nat.mod_lt _ (by omega), by omega, by simp, by simp, by simp, Lib.hid (by rw [← HH.out, Int.toNat_natCast, Int.toNat_natCast, pw_odd _ _ _ _ hodd])⟩
        case measure => simp [intOf]; omega
      · have hb : (bits .and .i64 (f : Int) 1 == 1) = false := by rw [and_one f (by omega), show f % 2 = 0 from by omega]; rfl
        go_wp2
        go_round
        case rel => exact ⟨o', a' * a' % m, ((f / 2 : Nat) : Int), ho, Nat.mod_lt _ (by omega), by omega, by simp, by simp, by simp, Lib.hid (by rw [← HH.out, Int.toNat_natCast, Int.toNat_natCast, pw_even _ _ _ _ (by omega)])⟩
        case measure => simp [intOf]; omega

end Go.Proofs.Yteeggmnkcgpfjaa
