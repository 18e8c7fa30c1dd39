/- Contracts of the primality tests. -/
import Derived.Test.YteeggmnkcgpfjaaBase
namespace Go.Proofs.Yteeggmnkcgpfjaa
open Go.RowKit

/-- is n a prime? -/
def primeB (n : Int) : Bool := decide (2 ≤ n) && (List.range n.toNat).all fun d => decide (d < 2) || !(n.toNat % d == 0)
theorem primeB_iff (n : Int) : primeB n = true ↔ NT.Pr n.toNat := by
  unfold primeB NT.Pr
  simp only [Bool.and_eq_true, decide_eq_true_eq, List.all_eq_true, List.mem_range, Bool.or_eq_true, Bool.not_eq_true', beq_eq_false_iff_ne]
  constructor
  · rintro ⟨h1, h2⟩
    refine ⟨by omega, fun d hd hlt hdv => ?_⟩
    rcases h2 d hlt with h3 | h3
    · omega
    · exact h3 (Nat.mod_eq_zero_of_dvd hdv)
  · rintro ⟨h1, h2⟩
    refine ⟨by omega, fun d hlt => ?_⟩
    rcases Nat.lt_or_ge d 2 with h3 | h3
    · exact .inl h3
    · exact .inr fun h0 => h2 d h3 hlt (Nat.dvd_of_mod_eq_zero h0)
theorem primeB_true {n : Int} (h2 : 2 ≤ n) (h : ∀ d : Nat, 2 ≤ d → d * d ≤ n.toNat → n.toNat % d ≠ 0) : primeB n = true :=
  (primeB_iff n).2 ((NT.pr_iff _).2 ⟨by omega, h⟩)
theorem primeB_no {n : Int} (d : Nat) (h2 : 2 ≤ d) (hd : d * d ≤ n.toNat) (h : n.toNat % d = 0) : primeB n = false := by
  rw [Bool.eq_false_iff]
  intro hp
  exact ((NT.pr_iff _).1 ((primeB_iff n).1 hp)).2 d h2 hd h
theorem primeB_small {n : Int} (h : n < 2) : primeB n = false := by
  unfold primeB
  rw [decide_eq_false (by omega)]
  rfl

theorem primeB_two : primeB 2 = true := by decide

theorem sq_small {d n : Nat} (h : d * d ≤ n) (hn : n ≤ 2000000000) : d ≤ 44721 := by
  rcases Nat.lt_or_ge 44721 d with h1 | h1
  · have : 44722 * 44722 ≤ d * d := Nat.mul_le_mul h1 h1
    omega
  · exact h1
theorem sq_bd {d : Nat} (h : d ≤ 50000) : 0 ≤ (d : Int) * (d : Int) ∧ (d : Int) * (d : Int) ≤ 2500000000 := by
  have h1 : d * d ≤ 50000 * 50000 := Nat.mul_le_mul h h
  have h2 : ((d * d : Nat) : Int) = (d : Int) * (d : Int) := by simp
  omega
theorem sq_cast (d n : Nat) : ((d : Int) * (d : Int) ≤ (n : Int)) ↔ d * d ≤ n := by
  rw [← Int.natCast_mul]
  omega

set_option maxHeartbeats 400000 in
theorem nPrime_any (n : Int) (w : World) (hn : n ≤ 2000000000) :
    Calls Try.prog 111 #[.int .i64 n] w fun e w' => e = .returned (.bool (primeB n)) ∧ w = w' := by
  by_cases h2 : n < 2
  · go_enter Try.func111, Try.ntmps111
    go_wp2
    go_ret
    exact ⟨ret_bool (primeB_small h2).symm, rfl⟩
  · obtain ⟨n, rfl⟩ := Int.eq_ofNat_of_zero_le (show 0 ≤ n by omega)
    go_enter Try.func111, Try.ntmps111
    go_wp2
    go_loop [3] (fun x => ∃ d : Nat, 2 ≤ d ∧ d ≤ 50000 ∧ x = .int .i64 d ∧ Hid (∀ c : Nat, 2 ≤ c → c < d → n % c ≠ 0)) (fun x => (50000 - intOf x).toNat)
    case atStart => exact ⟨2, by omega, by omega, rfl, Lib.hid (fun c h1 h3 => by omega)⟩
    case round =>
      obtain ⟨d, hd, hd', rfl, HH⟩ := hrel
      obtain ⟨b1, b2⟩ := sq_bd hd'
      by_cases hle : (d : Int) * (d : Int) ≤ (n : Int)
      · have hs := sq_small ((sq_cast d n).1 hle) (by omega)
        by_cases hm : n % d = 0
        · have hm' : (((n : Int) % (d : Int)) == 0) = true := by rw [beq_iff_eq, ← Int.natCast_emod, hm]; rfl
          go_wp2
          go_ret
          exact ⟨ret_bool (primeB_no d hd (by simpa using (sq_cast d n).1 hle) (by simpa using hm)).symm, rfl⟩
        · have hm' : (((n : Int) % (d : Int)) == 0) = false := by rw [beq_eq_false_iff_ne, ← Int.natCast_emod]; omega
          have HM := Lib.hid hm
          clear hm
          go_wp2
          go_round
          case rel => exact ⟨d + 1, by omega, by omega, by go_num, Lib.hid (fun c h1 h3 => by
            rcases Nat.lt_or_ge c d with h4 | h4
            · exact HH.out c h1 h4
            · rw [show c = d from by omega]; exact HM.out)⟩
          case measure => simp [intOf]; omega
      · go_wp2
        go_ret
        exact ⟨ret_bool (primeB_true (by omega) (by
          intro c h1 h3
          refine HH.out c h1 ?_
          rcases Nat.lt_or_ge c d with h4 | h4
          · exact h4
          · have := Nat.mul_le_mul h4 h4
            rw [← Int.natCast_mul] at hle
            simp at h3
            omega)).symm, rfl⟩

theorem odd_step {n d c : Nat} (hodd : n % 2 = 1) (h : ∀ c, 2 ≤ c → c < d → n % c ≠ 0) (hd : d % 2 = 1) (hm : n % d ≠ 0) (h1 : 2 ≤ c) (h3 : c < d + 2) : n % c ≠ 0 := by
  rcases Nat.lt_or_ge c d with h4 | h4
  · exact h c h1 h4
  · rcases Nat.eq_or_lt_of_le h4 with h5 | h5
    · rw [← h5]; exact hm
    · intro h0
      have e : c = d + 1 := by omega
      obtain ⟨k, hk⟩ := Nat.dvd_of_mod_eq_zero h0
      obtain ⟨j, hj⟩ : ∃ j, c = 2 * j := ⟨c / 2, by omega⟩
      rw [hj, Nat.mul_assoc] at hk
      omega

set_option maxHeartbeats 400000 in
theorem isPrime_any (n : Int) (w : World) :
    Calls Try.prog 74 #[.int .i64 n] w fun e w' => e = .returned (.bool (inB n 2 2000000000 && primeB n)) ∧ w = w' := by
  cases hb : inB n 2 2000000000
  · go_enter Try.func74, Try.ntmps74
    go_wp2_with (go_at_call 118; refine (isModulus_any _ _).mono ?_; rintro e w' ⟨rfl, rfl⟩)
    go_ret
    exact ⟨ret_bool (by simp), rfl⟩
  · obtain ⟨h2, hn⟩ := inB_true hb
    obtain ⟨n, rfl⟩ := Int.eq_ofNat_of_zero_le (show 0 ≤ n by omega)
    by_cases he : n % 2 = 0
    · have he' : (((n : Int) % 2) == 0) = true := by rw [beq_iff_eq]; omega
      by_cases h22 : n = 2
      · have h22' : ((n : Int) != 2) = false := by simp; omega
        subst h22
        go_enter Try.func74, Try.ntmps74
        go_wp2_with (go_at_call 118; refine (isModulus_any _ _).mono ?_; rintro e w' ⟨rfl, rfl⟩)
        go_loop [3] (fun x => x = .int .i64 3) (fun _ => 0)
        case atStart => exact rfl
        case round =>
          subst hrel
          go_wp2
          go_ret
          exact ⟨ret_bool primeB_two.symm, rfl⟩
      · have h22' : ((n : Int) != 2) = true := by simp; omega
        go_enter Try.func74, Try.ntmps74
        go_wp2_with (go_at_call 118; refine (isModulus_any _ _).mono ?_; rintro e w' ⟨rfl, rfl⟩)
        go_ret
        exact ⟨ret_bool (by rw [primeB_no 2 (by omega) (by simp; omega) (by simpa using he)]; rfl), rfl⟩
    · have he' : (((n : Int) % 2) == 0) = false := by rw [beq_eq_false_iff_ne]; omega
      go_enter Try.func74, Try.ntmps74
      go_wp2_with (go_at_call 118; refine (isModulus_any _ _).mono ?_; rintro e w' ⟨rfl, rfl⟩)
      go_loop [3] (fun x => ∃ d : Nat, 3 ≤ d ∧ d ≤ 50000 ∧ Hid (d % 2 = 1) ∧ x = .int .i64 d ∧ Hid (∀ c : Nat, 2 ≤ c → c < d → n % c ≠ 0)) (fun x => (50000 - intOf x).toNat)
      case atStart => exact ⟨3, by omega, by omega, Lib.hid rfl, rfl, Lib.hid (fun c h1 h3 => by rw [show c = 2 from by omega]; omega)⟩
      case round =>
        obtain ⟨d, hd, hd', HO, rfl, HH⟩ := hrel
        obtain ⟨b1, b2⟩ := sq_bd hd'
        by_cases hle : (d : Int) * (d : Int) ≤ (n : Int)
        · have hs := sq_small ((sq_cast d n).1 hle) (by omega)
          by_cases hm : n % d = 0
          · have hm' : (((n : Int) % (d : Int)) == 0) = true := by rw [beq_iff_eq, ← Int.natCast_emod, hm]; rfl
            go_wp2
            go_ret
            exact ⟨ret_bool (by rw [primeB_no d (by omega) (by simpa using (sq_cast d n).1 hle) (by simpa using hm)]), rfl⟩
          · have hm' : (((n : Int) % (d : Int)) == 0) = false := by rw [beq_eq_false_iff_ne, ← Int.natCast_emod]; omega
            have HM := Lib.hid hm
            clear hm
            go_wp2
            go_round
            case rel => exact ⟨d + 2, by omega, by omega, Lib.hid (by have := HO.out; omega), by go_num, Lib.hid (fun c h1 h3 => odd_step (by omega) HH.out HO.out HM.out h1 h3)⟩
            case measure => simp [intOf]; omega
        · go_wp2
          go_ret
          exact ⟨ret_bool (by
            rw [primeB_true (by omega) (by
              intro c h1 h3
              refine HH.out c h1 ?_
              rcases Nat.lt_or_ge c d with h4 | h4
              · exact h4
              · have := Nat.mul_le_mul h4 h4
                rw [← Int.natCast_mul] at hle
                simp at h3
                omega)]), rfl⟩
end Go.Proofs.Yteeggmnkcgpfjaa
