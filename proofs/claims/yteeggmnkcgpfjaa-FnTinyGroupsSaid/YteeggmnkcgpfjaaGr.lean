/- Contracts: groups and their elements. -/
import Derived.Test.YteeggmnkcgpfjaaSl
import Derived.Test.YteeggmnkcgpfjaaPrime
namespace Go.Proofs.Yteeggmnkcgpfjaa
open Go.RowKit
set_option linter.unusedVariables false

/-- a valid group -/
def goodB (p q g : Int) : Bool := inB p 3 2000000000 && inB q 2 (p - 1) && ((p - 1) % q == 0) && inB g 2 (p - 1) && primeB p && primeB q && (pw g q p == 1)
/-- an element -/
def hasB (p q x : Int) : Bool := inB x 1 (p - 1) && (pw x q p == 1)
structure Good (p q g : Int) : Prop where
  p1 : 3 ≤ p
  p2 : p ≤ 2000000000
  q1 : 2 ≤ q
  q2 : q ≤ p - 1
  d : (p - 1) % q = 0
  g1 : 2 ≤ g
  g2 : g ≤ p - 1
  pp : primeB p = true
  pq : primeB q = true
  o : pw g q p = 1
theorem good_of {p q g : Int} (h : goodB p q g = true) : Good p q g := by
  simp only [goodB, Bool.and_eq_true, beq_iff_eq] at h
  obtain ⟨⟨⟨⟨⟨⟨h1, h2⟩, h3⟩, h4⟩, h5⟩, h6⟩, h7⟩ := h
  have := inB_true h1
  have := inB_true h2
  have := inB_true h4
  exact ⟨by omega, by omega, by omega, by omega, h3, by omega, by omega, h5, h6, h7⟩

set_option maxHeartbeats 400000 in
theorem toGroup_any (p q g : Int) (w : World) :
    Calls Try.prog 15 #[.agg #[.int .i64 p, .int .i64 q, .int .i64 g]] w fun e w' => e = .returned (.agg #[.int .i64 p, .int .i64 q, .int .i64 g]) ∧ Below w.heap.size w w' := by
  go_enter Try.func15, Try.ntmps15
  go_wp2
  refine bodyPost_ret (v := .agg #[.int .i64 p, .int .i64 q, .int .i64 g]) (by simp [results, Try.results15, go_sem]) rfl ⟨rfl, ?_⟩
  exact (by repeat (first | exact Below.refl _ _ | assumption | refine belA ?_ | refine belD ?_ | refine belN ?_ | refine belS ?_ (by simp) | refine belT ?_ (by assumption)))

set_option maxHeartbeats 800000 in
theorem l2Good_any (p q g : Int) (w : World) :
    Calls Try.prog 60 #[.agg #[.int .i64 p, .int .i64 q, .int .i64 g]] w fun e w' => e = .returned (.bool (goodB p q g)) ∧ Below w.heap.size w w' := by
  cases h1 : inB p 3 2000000000
  · go_enter Try.func60, Try.ntmps60
    go_wp2_with (first | (go_at_call 72; refine (l1In_any _ _ _ _).mono ?_; rintro e w' ⟨rfl, rfl⟩) | (go_at_call 110; refine (nPower_any _ _ _ _ (by omega) (by omega) (by omega) (by omega)).mono ?_; rintro e w' ⟨rfl, rfl⟩) | (go_at_call 111; refine (nPrime_any _ _ (by omega)).mono ?_; rintro e w' ⟨rfl, rfl⟩))
    go_ret
    exact ⟨ret_bool (by simp [goodB, h1]), (by repeat (first | exact Below.refl _ _ | assumption | refine belA ?_ | refine belD ?_ | refine belN ?_ | refine belS ?_ (by simp) | refine belT ?_ (by assumption)))⟩
  obtain ⟨p1, p2⟩ := inB_true h1
  cases h2 : inB q 2 (p - 1)
  · go_enter Try.func60, Try.ntmps60
    go_wp2_with (first | (go_at_call 72; refine (l1In_any _ _ _ _).mono ?_; rintro e w' ⟨rfl, rfl⟩) | (go_at_call 110; refine (nPower_any _ _ _ _ (by omega) (by omega) (by omega) (by omega)).mono ?_; rintro e w' ⟨rfl, rfl⟩) | (go_at_call 111; refine (nPrime_any _ _ (by omega)).mono ?_; rintro e w' ⟨rfl, rfl⟩))
    go_ret
    exact ⟨ret_bool (by simp [goodB, h2]), (by repeat (first | exact Below.refl _ _ | assumption | refine belA ?_ | refine belD ?_ | refine belN ?_ | refine belS ?_ (by simp) | refine belT ?_ (by assumption)))⟩
  obtain ⟨q1, q2⟩ := inB_true h2
  cases h3 : ((p - 1) % q == 0)
  · go_enter Try.func60, Try.ntmps60
    go_wp2_with (first | (go_at_call 72; refine (l1In_any _ _ _ _).mono ?_; rintro e w' ⟨rfl, rfl⟩) | (go_at_call 110; refine (nPower_any _ _ _ _ (by omega) (by omega) (by omega) (by omega)).mono ?_; rintro e w' ⟨rfl, rfl⟩) | (go_at_call 111; refine (nPrime_any _ _ (by omega)).mono ?_; rintro e w' ⟨rfl, rfl⟩))
    go_ret
    exact ⟨ret_bool (by simp [goodB, h3]), (by repeat (first | exact Below.refl _ _ | assumption | refine belA ?_ | refine belD ?_ | refine belN ?_ | refine belS ?_ (by simp) | refine belT ?_ (by assumption)))⟩
  cases h4 : inB g 2 (p - 1)
  · go_enter Try.func60, Try.ntmps60
    go_wp2_with (first | (go_at_call 72; refine (l1In_any _ _ _ _).mono ?_; rintro e w' ⟨rfl, rfl⟩) | (go_at_call 110; refine (nPower_any _ _ _ _ (by omega) (by omega) (by omega) (by omega)).mono ?_; rintro e w' ⟨rfl, rfl⟩) | (go_at_call 111; refine (nPrime_any _ _ (by omega)).mono ?_; rintro e w' ⟨rfl, rfl⟩))
    go_ret
    exact ⟨ret_bool (by simp [goodB, h4]), (by repeat (first | exact Below.refl _ _ | assumption | refine belA ?_ | refine belD ?_ | refine belN ?_ | refine belS ?_ (by simp) | refine belT ?_ (by assumption)))⟩
  obtain ⟨g1, g2⟩ := inB_true h4
  cases h5 : (pw g q p == 1)
  · go_enter Try.func60, Try.ntmps60
    go_wp2_with (first | (go_at_call 72; refine (l1In_any _ _ _ _).mono ?_; rintro e w' ⟨rfl, rfl⟩) | (go_at_call 110; refine (nPower_any _ _ _ _ (by omega) (by omega) (by omega) (by omega)).mono ?_; rintro e w' ⟨rfl, rfl⟩) | (go_at_call 111; refine (nPrime_any _ _ (by omega)).mono ?_; rintro e w' ⟨rfl, rfl⟩))
    go_ret
    exact ⟨ret_bool (by simp [goodB, h5]), (by repeat (first | exact Below.refl _ _ | assumption | refine belA ?_ | refine belD ?_ | refine belN ?_ | refine belS ?_ (by simp) | refine belT ?_ (by assumption)))⟩
  cases h6 : primeB q
  · go_enter Try.func60, Try.ntmps60
    go_wp2_with (first | (go_at_call 72; refine (l1In_any _ _ _ _).mono ?_; rintro e w' ⟨rfl, rfl⟩) | (go_at_call 110; refine (nPower_any _ _ _ _ (by omega) (by omega) (by omega) (by omega)).mono ?_; rintro e w' ⟨rfl, rfl⟩) | (go_at_call 111; refine (nPrime_any _ _ (by omega)).mono ?_; rintro e w' ⟨rfl, rfl⟩))
    go_ret
    exact ⟨ret_bool (by simp [goodB, h6]), (by repeat (first | exact Below.refl _ _ | assumption | refine belA ?_ | refine belD ?_ | refine belN ?_ | refine belS ?_ (by simp) | refine belT ?_ (by assumption)))⟩
  go_enter Try.func60, Try.ntmps60
  go_wp2_with (first | (go_at_call 72; refine (l1In_any _ _ _ _).mono ?_; rintro e w' ⟨rfl, rfl⟩) | (go_at_call 110; refine (nPower_any _ _ _ _ (by omega) (by omega) (by omega) (by omega)).mono ?_; rintro e w' ⟨rfl, rfl⟩) | (go_at_call 111; refine (nPrime_any _ _ (by omega)).mono ?_; rintro e w' ⟨rfl, rfl⟩))
  go_ret
  exact ⟨ret_bool (by simp [goodB, h1, h2, h3, h4, h5, h6]), (by repeat (first | exact Below.refl _ _ | assumption | refine belA ?_ | refine belD ?_ | refine belN ?_ | refine belS ?_ (by simp) | refine belT ?_ (by assumption)))⟩

set_option maxHeartbeats 800000 in
theorem IsValidGroup_any (p q g : Int) (w : World) :
    Calls Try.prog 25 #[.agg #[.int .i64 p, .int .i64 q, .int .i64 g]] w fun e w' => e = .returned (.bool (goodB p q g)) ∧ Below w.heap.size w w' := by
  cases h1 : inB p 3 2000000000
  · go_enter Try.func25, Try.ntmps25
    go_wp2_with (first | (go_at_call 70; refine (within_any _ _ _ _).mono ?_; rintro e w' ⟨rfl, rfl⟩) | (go_at_call 71; refine (power_any _ _ _ _ (by omega) (by omega) (by omega) (by omega)).mono ?_; rintro e w' ⟨rfl, rfl⟩) | (go_at_call 74; refine (isPrime_any _ _).mono ?_; rintro e w' ⟨rfl, rfl⟩))
    go_ret
    exact ⟨ret_bool (by simp [goodB, h1]), (by repeat (first | exact Below.refl _ _ | assumption | refine belA ?_ | refine belD ?_ | refine belN ?_ | refine belS ?_ (by simp) | refine belT ?_ (by assumption)))⟩
  obtain ⟨p1, p2⟩ := inB_true h1
  have m1 := inB_mk (show 2 ≤ p by omega) p2
  cases h2 : inB q 2 (p - 1)
  · go_enter Try.func25, Try.ntmps25
    go_wp2_with (first | (go_at_call 70; refine (within_any _ _ _ _).mono ?_; rintro e w' ⟨rfl, rfl⟩) | (go_at_call 71; refine (power_any _ _ _ _ (by omega) (by omega) (by omega) (by omega)).mono ?_; rintro e w' ⟨rfl, rfl⟩) | (go_at_call 74; refine (isPrime_any _ _).mono ?_; rintro e w' ⟨rfl, rfl⟩))
    go_ret
    exact ⟨ret_bool (by simp [goodB, h2]), (by repeat (first | exact Below.refl _ _ | assumption | refine belA ?_ | refine belD ?_ | refine belN ?_ | refine belS ?_ (by simp) | refine belT ?_ (by assumption)))⟩
  obtain ⟨q1, q2⟩ := inB_true h2
  have m2 := inB_mk q1 (show q ≤ 2000000000 by omega)
  cases h3 : ((p - 1) % q == 0)
  · go_enter Try.func25, Try.ntmps25
    go_wp2_with (first | (go_at_call 70; refine (within_any _ _ _ _).mono ?_; rintro e w' ⟨rfl, rfl⟩) | (go_at_call 71; refine (power_any _ _ _ _ (by omega) (by omega) (by omega) (by omega)).mono ?_; rintro e w' ⟨rfl, rfl⟩) | (go_at_call 74; refine (isPrime_any _ _).mono ?_; rintro e w' ⟨rfl, rfl⟩))
    go_ret
    exact ⟨ret_bool (by simp [goodB, h3]), (by repeat (first | exact Below.refl _ _ | assumption | refine belA ?_ | refine belD ?_ | refine belN ?_ | refine belS ?_ (by simp) | refine belT ?_ (by assumption)))⟩
  cases h4 : inB g 2 (p - 1)
  · go_enter Try.func25, Try.ntmps25
    go_wp2_with (first | (go_at_call 70; refine (within_any _ _ _ _).mono ?_; rintro e w' ⟨rfl, rfl⟩) | (go_at_call 71; refine (power_any _ _ _ _ (by omega) (by omega) (by omega) (by omega)).mono ?_; rintro e w' ⟨rfl, rfl⟩) | (go_at_call 74; refine (isPrime_any _ _).mono ?_; rintro e w' ⟨rfl, rfl⟩))
    go_ret
    exact ⟨ret_bool (by simp [goodB, h4]), (by repeat (first | exact Below.refl _ _ | assumption | refine belA ?_ | refine belD ?_ | refine belN ?_ | refine belS ?_ (by simp) | refine belT ?_ (by assumption)))⟩
  obtain ⟨g1, g2⟩ := inB_true h4
  cases h5 : primeB p
  · go_enter Try.func25, Try.ntmps25
    go_wp2_with (first | (go_at_call 70; refine (within_any _ _ _ _).mono ?_; rintro e w' ⟨rfl, rfl⟩) | (go_at_call 71; refine (power_any _ _ _ _ (by omega) (by omega) (by omega) (by omega)).mono ?_; rintro e w' ⟨rfl, rfl⟩) | (go_at_call 74; refine (isPrime_any _ _).mono ?_; rintro e w' ⟨rfl, rfl⟩))
    go_ret
    exact ⟨ret_bool (by simp [goodB, h5]), (by repeat (first | exact Below.refl _ _ | assumption | refine belA ?_ | refine belD ?_ | refine belN ?_ | refine belS ?_ (by simp) | refine belT ?_ (by assumption)))⟩
  cases h6 : primeB q
  · go_enter Try.func25, Try.ntmps25
    go_wp2_with (first | (go_at_call 70; refine (within_any _ _ _ _).mono ?_; rintro e w' ⟨rfl, rfl⟩) | (go_at_call 71; refine (power_any _ _ _ _ (by omega) (by omega) (by omega) (by omega)).mono ?_; rintro e w' ⟨rfl, rfl⟩) | (go_at_call 74; refine (isPrime_any _ _).mono ?_; rintro e w' ⟨rfl, rfl⟩))
    go_ret
    exact ⟨ret_bool (by simp [goodB, h6]), (by repeat (first | exact Below.refl _ _ | assumption | refine belA ?_ | refine belD ?_ | refine belN ?_ | refine belS ?_ (by simp) | refine belT ?_ (by assumption)))⟩
  go_enter Try.func25, Try.ntmps25
  go_wp2_with (first | (go_at_call 70; refine (within_any _ _ _ _).mono ?_; rintro e w' ⟨rfl, rfl⟩) | (go_at_call 71; refine (power_any _ _ _ _ (by omega) (by omega) (by omega) (by omega)).mono ?_; rintro e w' ⟨rfl, rfl⟩) | (go_at_call 74; refine (isPrime_any _ _).mono ?_; rintro e w' ⟨rfl, rfl⟩))
  go_ret
  exact ⟨ret_bool (by simp [goodB, h1, h2, h3, h4, h5, h6]), (by repeat (first | exact Below.refl _ _ | assumption | refine belA ?_ | refine belD ?_ | refine belN ?_ | refine belS ?_ (by simp) | refine belT ?_ (by assumption)))⟩

set_option maxHeartbeats 400000 in
theorem has_any (p q g x : Int) (w : World) (p1 : 3 ≤ p) (p2 : p ≤ 2000000000) (q1 : 2 ≤ q) (q2 : q ≤ p - 1) :
    Calls Try.prog 75 #[.agg #[.int .i64 p, .int .i64 q, .int .i64 g], .int .i64 x] w fun e w' => e = .returned (.bool (hasB p q x)) ∧ Below w.heap.size w w' := by
  cases h1 : inB x 1 (p - 1)
  · go_enter Try.func75, Try.ntmps75
    go_wp2_with (first | (go_at_call 70; refine (within_any _ _ _ _).mono ?_; rintro e w' ⟨rfl, rfl⟩))
    go_ret
    exact ⟨ret_bool (by simp [hasB, h1]), (by repeat (first | exact Below.refl _ _ | assumption | refine belA ?_ | refine belD ?_ | refine belN ?_ | refine belS ?_ (by simp) | refine belT ?_ (by assumption)))⟩
  obtain ⟨x1, x2⟩ := inB_true h1
  go_enter Try.func75, Try.ntmps75
  go_wp2_with (first | (go_at_call 70; refine (within_any _ _ _ _).mono ?_; rintro e w' ⟨rfl, rfl⟩) | (go_at_call 71; refine (power_any _ _ _ _ (by omega) (by omega) (by omega) (by omega)).mono ?_; rintro e w' ⟨rfl, rfl⟩))
  go_ret
  exact ⟨ret_bool (by simp [hasB, h1]), (by repeat (first | exact Below.refl _ _ | assumption | refine belA ?_ | refine belD ?_ | refine belN ?_ | refine belS ?_ (by simp) | refine belT ?_ (by assumption)))⟩

set_option maxHeartbeats 800000 in
theorem gIs_any (p q g : Int) (A : Option Addr) (n c : Nat) (zs : List Int) (w : World) (h : Ints w A n zs) (p1 : 3 ≤ p) (p2 : p ≤ 2000000000) (q1 : 2 ≤ q) (q2 : q ≤ p - 1) :
    Calls Try.prog 125 #[.agg #[.int .i64 p, .int .i64 q, .int .i64 g], .slice A n c] w fun e w' => e = .returned (.bool (zs.all (hasB p q))) ∧ Below w.heap.size w w' := by
  have hn := h.le
  have hb0 : Below w.heap.size w (w.alloc (.cells #[.int .i64 p, .int .i64 q, .int .i64 g] 27)) := belA (Below.refl _ _)
  have HI := Lib.hid (h.below hb0)
  clear h
  go_enter Try.func125, Try.ntmps125
  go_wp2
  go_loop [9] (fun i => ∃ k : Nat, k ≤ n ∧ i = .int .i64 k ∧ Hid (∀ j, j < k → hasB p q (zs.getD j 0) = true)) (fun i => n - (intOf i).toNat)
  case atStart => exact ⟨0, by omega, rfl, Lib.hid fun j hj => absurd hj (by omega)⟩
  case round =>
    obtain ⟨k, hk, rfl, HK⟩ := hrel
    by_cases hlt : k < n
    · obtain ⟨b, off, rfl, hb, hc⟩ := HI.out.at_ hlt
      generalize hz : zs.getD k 0 = z at hc
      have HZ := Lib.hid hz
      clear hz
      cases h1 : inB z 1 (p - 1)
      · go_wp2_with (first | (go_at_call 72; refine (l1In_any _ _ _ _).mono ?_; rintro e w' ⟨rfl, rfl⟩))
        go_ret
        exact ⟨ret_bool (all_no (p := hasB p q) HI.out.len hlt (by rw [HZ.out]; simp [hasB, h1])).symm, (by repeat (first | exact Below.refl _ _ | assumption | refine belA ?_ | refine belD ?_ | refine belN ?_ | refine belS ?_ (by simp) | refine belT ?_ (by assumption)))⟩
      · obtain ⟨x1, x2⟩ := inB_true h1
        cases h2 : (pw z q p == 1)
        · have h2' : (pw z q p != 1) = true := by simp only [bne, h2]; rfl
          go_wp2_with (first | (go_at_call 72; refine (l1In_any _ _ _ _).mono ?_; rintro e w' ⟨rfl, rfl⟩) | (go_at_call 110; refine (nPower_any _ _ _ _ (by omega) (by omega) (by omega) (by omega)).mono ?_; rintro e w' ⟨rfl, rfl⟩))
          go_ret
          exact ⟨ret_bool (all_no (p := hasB p q) HI.out.len hlt (by rw [HZ.out]; simp [hasB, h1, h2])).symm, (by repeat (first | exact Below.refl _ _ | assumption | refine belA ?_ | refine belD ?_ | refine belN ?_ | refine belS ?_ (by simp) | refine belT ?_ (by assumption)))⟩
        · have h2' : (pw z q p != 1) = false := by simp only [bne, h2]; rfl
          have H2 := Lib.hid h2
          clear h2
          go_wp2_with (first | (go_at_call 72; refine (l1In_any _ _ _ _).mono ?_; rintro e w' ⟨rfl, rfl⟩) | (go_at_call 110; refine (nPower_any _ _ _ _ (by omega) (by omega) (by omega) (by omega)).mono ?_; rintro e w' ⟨rfl, rfl⟩))
          go_round
          case rel => exact ⟨k + 1, by omega, by go_num, Lib.hid (upto_succ HK.out (by rw [HZ.out]; simp [hasB, h1, H2.out]))⟩
          case measure => simp [intOf]; omega
    · have e : k = n := by omega
      subst e
      go_wp2
      go_ret
      exact ⟨ret_bool (all_yes (p := hasB p q) HI.out.len HK.out).symm, (by repeat (first | exact Below.refl _ _ | assumption | refine belA ?_ | refine belD ?_ | refine belN ?_ | refine belS ?_ (by simp) | refine belT ?_ (by assumption)))⟩
end Go.Proofs.Yteeggmnkcgpfjaa
