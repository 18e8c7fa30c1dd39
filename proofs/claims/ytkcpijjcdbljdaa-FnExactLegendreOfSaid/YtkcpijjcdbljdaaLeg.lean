/- LegendreOf: the plain law, the contracts of both sides, the walk of the law. -/
import Derived.Test.YtkcpijjcdbljdaaFrame
import Derived.Test.YtkcpijjcdbljdaaPrime
import Derived.Test.YtkcpijjcdbljdaaMod
namespace Go.Proofs.Ytkcpijjcdbljdaa
open Go.RowKit
set_option linter.unusedVariables false

theorem leg_nat {p a : Nat} (hp : NT.Pr p) (h3 : 3 ≤ p) (ha : a < p) : a ^ ((p - 1) / 2) % p = 0 ∨ a ^ ((p - 1) / 2) % p = 1 ∨ a ^ ((p - 1) / 2) % p = p - 1 := by
  have hodd : p % 2 = 1 := by
    rcases Nat.mod_two_eq_zero_or_one p with h | h
    · rcases NT.pr_dvd hp (Nat.dvd_of_mod_eq_zero h) with h1 | h1 <;> omega
    · exact h
  rcases Nat.eq_zero_or_pos a with rfl | hpos
  · left
    rw [Nat.zero_pow (by omega), Nat.zero_mod]
  · right
    have hf := NT.fermat hp (NT.not_dvd_small hpos ha)
    have hlt := Nat.mod_lt (a ^ ((p - 1) / 2)) (show p > 0 by omega)
    have hsq : (a ^ ((p - 1) / 2) % p) * (a ^ ((p - 1) / 2) % p) % p = 1 := by
      rw [← Nat.mul_mod, ← Nat.pow_add, show (p - 1) / 2 + (p - 1) / 2 = p - 1 from by omega]
      exact hf
    generalize a ^ ((p - 1) / 2) % p = x at hlt hsq
    have hx : 1 ≤ x := by
      rcases Nat.eq_zero_or_pos x with rfl | h
      · simp at hsq
      · exact h
    have hd := NT.sub_dvd_of_mod_eq (p := p) (x := 1) (y := x * x) (by rw [hsq, NT.one_mod hp.1]) (Nat.mul_pos hx hx)
    have e : x * x - 1 = (x - 1) * (x + 1) := by
      obtain ⟨y, rfl⟩ : ∃ y, x = y + 1 := ⟨x - 1, by omega⟩
      simp only [Nat.add_sub_cancel, Nat.mul_add, Nat.add_mul]
      omega
    rw [e] at hd
    rcases NT.euclid hp hd with h1 | h1
    · left
      rcases Nat.eq_zero_or_pos (x - 1) with h0 | h0
      · omega
      · have := Nat.le_of_dvd h0 h1
        omega
    · right
      have := Nat.le_of_dvd (by omega) h1
      omega

theorem leg_int {p a : Int} (hp : primeB p = true) (h3 : 3 ≤ p) (h0 : 0 ≤ a) (ha : a < p) : pw a ((p - 1) / 2) p = 0 ∨ pw a ((p - 1) / 2) p = 1 ∨ pw a ((p - 1) / 2) p = p - 1 := by
  have h := leg_nat ((primeB_iff p).1 hp) (show 3 ≤ p.toNat by omega) (show a.toNat < p.toNat by omega)
  unfold pw
  rw [show ((p - 1) / 2).toNat = (p.toNat - 1) / 2 from by omega]
  omega

def legM (a p : Int) : Int × Bool :=
  if inB p 3 2000000000 && primeB p && inB a 0 (p - 1) then (if pw a ((p - 1) / 2) p == 0 then 0 else if pw a ((p - 1) / 2) p == 1 then 1 else -1, true) else (0, false)
theorem legM_ne {a p : Int} (h : p ≠ 2) : legM a p =
    if inB p 2 2000000000 && primeB p && inB a 0 (p - 1) then (if pw a ((p - 1) / 2) p == 0 then 0 else if pw a ((p - 1) / 2) p == 1 then 1 else -1, true) else (0, false) := by
  have : inB p 3 2000000000 = inB p 2 2000000000 := by
    cases h2 : inB p 2 2000000000
    · exact inB_no (by have := inB_false h2; omega)
    · exact inB_mk (by have := inB_true h2; omega) (inB_true h2).2
  unfold legM
  rw [this]

set_option maxHeartbeats 400000 in
theorem sLegendreOf_any (a p : Int) (w : World) :
    Calls Try.prog 28 #[.int .i64 a, .int .i64 p] w fun e' w' => e' = .returned (.tuple #[.int .i64 (legM a p).1, .bool (legM a p).2]) ∧ w = w' := by
  cases h1 : inB p 3 2000000000
  · go_enter Try.func28, Try.ntmps28
    go_wp2_with (first | (go_at_call 43; refine (l1In_any _ _ _ _).mono ?_; rintro e w' ⟨rfl, rfl⟩) | (go_at_call 48; refine (nPrime_any _ _ (by omega)).mono ?_; rintro e w' ⟨rfl, rfl⟩))
    go_ret2
    exact ⟨ret_ib (by simp [legM, h1]), rfl⟩
  obtain ⟨p1, p2⟩ := inB_true h1
  cases h2 : primeB p
  · go_enter Try.func28, Try.ntmps28
    go_wp2_with (first | (go_at_call 43; refine (l1In_any _ _ _ _).mono ?_; rintro e w' ⟨rfl, rfl⟩) | (go_at_call 48; refine (nPrime_any _ _ (by omega)).mono ?_; rintro e w' ⟨rfl, rfl⟩))
    go_ret2
    exact ⟨ret_ib (by simp [legM, h2]), rfl⟩
  cases h3 : inB a 0 (p - 1)
  · go_enter Try.func28, Try.ntmps28
    go_wp2_with (first | (go_at_call 43; refine (l1In_any _ _ _ _).mono ?_; rintro e w' ⟨rfl, rfl⟩) | (go_at_call 48; refine (nPrime_any _ _ (by omega)).mono ?_; rintro e w' ⟨rfl, rfl⟩))
    go_ret2
    exact ⟨ret_ib (by simp [legM, h3]), rfl⟩
  obtain ⟨a1, a2⟩ := inB_true h3
  have hm : legM a p = (if pw a ((p - 1) / 2) p == 0 then 0 else if pw a ((p - 1) / 2) p == 1 then 1 else -1, true) := by simp [legM, h1, h2, h3]
  have HM := Lib.hid hm
  clear hm
  cases h4 : pw a ((p - 1) / 2) p == 0
  · cases h5 : pw a ((p - 1) / 2) p == 1
    · go_enter Try.func28, Try.ntmps28
      go_wp2_with (first | (go_at_call 43; refine (l1In_any _ _ _ _).mono ?_; rintro e w' ⟨rfl, rfl⟩) | (go_at_call 48; refine (nPrime_any _ _ (by omega)).mono ?_; rintro e w' ⟨rfl, rfl⟩) | (go_at_call 44; refine (nPower_any _ _ _ _ (by omega) (by omega) (by omega) (by omega)).mono ?_; rintro e w' ⟨rfl, rfl⟩))
      go_ret2
      exact ⟨ret_ib (by rw [HM.out, h4, h5]; rfl), rfl⟩
    · go_enter Try.func28, Try.ntmps28
      go_wp2_with (first | (go_at_call 43; refine (l1In_any _ _ _ _).mono ?_; rintro e w' ⟨rfl, rfl⟩) | (go_at_call 48; refine (nPrime_any _ _ (by omega)).mono ?_; rintro e w' ⟨rfl, rfl⟩) | (go_at_call 44; refine (nPower_any _ _ _ _ (by omega) (by omega) (by omega) (by omega)).mono ?_; rintro e w' ⟨rfl, rfl⟩))
      go_ret2
      exact ⟨ret_ib (by rw [HM.out, h4, h5]; rfl), rfl⟩
  · go_enter Try.func28, Try.ntmps28
    go_wp2_with (first | (go_at_call 43; refine (l1In_any _ _ _ _).mono ?_; rintro e w' ⟨rfl, rfl⟩) | (go_at_call 48; refine (nPrime_any _ _ (by omega)).mono ?_; rintro e w' ⟨rfl, rfl⟩) | (go_at_call 44; refine (nPower_any _ _ _ _ (by omega) (by omega) (by omega) (by omega)).mono ?_; rintro e w' ⟨rfl, rfl⟩))
    go_ret2
    exact ⟨ret_ib (by rw [HM.out, h4]; rfl), rfl⟩

theorem leg_val {x p : Int} (h3 : 3 ≤ p) (h : x = 0 ∨ x = 1 ∨ x = p - 1) : (if x == p - 1 then -1 else x) = (if x == 0 then 0 else if x == 1 then (1 : Int) else -1) := by
  rcases h with rfl | rfl | rfl
  · rw [if_neg (by simp; omega)]; rfl
  · rw [if_neg (by simp; omega)]; rfl
  · rw [if_pos (by simp), if_neg (by simp; omega), if_neg (by simp; omega)]

set_option maxHeartbeats 400000 in
theorem iLegendreOf_any (a p : Int) (w : World) :
    Calls Try.prog 29 #[.int .i64 a, .int .i64 p] w fun e' w' => e' = .returned (.tuple #[.int .i64 (legM a p).1, .bool (legM a p).2]) ∧ w = w' := by
  by_cases e2 : p = 2
  · subst e2
    go_enter Try.func29, Try.ntmps29
    go_wp2
    go_ret2
    exact ⟨ret_ib (by simp [legM, inB]), rfl⟩
  have e2' : (p == 2) = false := by simp; omega
  have HL := Lib.hid (@legM_ne a p e2)
  cases h1 : inB p 2 2000000000
  · go_enter Try.func29, Try.ntmps29
    go_wp2_with (first | (go_at_call 46; refine (within_any _ _ _ _).mono ?_; rintro e w' ⟨rfl, rfl⟩) | (go_at_call 49; refine (isPrime_any _ _).mono ?_; rintro e w' ⟨rfl, rfl⟩))
    go_ret2
    exact ⟨ret_ib (by rw [HL.out]; simp [h1]), rfl⟩
  obtain ⟨p1, p2⟩ := inB_true h1
  cases h2 : primeB p
  · go_enter Try.func29, Try.ntmps29
    go_wp2_with (first | (go_at_call 46; refine (within_any _ _ _ _).mono ?_; rintro e w' ⟨rfl, rfl⟩) | (go_at_call 49; refine (isPrime_any _ _).mono ?_; rintro e w' ⟨rfl, rfl⟩))
    go_ret2
    exact ⟨ret_ib (by rw [HL.out]; simp [h2]), rfl⟩
  cases h3 : inB a 0 (p - 1)
  · go_enter Try.func29, Try.ntmps29
    go_wp2_with (first | (go_at_call 46; refine (within_any _ _ _ _).mono ?_; rintro e w' ⟨rfl, rfl⟩) | (go_at_call 49; refine (isPrime_any _ _).mono ?_; rintro e w' ⟨rfl, rfl⟩))
    go_ret2
    exact ⟨ret_ib (by rw [HL.out]; simp [h3]), rfl⟩
  obtain ⟨a1, a2⟩ := inB_true h3
  have hm : legM a p = (if pw a ((p - 1) / 2) p == p - 1 then -1 else pw a ((p - 1) / 2) p, true) := by
    rw [HL.out, leg_val (by omega) (leg_int h2 (by omega) a1 (by omega))]
    simp [h1, h2, h3]
  have HM := Lib.hid hm
  clear hm
  cases h4 : pw a ((p - 1) / 2) p == p - 1
  · go_enter Try.func29, Try.ntmps29
    go_wp2_with (first | (go_at_call 46; refine (within_any _ _ _ _).mono ?_; rintro e w' ⟨rfl, rfl⟩) | (go_at_call 49; refine (isPrime_any _ _).mono ?_; rintro e w' ⟨rfl, rfl⟩) | (go_at_call 47; refine (power_any _ _ _ _ (by omega) (by omega) (by omega) (by omega)).mono ?_; rintro e w' ⟨rfl, rfl⟩))
    go_ret2
    exact ⟨ret_ib (by rw [HM.out, h4]; rfl), rfl⟩
  · go_enter Try.func29, Try.ntmps29
    go_wp2_with (first | (go_at_call 46; refine (within_any _ _ _ _).mono ?_; rintro e w' ⟨rfl, rfl⟩) | (go_at_call 49; refine (isPrime_any _ _).mono ?_; rintro e w' ⟨rfl, rfl⟩) | (go_at_call 47; refine (power_any _ _ _ _ (by omega) (by omega) (by omega) (by omega)).mono ?_; rintro e w' ⟨rfl, rfl⟩))
    go_ret2
    exact ⟨ret_ib (by rw [HM.out, h4]; rfl), rfl⟩

set_option maxHeartbeats 400000 in
theorem walk_FnExactLegendreOf (a : Int) (wa : (Lit.int .i64 a).wf = true) (p : Int) (wp : (Lit.int .i64 p).wf = true) (w : World) :
    Calls Try.prog 10 #[.int .i64 a, .int .i64 p] w fun e w' => e = .returned (.bool true) ∧ Below w.heap.size w w' := by
  clear wa wp
  have hs := sLegendreOf_any a p w
  have hi := iLegendreOf_any a p w
  generalize (legM a p).1 = x at hs hi
  generalize (legM a p).2 = y at hs hi
  have Hs := Lib.hid hs
  have Hi := Lib.hid hi
  clear hs hi
  go_enter Try.func10, Try.ntmps10
  go_wp2_with (first | (go_at_call 28; refine Hs.out.mono ?_; rintro e w' ⟨rfl, rfl⟩) | (go_at_call 29; refine Hi.out.mono ?_; rintro e w' ⟨rfl, rfl⟩))
  go_ret
  exact ⟨rfl, Below.refl _ _⟩
end Go.Proofs.Ytkcpijjcdbljdaa
