/- The plain law of MakeGroup: the first prime of a row, the first base whose power is not 1. -/
import Derived.Test.YteeggmnkcgpfjaaBase
import Derived.Test.YteeggmnkcgpfjaaPrime
import Derived.Test.YteeggmnkcgpfjaaNt
namespace Go.Proofs.Yteeggmnkcgpfjaa
open Go.RowKit

/-- the first prime among p, p + q, .. up to the greatest -/
def mgP (q : Int) : Nat → Int → Option Int
  | 0, _ => none
  | f + 1, p => if p ≤ 2000000000 then (if primeB p then some p else mgP q f (p + q)) else none
theorem mgP_hit {q p : Int} {f : Nat} (hp : p ≤ 2000000000) (hf : 2000000001 ≤ (f : Int) + p) (h : primeB p = true) : mgP q f p = some p := by
  cases f with
  | zero => omega
  | succ f => rw [mgP, if_pos hp, if_pos h]
theorem mgP_next {q p : Int} {f : Nat} (hp : p ≤ 2000000000) (hf : 2000000001 ≤ (f : Int) + p) (h : primeB p = false) : ∃ f', f = f' + 1 ∧ mgP q f p = mgP q f' (p + q) := by
  cases f with
  | zero => omega
  | succ f => exact ⟨f, rfl, by rw [mgP, if_pos hp, if_neg (by simp [h])]⟩
theorem mgP_out {q p : Int} {f : Nat} (hp : 2000000000 < p) : mgP q f p = none := by
  cases f with
  | zero => rfl
  | succ f => rw [mgP, if_neg (by omega)]

/-- the first base from h on whose power is not 1 -/
def mgH (n p : Int) : Nat → Int → Int
  | 0, h => h
  | f + 1, h => if pw h n p = 1 then mgH n p f (h + 1) else h
theorem mgH_stop {n p h : Int} {f : Nat} (hne : pw h n p ≠ 1) : mgH n p f h = h := by
  cases f with
  | zero => rfl
  | succ f => rw [mgH, if_neg hne]
theorem mgH_next {n p h : Int} {f : Nat} (h1 : pw h n p = 1) : mgH n p (f + 1) h = mgH n p f (h + 1) := by rw [mgH, if_pos h1]
/-- the greatest base that is asked -/
theorem mg_base {p q : Int} (hp : primeB p = true) (q2 : 2 ≤ q) (hq : q ≤ p - 1) : ∃ a : Int, 2 ≤ a ∧ a < p ∧ pw a ((p - 1) / q) p ≠ 1 := by
  have hP := (primeB_iff p).1 hp
  have h1 : 1 ≤ (p - 1) / q := (Int.le_ediv_iff_mul_le (by omega)).2 (by omega)
  have h2 : (p - 1) / q < p - 1 := by
    refine (Int.ediv_lt_iff_lt_mul (by omega)).2 ?_
    have h3 : (p - 1) * 2 ≤ (p - 1) * q := Int.mul_le_mul_of_nonneg_left q2 (by omega)
    omega
  obtain ⟨a, a1, a2, a3⟩ := NT.exists_not_one hP (n := ((p - 1) / q).toNat) (by omega) (by omega)
  refine ⟨(a : Int), ?_, by omega, ?_⟩
  · rcases Nat.lt_or_ge a 2 with c | c
    · have e : a = 1 := by omega
      subst e
      rw [Nat.one_pow, Nat.mod_eq_of_lt (by omega)] at a3
      exact absurd rfl a3
    · omega
  · unfold pw
    rw [Int.toNat_natCast]
    omega
theorem pw_ne_zero {p n h : Int} (hp : primeB p = true) (h1 : 1 ≤ h) (h2 : h < p) : pw h n p ≠ 0 := by
  have hP := (primeB_iff p).1 hp
  intro c
  unfold pw at c
  have d : p.toNat ∣ h.toNat ^ n.toNat := Nat.dvd_of_mod_eq_zero (by omega)
  have := Nat.le_of_dvd (by omega) (NT.euclid_pow hP d)
  omega
end Go.Proofs.Yteeggmnkcgpfjaa
