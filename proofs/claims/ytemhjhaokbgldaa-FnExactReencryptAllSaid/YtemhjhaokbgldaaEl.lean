/- Plain: powers and products of elements are elements. -/
import Derived.Test.YtemhjhaokbgldaaGr3
namespace Go.Proofs.Ytemhjhaokbgldaa
open Go.RowKit
set_option linter.unusedVariables false

theorem has_of_pow {p q a : Int} (hp : 2 ≤ p) (hq : 1 ≤ q) (h0 : 0 ≤ a) (h1 : a < p) (h : a.toNat ^ q.toNat % p.toNat = 1) : hasB p q a = true := by
  have ha : 1 ≤ a := by
    rcases Int.lt_or_le 0 a with h2 | h2
    · omega
    · exfalso
      have e : a.toNat = 0 := by omega
      rw [e, Nat.zero_pow (by omega)] at h
      simp at h
  unfold hasB
  rw [inB_mk ha (by omega)]
  unfold pw
  rw [h]
  rfl
theorem has_pow {p q a : Int} (h : hasB p q a = true) : a.toNat ^ q.toNat % p.toNat = 1 := by
  simp only [hasB, Bool.and_eq_true, beq_iff_eq] at h
  have := h.2
  unfold pw at this
  omega
theorem has_pw {p q a e : Int} (hp : 2 ≤ p) (hq : 1 ≤ q) (h : hasB p q a = true) : hasB p q (pw a e p) = true := by
  have hb := pw_bd (a := a) (e := e) (m := p) (by omega)
  refine has_of_pow hp hq hb.1 hb.2 ?_
  have ha := has_pow h
  unfold pw
  rw [Int.toNat_natCast, ← Nat.pow_mod, ← Nat.pow_mul, Nat.mul_comm, Nat.pow_mul, Nat.pow_mod, ha, Nat.one_pow, Nat.mod_eq_of_lt (by omega)]
theorem has_mulmod {p q a b : Int} (hp : 2 ≤ p) (hq : 1 ≤ q) (h : hasB p q a = true) (h' : hasB p q b = true) : hasB p q (a * b % p) = true := by
  have ha := has_pow h
  have hb := has_pow h'
  have sa := has_small h
  have sb := has_small h'
  refine has_of_pow hp hq (Int.emod_nonneg _ (by omega)) (Int.emod_lt_of_pos _ (by omega)) ?_
  have e : (a * b % p).toNat = a.toNat * b.toNat % p.toNat := by
    obtain ⟨a, rfl⟩ := Int.eq_ofNat_of_zero_le sa.1
    obtain ⟨b, rfl⟩ := Int.eq_ofNat_of_zero_le sb.1
    obtain ⟨p, rfl⟩ := Int.eq_ofNat_of_zero_le (show 0 ≤ p by omega)
    simp only [Int.toNat_natCast]
    rw [← Int.natCast_mul, ← Int.natCast_emod, Int.toNat_natCast]
  rw [e, ← Nat.pow_mod, Nat.mul_pow, Nat.mul_mod, ha, hb, Nat.mul_one, Nat.mod_eq_of_lt (by omega)]
end Go.Proofs.Ytemhjhaokbgldaa
