/- The plain law of small groups: what is taken into the group is an element. -/
import Derived.Test.YteeggmnkcgpfjaaGr
namespace Go.Proofs.Yteeggmnkcgpfjaa
open Go.RowKit
set_option linter.unusedVariables false

theorem from_has {p q g r : Int} (h : goodB p q g = true) (hr : inB r 1 (p - 1) = true) : hasB p q (pw r ((p - 1) / q) p) = true := by
  have G := good_of h
  obtain ⟨r1, r2⟩ := inB_true hr
  have hP := (primeB_iff p).1 G.pp
  have p1 := G.p1
  have q1 := G.q1
  have hd := Int.mul_ediv_cancel' (Int.dvd_of_emod_eq_zero G.d)
  have e0 : 0 ≤ (p - 1) / q := Int.ediv_nonneg (by omega) (by omega)
  generalize (p - 1) / q = e at hd e0 ⊢
  clear G h hr
  obtain ⟨P, rfl⟩ := Int.eq_ofNat_of_zero_le (show 0 ≤ p by omega)
  obtain ⟨Q, rfl⟩ := Int.eq_ofNat_of_zero_le (show 0 ≤ q by omega)
  obtain ⟨R, rfl⟩ := Int.eq_ofNat_of_zero_le (show 0 ≤ r by omega)
  obtain ⟨E, rfl⟩ := Int.eq_ofNat_of_zero_le e0
  rw [Int.toNat_natCast] at hP
  have hm : E * Q = P - 1 := by
    have h1 : ((Q * E : Nat) : Int) = (P : Int) - 1 := by rw [Int.natCast_mul]; exact hd
    rw [Nat.mul_comm]
    omega
  have hf : R ^ (P - 1) % P = 1 := NT.fermat hP (NT.not_dvd_small (by omega) (by omega))
  have hlt : R ^ E % P < P := Nat.mod_lt _ (by omega)
  have hX : (R ^ E % P) ^ Q % P = 1 := by rw [← Nat.pow_mod, ← Nat.pow_mul, hm]; exact hf
  have e1 : pw (R : Int) (E : Int) (P : Int) = ((R ^ E % P : Nat) : Int) := rfl
  rw [e1]
  generalize R ^ E % P = X at hlt hX ⊢
  have hne : X ≠ 0 := by
    rintro rfl
    rw [Nat.zero_pow (by omega), Nat.zero_mod] at hX
    cases hX
  have e2 : pw (X : Int) (Q : Int) (P : Int) = ((X ^ Q % P : Nat) : Int) := rfl
  rw [hasB, Bool.and_eq_true, beq_iff_eq, e2, hX]
  exact ⟨inB_mk (by omega) (by omega), rfl⟩
end Go.Proofs.Yteeggmnkcgpfjaa
