/- Sums of products: contracts of both sides. -/
import Derived.Test.YteeggmnkcgpfjaaPoly
import Derived.BigQuiet
import Derived.Deep.QuietTactic
namespace Go.Proofs.Yteeggmnkcgpfjaa
open Go.RowKit
set_option linter.unusedVariables false

def dotK (zs ys : List Int) (m : Int) : Nat → Int
  | 0 => 0
  | k + 1 => (dotK zs ys m k + zs.getD k 0 * ys.getD k 0) % m
theorem dotK_bd (zs ys : List Int) (m : Int) (hm : 1 ≤ m) : ∀ k, 0 ≤ dotK zs ys m k ∧ dotK zs ys m k < m
  | 0 => by simp [dotK]; omega
  | k + 1 => ⟨Int.emod_nonneg _ (by omega), Int.emod_lt_of_pos _ (by omega)⟩

set_option maxHeartbeats 400000 in
theorem nDot_any (A A' : Option Addr) (n n' c c' : Nat) (zs ys : List Int) (m : Int) (w : World) (h : Ints w A n zs) (h' : Ints w A' n' ys) (hnn : n = n') (h1 : 2 ≤ m) (h2 : m ≤ 2000000000)
    (hall : (zs.all fun z => inB z 0 (m - 1)) = true) (hall' : (ys.all fun z => inB z 0 (m - 1)) = true) :
    Calls Try.prog 94 #[.slice A n c, .slice A' n' c', .int .i64 m] w fun e w' => e = .returned (.int .i64 (dotK zs ys m zs.length)) ∧ w = w' := by
  subst hnn
  have hn := h.le
  have HI := Lib.hid h
  have HI' := Lib.hid h'
  have HA := Lib.hid hall
  have HA' := Lib.hid hall'
  clear h hall h' hall'
  have hne : (m == 0) = false := by simp; omega
  go_enter Try.func94, Try.ntmps94
  go_wp2
  go_loop [7, 12] (fun o i => ∃ k : Nat, k ≤ n ∧ i = .int .i64 k ∧ o = .int .i64 (dotK zs ys m k)) (fun _ i => n - (intOf i).toNat)
  case atStart => exact ⟨0, by omega, rfl, rfl⟩
  case round =>
    obtain ⟨k, hk, rfl, rfl⟩ := hrel
    obtain ⟨s1, s2⟩ := dotK_bd zs ys m (by omega) k
    by_cases hlt : k < n
    · obtain ⟨b, off, rfl, hb, hc⟩ := HI.out.at_ hlt
      obtain ⟨b', off', rfl, hb', hc'⟩ := HI'.out.at_ hlt
      have hz := all_bd HI.out.len HA.out hlt
      have hy := all_bd HI'.out.len HA'.out hlt
      obtain ⟨p1, p2⟩ := mul_bdi hz hy (by omega)
      have p3 : zs.getD k 0 * ys.getD k 0 ≤ 4000000000000000000 := Int.mul_le_mul (show zs.getD k 0 ≤ 2000000000 by omega) (show ys.getD k 0 ≤ 2000000000 by omega) hy.1 (by omega)
      have hs : dotK zs ys m (k + 1) = (dotK zs ys m k + zs.getD k 0 * ys.getD k 0) % m := rfl
      obtain ⟨z1, z2⟩ := hz
      obtain ⟨y1, y2⟩ := hy
      generalize zs.getD k 0 = z at hc z1 z2 hs p1 p2 p3
      generalize ys.getD k 0 = y at hc' y1 y2 hs p1 p2 p3
      have HS := Lib.hid hs
      clear hs
      go_wp2
      go_round
      case rel => exact ⟨k + 1, by omega, by go_num, by rw [HS.out]⟩
      case measure => simp [intOf]; omega
    · have e : k = n := by omega
      subst e
      go_wp2
      go_ret
      exact ⟨ret_int (by rw [HI.out.len]), rfl⟩

set_option maxHeartbeats 400000 in
theorem dot_any (A A' : Option Addr) (n n' c c' : Nat) (zs ys : List Int) (m : Int) (w : World) (h : Ints w A n zs) (h' : Ints w A' n' ys) (hnn : n = n') (h1 : 2 ≤ m) (h2 : m ≤ 2000000000)
    (hall : (zs.all fun z => inB z 0 (m - 1)) = true) (hall' : (ys.all fun z => inB z 0 (m - 1)) = true) :
    Calls Try.prog 98 #[.slice A n c, .slice A' n' c', .int .i64 m] w fun e w' => e = .returned (.int .i64 (dotK zs ys m zs.length)) ∧ Below w.heap.size w w' := by
  subst hnn
  have hn := h.le
  have HI := Lib.hid h
  have HI' := Lib.hid h'
  have HA := Lib.hid hall
  have HA' := Lib.hid hall'
  clear h hall h' hall'
  have hne : (m == 0) = false := by simp; omega
  go_enter Try.func98, Try.ntmps98
  go_wp2
  go_loopw [7, 11] (fun o i wr => ∃ k : Nat, k ≤ n ∧ i = .int .i64 k ∧ o = .int .i64 (dotK zs ys m k) ∧ Hid (Below w.heap.size w wr)) (fun _ i _ => n - (intOf i).toNat)
  case atStart => exact ⟨0, by omega, rfl, rfl, Lib.hid (Below.refl _ _)⟩
  case round =>
    obtain ⟨k, hk, rfl, rfl, HB⟩ := hrel
    obtain ⟨s1, s2⟩ := dotK_bd zs ys m (by omega) k
    by_cases hlt : k < n
    · obtain ⟨b, off, rfl, hb, hc⟩ := (HI.out.below HB.out).at_ hlt
      obtain ⟨b', off', rfl, hb', hc'⟩ := (HI'.out.below HB.out).at_ hlt
      have hz := all_bd HI.out.len HA.out hlt
      have hy := all_bd HI'.out.len HA'.out hlt
      obtain ⟨p1, p2⟩ := mul_bdi hz hy (by omega)
      have hs : dotK zs ys m (k + 1) = (dotK zs ys m k + zs.getD k 0 * ys.getD k 0) % m := rfl
      obtain ⟨z1, z2⟩ := hz
      obtain ⟨y1, y2⟩ := hy
      generalize zs.getD k 0 = z at hc z1 z2 hs p1 p2
      generalize ys.getD k 0 = y at hc' y1 y2 hs p1 p2
      generalize dotK zs ys m k = d at hs s1 s2
      have q1 := Int.emod_nonneg (z * y) (show m ≠ 0 by omega)
      have q2 := Int.emod_lt_of_pos (z * y) (show 0 < m by omega)
      rw [← Int.add_emod_emod] at hs
      have HS := Lib.hid hs
      clear hs
      have k1 : (0 : Int) ≤ (k : Int) := by omega
      have k2 : (k : Int) < (n : Int) := by omega
      go_wp2
      go_quiet (fail)
      go_wp2
      go_roundw
      case rel => exact ⟨k + 1, by omega, by go_num, by rw [HS.out], Lib.hid (belN HB.out)⟩
      case measure => simp [intOf]; omega
    · have e : k = n := by omega
      subst e
      go_wp2
      go_ret
      exact ⟨ret_int (by rw [HI.out.len]), HB.out⟩
end Go.Proofs.Yteeggmnkcgpfjaa
