/- Sums and sums of products: contracts of both sides. -/
import Derived.Test.YtkedcnnbcimffaaSl
import Derived.Test.YtkedcnnbcimffaaMod
import Derived.BigQuiet
import Derived.Deep.QuietTactic
namespace Go.Proofs.Ytkedcnnbcimffaa
open Go.RowKit
set_option linter.unusedVariables false

def sumK (zs : List Int) (m : Int) : Nat → Int
  | 0 => 0
  | k + 1 => (sumK zs m k + zs.getD k 0) % m
def dotK (zs ys : List Int) (m : Int) : Nat → Int
  | 0 => 0
  | k + 1 => (dotK zs ys m k + zs.getD k 0 * ys.getD k 0) % m
theorem sumK_bd (zs : List Int) (m : Int) (hm : 1 ≤ m) : ∀ k, 0 ≤ sumK zs m k ∧ sumK zs m k < m
  | 0 => by simp [sumK]; omega
  | k + 1 => ⟨Int.emod_nonneg _ (by omega), Int.emod_lt_of_pos _ (by omega)⟩
theorem dotK_bd (zs ys : List Int) (m : Int) (hm : 1 ≤ m) : ∀ k, 0 ≤ dotK zs ys m k ∧ dotK zs ys m k < m
  | 0 => by simp [dotK]; omega
  | k + 1 => ⟨Int.emod_nonneg _ (by omega), Int.emod_lt_of_pos _ (by omega)⟩
/-- residues of a modulus, not too many -/
def termsB (zs : List Int) (m : Int) : Bool := inB m 2 2000000000 && decide (zs.length ≤ 200) && zs.all fun z => inB z 0 (m - 1)
theorem all_bd {zs : List Int} {m : Int} {k n : Nat} (hn : zs.length = n) (h : (zs.all fun z => inB z 0 (m - 1)) = true) (hk : k < n) : 0 ≤ zs.getD k 0 ∧ zs.getD k 0 < m := by
  have := inB_true (List.all_eq_true.1 h _ (getD_mem (d := 0) (show k < zs.length by omega)))
  omega
theorem mul_bdi {a b m : Int} (ha : 0 ≤ a ∧ a < m) (hb : 0 ≤ b ∧ b < m) (hm : m ≤ 3000000000) : 0 ≤ a * b ∧ a * b ≤ 9000000000000000000 := by
  have h1 : 0 ≤ a * b := Int.mul_nonneg ha.1 hb.1
  have h2 : a * b ≤ 3000000000 * 3000000000 := Int.mul_le_mul (by omega) (by omega) hb.1 (by omega)
  exact ⟨h1, h2⟩

set_option maxHeartbeats 400000 in
theorem nList_any (A : Option Addr) (n c : Nat) (zs : List Int) (m : Int) (w : World) (h : Ints w A n zs) (h1 : 1 ≤ m) (h2 : m ≤ 9223372036854775807) :
    Calls Try.prog 44 #[.slice A n c, .int .i64 m] w fun e w' => e = .returned (.bool (decide (n ≤ 200) && zs.all fun z => inB z 0 (m - 1))) ∧ w = w' := by
  have H := Lib.hid (l1All_any A n c zs 0 (m - 1) w h)
  clear h
  by_cases hn : n ≤ 200
  · have hd : decide (n ≤ 200) = true := by simpa using hn
    go_enter Try.func44, Try.ntmps44
    go_wp2_with (go_at_call 66; refine H.out.mono ?_; rintro e w' ⟨rfl, rfl⟩)
    go_ret
    exact ⟨ret_bool (by simp [hd]), rfl⟩
  · have hd : decide (n ≤ 200) = false := by simpa using hn
    go_enter Try.func44, Try.ntmps44
    go_wp2_with (go_at_call 66; refine H.out.mono ?_; rintro e w' ⟨rfl, rfl⟩)
    go_ret
    exact ⟨ret_bool (by simp), rfl⟩

set_option maxHeartbeats 400000 in
theorem areTerms_any (A : Option Addr) (n c : Nat) (zs : List Int) (m : Int) (w : World) (h : Ints w A n zs) :
    Calls Try.prog 46 #[.slice A n c, .int .i64 m] w fun e w' => e = .returned (.bool (termsB zs m)) ∧ Below w.heap.size w w' := by
  have hl := h.len
  subst hl
  cases h1 : inB m 2 2000000000
  · go_enter Try.func46, Try.ntmps46
    go_wp2_with (first | (go_at_call 69; refine (isModulus_any _ _).mono ?_; rintro e w' ⟨rfl, rfl⟩))
    go_ret
    exact ⟨ret_bool (by simp [termsB, h1]), Below.refl _ _⟩
  obtain ⟨m1, m2⟩ := inB_true h1
  cases h2 : decide (zs.length ≤ 200)
  · have hd1 : 200 < zs.length := by have := of_decide_eq_false h2; omega
    go_enter Try.func46, Try.ntmps46
    go_wp2_with (first | (go_at_call 69; refine (isModulus_any _ _).mono ?_; rintro e w' ⟨rfl, rfl⟩))
    go_ret
    exact ⟨ret_bool (by simp [termsB, h2]), Below.refl _ _⟩
  have hd1 : zs.length ≤ 200 := of_decide_eq_true h2
  have H := Lib.hid (areBelow_any A zs.length c zs m w h (by omega) (by omega))
  clear h
  go_enter Try.func46, Try.ntmps46
  go_wp2_with (first | (go_at_call 69; refine (isModulus_any _ _).mono ?_; rintro e w' ⟨rfl, rfl⟩) | (go_at_call 61; refine H.out.mono ?_; rintro e w' ⟨rfl, hb⟩))
  go_ret
  exact ⟨ret_bool (by simp [termsB, h1, h2]), hb⟩



set_option maxHeartbeats 400000 in
theorem nDot_any (A A' : Option Addr) (n n' c c' : Nat) (zs ys : List Int) (m : Int) (w : World) (h : Ints w A n zs) (h' : Ints w A' n' ys) (hnn : n = n') (h1 : 2 ≤ m) (h2 : m ≤ 2000000000)
    (hall : (zs.all fun z => inB z 0 (m - 1)) = true) (hall' : (ys.all fun z => inB z 0 (m - 1)) = true) :
    Calls Try.prog 60 #[.slice A n c, .slice A' n' c', .int .i64 m] w fun e w' => e = .returned (.int .i64 (dotK zs ys m zs.length)) ∧ w = w' := by
  subst hnn
  have hn := h.le
  have HI := Lib.hid h
  have HI' := Lib.hid h'
  have HA := Lib.hid hall
  have HA' := Lib.hid hall'
  clear h hall h' hall'
  have hne : (m == 0) = false := by simp; omega
  go_enter Try.func60, Try.ntmps60
  go_wp2
  go_loop [7, 12] (fun o i => ∃ k : Nat, k ≤ n ∧ i = .int .i64 k ∧ o = .int .i64 (dotK zs ys m k)) (fun _ i => n - (intOf i).toNat)
  case atStart => exact ⟨0, by omega, rfl, rfl⟩
  case round =>
    obtain ⟨k, hk, rfl, rfl⟩ := hrel
    obtain ⟨s1, s2⟩ := dotK_bd zs ys m (by omega) k
    by_cases hlt : k < n
    · obtain ⟨b, off, rfl, hb, hc⟩ := HI.out.at_ hlt
      obtain ⟨b', off', rfl, hb', hc'⟩ := HI'.out.at_ hlt
      have hz := all_bd HI.out.len HA.out hlt
      have hy := all_bd HI'.out.len HA'.out hlt
      obtain ⟨p1, p2⟩ := mul_bdi hz hy (by omega)
      have p3 : zs.getD k 0 * ys.getD k 0 ≤ 4000000000000000000 := Int.mul_le_mul (show zs.getD k 0 ≤ 2000000000 by omega) (show ys.getD k 0 ≤ 2000000000 by omega) hy.1 (by omega)
      have hs : dotK zs ys m (k + 1) = (dotK zs ys m k + zs.getD k 0 * ys.getD k 0) % m := rfl
      obtain ⟨z1, z2⟩ := hz
      obtain ⟨y1, y2⟩ := hy
      generalize zs.getD k 0 = z at hc z1 z2 hs p1 p2 p3
      generalize ys.getD k 0 = y at hc' y1 y2 hs p1 p2 p3
      have HS := Lib.hid hs
      clear hs
      go_wp2
      go_round
      case rel => exact ⟨k + 1, by omega, by go_num, by rw [HS.out]⟩
      case measure => simp [intOf]; omega
    · have e : k = n := by omega
      subst e
      go_wp2
      go_ret
      exact ⟨ret_int (by rw [HI.out.len]), rfl⟩

set_option maxHeartbeats 400000 in
theorem dot_any (A A' : Option Addr) (n n' c c' : Nat) (zs ys : List Int) (m : Int) (w : World) (h : Ints w A n zs) (h' : Ints w A' n' ys) (hnn : n = n') (h1 : 2 ≤ m) (h2 : m ≤ 2000000000)
    (hall : (zs.all fun z => inB z 0 (m - 1)) = true) (hall' : (ys.all fun z => inB z 0 (m - 1)) = true) :
    Calls Try.prog 62 #[.slice A n c, .slice A' n' c', .int .i64 m] w fun e w' => e = .returned (.int .i64 (dotK zs ys m zs.length)) ∧ Below w.heap.size w w' := by
  subst hnn
  have hn := h.le
  have HI := Lib.hid h
  have HI' := Lib.hid h'
  have HA := Lib.hid hall
  have HA' := Lib.hid hall'
  clear h hall h' hall'
  have hne : (m == 0) = false := by simp; omega
  go_enter Try.func62, Try.ntmps62
  go_wp2
  go_loopw [7, 11] (fun o i wr => ∃ k : Nat, k ≤ n ∧ i = .int .i64 k ∧ o = .int .i64 (dotK zs ys m k) ∧ Hid (Below w.heap.size w wr)) (fun _ i _ => n - (intOf i).toNat)
  case atStart => exact ⟨0, by omega, rfl, rfl, Lib.hid (Below.refl _ _)⟩
  case round =>
    obtain ⟨k, hk, rfl, rfl, HB⟩ := hrel
    obtain ⟨s1, s2⟩ := dotK_bd zs ys m (by omega) k
    by_cases hlt : k < n
    · obtain ⟨b, off, rfl, hb, hc⟩ := (HI.out.below HB.out).at_ hlt
      obtain ⟨b', off', rfl, hb', hc'⟩ := (HI'.out.below HB.out).at_ hlt
      have hz := all_bd HI.out.len HA.out hlt
      have hy := all_bd HI'.out.len HA'.out hlt
      obtain ⟨p1, p2⟩ := mul_bdi hz hy (by omega)
      have hs : dotK zs ys m (k + 1) = (dotK zs ys m k + zs.getD k 0 * ys.getD k 0) % m := rfl
      obtain ⟨z1, z2⟩ := hz
      obtain ⟨y1, y2⟩ := hy
      generalize zs.getD k 0 = z at hc z1 z2 hs p1 p2
      generalize ys.getD k 0 = y at hc' y1 y2 hs p1 p2
      generalize dotK zs ys m k = d at hs s1 s2
      have q1 := Int.emod_nonneg (z * y) (show m ≠ 0 by omega)
      have q2 := Int.emod_lt_of_pos (z * y) (show 0 < m by omega)
      rw [← Int.add_emod_emod] at hs
      have HS := Lib.hid hs
      clear hs
      have k1 : (0 : Int) ≤ (k : Int) := by omega
      have k2 : (k : Int) < (n : Int) := by omega
      go_wp2
      go_quiet (fail)
      go_wp2
      go_roundw
      case rel => exact ⟨k + 1, by omega, by go_num, by rw [HS.out], Lib.hid (belN HB.out)⟩
      case measure => simp [intOf]; omega
    · have e : k = n := by omega
      subst e
      go_wp2
      go_ret
      exact ⟨ret_int (by rw [HI.out.len]), HB.out⟩
end Go.Proofs.Ytkedcnnbcimffaa
