/- EvalPoly and DegreeOf: contracts of both sides. -/
import Derived.Test.YteeggmnkcgpfjaaPoly
import Derived.BigQuiet
import Derived.Deep.QuietTactic
namespace Go.Proofs.Yteeggmnkcgpfjaa
open Go.RowKit
set_option linter.unusedVariables false

set_option maxHeartbeats 800000 in
theorem evalPoly_any (q : Int) (A : Option Addr) (n c : Nat) (f : List Int) (x : Int) (w : World) (h : Ints w A n f) (q1 : 2 ≤ q) (q2 : q ≤ 2000000000) (hall : (f.all fun z => inB z 0 (q - 1)) = true) (x0 : 0 ≤ x) (x1 : x < q) :
    Calls Try.prog 138 #[.int .i64 q, .slice A n c, .int .i64 x] w fun e w' => e = .returned (.int .i64 (evalP q f x)) ∧ Below w.heap.size w w' := by
  have hn := h.le
  have HI := Lib.hid h
  have HA := Lib.hid hall
  clear h hall
  have hne : (q == 0) = false := by simp; omega
  go_enter Try.func138, Try.ntmps138
  go_wp2
  go_loopw [7, 8] (fun o i wr => ∃ k : Nat, k ≤ n ∧ i = .int .i64 ((n : Int) - 1 - (k : Int)) ∧ o = .int .i64 (hornK q f x k) ∧ Hid (Below w.heap.size w wr)) (fun _ i _ => (intOf i + 1).toNat)
  case atStart => exact ⟨0, by omega, by simp, rfl, Lib.hid (Below.refl _ _)⟩
  case round =>
    obtain ⟨k, hk, rfl, rfl, HB⟩ := hrel
    have hb := hornK_bd f x (show 1 ≤ q by omega) k
    by_cases hlt : k < n
    · obtain ⟨b, off, rfl, hb', hc⟩ := (HI.out.below HB.out).at_ (k := n - 1 - k) (by omega)
      have hz := all_bd HI.out.len HA.out (show n - 1 - k < n by omega)
      obtain ⟨p1, p2⟩ := mul_bdi hb ⟨x0, x1⟩ q2
      have hs : hornK q f x (k + 1) = (hornK q f x k * x + f.getD (n - 1 - k) 0) % q := by
        show (hornK q f x k * x + f.getD (f.length - 1 - k) 0) % q = _
        rw [HI.out.len]
      obtain ⟨z1, z2⟩ := hz
      generalize f.getD (n - 1 - k) 0 = z at hc z1 z2 hs
      generalize hornK q f x k = y at hs hb p1 p2
      have r1 := Int.emod_nonneg (y * x) (show q ≠ 0 by omega)
      have r2 := Int.emod_lt_of_pos (y * x) (show 0 < q by omega)
      rw [← Int.emod_add_emod] at hs
      have HS := Lib.hid hs
      clear hs
      obtain ⟨m, hm⟩ : ∃ m : Nat, n - 1 - k = m := ⟨_, rfl⟩
      have e1 : (n : Int) - 1 - (k : Int) = (m : Int) := by omega
      rw [hm] at hc
      rw [e1]
      have hmn : m < n := by omega
      have HM := Lib.hid hm
      have HE := Lib.hid e1
      clear hm e1
      have k1 : (0 : Int) ≤ (m : Int) := by omega
      have k2 : (m : Int) < (n : Int) := by omega
      go_wp2
      go_quiet (fail)
      go_wp2
      go_roundw
      case rel => exact ⟨k + 1, by omega, by rw [show (n : Int) - 1 - ((k + 1 : Nat) : Int) = (m : Int) - 1 from by have := HE.out; omega], congrArg (Value.int .i64) HS.out.symm, Lib.hid (belN HB.out)⟩
      case measure => have := HE.out; simp [intOf] <;> omega
    · have e : k = n := by omega
      subst e
      go_wp2
      go_ret
      exact ⟨ret_int (by rw [evalP, HI.out.len]), HB.out⟩

def evM (q : Int) (f : List Int) (x : Int) : Int × Bool := if polyB q f && inB x 0 (q - 1) then (evalP q f x, true) else (0, false)
theorem poly_of {q : Int} {f : List Int} (h : polyB q f = true) : 2 ≤ q ∧ q ≤ 2000000000 ∧ f.length ≤ 24 ∧ (f.all fun z => inB z 0 (q - 1)) = true := by
  simp only [polyB, Bool.and_eq_true] at h
  have := field_om h.1
  have := short_all h.2
  exact ⟨by omega, by omega, this.1, this.2⟩
theorem one_short (q : Int) (B : Option Addr) (c : Nat) (f : List Int) : (fieldB q && [(B, c, f)].all fun x : Option Addr × Nat × List Int => shortB q x.2.2) = polyB q f := by simp [polyB]


def degP (f : List Int) : Nat → Int
  | 0 => -1
  | k + 1 => if f.getD k 0 == 0 then degP f k else (k : Int)
def degM (q : Int) (f : List Int) : Int × Bool := if polyB q f then (degP f f.length, true) else (0, false)

end Go.Proofs.Yteeggmnkcgpfjaa
