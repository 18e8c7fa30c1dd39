/- EvalPoly and DegreeOf: contracts of both sides. -/
import Derived.Test.YtkedcnnbcimffaaPoly
import Derived.BigQuiet
import Derived.Deep.QuietTactic
namespace Go.Proofs.Ytkedcnnbcimffaa
open Go.RowKit
set_option linter.unusedVariables false

set_option maxHeartbeats 800000 in
theorem evalPoly_any (q : Int) (A : Option Addr) (n c : Nat) (f : List Int) (x : Int) (w : World) (h : Ints w A n f) (q1 : 2 ≤ q) (q2 : q ≤ 2000000000) (hall : (f.all fun z => inB z 0 (q - 1)) = true) (x0 : 0 ≤ x) (x1 : x < q) :
    Calls Try.prog 42 #[.int .i64 q, .slice A n c, .int .i64 x] w fun e w' => e = .returned (.int .i64 (evalP q f x)) ∧ Below w.heap.size w w' := by
  have hn := h.le
  have HI := Lib.hid h
  have HA := Lib.hid hall
  clear h hall
  have hne : (q == 0) = false := by simp; omega
  go_enter Try.func42, Try.ntmps42
  go_wp2
  go_loopw [7, 8] (fun o i wr => ∃ k : Nat, k ≤ n ∧ i = .int .i64 ((n : Int) - 1 - (k : Int)) ∧ o = .int .i64 (hornK q f x k) ∧ Hid (Below w.heap.size w wr)) (fun _ i _ => (intOf i + 1).toNat)
  case atStart => exact ⟨0, by omega, by simp, rfl, Lib.hid (Below.refl _ _)⟩
  case round =>
    obtain ⟨k, hk, rfl, rfl, HB⟩ := hrel
    have hb := hornK_bd f x (show 1 ≤ q by omega) k
    by_cases hlt : k < n
    · obtain ⟨b, off, rfl, hb', hc⟩ := (HI.out.below HB.out).at_ (k := n - 1 - k) (by omega)
      have hz := all_bd HI.out.len HA.out (show n - 1 - k < n by omega)
      obtain ⟨p1, p2⟩ := mul_bdi hb ⟨x0, x1⟩ q2
      have hs : hornK q f x (k + 1) = (hornK q f x k * x + f.getD (n - 1 - k) 0) % q := by
        show (hornK q f x k * x + f.getD (f.length - 1 - k) 0) % q = _
        rw [HI.out.len]
      obtain ⟨z1, z2⟩ := hz
      generalize f.getD (n - 1 - k) 0 = z at hc z1 z2 hs
      generalize hornK q f x k = y at hs hb p1 p2
      have r1 := Int.emod_nonneg (y * x) (show q ≠ 0 by omega)
      have r2 := Int.emod_lt_of_pos (y * x) (show 0 < q by omega)
      rw [← Int.emod_add_emod] at hs
      have HS := Lib.hid hs
      clear hs
      obtain ⟨m, hm⟩ : ∃ m : Nat, n - 1 - k = m := ⟨_, rfl⟩
      have e1 : (n : Int) - 1 - (k : Int) = (m : Int) := by omega
      rw [hm] at hc
      rw [e1]
      have hmn : m < n := by omega
      have HM := Lib.hid hm
      have HE := Lib.hid e1
      clear hm e1
      have k1 : (0 : Int) ≤ (m : Int) := by omega
      have k2 : (m : Int) < (n : Int) := by omega
      go_wp2
      go_quiet (fail)
      go_wp2
      go_roundw
      case rel => exact ⟨k + 1, by omega, by rw [show (n : Int) - 1 - ((k + 1 : Nat) : Int) = (m : Int) - 1 from by have := HE.out; omega], congrArg (Value.int .i64) HS.out.symm, Lib.hid (belN HB.out)⟩
      case measure => have := HE.out; simp [intOf] <;> omega
    · have e : k = n := by omega
      subst e
      go_wp2
      go_ret
      exact ⟨ret_int (by rw [evalP, HI.out.len]), HB.out⟩

def evM (q : Int) (f : List Int) (x : Int) : Int × Bool := if polyB q f && inB x 0 (q - 1) then (evalP q f x, true) else (0, false)
theorem poly_of {q : Int} {f : List Int} (h : polyB q f = true) : 2 ≤ q ∧ q ≤ 2000000000 ∧ f.length ≤ 24 ∧ (f.all fun z => inB z 0 (q - 1)) = true := by
  simp only [polyB, Bool.and_eq_true] at h
  have := field_om h.1
  have := short_all h.2
  exact ⟨by omega, by omega, this.1, this.2⟩
theorem one_short (q : Int) (B : Option Addr) (c : Nat) (f : List Int) : (fieldB q && [(B, c, f)].all fun x : Option Addr × Nat × List Int => shortB q x.2.2) = polyB q f := by simp [polyB]

set_option maxHeartbeats 400000 in
theorem sEvalPoly_any (q : Int) (A : Option Addr) (n c : Nat) (f : List Int) (x : Int) (w : World) (h : Ints w A n f) :
    Calls Try.prog 13 #[.int .i64 q, .slice A n c, .int .i64 x] w fun e w' => e = .returned (.tuple #[.int .i64 (evM q f x).1, .bool (evM q f x).2]) ∧ Below w.heap.size w w' := by
  have hl := h.len
  subst hl
  have HI := Lib.hid h
  clear h
  go_enter Try.func13, Try.ntmps13
  go_wp2_with fail
  refine (yGood_any q _ 1 1 [(A, c, f)] _ (Slices.one (by rw [World.cell?_alloc_at _ _ _ _ (by simp)]; rfl) (HI.out.below (belA (Below.refl _ _))))).mono ?_
  rintro e w1_ ⟨rfl, hb1⟩
  have hW := hb1
  obtain ⟨hc, hf⟩ := bcell hW
  rw [one_short]
  cases q1 : polyB q f
  · go_wp2
    go_ret2
    exact ⟨ret_ib (by simp [evM, q1]), belT (by repeat (first | exact Below.refl _ _ | assumption | refine belA ?_ | refine belD ?_ | refine belN ?_ | refine belS ?_ (by simp) | refine belT ?_ (by assumption))) hW⟩
  obtain ⟨m1, m2, m3, m4⟩ := poly_of q1
  have HA := Lib.hid m4
  clear m4
  go_wp2_with fail
  refine (l1In_any _ _ _ _).mono ?_
  rintro e w' ⟨rfl, rfl⟩
  cases hx : inB x 0 (q - 1)
  · go_wp2
    go_ret2
    exact ⟨ret_ib (by simp [evM, hx]), belT (by repeat (first | exact Below.refl _ _ | assumption | refine belA ?_ | refine belD ?_ | refine belN ?_ | refine belS ?_ (by simp) | refine belT ?_ (by assumption))) hW⟩
  obtain ⟨x0, x1⟩ := inB_true hx
  go_wp2_with fail
  refine (yEval_any q A f.length c f x _ (HI.out.below (belT (by repeat (first | exact Below.refl _ _ | assumption | refine belA ?_ | refine belD ?_ | refine belN ?_ | refine belS ?_ (by simp) | refine belT ?_ (by assumption))) hW)) (by omega) (by omega) HA.out (by omega) (by omega)).mono ?_
  rintro e w2_ ⟨rfl, hb2⟩
  clear hc hf
  replace hW := belT hW hb2
  obtain ⟨hc, hf⟩ := bcell hW
  go_wp2
  go_ret2
  exact ⟨ret_ib (by simp [evM, q1, hx]), belT (by repeat (first | exact Below.refl _ _ | assumption | refine belA ?_ | refine belD ?_ | refine belN ?_ | refine belS ?_ (by simp) | refine belT ?_ (by assumption))) hW⟩

set_option maxHeartbeats 400000 in
theorem iEvalPoly_any (q : Int) (A : Option Addr) (n c : Nat) (f : List Int) (x : Int) (w : World) (h : Ints w A n f) :
    Calls Try.prog 15 #[.int .i64 q, .slice A n c, .int .i64 x] w fun e w' => e = .returned (.tuple #[.int .i64 (evM q f x).1, .bool (evM q f x).2]) ∧ Below w.heap.size w w' := by
  have hl := h.len
  subst hl
  have HI := Lib.hid h
  clear h
  go_enter Try.func15, Try.ntmps15
  go_wp2_with fail
  refine (isPoly_any q A f.length c f _ HI.out).mono ?_
  rintro e w1_ ⟨rfl, hb1⟩
  have hW := hb1
  obtain ⟨hc, hf⟩ := bcell hW
  cases q1 : polyB q f
  · go_wp2
    go_ret2
    exact ⟨ret_ib (by simp [evM, q1]), belT (by repeat (first | exact Below.refl _ _ | assumption | refine belA ?_ | refine belD ?_ | refine belN ?_ | refine belS ?_ (by simp) | refine belT ?_ (by assumption))) hW⟩
  obtain ⟨m1, m2, m3, m4⟩ := poly_of q1
  have HA := Lib.hid m4
  clear m4
  go_wp2_with fail
  refine (within_any _ _ _ _).mono ?_
  rintro e w' ⟨rfl, rfl⟩
  cases hx : inB x 0 (q - 1)
  · go_wp2
    go_ret2
    exact ⟨ret_ib (by simp [evM, hx]), belT (by repeat (first | exact Below.refl _ _ | assumption | refine belA ?_ | refine belD ?_ | refine belN ?_ | refine belS ?_ (by simp) | refine belT ?_ (by assumption))) hW⟩
  obtain ⟨x0, x1⟩ := inB_true hx
  go_wp2_with fail
  refine (evalPoly_any q A f.length c f x _ (HI.out.below (belT (by repeat (first | exact Below.refl _ _ | assumption | refine belA ?_ | refine belD ?_ | refine belN ?_ | refine belS ?_ (by simp) | refine belT ?_ (by assumption))) hW)) (by omega) (by omega) HA.out (by omega) (by omega)).mono ?_
  rintro e w2_ ⟨rfl, hb2⟩
  clear hc hf
  replace hW := belT hW hb2
  obtain ⟨hc, hf⟩ := bcell hW
  go_wp2
  go_ret2
  exact ⟨ret_ib (by simp [evM, q1, hx]), belT (by repeat (first | exact Below.refl _ _ | assumption | refine belA ?_ | refine belD ?_ | refine belN ?_ | refine belS ?_ (by simp) | refine belT ?_ (by assumption))) hW⟩

def degP (f : List Int) : Nat → Int
  | 0 => -1
  | k + 1 => if f.getD k 0 == 0 then degP f k else (k : Int)
def degM (q : Int) (f : List Int) : Int × Bool := if polyB q f then (degP f f.length, true) else (0, false)

set_option maxHeartbeats 800000 in
theorem sDegreeOf_any (q : Int) (A : Option Addr) (n c : Nat) (f : List Int) (w : World) (h : Ints w A n f) :
    Calls Try.prog 23 #[.int .i64 q, .slice A n c] w fun e w' => e = .returned (.tuple #[.int .i64 (degM q f).1, .bool (degM q f).2]) ∧ Below w.heap.size w w' := by
  have hl := h.len
  subst hl
  have HI := Lib.hid h
  clear h
  go_enter Try.func23, Try.ntmps23
  go_wp2_with fail
  refine (yGood_any q _ 1 1 [(A, c, f)] _ (Slices.one (by rw [World.cell?_alloc_at _ _ _ _ (by simp)]; rfl) (HI.out.below (belA (Below.refl _ _))))).mono ?_
  rintro e w1_ ⟨rfl, hb1⟩
  have hW := hb1
  obtain ⟨hc, hf⟩ := bcell hW
  rw [one_short]
  cases q1 : polyB q f
  · go_wp2
    go_ret2
    exact ⟨ret_ib (by simp [degM, q1]), belT (by repeat (first | exact Below.refl _ _ | assumption | refine belA ?_ | refine belD ?_ | refine belN ?_ | refine belS ?_ (by simp) | refine belT ?_ (by assumption))) hW⟩
  obtain ⟨m1, m2, m3, m4⟩ := poly_of q1
  clear m4
  have hm : degM q f = (degP f f.length, true) := by simp [degM, q1]
  have HM := Lib.hid hm
  clear hm
  have HJ := Lib.hid (HI.out.below (belT (by repeat (first | exact Below.refl _ _ | assumption | refine belA ?_ | refine belD ?_ | refine belN ?_ | refine belS ?_ (by simp) | refine belT ?_ (by assumption))) hW))
  have hB : Below w.heap.size w w1_ := belT (by repeat (first | exact Below.refl _ _ | assumption | refine belA ?_ | refine belD ?_ | refine belN ?_ | refine belS ?_ (by simp) | refine belT ?_ (by assumption))) hW
  clear hW hb1 hc hf HI
  go_wp2
  go_loop [6] (fun d => ∃ m : Nat, m ≤ f.length ∧ d = .int .i64 ((m : Int) - 1) ∧ Hid (degP f m = degP f f.length)) (fun d => (intOf d + 1).toNat)
  case atStart => exact ⟨f.length, Nat.le_refl _, rfl, Lib.hid rfl⟩
  case round =>
    obtain ⟨m, hm, rfl, HD⟩ := hrel
    rcases m with _ | m
    · go_wp2
      go_ret2
      exact ⟨ret_ib (by rw [HM.out, ← HD.out]; simp [degP]), hB⟩
    · obtain ⟨b, off, rfl, hb', hc⟩ := HJ.out.at_ (k := m) (by omega)
      have hs : degP f (m + 1) = if f.getD m 0 == 0 then degP f m else (m : Int) := rfl
      generalize f.getD m 0 = z at hc hs
      have e1 : ((m + 1 : Nat) : Int) - 1 = (m : Int) := by omega
      rw [e1]
      clear e1
      cases hz : (z == 0)
      · rw [hz] at hs
        have HS := Lib.hid hs
        clear hs
        go_wp2
        go_ret2
        exact ⟨ret_ib (by rw [HM.out, ← HD.out, HS.out]; simp), hB⟩
      · rw [hz] at hs
        have HS := Lib.hid hs
        clear hs
        go_wp2
        go_round
        case rel => exact ⟨m, by omega, rfl, Lib.hid (by rw [← HD.out, HS.out]; simp)⟩
        case measure => simp [intOf] <;> omega

set_option maxHeartbeats 800000 in
theorem iDegreeOf_any (q : Int) (A : Option Addr) (n c : Nat) (f : List Int) (w : World) (h : Ints w A n f) :
    Calls Try.prog 24 #[.int .i64 q, .slice A n c] w fun e w' => e = .returned (.tuple #[.int .i64 (degM q f).1, .bool (degM q f).2]) ∧ Below w.heap.size w w' := by
  have hl := h.len
  subst hl
  have HI := Lib.hid h
  clear h
  go_enter Try.func24, Try.ntmps24
  go_wp2_with fail
  refine (isPoly_any q A f.length c f _ HI.out).mono ?_
  rintro e w1_ ⟨rfl, hb1⟩
  have hW := hb1
  obtain ⟨hc, hf⟩ := bcell hW
  cases q1 : polyB q f
  · go_wp2
    go_ret2
    exact ⟨ret_ib (by simp [degM, q1]), belT (by repeat (first | exact Below.refl _ _ | assumption | refine belA ?_ | refine belD ?_ | refine belN ?_ | refine belS ?_ (by simp) | refine belT ?_ (by assumption))) hW⟩
  obtain ⟨m1, m2, m3, m4⟩ := poly_of q1
  clear m4
  have hm : degM q f = (degP f f.length, true) := by simp [degM, q1]
  have HM := Lib.hid hm
  clear hm
  have HJ := Lib.hid (HI.out.below (belT (by repeat (first | exact Below.refl _ _ | assumption | refine belA ?_ | refine belD ?_ | refine belN ?_ | refine belS ?_ (by simp) | refine belT ?_ (by assumption))) hW))
  have hB : Below w.heap.size w w1_ := belT (by repeat (first | exact Below.refl _ _ | assumption | refine belA ?_ | refine belD ?_ | refine belN ?_ | refine belS ?_ (by simp) | refine belT ?_ (by assumption))) hW
  clear hW hb1 hc hf HI
  go_wp2
  go_loop [6] (fun d => ∃ m : Nat, m ≤ f.length ∧ d = .int .i64 ((m : Int) - 1) ∧ Hid (degP f m = degP f f.length)) (fun d => (intOf d + 1).toNat)
  case atStart => exact ⟨f.length, Nat.le_refl _, rfl, Lib.hid rfl⟩
  case round =>
    obtain ⟨m, hm, rfl, HD⟩ := hrel
    rcases m with _ | m
    · go_wp2
      go_ret2
      exact ⟨ret_ib (by rw [HM.out, ← HD.out]; simp [degP]), hB⟩
    · obtain ⟨b, off, rfl, hb', hc⟩ := HJ.out.at_ (k := m) (by omega)
      have hs : degP f (m + 1) = if f.getD m 0 == 0 then degP f m else (m : Int) := rfl
      generalize f.getD m 0 = z at hc hs
      have e1 : ((m + 1 : Nat) : Int) - 1 = (m : Int) := by omega
      rw [e1]
      clear e1
      cases hz : (z == 0)
      · rw [hz] at hs
        have HS := Lib.hid hs
        clear hs
        go_wp2
        go_ret2
        exact ⟨ret_ib (by rw [HM.out, ← HD.out, HS.out]; simp), hB⟩
      · rw [hz] at hs
        have HS := Lib.hid hs
        clear hs
        go_wp2
        go_round
        case rel => exact ⟨m, by omega, rfl, Lib.hid (by rw [← HD.out, HS.out]; simp)⟩
        case measure => simp [intOf] <;> omega
end Go.Proofs.Ytkedcnnbcimffaa
