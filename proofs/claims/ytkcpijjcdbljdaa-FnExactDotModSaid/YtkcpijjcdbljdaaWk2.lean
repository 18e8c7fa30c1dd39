/- Walks of the laws SumMod and DotMod. -/
import Derived.Test.YtkcpijjcdbljdaaSum
import Derived.Test.YtkcpijjcdbljdaaLw
namespace Go.Proofs.Ytkcpijjcdbljdaa
open Go.RowKit
set_option linter.unusedVariables false

def sumMod (zs : List Int) (m : Int) : Int × Bool := if termsB zs m then (sumK zs m zs.length, true) else (0, false)
theorem terms_of {zs : List Int} {m : Int} (h : termsB zs m = true) : 2 ≤ m ∧ m ≤ 2000000000 ∧ zs.length ≤ 200 ∧ (zs.all fun z => inB z 0 (m - 1)) = true := by
  simp only [termsB, Bool.and_eq_true, decide_eq_true_eq] at h
  have := inB_true h.1.1
  exact ⟨this.1, this.2, h.1.2, h.2⟩

set_option maxHeartbeats 400000 in
theorem sSumMod_any (A : Option Addr) (n c : Nat) (zs : List Int) (m : Int) (w : World) (h : Ints w A n zs) :
    Calls Try.prog 36 #[.slice A n c, .int .i64 m] w fun e' w' => e' = .returned (.tuple #[.int .i64 (sumMod zs m).1, .bool (sumMod zs m).2]) ∧ Below w.heap.size w w' := by
  have hl := h.len
  subst hl
  cases h1 : inB m 2 2000000000
  · go_enter Try.func36, Try.ntmps36
    go_wp2_with (first | (go_at_call 42; refine (nModulus_any _ _).mono ?_; rintro e w' ⟨rfl, rfl⟩))
    go_ret2
    exact ⟨ret_ib (by simp [sumMod, termsB, h1]), Below.refl _ _⟩
  obtain ⟨m1, m2⟩ := inB_true h1
  have H := Lib.hid (nList_any A zs.length c zs m w h (by omega) (by omega))
  cases ht : (decide (zs.length ≤ 200) && zs.all fun z => inB z 0 (m - 1))
  · rw [ht] at H
    go_enter Try.func36, Try.ntmps36
    go_wp2_with (first | (go_at_call 42; refine (nModulus_any _ _).mono ?_; rintro e w' ⟨rfl, rfl⟩) | (go_at_call 55; refine H.out.mono ?_; rintro e w' ⟨rfl, rfl⟩))
    go_ret2
    exact ⟨ret_ib (by rw [sumMod, termsB, h1, Bool.true_and, ht]; rfl), Below.refl _ _⟩
  · rw [ht] at H
    have H2 := Lib.hid (nSum_any A zs.length c zs m w h (by omega) (by omega) (by simp only [Bool.and_eq_true] at ht; exact ht.2))
    have HT := Lib.hid ht
    clear ht h
    go_enter Try.func36, Try.ntmps36
    go_wp2_with (first | (go_at_call 42; refine (nModulus_any _ _).mono ?_; rintro e w' ⟨rfl, rfl⟩) | (go_at_call 55; refine H.out.mono ?_; rintro e w' ⟨rfl, rfl⟩) | (go_at_call 59; refine H2.out.mono ?_; rintro e w' ⟨rfl, rfl⟩))
    go_ret2
    exact ⟨ret_ib (by rw [sumMod, termsB, h1, Bool.true_and, HT.out]; rfl), Below.refl _ _⟩

set_option maxHeartbeats 400000 in
theorem iSumMod_any (A : Option Addr) (n c : Nat) (zs : List Int) (m : Int) (w : World) (h : Ints w A n zs) :
    Calls Try.prog 37 #[.slice A n c, .int .i64 m] w fun e' w' => e' = .returned (.tuple #[.int .i64 (sumMod zs m).1, .bool (sumMod zs m).2]) ∧ Below w.heap.size w w' := by
  have H := Lib.hid (areTerms_any A n c zs m w h)
  cases ht : termsB zs m
  · rw [ht] at H
    go_enter Try.func37, Try.ntmps37
    go_wp2_with (go_at_call 57; refine H.out.mono ?_; rintro e w' ⟨rfl, hb⟩)
    go_ret2
    exact ⟨ret_ib (by rw [sumMod, ht]; rfl), (by repeat (first | exact Below.refl _ _ | assumption | refine belA ?_ | refine belD ?_ | refine belN ?_ | refine belS ?_ (by simp) | refine belT ?_ (by assumption)))⟩
  · rw [ht] at H
    obtain ⟨m1, m2, m3, m4⟩ := terms_of ht
    have HI := Lib.hid h
    have HT := Lib.hid ht
    have HA := Lib.hid m4
    clear ht h m4
    go_enter Try.func37, Try.ntmps37
    go_wp2_with (first | (go_at_call 57; refine H.out.mono ?_; rintro e w' ⟨rfl, hb⟩) | (go_at_call 60; refine (sum_any A n c zs m _ (HI.out.below hb) (by omega) (by omega) HA.out).mono ?_; rintro e w' ⟨rfl, rfl⟩))
    go_ret2
    exact ⟨ret_ib (by rw [sumMod, HT.out]; rfl), hb⟩

def dotMod (zs ys : List Int) (m : Int) : Int × Bool := if termsB zs m && termsB ys m && decide (zs.length = ys.length) then (dotK zs ys m zs.length, true) else (0, false)

set_option maxHeartbeats 800000 in
theorem sDotMod_any (A : Option Addr) (n c : Nat) (zs : List Int) (A' : Option Addr) (n' c' : Nat) (ys : List Int) (m : Int) (w : World) (h : Ints w A n zs) (h' : Ints w A' n' ys) :
    Calls Try.prog 32 #[.slice A n c, .slice A' n' c', .int .i64 m] w fun e' w' => e' = .returned (.tuple #[.int .i64 (dotMod zs ys m).1, .bool (dotMod zs ys m).2]) ∧ Below w.heap.size w w' := by
  have hl := h.len
  subst hl
  have hl := h'.len
  subst hl
  cases h1 : inB m 2 2000000000
  · go_enter Try.func32, Try.ntmps32
    go_wp2_with (first | (go_at_call 42; refine (nModulus_any _ _).mono ?_; rintro e w' ⟨rfl, rfl⟩))
    go_ret2
    exact ⟨ret_ib (by simp [dotMod, termsB, h1]), Below.refl _ _⟩
  obtain ⟨m1, m2⟩ := inB_true h1
  have H := Lib.hid (nList_any A zs.length c zs m w h (by omega) (by omega))
  have H' := Lib.hid (nList_any A' ys.length c' ys m w h' (by omega) (by omega))
  have e1 : termsB zs m = (decide (zs.length ≤ 200) && zs.all fun z => inB z 0 (m - 1)) := by rw [termsB, h1, Bool.true_and]
  have e2 : termsB ys m = (decide (ys.length ≤ 200) && ys.all fun z => inB z 0 (m - 1)) := by rw [termsB, h1, Bool.true_and]
  rw [← e1] at H
  rw [← e2] at H'
  clear e1 e2
  cases ht : termsB zs m
  · rw [ht] at H
    go_enter Try.func32, Try.ntmps32
    go_wp2_with (first | (go_at_call 42; refine (nModulus_any _ _).mono ?_; rintro e w' ⟨rfl, rfl⟩) | (go_at_call 55; refine H.out.mono ?_; rintro e w' ⟨rfl, rfl⟩))
    go_ret2
    exact ⟨ret_ib (by simp [dotMod, ht]), Below.refl _ _⟩
  rw [ht] at H
  cases ht' : termsB ys m
  · rw [ht'] at H'
    go_enter Try.func32, Try.ntmps32
    go_wp2_with fail
    refine (nModulus_any _ _).mono ?_
    rintro e w' ⟨rfl, rfl⟩
    go_wp2_with fail
    refine H.out.mono ?_
    rintro e w' ⟨rfl, rfl⟩
    go_wp2_with fail
    refine H'.out.mono ?_
    rintro e w' ⟨rfl, rfl⟩
    go_wp2
    go_ret2
    exact ⟨ret_ib (by simp [dotMod, ht']), Below.refl _ _⟩
  rw [ht'] at H'
  obtain ⟨q1, q2, q3, q4⟩ := terms_of ht
  obtain ⟨r1, r2, r3, r4⟩ := terms_of ht'
  by_cases hne : zs.length = ys.length
  · have hq : ((zs.length : Int) != (ys.length : Int)) = false := by simp [hne]
    have hd : (dotMod zs ys m) = (dotK zs ys m zs.length, true) := by simp [dotMod, ht, ht', hne]
    have H2 := Lib.hid (nDot_any A A' zs.length ys.length c c' zs ys m w h h' hne (by omega) (by omega) q4 r4)
    have HD := Lib.hid hd
    clear hd ht ht' h h' q4 r4
    have HN := Lib.hid hne
    clear hne
    go_enter Try.func32, Try.ntmps32
    go_wp2_with fail
    refine (nModulus_any _ _).mono ?_
    rintro e w' ⟨rfl, rfl⟩
    go_wp2_with fail
    refine H.out.mono ?_
    rintro e w' ⟨rfl, rfl⟩
    go_wp2_with fail
    refine H'.out.mono ?_
    rintro e w' ⟨rfl, rfl⟩
    go_wp2_with fail
    refine H2.out.mono ?_
    rintro e w' ⟨rfl, rfl⟩
    go_wp2
    go_ret2
    exact ⟨ret_ib (by rw [HD.out]), Below.refl _ _⟩
  · have hq : ((zs.length : Int) != (ys.length : Int)) = true := by simp; omega
    have hd : (dotMod zs ys m) = (0, false) := by simp [dotMod, hne]
    have HD := Lib.hid hd
    clear hd ht ht' h h' q4 r4 hne
    go_enter Try.func32, Try.ntmps32
    go_wp2_with fail
    refine (nModulus_any _ _).mono ?_
    rintro e w' ⟨rfl, rfl⟩
    go_wp2_with fail
    refine H.out.mono ?_
    rintro e w' ⟨rfl, rfl⟩
    go_wp2_with fail
    refine H'.out.mono ?_
    rintro e w' ⟨rfl, rfl⟩
    go_wp2
    go_ret2
    exact ⟨ret_ib (by rw [HD.out]), Below.refl _ _⟩

set_option maxHeartbeats 800000 in
theorem iDotMod_any (A : Option Addr) (n c : Nat) (zs : List Int) (A' : Option Addr) (n' c' : Nat) (ys : List Int) (m : Int) (w : World) (h : Ints w A n zs) (h' : Ints w A' n' ys) :
    Calls Try.prog 34 #[.slice A n c, .slice A' n' c', .int .i64 m] w fun e' w' => e' = .returned (.tuple #[.int .i64 (dotMod zs ys m).1, .bool (dotMod zs ys m).2]) ∧ Below w.heap.size w w' := by
  have hl := h.len
  subst hl
  have hl := h'.len
  subst hl
  have H := Lib.hid (areTerms_any A zs.length c zs m w h)
  cases ht : termsB zs m
  · rw [ht] at H
    go_enter Try.func34, Try.ntmps34
    go_wp2_with (go_at_call 57; refine H.out.mono ?_; rintro e w' ⟨rfl, hb⟩)
    go_ret2
    exact ⟨ret_ib (by simp [dotMod, ht]), (by repeat (first | exact Below.refl _ _ | assumption | refine belA ?_ | refine belD ?_ | refine belN ?_ | refine belS ?_ (by simp) | refine belT ?_ (by assumption)))⟩
  rw [ht] at H
  have HI := Lib.hid h
  have HI' := Lib.hid h'
  clear h h'
  cases ht' : termsB ys m
  · have hd : dotMod zs ys m = (0, false) := by simp [dotMod, ht']
    have HD := Lib.hid hd
    clear hd ht
    go_enter Try.func34, Try.ntmps34
    go_wp2_with fail
    refine H.out.mono ?_
    rintro e w1 ⟨rfl, hb1⟩
    go_wp2_with fail
    refine (areTerms_any A' ys.length c' ys m _ (HI'.out.below hb1)).mono ?_
    rintro e w2 ⟨rfl, hb2⟩
    go_wp2
    go_ret2
    exact ⟨ret_ib (by rw [HD.out]), belT hb1 hb2⟩
  obtain ⟨q1, q2, q3, q4⟩ := terms_of ht
  obtain ⟨r1, r2, r3, r4⟩ := terms_of ht'
  by_cases hne : zs.length = ys.length
  · have hq : ((zs.length : Int) != (ys.length : Int)) = false := by simp [hne]
    have hd : (dotMod zs ys m) = (dotK zs ys m zs.length, true) := by simp [dotMod, ht, ht', hne]
    have HD := Lib.hid hd
    have HN := Lib.hid hne
    have HQ := Lib.hid q4
    have HR := Lib.hid r4
    clear hd ht hne q4 r4
    go_enter Try.func34, Try.ntmps34
    go_wp2_with fail
    refine H.out.mono ?_
    rintro e w1 ⟨rfl, hb1⟩
    go_wp2_with fail
    refine (areTerms_any A' ys.length c' ys m _ (HI'.out.below hb1)).mono ?_
    rintro e w2 ⟨rfl, hb2⟩
    go_wp2_with fail
    refine (dot_any A A' zs.length ys.length c c' zs ys m _ ((HI.out.below hb1).below hb2) ((HI'.out.below hb1).below hb2) HN.out (by omega) (by omega) HQ.out HR.out).mono ?_
    rintro e w3 ⟨rfl, hb3⟩
    go_wp2
    go_ret2
    exact ⟨ret_ib (by rw [HD.out]), belT (belT hb1 hb2) hb3⟩
  · have hq : ((zs.length : Int) != (ys.length : Int)) = true := by simp; omega
    have hd : (dotMod zs ys m) = (0, false) := by simp [dotMod, hne]
    have HD := Lib.hid hd
    clear hd ht hne q4 r4
    go_enter Try.func34, Try.ntmps34
    go_wp2_with fail
    refine H.out.mono ?_
    rintro e w1 ⟨rfl, hb1⟩
    go_wp2_with fail
    refine (areTerms_any A' ys.length c' ys m _ (HI'.out.below hb1)).mono ?_
    rintro e w2 ⟨rfl, hb2⟩
    go_wp2
    go_ret2
    exact ⟨ret_ib (by rw [HD.out]), belT hb1 hb2⟩
end Go.Proofs.Ytkcpijjcdbljdaa
