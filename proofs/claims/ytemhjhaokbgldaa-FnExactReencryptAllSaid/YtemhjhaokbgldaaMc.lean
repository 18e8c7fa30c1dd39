/- Contracts of both sides: MulCiphers, CipherSum. -/
import Derived.Test.YtemhjhaokbgldaaMv
import Derived.Test.YtemhjhaokbgldaaCh3
namespace Go.Proofs.Ytemhjhaokbgldaa
open Go.RowKit
set_option linter.unusedVariables false
attribute [local go_sem ↓] Go.wp_at_zero Go.wp_at_succ
set_option linter.unusedSimpArgs false

def allC (p q : Int) (n : Nat) (l : List (Int × Int)) : Bool := decide (n ≤ 24) && l.all (hasC p q)
theorem allC_small {p q : Int} {n : Nat} {l : List (Int × Int)} (h : allC p q n l = true) : SmallC p l := by
  simp only [allC, Bool.and_eq_true] at h
  exact smallC_of h.2
def mcM (p q g : Int) (n : Nat) (l : List (Int × Int)) : (Int × Int) × Bool := if goodB p q g && allC p q n l then (mulCK p l n, true) else ((0, 0), false)
set_option maxHeartbeats 800000 in
theorem sMulCiphers_any (p q g : Int) (A : Option Addr) (n c : Nat) (l : List (Int × Int)) (w : World) (h : Cips w A n l) :
    Calls Try.prog 29 #[.agg #[.int .i64 p, .int .i64 q, .int .i64 g], .slice A n c] w fun e' w' => e' = .returned (.tuple #[.agg #[.int .i64 (mcM p q g n l).1.1, .int .i64 (mcM p q g n l).1.2], .bool (mcM p q g n l).2]) ∧ Below w.heap.size w w' := by
  have HI := Lib.hid h
  clear h
  go_enter Try.func29, Try.ntmps29
  go_wp2_with fail
  refine (l2Good_any p q g _).mono ?_
  rintro e w1_ ⟨rfl, hb1⟩
  have hW := hb1
  obtain ⟨hc, hf⟩ := bcell hW
  cases q1 : goodB p q g
  · go_wp2
    refine bodyPost_ret (v := .tuple #[.agg #[.int .i64 0, .int .i64 0], .bool false]) (by simp [results, Try.results29, go_sem, hc]) rfl ⟨ret_cb (by simp [mcM, q1]), ?_⟩
    exact (by repeat (first | refine belS ?_ (by simp <;> omega) | exact belT (by repeat (first | exact Below.refl _ _ | assumption | refine belA ?_ | refine belD ?_ | refine belN ?_ | refine belS ?_ (by simp) | refine belT ?_ (by assumption))) hW))
  obtain ⟨g1, g2, g3, g4, g5, g6⟩ := good_om q1
  go_wp2_with fail
  refine (eGood_any p q g A n c l _ (HI.out.below (belT (by repeat (first | exact Below.refl _ _ | assumption | refine belA ?_ | refine belD ?_ | refine belN ?_ | refine belS ?_ (by simp) | refine belT ?_ (by assumption))) hW)) g1 g2 g3 g4).mono ?_
  rintro e w2_ ⟨rfl, hb2⟩
  clear hc hf
  replace hW := belT hW hb2
  obtain ⟨hc, hf⟩ := bcell hW
  rw [show (decide (n ≤ 24) && l.all (hasC p q)) = allC p q n l from rfl]
  cases q2 : allC p q n l
  · go_wp2
    refine bodyPost_ret (v := .tuple #[.agg #[.int .i64 0, .int .i64 0], .bool false]) (by simp [results, Try.results29, go_sem, hc]) rfl ⟨ret_cb (by simp [mcM, q2]), ?_⟩
    exact (by repeat (first | refine belS ?_ (by simp <;> omega) | exact belT (by repeat (first | exact Below.refl _ _ | assumption | refine belA ?_ | refine belD ?_ | refine belN ?_ | refine belS ?_ (by simp) | refine belT ?_ (by assumption))) hW))
  have hs := allC_small q2
  go_wp2_with fail
  refine (eMul_any p q g A n c l _ (HI.out.below (belT (by repeat (first | exact Below.refl _ _ | assumption | refine belA ?_ | refine belD ?_ | refine belN ?_ | refine belS ?_ (by simp) | refine belT ?_ (by assumption))) hW)) (by omega) (by omega) hs).mono ?_
  rintro e w3_ ⟨rfl, hb3⟩
  clear hc hf
  replace hW := belT hW hb3
  obtain ⟨hc, hf⟩ := bcell hW
  go_wp2
  refine bodyPost_ret (v := .tuple #[.agg #[.int .i64 (mulCK p l n).1, .int .i64 (mulCK p l n).2], .bool true]) (by simp [results, Try.results29, go_sem, hc]) rfl ⟨ret_cb (by simp [mcM, q1, q2]), ?_⟩
  exact (by repeat (first | refine belS ?_ (by simp <;> omega) | exact belT (by repeat (first | exact Below.refl _ _ | assumption | refine belA ?_ | refine belD ?_ | refine belN ?_ | refine belS ?_ (by simp) | refine belT ?_ (by assumption))) hW))
set_option maxHeartbeats 800000 in
theorem iMulCiphers_any (p q g : Int) (A : Option Addr) (n c : Nat) (l : List (Int × Int)) (w : World) (h : Cips w A n l) :
    Calls Try.prog 31 #[.agg #[.int .i64 p, .int .i64 q, .int .i64 g], .slice A n c] w fun e' w' => e' = .returned (.tuple #[.agg #[.int .i64 (mcM p q g n l).1.1, .int .i64 (mcM p q g n l).1.2], .bool (mcM p q g n l).2]) ∧ Below w.heap.size w w' := by
  have HI := Lib.hid h
  clear h
  go_enter Try.func31, Try.ntmps31
  go_wp2_with fail
  refine (IsValidGroup_any p q g _).mono ?_
  rintro e w1_ ⟨rfl, hb1⟩
  have hW := hb1
  obtain ⟨hc, hf⟩ := bcell hW
  cases q1 : goodB p q g
  · go_wp2
    refine bodyPost_ret (v := .tuple #[.agg #[.int .i64 0, .int .i64 0], .bool false]) (by simp [results, Try.results31, go_sem, hc]) rfl ⟨ret_cb (by simp [mcM, q1]), ?_⟩
    exact (by repeat (first | refine belS ?_ (by simp <;> omega) | exact belT (by repeat (first | exact Below.refl _ _ | assumption | refine belA ?_ | refine belD ?_ | refine belN ?_ | refine belS ?_ (by simp) | refine belT ?_ (by assumption))) hW))
  obtain ⟨g1, g2, g3, g4, g5, g6⟩ := good_om q1
  go_wp2_with fail
  refine (hasCiphers_any p q g A n c l _ (HI.out.below (belT (by repeat (first | exact Below.refl _ _ | assumption | refine belA ?_ | refine belD ?_ | refine belN ?_ | refine belS ?_ (by simp) | refine belT ?_ (by assumption))) hW)) g1 g2 g3 g4).mono ?_
  rintro e w2_ ⟨rfl, hb2⟩
  clear hc hf
  replace hW := belT hW hb2
  obtain ⟨hc, hf⟩ := bcell hW
  rw [show (decide (n ≤ 24) && l.all (hasC p q)) = allC p q n l from rfl]
  cases q2 : allC p q n l
  · go_wp2
    refine bodyPost_ret (v := .tuple #[.agg #[.int .i64 0, .int .i64 0], .bool false]) (by simp [results, Try.results31, go_sem, hc]) rfl ⟨ret_cb (by simp [mcM, q2]), ?_⟩
    exact (by repeat (first | refine belS ?_ (by simp <;> omega) | exact belT (by repeat (first | exact Below.refl _ _ | assumption | refine belA ?_ | refine belD ?_ | refine belN ?_ | refine belS ?_ (by simp) | refine belT ?_ (by assumption))) hW))
  have hs := allC_small q2
  go_wp2_with fail
  refine (mulCiphers_any p q g A n c l _ (HI.out.below (belT (by repeat (first | exact Below.refl _ _ | assumption | refine belA ?_ | refine belD ?_ | refine belN ?_ | refine belS ?_ (by simp) | refine belT ?_ (by assumption))) hW)) (by omega) (by omega) hs).mono ?_
  rintro e w3_ ⟨rfl, hb3⟩
  clear hc hf
  replace hW := belT hW hb3
  obtain ⟨hc, hf⟩ := bcell hW
  go_wp2
  refine bodyPost_ret (v := .tuple #[.agg #[.int .i64 (mulCK p l n).1, .int .i64 (mulCK p l n).2], .bool true]) (by simp [results, Try.results31, go_sem, hc]) rfl ⟨ret_cb (by simp [mcM, q1, q2]), ?_⟩
  exact (by repeat (first | refine belS ?_ (by simp <;> omega) | exact belT (by repeat (first | exact Below.refl _ _ | assumption | refine belA ?_ | refine belD ?_ | refine belN ?_ | refine belS ?_ (by simp) | refine belT ?_ (by assumption))) hW))
def csM (p q g : Int) (n : Nat) (l : List (Int × Int)) : (Int × Int) × Bool := if n = 0 then ((0, 0), false) else mcM p q g n l
set_option maxHeartbeats 800000 in
theorem sCipherSum_any (p q g : Int) (A : Option Addr) (n c : Nat) (l : List (Int × Int)) (w : World) (h : Cips w A n l) :
    Calls Try.prog 33 #[.agg #[.int .i64 p, .int .i64 q, .int .i64 g], .slice A n c] w fun e' w' => e' = .returned (.tuple #[.agg #[.int .i64 (csM p q g n l).1.1, .int .i64 (csM p q g n l).1.2], .bool (csM p q g n l).2]) ∧ Below w.heap.size w w' := by
  have HI := Lib.hid h
  clear h
  by_cases hn0 : n = 0
  · have hd : ((n : Int) == 0) = true := by simp [hn0]
    have hd' : decide ((n : Int) = 0) = true := by simp [hn0]
    have HD := Lib.hid hn0
    clear hn0
    go_enter Try.func33, Try.ntmps33
    go_wp2
    refine bodyPost_ret (v := .tuple #[.agg #[.int .i64 0, .int .i64 0], .bool false]) (by simp [results, Try.results33, go_sem]) rfl ⟨ret_cb (by rw [csM, if_pos HD.out]), ?_⟩
    exact (by repeat (first | exact Below.refl _ _ | assumption | refine belA ?_ | refine belD ?_ | refine belN ?_ | refine belS ?_ (by simp <;> omega) | refine belT ?_ (by assumption)))
  · have hd : ((n : Int) == 0) = false := by simp; omega
    have hd' : decide ((n : Int) = 0) = false := by simp; omega
    have HD := Lib.hid hn0
    clear hn0
    have hr : csM p q g n l = mcM p q g n l := by rw [csM, if_neg HD.out]
    rw [hr]
    clear hr
    generalize hm : mcM p q g n l = r
    have HM := Lib.hid hm
    clear hm
    obtain ⟨⟨r0, r1⟩, r2⟩ := r
    go_enter Try.func33, Try.ntmps33
    go_wp2_with fail
    refine (sMulCiphers_any p q g A n c l _ (HI.out.below (by repeat (first | exact Below.refl _ _ | assumption | refine belA ?_ | refine belD ?_ | refine belN ?_ | refine belS ?_ (by simp) | refine belT ?_ (by assumption))))).mono ?_
    rintro e w1_ ⟨rfl, hb1⟩
    have hW := hb1
    obtain ⟨hc, hf⟩ := bcell hW
    rw [HM.out]
    go_wp2
    refine bodyPost_ret (v := .tuple #[.agg #[.int .i64 r0, .int .i64 r1], .bool r2]) (by simp [results, Try.results33, go_sem, hc]) rfl ⟨rfl, ?_⟩
    exact (by repeat (first | refine belS ?_ (by simp <;> omega) | exact belT (by repeat (first | exact Below.refl _ _ | assumption | refine belA ?_ | refine belD ?_ | refine belN ?_ | refine belS ?_ (by simp) | refine belT ?_ (by assumption))) hW))
set_option maxHeartbeats 800000 in
theorem iCipherSum_any (p q g : Int) (A : Option Addr) (n c : Nat) (l : List (Int × Int)) (w : World) (h : Cips w A n l) :
    Calls Try.prog 34 #[.agg #[.int .i64 p, .int .i64 q, .int .i64 g], .slice A n c] w fun e' w' => e' = .returned (.tuple #[.agg #[.int .i64 (csM p q g n l).1.1, .int .i64 (csM p q g n l).1.2], .bool (csM p q g n l).2]) ∧ Below w.heap.size w w' := by
  have HI := Lib.hid h
  clear h
  by_cases hn0 : n = 0
  · have hd : ((n : Int) == 0) = true := by simp [hn0]
    have hd' : decide ((n : Int) = 0) = true := by simp [hn0]
    have HD := Lib.hid hn0
    clear hn0
    go_enter Try.func34, Try.ntmps34
    go_wp2
    refine bodyPost_ret (v := .tuple #[.agg #[.int .i64 0, .int .i64 0], .bool false]) (by simp [results, Try.results34, go_sem]) rfl ⟨ret_cb (by rw [csM, if_pos HD.out]), ?_⟩
    exact (by repeat (first | exact Below.refl _ _ | assumption | refine belA ?_ | refine belD ?_ | refine belN ?_ | refine belS ?_ (by simp <;> omega) | refine belT ?_ (by assumption)))
  · have hd : ((n : Int) == 0) = false := by simp; omega
    have hd' : decide ((n : Int) = 0) = false := by simp; omega
    have HD := Lib.hid hn0
    clear hn0
    have hr : csM p q g n l = mcM p q g n l := by rw [csM, if_neg HD.out]
    rw [hr]
    clear hr
    generalize hm : mcM p q g n l = r
    have HM := Lib.hid hm
    clear hm
    obtain ⟨⟨r0, r1⟩, r2⟩ := r
    go_enter Try.func34, Try.ntmps34
    go_wp2_with fail
    refine (iMulCiphers_any p q g A n c l _ (HI.out.below (by repeat (first | exact Below.refl _ _ | assumption | refine belA ?_ | refine belD ?_ | refine belN ?_ | refine belS ?_ (by simp) | refine belT ?_ (by assumption))))).mono ?_
    rintro e w1_ ⟨rfl, hb1⟩
    have hW := hb1
    obtain ⟨hc, hf⟩ := bcell hW
    rw [HM.out]
    go_wp2
    refine bodyPost_ret (v := .tuple #[.agg #[.int .i64 r0, .int .i64 r1], .bool r2]) (by simp [results, Try.results34, go_sem, hc]) rfl ⟨rfl, ?_⟩
    exact (by repeat (first | refine belS ?_ (by simp <;> omega) | exact belT (by repeat (first | exact Below.refl _ _ | assumption | refine belA ?_ | refine belD ?_ | refine belN ?_ | refine belS ?_ (by simp) | refine belT ?_ (by assumption))) hW))
end Go.Proofs.Ytemhjhaokbgldaa
