/- Contracts of both sides: DecryptElement, DecryptExp. -/
import Derived.Test.YtemhjhaokbgldaaEk
import Derived.Test.YtemhjhaokbgldaaEl
import Derived.Test.YtemhjhaokbgldaaLog
namespace Go.Proofs.Ytemhjhaokbgldaa
open Go.RowKit
set_option linter.unusedVariables false
attribute [local go_sem ↓] Go.wp_at_zero Go.wp_at_succ

theorem dec_has {p q s u v : Int} (hp : 2 ≤ p) (hq : 1 ≤ q) (h : hasC p q (u, v) = true) : hasB p q (decV p q s u v) = true := by
  simp only [hasC, Bool.and_eq_true] at h
  have hv := has_small h.2
  unfold decV
  rw [mul2 hv.1 hv.2]
  exact has_mulmod hp hq h.2 (has_pw hp hq (has_pw hp hq h.1))
def deM (p q g s u v : Int) : Int × Bool := if goodB p q g && hasC p q (u, v) && inB s 0 (q - 1) then (decV p q s u v, true) else (0, false)

set_option maxHeartbeats 400000 in
theorem sDecryptElement_any (p q g s u v : Int) (w : World) :
    Calls Try.prog 15 #[.agg #[.int .i64 p, .int .i64 q, .int .i64 g], .int .i64 s, .agg #[.int .i64 u, .int .i64 v]] w fun e' w' => e' = .returned (.tuple #[.int .i64 (deM p q g s u v).1, .bool (deM p q g s u v).2]) ∧ Below w.heap.size w w' := by
  go_enter Try.func15, Try.ntmps15
  go_wp2_with fail
  refine (l2Good_any p q g _).mono ?_
  rintro e w1_ ⟨rfl, hb1⟩
  have hW := hb1
  obtain ⟨hc, hf⟩ := bcell hW
  cases q1 : goodB p q g
  · go_wp2
    go_ret2
    exact ⟨ret_ib (by simp [deM, q1]), belT (by repeat (first | exact Below.refl _ _ | assumption | refine belA ?_ | refine belD ?_ | refine belN ?_ | refine belS ?_ (by simp) | refine belT ?_ (by assumption))) hW⟩
  obtain ⟨g1, g2, g3, g4, g5, g6⟩ := good_om q1
  go_wp2_with fail
  refine (eGood_any p q g _ 1 1 [(u, v)] _ (Cips.one (by rw [World.cell?_alloc_at _ _ _ _ (by simp)]; rfl) (by rw [World.cell?_alloc_at _ _ _ _ (by simp)]; rfl)) g1 g2 g3 g4).mono ?_
  rintro e w2_ ⟨rfl, hb2⟩
  clear hc hf
  replace hW := belT (belA hW) hb2
  obtain ⟨hc, hf⟩ := bcell hW
  rw [show (decide ((1 : Nat) ≤ 24) && [(u, v)].all (hasC p q)) = hasC p q (u, v) from by simp]
  cases q2 : hasC p q (u, v)
  · go_wp2
    go_ret2
    exact ⟨ret_ib (by simp [deM, q2]), belT (by repeat (first | exact Below.refl _ _ | assumption | refine belA ?_ | refine belD ?_ | refine belN ?_ | refine belS ?_ (by simp) | refine belT ?_ (by assumption))) hW⟩
  obtain ⟨⟨u0, u1⟩, v0, v1⟩ := hasC_small q2
  go_wp2_with fail
  refine (gExps_any p q g _ 1 1 [s] _ (Ints.one (by rw [World.cell?_alloc_at _ _ _ _ (by simp)]; rfl)) (by omega) (by omega)).mono ?_
  rintro e w3_ ⟨rfl, hb3⟩
  clear hc hf
  replace hW := belT (belA hW) hb3
  obtain ⟨hc, hf⟩ := bcell hW
  rw [one_all]
  cases q3 : inB s 0 (q - 1)
  · go_wp2
    go_ret2
    exact ⟨ret_ib (by simp [deM, q3]), belT (by repeat (first | exact Below.refl _ _ | assumption | refine belA ?_ | refine belD ?_ | refine belN ?_ | refine belS ?_ (by simp) | refine belT ?_ (by assumption))) hW⟩
  go_wp2_with fail
  refine (eDec_any p q g s u v _ (by omega) (by omega) (by omega) (by omega) (by omega) (by omega) (by omega) (by omega)).mono ?_
  rintro e w4_ ⟨rfl, hb4⟩
  clear hc hf
  replace hW := belT hW hb4
  obtain ⟨hc, hf⟩ := bcell hW
  go_wp2
  go_ret2
  exact ⟨ret_ib (by simp [deM, q1, q2, q3]), belT (by repeat (first | exact Below.refl _ _ | assumption | refine belA ?_ | refine belD ?_ | refine belN ?_ | refine belS ?_ (by simp) | refine belT ?_ (by assumption))) hW⟩
set_option maxHeartbeats 400000 in
theorem iDecryptElement_any (p q g s u v : Int) (w : World) :
    Calls Try.prog 18 #[.agg #[.int .i64 p, .int .i64 q, .int .i64 g], .int .i64 s, .agg #[.int .i64 u, .int .i64 v]] w fun e' w' => e' = .returned (.tuple #[.int .i64 (deM p q g s u v).1, .bool (deM p q g s u v).2]) ∧ Below w.heap.size w w' := by
  go_enter Try.func18, Try.ntmps18
  go_wp2_with fail
  refine (IsValidGroup_any p q g _).mono ?_
  rintro e w1_ ⟨rfl, hb1⟩
  have hW := hb1
  obtain ⟨hc, hf⟩ := bcell hW
  cases q1 : goodB p q g
  · go_wp2
    go_ret2
    exact ⟨ret_ib (by simp [deM, q1]), belT (by repeat (first | exact Below.refl _ _ | assumption | refine belA ?_ | refine belD ?_ | refine belN ?_ | refine belS ?_ (by simp) | refine belT ?_ (by assumption))) hW⟩
  obtain ⟨g1, g2, g3, g4, g5, g6⟩ := good_om q1
  go_wp2_with fail
  refine (isExp_any p q g s _ (by omega) (by omega)).mono ?_
  rintro e w2_ ⟨rfl, hb2⟩
  clear hc hf
  replace hW := belT hW hb2
  obtain ⟨hc, hf⟩ := bcell hW
  cases q2 : inB s 0 (q - 1)
  · go_wp2
    go_ret2
    exact ⟨ret_ib (by simp [deM, q2]), belT (by repeat (first | exact Below.refl _ _ | assumption | refine belA ?_ | refine belD ?_ | refine belN ?_ | refine belS ?_ (by simp) | refine belT ?_ (by assumption))) hW⟩
  go_wp2_with fail
  refine (hasCipher_any p q g u v _ g1 g2 g3 g4).mono ?_
  rintro e w3_ ⟨rfl, hb3⟩
  clear hc hf
  replace hW := belT hW hb3
  obtain ⟨hc, hf⟩ := bcell hW
  cases q3 : hasC p q (u, v)
  · go_wp2
    go_ret2
    exact ⟨ret_ib (by simp [deM, q3]), belT (by repeat (first | exact Below.refl _ _ | assumption | refine belA ?_ | refine belD ?_ | refine belN ?_ | refine belS ?_ (by simp) | refine belT ?_ (by assumption))) hW⟩
  obtain ⟨⟨u0, u1⟩, v0, v1⟩ := hasC_small q3
  go_wp2_with fail
  refine (decrypt_any p q g s u v _ (by omega) (by omega) (by omega) (by omega) (by omega) (by omega) (by omega) (by omega)).mono ?_
  rintro e w4_ ⟨rfl, hb4⟩
  clear hc hf
  replace hW := belT hW hb4
  obtain ⟨hc, hf⟩ := bcell hW
  go_wp2
  go_ret2
  exact ⟨ret_ib (by simp [deM, q1, q2, q3]), belT (by repeat (first | exact Below.refl _ _ | assumption | refine belA ?_ | refine belD ?_ | refine belN ?_ | refine belS ?_ (by simp) | refine belT ?_ (by assumption))) hW⟩

def dxM (p q g s u v most : Int) : Int × Bool := if (deM p q g s u v).2 && inB most 0 1000000 then logV p q g (decV p q s u v) most else (0, false)
theorem deM_no {p q g s u v : Int} (h : (goodB p q g && hasC p q (u, v) && inB s 0 (q - 1)) = false) : deM p q g s u v = (0, false) := by rw [deM, h]; rfl
theorem deM_yes {p q g s u v : Int} (h : (goodB p q g && hasC p q (u, v) && inB s 0 (q - 1)) = true) : deM p q g s u v = (decV p q s u v, true) := by rw [deM, h]; rfl
theorem de_of {p q g s u v : Int} (h : (goodB p q g && hasC p q (u, v) && inB s 0 (q - 1)) = true) : goodB p q g = true ∧ hasC p q (u, v) = true := by
  simp only [Bool.and_eq_true] at h
  exact h.1

set_option maxHeartbeats 400000 in
theorem sDecryptExp_any (p q g s u v most : Int) (w : World) :
    Calls Try.prog 26 #[.agg #[.int .i64 p, .int .i64 q, .int .i64 g], .int .i64 s, .agg #[.int .i64 u, .int .i64 v], .int .i64 most] w fun e' w' => e' = .returned (.tuple #[.int .i64 (dxM p q g s u v most).1, .bool (dxM p q g s u v most).2]) ∧ Below w.heap.size w w' := by
  cases hk : (goodB p q g && hasC p q (u, v) && inB s 0 (q - 1))
  · have HD := Lib.hid (deM_no hk)
    clear hk
    go_enter Try.func26, Try.ntmps26
    go_wp2_with fail
    refine (sDecryptElement_any p q g s u v _).mono ?_
    rintro e w1_ ⟨rfl, hb1⟩
    have hW := hb1
    obtain ⟨hc, hf⟩ := bcell hW
    rw [HD.out]
    go_wp2
    go_ret2
    exact ⟨ret_ib (by rw [dxM, HD.out]; rfl), belT (by repeat (first | exact Below.refl _ _ | assumption | refine belA ?_ | refine belD ?_ | refine belN ?_ | refine belS ?_ (by simp) | refine belT ?_ (by assumption))) hW⟩
  · have HD := Lib.hid (deM_yes hk)
    obtain ⟨hg, hc⟩ := de_of hk
    obtain ⟨g1, g2, g3, g4, g5, g6⟩ := good_om hg
    have hy := has_yS (by omega) (by omega) (good_has hg)
    have HY := Lib.hid hy
    clear hk hc hg hy
    go_enter Try.func26, Try.ntmps26
    go_wp2_with fail
    refine (sDecryptElement_any p q g s u v _).mono ?_
    rintro e w1_ ⟨rfl, hb1⟩
    have hW := hb1
    obtain ⟨hc, hf⟩ := bcell hW
    rw [HD.out]
    clear hc hf
    obtain ⟨hc, hf⟩ := bcell hW
    go_wp2_with fail
    refine (l1In_any _ _ _ _).mono ?_
    rintro e w' ⟨rfl, rfl⟩
    cases hq : inB most 0 1000000
    · go_wp2
      go_ret2
      exact ⟨ret_ib (by rw [dxM, HD.out, hq]; rfl), belT (by repeat (first | exact Below.refl _ _ | assumption | refine belA ?_ | refine belD ?_ | refine belN ?_ | refine belS ?_ (by simp) | refine belT ?_ (by assumption))) hW⟩
    obtain ⟨m1, m2⟩ := inB_true hq
    go_wp2_with fail
    refine (gLog_any p q g g (decV p q s u v) most _ (by omega) (by omega) (by omega) (by omega) (by omega) m1 m2 HY.out).mono ?_
    rintro e w2_ ⟨rfl, hb2⟩
    clear hc hf
    replace hW := belT hW hb2
    obtain ⟨hc, hf⟩ := bcell hW
    go_wp2
    go_ret2
    exact ⟨ret_ib (by rw [dxM, HD.out, hq]; rfl), belT (by repeat (first | exact Below.refl _ _ | assumption | refine belA ?_ | refine belD ?_ | refine belN ?_ | refine belS ?_ (by simp) | refine belT ?_ (by assumption))) hW⟩
theorem dx_log {p q g s u v most : Int} (hg : goodB p q g = true) (hc : hasC p q (u, v) = true) : logM p q g g (decV p q s u v) most = if inB most 0 1000000 then logV p q g (decV p q s u v) most else (0, false) := by
  obtain ⟨g1, g2, g3, g4, g5, g6⟩ := good_om hg
  rw [logM, hg, good_has hg, dec_has (by omega) (by omega) hc]
  rfl
set_option maxHeartbeats 400000 in
theorem iDecryptExp_any (p q g s u v most : Int) (w : World) :
    Calls Try.prog 27 #[.agg #[.int .i64 p, .int .i64 q, .int .i64 g], .int .i64 s, .agg #[.int .i64 u, .int .i64 v], .int .i64 most] w fun e' w' => e' = .returned (.tuple #[.int .i64 (dxM p q g s u v most).1, .bool (dxM p q g s u v most).2]) ∧ Below w.heap.size w w' := by
  cases hk : (goodB p q g && hasC p q (u, v) && inB s 0 (q - 1))
  · have HD := Lib.hid (deM_no hk)
    clear hk
    go_enter Try.func27, Try.ntmps27
    go_wp2_with fail
    refine (iDecryptElement_any p q g s u v _).mono ?_
    rintro e w1_ ⟨rfl, hb1⟩
    have hW := hb1
    obtain ⟨hc, hf⟩ := bcell hW
    rw [HD.out]
    go_wp2
    go_ret2
    exact ⟨ret_ib (by rw [dxM, HD.out]; rfl), belT (by repeat (first | exact Below.refl _ _ | assumption | refine belA ?_ | refine belD ?_ | refine belN ?_ | refine belS ?_ (by simp) | refine belT ?_ (by assumption))) hW⟩
  · have HD := Lib.hid (deM_yes hk)
    obtain ⟨hg, hc⟩ := de_of hk
    have HL := Lib.hid (dx_log (s := s) (most := most) hg hc)
    clear hk hc hg
    go_enter Try.func27, Try.ntmps27
    go_wp2_with fail
    refine (iDecryptElement_any p q g s u v _).mono ?_
    rintro e w1_ ⟨rfl, hb1⟩
    have hW := hb1
    obtain ⟨hc, hf⟩ := bcell hW
    rw [HD.out]
    go_wp2_with fail
    refine (iLogOf_any p q g g (decV p q s u v) most _).mono ?_
    rintro e w2_ ⟨rfl, hb2⟩
    clear hc hf
    replace hW := belT hW hb2
    obtain ⟨hc, hf⟩ := bcell hW
    rw [HL.out]
    cases hq : inB most 0 1000000
    · go_wp2
      go_ret2
      exact ⟨ret_ib (by rw [dxM, HD.out, hq]; rfl), belT (by repeat (first | exact Below.refl _ _ | assumption | refine belA ?_ | refine belD ?_ | refine belN ?_ | refine belS ?_ (by simp) | refine belT ?_ (by assumption))) hW⟩
    · go_wp2
      go_ret2
      exact ⟨ret_ib (by rw [dxM, HD.out, hq]; rfl), belT (by repeat (first | exact Below.refl _ _ | assumption | refine belA ?_ | refine belD ?_ | refine belN ?_ | refine belS ?_ (by simp) | refine belT ?_ (by assumption))) hW⟩
end Go.Proofs.Ytemhjhaokbgldaa
