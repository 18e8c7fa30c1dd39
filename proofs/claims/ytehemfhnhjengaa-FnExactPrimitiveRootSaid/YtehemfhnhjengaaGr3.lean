/- Contracts of both sides: KeyOf, ExpOf, InverseOf, MulOf, ProductOfPowers. -/
import Derived.Test.YtehemfhnhjengaaGr2
namespace Go.Proofs.Ytehemfhnhjengaa
open Go.RowKit
set_option linter.unusedVariables false
attribute [local go_sem ↓] Go.wp_at_zero Go.wp_at_succ

theorem ret_ib {a c : Int} {b d : Bool} (h : (a, b) = (c, d)) : Ending.returned (.tuple #[.int .i64 a, .bool b]) = .returned (.tuple #[.int .i64 c, .bool d]) := by
  injection h with h1 h2
  rw [h1, h2]
theorem ret_bb {a b c d : Bool} (h : (a, b) = (c, d)) : Ending.returned (.tuple #[.bool a, .bool b]) = .returned (.tuple #[.bool c, .bool d]) := by
  injection h with h1 h2
  rw [h1, h2]
/-- what a valid group gives for omega -/
theorem good_om {p q g : Int} (h : goodB p q g = true) : 3 ≤ p ∧ p ≤ 2000000000 ∧ 2 ≤ q ∧ q ≤ p - 1 ∧ 2 ≤ g ∧ g ≤ p - 1 := by
  have G := good_of h
  exact ⟨G.p1, G.p2, G.q1, G.q2, G.g1, G.g2⟩
theorem one_all (f : Int → Bool) (x : Int) : [x].all f = f x := by simp

def expM (p q g x e : Int) : Int × Bool := if goodB p q g && hasB p q x && inB e 0 (q - 1) then (gpow p q x e, true) else (0, false)

set_option maxHeartbeats 400000 in
theorem sExpOf_any (p q g x e : Int) (w : World) :
    Calls Try.prog 33 #[.agg #[.int .i64 p, .int .i64 q, .int .i64 g], .int .i64 x, .int .i64 e] w fun e' w' => e' = .returned (.tuple #[.int .i64 (expM p q g x e).1, .bool (expM p q g x e).2]) ∧ Below w.heap.size w w' := by
  go_enter Try.func33, Try.ntmps33
  go_wp2_with fail
  refine (l2Good_any p q g _).mono ?_
  rintro e w1_ ⟨rfl, hb1⟩
  have hW := hb1
  obtain ⟨hc, hf⟩ := bcell hW
  cases q1 : goodB p q g
  · go_wp2
    go_ret2
    exact ⟨ret_ib (by simp [expM, q1]), belT (by repeat (first | exact Below.refl _ _ | assumption | refine belA ?_ | refine belD ?_ | refine belN ?_ | refine belS ?_ (by simp) | refine belT ?_ (by assumption))) hW⟩
  obtain ⟨g1, g2, g3, g4, g5, g6⟩ := good_om q1
  go_wp2_with fail
  refine (gIs_any p q g _ 1 1 [x] _ (Ints.one (by rw [World.cell?_alloc_at _ _ _ _ rfl]; rfl)) g1 g2 g3 g4).mono ?_
  rintro e w2_ ⟨rfl, hb2⟩
  clear hc hf
  replace hW := belT (belA hW) hb2
  obtain ⟨hc, hf⟩ := bcell hW
  rw [one_all]
  cases q2 : hasB p q x
  · go_wp2
    go_ret2
    exact ⟨ret_ib (by simp [expM, q2]), belT (by repeat (first | exact Below.refl _ _ | assumption | refine belA ?_ | refine belD ?_ | refine belN ?_ | refine belS ?_ (by simp) | refine belT ?_ (by assumption))) hW⟩
  obtain ⟨x1, x2⟩ := has_small q2
  go_wp2_with fail
  refine (gExps_any p q g _ 1 1 [e] _ (Ints.one (by rw [World.cell?_alloc_at _ _ _ _ rfl]; rfl)) (by omega) (by omega)).mono ?_
  rintro e w3_ ⟨rfl, hb3⟩
  clear hc hf
  replace hW := belT (belA hW) hb3
  obtain ⟨hc, hf⟩ := bcell hW
  rw [one_all]
  cases q3 : inB e 0 (q - 1)
  · go_wp2
    go_ret2
    exact ⟨ret_ib (by simp [expM, q3]), belT (by repeat (first | exact Below.refl _ _ | assumption | refine belA ?_ | refine belD ?_ | refine belN ?_ | refine belS ?_ (by simp) | refine belT ?_ (by assumption))) hW⟩
  go_wp2_with fail
  refine (gExp_any p q g x e _ (by omega) (by omega) (by omega) (by omega) (by omega) (by omega)).mono ?_
  rintro e w4_ ⟨rfl, hb4⟩
  clear hc hf
  replace hW := belT hW hb4
  obtain ⟨hc, hf⟩ := bcell hW
  go_wp2
  go_ret2
  exact ⟨ret_ib (by simp [expM, q1, q2, q3]), belT (by repeat (first | exact Below.refl _ _ | assumption | refine belA ?_ | refine belD ?_ | refine belN ?_ | refine belS ?_ (by simp) | refine belT ?_ (by assumption))) hW⟩

set_option maxHeartbeats 400000 in
theorem iExpOf_any (p q g x e : Int) (w : World) :
    Calls Try.prog 34 #[.agg #[.int .i64 p, .int .i64 q, .int .i64 g], .int .i64 x, .int .i64 e] w fun e' w' => e' = .returned (.tuple #[.int .i64 (expM p q g x e).1, .bool (expM p q g x e).2]) ∧ Below w.heap.size w w' := by
  go_enter Try.func34, Try.ntmps34
  go_wp2_with fail
  refine (IsValidGroup_any p q g _).mono ?_
  rintro e w1_ ⟨rfl, hb1⟩
  have hW := hb1
  obtain ⟨hc, hf⟩ := bcell hW
  cases q1 : goodB p q g
  · go_wp2
    go_ret2
    exact ⟨ret_ib (by simp [expM, q1]), belT (by repeat (first | exact Below.refl _ _ | assumption | refine belA ?_ | refine belD ?_ | refine belN ?_ | refine belS ?_ (by simp) | refine belT ?_ (by assumption))) hW⟩
  obtain ⟨g1, g2, g3, g4, g5, g6⟩ := good_om q1
  go_wp2_with fail
  refine (has_any p q g x _ g1 g2 g3 g4).mono ?_
  rintro e w2_ ⟨rfl, hb2⟩
  clear hc hf
  replace hW := belT hW hb2
  obtain ⟨hc, hf⟩ := bcell hW
  cases q2 : hasB p q x
  · go_wp2
    go_ret2
    exact ⟨ret_ib (by simp [expM, q2]), belT (by repeat (first | exact Below.refl _ _ | assumption | refine belA ?_ | refine belD ?_ | refine belN ?_ | refine belS ?_ (by simp) | refine belT ?_ (by assumption))) hW⟩
  obtain ⟨x1, x2⟩ := has_small q2
  go_wp2_with fail
  refine (isExp_any p q g e _ (by omega) (by omega)).mono ?_
  rintro e w3_ ⟨rfl, hb3⟩
  clear hc hf
  replace hW := belT hW hb3
  obtain ⟨hc, hf⟩ := bcell hW
  cases q3 : inB e 0 (q - 1)
  · go_wp2
    go_ret2
    exact ⟨ret_ib (by simp [expM, q3]), belT (by repeat (first | exact Below.refl _ _ | assumption | refine belA ?_ | refine belD ?_ | refine belN ?_ | refine belS ?_ (by simp) | refine belT ?_ (by assumption))) hW⟩
  go_wp2_with fail
  refine (pow_any p q g x e _ (by omega) (by omega) (by omega) (by omega) (by omega) (by omega)).mono ?_
  rintro e w4_ ⟨rfl, hb4⟩
  clear hc hf
  replace hW := belT hW hb4
  obtain ⟨hc, hf⟩ := bcell hW
  go_wp2
  go_ret2
  exact ⟨ret_ib (by simp [expM, q1, q2, q3]), belT (by repeat (first | exact Below.refl _ _ | assumption | refine belA ?_ | refine belD ?_ | refine belN ?_ | refine belS ?_ (by simp) | refine belT ?_ (by assumption))) hW⟩

def keyM (p q g e : Int) : Int × Bool := if goodB p q g && inB e 0 (q - 1) then (gpow p q g e, true) else (0, false)
theorem good_has {p q g : Int} (h : goodB p q g = true) : hasB p q g = true := by
  have G := good_of h
  unfold hasB
  rw [inB_mk (by have := G.g1; omega) G.g2, G.o]
  rfl
theorem keyM_eq (p q g e : Int) : expM p q g g e = keyM p q g e := by
  unfold expM keyM
  cases h : goodB p q g
  · rfl
  · rw [good_has h]; simp

set_option maxHeartbeats 400000 in
theorem sKeyOf_any (p q g e : Int) (w : World) :
    Calls Try.prog 28 #[.agg #[.int .i64 p, .int .i64 q, .int .i64 g], .int .i64 e] w fun e' w' => e' = .returned (.tuple #[.int .i64 (keyM p q g e).1, .bool (keyM p q g e).2]) ∧ Below w.heap.size w w' := by
  go_enter Try.func28, Try.ntmps28
  go_wp2_with fail
  refine (l2Good_any p q g _).mono ?_
  rintro e w1_ ⟨rfl, hb1⟩
  have hW := hb1
  obtain ⟨hc, hf⟩ := bcell hW
  cases q1 : goodB p q g
  · go_wp2
    go_ret2
    exact ⟨ret_ib (by simp [keyM, q1]), belT (by repeat (first | exact Below.refl _ _ | assumption | refine belA ?_ | refine belD ?_ | refine belN ?_ | refine belS ?_ (by simp) | refine belT ?_ (by assumption))) hW⟩
  obtain ⟨g1, g2, g3, g4, g5, g6⟩ := good_om q1
  go_wp2_with fail
  refine (gExps_any p q g _ 1 1 [e] _ (Ints.one (by rw [World.cell?_alloc_at _ _ _ _ rfl]; rfl)) (by omega) (by omega)).mono ?_
  rintro e w2_ ⟨rfl, hb2⟩
  clear hc hf
  replace hW := belT (belA hW) hb2
  obtain ⟨hc, hf⟩ := bcell hW
  rw [one_all]
  cases q2 : inB e 0 (q - 1)
  · go_wp2
    go_ret2
    exact ⟨ret_ib (by simp [keyM, q2]), belT (by repeat (first | exact Below.refl _ _ | assumption | refine belA ?_ | refine belD ?_ | refine belN ?_ | refine belS ?_ (by simp) | refine belT ?_ (by assumption))) hW⟩
  go_wp2_with fail
  refine (gExp_any p q g g e _ (by omega) (by omega) (by omega) (by omega) (by omega) (by omega)).mono ?_
  rintro e w3_ ⟨rfl, hb3⟩
  clear hc hf
  replace hW := belT hW hb3
  obtain ⟨hc, hf⟩ := bcell hW
  go_wp2
  go_ret2
  exact ⟨ret_ib (by simp [keyM, q1, q2]), belT (by repeat (first | exact Below.refl _ _ | assumption | refine belA ?_ | refine belD ?_ | refine belN ?_ | refine belS ?_ (by simp) | refine belT ?_ (by assumption))) hW⟩

set_option maxHeartbeats 400000 in
theorem iKeyOf_any (p q g e : Int) (w : World) :
    Calls Try.prog 29 #[.agg #[.int .i64 p, .int .i64 q, .int .i64 g], .int .i64 e] w fun e' w' => e' = .returned (.tuple #[.int .i64 (keyM p q g e).1, .bool (keyM p q g e).2]) ∧ Below w.heap.size w w' := by
  have HK := Lib.hid (keyM_eq p q g e)
  go_enter Try.func29, Try.ntmps29
  go_wp2_with fail
  refine (iExpOf_any p q g g e _).mono ?_
  rintro e w1_ ⟨rfl, hb1⟩
  have hW := hb1
  obtain ⟨hc, hf⟩ := bcell hW
  rw [HK.out]
  go_wp2
  go_ret2
  exact ⟨rfl, belT (by repeat (first | exact Below.refl _ _ | assumption | refine belA ?_ | refine belD ?_ | refine belN ?_ | refine belS ?_ (by simp) | refine belT ?_ (by assumption))) hW⟩

def invE (p q g x : Int) : Int × Bool := if goodB p q g && hasB p q x then (pw x (q - 1) p, true) else (0, false)

set_option maxHeartbeats 400000 in
theorem sInverseOf_any (p q g x : Int) (w : World) :
    Calls Try.prog 25 #[.agg #[.int .i64 p, .int .i64 q, .int .i64 g], .int .i64 x] w fun e' w' => e' = .returned (.tuple #[.int .i64 (invE p q g x).1, .bool (invE p q g x).2]) ∧ Below w.heap.size w w' := by
  go_enter Try.func25, Try.ntmps25
  go_wp2_with fail
  refine (l2Good_any p q g _).mono ?_
  rintro e w1_ ⟨rfl, hb1⟩
  have hW := hb1
  obtain ⟨hc, hf⟩ := bcell hW
  cases q1 : goodB p q g
  · go_wp2
    go_ret2
    exact ⟨ret_ib (by simp [invE, q1]), belT (by repeat (first | exact Below.refl _ _ | assumption | refine belA ?_ | refine belD ?_ | refine belN ?_ | refine belS ?_ (by simp) | refine belT ?_ (by assumption))) hW⟩
  obtain ⟨g1, g2, g3, g4, g5, g6⟩ := good_om q1
  go_wp2_with fail
  refine (gIs_any p q g _ 1 1 [x] _ (Ints.one (by rw [World.cell?_alloc_at _ _ _ _ rfl]; rfl)) g1 g2 g3 g4).mono ?_
  rintro e w2_ ⟨rfl, hb2⟩
  clear hc hf
  replace hW := belT (belA hW) hb2
  obtain ⟨hc, hf⟩ := bcell hW
  rw [one_all]
  cases q2 : hasB p q x
  · go_wp2
    go_ret2
    exact ⟨ret_ib (by simp [invE, q2]), belT (by repeat (first | exact Below.refl _ _ | assumption | refine belA ?_ | refine belD ?_ | refine belN ?_ | refine belS ?_ (by simp) | refine belT ?_ (by assumption))) hW⟩
  obtain ⟨x1, x2⟩ := has_small q2
  go_wp2_with fail
  refine (gInv_any p q g x _ (by omega) (by omega) (by omega) (by omega) (by omega) (by omega)).mono ?_
  rintro e w3_ ⟨rfl, hb3⟩
  clear hc hf
  replace hW := belT hW hb3
  obtain ⟨hc, hf⟩ := bcell hW
  go_wp2
  go_ret2
  exact ⟨ret_ib (by simp [invE, q1, q2]), belT (by repeat (first | exact Below.refl _ _ | assumption | refine belA ?_ | refine belD ?_ | refine belN ?_ | refine belS ?_ (by simp) | refine belT ?_ (by assumption))) hW⟩

set_option maxHeartbeats 400000 in
theorem iInverseOf_any (p q g x : Int) (w : World) :
    Calls Try.prog 27 #[.agg #[.int .i64 p, .int .i64 q, .int .i64 g], .int .i64 x] w fun e' w' => e' = .returned (.tuple #[.int .i64 (invE p q g x).1, .bool (invE p q g x).2]) ∧ Below w.heap.size w w' := by
  go_enter Try.func27, Try.ntmps27
  go_wp2_with fail
  refine (IsValidGroup_any p q g _).mono ?_
  rintro e w1_ ⟨rfl, hb1⟩
  have hW := hb1
  obtain ⟨hc, hf⟩ := bcell hW
  cases q1 : goodB p q g
  · go_wp2
    go_ret2
    exact ⟨ret_ib (by simp [invE, q1]), belT (by repeat (first | exact Below.refl _ _ | assumption | refine belA ?_ | refine belD ?_ | refine belN ?_ | refine belS ?_ (by simp) | refine belT ?_ (by assumption))) hW⟩
  obtain ⟨g1, g2, g3, g4, g5, g6⟩ := good_om q1
  go_wp2_with fail
  refine (has_any p q g x _ g1 g2 g3 g4).mono ?_
  rintro e w2_ ⟨rfl, hb2⟩
  clear hc hf
  replace hW := belT hW hb2
  obtain ⟨hc, hf⟩ := bcell hW
  cases q2 : hasB p q x
  · go_wp2
    go_ret2
    exact ⟨ret_ib (by simp [invE, q2]), belT (by repeat (first | exact Below.refl _ _ | assumption | refine belA ?_ | refine belD ?_ | refine belN ?_ | refine belS ?_ (by simp) | refine belT ?_ (by assumption))) hW⟩
  obtain ⟨x1, x2⟩ := has_small q2
  go_wp2_with fail
  refine (inv_any p q g x _ (by omega) (by omega) (by omega) (by omega) (by omega) (by omega)).mono ?_
  rintro e w3_ ⟨rfl, hb3⟩
  clear hc hf
  replace hW := belT hW hb3
  obtain ⟨hc, hf⟩ := bcell hW
  go_wp2
  go_ret2
  exact ⟨ret_ib (by simp [invE, q1, q2]), belT (by repeat (first | exact Below.refl _ _ | assumption | refine belA ?_ | refine belD ?_ | refine belN ?_ | refine belS ?_ (by simp) | refine belT ?_ (by assumption))) hW⟩

def mulM (p q g : Int) (zs : List Int) : Int × Bool := if goodB p q g && decide (zs.length ≤ 24) && zs.all (hasB p q) then (mulK p zs zs.length, true) else (0, false)

set_option maxHeartbeats 400000 in
theorem sMulOf_any (p q g : Int) (A : Option Addr) (n c : Nat) (zs : List Int) (w : World) (h : Ints w A n zs) :
    Calls Try.prog 43 #[.agg #[.int .i64 p, .int .i64 q, .int .i64 g], .slice A n c] w fun e' w' => e' = .returned (.tuple #[.int .i64 (mulM p q g zs).1, .bool (mulM p q g zs).2]) ∧ Below w.heap.size w w' := by
  have hl := h.len
  subst hl
  have HI := Lib.hid h
  clear h
  by_cases hl : 24 < zs.length
  · have hl' : decide (zs.length ≤ 24) = false := by simp; omega
    go_enter Try.func43, Try.ntmps43
    go_wp2_with fail
    refine (l2Good_any p q g _).mono ?_
    rintro e w1_ ⟨rfl, hb1⟩
    have hW := hb1
    obtain ⟨hc, hf⟩ := bcell hW
    cases q1 : goodB p q g
    · go_wp2
      go_ret2
      exact ⟨ret_ib (by simp [mulM, q1]), belT (by repeat (first | exact Below.refl _ _ | assumption | refine belA ?_ | refine belD ?_ | refine belN ?_ | refine belS ?_ (by simp) | refine belT ?_ (by assumption))) hW⟩
    go_wp2
    go_ret2
    exact ⟨ret_ib (by simp [mulM, hl']), belT (by repeat (first | exact Below.refl _ _ | assumption | refine belA ?_ | refine belD ?_ | refine belN ?_ | refine belS ?_ (by simp) | refine belT ?_ (by assumption))) hW⟩
  · have hl' : decide (zs.length ≤ 24) = true := by simp; omega
    go_enter Try.func43, Try.ntmps43
    go_wp2_with fail
    refine (l2Good_any p q g _).mono ?_
    rintro e w1_ ⟨rfl, hb1⟩
    have hW := hb1
    obtain ⟨hc, hf⟩ := bcell hW
    cases q1 : goodB p q g
    · go_wp2
      go_ret2
      exact ⟨ret_ib (by simp [mulM, q1]), belT (by repeat (first | exact Below.refl _ _ | assumption | refine belA ?_ | refine belD ?_ | refine belN ?_ | refine belS ?_ (by simp) | refine belT ?_ (by assumption))) hW⟩
    obtain ⟨g1, g2, g3, g4, g5, g6⟩ := good_om q1
    go_wp2_with fail
    refine (gIs_any p q g A zs.length c zs _ (HI.out.below (belT (by repeat (first | exact Below.refl _ _ | assumption | refine belA ?_ | refine belD ?_ | refine belN ?_ | refine belS ?_ (by simp) | refine belT ?_ (by assumption))) hW)) g1 g2 g3 g4).mono ?_
    rintro e w2_ ⟨rfl, hb2⟩
    clear hc hf
    replace hW := belT hW hb2
    obtain ⟨hc, hf⟩ := bcell hW
    cases q2 : zs.all (hasB p q)
    · go_wp2
      go_ret2
      exact ⟨ret_ib (by simp [mulM, q2]), belT (by repeat (first | exact Below.refl _ _ | assumption | refine belA ?_ | refine belD ?_ | refine belN ?_ | refine belS ?_ (by simp) | refine belT ?_ (by assumption))) hW⟩
    go_wp2_with fail
    refine (gMul_any p q g A zs.length c zs _ (HI.out.below (belT (by repeat (first | exact Below.refl _ _ | assumption | refine belA ?_ | refine belD ?_ | refine belN ?_ | refine belS ?_ (by simp) | refine belT ?_ (by assumption))) hW)) (by omega) (by omega) (all_small q2)).mono ?_
    rintro e w3_ ⟨rfl, hb3⟩
    clear hc hf
    replace hW := belT hW hb3
    obtain ⟨hc, hf⟩ := bcell hW
    go_wp2
    go_ret2
    exact ⟨ret_ib (by rw [mulM, q1, hl', q2]; rfl), belT (by repeat (first | exact Below.refl _ _ | assumption | refine belA ?_ | refine belD ?_ | refine belN ?_ | refine belS ?_ (by simp) | refine belT ?_ (by assumption))) hW⟩

set_option maxHeartbeats 400000 in
theorem iMulOf_any (p q g : Int) (A : Option Addr) (n c : Nat) (zs : List Int) (w : World) (h : Ints w A n zs) :
    Calls Try.prog 45 #[.agg #[.int .i64 p, .int .i64 q, .int .i64 g], .slice A n c] w fun e' w' => e' = .returned (.tuple #[.int .i64 (mulM p q g zs).1, .bool (mulM p q g zs).2]) ∧ Below w.heap.size w w' := by
  have hl := h.len
  subst hl
  have HI := Lib.hid h
  clear h
  by_cases hl : 24 < zs.length
  · have hl' : decide (zs.length ≤ 24) = false := by simp; omega
    go_enter Try.func45, Try.ntmps45
    go_wp2_with fail
    refine (IsValidGroup_any p q g _).mono ?_
    rintro e w1_ ⟨rfl, hb1⟩
    have hW := hb1
    obtain ⟨hc, hf⟩ := bcell hW
    cases q1 : goodB p q g
    · go_wp2
      go_ret2
      exact ⟨ret_ib (by simp [mulM, q1]), belT (by repeat (first | exact Below.refl _ _ | assumption | refine belA ?_ | refine belD ?_ | refine belN ?_ | refine belS ?_ (by simp) | refine belT ?_ (by assumption))) hW⟩
    go_wp2
    go_ret2
    exact ⟨ret_ib (by simp [mulM, hl']), belT (by repeat (first | exact Below.refl _ _ | assumption | refine belA ?_ | refine belD ?_ | refine belN ?_ | refine belS ?_ (by simp) | refine belT ?_ (by assumption))) hW⟩
  · have hl' : decide (zs.length ≤ 24) = true := by simp; omega
    go_enter Try.func45, Try.ntmps45
    go_wp2_with fail
    refine (IsValidGroup_any p q g _).mono ?_
    rintro e w1_ ⟨rfl, hb1⟩
    have hW := hb1
    obtain ⟨hc, hf⟩ := bcell hW
    cases q1 : goodB p q g
    · go_wp2
      go_ret2
      exact ⟨ret_ib (by simp [mulM, q1]), belT (by repeat (first | exact Below.refl _ _ | assumption | refine belA ?_ | refine belD ?_ | refine belN ?_ | refine belS ?_ (by simp) | refine belT ?_ (by assumption))) hW⟩
    obtain ⟨g1, g2, g3, g4, g5, g6⟩ := good_om q1
    go_wp2_with fail
    refine (hasAll_any p q g A zs.length c zs _ (HI.out.below (belT (by repeat (first | exact Below.refl _ _ | assumption | refine belA ?_ | refine belD ?_ | refine belN ?_ | refine belS ?_ (by simp) | refine belT ?_ (by assumption))) hW)) g1 g2 g3 g4).mono ?_
    rintro e w2_ ⟨rfl, hb2⟩
    clear hc hf
    replace hW := belT hW hb2
    obtain ⟨hc, hf⟩ := bcell hW
    cases q2 : zs.all (hasB p q)
    · go_wp2
      go_ret2
      exact ⟨ret_ib (by simp [mulM, q2]), belT (by repeat (first | exact Below.refl _ _ | assumption | refine belA ?_ | refine belD ?_ | refine belN ?_ | refine belS ?_ (by simp) | refine belT ?_ (by assumption))) hW⟩
    go_wp2_with fail
    refine (mul_any p q g A zs.length c zs _ (HI.out.below (belT (by repeat (first | exact Below.refl _ _ | assumption | refine belA ?_ | refine belD ?_ | refine belN ?_ | refine belS ?_ (by simp) | refine belT ?_ (by assumption))) hW)) (by omega) (by omega) (all_small q2)).mono ?_
    rintro e w3_ ⟨rfl, hb3⟩
    clear hc hf
    replace hW := belT hW hb3
    obtain ⟨hc, hf⟩ := bcell hW
    go_wp2
    go_ret2
    exact ⟨ret_ib (by rw [mulM, q1, hl', q2]; rfl), belT (by repeat (first | exact Below.refl _ _ | assumption | refine belA ?_ | refine belD ?_ | refine belN ?_ | refine belS ?_ (by simp) | refine belT ?_ (by assumption))) hW⟩
end Go.Proofs.Ytehemfhnhjengaa
