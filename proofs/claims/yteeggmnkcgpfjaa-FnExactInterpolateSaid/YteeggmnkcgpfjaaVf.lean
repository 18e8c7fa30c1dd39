/- Contracts of both sides: ValueFrom. -/
import Derived.Test.YteeggmnkcgpfjaaLgW
namespace Go.Proofs.Yteeggmnkcgpfjaa
open Go.RowKit
set_option linter.unusedVariables false
set_option linter.unusedSimpArgs false

theorem vf_no {q x : Int} {xs ys : List Int} (h : (tabB q xs ys && inB x 0 (q - 1)) = false) : vfM q xs ys x = (0, false) := by rw [vfM, h]; rfl
theorem vf_yes {q x : Int} {xs ys : List Int} (h : (tabB q xs ys && inB x 0 (q - 1)) = true) : vfM q xs ys x = (dotK (lagL q xs x) ys q xs.length, true) := by rw [vfM, h]; rfl
theorem poly_pr {q : Int} {xs : List Int} (h : polyB q xs = true) : primeB q = true := by simp only [polyB, fieldB, Bool.and_eq_true] at h; exact h.1.2
/-- what a table gives -/
theorem tab_all {q : Int} {xs ys : List Int} (h : tabB q xs ys = true) : (2 ≤ q ∧ q ≤ 2000000000) ∧ 0 < xs.length ∧ xs.length ≤ 24 ∧ ys.length = xs.length ∧ primeB q = true ∧ Res q xs ∧ diffB xs ∧ Res q ys := by
  obtain ⟨h1, h2, h3⟩ := tabB_of h
  obtain ⟨p1, p2, p3⟩ := arP_of h1
  obtain ⟨m1, m2, m3, m4⟩ := poly_of p1
  exact ⟨⟨m1, m2⟩, p3, m3, h2, poly_pr p1, Res.of_all m4, pts_diff p2, Res.of_all h3⟩

set_option maxHeartbeats 1600000 in
theorem yTable_any (q : Int) (A : Option Addr) (n c : Nat) (xs : List Int) (A' : Option Addr) (n' c' : Nat) (ys : List Int) (w : World) (h : Ints w A n xs) (h' : Ints w A' n' ys) (hcap : n ≤ c) :
    Calls Try.prog 93 #[.int .i64 q, .slice A n c, .slice A' n' c'] w fun e w' => e = .returned (.bool (tabB q xs ys)) ∧ Below w.heap.size w w' := by
  have hl := h.len
  subst hl
  have hl := h'.len
  subst hl
  have HI := Lib.hid h
  have HI' := Lib.hid h'
  have hle := h.le
  have hle' := h'.le
  clear h h'
  have HT := Lib.hid (tabB_spec q xs ys)
  have HPt := fun W (hw : Below w.heap.size w W) => yPoints_any A xs.length c xs W (HI.out.below hw) hcap
  have HPT := Lib.hid HPt
  clear HPt
  cases h1 : (polyB q xs && polyB q ys)
  · have HH := Lib.hid h1
    go_enter Try.func93, Try.ntmps93
    go_wp2_with fail
    refine (yGood_any q _ 2 2 [(A, c, xs), (A', c', ys)] _ (Slices.two (by rw [World.cell?_alloc_at _ _ _ _ (by simp)]; rfl) (by rw [World.cell?_alloc_at _ _ _ _ (by simp)]; rfl) (HI.out.below (belA (Below.refl _ _))) (HI'.out.below (belA (Below.refl _ _))))).mono ?_
    rintro e w1_ ⟨rfl, hb1⟩
    have hW := hb1
    obtain ⟨hc, hf⟩ := bcell hW
    rw [two_short, h1]
    go_wp2
    go_ret
    exact ⟨ret_bool (by rw [← HT.out, HH.out]; rfl), belT (by repeat (first | exact Below.refl _ _ | assumption | refine belA ?_ | refine belD ?_ | refine belN ?_ | refine belS ?_ (by simp) | refine belT ?_ (by assumption))) hW⟩
  · have HH := Lib.hid h1
    cases h2 : ptsB xs
    · have H2 := Lib.hid h2
      go_enter Try.func93, Try.ntmps93
      go_wp2_with fail
      refine (yGood_any q _ 2 2 [(A, c, xs), (A', c', ys)] _ (Slices.two (by rw [World.cell?_alloc_at _ _ _ _ (by simp)]; rfl) (by rw [World.cell?_alloc_at _ _ _ _ (by simp)]; rfl) (HI.out.below (belA (Below.refl _ _))) (HI'.out.below (belA (Below.refl _ _))))).mono ?_
      rintro e w1_ ⟨rfl, hb1⟩
      have hW := hb1
      obtain ⟨hc, hf⟩ := bcell hW
      rw [two_short, h1]
      go_wp2_with (go_at_call 133; refine (HPT.out _ (belT (by repeat (first | exact Below.refl _ _ | assumption | refine belA ?_ | refine belD ?_ | refine belN ?_ | refine belS ?_ (by simp) | refine belT ?_ (by assumption))) hW)).mono ?_; rintro e w' ⟨rfl, rfl⟩; rw [h2])
      go_ret
      exact ⟨ret_bool (by rw [← HT.out, HH.out, H2.out]; rfl), belT (by repeat (first | exact Below.refl _ _ | assumption | refine belA ?_ | refine belD ?_ | refine belN ?_ | refine belS ?_ (by simp) | refine belT ?_ (by assumption))) hW⟩
    · have H2 := Lib.hid h2
      by_cases h0 : 0 < xs.length
      · have hd0 : decide ((0 : Int) < (xs.length : Int)) = true := decide_eq_true (by omega)
        have H0 := Lib.hid (decide_eq_true h0)
        by_cases hxy : xs.length = ys.length
        · have he : ((xs.length : Int) == (ys.length : Int)) = true := by simp; omega
          have HE := Lib.hid (decide_eq_true hxy)
          clear hxy
          go_enter Try.func93, Try.ntmps93
          go_wp2_with fail
          refine (yGood_any q _ 2 2 [(A, c, xs), (A', c', ys)] _ (Slices.two (by rw [World.cell?_alloc_at _ _ _ _ (by simp)]; rfl) (by rw [World.cell?_alloc_at _ _ _ _ (by simp)]; rfl) (HI.out.below (belA (Below.refl _ _))) (HI'.out.below (belA (Below.refl _ _))))).mono ?_
          rintro e w1_ ⟨rfl, hb1⟩
          have hW := hb1
          obtain ⟨hc, hf⟩ := bcell hW
          rw [two_short, h1]
          go_wp2_with (go_at_call 133; refine (HPT.out _ (belT (by repeat (first | exact Below.refl _ _ | assumption | refine belA ?_ | refine belD ?_ | refine belN ?_ | refine belS ?_ (by simp) | refine belT ?_ (by assumption))) hW)).mono ?_; rintro e w' ⟨rfl, rfl⟩; rw [h2])
          go_ret
          exact ⟨ret_bool (by rw [← HT.out, HH.out, H2.out, H0.out, HE.out]; rfl), belT (by repeat (first | exact Below.refl _ _ | assumption | refine belA ?_ | refine belD ?_ | refine belN ?_ | refine belS ?_ (by simp) | refine belT ?_ (by assumption))) hW⟩
        · have he : ((xs.length : Int) == (ys.length : Int)) = false := by simp; omega
          have HE := Lib.hid (decide_eq_false hxy)
          clear hxy
          go_enter Try.func93, Try.ntmps93
          go_wp2_with fail
          refine (yGood_any q _ 2 2 [(A, c, xs), (A', c', ys)] _ (Slices.two (by rw [World.cell?_alloc_at _ _ _ _ (by simp)]; rfl) (by rw [World.cell?_alloc_at _ _ _ _ (by simp)]; rfl) (HI.out.below (belA (Below.refl _ _))) (HI'.out.below (belA (Below.refl _ _))))).mono ?_
          rintro e w1_ ⟨rfl, hb1⟩
          have hW := hb1
          obtain ⟨hc, hf⟩ := bcell hW
          rw [two_short, h1]
          go_wp2_with (go_at_call 133; refine (HPT.out _ (belT (by repeat (first | exact Below.refl _ _ | assumption | refine belA ?_ | refine belD ?_ | refine belN ?_ | refine belS ?_ (by simp) | refine belT ?_ (by assumption))) hW)).mono ?_; rintro e w' ⟨rfl, rfl⟩; rw [h2])
          go_ret
          exact ⟨ret_bool (by rw [← HT.out, HE.out]; simp), belT (by repeat (first | exact Below.refl _ _ | assumption | refine belA ?_ | refine belD ?_ | refine belN ?_ | refine belS ?_ (by simp) | refine belT ?_ (by assumption))) hW⟩
      · have hd0 : decide ((0 : Int) < (xs.length : Int)) = false := decide_eq_false (by omega)
        have H0 := Lib.hid (decide_eq_false h0)
        go_enter Try.func93, Try.ntmps93
        go_wp2_with fail
        refine (yGood_any q _ 2 2 [(A, c, xs), (A', c', ys)] _ (Slices.two (by rw [World.cell?_alloc_at _ _ _ _ (by simp)]; rfl) (by rw [World.cell?_alloc_at _ _ _ _ (by simp)]; rfl) (HI.out.below (belA (Below.refl _ _))) (HI'.out.below (belA (Below.refl _ _))))).mono ?_
        rintro e w1_ ⟨rfl, hb1⟩
        have hW := hb1
        obtain ⟨hc, hf⟩ := bcell hW
        rw [two_short, h1]
        go_wp2_with (go_at_call 133; refine (HPT.out _ (belT (by repeat (first | exact Below.refl _ _ | assumption | refine belA ?_ | refine belD ?_ | refine belN ?_ | refine belS ?_ (by simp) | refine belT ?_ (by assumption))) hW)).mono ?_; rintro e w' ⟨rfl, rfl⟩; rw [h2])
        go_ret
        exact ⟨ret_bool (by rw [← HT.out, H0.out]; simp), belT (by repeat (first | exact Below.refl _ _ | assumption | refine belA ?_ | refine belD ?_ | refine belN ?_ | refine belS ?_ (by simp) | refine belT ?_ (by assumption))) hW⟩
set_option maxHeartbeats 1600000 in
theorem sValueFrom_any (q : Int) (A : Option Addr) (n c : Nat) (xs : List Int) (A' : Option Addr) (n' c' : Nat) (ys : List Int) (x : Int) (w : World) (h : Ints w A n xs) (h' : Ints w A' n' ys) (hcap : n ≤ c) (hcap' : n' ≤ c') :
    Calls Try.prog 47 #[.int .i64 q, .slice A n c, .slice A' n' c', .int .i64 x] w fun e w' => e = .returned (.tuple #[.int .i64 (vfM q xs ys x).1, .bool (vfM q xs ys x).2]) ∧ Below w.heap.size w w' := by
  have hl := h.len
  subst hl
  have hl := h'.len
  subst hl
  have HI := Lib.hid h
  have HI' := Lib.hid h'
  clear h h'
  cases h1 : tabB q xs ys
  · have HN := Lib.hid (vf_no (q := q) (x := x) (by rw [h1]; rfl))
    rw [HN.out]
    go_enter Try.func47, Try.ntmps47
    go_wp2_with fail
    refine (yTable_any q A xs.length c xs A' ys.length c' ys _ HI.out HI'.out hcap).mono ?_
    rintro e w1_ ⟨rfl, hb1⟩
    have hW := hb1
    obtain ⟨hc, hf⟩ := bcell hW
    rw [h1]
    go_wp2
    go_ret2
    exact ⟨rfl, hW⟩
  · cases h2 : inB x 0 (q - 1)
    · have HN := Lib.hid (vf_no (q := q) (x := x) (xs := xs) (ys := ys) (by rw [h1, h2]; rfl))
      rw [HN.out]
      obtain ⟨m1, m2⟩ := (tab_all h1).1
      go_enter Try.func47, Try.ntmps47
      go_wp2_with fail
      refine (yTable_any q A xs.length c xs A' ys.length c' ys _ HI.out HI'.out hcap).mono ?_
      rintro e w1_ ⟨rfl, hb1⟩
      have hW := hb1
      obtain ⟨hc, hf⟩ := bcell hW
      rw [h1]
      go_wp2_with (go_at_call 72; refine (l1In_any _ _ _ _).mono ?_; rintro e w' ⟨rfl, rfl⟩; rw [h2])
      go_ret2
      exact ⟨rfl, hW⟩
    · have HN := Lib.hid (vf_yes (x := x) (xs := xs) (ys := ys) (by rw [h1, h2]; rfl))
      obtain ⟨⟨m1, m2⟩, t1, t2, t3, t4, t5, t6, t7⟩ := tab_all h1
      obtain ⟨x0, x1⟩ := inB_true h2
      have HLL := Lib.hid (lagL_len q xs x)
      have HLA := Lib.hid (lagL_all xs x m1)
      rw [← HLL.out] at HN
      rw [HN.out]
      have T3 := Lib.hid t3
      have T4 := Lib.hid (And.intro t4 (And.intro t5 t6))
      have T7 := Lib.hid t7.all_
      clear t3 t4 t5 t6 t7
      go_enter Try.func47, Try.ntmps47
      go_wp2_with fail
      refine (yTable_any q A xs.length c xs A' ys.length c' ys _ HI.out HI'.out hcap).mono ?_
      rintro e w1_ ⟨rfl, hb1⟩
      have hW := hb1
      obtain ⟨hc, hf⟩ := bcell hW
      rw [h1]
      go_wp2_with (first | (go_at_call 72; refine (l1In_any _ _ _ _).mono ?_; rintro e w' ⟨rfl, rfl⟩; rw [h2]) | (go_at_call 95; refine (yLagrange_any q A xs.length c xs x _ (HI.out.below hW) m1 m2 T4.out.1 T4.out.2.1 T4.out.2.2 t2 x0 (by omega)).mono ?_; rintro e w2 ⟨B2, c2, rfl, ho2, hb2⟩; have HO2 := Lib.hid ho2; clear ho2) | (go_at_call 94; refine (nDot_any B2 A' xs.length ys.length c2 c' (lagL q xs x) ys q _ (Ints.of_own HO2.out) (HI'.out.below (belT hW hb2)) T3.out.symm m1 m2 HLA.out T7.out).mono ?_; rintro e w' ⟨rfl, rfl⟩))
      go_ret2
      exact ⟨rfl, belT hW hb2⟩
set_option maxHeartbeats 1600000 in
theorem iValueFrom_any (q : Int) (A : Option Addr) (n c : Nat) (xs : List Int) (A' : Option Addr) (n' c' : Nat) (ys : List Int) (x : Int) (w : World) (h : Ints w A n xs) (h' : Ints w A' n' ys) (hcap : n ≤ c) (hcap' : n' ≤ c') :
    Calls Try.prog 48 #[.int .i64 q, .slice A n c, .slice A' n' c', .int .i64 x] w fun e w' => e = .returned (.tuple #[.int .i64 (vfM q xs ys x).1, .bool (vfM q xs ys x).2]) ∧ Below w.heap.size w w' := by
  have hl := h.len
  subst hl
  have hl := h'.len
  subst hl
  have HI := Lib.hid h
  have HI' := Lib.hid h'
  have hle := h.le
  have hle' := h'.le
  clear h h'
  cases h1 : arP q xs
  · have HN := Lib.hid (vf_no (q := q) (x := x) (ys := ys) (by rw [tabB, h1]; rfl))
    rw [HN.out]
    go_enter Try.func48, Try.ntmps48
    go_wp2_with fail
    refine (arePoints_any q A xs.length c xs _ HI.out hcap).mono ?_
    rintro e w1_ ⟨rfl, hb1⟩
    have hW := hb1
    obtain ⟨hc, hf⟩ := bcell hW
    rw [h1]
    go_wp2
    go_ret2
    exact ⟨rfl, hW⟩
  · have hm := (poly_of (arP_of h1).1)
    obtain ⟨m1, m2, m3, _⟩ := hm
    by_cases hxy : ys.length = xs.length
    · have he : ((ys.length : Int) != (xs.length : Int)) = false := by simp; omega
      have hb2 : (ys.length == xs.length) = true := by simp [hxy]
      cases h2 : (ys.all fun z => inB z 0 (q - 1))
      · have HN := Lib.hid (vf_no (q := q) (x := x) (xs := xs) (ys := ys) (by rw [tabB, h2]; simp))
        rw [HN.out]
        clear hxy
        go_enter Try.func48, Try.ntmps48
        go_wp2_with fail
        refine (arePoints_any q A xs.length c xs _ HI.out hcap).mono ?_
        rintro e w1_ ⟨rfl, hb1⟩
        have hW := hb1
        obtain ⟨hc, hf⟩ := bcell hW
        rw [h1]
        go_wp2_with (go_at_call 97; refine (areBelow_any A' ys.length c' ys q _ (HI'.out.below hW) (by omega) (by omega)).mono ?_; rintro e w2 ⟨rfl, hb2⟩; rw [h2])
        go_ret2
        exact ⟨rfl, belT hW hb2⟩
      · have ht : tabB q xs ys = true := by rw [tabB, h1, h2, hb2]; rfl
        cases h3 : inB x 0 (q - 1)
        · have HN := Lib.hid (vf_no (q := q) (x := x) (xs := xs) (ys := ys) (by rw [ht, h3]; rfl))
          rw [HN.out]
          clear hxy ht hb2
          go_enter Try.func48, Try.ntmps48
          go_wp2_with fail
          refine (arePoints_any q A xs.length c xs _ HI.out hcap).mono ?_
          rintro e w1_ ⟨rfl, hb1⟩
          have hW := hb1
          obtain ⟨hc, hf⟩ := bcell hW
          rw [h1]
          go_wp2_with (first | (go_at_call 97; refine (areBelow_any A' ys.length c' ys q _ (HI'.out.below hW) (by omega) (by omega)).mono ?_; rintro e w2 ⟨rfl, hb2⟩; rw [h2]) | (go_at_call 70; refine (within_any _ _ _ _).mono ?_; rintro e w' ⟨rfl, rfl⟩; rw [h3]))
          go_ret2
          exact ⟨rfl, belT hW hb2⟩
        · have HN := Lib.hid (vf_yes (x := x) (xs := xs) (ys := ys) (by rw [ht, h3]; rfl))
          obtain ⟨_, t1, t2, t3, t4, t5, t6, t7⟩ := tab_all ht
          obtain ⟨x0, x1⟩ := inB_true h3
          have HLL := Lib.hid (lagL_len q xs x)
          have HLA := Lib.hid (lagL_all xs x m1)
          rw [← HLL.out] at HN
          rw [HN.out]
          have T3 := Lib.hid t3
          have T4 := Lib.hid (And.intro t4 (And.intro t5 t6))
          have T7 := Lib.hid t7.all_
          clear t3 t4 t5 t6 t7 hxy ht hb2
          go_enter Try.func48, Try.ntmps48
          go_wp2_with fail
          refine (arePoints_any q A xs.length c xs _ HI.out hcap).mono ?_
          rintro e w1_ ⟨rfl, hb1⟩
          have hW := hb1
          obtain ⟨hc, hf⟩ := bcell hW
          rw [h1]
          go_wp2_with (first | (go_at_call 97; refine (areBelow_any A' ys.length c' ys q _ (HI'.out.below hW) (by omega) (by omega)).mono ?_; rintro e w2 ⟨rfl, hb2⟩; rw [h2]; have HB2 := Lib.hid (belT hW hb2); clear hb2) | (go_at_call 70; refine (within_any _ _ _ _).mono ?_; rintro e w' ⟨rfl, rfl⟩; rw [h3]) | (go_at_call 99; refine (lagrange_any q A xs.length c xs x _ (HI.out.below HB2.out) m1 m2 T4.out.1 T4.out.2.1 T4.out.2.2 t2 x0 (by omega)).mono ?_; rintro e w3 ⟨B3, c3, rfl, ho3, hb3⟩; have HO3 := Lib.hid ho3; have HB3 := Lib.hid (belT HB2.out hb3); clear ho3 hb3) | (go_at_call 98; refine (dot_any B3 A' xs.length ys.length c3 c' (lagL q xs x) ys q _ (Ints.of_own HO3.out) (HI'.out.below HB3.out) T3.out.symm m1 m2 HLA.out T7.out).mono ?_; rintro e w4 ⟨rfl, hb4⟩))
          go_ret2
          exact ⟨rfl, belT HB3.out hb4⟩
    · have he : ((ys.length : Int) != (xs.length : Int)) = true := by simp; omega
      have hb2 : (ys.length == xs.length) = false := by simp [hxy]
      have HN := Lib.hid (vf_no (q := q) (x := x) (xs := xs) (ys := ys) (by rw [tabB, hb2]; simp))
      rw [HN.out]
      clear hxy hb2
      go_enter Try.func48, Try.ntmps48
      go_wp2_with fail
      refine (arePoints_any q A xs.length c xs _ HI.out hcap).mono ?_
      rintro e w1_ ⟨rfl, hb1⟩
      have hW := hb1
      obtain ⟨hc, hf⟩ := bcell hW
      rw [h1]
      go_wp2
      go_ret2
      exact ⟨rfl, hW⟩
end Go.Proofs.Yteeggmnkcgpfjaa
