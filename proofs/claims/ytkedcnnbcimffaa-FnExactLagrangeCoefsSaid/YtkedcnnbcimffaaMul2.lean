/- MulPolys, PolyFromRoots: contracts of both sides. -/
import Derived.Test.YtkedcnnbcimffaaPoly3
import Derived.Test.YtkedcnnbcimffaaMul
namespace Go.Proofs.Ytkedcnnbcimffaa
open Go.RowKit
set_option linter.unusedVariables false

theorem Res.of_all {q : Int} {f : List Int} (h : (f.all fun z => inB z 0 (q - 1)) = true) : Res q f := fun j hj => all_bd rfl h hj
def mlM (q : Int) (f g : List Int) : List Int × Bool := if polyB q f && polyB q g && decide (f.length + g.length ≤ 25) then (mulL q f g, true) else ([], false)
theorem mlM_len (q : Int) (f g : List Int) : (mlM q f g).1.length ≤ f.length + g.length := by
  unfold mlM
  split
  · exact mulL_le q f g
  · simp

set_option maxHeartbeats 800000 in
theorem sMulPolys_any (q : Int) (A : Option Addr) (n c : Nat) (f : List Int) (A' : Option Addr) (n' c' : Nat) (g : List Int) (w : World) (h : Ints w A n f) (h' : Ints w A' n' g) :
    Calls Try.prog 25 #[.int .i64 q, .slice A n c, .slice A' n' c'] w fun e w' => ∃ B cc, e = .returned (.tuple #[.slice B (mlM q f g).1.length cc, .bool (mlM q f g).2]) ∧ w'.ownsRow w.heap.size 3 1 (.slice B (mlM q f g).1.length cc) (mlM q f g).1.length ((mlM q f g).1.map (Value.int .i64)) ∧ Below w.heap.size w w' := by
  have hl := h.len
  subst hl
  have hl := h'.len
  subst hl
  have HI := Lib.hid h
  have HI' := Lib.hid h'
  have hle := h.le
  have hle' := h'.le
  clear h h'
  go_enter Try.func25, Try.ntmps25
  go_wp2_with fail
  refine (yGood_any q _ 2 2 [(A, c, f), (A', c', g)] _ (Slices.two (by rw [World.cell?_alloc_at _ _ _ _ (by simp)]; rfl) (by rw [World.cell?_alloc_at _ _ _ _ (by simp)]; rfl) (HI.out.below (belA (Below.refl _ _))) (HI'.out.below (belA (Below.refl _ _))))).mono ?_
  rintro e w1_ ⟨rfl, hb1⟩
  have hW := hb1
  obtain ⟨hc, hf⟩ := bcell hW
  rw [two_short]
  cases hp : (polyB q f && polyB q g)
  · have HR := Lib.hid (show mlM q f g = ([], false) by simp [mlM, hp])
    go_wp2
    go_ret2
    rw [HR.out]
    exact ⟨none, 0, rfl, own_nil _ _, belT (by repeat (first | exact Below.refl _ _ | assumption | refine belA ?_ | refine belD ?_ | refine belN ?_ | refine belS ?_ (by simp) | refine belT ?_ (by assumption))) hW⟩
  · obtain ⟨p1, p2⟩ := poly2_of hp
    obtain ⟨m1, m2, m3, m4⟩ := poly_of p1
    obtain ⟨m5, m6, m7, m8⟩ := poly_of p2
    have HA := Lib.hid (Res.of_all m4)
    have HA' := Lib.hid (Res.of_all m8)
    by_cases hs : f.length + g.length ≤ 25
    · have HR := Lib.hid (show mlM q f g = (mulL q f g, true) by simp [mlM, hp, hs])
      clear m4 m8 p1 p2 hp
      go_wp2_with fail
      refine (yMul_any q A f.length c f A' g.length c' g _ (HI.out.below (belT (by repeat (first | exact Below.refl _ _ | assumption | refine belA ?_ | refine belD ?_ | refine belN ?_ | refine belS ?_ (by simp) | refine belT ?_ (by assumption))) hW)) (HI'.out.below (belT (by repeat (first | exact Below.refl _ _ | assumption | refine belA ?_ | refine belD ?_ | refine belN ?_ | refine belS ?_ (by simp) | refine belT ?_ (by assumption))) hW)) m1 m2 HA.out HA'.out (by omega) (by omega)).mono ?_
      rintro e w2_ ⟨B, cc, rfl, hown, hb2⟩
      have hB1 : Below w.heap.size w w1_ := belT (by repeat (first | exact Below.refl _ _ | assumption | refine belA ?_ | refine belD ?_ | refine belN ?_ | refine belS ?_ (by simp) | refine belT ?_ (by assumption))) hW
      go_wp2
      go_ret2
      rw [HR.out]
      exact ⟨B, cc, rfl, ownDown hown hB1.size, belT hB1 hb2⟩
    · have HR := Lib.hid (show mlM q f g = ([], false) by simp [mlM, hs])
      clear m4 m8 p1 p2 hp
      go_wp2
      go_ret2
      rw [HR.out]
      exact ⟨none, 0, rfl, own_nil _ _, belT (by repeat (first | exact Below.refl _ _ | assumption | refine belA ?_ | refine belD ?_ | refine belN ?_ | refine belS ?_ (by simp) | refine belT ?_ (by assumption))) hW⟩

set_option maxHeartbeats 800000 in
theorem iMulPolys_any (q : Int) (A : Option Addr) (n c : Nat) (f : List Int) (A' : Option Addr) (n' c' : Nat) (g : List Int) (w : World) (h : Ints w A n f) (h' : Ints w A' n' g) :
    Calls Try.prog 26 #[.int .i64 q, .slice A n c, .slice A' n' c'] w fun e w' => ∃ B cc, e = .returned (.tuple #[.slice B (mlM q f g).1.length cc, .bool (mlM q f g).2]) ∧ w'.ownsRow w.heap.size 3 1 (.slice B (mlM q f g).1.length cc) (mlM q f g).1.length ((mlM q f g).1.map (Value.int .i64)) ∧ Below w.heap.size w w' := by
  have hl := h.len
  subst hl
  have hl := h'.len
  subst hl
  have HI := Lib.hid h
  have HI' := Lib.hid h'
  clear h h'
  go_enter Try.func26, Try.ntmps26
  go_wp2_with fail
  refine (isPoly_any q A f.length c f _ HI.out).mono ?_
  rintro e w1_ ⟨rfl, hb1⟩
  have hW := hb1
  obtain ⟨hc, hf⟩ := bcell hW
  cases hp : polyB q f
  · have HR := Lib.hid (show mlM q f g = ([], false) by simp [mlM, hp])
    go_wp2
    go_ret2
    rw [HR.out]
    exact ⟨none, 0, rfl, own_nil _ _, belT (by repeat (first | exact Below.refl _ _ | assumption | refine belA ?_ | refine belD ?_ | refine belN ?_ | refine belS ?_ (by simp) | refine belT ?_ (by assumption))) hW⟩
  go_wp2_with fail
  refine (isPoly_any q A' g.length c' g _ (HI'.out.below hW)).mono ?_
  rintro e w2_ ⟨rfl, hb2⟩
  clear hc hf
  replace hW := belT hW hb2
  obtain ⟨hc, hf⟩ := bcell hW
  cases hp2 : polyB q g
  · have HR := Lib.hid (show mlM q f g = ([], false) by simp [mlM, hp2])
    go_wp2
    go_ret2
    rw [HR.out]
    exact ⟨none, 0, rfl, own_nil _ _, belT (by repeat (first | exact Below.refl _ _ | assumption | refine belA ?_ | refine belD ?_ | refine belN ?_ | refine belS ?_ (by simp) | refine belT ?_ (by assumption))) hW⟩
  obtain ⟨m1, m2, m3, m4⟩ := poly_of hp
  obtain ⟨m5, m6, m7, m8⟩ := poly_of hp2
  have HA := Lib.hid (Res.of_all m4)
  have HA' := Lib.hid (Res.of_all m8)
  have hB2 : Below w.heap.size w w2_ := hW
  have hz2 := hB2.size
  have hml := mulL_len q f g
  have HP := Lib.hid (show (polyB q f && polyB q g) = true by simp [hp, hp2])
  clear m4 m8 hp hp2 hW hc hf hb1 hb2
  go_wp2_with fail
  refine (mulPolys_any q A f.length c f A' g.length c' g _ (HI.out.below hB2) (HI'.out.below hB2) m1 m2 HA.out HA'.out (by omega) (by omega)).mono ?_
  rintro e w3_ ⟨B, cc, rfl, hown, hb3⟩
  have HO := Lib.hid hown
  have hbig : (mulL q f g).length ≤ 24 ↔ f.length + g.length ≤ 25 := by
    rw [hml]
    split <;> omega
  clear hown hml
  by_cases hs : f.length + g.length ≤ 25
  · have hs2 := hbig.mpr hs
    have HR := Lib.hid (show mlM q f g = (mulL q f g, true) by simp only [mlM, HP.out, Bool.true_and, decide_eq_true hs, if_true])
    go_wp2
    go_ret2
    rw [HR.out]
    exact ⟨B, cc, rfl, ownDown HO.out hz2, belT hB2 hb3⟩
  · have hs2 : ¬ (mulL q f g).length ≤ 24 := fun x => hs (hbig.mp x)
    have HR := Lib.hid (show mlM q f g = ([], false) by simp [mlM, hs])
    go_wp2
    go_ret2
    rw [HR.out]
    exact ⟨none, 0, rfl, own_nil _ _, belT hB2 hb3⟩
end Go.Proofs.Ytkedcnnbcimffaa
