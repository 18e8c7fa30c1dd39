/- EvalAll: contracts of both sides. -/
import Derived.Test.YtkedcnnbcimffaaPoly2
import Derived.Test.YtkedcnnbcimffaaAp
namespace Go.Proofs.Ytkedcnnbcimffaa
open Go.RowKit
set_option linter.unusedVariables false

def evAll (q : Int) (f xs : List Int) : List Int × Bool := if polyB q f && polyB q xs then (xs.map (evalP q f), true) else ([], false)

theorem evAll_len (q : Int) (f xs : List Int) : (evAll q f xs).1.length ≤ xs.length := by unfold evAll; split <;> simp

set_option maxHeartbeats 800000 in
theorem yAll_any (q : Int) (A : Option Addr) (n c : Nat) (f : List Int) (A' : Option Addr) (n' c' : Nat) (xs : List Int) (w : World) (h : Ints w A n f) (h' : Ints w A' n' xs) (m1 : 2 ≤ q) (m2 : q ≤ 2000000000)
    (hf : (f.all fun z => inB z 0 (q - 1)) = true) (hx : (xs.all fun z => inB z 0 (q - 1)) = true) (hn : n' ≤ 1000000) :
    Calls Try.prog 48 #[.int .i64 q, .slice A n c, .slice A' n' c'] w fun e w' => ∃ B cc, e = .returned (.slice B n' cc) ∧ w'.ownsRow w.heap.size 3 1 (.slice B n' cc) n' ((xs.map (evalP q f)).map (Value.int .i64)) ∧ Below w.heap.size w w' := by
  have HI := Lib.hid h
  have HI' := Lib.hid h'
  have HF := Lib.hid hf
  have HX := Lib.hid hx
  clear h h' hf hx
  go_enter Try.func48, Try.ntmps48
  go_wp2
  go_loopw [7, 12] (fun o i wr => ∃ k : Nat, k ≤ n' ∧ i = .int .i64 k ∧ Hid (wr.ownsRow w.heap.size 3 1 o k (((xs.take k).map (evalP q f)).map (Value.int .i64))) ∧ Hid (Below w.heap.size w wr)) (fun _ i _ => n' - (intOf i).toNat)
  case atStart => exact ⟨0, by omega, rfl, Lib.hid (own_nil _ _), Lib.hid (Below.refl _ _)⟩
  case round =>
    obtain ⟨k, hk, rfl, HO, HB⟩ := hrel
    by_cases hlt : k < n'
    · obtain ⟨b, off, rfl, hb, hc⟩ := (HI'.out.below HB.out).at_ hlt
      have hz := all_bd HI'.out.len HX.out hlt
      have hs := map_step (d := 0) (evalP q f) (show k < xs.length by rw [HI'.out.len]; exact hlt)
      obtain ⟨z1, z2⟩ := hz
      generalize xs.getD k 0 = z at hc z1 z2 hs
      have HS := Lib.hid hs
      clear hs
      go_wp2_with fail
      refine (yEval_any q A n c f z _ (HI.out.below HB.out) m1 m2 HF.out z1 (by omega)).mono ?_
      rintro e w1 ⟨rfl, hb1⟩
      go_wp2_with (at_builtin; refine app1 rfl _ _ rfl rfl rfl (ownBelow HO.out hb1) (by omega) (Nat.le_trans HB.out.size hb1.size) ?_; intro v2 w2 hown2 hbel2; rw [HS.out] at hown2)
      go_roundw
      case rel => exact ⟨k + 1, by omega, by go_num, Lib.hid hown2, Lib.hid (belAt (belT HB.out hb1) hbel2)⟩
      case measure => simp [intOf]; omega
    · have e : k = n' := by omega
      subst e
      obtain ⟨B, cc, rfl⟩ := own_shape HO.out
      go_wp2
      go_ret
      refine ⟨B, cc, rfl, ?_, HB.out⟩
      have := HO.out
      rw [← HI'.out.len, map_all] at this
      rw [← HI'.out.len]
      exact this

theorem two_short (q : Int) (B B' : Option Addr) (c c' : Nat) (f g : List Int) : (fieldB q && [(B, c, f), (B', c', g)].all fun x : Option Addr × Nat × List Int => shortB q x.2.2) = (polyB q f && polyB q g) := by
  simp only [polyB, List.all_cons, List.all_nil, Bool.and_true]
  cases fieldB q <;> simp
theorem poly2_of {q : Int} {f g : List Int} (h : (polyB q f && polyB q g) = true) : polyB q f = true ∧ polyB q g = true := by simpa using h

set_option maxHeartbeats 800000 in
theorem sEvalAll_any (q : Int) (A : Option Addr) (n c : Nat) (f : List Int) (A' : Option Addr) (n' c' : Nat) (xs : List Int) (w : World) (h : Ints w A n f) (h' : Ints w A' n' xs) :
    Calls Try.prog 21 #[.int .i64 q, .slice A n c, .slice A' n' c'] w fun e w' => ∃ B cc, e = .returned (.tuple #[.slice B (evAll q f xs).1.length cc, .bool (evAll q f xs).2]) ∧ w'.ownsRow w.heap.size 3 1 (.slice B (evAll q f xs).1.length cc) (evAll q f xs).1.length ((evAll q f xs).1.map (Value.int .i64)) ∧ Below w.heap.size w w' := by
  have hl := h.len
  subst hl
  have hl := h'.len
  subst hl
  have HI := Lib.hid h
  have HI' := Lib.hid h'
  clear h h'
  go_enter Try.func21, Try.ntmps21
  go_wp2_with fail
  refine (yGood_any q _ 2 2 [(A, c, f), (A', c', xs)] _ (Slices.two (by rw [World.cell?_alloc_at _ _ _ _ (by simp)]; rfl) (by rw [World.cell?_alloc_at _ _ _ _ (by simp)]; rfl) (HI.out.below (belA (Below.refl _ _))) (HI'.out.below (belA (Below.refl _ _))))).mono ?_
  rintro e w1_ ⟨rfl, hb1⟩
  have hW := hb1
  obtain ⟨hc, hf⟩ := bcell hW
  rw [two_short]
  cases hp : (polyB q f && polyB q xs)
  · have hr : evAll q f xs = ([], false) := by simp [evAll, hp]
    have HR := Lib.hid hr
    clear hr
    go_wp2
    go_ret2
    rw [HR.out]
    exact ⟨none, 0, rfl, own_nil _ _, belT (by repeat (first | exact Below.refl _ _ | assumption | refine belA ?_ | refine belD ?_ | refine belN ?_ | refine belS ?_ (by simp) | refine belT ?_ (by assumption))) hW⟩
  · have hr : evAll q f xs = (xs.map (evalP q f), true) := by simp [evAll, hp]
    obtain ⟨p1, p2⟩ := poly2_of hp
    obtain ⟨m1, m2, m3, m4⟩ := poly_of p1
    obtain ⟨m5, m6, m7, m8⟩ := poly_of p2
    have HR := Lib.hid hr
    have HA := Lib.hid m4
    have HA' := Lib.hid m8
    clear m4 m8 hr hp p1 p2
    go_wp2_with fail
    refine (yAll_any q A f.length c f A' xs.length c' xs _ (HI.out.below (belT (by repeat (first | exact Below.refl _ _ | assumption | refine belA ?_ | refine belD ?_ | refine belN ?_ | refine belS ?_ (by simp) | refine belT ?_ (by assumption))) hW)) (HI'.out.below (belT (by repeat (first | exact Below.refl _ _ | assumption | refine belA ?_ | refine belD ?_ | refine belN ?_ | refine belS ?_ (by simp) | refine belT ?_ (by assumption))) hW)) (by omega) (by omega) HA.out HA'.out (by omega)).mono ?_
    rintro e w2_ ⟨B, cc, rfl, hown, hb2⟩
    have hB1 : Below w.heap.size w w1_ := belT (by repeat (first | exact Below.refl _ _ | assumption | refine belA ?_ | refine belD ?_ | refine belN ?_ | refine belS ?_ (by simp) | refine belT ?_ (by assumption))) hW
    go_wp2
    go_ret2
    rw [HR.out]
    exact ⟨B, cc, by simp, by simpa using ownDown hown hB1.size, belT hB1 hb2⟩

set_option maxHeartbeats 800000 in
theorem iEvalAll_any (q : Int) (A : Option Addr) (n c : Nat) (f : List Int) (A' : Option Addr) (n' c' : Nat) (xs : List Int) (w : World) (h : Ints w A n f) (h' : Ints w A' n' xs) :
    Calls Try.prog 22 #[.int .i64 q, .slice A n c, .slice A' n' c'] w fun e w' => ∃ B cc, e = .returned (.tuple #[.slice B (evAll q f xs).1.length cc, .bool (evAll q f xs).2]) ∧ w'.ownsRow w.heap.size 3 1 (.slice B (evAll q f xs).1.length cc) (evAll q f xs).1.length ((evAll q f xs).1.map (Value.int .i64)) ∧ Below w.heap.size w w' := by
  have hl := h.len
  subst hl
  have hl := h'.len
  subst hl
  have HI := Lib.hid h
  have HI' := Lib.hid h'
  clear h h'
  go_enter Try.func22, Try.ntmps22
  go_wp2_with fail
  refine (isPoly_any q A f.length c f _ HI.out).mono ?_
  rintro e w1_ ⟨rfl, hb1⟩
  have hW := hb1
  obtain ⟨hc, hf⟩ := bcell hW
  cases hp : polyB q f
  · have hr : evAll q f xs = ([], false) := by simp [evAll, hp]
    have HR := Lib.hid hr
    clear hr
    go_wp2
    go_ret2
    rw [HR.out]
    exact ⟨none, 0, rfl, own_nil _ _, belT (by repeat (first | exact Below.refl _ _ | assumption | refine belA ?_ | refine belD ?_ | refine belN ?_ | refine belS ?_ (by simp) | refine belT ?_ (by assumption))) hW⟩
  go_wp2_with fail
  refine (isPoly_any q A' xs.length c' xs _ (HI'.out.below hW)).mono ?_
  rintro e w2_ ⟨rfl, hb2⟩
  clear hc hf
  replace hW := belT hW hb2
  obtain ⟨hc, hf⟩ := bcell hW
  cases hp2 : polyB q xs
  · have hr : evAll q f xs = ([], false) := by simp [evAll, hp2]
    have HR := Lib.hid hr
    clear hr
    go_wp2
    go_ret2
    rw [HR.out]
    exact ⟨none, 0, rfl, own_nil _ _, belT (by repeat (first | exact Below.refl _ _ | assumption | refine belA ?_ | refine belD ?_ | refine belN ?_ | refine belS ?_ (by simp) | refine belT ?_ (by assumption))) hW⟩
  have hr : evAll q f xs = (xs.map (evalP q f), true) := by simp [evAll, hp, hp2]
  obtain ⟨m1, m2, m3, m4⟩ := poly_of hp
  obtain ⟨m5, m6, m7, m8⟩ := poly_of hp2
  have HR := Lib.hid hr
  have HA := Lib.hid m4
  have HA' := Lib.hid m8
  have hB2 : Below w.heap.size w w2_ := hW
  have HJ := Lib.hid (HI.out.below hB2)
  have HJ' := Lib.hid (HI'.out.below hB2)
  have hz2 := hB2.size
  clear m4 m8 hr hp hp2 hW hc hf hb1 hb2 HI HI'
  go_wp2
  go_loopw [8, 24] (fun o i wr => ∃ k : Nat, k ≤ xs.length ∧ i = .int .i64 k ∧ Hid (wr.ownsRow w2_.heap.size 3 1 o k (((xs.take k).map (evalP q f)).map (Value.int .i64))) ∧ Hid (Below w2_.heap.size w2_ wr)) (fun _ i _ => xs.length - (intOf i).toNat)
  case atStart => exact ⟨0, by omega, rfl, Lib.hid (own_empty _ _ (Nat.le_refl _)), Lib.hid (by repeat (first | exact Below.refl _ _ | assumption | refine belA ?_ | refine belD ?_ | refine belN ?_ | refine belS ?_ (by simp) | refine belT ?_ (by assumption)))⟩
  case round =>
    obtain ⟨k, hk, rfl, HO, HB⟩ := hrel
    by_cases hlt : k < xs.length
    · obtain ⟨b, off, rfl, hb, hc⟩ := (HJ'.out.below HB.out).at_ hlt
      have hz := all_bd rfl HA'.out hlt
      have hs := map_step (d := 0) (evalP q f) hlt
      obtain ⟨z1, z2⟩ := hz
      generalize xs.getD k 0 = z at hc z1 z2 hs
      have HS := Lib.hid hs
      clear hs
      go_wp2_with fail
      refine (evalPoly_any q A f.length c f z _ (HJ.out.below HB.out) m1 m2 HA.out z1 (by omega)).mono ?_
      rintro e w1 ⟨rfl, hb1⟩
      go_wp2_with (at_builtin; refine app1 rfl _ _ rfl rfl rfl (ownBelow HO.out hb1) (by omega) (Nat.le_trans HB.out.size hb1.size) ?_; intro v2 w2 hown2 hbel2; rw [HS.out] at hown2)
      go_roundw
      case rel => exact ⟨k + 1, by omega, by go_num, Lib.hid hown2, Lib.hid (belAt (belT HB.out hb1) hbel2)⟩
      case measure => simp [intOf]; omega
    · have e : k = xs.length := by omega
      subst e
      obtain ⟨B, cc, rfl⟩ := own_shape HO.out
      go_wp2
      go_ret2
      rw [HR.out]
      refine ⟨B, cc, by simp, ?_, belT hB2 HB.out⟩
      have := HO.out
      rw [map_all] at this
      exact ownDown (by simpa using this) hz2
end Go.Proofs.Ytkedcnnbcimffaa
