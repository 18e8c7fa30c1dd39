/- Contracts of both sides: ImagesOf. -/
import Derived.Test.YteeggmnkcgpfjaaSgN
import Derived.Test.YteeggmnkcgpfjaaRi
namespace Go.Proofs.Yteeggmnkcgpfjaa
open Go.RowKit
set_option linter.unusedVariables false

set_option maxHeartbeats 1600000 in
theorem sImagesOf_ri (p q g : Int) (R : Option Addr) (r rc : Nat) (bs : List (Option Addr × Nat × List Int)) (A : Option Addr) (n c : Nat) (es : List Int) (w : World) (h : Grid w R r bs) (h' : Ints w A n es) :
    Calls Try.prog 42 #[.agg #[.int .i64 p, .int .i64 q, .int .i64 g], .slice R r rc, .slice A n c] w (RI w (imM p q g (rowsG bs) es)) := by
  have hl := h.len
  subst hl
  have hl := h'.len
  subst hl
  have hle := h.le
  have hle' := h'.le
  have HI := Lib.hid h
  have HE := Lib.hid h'
  have HS := Lib.hid (sb_rows p q bs)
  have HR0 := Lib.hid (rowK_rows bs 0)
  have HIR := Lib.hid (img_rows p q bs es rfl)
  clear h h'
  generalize rowsG bs = rs at HS HR0 HIR ⊢
  go_enter Try.func42, Try.ntmps42
  go_wp2_with fail
  refine (l2Good_any p q g _).mono ?_
  rintro e w1_ ⟨rfl, hb1⟩
  have hW := hb1
  obtain ⟨hc, hf⟩ := bcell hW
  cases q1 : goodB p q g
  · go_wp2
    go_ret2
    exact RI.no (by simp [imM, q1]) (belT (by repeat (first | exact Below.refl _ _ | assumption | refine belA ?_ | refine belD ?_ | refine belN ?_ | refine belS ?_ (by simp) | refine belT ?_ (by assumption))) hW)
  obtain ⟨g1, g2, g3, g4, g5, g6⟩ := good_om q1
  go_wp2_with fail
  refine (sBases_any p q g R bs.length rc bs _ (HI.out.below (belT (by repeat (first | exact Below.refl _ _ | assumption | refine belA ?_ | refine belD ?_ | refine belN ?_ | refine belS ?_ (by simp) | refine belT ?_ (by assumption))) hW)) g1 g2 g3 g4).mono ?_
  rintro e w2_ ⟨rfl, hb2⟩
  clear hc hf
  replace hW := belT hW hb2
  obtain ⟨hc, hf⟩ := bcell hW
  rw [HS.out]
  cases q2 : sbR p q rs
  · go_wp2
    go_ret2
    exact RI.no (by simp [imM, q2]) (belT (by repeat (first | exact Below.refl _ _ | assumption | refine belA ?_ | refine belD ?_ | refine belN ?_ | refine belS ?_ (by simp) | refine belT ?_ (by assumption))) hW)
  have hsb := SB.of (HS.out.trans q2)
  have HSB := Lib.hid hsb
  obtain ⟨s1, s2, s3, s4, s5⟩ := hsb
  clear s5
  obtain ⟨b, off, eR, hgb, hr0, hrow0⟩ := HI.out.at_ (show 0 < bs.length by omega)
  rw [Nat.add_zero] at hr0
  have e0 : (bs.getD 0 dRow).2.2 = rowK bs 0 := rfl
  have hlr := hrow0.le
  rw [e0] at hr0 hlr
  have HM : Hid ((rowK bs 0).length = (rs.getD 0 []).length) := Lib.hid (by rw [HR0.out])
  have HCL : Hid (∀ k, k < bs.length → (rowK bs k).length = (rowK bs 0).length) := Lib.hid fun k hk => (HSB.out.all k hk).1
  generalize (rowK bs 0).length = m0 at hr0 hlr HM HCL s3 s4
  subst eR
  clear e0 hrow0
  have hpos : (0 : Int) < (bs.length : Int) := by omega
  by_cases hne : es.length = m0
  · have hd : ((es.length : Int) != (m0 : Int)) = false := by simp [hne]
    have HD := Lib.hid (show decide (es.length = (rs.getD 0 []).length) = true by rw [← HM.out, hne]; simp)
    have HN := Lib.hid hne
    clear hne
    go_wp2_with fail
    refine (gExps_any p q g A es.length c es _ (HE.out.below (belT (by repeat (first | exact Below.refl _ _ | assumption | refine belA ?_ | refine belD ?_ | refine belN ?_ | refine belS ?_ (by simp) | refine belT ?_ (by assumption))) hW)) (by omega) (by omega)).mono ?_
    rintro e w3_ ⟨rfl, hb3⟩
    clear hc hf
    replace hW := belT hW hb3
    obtain ⟨hc, hf⟩ := bcell hW
    cases q3 : (es.all fun e ↦ inB e 0 (q - 1))
    · go_wp2
      go_ret2
      exact RI.no (by simp [imM, q3]) (belT (by repeat (first | exact Below.refl _ _ | assumption | refine belA ?_ | refine belD ?_ | refine belN ?_ | refine belS ?_ (by simp) | refine belT ?_ (by assumption))) hW)
    have HZ3 := Lib.hid hW.size
    go_wp2_with fail
    refine (sImages_any p q g (some ⟨b, off, none⟩) bs.length rc bs A es.length c es _ (HI.out.below (belT (by repeat (first | exact Below.refl _ _ | assumption | refine belA ?_ | refine belD ?_ | refine belN ?_ | refine belS ?_ (by simp) | refine belT ?_ (by assumption))) hW)) (HE.out.below (belT (by repeat (first | exact Below.refl _ _ | assumption | refine belA ?_ | refine belD ?_ | refine belN ?_ | refine belS ?_ (by simp) | refine belT ?_ (by assumption))) hW)) (fun k hk ↦ by rw [HCL.out k hk, HN.out]; exact Nat.le_refl _) HSB.out.small (by omega) (by omega) (by omega) (by omega) (by omega)).mono ?_
    rintro e w4_ ⟨B, cc, rfl, ho, hb4⟩
    clear hc hf
    replace hW := belT hW hb4
    obtain ⟨hc, hf⟩ := bcell hW
    rw [HIR.out] at ho
    go_wp2
    go_ret2
    exact RI.yes (by rw [imM, q1, q2, HD.out, q3]; rfl) (ownDown ho (by have := HZ3.out; simp at this; omega)) (belT (by repeat (first | exact Below.refl _ _ | assumption | refine belA ?_ | refine belD ?_ | refine belN ?_ | refine belS ?_ (by simp) | refine belT ?_ (by assumption))) hW)
  · have hd : ((es.length : Int) != (m0 : Int)) = true := by simp; omega
    have HD := Lib.hid (show decide (es.length = (rs.getD 0 []).length) = false by rw [← HM.out]; simp [hne])
    clear hne
    go_wp2
    go_ret2
    exact RI.no (by rw [imM, q1, q2, HD.out]; rfl) (belT (by repeat (first | exact Below.refl _ _ | assumption | refine belA ?_ | refine belD ?_ | refine belN ?_ | refine belS ?_ (by simp) | refine belT ?_ (by assumption))) hW)
set_option maxHeartbeats 1600000 in
theorem iImagesOf_ri (p q g : Int) (R : Option Addr) (r rc : Nat) (bs : List (Option Addr × Nat × List Int)) (A : Option Addr) (n c : Nat) (es : List Int) (w : World) (h : Grid w R r bs) (h' : Ints w A n es) :
    Calls Try.prog 44 #[.agg #[.int .i64 p, .int .i64 q, .int .i64 g], .slice R r rc, .slice A n c] w (RI w (imM p q g (rowsG bs) es)) := by
  have hl := h.len
  subst hl
  have hl := h'.len
  subst hl
  have hle := h.le
  have hle' := h'.le
  have HI := Lib.hid h
  have HE := Lib.hid h'
  have HS := Lib.hid (sb_rows p q bs)
  have HR0 := Lib.hid (rowK_rows bs 0)
  have HIR := Lib.hid (img_rows p q bs es rfl)
  clear h h'
  generalize rowsG bs = rs at HS HR0 HIR ⊢
  go_enter Try.func44, Try.ntmps44
  go_wp2_with fail
  refine (IsValidGroup_any p q g _).mono ?_
  rintro e w1_ ⟨rfl, hb1⟩
  have hW := hb1
  obtain ⟨hc, hf⟩ := bcell hW
  cases q1 : goodB p q g
  · go_wp2
    go_ret2
    exact RI.no (by simp [imM, q1]) (belT (by repeat (first | exact Below.refl _ _ | assumption | refine belA ?_ | refine belD ?_ | refine belN ?_ | refine belS ?_ (by simp) | refine belT ?_ (by assumption))) hW)
  obtain ⟨g1, g2, g3, g4, g5, g6⟩ := good_om q1
  go_wp2_with fail
  refine (areRows_any p q g R bs.length rc bs _ (HI.out.below (belT (by repeat (first | exact Below.refl _ _ | assumption | refine belA ?_ | refine belD ?_ | refine belN ?_ | refine belS ?_ (by simp) | refine belT ?_ (by assumption))) hW)) g1 g2 g3 g4).mono ?_
  rintro e w2_ ⟨rfl, hb2⟩
  clear hc hf
  replace hW := belT hW hb2
  obtain ⟨hc, hf⟩ := bcell hW
  rw [HS.out]
  cases q2 : sbR p q rs
  · go_wp2
    go_ret2
    exact RI.no (by simp [imM, q2]) (belT (by repeat (first | exact Below.refl _ _ | assumption | refine belA ?_ | refine belD ?_ | refine belN ?_ | refine belS ?_ (by simp) | refine belT ?_ (by assumption))) hW)
  have hsb := SB.of (HS.out.trans q2)
  have HSB := Lib.hid hsb
  obtain ⟨s1, s2, s3, s4, s5⟩ := hsb
  clear s5
  obtain ⟨b, off, eR, hgb, hr0, hrow0⟩ := HI.out.at_ (show 0 < bs.length by omega)
  rw [Nat.add_zero] at hr0
  have e0 : (bs.getD 0 dRow).2.2 = rowK bs 0 := rfl
  have hlr := hrow0.le
  rw [e0] at hr0 hlr
  have HM : Hid ((rowK bs 0).length = (rs.getD 0 []).length) := Lib.hid (by rw [HR0.out])
  have HCL : Hid (∀ k, k < bs.length → (rowK bs k).length = (rowK bs 0).length) := Lib.hid fun k hk => (HSB.out.all k hk).1
  generalize (rowK bs 0).length = m0 at hr0 hlr HM HCL s3 s4
  subst eR
  clear e0 hrow0
  have hpos : (0 : Int) < (bs.length : Int) := by omega
  by_cases hne : es.length = m0
  · have hd : ((es.length : Int) != (m0 : Int)) = false := by simp [hne]
    have HD := Lib.hid (show decide (es.length = (rs.getD 0 []).length) = true by rw [← HM.out, hne]; simp)
    have HN := Lib.hid hne
    clear hne
    go_wp2_with fail
    refine (areExps_any p q g A es.length c es _ (HE.out.below (belT (by repeat (first | exact Below.refl _ _ | assumption | refine belA ?_ | refine belD ?_ | refine belN ?_ | refine belS ?_ (by simp) | refine belT ?_ (by assumption))) hW)) (by omega) (by omega)).mono ?_
    rintro e w3_ ⟨rfl, hb3⟩
    clear hc hf
    replace hW := belT hW hb3
    obtain ⟨hc, hf⟩ := bcell hW
    cases q3 : (es.all fun e ↦ inB e 0 (q - 1))
    · go_wp2
      go_ret2
      exact RI.no (by simp [imM, q3]) (belT (by repeat (first | exact Below.refl _ _ | assumption | refine belA ?_ | refine belD ?_ | refine belN ?_ | refine belS ?_ (by simp) | refine belT ?_ (by assumption))) hW)
    have HZ3 := Lib.hid hW.size
    go_wp2_with fail
    refine (images_any p q g (some ⟨b, off, none⟩) bs.length rc bs A es.length c es _ (HI.out.below (belT (by repeat (first | exact Below.refl _ _ | assumption | refine belA ?_ | refine belD ?_ | refine belN ?_ | refine belS ?_ (by simp) | refine belT ?_ (by assumption))) hW)) (HE.out.below (belT (by repeat (first | exact Below.refl _ _ | assumption | refine belA ?_ | refine belD ?_ | refine belN ?_ | refine belS ?_ (by simp) | refine belT ?_ (by assumption))) hW)) (fun k hk ↦ by rw [HCL.out k hk, HN.out]; exact Nat.le_refl _) HSB.out.small (by omega) (by omega) (by omega) (by omega) (by omega)).mono ?_
    rintro e w4_ ⟨B, cc, rfl, ho, hb4⟩
    clear hc hf
    replace hW := belT hW hb4
    obtain ⟨hc, hf⟩ := bcell hW
    rw [HIR.out] at ho
    go_wp2
    go_ret2
    exact RI.yes (by rw [imM, q1, q2, HD.out, q3]; rfl) (ownDown ho (by have := HZ3.out; simp at this; omega)) (belT (by repeat (first | exact Below.refl _ _ | assumption | refine belA ?_ | refine belD ?_ | refine belN ?_ | refine belS ?_ (by simp) | refine belT ?_ (by assumption))) hW)
  · have hd : ((es.length : Int) != (m0 : Int)) = true := by simp; omega
    have HD := Lib.hid (show decide (es.length = (rs.getD 0 []).length) = false by rw [← HM.out]; simp [hne])
    clear hne
    go_wp2
    go_ret2
    exact RI.no (by rw [imM, q1, q2, HD.out]; rfl) (belT (by repeat (first | exact Below.refl _ _ | assumption | refine belA ?_ | refine belD ?_ | refine belN ?_ | refine belS ?_ (by simp) | refine belT ?_ (by assumption))) hW)
theorem sImagesOf_any (p q g : Int) (R : Option Addr) (r rc : Nat) (bs : List (Option Addr × Nat × List Int)) (A : Option Addr) (n c : Nat) (es : List Int) (w : World) (h : Grid w R r bs) (h' : Ints w A n es) :
    Calls Try.prog 42 #[.agg #[.int .i64 p, .int .i64 q, .int .i64 g], .slice R r rc, .slice A n c] w fun e w' => ∃ B cc, e = .returned (.tuple #[.slice B (imM p q g (rowsG bs) es).1.length cc, .bool (imM p q g (rowsG bs) es).2]) ∧ w'.ownsRow w.heap.size 3 1 (.slice B (imM p q g (rowsG bs) es).1.length cc) (imM p q g (rowsG bs) es).1.length ((imM p q g (rowsG bs) es).1.map (Value.int .i64)) ∧ Below w.heap.size w w' := sImagesOf_ri p q g R r rc bs A n c es w h h'
theorem iImagesOf_any (p q g : Int) (R : Option Addr) (r rc : Nat) (bs : List (Option Addr × Nat × List Int)) (A : Option Addr) (n c : Nat) (es : List Int) (w : World) (h : Grid w R r bs) (h' : Ints w A n es) :
    Calls Try.prog 44 #[.agg #[.int .i64 p, .int .i64 q, .int .i64 g], .slice R r rc, .slice A n c] w fun e w' => ∃ B cc, e = .returned (.tuple #[.slice B (imM p q g (rowsG bs) es).1.length cc, .bool (imM p q g (rowsG bs) es).2]) ∧ w'.ownsRow w.heap.size 3 1 (.slice B (imM p q g (rowsG bs) es).1.length cc) (imM p q g (rowsG bs) es).1.length ((imM p q g (rowsG bs) es).1.map (Value.int .i64)) ∧ Below w.heap.size w w' := iImagesOf_ri p q g R r rc bs A n c es w h h'
theorem sImagesOf_at (p q g : Int) (R : Option Addr) (r rc : Nat) (bs : List (Option Addr × Nat × List Int)) (A : Option Addr) (n c : Nat) (es : List Int) (w : World) (rs : List (List Int)) (hb : rowsG bs = rs) (h : Grid w R r bs) (h' : Ints w A n es) :
    Calls Try.prog 42 #[.agg #[.int .i64 p, .int .i64 q, .int .i64 g], .slice R r rc, .slice A n c] w fun e w' => ∃ B cc, e = .returned (.tuple #[.slice B (imM p q g rs es).1.length cc, .bool (imM p q g rs es).2]) ∧ w'.ownsRow w.heap.size 3 1 (.slice B (imM p q g rs es).1.length cc) (imM p q g rs es).1.length ((imM p q g rs es).1.map (Value.int .i64)) ∧ Below w.heap.size w w' := by
  subst hb
  exact sImagesOf_any p q g R r rc bs A n c es w h h'
theorem iImagesOf_at (p q g : Int) (R : Option Addr) (r rc : Nat) (bs : List (Option Addr × Nat × List Int)) (A : Option Addr) (n c : Nat) (es : List Int) (w : World) (rs : List (List Int)) (hb : rowsG bs = rs) (h : Grid w R r bs) (h' : Ints w A n es) :
    Calls Try.prog 44 #[.agg #[.int .i64 p, .int .i64 q, .int .i64 g], .slice R r rc, .slice A n c] w fun e w' => ∃ B cc, e = .returned (.tuple #[.slice B (imM p q g rs es).1.length cc, .bool (imM p q g rs es).2]) ∧ w'.ownsRow w.heap.size 3 1 (.slice B (imM p q g rs es).1.length cc) (imM p q g rs es).1.length ((imM p q g rs es).1.map (Value.int .i64)) ∧ Below w.heap.size w w' := by
  subst hb
  exact iImagesOf_any p q g R r rc bs A n c es w h h'
end Go.Proofs.Yteeggmnkcgpfjaa
