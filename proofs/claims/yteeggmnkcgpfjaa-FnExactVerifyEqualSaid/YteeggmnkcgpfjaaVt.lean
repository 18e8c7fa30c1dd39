/- Contracts of both sides: linear statements, knowledge and equal logarithms verified. -/
import Derived.Test.YteeggmnkcgpfjaaVk
import Derived.Test.YteeggmnkcgpfjaaVj
import Derived.Test.YteeggmnkcgpfjaaCi2
namespace Go.Proofs.Yteeggmnkcgpfjaa
open Go.RowKit
set_option linter.unusedVariables false
attribute [local go_sem ↓] Go.wp_at_zero Go.wp_at_succ
set_option linter.unusedSimpArgs false

theorem ret_bb2 {a a' b b' : Bool} (h : (a, b) = (a', b')) : Ending.returned (.tuple #[.bool a, .bool b]) = .returned (.tuple #[.bool a', .bool b']) := by
  injection h with h1 h2
  rw [h1, h2]
set_option maxHeartbeats 400000 in
theorem sLabel_any (p q g : Int) (s : ByteArray) (w : World) (hm : s.size ≤ 9223372036854775807) :
    Calls Try.prog 104 #[.agg #[.int .i64 p, .int .i64 q, .int .i64 g], .string s] w fun e w' => e = .returned (.bool (goodB p q g && decide (s.size ≤ 40))) ∧ Below w.heap.size w w' := by
  have hd : decide ((s.size : Int) ≤ 40) = decide (s.size ≤ 40) := by rw [decide_eq_decide]; omega
  have HD := Lib.hid hd
  clear hd
  go_enter Try.func104, Try.ntmps104
  go_wp2_with fail
  refine (l2Good_any p q g _).mono ?_
  rintro e w1_ ⟨rfl, hb1⟩
  have hW := hb1
  obtain ⟨hc, hf⟩ := bcell hW
  cases hg : goodB p q g
  · have HGD := Lib.hid hg
    go_wp2
    go_ret
    exact ⟨ret_bool (by rw [HGD.out]; rfl), belT (by repeat (first | exact Below.refl _ _ | assumption | refine belA ?_ | refine belD ?_ | refine belN ?_ | refine belS ?_ (by simp) | refine belT ?_ (by assumption))) hW⟩
  · have HGD := Lib.hid hg
    go_wp2
    go_ret
    exact ⟨ret_bool (by rw [HGD.out, Bool.true_and]; exact HD.out), belT (by repeat (first | exact Below.refl _ _ | assumption | refine belA ?_ | refine belD ?_ | refine belN ?_ | refine belS ?_ (by simp) | refine belT ?_ (by assumption))) hW⟩
set_option maxHeartbeats 400000 in
theorem isLabel_any (s : ByteArray) (w : World) (hm : s.size ≤ 9223372036854775807) :
    Calls Try.prog 149 #[.string s] w fun e w' => e = .returned (.bool (decide (s.size ≤ 40))) ∧ Below w.heap.size w w' := by
  have hd : decide ((s.size : Int) ≤ 40) = decide (s.size ≤ 40) := by rw [decide_eq_decide]; omega
  have HD := Lib.hid hd
  clear hd
  go_enter Try.func149, Try.ntmps149
  go_wp2
  go_ret
  exact ⟨ret_bool HD.out, Below.refl _ _⟩
set_option maxHeartbeats 1600000 in
theorem sVerifyLinear_any (p q g : Int) (s : ByteArray) (R : Option Addr) (r rc : Nat) (bs : List (Option Addr × Nat × List Int)) (A : Option Addr) (n c : Nat) (im : List Int) (A1 A2 A3 : Option Addr) (n1 n2 n3 c1 c2 c3 : Nat) (C H Z : List Int) (w : World) (hm : s.size ≤ 9223372036854775807) (h : Grid w R r bs) (hi : Ints w A n im) (h1 : Ints w A1 n1 C) (h2 : Ints w A2 n2 H) (h3 : Ints w A3 n3 Z) :
    Calls Try.prog 109 #[.agg #[.int .i64 p, .int .i64 q, .int .i64 g], .string s, .slice R r rc, .slice A n c, .agg #[.slice A1 n1 c1, .slice A2 n2 c2, .slice A3 n3 c3]] w fun e w' => e = .returned (.tuple #[.bool (vlM p q g s (rowsG bs) im C H Z).1, .bool (vlM p q g s (rowsG bs) im C H Z).2]) ∧ Below w.heap.size w w' := by
  have hl := h.len
  subst hl
  have hl := hi.len
  subst hl
  have hl := h1.len
  subst hl
  have hl := h2.len
  subst hl
  have hl := h3.len
  subst hl
  have hle := h.le
  have hle2 := hi.le
  have HI := Lib.hid h
  have HA := Lib.hid hi
  have H1 := Lib.hid h1
  have H2 := Lib.hid h2
  have H3 := Lib.hid h3
  have HS := Lib.hid (sb_rows p q bs)
  have HRL := Lib.hid (rowsG_len bs)
  clear h hi h1 h2 h3
  go_enter Try.func109, Try.ntmps109
  go_wp2_with fail
  refine (sLabel_any p q g s _ hm).mono ?_
  rintro e w1_ ⟨rfl, hb1⟩
  have hW := hb1
  obtain ⟨hc, hf⟩ := bcell hW
  cases q1 : goodB p q g
  · rw [Bool.false_and]
    go_wp2
    go_ret2
    exact ⟨ret_bb2 (by simp [vlM, vlB, q1]), belT (by repeat (first | exact Below.refl _ _ | assumption | refine belA ?_ | refine belD ?_ | refine belN ?_ | refine belS ?_ (by simp) | refine belT ?_ (by assumption))) hW⟩
  rw [Bool.true_and]
  cases q2 : decide (s.size ≤ 40)
  · go_wp2
    go_ret2
    exact ⟨ret_bb2 (by simp only [vlM, vlB, q1, q2]; rfl), belT (by repeat (first | exact Below.refl _ _ | assumption | refine belA ?_ | refine belD ?_ | refine belN ?_ | refine belS ?_ (by simp) | refine belT ?_ (by assumption))) hW⟩
  have HSZ := Lib.hid (show s.size ≤ 40 by simpa using q2)
  have HQ2 := Lib.hid q2
  clear q2
  obtain ⟨g1, g2, g3, g4, g5, g6⟩ := good_om q1
  go_wp2_with fail
  refine (sBases_any p q g R bs.length rc bs _ (HI.out.below (belT (by repeat (first | exact Below.refl _ _ | assumption | refine belA ?_ | refine belD ?_ | refine belN ?_ | refine belS ?_ (by simp) | refine belT ?_ (by assumption))) hW)) g1 g2 g3 g4).mono ?_
  rintro e w2_ ⟨rfl, hb2⟩
  clear hc hf
  replace hW := belT hW hb2
  obtain ⟨hc, hf⟩ := bcell hW
  rw [HS.out]
  cases q3 : sbR p q (rowsG bs)
  · go_wp2
    go_ret2
    exact ⟨ret_bb2 (by simp only [vlM, vlB, q1, HQ2.out, q3]; rfl), belT (by repeat (first | exact Below.refl _ _ | assumption | refine belA ?_ | refine belD ?_ | refine belN ?_ | refine belS ?_ (by simp) | refine belT ?_ (by assumption))) hW⟩
  have HSB := Lib.hid (HS.out.trans q3)
  by_cases hne : im.length = bs.length
  · have hd : ((im.length : Int) != (bs.length : Int)) = false := by simp [hne]
    have HQ4 := Lib.hid (show decide (im.length = (rowsG bs).length) = true by rw [HRL.out, hne]; simp)
    have HN := Lib.hid hne
    clear hne
    go_wp2_with fail
    refine (gIs_any p q g A im.length c im _ (HA.out.below (belT (by repeat (first | exact Below.refl _ _ | assumption | refine belA ?_ | refine belD ?_ | refine belN ?_ | refine belS ?_ (by simp) | refine belT ?_ (by assumption))) hW)) g1 g2 g3 g4).mono ?_
    rintro e w3_ ⟨rfl, hb3⟩
    clear hc hf
    replace hW := belT hW hb3
    obtain ⟨hc, hf⟩ := bcell hW
    cases q5 : im.all (hasB p q)
    · go_wp2
      go_ret2
      exact ⟨ret_bb2 (by simp only [vlM, vlB, q1, HQ2.out, q3, HQ4.out, q5]; rfl), belT (by repeat (first | exact Below.refl _ _ | assumption | refine belA ?_ | refine belD ?_ | refine belN ?_ | refine belS ?_ (by simp) | refine belT ?_ (by assumption))) hW⟩
    go_wp2_with fail
    refine (sVerify_any p q g s R bs.length rc bs A im.length c im A1 A2 A3 c1 c2 c3 C H Z _ q1 HSZ.out (HI.out.below (belT (by repeat (first | exact Below.refl _ _ | assumption | refine belA ?_ | refine belD ?_ | refine belN ?_ | refine belS ?_ (by simp) | refine belT ?_ (by assumption))) hW)) HSB.out (HA.out.below (belT (by repeat (first | exact Below.refl _ _ | assumption | refine belA ?_ | refine belD ?_ | refine belN ?_ | refine belS ?_ (by simp) | refine belT ?_ (by assumption))) hW)) HN.out q5 (H1.out.below (belT (by repeat (first | exact Below.refl _ _ | assumption | refine belA ?_ | refine belD ?_ | refine belN ?_ | refine belS ?_ (by simp) | refine belT ?_ (by assumption))) hW)) (H2.out.below (belT (by repeat (first | exact Below.refl _ _ | assumption | refine belA ?_ | refine belD ?_ | refine belN ?_ | refine belS ?_ (by simp) | refine belT ?_ (by assumption))) hW)) (H3.out.below (belT (by repeat (first | exact Below.refl _ _ | assumption | refine belA ?_ | refine belD ?_ | refine belN ?_ | refine belS ?_ (by simp) | refine belT ?_ (by assumption))) hW))).mono ?_
    rintro e w4_ ⟨rfl, hb4⟩
    clear hc hf
    replace hW := belT hW hb4
    obtain ⟨hc, hf⟩ := bcell hW
    go_wp2
    go_ret2
    exact ⟨ret_bb2 (by simp only [vlM, vlB, q1, HQ2.out, q3, HQ4.out, q5]; rfl), belT (by repeat (first | exact Below.refl _ _ | assumption | refine belA ?_ | refine belD ?_ | refine belN ?_ | refine belS ?_ (by simp) | refine belT ?_ (by assumption))) hW⟩
  · have hd : ((im.length : Int) != (bs.length : Int)) = true := by simp; omega
    have HQ4 := Lib.hid (show decide (im.length = (rowsG bs).length) = false by rw [HRL.out]; simp [hne])
    clear hne
    go_wp2
    go_ret2
    exact ⟨ret_bb2 (by simp only [vlM, vlB, q1, HQ2.out, q3, HQ4.out]; rfl), belT (by repeat (first | exact Below.refl _ _ | assumption | refine belA ?_ | refine belD ?_ | refine belN ?_ | refine belS ?_ (by simp) | refine belT ?_ (by assumption))) hW⟩
set_option maxHeartbeats 1600000 in
theorem iVerifyLinear_any (p q g : Int) (s : ByteArray) (R : Option Addr) (r rc : Nat) (bs : List (Option Addr × Nat × List Int)) (A : Option Addr) (n c : Nat) (im : List Int) (A1 A2 A3 : Option Addr) (n1 n2 n3 c1 c2 c3 : Nat) (C H Z : List Int) (w : World) (hm : s.size ≤ 9223372036854775807) (h : Grid w R r bs) (hi : Ints w A n im) (h1 : Ints w A1 n1 C) (h2 : Ints w A2 n2 H) (h3 : Ints w A3 n3 Z) :
    Calls Try.prog 107 #[.agg #[.int .i64 p, .int .i64 q, .int .i64 g], .string s, .slice R r rc, .slice A n c, .agg #[.slice A1 n1 c1, .slice A2 n2 c2, .slice A3 n3 c3]] w fun e w' => e = .returned (.tuple #[.bool (vlM p q g s (rowsG bs) im C H Z).1, .bool (vlM p q g s (rowsG bs) im C H Z).2]) ∧ Below w.heap.size w w' := by
  have hl := h.len
  subst hl
  have hl := hi.len
  subst hl
  have hl := h1.len
  subst hl
  have hl := h2.len
  subst hl
  have hl := h3.len
  subst hl
  have hle := h.le
  have hle2 := hi.le
  have HI := Lib.hid h
  have HA := Lib.hid hi
  have H1 := Lib.hid h1
  have H2 := Lib.hid h2
  have H3 := Lib.hid h3
  have HS := Lib.hid (sb_rows p q bs)
  have HRL := Lib.hid (rowsG_len bs)
  clear h hi h1 h2 h3
  go_enter Try.func107, Try.ntmps107
  go_wp2_with fail
  refine (IsValidGroup_any p q g _).mono ?_
  rintro e w1_ ⟨rfl, hb1⟩
  have hW := hb1
  obtain ⟨hc, hf⟩ := bcell hW
  cases q1 : goodB p q g
  · go_wp2
    go_ret2
    exact ⟨ret_bb2 (by simp [vlM, vlB, q1]), belT (by repeat (first | exact Below.refl _ _ | assumption | refine belA ?_ | refine belD ?_ | refine belN ?_ | refine belS ?_ (by simp) | refine belT ?_ (by assumption))) hW⟩
  go_wp2_with fail
  refine (isLabel_any s _ hm).mono ?_
  rintro e w2_ ⟨rfl, hb2⟩
  clear hc hf
  replace hW := belT hW hb2
  obtain ⟨hc, hf⟩ := bcell hW
  cases q2 : decide (s.size ≤ 40)
  · go_wp2
    go_ret2
    exact ⟨ret_bb2 (by simp only [vlM, vlB, q1, q2]; rfl), belT (by repeat (first | exact Below.refl _ _ | assumption | refine belA ?_ | refine belD ?_ | refine belN ?_ | refine belS ?_ (by simp) | refine belT ?_ (by assumption))) hW⟩
  have HSZ := Lib.hid (show s.size ≤ 40 by simpa using q2)
  have HQ2 := Lib.hid q2
  clear q2
  obtain ⟨g1, g2, g3, g4, g5, g6⟩ := good_om q1
  go_wp2_with fail
  refine (areRows_any p q g R bs.length rc bs _ (HI.out.below (belT (by repeat (first | exact Below.refl _ _ | assumption | refine belA ?_ | refine belD ?_ | refine belN ?_ | refine belS ?_ (by simp) | refine belT ?_ (by assumption))) hW)) g1 g2 g3 g4).mono ?_
  rintro e w3_ ⟨rfl, hb3⟩
  clear hc hf
  replace hW := belT hW hb3
  obtain ⟨hc, hf⟩ := bcell hW
  rw [HS.out]
  cases q3 : sbR p q (rowsG bs)
  · go_wp2
    go_ret2
    exact ⟨ret_bb2 (by simp only [vlM, vlB, q1, HQ2.out, q3]; rfl), belT (by repeat (first | exact Below.refl _ _ | assumption | refine belA ?_ | refine belD ?_ | refine belN ?_ | refine belS ?_ (by simp) | refine belT ?_ (by assumption))) hW⟩
  have HSB := Lib.hid (HS.out.trans q3)
  by_cases hne : im.length = bs.length
  · have hd : ((im.length : Int) != (bs.length : Int)) = false := by simp [hne]
    have HQ4 := Lib.hid (show decide (im.length = (rowsG bs).length) = true by rw [HRL.out, hne]; simp)
    have HN := Lib.hid hne
    clear hne
    go_wp2_with fail
    refine (hasAll_any p q g A im.length c im _ (HA.out.below (belT (by repeat (first | exact Below.refl _ _ | assumption | refine belA ?_ | refine belD ?_ | refine belN ?_ | refine belS ?_ (by simp) | refine belT ?_ (by assumption))) hW)) g1 g2 g3 g4).mono ?_
    rintro e w4_ ⟨rfl, hb4⟩
    clear hc hf
    replace hW := belT hW hb4
    obtain ⟨hc, hf⟩ := bcell hW
    cases q5 : im.all (hasB p q)
    · go_wp2
      go_ret2
      exact ⟨ret_bb2 (by simp only [vlM, vlB, q1, HQ2.out, q3, HQ4.out, q5]; rfl), belT (by repeat (first | exact Below.refl _ _ | assumption | refine belA ?_ | refine belD ?_ | refine belN ?_ | refine belS ?_ (by simp) | refine belT ?_ (by assumption))) hW⟩
    go_wp2_with fail
    refine (verifyLinear_any p q g s R bs.length rc bs A im.length c im A1 A2 A3 c1 c2 c3 C H Z _ q1 HSZ.out (HI.out.below (belT (by repeat (first | exact Below.refl _ _ | assumption | refine belA ?_ | refine belD ?_ | refine belN ?_ | refine belS ?_ (by simp) | refine belT ?_ (by assumption))) hW)) HSB.out (HA.out.below (belT (by repeat (first | exact Below.refl _ _ | assumption | refine belA ?_ | refine belD ?_ | refine belN ?_ | refine belS ?_ (by simp) | refine belT ?_ (by assumption))) hW)) HN.out q5 (H1.out.below (belT (by repeat (first | exact Below.refl _ _ | assumption | refine belA ?_ | refine belD ?_ | refine belN ?_ | refine belS ?_ (by simp) | refine belT ?_ (by assumption))) hW)) (H2.out.below (belT (by repeat (first | exact Below.refl _ _ | assumption | refine belA ?_ | refine belD ?_ | refine belN ?_ | refine belS ?_ (by simp) | refine belT ?_ (by assumption))) hW)) (H3.out.below (belT (by repeat (first | exact Below.refl _ _ | assumption | refine belA ?_ | refine belD ?_ | refine belN ?_ | refine belS ?_ (by simp) | refine belT ?_ (by assumption))) hW))).mono ?_
    rintro e w5_ ⟨rfl, hb5⟩
    clear hc hf
    replace hW := belT hW hb5
    obtain ⟨hc, hf⟩ := bcell hW
    go_wp2
    go_ret2
    exact ⟨ret_bb2 (by simp only [vlM, vlB, q1, HQ2.out, q3, HQ4.out, q5]; rfl), belT (by repeat (first | exact Below.refl _ _ | assumption | refine belA ?_ | refine belD ?_ | refine belN ?_ | refine belS ?_ (by simp) | refine belT ?_ (by assumption))) hW⟩
  · have hd : ((im.length : Int) != (bs.length : Int)) = true := by simp; omega
    have HQ4 := Lib.hid (show decide (im.length = (rowsG bs).length) = false by rw [HRL.out]; simp [hne])
    clear hne
    go_wp2
    go_ret2
    exact ⟨ret_bb2 (by simp only [vlM, vlB, q1, HQ2.out, q3, HQ4.out]; rfl), belT (by repeat (first | exact Below.refl _ _ | assumption | refine belA ?_ | refine belD ?_ | refine belN ?_ | refine belS ?_ (by simp) | refine belT ?_ (by assumption))) hW⟩
/-! ## knowledge -/
theorem lit2_ofD {B : Nat} {a W : World} {x y : Int} {t : TypeId} (h : Below B a (W.alloc (.cells #[.int .i64 x, .int .i64 y] t)).drew) : Ints (W.alloc (.cells #[.int .i64 x, .int .i64 y] t)).drew (some ⟨W.heap.size, 0, none⟩) 2 [x, y] := Ints.drew (Ints.two (by rw [World.cell?_alloc_at _ _ _ _ (by simp)]; rfl) (by rw [World.cell?_alloc_at _ _ _ _ (by simp)]; rfl))
theorem grid1 {W : World} {g : Nat} {A : Option Addr} {n c : Nat} {x : List Int} (hc : W.cell? ⟨g, 0, none⟩ = some (.slice A n c)) (hx : Ints W A n x) : Grid W (some ⟨g, 0, none⟩) 1 [(A, c, x)] := by
  have e := hx.len
  subst e
  refine ⟨rfl, by omega, fun _ => ⟨g, 0, rfl, World.block_lt_of_cell? _ _ hc, fun k hk => ?_⟩⟩
  have e : k = 0 := by omega
  subst e
  exact ⟨hc, hx⟩
theorem grid2 {W : World} {g : Nat} {A B : Option Addr} {n m c d : Nat} {x y : List Int} (hc : W.cell? ⟨g, 0, none⟩ = some (.slice A n c)) (hd : W.cell? ⟨g, 1, none⟩ = some (.slice B m d)) (hx : Ints W A n x) (hy : Ints W B m y) : Grid W (some ⟨g, 0, none⟩) 2 [(A, c, x), (B, d, y)] := by
  have e := hx.len
  have e' := hy.len
  subst e e'
  refine ⟨rfl, by omega, fun _ => ⟨g, 0, rfl, World.block_lt_of_cell? _ _ hc, fun k hk => ?_⟩⟩
  have e : k = 0 ∨ k = 1 := by omega
  rcases e with rfl | rfl
  · exact ⟨hc, hx⟩
  · exact ⟨hd, hy⟩
set_option maxRecDepth 100000 in
set_option maxHeartbeats 1600000 in
theorem sVerifyKnowledge_any (p q g : Int) (s : ByteArray) (b y : Int) (A1 A2 A3 : Option Addr) (n1 n2 n3 c1 c2 c3 : Nat) (C H Z : List Int) (w : World) (hm : s.size ≤ 9223372036854775807) (h1 : Ints w A1 n1 C) (h2 : Ints w A2 n2 H) (h3 : Ints w A3 n3 Z) :
    Calls Try.prog 58 #[.agg #[.int .i64 p, .int .i64 q, .int .i64 g], .string s, .int .i64 b, .int .i64 y, .agg #[.slice A1 n1 c1, .slice A2 n2 c2, .slice A3 n3 c3]] w fun e w' => e = .returned (.tuple #[.bool (vlM p q g s [[b]] [y] C H Z).1, .bool (vlM p q g s [[b]] [y] C H Z).2]) ∧ Below w.heap.size w w' := by
  have hB : Below w.heap.size w (((((w.alloc (.cells #[.int .i64 p, .int .i64 q, .int .i64 g] 27)).alloc (.cells #[.slice A1 n1 c1, .slice A2 n2 c2, .slice A3 n3 c3] 52)).alloc (.cells #[.int .i64 b] 3)).alloc (.cells #[.slice (some ⟨w.heap.size + 2, 0, none⟩) 1 1] 24)).alloc (.cells #[.int .i64 y] 3)) := (by repeat (first | exact Below.refl _ _ | assumption | refine belA ?_ | refine belD ?_ | refine belN ?_ | refine belS ?_ (by simp) | refine belT ?_ (by assumption)))
  have k0 : (((((w.alloc (.cells #[.int .i64 p, .int .i64 q, .int .i64 g] 27)).alloc (.cells #[.slice A1 n1 c1, .slice A2 n2 c2, .slice A3 n3 c3] 52)).alloc (.cells #[.int .i64 b] 3)).alloc (.cells #[.slice (some ⟨w.heap.size + 2, 0, none⟩) 1 1] 24)).alloc (.cells #[.int .i64 y] 3)).cell? ⟨w.heap.size + 2, 0, none⟩ = some (.int .i64 b) := by rw [World.cell?_alloc_past _ _ _ (by simp <;> omega), World.cell?_alloc_past _ _ _ (by simp <;> omega), World.cell?_alloc_at _ _ _ _ (by simp)]; rfl
  have k1 : (((((w.alloc (.cells #[.int .i64 p, .int .i64 q, .int .i64 g] 27)).alloc (.cells #[.slice A1 n1 c1, .slice A2 n2 c2, .slice A3 n3 c3] 52)).alloc (.cells #[.int .i64 b] 3)).alloc (.cells #[.slice (some ⟨w.heap.size + 2, 0, none⟩) 1 1] 24)).alloc (.cells #[.int .i64 y] 3)).cell? ⟨w.heap.size + 3, 0, none⟩ = some (.slice (some ⟨w.heap.size + 2, 0, none⟩) 1 1) := by rw [World.cell?_alloc_past _ _ _ (by simp <;> omega), World.cell?_alloc_at _ _ _ _ (by simp)]; rfl
  have k2 : (((((w.alloc (.cells #[.int .i64 p, .int .i64 q, .int .i64 g] 27)).alloc (.cells #[.slice A1 n1 c1, .slice A2 n2 c2, .slice A3 n3 c3] 52)).alloc (.cells #[.int .i64 b] 3)).alloc (.cells #[.slice (some ⟨w.heap.size + 2, 0, none⟩) 1 1] 24)).alloc (.cells #[.int .i64 y] 3)).cell? ⟨w.heap.size + 4, 0, none⟩ = some (.int .i64 y) := by rw [World.cell?_alloc_at _ _ _ _ (by simp)]; rfl
  have H0 := Lib.hid (sVerifyLinear_any p q g s (some ⟨w.heap.size + 3, 0, none⟩) 1 1 [(some ⟨w.heap.size + 2, 0, none⟩, 1, [b])] (some ⟨w.heap.size + 4, 0, none⟩) 1 1 [y] A1 A2 A3 n1 n2 n3 c1 c2 c3 C H Z (((((w.alloc (.cells #[.int .i64 p, .int .i64 q, .int .i64 g] 27)).alloc (.cells #[.slice A1 n1 c1, .slice A2 n2 c2, .slice A3 n3 c3] 52)).alloc (.cells #[.int .i64 b] 3)).alloc (.cells #[.slice (some ⟨w.heap.size + 2, 0, none⟩) 1 1] 24)).alloc (.cells #[.int .i64 y] 3)) hm (grid1 k1 (Ints.one k0)) (Ints.one k2) (h1.below hB) (h2.below hB) (h3.below hB))
  have HB := Lib.hid hB
  clear k0 k1 k2 hB h1 h2 h3
  go_enter Try.func58, Try.ntmps58
  go_wp2_with fail
  refine H0.out.mono ?_
  rintro e w1 ⟨rfl, hb1⟩
  go_wp2
  go_ret2
  exact ⟨rfl, belT HB.out hb1⟩
set_option maxRecDepth 100000 in
set_option maxHeartbeats 1600000 in
theorem iVerifyKnowledge_any (p q g : Int) (s : ByteArray) (b y : Int) (A1 A2 A3 : Option Addr) (n1 n2 n3 c1 c2 c3 : Nat) (C H Z : List Int) (w : World) (hm : s.size ≤ 9223372036854775807) (h1 : Ints w A1 n1 C) (h2 : Ints w A2 n2 H) (h3 : Ints w A3 n3 Z) :
    Calls Try.prog 59 #[.agg #[.int .i64 p, .int .i64 q, .int .i64 g], .string s, .int .i64 b, .int .i64 y, .agg #[.slice A1 n1 c1, .slice A2 n2 c2, .slice A3 n3 c3]] w fun e w' => e = .returned (.tuple #[.bool (vlM p q g s [[b]] [y] C H Z).1, .bool (vlM p q g s [[b]] [y] C H Z).2]) ∧ Below w.heap.size w w' := by
  have hB : Below w.heap.size w (((((w.alloc (.cells #[.int .i64 p, .int .i64 q, .int .i64 g] 27)).alloc (.cells #[.slice A1 n1 c1, .slice A2 n2 c2, .slice A3 n3 c3] 52)).alloc (.cells #[.int .i64 b] 3)).alloc (.cells #[.slice (some ⟨w.heap.size + 2, 0, none⟩) 1 1] 24)).alloc (.cells #[.int .i64 y] 3)) := (by repeat (first | exact Below.refl _ _ | assumption | refine belA ?_ | refine belD ?_ | refine belN ?_ | refine belS ?_ (by simp) | refine belT ?_ (by assumption)))
  have k0 : (((((w.alloc (.cells #[.int .i64 p, .int .i64 q, .int .i64 g] 27)).alloc (.cells #[.slice A1 n1 c1, .slice A2 n2 c2, .slice A3 n3 c3] 52)).alloc (.cells #[.int .i64 b] 3)).alloc (.cells #[.slice (some ⟨w.heap.size + 2, 0, none⟩) 1 1] 24)).alloc (.cells #[.int .i64 y] 3)).cell? ⟨w.heap.size + 2, 0, none⟩ = some (.int .i64 b) := by rw [World.cell?_alloc_past _ _ _ (by simp <;> omega), World.cell?_alloc_past _ _ _ (by simp <;> omega), World.cell?_alloc_at _ _ _ _ (by simp)]; rfl
  have k1 : (((((w.alloc (.cells #[.int .i64 p, .int .i64 q, .int .i64 g] 27)).alloc (.cells #[.slice A1 n1 c1, .slice A2 n2 c2, .slice A3 n3 c3] 52)).alloc (.cells #[.int .i64 b] 3)).alloc (.cells #[.slice (some ⟨w.heap.size + 2, 0, none⟩) 1 1] 24)).alloc (.cells #[.int .i64 y] 3)).cell? ⟨w.heap.size + 3, 0, none⟩ = some (.slice (some ⟨w.heap.size + 2, 0, none⟩) 1 1) := by rw [World.cell?_alloc_past _ _ _ (by simp <;> omega), World.cell?_alloc_at _ _ _ _ (by simp)]; rfl
  have k2 : (((((w.alloc (.cells #[.int .i64 p, .int .i64 q, .int .i64 g] 27)).alloc (.cells #[.slice A1 n1 c1, .slice A2 n2 c2, .slice A3 n3 c3] 52)).alloc (.cells #[.int .i64 b] 3)).alloc (.cells #[.slice (some ⟨w.heap.size + 2, 0, none⟩) 1 1] 24)).alloc (.cells #[.int .i64 y] 3)).cell? ⟨w.heap.size + 4, 0, none⟩ = some (.int .i64 y) := by rw [World.cell?_alloc_at _ _ _ _ (by simp)]; rfl
  have H0 := Lib.hid (iVerifyLinear_any p q g s (some ⟨w.heap.size + 3, 0, none⟩) 1 1 [(some ⟨w.heap.size + 2, 0, none⟩, 1, [b])] (some ⟨w.heap.size + 4, 0, none⟩) 1 1 [y] A1 A2 A3 n1 n2 n3 c1 c2 c3 C H Z (((((w.alloc (.cells #[.int .i64 p, .int .i64 q, .int .i64 g] 27)).alloc (.cells #[.slice A1 n1 c1, .slice A2 n2 c2, .slice A3 n3 c3] 52)).alloc (.cells #[.int .i64 b] 3)).alloc (.cells #[.slice (some ⟨w.heap.size + 2, 0, none⟩) 1 1] 24)).alloc (.cells #[.int .i64 y] 3)) hm (grid1 k1 (Ints.one k0)) (Ints.one k2) (h1.below hB) (h2.below hB) (h3.below hB))
  have HB := Lib.hid hB
  clear k0 k1 k2 hB h1 h2 h3
  go_enter Try.func59, Try.ntmps59
  go_wp2_with fail
  refine H0.out.mono ?_
  rintro e w1 ⟨rfl, hb1⟩
  go_wp2
  go_ret2
  exact ⟨rfl, belT HB.out hb1⟩
/-! ## equal logarithms -/
theorem vl_equal (p q g : Int) (s : ByteArray) (a b c d : Int) : vlB p q g s [[a], [c]] [b, d] = ((goodB p q g && decide (s.size ≤ 40)) && eqlB p q a b c d) := by
  have e1 : inB (2 : Int) 1 8 = true := rfl
  have e2 : inB (1 : Int) 1 8 = true := rfl
  unfold vlB sbR eqlB
  simp only [List.length_cons, List.length_nil, List.getD_cons_zero, List.all_cons, List.all_nil, Bool.and_true, Nat.zero_add, Int.natCast_one, decide_true, Bool.true_and]
  rw [show inB (((1 + 1 : Nat) : Int)) 1 8 = true from rfl, e2]
  cases goodB p q g <;> cases decide (s.size ≤ 40) <;> cases hasB p q a <;> cases hasB p q b <;> cases hasB p q c <;> cases hasB p q d <;> rfl
set_option maxHeartbeats 800000 in
theorem equalRows_any (a b c d : Int) (w : World) :
    Calls Try.prog 108 #[.agg #[.int .i64 a, .int .i64 b, .int .i64 c, .int .i64 d]] w fun e w' => ∃ R bs, e = .returned (.slice R 2 2) ∧ Grid w' R 2 bs ∧ rowsG bs = [[a], [c]] ∧ Below w.heap.size w w' := by
  go_enter Try.func108, Try.ntmps108
  go_wp2
  go_ret
  refine ⟨_, [(some ⟨w.heap.size + 1, 0, none⟩, 1, [a]), (some ⟨w.heap.size + 2, 0, none⟩, 1, [c])], rfl, grid2 (by rw [World.cell?_alloc_at _ _ _ _ (by simp)]; rfl) (by rw [World.cell?_alloc_at _ _ _ _ (by simp)]; rfl) (Ints.one (by rw [World.cell?_alloc_past _ _ _ (by simp <;> omega), World.cell?_alloc_past _ _ _ (by simp <;> omega), World.cell?_alloc_at _ _ _ _ (by simp)]; rfl)) (Ints.one (by rw [World.cell?_alloc_past _ _ _ (by simp <;> omega), World.cell?_alloc_at _ _ _ _ (by simp)]; rfl)), rfl, (by repeat (first | exact Below.refl _ _ | assumption | refine belA ?_ | refine belD ?_ | refine belN ?_ | refine belS ?_ (by simp) | refine belT ?_ (by assumption)))⟩
set_option maxRecDepth 100000 in
set_option maxHeartbeats 1600000 in
theorem sVerifyEq_any (p q g : Int) (s : ByteArray) (a b c d : Int) (A1 A2 A3 : Option Addr) (n1 n2 n3 c1 c2 c3 : Nat) (C H Z : List Int) (w : World) (hg : goodB p q g = true) (hs : s.size ≤ 40) (he : eqlB p q a b c d = true) (h1 : Ints w A1 n1 C) (h2 : Ints w A2 n2 H) (h3 : Ints w A3 n3 Z) :
    Calls Try.prog 106 #[.agg #[.int .i64 p, .int .i64 q, .int .i64 g], .string s, .agg #[.int .i64 a, .int .i64 b, .int .i64 c, .int .i64 d], .agg #[.slice A1 n1 c1, .slice A2 n2 c2, .slice A3 n3 c3]] w fun e w' => e = .returned (.bool (vfB p q g s [[a], [c]] [b, d] C H Z)) ∧ Below w.heap.size w w' := by
  have hl := h1.len
  subst hl
  have hl := h2.len
  subst hl
  have hl := h3.len
  subst hl
  have hvl : vlB p q g s [[a], [c]] [b, d] = true := by rw [vl_equal, hg, decide_eq_true hs, he]; rfl
  have hsb : sbR p q [[a], [c]] = true := by
    simp only [vlB, Bool.and_eq_true] at hvl
    exact hvl.1.1.2
  have him : [b, d].all (hasB p q) = true := by
    simp only [vlB, Bool.and_eq_true] at hvl
    exact hvl.2
  have hB : Below w.heap.size w (((((((w.alloc (.cells #[.int .i64 p, .int .i64 q, .int .i64 g] 27)).alloc (.cells #[.int .i64 a, .int .i64 b, .int .i64 c, .int .i64 d] 74)).alloc (.cells #[.slice A1 C.length c1, .slice A2 H.length c2, .slice A3 Z.length c3] 52)).alloc (.cells #[.int .i64 a] 3)).alloc (.cells #[.int .i64 c] 3)).alloc (.cells #[.slice (some ⟨w.heap.size + 3, 0, none⟩) 1 1, .slice (some ⟨w.heap.size + 4, 0, none⟩) 1 1] 24)).alloc (.cells #[.int .i64 b, .int .i64 d] 3)) := (by repeat (first | exact Below.refl _ _ | assumption | refine belA ?_ | refine belD ?_ | refine belN ?_ | refine belS ?_ (by simp) | refine belT ?_ (by assumption)))
  have k0 : (((((((w.alloc (.cells #[.int .i64 p, .int .i64 q, .int .i64 g] 27)).alloc (.cells #[.int .i64 a, .int .i64 b, .int .i64 c, .int .i64 d] 74)).alloc (.cells #[.slice A1 C.length c1, .slice A2 H.length c2, .slice A3 Z.length c3] 52)).alloc (.cells #[.int .i64 a] 3)).alloc (.cells #[.int .i64 c] 3)).alloc (.cells #[.slice (some ⟨w.heap.size + 3, 0, none⟩) 1 1, .slice (some ⟨w.heap.size + 4, 0, none⟩) 1 1] 24)).alloc (.cells #[.int .i64 b, .int .i64 d] 3)).cell? ⟨w.heap.size + 3, 0, none⟩ = some (.int .i64 a) := by rw [World.cell?_alloc_past _ _ _ (by simp <;> omega), World.cell?_alloc_past _ _ _ (by simp <;> omega), World.cell?_alloc_past _ _ _ (by simp <;> omega), World.cell?_alloc_at _ _ _ _ (by simp)]; rfl
  have k1 : (((((((w.alloc (.cells #[.int .i64 p, .int .i64 q, .int .i64 g] 27)).alloc (.cells #[.int .i64 a, .int .i64 b, .int .i64 c, .int .i64 d] 74)).alloc (.cells #[.slice A1 C.length c1, .slice A2 H.length c2, .slice A3 Z.length c3] 52)).alloc (.cells #[.int .i64 a] 3)).alloc (.cells #[.int .i64 c] 3)).alloc (.cells #[.slice (some ⟨w.heap.size + 3, 0, none⟩) 1 1, .slice (some ⟨w.heap.size + 4, 0, none⟩) 1 1] 24)).alloc (.cells #[.int .i64 b, .int .i64 d] 3)).cell? ⟨w.heap.size + 4, 0, none⟩ = some (.int .i64 c) := by rw [World.cell?_alloc_past _ _ _ (by simp <;> omega), World.cell?_alloc_past _ _ _ (by simp <;> omega), World.cell?_alloc_at _ _ _ _ (by simp)]; rfl
  have k2 : (((((((w.alloc (.cells #[.int .i64 p, .int .i64 q, .int .i64 g] 27)).alloc (.cells #[.int .i64 a, .int .i64 b, .int .i64 c, .int .i64 d] 74)).alloc (.cells #[.slice A1 C.length c1, .slice A2 H.length c2, .slice A3 Z.length c3] 52)).alloc (.cells #[.int .i64 a] 3)).alloc (.cells #[.int .i64 c] 3)).alloc (.cells #[.slice (some ⟨w.heap.size + 3, 0, none⟩) 1 1, .slice (some ⟨w.heap.size + 4, 0, none⟩) 1 1] 24)).alloc (.cells #[.int .i64 b, .int .i64 d] 3)).cell? ⟨w.heap.size + 5, 0, none⟩ = some (.slice (some ⟨w.heap.size + 3, 0, none⟩) 1 1) := by rw [World.cell?_alloc_past _ _ _ (by simp <;> omega), World.cell?_alloc_at _ _ _ _ (by simp)]; rfl
  have k3 : (((((((w.alloc (.cells #[.int .i64 p, .int .i64 q, .int .i64 g] 27)).alloc (.cells #[.int .i64 a, .int .i64 b, .int .i64 c, .int .i64 d] 74)).alloc (.cells #[.slice A1 C.length c1, .slice A2 H.length c2, .slice A3 Z.length c3] 52)).alloc (.cells #[.int .i64 a] 3)).alloc (.cells #[.int .i64 c] 3)).alloc (.cells #[.slice (some ⟨w.heap.size + 3, 0, none⟩) 1 1, .slice (some ⟨w.heap.size + 4, 0, none⟩) 1 1] 24)).alloc (.cells #[.int .i64 b, .int .i64 d] 3)).cell? ⟨w.heap.size + 5, 1, none⟩ = some (.slice (some ⟨w.heap.size + 4, 0, none⟩) 1 1) := by rw [World.cell?_alloc_past _ _ _ (by simp <;> omega), World.cell?_alloc_at _ _ _ _ (by simp)]; rfl
  have k4 : (((((((w.alloc (.cells #[.int .i64 p, .int .i64 q, .int .i64 g] 27)).alloc (.cells #[.int .i64 a, .int .i64 b, .int .i64 c, .int .i64 d] 74)).alloc (.cells #[.slice A1 C.length c1, .slice A2 H.length c2, .slice A3 Z.length c3] 52)).alloc (.cells #[.int .i64 a] 3)).alloc (.cells #[.int .i64 c] 3)).alloc (.cells #[.slice (some ⟨w.heap.size + 3, 0, none⟩) 1 1, .slice (some ⟨w.heap.size + 4, 0, none⟩) 1 1] 24)).alloc (.cells #[.int .i64 b, .int .i64 d] 3)).cell? ⟨w.heap.size + 6, 0, none⟩ = some (.int .i64 b) := by rw [World.cell?_alloc_at _ _ _ _ (by simp)]; rfl
  have k5 : (((((((w.alloc (.cells #[.int .i64 p, .int .i64 q, .int .i64 g] 27)).alloc (.cells #[.int .i64 a, .int .i64 b, .int .i64 c, .int .i64 d] 74)).alloc (.cells #[.slice A1 C.length c1, .slice A2 H.length c2, .slice A3 Z.length c3] 52)).alloc (.cells #[.int .i64 a] 3)).alloc (.cells #[.int .i64 c] 3)).alloc (.cells #[.slice (some ⟨w.heap.size + 3, 0, none⟩) 1 1, .slice (some ⟨w.heap.size + 4, 0, none⟩) 1 1] 24)).alloc (.cells #[.int .i64 b, .int .i64 d] 3)).cell? ⟨w.heap.size + 6, 1, none⟩ = some (.int .i64 d) := by rw [World.cell?_alloc_at _ _ _ _ (by simp)]; rfl
  have H0 := Lib.hid (sVerify_any p q g s (some ⟨w.heap.size + 5, 0, none⟩) 2 2 [(some ⟨w.heap.size + 3, 0, none⟩, 1, [a]), (some ⟨w.heap.size + 4, 0, none⟩, 1, [c])] (some ⟨w.heap.size + 6, 0, none⟩) 2 2 [b, d] A1 A2 A3 c1 c2 c3 C H Z (((((((w.alloc (.cells #[.int .i64 p, .int .i64 q, .int .i64 g] 27)).alloc (.cells #[.int .i64 a, .int .i64 b, .int .i64 c, .int .i64 d] 74)).alloc (.cells #[.slice A1 C.length c1, .slice A2 H.length c2, .slice A3 Z.length c3] 52)).alloc (.cells #[.int .i64 a] 3)).alloc (.cells #[.int .i64 c] 3)).alloc (.cells #[.slice (some ⟨w.heap.size + 3, 0, none⟩) 1 1, .slice (some ⟨w.heap.size + 4, 0, none⟩) 1 1] 24)).alloc (.cells #[.int .i64 b, .int .i64 d] 3)) hg hs (grid2 k2 k3 (Ints.one k0) (Ints.one k1)) ((sb_rows p q _).trans hsb) (Ints.two k4 k5) rfl him (h1.below hB) (h2.below hB) (h3.below hB))
  have HB := Lib.hid hB
  clear k0 k1 k2 k3 k4 k5 hB h1 h2 h3 hvl hsb him
  go_enter Try.func106, Try.ntmps106
  go_wp2_with fail
  refine H0.out.mono ?_
  rintro e w1 ⟨rfl, hb1⟩
  go_wp2
  go_ret
  exact ⟨rfl, belT HB.out hb1⟩
set_option maxHeartbeats 1600000 in
theorem sVerifyEqual_any (p q g : Int) (s : ByteArray) (a b c d : Int) (A1 A2 A3 : Option Addr) (n1 n2 n3 c1 c2 c3 : Nat) (C H Z : List Int) (w : World) (hm : s.size ≤ 9223372036854775807) (h1 : Ints w A1 n1 C) (h2 : Ints w A2 n2 H) (h3 : Ints w A3 n3 Z) :
    Calls Try.prog 54 #[.agg #[.int .i64 p, .int .i64 q, .int .i64 g], .string s, .agg #[.int .i64 a, .int .i64 b, .int .i64 c, .int .i64 d], .agg #[.slice A1 n1 c1, .slice A2 n2 c2, .slice A3 n3 c3]] w fun e w' => e = .returned (.tuple #[.bool (vlM p q g s [[a], [c]] [b, d] C H Z).1, .bool (vlM p q g s [[a], [c]] [b, d] C H Z).2]) ∧ Below w.heap.size w w' := by
  have H1 := Lib.hid h1
  have H2 := Lib.hid h2
  have H3 := Lib.hid h3
  have HVL := Lib.hid (vl_equal p q g s a b c d)
  clear h1 h2 h3
  go_enter Try.func54, Try.ntmps54
  go_wp2_with fail
  refine (sLabel_any p q g s _ hm).mono ?_
  rintro e w1_ ⟨rfl, hb1⟩
  have hW := hb1
  obtain ⟨hc, hf⟩ := bcell hW
  cases q1 : goodB p q g
  · rw [Bool.false_and]
    go_wp2
    go_ret2
    exact ⟨ret_bb2 (by rw [vlM, HVL.out, q1]; rfl), belT (by repeat (first | exact Below.refl _ _ | assumption | refine belA ?_ | refine belD ?_ | refine belN ?_ | refine belS ?_ (by simp) | refine belT ?_ (by assumption))) hW⟩
  rw [Bool.true_and]
  cases q2 : decide (s.size ≤ 40)
  · go_wp2
    go_ret2
    exact ⟨ret_bb2 (by rw [vlM, HVL.out, q1, q2]; rfl), belT (by repeat (first | exact Below.refl _ _ | assumption | refine belA ?_ | refine belD ?_ | refine belN ?_ | refine belS ?_ (by simp) | refine belT ?_ (by assumption))) hW⟩
  have HSZ := Lib.hid (show s.size ≤ 40 by simpa using q2)
  have HQ2 := Lib.hid q2
  clear q2
  obtain ⟨g1, g2, g3, g4, g5, g6⟩ := good_om q1
  go_wp2_with fail
  refine (sElements_any p q g a b c d _ g1 g2 g3 g4).mono ?_
  rintro e w2_ ⟨rfl, hb2⟩
  clear hc hf
  replace hW := belT hW hb2
  obtain ⟨hc, hf⟩ := bcell hW
  cases q3 : eqlB p q a b c d
  · go_wp2
    go_ret2
    exact ⟨ret_bb2 (by rw [vlM, HVL.out, q1, HQ2.out, q3]; rfl), belT (by repeat (first | exact Below.refl _ _ | assumption | refine belA ?_ | refine belD ?_ | refine belN ?_ | refine belS ?_ (by simp) | refine belT ?_ (by assumption))) hW⟩
  go_wp2_with fail
  refine (sVerifyEq_any p q g s a b c d A1 A2 A3 n1 n2 n3 c1 c2 c3 C H Z _ q1 HSZ.out q3 (H1.out.below (belT (by repeat (first | exact Below.refl _ _ | assumption | refine belA ?_ | refine belD ?_ | refine belN ?_ | refine belS ?_ (by simp) | refine belT ?_ (by assumption))) hW)) (H2.out.below (belT (by repeat (first | exact Below.refl _ _ | assumption | refine belA ?_ | refine belD ?_ | refine belN ?_ | refine belS ?_ (by simp) | refine belT ?_ (by assumption))) hW)) (H3.out.below (belT (by repeat (first | exact Below.refl _ _ | assumption | refine belA ?_ | refine belD ?_ | refine belN ?_ | refine belS ?_ (by simp) | refine belT ?_ (by assumption))) hW))).mono ?_
  rintro e w3_ ⟨rfl, hb3⟩
  clear hc hf
  replace hW := belT hW hb3
  obtain ⟨hc, hf⟩ := bcell hW
  go_wp2
  go_ret2
  exact ⟨ret_bb2 (by rw [vlM, HVL.out, q1, HQ2.out, q3]; rfl), belT (by repeat (first | exact Below.refl _ _ | assumption | refine belA ?_ | refine belD ?_ | refine belN ?_ | refine belS ?_ (by simp) | refine belT ?_ (by assumption))) hW⟩
set_option maxRecDepth 100000 in
set_option maxHeartbeats 4000000 in
theorem iVerifyEqual_any (p q g : Int) (s : ByteArray) (a b c d : Int) (A1 A2 A3 : Option Addr) (n1 n2 n3 c1 c2 c3 : Nat) (C H Z : List Int) (w : World) (hm : s.size ≤ 9223372036854775807) (h1 : Ints w A1 n1 C) (h2 : Ints w A2 n2 H) (h3 : Ints w A3 n3 Z) :
    Calls Try.prog 57 #[.agg #[.int .i64 p, .int .i64 q, .int .i64 g], .string s, .agg #[.int .i64 a, .int .i64 b, .int .i64 c, .int .i64 d], .agg #[.slice A1 n1 c1, .slice A2 n2 c2, .slice A3 n3 c3]] w fun e w' => e = .returned (.tuple #[.bool (vlM p q g s [[a], [c]] [b, d] C H Z).1, .bool (vlM p q g s [[a], [c]] [b, d] C H Z).2]) ∧ Below w.heap.size w w' := by
  have hb0 : Below w.heap.size w (((w.alloc (.cells #[.int .i64 p, .int .i64 q, .int .i64 g] 27)).alloc (.cells #[.int .i64 a, .int .i64 b, .int .i64 c, .int .i64 d] 74)).alloc (.cells #[.slice A1 n1 c1, .slice A2 n2 c2, .slice A3 n3 c3] 52)) := (by repeat (first | exact Below.refl _ _ | assumption | refine belA ?_ | refine belD ?_ | refine belN ?_ | refine belS ?_ (by simp) | refine belT ?_ (by assumption)))
  have H1 := Lib.hid (h1.below hb0)
  have H2 := Lib.hid (h2.below hb0)
  have H3 := Lib.hid (h3.below hb0)
  have f0 : (((w.alloc (.cells #[.int .i64 p, .int .i64 q, .int .i64 g] 27)).alloc (.cells #[.int .i64 a, .int .i64 b, .int .i64 c, .int .i64 d] 74)).alloc (.cells #[.slice A1 n1 c1, .slice A2 n2 c2, .slice A3 n3 c3] 52)).cell? ⟨w.heap.size, 0, none⟩ = some (.int .i64 p) := by rw [World.cell?_alloc_past _ _ _ (by simp <;> omega), World.cell?_alloc_past _ _ _ (by simp <;> omega), World.cell?_alloc_at _ _ _ _ (by simp)]; rfl
  have f1 : (((w.alloc (.cells #[.int .i64 p, .int .i64 q, .int .i64 g] 27)).alloc (.cells #[.int .i64 a, .int .i64 b, .int .i64 c, .int .i64 d] 74)).alloc (.cells #[.slice A1 n1 c1, .slice A2 n2 c2, .slice A3 n3 c3] 52)).cell? ⟨w.heap.size, 1, none⟩ = some (.int .i64 q) := by rw [World.cell?_alloc_past _ _ _ (by simp <;> omega), World.cell?_alloc_past _ _ _ (by simp <;> omega), World.cell?_alloc_at _ _ _ _ (by simp)]; rfl
  have f2 : (((w.alloc (.cells #[.int .i64 p, .int .i64 q, .int .i64 g] 27)).alloc (.cells #[.int .i64 a, .int .i64 b, .int .i64 c, .int .i64 d] 74)).alloc (.cells #[.slice A1 n1 c1, .slice A2 n2 c2, .slice A3 n3 c3] 52)).cell? ⟨w.heap.size, 2, none⟩ = some (.int .i64 g) := by rw [World.cell?_alloc_past _ _ _ (by simp <;> omega), World.cell?_alloc_past _ _ _ (by simp <;> omega), World.cell?_alloc_at _ _ _ _ (by simp)]; rfl
  have e0 : (((w.alloc (.cells #[.int .i64 p, .int .i64 q, .int .i64 g] 27)).alloc (.cells #[.int .i64 a, .int .i64 b, .int .i64 c, .int .i64 d] 74)).alloc (.cells #[.slice A1 n1 c1, .slice A2 n2 c2, .slice A3 n3 c3] 52)).cell? ⟨w.heap.size + 1, 0, none⟩ = some (.int .i64 a) := by rw [World.cell?_alloc_past _ _ _ (by simp <;> omega), World.cell?_alloc_at _ _ _ _ (by simp)]; rfl
  have e1 : (((w.alloc (.cells #[.int .i64 p, .int .i64 q, .int .i64 g] 27)).alloc (.cells #[.int .i64 a, .int .i64 b, .int .i64 c, .int .i64 d] 74)).alloc (.cells #[.slice A1 n1 c1, .slice A2 n2 c2, .slice A3 n3 c3] 52)).cell? ⟨w.heap.size + 1, 1, none⟩ = some (.int .i64 b) := by rw [World.cell?_alloc_past _ _ _ (by simp <;> omega), World.cell?_alloc_at _ _ _ _ (by simp)]; rfl
  have e2 : (((w.alloc (.cells #[.int .i64 p, .int .i64 q, .int .i64 g] 27)).alloc (.cells #[.int .i64 a, .int .i64 b, .int .i64 c, .int .i64 d] 74)).alloc (.cells #[.slice A1 n1 c1, .slice A2 n2 c2, .slice A3 n3 c3] 52)).cell? ⟨w.heap.size + 1, 2, none⟩ = some (.int .i64 c) := by rw [World.cell?_alloc_past _ _ _ (by simp <;> omega), World.cell?_alloc_at _ _ _ _ (by simp)]; rfl
  have e3 : (((w.alloc (.cells #[.int .i64 p, .int .i64 q, .int .i64 g] 27)).alloc (.cells #[.int .i64 a, .int .i64 b, .int .i64 c, .int .i64 d] 74)).alloc (.cells #[.slice A1 n1 c1, .slice A2 n2 c2, .slice A3 n3 c3] 52)).cell? ⟨w.heap.size + 1, 3, none⟩ = some (.int .i64 d) := by rw [World.cell?_alloc_past _ _ _ (by simp <;> omega), World.cell?_alloc_at _ _ _ _ (by simp)]; rfl
  have d0 : (((w.alloc (.cells #[.int .i64 p, .int .i64 q, .int .i64 g] 27)).alloc (.cells #[.int .i64 a, .int .i64 b, .int .i64 c, .int .i64 d] 74)).alloc (.cells #[.slice A1 n1 c1, .slice A2 n2 c2, .slice A3 n3 c3] 52)).cell? ⟨w.heap.size + 2, 0, none⟩ = some (.slice A1 n1 c1) := by rw [World.cell?_alloc_at _ _ _ _ (by simp)]; rfl
  have d1 : (((w.alloc (.cells #[.int .i64 p, .int .i64 q, .int .i64 g] 27)).alloc (.cells #[.int .i64 a, .int .i64 b, .int .i64 c, .int .i64 d] 74)).alloc (.cells #[.slice A1 n1 c1, .slice A2 n2 c2, .slice A3 n3 c3] 52)).cell? ⟨w.heap.size + 2, 1, none⟩ = some (.slice A2 n2 c2) := by rw [World.cell?_alloc_at _ _ _ _ (by simp)]; rfl
  have d2 : (((w.alloc (.cells #[.int .i64 p, .int .i64 q, .int .i64 g] 27)).alloc (.cells #[.int .i64 a, .int .i64 b, .int .i64 c, .int .i64 d] 74)).alloc (.cells #[.slice A1 n1 c1, .slice A2 n2 c2, .slice A3 n3 c3] 52)).cell? ⟨w.heap.size + 2, 2, none⟩ = some (.slice A3 n3 c3) := by rw [World.cell?_alloc_at _ _ _ _ (by simp)]; rfl
  clear h1 h2 h3
  go_enter Try.func57, Try.ntmps57
  go_wp2
  generalize hW0 : (((w.alloc (.cells #[.int .i64 p, .int .i64 q, .int .i64 g] 27)).alloc (.cells #[.int .i64 a, .int .i64 b, .int .i64 c, .int .i64 d] 74)).alloc (.cells #[.slice A1 n1 c1, .slice A2 n2 c2, .slice A3 n3 c3] 52)) = W0 at f0 f1 f2 e0 e1 e2 e3 d0 d1 d2 hb0 H1 H2 H3
  clear hW0
  refine wp_region_held_drew (S := fun W => Below W0.heap.size W0 W) (by kernel_rfl) (belD (Below.refl _ _)) (fun hHeld => ?_)
  refine heldTake (i := 0) (v := ?_) (some 10) rfl rfl (by kernel_rfl) (by kernel_rfl) (by kernel_rfl) (fun _ _ _ h => h) (Or.inl ⟨by rfl, ?_⟩) (by assumption) ?_
  rotate_left
  · (intro W hSw; have q0 := keepB hSw f0; have q1 := keepB hSw f1; have q2 := keepB hSw f2; have q3 := keepB hSw e0; have q4 := keepB hSw e1; have q5 := keepB hSw e2; have q6 := keepB hSw e3; have q7 := keepB hSw d0; have q8 := keepB hSw d1; have q9 := keepB hSw d2; clear hSw; go_simp; all_goals first | with_reducible rfl | (simp [*]; done) | (intro hh; exfalso; omega) | fail)
  try simp only [Act.put, List.setIfInBounds_toArray, List.set_cons_zero, List.set_cons_succ]
  refine heldTake (i := 1) (v := ?_) (some 11) rfl rfl (by kernel_rfl) (by kernel_rfl) (by kernel_rfl) (fun _ _ _ h => h) (Or.inl ⟨by rfl, ?_⟩) (by assumption) ?_
  rotate_left
  · (intro W hSw; have q0 := keepB hSw f0; have q1 := keepB hSw f1; have q2 := keepB hSw f2; have q3 := keepB hSw e0; have q4 := keepB hSw e1; have q5 := keepB hSw e2; have q6 := keepB hSw e3; have q7 := keepB hSw d0; have q8 := keepB hSw d1; have q9 := keepB hSw d2; clear hSw; go_simp; all_goals first | with_reducible rfl | (simp [*]; done) | (intro hh; exfalso; omega) | fail)
  try simp only [Act.put, List.setIfInBounds_toArray, List.set_cons_zero, List.set_cons_succ]
  refine heldTake (i := 2) (v := ?_) (some 12) rfl rfl (by kernel_rfl) (by kernel_rfl) (by kernel_rfl) (fun _ _ _ h => h) (Or.inl ⟨by rfl, ?_⟩) (by assumption) ?_
  rotate_left
  · (intro W hSw; have q0 := keepB hSw f0; have q1 := keepB hSw f1; have q2 := keepB hSw f2; have q3 := keepB hSw e0; have q4 := keepB hSw e1; have q5 := keepB hSw e2; have q6 := keepB hSw e3; have q7 := keepB hSw d0; have q8 := keepB hSw d1; have q9 := keepB hSw d2; clear hSw; go_simp; all_goals first | with_reducible rfl | (simp [*]; done) | (intro hh; exfalso; omega) | fail)
  try simp only [Act.put, List.setIfInBounds_toArray, List.set_cons_zero, List.set_cons_succ]
  refine heldTake (i := 4) (v := ?_) (some 14) rfl rfl (by kernel_rfl) (by kernel_rfl) (by kernel_rfl) (fun _ _ _ h => h) (Or.inl ⟨by rfl, ?_⟩) (by assumption) ?_
  rotate_left
  · (intro W hSw; have q0 := keepB hSw f0; have q1 := keepB hSw f1; have q2 := keepB hSw f2; have q3 := keepB hSw e0; have q4 := keepB hSw e1; have q5 := keepB hSw e2; have q6 := keepB hSw e3; have q7 := keepB hSw d0; have q8 := keepB hSw d1; have q9 := keepB hSw d2; clear hSw; go_simp; all_goals first | with_reducible rfl | (simp [*]; done) | (intro hh; exfalso; omega) | fail)
  try simp only [Act.put, List.setIfInBounds_toArray, List.set_cons_zero, List.set_cons_succ]
  refine heldTake (i := 5) (v := ?_) (some 15) rfl rfl (by kernel_rfl) (by kernel_rfl) (by kernel_rfl) (fun _ _ _ h => h) (Or.inl ⟨by rfl, ?_⟩) (by assumption) ?_
  rotate_left
  · (intro W hSw; have q0 := keepB hSw f0; have q1 := keepB hSw f1; have q2 := keepB hSw f2; have q3 := keepB hSw e0; have q4 := keepB hSw e1; have q5 := keepB hSw e2; have q6 := keepB hSw e3; have q7 := keepB hSw d0; have q8 := keepB hSw d1; have q9 := keepB hSw d2; clear hSw; go_simp; all_goals first | with_reducible rfl | (simp [*]; done) | (intro hh; exfalso; omega) | fail)
  try simp only [Act.put, List.setIfInBounds_toArray, List.set_cons_zero, List.set_cons_succ]
  refine heldTake (i := 6) (v := ?_) (some 16) rfl rfl (by kernel_rfl) (by kernel_rfl) (by kernel_rfl) (fun _ _ _ h => h) (Or.inl ⟨by rfl, ?_⟩) (by assumption) ?_
  rotate_left
  · (intro W hSw; have q0 := keepB hSw f0; have q1 := keepB hSw f1; have q2 := keepB hSw f2; have q3 := keepB hSw e0; have q4 := keepB hSw e1; have q5 := keepB hSw e2; have q6 := keepB hSw e3; have q7 := keepB hSw d0; have q8 := keepB hSw d1; have q9 := keepB hSw d2; clear hSw; go_simp; all_goals first | with_reducible rfl | (simp [*]; done) | (intro hh; exfalso; omega) | fail)
  try simp only [Act.put, List.setIfInBounds_toArray, List.set_cons_zero, List.set_cons_succ]
  refine heldTake (i := 7) (v := ?_) (some 17) rfl rfl (by kernel_rfl) (by kernel_rfl) (by kernel_rfl) (fun _ _ _ h => h) (Or.inl ⟨by rfl, ?_⟩) (by assumption) ?_
  rotate_left
  · (intro W hSw; have q0 := keepB hSw f0; have q1 := keepB hSw f1; have q2 := keepB hSw f2; have q3 := keepB hSw e0; have q4 := keepB hSw e1; have q5 := keepB hSw e2; have q6 := keepB hSw e3; have q7 := keepB hSw d0; have q8 := keepB hSw d1; have q9 := keepB hSw d2; clear hSw; go_simp; all_goals first | with_reducible rfl | (simp [*]; done) | (intro hh; exfalso; omega) | fail)
  try simp only [Act.put, List.setIfInBounds_toArray, List.set_cons_zero, List.set_cons_succ]
  refine heldTake (i := 9) (v := ?_) (some 19) rfl rfl (by kernel_rfl) (by kernel_rfl) (by kernel_rfl) (fun _ _ _ h => h) (Or.inl ⟨by rfl, ?_⟩) (by assumption) ?_
  rotate_left
  · (intro W hSw; have q0 := keepB hSw f0; have q1 := keepB hSw f1; have q2 := keepB hSw f2; have q3 := keepB hSw e0; have q4 := keepB hSw e1; have q5 := keepB hSw e2; have q6 := keepB hSw e3; have q7 := keepB hSw d0; have q8 := keepB hSw d1; have q9 := keepB hSw d2; clear hSw; go_simp; all_goals first | with_reducible rfl | (simp [*]; done) | (intro hh; exfalso; omega) | fail)
  try simp only [Act.put, List.setIfInBounds_toArray, List.set_cons_zero, List.set_cons_succ]
  refine wpAnyH_ready (rs := [3, 8]) (by kernel_rfl) (by simp) ?_
  refine AllReadyH.cons rfl (fun K hK => ?_) (AllReadyH.cons rfl (fun K hK => ?_) AllReadyH.nil)
  · go_simp
    (go_at_call 108; refine (equalRows_any a b c d _).mono ?_; rintro e w1 ⟨R, bs, rfl, hG, hRW, hb1⟩)
    have HG := Lib.hid hG
    have HRW := Lib.hid hRW
    clear hG hRW
    have hNx := belT hHeld hb1
    refine hK.out _ _ hNx (fun hNew => ?_)
    clear hK K hHeld hNx
    have hHeld := hNew; clear hNew hb1
    try simp only [Act.put, List.setIfInBounds_toArray, List.set_cons_zero, List.set_cons_succ]
    refine wpAnyH_ready (rs := [8]) (by kernel_rfl) (by simp) ?_
    refine AllReadyH.cons rfl (fun K hK => ?_) AllReadyH.nil
    go_simp
    refine hK.out _ _ (belA hHeld) (fun hNew => ?_)
    clear hK K hHeld
    have hHeld := hNew; clear hNew
    have IX := Lib.hid (lit2_of hHeld)
    replace HG := Lib.hid (HG.out.below (belA (o := .cells #[.int .i64 b, .int .i64 d] 3) (Below.refl _ _)))
    try simp only [Act.put, List.setIfInBounds_toArray, List.set_cons_zero, List.set_cons_succ]
    refine wpAnyH_ready (rs := [10]) (by kernel_rfl) (by simp) ?_
    refine AllReadyH.cons rfl (fun K hK => ?_) AllReadyH.nil
    go_simp
    (go_at_call 107; refine (iVerifyLinear_any p q g s R 2 2 bs _ 2 2 [b, d] A1 A2 A3 n1 n2 n3 c1 c2 c3 C H Z _ hm HG.out IX.out (H1.out.below hHeld) (H2.out.below hHeld) (H3.out.below hHeld)).mono ?_; rintro e w1 ⟨rfl, hb1⟩)
    rw [HRW.out]
    have hNx := belT hHeld hb1
    refine hK.out _ _ hNx (fun hNew => ?_)
    clear hK K hHeld hNx
    have hHeld := hNew; clear hNew hb1
    try simp only [Act.put, List.setIfInBounds_toArray, List.set_cons_zero, List.set_cons_succ]
    refine heldTake (i := 11) (v := ?_) (some 21) rfl rfl (by kernel_rfl) (by kernel_rfl) (by kernel_rfl) (fun _ _ _ h => h) (Or.inl ⟨by rfl, ?_⟩) (by assumption) ?_
    rotate_left
    · (intro W hSw; have q0 := keepB hSw f0; have q1 := keepB hSw f1; have q2 := keepB hSw f2; have q3 := keepB hSw e0; have q4 := keepB hSw e1; have q5 := keepB hSw e2; have q6 := keepB hSw e3; have q7 := keepB hSw d0; have q8 := keepB hSw d1; have q9 := keepB hSw d2; clear hSw; go_simp; all_goals first | with_reducible rfl | (simp [*]; done) | (intro hh; exfalso; omega) | fail)
    try simp only [Act.put, List.setIfInBounds_toArray, List.set_cons_zero, List.set_cons_succ]
    refine heldTake (i := 12) (v := ?_) (some 22) rfl rfl (by kernel_rfl) (by kernel_rfl) (by kernel_rfl) (fun _ _ _ h => h) (Or.inl ⟨by rfl, ?_⟩) (by assumption) ?_
    rotate_left
    · (intro W hSw; have q0 := keepB hSw f0; have q1 := keepB hSw f1; have q2 := keepB hSw f2; have q3 := keepB hSw e0; have q4 := keepB hSw e1; have q5 := keepB hSw e2; have q6 := keepB hSw e3; have q7 := keepB hSw d0; have q8 := keepB hSw d1; have q9 := keepB hSw d2; clear hSw; go_simp; all_goals first | with_reducible rfl | (simp [*]; done) | (intro hh; exfalso; omega) | fail)
    try simp only [Act.put, List.setIfInBounds_toArray, List.set_cons_zero, List.set_cons_succ]
    refine heldTake (i := 13) (v := ?_) (some 8) rfl rfl (by kernel_rfl) (by kernel_rfl) (by kernel_rfl) (fun _ _ _ h => h) (Or.inl ⟨by rfl, ?_⟩) (by assumption) ?_
    rotate_left
    · (intro W hSw; have q0 := keepB hSw f0; have q1 := keepB hSw f1; have q2 := keepB hSw f2; have q3 := keepB hSw e0; have q4 := keepB hSw e1; have q5 := keepB hSw e2; have q6 := keepB hSw e3; have q7 := keepB hSw d0; have q8 := keepB hSw d1; have q9 := keepB hSw d2; clear hSw; go_simp; all_goals first | with_reducible rfl | (simp [*]; done) | (intro hh; exfalso; omega) | fail)
    try simp only [Act.put, List.setIfInBounds_toArray, List.set_cons_zero, List.set_cons_succ]
    refine heldTake (i := 14) (v := ?_) (some 9) rfl rfl (by kernel_rfl) (by kernel_rfl) (by kernel_rfl) (fun _ _ _ h => h) (Or.inl ⟨by rfl, ?_⟩) (by assumption) ?_
    rotate_left
    · (intro W hSw; have q0 := keepB hSw f0; have q1 := keepB hSw f1; have q2 := keepB hSw f2; have q3 := keepB hSw e0; have q4 := keepB hSw e1; have q5 := keepB hSw e2; have q6 := keepB hSw e3; have q7 := keepB hSw d0; have q8 := keepB hSw d1; have q9 := keepB hSw d2; clear hSw; go_simp; all_goals first | with_reducible rfl | (simp [*]; done) | (intro hh; exfalso; omega) | fail)
    try simp only [Act.put, List.setIfInBounds_toArray, List.set_cons_zero, List.set_cons_succ]
    refine wpAnyH_done (by kernel_rfl) ?_ _
    go_wp2
    go_ret2
    exact ⟨rfl, belT hb0 hHeld⟩
  · go_simp
    refine hK.out _ _ (belA hHeld) (fun hNew => ?_)
    clear hK K hHeld
    have hHeld := hNew; clear hNew
    have IX := Lib.hid (lit2_ofD hHeld)
    try simp only [Act.put, List.setIfInBounds_toArray, List.set_cons_zero, List.set_cons_succ]
    refine wpAnyH_ready (rs := [3]) (by kernel_rfl) (by simp) ?_
    refine AllReadyH.cons rfl (fun K hK => ?_) AllReadyH.nil
    go_simp
    (go_at_call 108; refine (equalRows_any a b c d _).mono ?_; rintro e w1 ⟨R, bs, rfl, hG, hRW, hb1⟩)
    have HG := Lib.hid hG
    have HRW := Lib.hid hRW
    replace IX := Lib.hid (IX.out.below hb1)
    clear hG hRW
    have hNx := belT hHeld hb1
    refine hK.out _ _ hNx (fun hNew => ?_)
    clear hK K hHeld hNx
    have hHeld := hNew; clear hNew hb1
    try simp only [Act.put, List.setIfInBounds_toArray, List.set_cons_zero, List.set_cons_succ]
    refine wpAnyH_ready (rs := [10]) (by kernel_rfl) (by simp) ?_
    refine AllReadyH.cons rfl (fun K hK => ?_) AllReadyH.nil
    go_simp
    (go_at_call 107; refine (iVerifyLinear_any p q g s R 2 2 bs _ 2 2 [b, d] A1 A2 A3 n1 n2 n3 c1 c2 c3 C H Z _ hm HG.out IX.out (H1.out.below hHeld) (H2.out.below hHeld) (H3.out.below hHeld)).mono ?_; rintro e w1 ⟨rfl, hb1⟩)
    rw [HRW.out]
    have hNx := belT hHeld hb1
    refine hK.out _ _ hNx (fun hNew => ?_)
    clear hK K hHeld hNx
    have hHeld := hNew; clear hNew hb1
    try simp only [Act.put, List.setIfInBounds_toArray, List.set_cons_zero, List.set_cons_succ]
    refine heldTake (i := 11) (v := ?_) (some 21) rfl rfl (by kernel_rfl) (by kernel_rfl) (by kernel_rfl) (fun _ _ _ h => h) (Or.inl ⟨by rfl, ?_⟩) (by assumption) ?_
    rotate_left
    · (intro W hSw; have q0 := keepB hSw f0; have q1 := keepB hSw f1; have q2 := keepB hSw f2; have q3 := keepB hSw e0; have q4 := keepB hSw e1; have q5 := keepB hSw e2; have q6 := keepB hSw e3; have q7 := keepB hSw d0; have q8 := keepB hSw d1; have q9 := keepB hSw d2; clear hSw; go_simp; all_goals first | with_reducible rfl | (simp [*]; done) | (intro hh; exfalso; omega) | fail)
    try simp only [Act.put, List.setIfInBounds_toArray, List.set_cons_zero, List.set_cons_succ]
    refine heldTake (i := 12) (v := ?_) (some 22) rfl rfl (by kernel_rfl) (by kernel_rfl) (by kernel_rfl) (fun _ _ _ h => h) (Or.inl ⟨by rfl, ?_⟩) (by assumption) ?_
    rotate_left
    · (intro W hSw; have q0 := keepB hSw f0; have q1 := keepB hSw f1; have q2 := keepB hSw f2; have q3 := keepB hSw e0; have q4 := keepB hSw e1; have q5 := keepB hSw e2; have q6 := keepB hSw e3; have q7 := keepB hSw d0; have q8 := keepB hSw d1; have q9 := keepB hSw d2; clear hSw; go_simp; all_goals first | with_reducible rfl | (simp [*]; done) | (intro hh; exfalso; omega) | fail)
    try simp only [Act.put, List.setIfInBounds_toArray, List.set_cons_zero, List.set_cons_succ]
    refine heldTake (i := 13) (v := ?_) (some 8) rfl rfl (by kernel_rfl) (by kernel_rfl) (by kernel_rfl) (fun _ _ _ h => h) (Or.inl ⟨by rfl, ?_⟩) (by assumption) ?_
    rotate_left
    · (intro W hSw; have q0 := keepB hSw f0; have q1 := keepB hSw f1; have q2 := keepB hSw f2; have q3 := keepB hSw e0; have q4 := keepB hSw e1; have q5 := keepB hSw e2; have q6 := keepB hSw e3; have q7 := keepB hSw d0; have q8 := keepB hSw d1; have q9 := keepB hSw d2; clear hSw; go_simp; all_goals first | with_reducible rfl | (simp [*]; done) | (intro hh; exfalso; omega) | fail)
    try simp only [Act.put, List.setIfInBounds_toArray, List.set_cons_zero, List.set_cons_succ]
    refine heldTake (i := 14) (v := ?_) (some 9) rfl rfl (by kernel_rfl) (by kernel_rfl) (by kernel_rfl) (fun _ _ _ h => h) (Or.inl ⟨by rfl, ?_⟩) (by assumption) ?_
    rotate_left
    · (intro W hSw; have q0 := keepB hSw f0; have q1 := keepB hSw f1; have q2 := keepB hSw f2; have q3 := keepB hSw e0; have q4 := keepB hSw e1; have q5 := keepB hSw e2; have q6 := keepB hSw e3; have q7 := keepB hSw d0; have q8 := keepB hSw d1; have q9 := keepB hSw d2; clear hSw; go_simp; all_goals first | with_reducible rfl | (simp [*]; done) | (intro hh; exfalso; omega) | fail)
    try simp only [Act.put, List.setIfInBounds_toArray, List.set_cons_zero, List.set_cons_succ]
    refine wpAnyH_done (by kernel_rfl) ?_ _
    go_wp2
    go_ret2
    exact ⟨rfl, belT hb0 hHeld⟩
end Go.Proofs.Yteeggmnkcgpfjaa
