/- Contracts of both sides: EncryptElement, EncryptExp. -/
import Derived.Test.YtemhjhaokbgldaaEn
import Derived.Test.YtemhjhaokbgldaaEl
namespace Go.Proofs.Ytemhjhaokbgldaa
open Go.RowKit
set_option linter.unusedVariables false
attribute [local go_sem ↓] Go.wp_at_zero Go.wp_at_succ
set_option linter.unusedSimpArgs false

set_option maxHeartbeats 400000 in
theorem eKey_any (p q g key : Int) (w : World) :
    Calls Try.prog 62 #[.agg #[.int .i64 p, .int .i64 q, .int .i64 g], .int .i64 key] w fun e' w' => e' = .returned (.bool (goodB p q g && hasB p q key)) ∧ Below w.heap.size w w' := by
  go_enter Try.func62, Try.ntmps62
  go_wp2_with fail
  refine (l2Good_any p q g _).mono ?_
  rintro e w1_ ⟨rfl, hb1⟩
  have hW := hb1
  obtain ⟨hc, hf⟩ := bcell hW
  cases q1 : goodB p q g
  · go_wp2
    go_ret
    exact ⟨ret_bool (by simp [q1]), belT (by repeat (first | exact Below.refl _ _ | assumption | refine belA ?_ | refine belD ?_ | refine belN ?_ | refine belS ?_ (by simp) | refine belT ?_ (by assumption))) hW⟩
  obtain ⟨g1, g2, g3, g4, g5, g6⟩ := good_om q1
  go_wp2_with fail
  refine (gIs_any p q g _ 1 1 [key] _ (Ints.one (by rw [World.cell?_alloc_at _ _ _ _ (by simp)]; rfl)) g1 g2 g3 g4).mono ?_
  rintro e w2_ ⟨rfl, hb2⟩
  clear hc hf
  replace hW := belT (belA hW) hb2
  obtain ⟨hc, hf⟩ := bcell hW
  rw [one_all]
  go_wp2
  go_ret
  exact ⟨ret_bool (by simp [q1]), belT (by repeat (first | exact Below.refl _ _ | assumption | refine belA ?_ | refine belD ?_ | refine belN ?_ | refine belS ?_ (by simp) | refine belT ?_ (by assumption))) hW⟩
theorem key_om {p q g key : Int} (h : (goodB p q g && hasB p q key) = true) : (3 ≤ p ∧ p ≤ 2000000000 ∧ 2 ≤ q ∧ q ≤ p - 1 ∧ 2 ≤ g ∧ g ≤ p - 1) ∧ 0 ≤ key ∧ key < p := by
  simp only [Bool.and_eq_true] at h
  exact ⟨good_om h.1, has_small h.2⟩
theorem key_two {p q g key : Int} (h : (goodB p q g && hasB p q key) = true) : goodB p q g = true ∧ hasB p q key = true := by simpa using h
theorem both {a b : Bool} (h : (a && b) = true) : a = true ∧ b = true := by simpa using h
theorem two_alls (f : Int → Bool) (x y : Int) : [x, y].all f = (f x && f y) := by simp

def eeM (p q g key m r : Int) : (Int × Int) × Bool := if goodB p q g && hasB p q key && hasB p q m && inB r 0 (q - 1) then ((encA p q g r, encB p q key m r), true) else ((0, 0), false)
set_option maxHeartbeats 800000 in
theorem sEncryptElement_any (p q g key m r : Int) (w : World) :
    Calls Try.prog 19 #[.agg #[.int .i64 p, .int .i64 q, .int .i64 g], .int .i64 key, .int .i64 m, .int .i64 r] w fun e' w' => e' = .returned (.tuple #[.agg #[.int .i64 (eeM p q g key m r).1.1, .int .i64 (eeM p q g key m r).1.2], .bool (eeM p q g key m r).2]) ∧ Below w.heap.size w w' := by
  go_enter Try.func19, Try.ntmps19
  go_wp2_with fail
  refine (eKey_any p q g key _).mono ?_
  rintro e w1_ ⟨rfl, hb1⟩
  have hW := hb1
  obtain ⟨hc, hf⟩ := bcell hW
  cases q1 : (goodB p q g && hasB p q key)
  · go_wp2
    refine bodyPost_ret (v := .tuple #[.agg #[.int .i64 0, .int .i64 0], .bool false]) (by simp [results, Try.results19, go_sem, hc]) rfl ⟨ret_cb (by simp [eeM, q1]), ?_⟩
    exact (by repeat (first | refine belS ?_ (by simp <;> omega) | exact belT (by repeat (first | exact Below.refl _ _ | assumption | refine belA ?_ | refine belD ?_ | refine belN ?_ | refine belS ?_ (by simp) | refine belT ?_ (by assumption))) hW))
  obtain ⟨⟨g1, g2, g3, g4, g5, g6⟩, x1, x2⟩ := key_om q1
  go_wp2_with fail
  refine (gIs_any p q g _ 1 1 [m] _ (Ints.one (by rw [World.cell?_alloc_at _ _ _ _ (by simp)]; rfl)) g1 g2 g3 g4).mono ?_
  rintro e w2_ ⟨rfl, hb2⟩
  clear hc hf
  replace hW := belT (belA hW) hb2
  obtain ⟨hc, hf⟩ := bcell hW
  rw [one_all]
  cases q2 : hasB p q m
  · go_wp2
    refine bodyPost_ret (v := .tuple #[.agg #[.int .i64 0, .int .i64 0], .bool false]) (by simp [results, Try.results19, go_sem, hc]) rfl ⟨ret_cb (by simp [eeM, q2]), ?_⟩
    exact (by repeat (first | refine belS ?_ (by simp <;> omega) | exact belT (by repeat (first | exact Below.refl _ _ | assumption | refine belA ?_ | refine belD ?_ | refine belN ?_ | refine belS ?_ (by simp) | refine belT ?_ (by assumption))) hW))
  obtain ⟨x3, x4⟩ := has_small q2
  go_wp2_with fail
  refine (gExps_any p q g _ 1 1 [r] _ (Ints.one (by rw [World.cell?_alloc_at _ _ _ _ (by simp)]; rfl)) (by omega) (by omega)).mono ?_
  rintro e w3_ ⟨rfl, hb3⟩
  clear hc hf
  replace hW := belT (belA hW) hb3
  obtain ⟨hc, hf⟩ := bcell hW
  rw [one_all]
  cases q3 : inB r 0 (q - 1)
  · go_wp2
    refine bodyPost_ret (v := .tuple #[.agg #[.int .i64 0, .int .i64 0], .bool false]) (by simp [results, Try.results19, go_sem, hc]) rfl ⟨ret_cb (by simp [eeM, q3]), ?_⟩
    exact (by repeat (first | refine belS ?_ (by simp <;> omega) | exact belT (by repeat (first | exact Below.refl _ _ | assumption | refine belA ?_ | refine belD ?_ | refine belN ?_ | refine belS ?_ (by simp) | refine belT ?_ (by assumption))) hW))
  go_wp2_with fail
  refine (eEnc_any p q g key m r _ (by omega) (by omega) (by omega) (by omega) (by omega) (by omega) (by omega) (by omega) (by omega) (by omega)).mono ?_
  rintro e w4_ ⟨rfl, hb4⟩
  clear hc hf
  replace hW := belT hW hb4
  obtain ⟨hc, hf⟩ := bcell hW
  go_wp2
  refine bodyPost_ret (v := .tuple #[.agg #[.int .i64 (encA p q g r), .int .i64 (encB p q key m r)], .bool true]) (by simp [results, Try.results19, go_sem, hc]) rfl ⟨ret_cb (by simp [eeM, key_two q1, q2, q3]), ?_⟩
  exact (by repeat (first | refine belS ?_ (by simp <;> omega) | exact belT (by repeat (first | exact Below.refl _ _ | assumption | refine belA ?_ | refine belD ?_ | refine belN ?_ | refine belS ?_ (by simp) | refine belT ?_ (by assumption))) hW))
set_option maxHeartbeats 800000 in
theorem iEncryptElement_any (p q g key m r : Int) (w : World) :
    Calls Try.prog 20 #[.agg #[.int .i64 p, .int .i64 q, .int .i64 g], .int .i64 key, .int .i64 m, .int .i64 r] w fun e' w' => e' = .returned (.tuple #[.agg #[.int .i64 (eeM p q g key m r).1.1, .int .i64 (eeM p q g key m r).1.2], .bool (eeM p q g key m r).2]) ∧ Below w.heap.size w w' := by
  go_enter Try.func20, Try.ntmps20
  go_wp2_with fail
  refine (IsValidGroup_any p q g _).mono ?_
  rintro e w1_ ⟨rfl, hb1⟩
  have hW := hb1
  obtain ⟨hc, hf⟩ := bcell hW
  cases q1 : goodB p q g
  · go_wp2
    refine bodyPost_ret (v := .tuple #[.agg #[.int .i64 0, .int .i64 0], .bool false]) (by simp [results, Try.results20, go_sem, hc]) rfl ⟨ret_cb (by simp [eeM, q1]), ?_⟩
    exact (by repeat (first | refine belS ?_ (by simp <;> omega) | exact belT (by repeat (first | exact Below.refl _ _ | assumption | refine belA ?_ | refine belD ?_ | refine belN ?_ | refine belS ?_ (by simp) | refine belT ?_ (by assumption))) hW))
  obtain ⟨g1, g2, g3, g4, g5, g6⟩ := good_om q1
  go_wp2_with fail
  refine (hasAll_any p q g _ 2 2 [key, m] _ (Ints.two (by rw [World.cell?_alloc_at _ _ _ _ (by simp)]; rfl) (by rw [World.cell?_alloc_at _ _ _ _ (by simp)]; rfl)) g1 g2 g3 g4).mono ?_
  rintro e w2_ ⟨rfl, hb2⟩
  clear hc hf
  replace hW := belT (belA hW) hb2
  obtain ⟨hc, hf⟩ := bcell hW
  rw [two_alls]
  cases q2 : (hasB p q key && hasB p q m)
  · go_wp2
    refine bodyPost_ret (v := .tuple #[.agg #[.int .i64 0, .int .i64 0], .bool false]) (by simp [results, Try.results20, go_sem, hc]) rfl ⟨ret_cb (by rw [eeM, Bool.and_assoc (goodB p q g), q2]; simp), ?_⟩
    exact (by repeat (first | refine belS ?_ (by simp <;> omega) | exact belT (by repeat (first | exact Below.refl _ _ | assumption | refine belA ?_ | refine belD ?_ | refine belN ?_ | refine belS ?_ (by simp) | refine belT ?_ (by assumption))) hW))
  obtain ⟨h1, h2⟩ := both q2
  obtain ⟨x1, x2⟩ := has_small h1
  obtain ⟨x3, x4⟩ := has_small h2
  have HK := Lib.hid (And.intro h1 h2)
  clear h1 h2
  go_wp2_with fail
  refine (isExp_any p q g r _ (by omega) (by omega)).mono ?_
  rintro e w3_ ⟨rfl, hb3⟩
  clear hc hf
  replace hW := belT hW hb3
  obtain ⟨hc, hf⟩ := bcell hW
  cases q3 : inB r 0 (q - 1)
  · go_wp2
    refine bodyPost_ret (v := .tuple #[.agg #[.int .i64 0, .int .i64 0], .bool false]) (by simp [results, Try.results20, go_sem, hc]) rfl ⟨ret_cb (by simp [eeM, q3]), ?_⟩
    exact (by repeat (first | refine belS ?_ (by simp <;> omega) | exact belT (by repeat (first | exact Below.refl _ _ | assumption | refine belA ?_ | refine belD ?_ | refine belN ?_ | refine belS ?_ (by simp) | refine belT ?_ (by assumption))) hW))
  go_wp2_with fail
  refine (encrypt_any p q g key m r _ (by omega) (by omega) (by omega) (by omega) (by omega) (by omega) (by omega) (by omega) (by omega) (by omega)).mono ?_
  rintro e w4_ ⟨rfl, hb4⟩
  clear hc hf
  replace hW := belT hW hb4
  obtain ⟨hc, hf⟩ := bcell hW
  go_wp2
  refine bodyPost_ret (v := .tuple #[.agg #[.int .i64 (encA p q g r), .int .i64 (encB p q key m r)], .bool true]) (by simp [results, Try.results20, go_sem, hc]) rfl ⟨ret_cb (by simp [eeM, q1, HK.out, q3]), ?_⟩
  exact (by repeat (first | refine belS ?_ (by simp <;> omega) | exact belT (by repeat (first | exact Below.refl _ _ | assumption | refine belA ?_ | refine belD ?_ | refine belN ?_ | refine belS ?_ (by simp) | refine belT ?_ (by assumption))) hW))

def exM (p q g key v r : Int) : (Int × Int) × Bool := if goodB p q g && hasB p q key && inB v 0 (q - 1) && inB r 0 (q - 1) then ((encA p q g r, encB p q key (gpow p q g v) r), true) else ((0, 0), false)
set_option maxRecDepth 100000 in
set_option maxHeartbeats 1600000 in
theorem sEncryptExp_any (p q g key v r : Int) (w : World) :
    Calls Try.prog 22 #[.agg #[.int .i64 p, .int .i64 q, .int .i64 g], .int .i64 key, .int .i64 v, .int .i64 r] w fun e' w' => e' = .returned (.tuple #[.agg #[.int .i64 (exM p q g key v r).1.1, .int .i64 (exM p q g key v r).1.2], .bool (exM p q g key v r).2]) ∧ Below w.heap.size w w' := by
  have HR := Room.new (w.alloc (.cells #[.int .i64 p, .int .i64 q, .int .i64 g] 28)) (.int .i64 0) (.int .i64 0) 30
  have eR : (w.alloc (.cells #[.int .i64 p, .int .i64 q, .int .i64 g] 28)).heap.size = w.heap.size + 1 := by simp
  rw [eR] at HR
  clear eR
  go_enter Try.func22, Try.ntmps22
  go_wp2_with fail
  refine (eKey_any p q g key _).mono ?_
  rintro e w1_ ⟨rfl, hb1⟩
  have hW := hb1
  obtain ⟨hc, hf⟩ := bcell hW
  cases q1 : (goodB p q g && hasB p q key)
  · go_wp2
    refine bodyPost_ret (v := .tuple #[.agg #[.int .i64 0, .int .i64 0], .bool false]) (by simp [results, Try.results22, go_sem, hc]) rfl ⟨ret_cb (by simp [exM, q1]), ?_⟩
    exact (by repeat (first | refine belS ?_ (by simp <;> omega) | exact belT (by repeat (first | exact Below.refl _ _ | assumption | refine belA ?_ | refine belD ?_ | refine belN ?_ | refine belS ?_ (by simp) | refine belT ?_ (by assumption))) hW))
  obtain ⟨⟨g1, g2, g3, g4, g5, g6⟩, x1, x2⟩ := key_om q1
  go_wp2_with fail
  refine (gExps_any p q g _ 2 2 [v, r] _ (Ints.two (by rw [World.cell?_alloc_at _ _ _ _ (by simp)]; rfl) (by rw [World.cell?_alloc_at _ _ _ _ (by simp)]; rfl)) (by omega) (by omega)).mono ?_
  rintro e w2_ ⟨rfl, hb2⟩
  clear hc hf
  replace hW := belT (belA hW) hb2
  obtain ⟨hc, hf⟩ := bcell hW
  rw [two_alls]
  cases q2 : (inB v 0 (q - 1) && inB r 0 (q - 1))
  · go_wp2
    refine bodyPost_ret (v := .tuple #[.agg #[.int .i64 0, .int .i64 0], .bool false]) (by simp [results, Try.results22, go_sem, hc]) rfl ⟨ret_cb (by rw [exM, Bool.and_assoc (goodB p q g && hasB p q key), q2]; simp), ?_⟩
    exact (by repeat (first | refine belS ?_ (by simp <;> omega) | exact belT (by repeat (first | exact Below.refl _ _ | assumption | refine belA ?_ | refine belD ?_ | refine belN ?_ | refine belS ?_ (by simp) | refine belT ?_ (by assumption))) hW))
  obtain ⟨h1, h2⟩ := both q2
  have HK := Lib.hid (And.intro h1 h2)
  clear h1 h2
  go_wp2
  clear hc hf
  have k1 := keepB hW (a := ⟨w.heap.size, 0, none⟩) (v := .int .i64 p) (by rw [World.cell?_alloc_past _ _ _ (by simp <;> omega), World.cell?_alloc_at _ _ _ _ (by simp)]; rfl)
  have k2 := keepB hW (a := ⟨w.heap.size, 1, none⟩) (v := .int .i64 q) (by rw [World.cell?_alloc_past _ _ _ (by simp <;> omega), World.cell?_alloc_at _ _ _ _ (by simp)]; rfl)
  have k3 := keepB hW (a := ⟨w.heap.size, 2, none⟩) (v := .int .i64 g) (by rw [World.cell?_alloc_past _ _ _ (by simp <;> omega), World.cell?_alloc_at _ _ _ _ (by simp)]; rfl)
  replace HR := Room.below HR hW
  have hB := belT (belA (belA (Below.refl _ _))) hW
  clear hW
  obtain ⟨W0, hw0⟩ : ∃ x, x = w2_ := ⟨_, rfl⟩
  subst hw0
  have hpw := gpow_bd (p := p) (q := q) (x := g) (e := v) (by omega)
  generalize hgp : gpow p q g v = y at hpw
  obtain ⟨y1, y2⟩ := hpw
  have HP := Lib.hid hgp
  clear hgp
  go_region_held3 (fun W => W.cell? ⟨w.heap.size, 0, none⟩ = some (.int .i64 p) ∧ W.cell? ⟨w.heap.size, 1, none⟩ = some (.int .i64 q) ∧ W.cell? ⟨w.heap.size, 2, none⟩ = some (.int .i64 g)) (first | (go_split_ands; (repeat' apply And.intro) <;> first | assumption | exact keepB hb1 (by assumption) | (refine keepS (by simp <;> omega) (keepS (by simp <;> omega) ?_); assumption) | (refine keepS (by simp <;> omega) ?_; assumption) | (refine keepB (belA (Below.refl _ _)) ?_; assumption) | go_keep) | go_keep) ((first | (go_at_call 67; refine (gExp_any p q g g v _ (by omega) (by omega) (by omega) (by omega) (by omega) (by omega)).mono ?_; rintro e' w1 ⟨rfl, hb1⟩; (first | replace HR := Room.below HR hb1 | replace HR := Room.below HR.drew hb1); obtain ⟨rx, ry, rc0, rc1, rf0, rf1⟩ := HR.facts; rw [HP.out]) | (go_at_call 64; refine (eEnc_any p q g key y r _ (by omega) (by omega) (by omega) (by omega) (by omega) (by omega) (by omega) (by omega) (by omega) (by omega)).mono ?_; rintro e' w1 ⟨rfl, hb1⟩; (first | replace HR := Room.below HR hb1 | replace HR := Room.below HR.drew hb1); obtain ⟨rx, ry, rc0, rc1, rf0, rf1⟩ := HR.facts)))
  all_goals go_wp2
  all_goals refine bodyPost_ret (v := .tuple #[.agg #[.int .i64 (encA p q g r), .int .i64 (encB p q key y r)], .bool true]) (by simp [results, Try.results22, go_sem, rc0, rc1]) rfl ⟨ret_cb (by simp [exM, key_two q1, HK.out, HP.out]), ?_⟩
  all_goals exact (by repeat (first | exact Below.refl _ _ | assumption | refine belA ?_ | refine belD ?_ | refine belN ?_ | refine belS ?_ (by simp <;> omega) | refine belT ?_ (by assumption)))
set_option maxRecDepth 100000 in
set_option maxHeartbeats 1600000 in
theorem iEncryptExp_any (p q g key v r : Int) (w : World) :
    Calls Try.prog 23 #[.agg #[.int .i64 p, .int .i64 q, .int .i64 g], .int .i64 key, .int .i64 v, .int .i64 r] w fun e' w' => e' = .returned (.tuple #[.agg #[.int .i64 (exM p q g key v r).1.1, .int .i64 (exM p q g key v r).1.2], .bool (exM p q g key v r).2]) ∧ Below w.heap.size w w' := by
  have HR := Room.new (w.alloc (.cells #[.int .i64 p, .int .i64 q, .int .i64 g] 28)) (.int .i64 0) (.int .i64 0) 30
  have eR : (w.alloc (.cells #[.int .i64 p, .int .i64 q, .int .i64 g] 28)).heap.size = w.heap.size + 1 := by simp
  rw [eR] at HR
  clear eR
  go_enter Try.func23, Try.ntmps23
  go_wp2_with fail
  refine (IsValidGroup_any p q g _).mono ?_
  rintro e w1_ ⟨rfl, hb1⟩
  have hW := hb1
  obtain ⟨hc, hf⟩ := bcell hW
  cases q1 : goodB p q g
  · go_wp2
    refine bodyPost_ret (v := .tuple #[.agg #[.int .i64 0, .int .i64 0], .bool false]) (by simp [results, Try.results23, go_sem, hc]) rfl ⟨ret_cb (by simp [exM, q1]), ?_⟩
    exact (by repeat (first | refine belS ?_ (by simp <;> omega) | exact belT (by repeat (first | exact Below.refl _ _ | assumption | refine belA ?_ | refine belD ?_ | refine belN ?_ | refine belS ?_ (by simp) | refine belT ?_ (by assumption))) hW))
  obtain ⟨g1, g2, g3, g4, g5, g6⟩ := good_om q1
  go_wp2_with fail
  refine (has_any p q g key _ g1 g2 g3 g4).mono ?_
  rintro e w2_ ⟨rfl, hb2⟩
  clear hc hf
  replace hW := belT hW hb2
  obtain ⟨hc, hf⟩ := bcell hW
  cases q2 : hasB p q key
  · go_wp2
    refine bodyPost_ret (v := .tuple #[.agg #[.int .i64 0, .int .i64 0], .bool false]) (by simp [results, Try.results23, go_sem, hc]) rfl ⟨ret_cb (by simp [exM, q2]), ?_⟩
    exact (by repeat (first | refine belS ?_ (by simp <;> omega) | exact belT (by repeat (first | exact Below.refl _ _ | assumption | refine belA ?_ | refine belD ?_ | refine belN ?_ | refine belS ?_ (by simp) | refine belT ?_ (by assumption))) hW))
  obtain ⟨x1, x2⟩ := has_small q2
  go_wp2_with fail
  refine (areExps_any p q g _ 2 2 [v, r] _ (Ints.two (by rw [World.cell?_alloc_at _ _ _ _ (by simp)]; rfl) (by rw [World.cell?_alloc_at _ _ _ _ (by simp)]; rfl)) (by omega) (by omega)).mono ?_
  rintro e w3_ ⟨rfl, hb3⟩
  clear hc hf
  replace hW := belT (belA hW) hb3
  obtain ⟨hc, hf⟩ := bcell hW
  rw [two_alls]
  cases q3 : (inB v 0 (q - 1) && inB r 0 (q - 1))
  · go_wp2
    refine bodyPost_ret (v := .tuple #[.agg #[.int .i64 0, .int .i64 0], .bool false]) (by simp [results, Try.results23, go_sem, hc]) rfl ⟨ret_cb (by rw [exM, Bool.and_assoc (goodB p q g && hasB p q key), q3]; simp), ?_⟩
    exact (by repeat (first | refine belS ?_ (by simp <;> omega) | exact belT (by repeat (first | exact Below.refl _ _ | assumption | refine belA ?_ | refine belD ?_ | refine belN ?_ | refine belS ?_ (by simp) | refine belT ?_ (by assumption))) hW))
  obtain ⟨h1, h2⟩ := both q3
  have HK := Lib.hid (And.intro h1 h2)
  clear h1 h2
  go_wp2
  clear hc hf
  have k1 := keepB hW (a := ⟨w.heap.size, 0, none⟩) (v := .int .i64 p) (by rw [World.cell?_alloc_past _ _ _ (by simp <;> omega), World.cell?_alloc_at _ _ _ _ (by simp)]; rfl)
  have k2 := keepB hW (a := ⟨w.heap.size, 1, none⟩) (v := .int .i64 q) (by rw [World.cell?_alloc_past _ _ _ (by simp <;> omega), World.cell?_alloc_at _ _ _ _ (by simp)]; rfl)
  have k3 := keepB hW (a := ⟨w.heap.size, 2, none⟩) (v := .int .i64 g) (by rw [World.cell?_alloc_past _ _ _ (by simp <;> omega), World.cell?_alloc_at _ _ _ _ (by simp)]; rfl)
  replace HR := Room.below HR hW
  have hB := belT (belA (belA (Below.refl _ _))) hW
  clear hW
  obtain ⟨W0, hw0⟩ : ∃ x, x = w3_ := ⟨_, rfl⟩
  subst hw0
  have hpw := gpow_bd (p := p) (q := q) (x := g) (e := v) (by omega)
  generalize hgp : gpow p q g v = y at hpw
  obtain ⟨y1, y2⟩ := hpw
  have HP := Lib.hid hgp
  clear hgp
  go_region_held3 (fun W => W.cell? ⟨w.heap.size, 0, none⟩ = some (.int .i64 p) ∧ W.cell? ⟨w.heap.size, 1, none⟩ = some (.int .i64 q) ∧ W.cell? ⟨w.heap.size, 2, none⟩ = some (.int .i64 g)) (first | (go_split_ands; (repeat' apply And.intro) <;> first | assumption | exact keepB hb1 (by assumption) | (refine keepS (by simp <;> omega) (keepS (by simp <;> omega) ?_); assumption) | (refine keepS (by simp <;> omega) ?_; assumption) | (refine keepB (belA (Below.refl _ _)) ?_; assumption) | go_keep) | go_keep) ((first | (go_at_call 70; refine (pow_any p q g g v _ (by omega) (by omega) (by omega) (by omega) (by omega) (by omega)).mono ?_; rintro e' w1 ⟨rfl, hb1⟩; (first | replace HR := Room.below HR hb1 | replace HR := Room.below HR.drew hb1); obtain ⟨rx, ry, rc0, rc1, rf0, rf1⟩ := HR.facts; rw [HP.out]) | (go_at_call 66; refine (encrypt_any p q g key y r _ (by omega) (by omega) (by omega) (by omega) (by omega) (by omega) (by omega) (by omega) (by omega) (by omega)).mono ?_; rintro e' w1 ⟨rfl, hb1⟩; (first | replace HR := Room.below HR hb1 | replace HR := Room.below HR.drew hb1); obtain ⟨rx, ry, rc0, rc1, rf0, rf1⟩ := HR.facts)))
  all_goals go_wp2
  all_goals refine bodyPost_ret (v := .tuple #[.agg #[.int .i64 (encA p q g r), .int .i64 (encB p q key y r)], .bool true]) (by simp [results, Try.results23, go_sem, rc0, rc1]) rfl ⟨ret_cb (by simp [exM, q1, q2, HK.out, HP.out]), ?_⟩
  all_goals exact (by repeat (first | exact Below.refl _ _ | assumption | refine belA ?_ | refine belD ?_ | refine belN ?_ | refine belS ?_ (by simp <;> omega) | refine belT ?_ (by assumption)))
end Go.Proofs.Ytemhjhaokbgldaa
