/- Contracts of both sides: IsValidCipher, PowCipher, IsTrueEqual. -/
import Derived.Test.YtehemfhnhjengaaCi
namespace Go.Proofs.Ytehemfhnhjengaa
open Go.RowKit
set_option linter.unusedVariables false
attribute [local go_sem ↓] Go.wp_at_zero Go.wp_at_succ
set_option linter.unusedSimpArgs false

set_option maxRecDepth 100000 in
set_option maxHeartbeats 1000000 in
theorem ePow_any (p q g u v e : Int) (w : World) (p1 : 1 ≤ p) (p2 : p ≤ 3000000000) (q1 : 1 ≤ q) (q2 : q ≤ 3000000000) (u0 : 0 ≤ u) (u1 : u < p) (v0 : 0 ≤ v) (v1 : v < p) :
    Calls Try.prog 79 #[.agg #[.int .i64 p, .int .i64 q, .int .i64 g], .agg #[.int .i64 u, .int .i64 v], .int .i64 e] w fun e' w' => e' = .returned (.agg #[.int .i64 (gpow p q u e), .int .i64 (gpow p q v e)]) ∧ Below w.heap.size w w' := by
  have HR := Room.new ((w.alloc (.cells #[.int .i64 p, .int .i64 q, .int .i64 g] 29)).alloc (.cells #[.int .i64 u, .int .i64 v] 42)) (.int .i64 0) (.int .i64 0) 42
  have eR : ((w.alloc (.cells #[.int .i64 p, .int .i64 q, .int .i64 g] 29)).alloc (.cells #[.int .i64 u, .int .i64 v] 42)).heap.size = w.heap.size + 1 + 1 := by simp
  rw [eR] at HR
  clear eR
  go_enter Try.func79, Try.ntmps79
  go_wp2
  have hB : Below w.heap.size w (((w.alloc (.cells #[.int .i64 p, .int .i64 q, .int .i64 g] 29)).alloc (.cells #[.int .i64 u, .int .i64 v] 42)).alloc (.cells #[.int .i64 0, .int .i64 0] 42)) := (by repeat (first | exact Below.refl _ _ | assumption | refine belA ?_ | refine belD ?_ | refine belN ?_ | refine belS ?_ (by simp) | refine belT ?_ (by assumption)))
  have hg := @id True trivial
  generalize hW0 : ((w.alloc (.cells #[.int .i64 p, .int .i64 q, .int .i64 g] 29)).alloc (.cells #[.int .i64 u, .int .i64 v] 42)).alloc (.cells #[.int .i64 0, .int .i64 0] 42) = W0 at HR hB
  have k1 : W0.cell? ⟨w.heap.size, 0, none⟩ = some (.int .i64 p) := by subst hW0; rw [World.cell?_alloc_past _ _ _ (by simp <;> omega), World.cell?_alloc_past _ _ _ (by simp <;> omega), World.cell?_alloc_at _ _ _ _ (by simp)]; rfl
  have k2 : W0.cell? ⟨w.heap.size, 1, none⟩ = some (.int .i64 q) := by subst hW0; rw [World.cell?_alloc_past _ _ _ (by simp <;> omega), World.cell?_alloc_past _ _ _ (by simp <;> omega), World.cell?_alloc_at _ _ _ _ (by simp)]; rfl
  have k3 : W0.cell? ⟨w.heap.size, 2, none⟩ = some (.int .i64 g) := by subst hW0; rw [World.cell?_alloc_past _ _ _ (by simp <;> omega), World.cell?_alloc_past _ _ _ (by simp <;> omega), World.cell?_alloc_at _ _ _ _ (by simp)]; rfl
  have k4 : W0.cell? ⟨w.heap.size + 1, 0, none⟩ = some (.int .i64 u) := by subst hW0; rw [World.cell?_alloc_past _ _ _ (by simp <;> omega), World.cell?_alloc_at _ _ _ _ (by simp)]; rfl
  have k5 : W0.cell? ⟨w.heap.size + 1, 1, none⟩ = some (.int .i64 v) := by subst hW0; rw [World.cell?_alloc_past _ _ _ (by simp <;> omega), World.cell?_alloc_at _ _ _ _ (by simp)]; rfl
  clear hW0 hg
  go_region_held3 (fun W => W.cell? ⟨w.heap.size, 0, none⟩ = some (.int .i64 p) ∧ W.cell? ⟨w.heap.size, 1, none⟩ = some (.int .i64 q) ∧ W.cell? ⟨w.heap.size, 2, none⟩ = some (.int .i64 g) ∧ W.cell? ⟨w.heap.size + 1, 0, none⟩ = some (.int .i64 u) ∧ W.cell? ⟨w.heap.size + 1, 1, none⟩ = some (.int .i64 v)) (first | (go_split_ands; (repeat' apply And.intro) <;> first | assumption | exact keepB hb1 (by assumption) | (refine keepS (by simp <;> omega) (keepS (by simp <;> omega) ?_); assumption) | (refine keepS (by simp <;> omega) ?_; assumption) | (refine keepB (belA (Below.refl _ _)) ?_; assumption) | go_keep) | go_keep) ((go_at_call 67; refine (gExp_any p q g _ e _ (by omega) (by omega) (by omega) (by omega) (by omega) (by omega)).mono ?_; rintro e' w1 ⟨rfl, hb1⟩; (first | replace HR := Room.below HR hb1 | replace HR := Room.below HR.drew hb1); obtain ⟨rx, ry, rc0, rc1, rf0, rf1⟩ := HR.facts))
  all_goals go_wp2
  all_goals refine bodyPost_ret (v := .agg #[.int .i64 (gpow p q u e), .int .i64 (gpow p q v e)]) (by simp [results, Try.results79, go_sem, rc0, rc1]) rfl ⟨rfl, ?_⟩
  all_goals exact (by repeat (first | exact Below.refl _ _ | assumption | refine belA ?_ | refine belD ?_ | refine belN ?_ | refine belS ?_ (by simp <;> omega) | refine belT ?_ (by assumption)))

theorem ret_cb {a b a' b' : Int} {c c' : Bool} (h : ((a, b), c) = ((a', b'), c')) : Ending.returned (.tuple #[.agg #[.int .i64 a, .int .i64 b], .bool c]) = .returned (.tuple #[.agg #[.int .i64 a', .int .i64 b'], .bool c']) := by
  injection h with h1 h2
  injection h1 with h3 h4
  rw [h2, h3, h4]
theorem hasC_small {p q u v : Int} (h : hasC p q (u, v) = true) : (0 ≤ u ∧ u < p) ∧ 0 ≤ v ∧ v < p := by
  simp only [hasC, Bool.and_eq_true] at h
  exact ⟨has_small h.1, has_small h.2⟩

def vcM (p q g u v : Int) : Bool := goodB p q g && hasC p q (u, v)
set_option maxHeartbeats 400000 in
theorem sIsValidCipher_any (p q g u v : Int) (w : World) :
    Calls Try.prog 30 #[.agg #[.int .i64 p, .int .i64 q, .int .i64 g], .agg #[.int .i64 u, .int .i64 v]] w fun e' w' => e' = .returned (.bool (vcM p q g u v)) ∧ Below w.heap.size w w' := by
  go_enter Try.func30, Try.ntmps30
  go_wp2_with fail
  refine (l2Good_any p q g _).mono ?_
  rintro e w1_ ⟨rfl, hb1⟩
  have hW := hb1
  obtain ⟨hc, hf⟩ := bcell hW
  cases q1 : goodB p q g
  · go_wp2
    go_ret
    exact ⟨ret_bool (by simp [vcM, q1]), belT (by repeat (first | exact Below.refl _ _ | assumption | refine belA ?_ | refine belD ?_ | refine belN ?_ | refine belS ?_ (by simp) | refine belT ?_ (by assumption))) hW⟩
  obtain ⟨g1, g2, g3, g4, g5, g6⟩ := good_om q1
  go_wp2_with fail
  refine (eGood_any p q g _ 1 1 [(u, v)] _ (Cips.one (by rw [World.cell?_alloc_at _ _ _ _ (by simp)]; rfl) (by rw [World.cell?_alloc_at _ _ _ _ (by simp)]; rfl)) g1 g2 g3 g4).mono ?_
  rintro e w2_ ⟨rfl, hb2⟩
  clear hc hf
  replace hW := belT (belA hW) hb2
  obtain ⟨hc, hf⟩ := bcell hW
  go_wp2
  go_ret
  exact ⟨ret_bool (by simp [vcM, q1]), belT (by repeat (first | exact Below.refl _ _ | assumption | refine belA ?_ | refine belD ?_ | refine belN ?_ | refine belS ?_ (by simp) | refine belT ?_ (by assumption))) hW⟩

set_option maxHeartbeats 400000 in
theorem iIsValidCipher_any (p q g u v : Int) (w : World) :
    Calls Try.prog 32 #[.agg #[.int .i64 p, .int .i64 q, .int .i64 g], .agg #[.int .i64 u, .int .i64 v]] w fun e' w' => e' = .returned (.bool (vcM p q g u v)) ∧ Below w.heap.size w w' := by
  go_enter Try.func32, Try.ntmps32
  go_wp2_with fail
  refine (IsValidGroup_any p q g _).mono ?_
  rintro e w1_ ⟨rfl, hb1⟩
  have hW := hb1
  obtain ⟨hc, hf⟩ := bcell hW
  cases q1 : goodB p q g
  · go_wp2
    go_ret
    exact ⟨ret_bool (by simp [vcM, q1]), belT (by repeat (first | exact Below.refl _ _ | assumption | refine belA ?_ | refine belD ?_ | refine belN ?_ | refine belS ?_ (by simp) | refine belT ?_ (by assumption))) hW⟩
  obtain ⟨g1, g2, g3, g4, g5, g6⟩ := good_om q1
  go_wp2_with fail
  refine (hasCipher_any p q g u v _ g1 g2 g3 g4).mono ?_
  rintro e w2_ ⟨rfl, hb2⟩
  clear hc hf
  replace hW := belT hW hb2
  obtain ⟨hc, hf⟩ := bcell hW
  go_wp2
  go_ret
  exact ⟨ret_bool (by simp [vcM, q1]), belT (by repeat (first | exact Below.refl _ _ | assumption | refine belA ?_ | refine belD ?_ | refine belN ?_ | refine belS ?_ (by simp) | refine belT ?_ (by assumption))) hW⟩

def pcM (p q g u v e : Int) : (Int × Int) × Bool := if goodB p q g && hasC p q (u, v) && inB e 0 (q - 1) then ((gpow p q u e, gpow p q v e), true) else ((0, 0), false)
set_option maxHeartbeats 800000 in
theorem sPowCipher_any (p q g u v e : Int) (w : World) :
    Calls Try.prog 40 #[.agg #[.int .i64 p, .int .i64 q, .int .i64 g], .agg #[.int .i64 u, .int .i64 v], .int .i64 e] w fun e' w' => e' = .returned (.tuple #[.agg #[.int .i64 (pcM p q g u v e).1.1, .int .i64 (pcM p q g u v e).1.2], .bool (pcM p q g u v e).2]) ∧ Below w.heap.size w w' := by
  go_enter Try.func40, Try.ntmps40
  go_wp2_with fail
  refine (l2Good_any p q g _).mono ?_
  rintro e w1_ ⟨rfl, hb1⟩
  have hW := hb1
  obtain ⟨hc, hf⟩ := bcell hW
  cases q1 : goodB p q g
  · go_wp2
    refine bodyPost_ret (v := .tuple #[.agg #[.int .i64 0, .int .i64 0], .bool false]) (by simp [results, Try.results40, go_sem, hc]) rfl ⟨ret_cb (by simp [pcM, q1]), ?_⟩
    exact (by repeat (first | refine belS ?_ (by simp <;> omega) | exact belT (by repeat (first | exact Below.refl _ _ | assumption | refine belA ?_ | refine belD ?_ | refine belN ?_ | refine belS ?_ (by simp) | refine belT ?_ (by assumption))) hW))
  obtain ⟨g1, g2, g3, g4, g5, g6⟩ := good_om q1
  go_wp2_with fail
  refine (eGood_any p q g _ 1 1 [(u, v)] _ (Cips.one (by rw [World.cell?_alloc_at _ _ _ _ (by simp)]; rfl) (by rw [World.cell?_alloc_at _ _ _ _ (by simp)]; rfl)) g1 g2 g3 g4).mono ?_
  rintro e w2_ ⟨rfl, hb2⟩
  clear hc hf
  replace hW := belT (belA hW) hb2
  obtain ⟨hc, hf⟩ := bcell hW
  rw [show (decide ((1 : Nat) ≤ 24) && [(u, v)].all (hasC p q)) = hasC p q (u, v) from by simp]
  cases q2 : hasC p q (u, v)
  · go_wp2
    refine bodyPost_ret (v := .tuple #[.agg #[.int .i64 0, .int .i64 0], .bool false]) (by simp [results, Try.results40, go_sem, hc]) rfl ⟨ret_cb (by simp [pcM, q2]), ?_⟩
    exact (by repeat (first | refine belS ?_ (by simp <;> omega) | exact belT (by repeat (first | exact Below.refl _ _ | assumption | refine belA ?_ | refine belD ?_ | refine belN ?_ | refine belS ?_ (by simp) | refine belT ?_ (by assumption))) hW))
  obtain ⟨⟨u0, u1⟩, v0, v1⟩ := hasC_small q2
  go_wp2_with fail
  refine (gExps_any p q g _ 1 1 [e] _ (Ints.one (by rw [World.cell?_alloc_at _ _ _ _ (by simp)]; rfl)) (by omega) (by omega)).mono ?_
  rintro e w3_ ⟨rfl, hb3⟩
  clear hc hf
  replace hW := belT (belA hW) hb3
  obtain ⟨hc, hf⟩ := bcell hW
  rw [one_all]
  cases q3 : inB e 0 (q - 1)
  · go_wp2
    refine bodyPost_ret (v := .tuple #[.agg #[.int .i64 0, .int .i64 0], .bool false]) (by simp [results, Try.results40, go_sem, hc]) rfl ⟨ret_cb (by simp [pcM, q3]), ?_⟩
    exact (by repeat (first | refine belS ?_ (by simp <;> omega) | exact belT (by repeat (first | exact Below.refl _ _ | assumption | refine belA ?_ | refine belD ?_ | refine belN ?_ | refine belS ?_ (by simp) | refine belT ?_ (by assumption))) hW))
  go_wp2_with fail
  refine (ePow_any p q g u v e _ (by omega) (by omega) (by omega) (by omega) (by omega) (by omega) (by omega) (by omega)).mono ?_
  rintro e w4_ ⟨rfl, hb4⟩
  clear hc hf
  replace hW := belT hW hb4
  obtain ⟨hc, hf⟩ := bcell hW
  go_wp2
  refine bodyPost_ret (v := .tuple #[.agg #[.int .i64 (gpow p q u e), .int .i64 (gpow p q v e)], .bool true]) (by simp [results, Try.results40, go_sem, hc]) rfl ⟨ret_cb (by simp [pcM, q1, q2, q3]), ?_⟩
  exact (by repeat (first | refine belS ?_ (by simp <;> omega) | exact belT (by repeat (first | exact Below.refl _ _ | assumption | refine belA ?_ | refine belD ?_ | refine belN ?_ | refine belS ?_ (by simp) | refine belT ?_ (by assumption))) hW))
set_option maxHeartbeats 800000 in
theorem iPowCipher_any (p q g u v e : Int) (w : World) :
    Calls Try.prog 41 #[.agg #[.int .i64 p, .int .i64 q, .int .i64 g], .agg #[.int .i64 u, .int .i64 v], .int .i64 e] w fun e' w' => e' = .returned (.tuple #[.agg #[.int .i64 (pcM p q g u v e).1.1, .int .i64 (pcM p q g u v e).1.2], .bool (pcM p q g u v e).2]) ∧ Below w.heap.size w w' := by
  go_enter Try.func41, Try.ntmps41
  go_wp2_with fail
  refine (IsValidGroup_any p q g _).mono ?_
  rintro e w1_ ⟨rfl, hb1⟩
  have hW := hb1
  obtain ⟨hc, hf⟩ := bcell hW
  cases q1 : goodB p q g
  · go_wp2
    refine bodyPost_ret (v := .tuple #[.agg #[.int .i64 0, .int .i64 0], .bool false]) (by simp [results, Try.results41, go_sem, hc]) rfl ⟨ret_cb (by simp [pcM, q1]), ?_⟩
    exact (by repeat (first | refine belS ?_ (by simp <;> omega) | exact belT (by repeat (first | exact Below.refl _ _ | assumption | refine belA ?_ | refine belD ?_ | refine belN ?_ | refine belS ?_ (by simp) | refine belT ?_ (by assumption))) hW))
  obtain ⟨g1, g2, g3, g4, g5, g6⟩ := good_om q1
  go_wp2_with fail
  refine (hasCipher_any p q g u v _ g1 g2 g3 g4).mono ?_
  rintro e w2_ ⟨rfl, hb2⟩
  clear hc hf
  replace hW := belT hW hb2
  obtain ⟨hc, hf⟩ := bcell hW
  cases q2 : hasC p q (u, v)
  · go_wp2
    refine bodyPost_ret (v := .tuple #[.agg #[.int .i64 0, .int .i64 0], .bool false]) (by simp [results, Try.results41, go_sem, hc]) rfl ⟨ret_cb (by simp [pcM, q2]), ?_⟩
    exact (by repeat (first | refine belS ?_ (by simp <;> omega) | exact belT (by repeat (first | exact Below.refl _ _ | assumption | refine belA ?_ | refine belD ?_ | refine belN ?_ | refine belS ?_ (by simp) | refine belT ?_ (by assumption))) hW))
  obtain ⟨⟨u0, u1⟩, v0, v1⟩ := hasC_small q2
  go_wp2_with fail
  refine (isExp_any p q g e _ (by omega) (by omega)).mono ?_
  rintro e w3_ ⟨rfl, hb3⟩
  clear hc hf
  replace hW := belT hW hb3
  obtain ⟨hc, hf⟩ := bcell hW
  cases q3 : inB e 0 (q - 1)
  · go_wp2
    refine bodyPost_ret (v := .tuple #[.agg #[.int .i64 0, .int .i64 0], .bool false]) (by simp [results, Try.results41, go_sem, hc]) rfl ⟨ret_cb (by simp [pcM, q3]), ?_⟩
    exact (by repeat (first | refine belS ?_ (by simp <;> omega) | exact belT (by repeat (first | exact Below.refl _ _ | assumption | refine belA ?_ | refine belD ?_ | refine belN ?_ | refine belS ?_ (by simp) | refine belT ?_ (by assumption))) hW))
  go_wp2_with fail
  refine (powCipher_any p q g u v e _ (by omega) (by omega) (by omega) (by omega) (by omega) (by omega) (by omega) (by omega)).mono ?_
  rintro e w4_ ⟨rfl, hb4⟩
  clear hc hf
  replace hW := belT hW hb4
  obtain ⟨hc, hf⟩ := bcell hW
  go_wp2
  refine bodyPost_ret (v := .tuple #[.agg #[.int .i64 (gpow p q u e), .int .i64 (gpow p q v e)], .bool true]) (by simp [results, Try.results41, go_sem, hc]) rfl ⟨ret_cb (by simp [pcM, q1, q2, q3]), ?_⟩
  exact (by repeat (first | refine belS ?_ (by simp <;> omega) | exact belT (by repeat (first | exact Below.refl _ _ | assumption | refine belA ?_ | refine belD ?_ | refine belN ?_ | refine belS ?_ (by simp) | refine belT ?_ (by assumption))) hW))

theorem Ints.four {w : World} {b : Nat} {x y z t : Int} (hc : w.cell? ⟨b, 0, none⟩ = some (.int .i64 x)) (hd : w.cell? ⟨b, 1, none⟩ = some (.int .i64 y)) (he : w.cell? ⟨b, 2, none⟩ = some (.int .i64 z)) (hf : w.cell? ⟨b, 3, none⟩ = some (.int .i64 t)) : Ints w (some ⟨b, 0, none⟩) 4 [x, y, z, t] :=
  ⟨rfl, by omega, fun _ => ⟨b, 0, rfl, World.block_lt_of_cell? _ _ hc, fun k hk => by
    have e : k = 0 ∨ k = 1 ∨ k = 2 ∨ k = 3 := by omega
    rcases e with rfl | rfl | rfl | rfl
    · exact hc
    · exact hd
    · exact he
    · exact hf⟩⟩

/-- the components of a statement are elements -/
def eqlB (p q a b c d : Int) : Bool := [a, b, c, d].all (hasB p q)
set_option maxHeartbeats 400000 in
theorem sElements_any (p q g a b c d : Int) (w : World) (p1 : 3 ≤ p) (p2 : p ≤ 2000000000) (k1 : 2 ≤ q) (k2 : q ≤ p - 1) :
    Calls Try.prog 75 #[.agg #[.int .i64 p, .int .i64 q, .int .i64 g], .agg #[.int .i64 a, .int .i64 b, .int .i64 c, .int .i64 d]] w fun e' w' => e' = .returned (.bool (eqlB p q a b c d)) ∧ Below w.heap.size w w' := by
  go_enter Try.func75, Try.ntmps75
  go_wp2_with fail
  refine (gIs_any p q g _ 4 4 [a, b, c, d] _ (Ints.four (by rw [World.cell?_alloc_at _ _ _ _ (by simp)]; rfl) (by rw [World.cell?_alloc_at _ _ _ _ (by simp)]; rfl) (by rw [World.cell?_alloc_at _ _ _ _ (by simp)]; rfl) (by rw [World.cell?_alloc_at _ _ _ _ (by simp)]; rfl)) p1 p2 k1 k2).mono ?_
  rintro e w1_ ⟨rfl, hb1⟩
  have hW := hb1
  obtain ⟨hc, hf⟩ := bcell hW
  go_wp2
  go_ret
  exact ⟨ret_bool (by simp [eqlB]), belT (by repeat (first | exact Below.refl _ _ | assumption | refine belA ?_ | refine belD ?_ | refine belN ?_ | refine belS ?_ (by simp) | refine belT ?_ (by assumption))) hW⟩
set_option maxHeartbeats 400000 in
theorem hasEqual_any (p q g a b c d : Int) (w : World) (p1 : 3 ≤ p) (p2 : p ≤ 2000000000) (k1 : 2 ≤ q) (k2 : q ≤ p - 1) :
    Calls Try.prog 77 #[.agg #[.int .i64 p, .int .i64 q, .int .i64 g], .agg #[.int .i64 a, .int .i64 b, .int .i64 c, .int .i64 d]] w fun e' w' => e' = .returned (.bool (eqlB p q a b c d)) ∧ Below w.heap.size w w' := by
  go_enter Try.func77, Try.ntmps77
  go_wp2_with fail
  refine (hasAll_any p q g _ 4 4 [a, b, c, d] _ (Ints.four (by rw [World.cell?_alloc_at _ _ _ _ (by simp)]; rfl) (by rw [World.cell?_alloc_at _ _ _ _ (by simp)]; rfl) (by rw [World.cell?_alloc_at _ _ _ _ (by simp)]; rfl) (by rw [World.cell?_alloc_at _ _ _ _ (by simp)]; rfl)) p1 p2 k1 k2).mono ?_
  rintro e w1_ ⟨rfl, hb1⟩
  have hW := hb1
  obtain ⟨hc, hf⟩ := bcell hW
  go_wp2
  go_ret
  exact ⟨ret_bool (by simp [eqlB]), belT (by repeat (first | exact Below.refl _ _ | assumption | refine belA ?_ | refine belD ?_ | refine belN ?_ | refine belS ?_ (by simp) | refine belT ?_ (by assumption))) hW⟩
end Go.Proofs.Ytehemfhnhjengaa
