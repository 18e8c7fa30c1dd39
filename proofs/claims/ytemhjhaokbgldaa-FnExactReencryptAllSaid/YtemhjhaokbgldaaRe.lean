/- Contracts of both sides: Reencrypt. -/
import Derived.Test.YtemhjhaokbgldaaMv
namespace Go.Proofs.Ytemhjhaokbgldaa
open Go.RowKit
set_option linter.unusedVariables false
attribute [local go_sem ↓] Go.wp_at_zero Go.wp_at_succ
set_option linter.unusedSimpArgs false

theorem Cips.two {w : World} {b : Nat} {x y x' y' : Int} (h0 : w.cell? ⟨b, 0, none⟩ = some (.int .i64 x)) (h1 : w.cell? ⟨b, 1, none⟩ = some (.int .i64 y)) (h2 : w.cell? ⟨b, 2, none⟩ = some (.int .i64 x')) (h3 : w.cell? ⟨b, 3, none⟩ = some (.int .i64 y')) : Cips w (some ⟨b, 0, none⟩) 2 [(x, y), (x', y')] :=
  ⟨rfl, by omega, fun _ => ⟨b, 0, rfl, World.block_lt_of_cell? _ _ h0, fun k hk => by
    have e : k = 0 ∨ k = 1 := by omega
    rcases e with e | e
    · subst e; exact ⟨h0, h1⟩
    · subst e; exact ⟨h2, h3⟩⟩⟩
theorem mulK_one {p u : Int} (hp : 2 ≤ p) (u0 : 0 ≤ u) (u1 : u < p) (x : Int) : mulK p [mulK p [1, u] 2, x] 2 = mulK p [u, x] 2 := by
  have e : mulK p [1, u] 2 = u := by
    show ((1 * 1) % p * u) % p = u
    rw [Int.mul_one, Int.emod_eq_of_lt (by omega) (by omega : (1 : Int) < p), Int.one_mul]
    exact Int.emod_eq_of_lt u0 u1
  rw [e]
theorem mulCK_two {p u v x y : Int} (hp : 2 ≤ p) (u0 : 0 ≤ u) (u1 : u < p) (v0 : 0 ≤ v) (v1 : v < p) : mulCK p [(u, v), (x, y)] 2 = (mulK p [u, x] 2, mulK p [v, y] 2) := by
  show (mulK p [mulK p [1, u] 2, x] 2, mulK p [mulK p [1, v] 2, y] 2) = _
  rw [mulK_one hp u0 u1, mulK_one hp v0 v1]
theorem smallC_two {p u v x y : Int} (u0 : 0 ≤ u) (u1 : u < p) (v0 : 0 ≤ v) (v1 : v < p) (x0 : 0 ≤ x) (x1 : x < p) (y0 : 0 ≤ y) (y1 : y < p) : SmallC p [(u, v), (x, y)] := by
  intro k hk
  have e : k = 0 ∨ k = 1 := by simp at hk; omega
  rcases e with e | e
  · subst e; exact ⟨⟨u0, u1⟩, v0, v1⟩
  · subst e; exact ⟨⟨x0, x1⟩, y0, y1⟩
/-- another ciphertext of the same message -/
def reC (p q g key u v r : Int) : Int × Int := (mulK p [u, encA p q g r] 2, mulK p [v, encB p q key 1 r] 2)

set_option maxRecDepth 100000 in
set_option maxHeartbeats 4000000 in
theorem eRe_any (p q g key u v r : Int) (w : World) (p1 : 2 ≤ p) (p2 : p ≤ 3000000000) (q1 : 2 ≤ q) (q2 : q ≤ 3000000000) (g0 : 0 ≤ g) (g1 : g < p) (k0 : 0 ≤ key) (k1 : key < p) (u0 : 0 ≤ u) (u1 : u < p) (v0 : 0 ≤ v) (v1 : v < p) :
    Calls Try.prog 71 #[.agg #[.int .i64 p, .int .i64 q, .int .i64 g], .int .i64 key, .agg #[.int .i64 u, .int .i64 v], .int .i64 r] w fun e' w' => e' = .returned (.agg #[.int .i64 (reC p q g key u v r).1, .int .i64 (reC p q g key u v r).2]) ∧ Below w.heap.size w w' := by
  have HR := Room.new ((w.alloc (.cells #[.int .i64 p, .int .i64 q, .int .i64 g] 28)).alloc (.cells #[.int .i64 u, .int .i64 v] 30)) (.int .i64 0) (.int .i64 0) 30
  have eR : ((w.alloc (.cells #[.int .i64 p, .int .i64 q, .int .i64 g] 28)).alloc (.cells #[.int .i64 u, .int .i64 v] 30)).heap.size = w.heap.size + 1 + 1 := by simp
  rw [eR] at HR
  clear eR
  have hx : 0 ≤ encA p q g r ∧ encA p q g r < p := encA_bd p1
  have hy : 0 ≤ encB p q key 1 r ∧ encB p q key 1 r < p := encB_bd p1
  have hr : reC p q g key u v r = (mulK p [u, encA p q g r] 2, mulK p [v, encB p q key 1 r] 2) := rfl
  rw [hr]
  clear hr
  go_enter Try.func71, Try.ntmps71
  go_wp2
  have hB : Below w.heap.size w (((w.alloc (.cells #[.int .i64 p, .int .i64 q, .int .i64 g] 28)).alloc (.cells #[.int .i64 u, .int .i64 v] 30)).alloc (.cells #[.int .i64 0, .int .i64 0] 30)) := (by repeat (first | exact Below.refl _ _ | assumption | refine belA ?_ | refine belD ?_ | refine belN ?_ | refine belS ?_ (by simp) | refine belT ?_ (by assumption)))
  generalize hW0 : ((w.alloc (.cells #[.int .i64 p, .int .i64 q, .int .i64 g] 28)).alloc (.cells #[.int .i64 u, .int .i64 v] 30)).alloc (.cells #[.int .i64 0, .int .i64 0] 30) = W0 at HR hB
  have j1 : W0.cell? ⟨w.heap.size, 0, none⟩ = some (.int .i64 p) := by subst hW0; rw [World.cell?_alloc_past _ _ _ (by simp <;> omega), World.cell?_alloc_past _ _ _ (by simp <;> omega), World.cell?_alloc_at _ _ _ _ (by simp)]; rfl
  have j2 : W0.cell? ⟨w.heap.size, 1, none⟩ = some (.int .i64 q) := by subst hW0; rw [World.cell?_alloc_past _ _ _ (by simp <;> omega), World.cell?_alloc_past _ _ _ (by simp <;> omega), World.cell?_alloc_at _ _ _ _ (by simp)]; rfl
  have j3 : W0.cell? ⟨w.heap.size, 2, none⟩ = some (.int .i64 g) := by subst hW0; rw [World.cell?_alloc_past _ _ _ (by simp <;> omega), World.cell?_alloc_past _ _ _ (by simp <;> omega), World.cell?_alloc_at _ _ _ _ (by simp)]; rfl
  have j4 : W0.cell? ⟨w.heap.size + 1, 0, none⟩ = some (.int .i64 u) := by subst hW0; rw [World.cell?_alloc_past _ _ _ (by simp <;> omega), World.cell?_alloc_at _ _ _ _ (by simp)]; rfl
  have j5 : W0.cell? ⟨w.heap.size + 1, 1, none⟩ = some (.int .i64 v) := by subst hW0; rw [World.cell?_alloc_past _ _ _ (by simp <;> omega), World.cell?_alloc_at _ _ _ _ (by simp)]; rfl
  clear hW0
  generalize hex : encA p q g r = x at hx
  generalize hey : encB p q key 1 r = y at hy
  obtain ⟨x0, x1⟩ := hx
  obtain ⟨y0, y1⟩ := hy
  have HX := Lib.hid hex
  have HY := Lib.hid hey
  clear hex hey
  go_region_held3 (fun W => W.cell? ⟨w.heap.size, 0, none⟩ = some (.int .i64 p) ∧ W.cell? ⟨w.heap.size, 1, none⟩ = some (.int .i64 q) ∧ W.cell? ⟨w.heap.size, 2, none⟩ = some (.int .i64 g) ∧ W.cell? ⟨w.heap.size + 1, 0, none⟩ = some (.int .i64 u) ∧ W.cell? ⟨w.heap.size + 1, 1, none⟩ = some (.int .i64 v)) (first | (go_split_ands; (repeat' apply And.intro) <;> first | assumption | exact keepB hb1 (by assumption) | (refine keepS (by simp <;> omega) (keepS (by simp <;> omega) ?_); assumption) | (refine keepS (by simp <;> omega) ?_; assumption) | (refine keepB (belA (Below.refl _ _)) ?_; assumption) | go_keep) | go_keep) ((first | (go_at_call 64; refine (eEnc_any p q g key 1 r _ (by omega) (by omega) (by omega) (by omega) (by omega) (by omega) (by omega) (by omega) (by omega) (by omega)).mono ?_; rintro e' w1 ⟨rfl, hb1⟩; have hX : Below W0.heap.size W0 w1 := (by repeat (first | exact Below.refl _ _ | assumption | refine belA ?_ | refine belD ?_ | refine belN ?_ | refine belS ?_ (by simp <;> omega) | refine belT ?_ (by assumption))); obtain ⟨rx, ry, rc0, rc1, rf0, rf1⟩ := (Room.below HR hX).facts; rw [HX.out, HY.out]) | (go_at_call 76; refine (eMul_any p q g _ 2 2 [(u, v), (x, y)] _ (Cips.two ?_ ?_ ?_ ?_) (by omega) (by omega) (smallC_two u0 u1 v0 v1 x0 x1 y0 y1)).mono ?_; (focus (first | (simp [go_sem]; done) | (simp [go_sem, hc1]; done))); (focus (first | (simp [go_sem]; done) | (simp [go_sem, hc1]; done))); (focus (first | (simp [go_sem]; done) | (simp [go_sem, hc1]; done))); (focus (first | (simp [go_sem]; done) | (simp [go_sem, hc1]; done))); rintro e' w1 ⟨rfl, hb1⟩; have hX : Below W0.heap.size W0 w1 := (by repeat (first | exact Below.refl _ _ | assumption | refine belA ?_ | refine belD ?_ | refine belN ?_ | refine belS ?_ (by simp <;> omega) | refine belT ?_ (by assumption))); obtain ⟨rx, ry, rc0, rc1, rf0, rf1⟩ := (Room.below HR hX).facts; rw [mulCK_two p1 u0 u1 v0 v1])))
  all_goals go_wp2
  all_goals refine bodyPost_ret (v := .agg #[.int .i64 (mulK p [u, x] 2), .int .i64 (mulK p [v, y] 2)]) (by simp [results, Try.results71, go_sem, rc0, rc1]) rfl ⟨by rw [HX.out, HY.out], ?_⟩
  all_goals exact (by repeat (first | exact Below.refl _ _ | assumption | refine belA ?_ | refine belD ?_ | refine belN ?_ | refine belS ?_ (by simp <;> omega) | refine belT ?_ (by assumption)))
set_option maxRecDepth 100000 in
set_option maxHeartbeats 4000000 in
theorem reencrypt_any (p q g key u v r : Int) (w : World) (p1 : 2 ≤ p) (p2 : p ≤ 3000000000) (q1 : 2 ≤ q) (q2 : q ≤ 3000000000) (g0 : 0 ≤ g) (g1 : g < p) (k0 : 0 ≤ key) (k1 : key < p) (u0 : 0 ≤ u) (u1 : u < p) (v0 : 0 ≤ v) (v1 : v < p) :
    Calls Try.prog 72 #[.agg #[.int .i64 p, .int .i64 q, .int .i64 g], .int .i64 key, .agg #[.int .i64 u, .int .i64 v], .int .i64 r] w fun e' w' => e' = .returned (.agg #[.int .i64 (reC p q g key u v r).1, .int .i64 (reC p q g key u v r).2]) ∧ Below w.heap.size w w' := by
  have HR := Room.new ((w.alloc (.cells #[.int .i64 p, .int .i64 q, .int .i64 g] 28)).alloc (.cells #[.int .i64 u, .int .i64 v] 30)) (.int .i64 0) (.int .i64 0) 30
  have eR : ((w.alloc (.cells #[.int .i64 p, .int .i64 q, .int .i64 g] 28)).alloc (.cells #[.int .i64 u, .int .i64 v] 30)).heap.size = w.heap.size + 1 + 1 := by simp
  rw [eR] at HR
  clear eR
  have hx : 0 ≤ encA p q g r ∧ encA p q g r < p := encA_bd p1
  have hy : 0 ≤ encB p q key 1 r ∧ encB p q key 1 r < p := encB_bd p1
  have hr : reC p q g key u v r = (mulK p [u, encA p q g r] 2, mulK p [v, encB p q key 1 r] 2) := rfl
  rw [hr]
  clear hr
  go_enter Try.func72, Try.ntmps72
  go_wp2
  have hB : Below w.heap.size w (((w.alloc (.cells #[.int .i64 p, .int .i64 q, .int .i64 g] 28)).alloc (.cells #[.int .i64 u, .int .i64 v] 30)).alloc (.cells #[.int .i64 0, .int .i64 0] 30)) := (by repeat (first | exact Below.refl _ _ | assumption | refine belA ?_ | refine belD ?_ | refine belN ?_ | refine belS ?_ (by simp) | refine belT ?_ (by assumption)))
  generalize hW0 : ((w.alloc (.cells #[.int .i64 p, .int .i64 q, .int .i64 g] 28)).alloc (.cells #[.int .i64 u, .int .i64 v] 30)).alloc (.cells #[.int .i64 0, .int .i64 0] 30) = W0 at HR hB
  have j1 : W0.cell? ⟨w.heap.size, 0, none⟩ = some (.int .i64 p) := by subst hW0; rw [World.cell?_alloc_past _ _ _ (by simp <;> omega), World.cell?_alloc_past _ _ _ (by simp <;> omega), World.cell?_alloc_at _ _ _ _ (by simp)]; rfl
  have j2 : W0.cell? ⟨w.heap.size, 1, none⟩ = some (.int .i64 q) := by subst hW0; rw [World.cell?_alloc_past _ _ _ (by simp <;> omega), World.cell?_alloc_past _ _ _ (by simp <;> omega), World.cell?_alloc_at _ _ _ _ (by simp)]; rfl
  have j3 : W0.cell? ⟨w.heap.size, 2, none⟩ = some (.int .i64 g) := by subst hW0; rw [World.cell?_alloc_past _ _ _ (by simp <;> omega), World.cell?_alloc_past _ _ _ (by simp <;> omega), World.cell?_alloc_at _ _ _ _ (by simp)]; rfl
  have j4 : W0.cell? ⟨w.heap.size + 1, 0, none⟩ = some (.int .i64 u) := by subst hW0; rw [World.cell?_alloc_past _ _ _ (by simp <;> omega), World.cell?_alloc_at _ _ _ _ (by simp)]; rfl
  have j5 : W0.cell? ⟨w.heap.size + 1, 1, none⟩ = some (.int .i64 v) := by subst hW0; rw [World.cell?_alloc_past _ _ _ (by simp <;> omega), World.cell?_alloc_at _ _ _ _ (by simp)]; rfl
  clear hW0
  generalize hex : encA p q g r = x at hx
  generalize hey : encB p q key 1 r = y at hy
  obtain ⟨x0, x1⟩ := hx
  obtain ⟨y0, y1⟩ := hy
  have HX := Lib.hid hex
  have HY := Lib.hid hey
  clear hex hey
  go_region_held3 (fun W => W.cell? ⟨w.heap.size, 0, none⟩ = some (.int .i64 p) ∧ W.cell? ⟨w.heap.size, 1, none⟩ = some (.int .i64 q) ∧ W.cell? ⟨w.heap.size, 2, none⟩ = some (.int .i64 g) ∧ W.cell? ⟨w.heap.size + 1, 0, none⟩ = some (.int .i64 u) ∧ W.cell? ⟨w.heap.size + 1, 1, none⟩ = some (.int .i64 v)) (first | (go_split_ands; (repeat' apply And.intro) <;> first | assumption | exact keepB hb1 (by assumption) | (refine keepS (by simp <;> omega) (keepS (by simp <;> omega) ?_); assumption) | (refine keepS (by simp <;> omega) ?_; assumption) | (refine keepB (belA (Below.refl _ _)) ?_; assumption) | go_keep) | go_keep) ((first | (go_at_call 66; refine (encrypt_any p q g key 1 r _ (by omega) (by omega) (by omega) (by omega) (by omega) (by omega) (by omega) (by omega) (by omega) (by omega)).mono ?_; rintro e' w1 ⟨rfl, hb1⟩; have hX : Below W0.heap.size W0 w1 := (by repeat (first | exact Below.refl _ _ | assumption | refine belA ?_ | refine belD ?_ | refine belN ?_ | refine belS ?_ (by simp <;> omega) | refine belT ?_ (by assumption))); obtain ⟨rx, ry, rc0, rc1, rf0, rf1⟩ := (Room.below HR hX).facts; rw [HX.out, HY.out]) | (go_at_call 104; refine (mulTwo_any p q g u v x y _ (by omega) (by omega) (by omega) (by omega) (by omega) (by omega) (by omega) (by omega) (by omega) (by omega)).mono ?_; rintro e' w1 ⟨rfl, hb1⟩; have hX : Below W0.heap.size W0 w1 := (by repeat (first | exact Below.refl _ _ | assumption | refine belA ?_ | refine belD ?_ | refine belN ?_ | refine belS ?_ (by simp <;> omega) | refine belT ?_ (by assumption))); obtain ⟨rx, ry, rc0, rc1, rf0, rf1⟩ := (Room.below HR hX).facts)))
  all_goals go_wp2
  all_goals refine bodyPost_ret (v := .agg #[.int .i64 (mulK p [u, x] 2), .int .i64 (mulK p [v, y] 2)]) (by simp [results, Try.results72, go_sem, rc0, rc1]) rfl ⟨by rw [HX.out, HY.out], ?_⟩
  all_goals exact (by repeat (first | exact Below.refl _ _ | assumption | refine belA ?_ | refine belD ?_ | refine belN ?_ | refine belS ?_ (by simp <;> omega) | refine belT ?_ (by assumption)))

def reM (p q g key u v r : Int) : (Int × Int) × Bool := if goodB p q g && hasB p q key && hasC p q (u, v) && inB r 0 (q - 1) then (reC p q g key u v r, true) else ((0, 0), false)
set_option maxHeartbeats 1600000 in
theorem sReencrypt_any (p q g key u v r : Int) (w : World) :
    Calls Try.prog 24 #[.agg #[.int .i64 p, .int .i64 q, .int .i64 g], .int .i64 key, .agg #[.int .i64 u, .int .i64 v], .int .i64 r] w fun e' w' => e' = .returned (.tuple #[.agg #[.int .i64 (reM p q g key u v r).1.1, .int .i64 (reM p q g key u v r).1.2], .bool (reM p q g key u v r).2]) ∧ Below w.heap.size w w' := by
  go_enter Try.func24, Try.ntmps24
  go_wp2_with fail
  refine (eKey_any p q g key _).mono ?_
  rintro e w1_ ⟨rfl, hb1⟩
  have hW := hb1
  obtain ⟨hc, hf⟩ := bcell hW
  cases q1 : (goodB p q g && hasB p q key)
  · go_wp2
    refine bodyPost_ret (v := .tuple #[.agg #[.int .i64 0, .int .i64 0], .bool false]) (by simp [results, Try.results24, go_sem, hc]) rfl ⟨ret_cb (by simp [reM, q1]), ?_⟩
    exact (by repeat (first | refine belS ?_ (by simp <;> omega) | exact belT (by repeat (first | exact Below.refl _ _ | assumption | refine belA ?_ | refine belD ?_ | refine belN ?_ | refine belS ?_ (by simp) | refine belT ?_ (by assumption))) hW))
  obtain ⟨⟨g1, g2, g3, g4, g5, g6⟩, x1, x2⟩ := key_om q1
  go_wp2_with fail
  refine (eGood_any p q g _ 1 1 [(u, v)] _ (Cips.one (by rw [World.cell?_alloc_at _ _ _ _ (by simp)]; rfl) (by rw [World.cell?_alloc_at _ _ _ _ (by simp)]; rfl)) g1 g2 g3 g4).mono ?_
  rintro e w2_ ⟨rfl, hb2⟩
  clear hc hf
  replace hW := belT (belA hW) hb2
  obtain ⟨hc, hf⟩ := bcell hW
  rw [show (decide ((1 : Nat) ≤ 24) && [(u, v)].all (hasC p q)) = hasC p q (u, v) from by simp]
  cases q2 : hasC p q (u, v)
  · go_wp2
    refine bodyPost_ret (v := .tuple #[.agg #[.int .i64 0, .int .i64 0], .bool false]) (by simp [results, Try.results24, go_sem, hc]) rfl ⟨ret_cb (by simp [reM, q2]), ?_⟩
    exact (by repeat (first | refine belS ?_ (by simp <;> omega) | exact belT (by repeat (first | exact Below.refl _ _ | assumption | refine belA ?_ | refine belD ?_ | refine belN ?_ | refine belS ?_ (by simp) | refine belT ?_ (by assumption))) hW))
  obtain ⟨⟨x3, x4⟩, x5, x6⟩ := hasC_small q2
  go_wp2_with fail
  refine (gExps_any p q g _ 1 1 [r] _ (Ints.one (by rw [World.cell?_alloc_at _ _ _ _ (by simp)]; rfl)) (by omega) (by omega)).mono ?_
  rintro e w3_ ⟨rfl, hb3⟩
  clear hc hf
  replace hW := belT (belA hW) hb3
  obtain ⟨hc, hf⟩ := bcell hW
  rw [one_all]
  cases q3 : inB r 0 (q - 1)
  · go_wp2
    refine bodyPost_ret (v := .tuple #[.agg #[.int .i64 0, .int .i64 0], .bool false]) (by simp [results, Try.results24, go_sem, hc]) rfl ⟨ret_cb (by simp [reM, q3]), ?_⟩
    exact (by repeat (first | refine belS ?_ (by simp <;> omega) | exact belT (by repeat (first | exact Below.refl _ _ | assumption | refine belA ?_ | refine belD ?_ | refine belN ?_ | refine belS ?_ (by simp) | refine belT ?_ (by assumption))) hW))
  go_wp2_with fail
  refine (eRe_any p q g key u v r _ (by omega) (by omega) (by omega) (by omega) (by omega) (by omega) (by omega) (by omega) (by omega) (by omega) (by omega) (by omega)).mono ?_
  rintro e w4_ ⟨rfl, hb4⟩
  clear hc hf
  replace hW := belT hW hb4
  obtain ⟨hc, hf⟩ := bcell hW
  go_wp2
  refine bodyPost_ret (v := .tuple #[.agg #[.int .i64 (reC p q g key u v r).1, .int .i64 (reC p q g key u v r).2], .bool true]) (by simp [results, Try.results24, go_sem, hc]) rfl ⟨ret_cb (by simp [reM, key_two q1, q2, q3]), ?_⟩
  exact (by repeat (first | refine belS ?_ (by simp <;> omega) | exact belT (by repeat (first | exact Below.refl _ _ | assumption | refine belA ?_ | refine belD ?_ | refine belN ?_ | refine belS ?_ (by simp) | refine belT ?_ (by assumption))) hW))
set_option maxHeartbeats 1600000 in
theorem iReencrypt_any (p q g key u v r : Int) (w : World) :
    Calls Try.prog 25 #[.agg #[.int .i64 p, .int .i64 q, .int .i64 g], .int .i64 key, .agg #[.int .i64 u, .int .i64 v], .int .i64 r] w fun e' w' => e' = .returned (.tuple #[.agg #[.int .i64 (reM p q g key u v r).1.1, .int .i64 (reM p q g key u v r).1.2], .bool (reM p q g key u v r).2]) ∧ Below w.heap.size w w' := by
  go_enter Try.func25, Try.ntmps25
  go_wp2_with fail
  refine (IsValidGroup_any p q g _).mono ?_
  rintro e w1_ ⟨rfl, hb1⟩
  have hW := hb1
  obtain ⟨hc, hf⟩ := bcell hW
  cases q1 : goodB p q g
  · go_wp2
    refine bodyPost_ret (v := .tuple #[.agg #[.int .i64 0, .int .i64 0], .bool false]) (by simp [results, Try.results25, go_sem, hc]) rfl ⟨ret_cb (by simp [reM, q1]), ?_⟩
    exact (by repeat (first | refine belS ?_ (by simp <;> omega) | exact belT (by repeat (first | exact Below.refl _ _ | assumption | refine belA ?_ | refine belD ?_ | refine belN ?_ | refine belS ?_ (by simp) | refine belT ?_ (by assumption))) hW))
  obtain ⟨g1, g2, g3, g4, g5, g6⟩ := good_om q1
  go_wp2_with fail
  refine (has_any p q g key _ g1 g2 g3 g4).mono ?_
  rintro e w2_ ⟨rfl, hb2⟩
  clear hc hf
  replace hW := belT hW hb2
  obtain ⟨hc, hf⟩ := bcell hW
  cases q2 : hasB p q key
  · go_wp2
    refine bodyPost_ret (v := .tuple #[.agg #[.int .i64 0, .int .i64 0], .bool false]) (by simp [results, Try.results25, go_sem, hc]) rfl ⟨ret_cb (by simp [reM, q2]), ?_⟩
    exact (by repeat (first | refine belS ?_ (by simp <;> omega) | exact belT (by repeat (first | exact Below.refl _ _ | assumption | refine belA ?_ | refine belD ?_ | refine belN ?_ | refine belS ?_ (by simp) | refine belT ?_ (by assumption))) hW))
  obtain ⟨x1, x2⟩ := has_small q2
  go_wp2_with fail
  refine (hasCipher_any p q g u v _ g1 g2 g3 g4).mono ?_
  rintro e w3_ ⟨rfl, hb3⟩
  clear hc hf
  replace hW := belT hW hb3
  obtain ⟨hc, hf⟩ := bcell hW
  cases q3 : hasC p q (u, v)
  · go_wp2
    refine bodyPost_ret (v := .tuple #[.agg #[.int .i64 0, .int .i64 0], .bool false]) (by simp [results, Try.results25, go_sem, hc]) rfl ⟨ret_cb (by simp [reM, q3]), ?_⟩
    exact (by repeat (first | refine belS ?_ (by simp <;> omega) | exact belT (by repeat (first | exact Below.refl _ _ | assumption | refine belA ?_ | refine belD ?_ | refine belN ?_ | refine belS ?_ (by simp) | refine belT ?_ (by assumption))) hW))
  obtain ⟨⟨x3, x4⟩, x5, x6⟩ := hasC_small q3
  go_wp2_with fail
  refine (isExp_any p q g r _ (by omega) (by omega)).mono ?_
  rintro e w4_ ⟨rfl, hb4⟩
  clear hc hf
  replace hW := belT hW hb4
  obtain ⟨hc, hf⟩ := bcell hW
  cases q4 : inB r 0 (q - 1)
  · go_wp2
    refine bodyPost_ret (v := .tuple #[.agg #[.int .i64 0, .int .i64 0], .bool false]) (by simp [results, Try.results25, go_sem, hc]) rfl ⟨ret_cb (by simp [reM, q4]), ?_⟩
    exact (by repeat (first | refine belS ?_ (by simp <;> omega) | exact belT (by repeat (first | exact Below.refl _ _ | assumption | refine belA ?_ | refine belD ?_ | refine belN ?_ | refine belS ?_ (by simp) | refine belT ?_ (by assumption))) hW))
  go_wp2_with fail
  refine (reencrypt_any p q g key u v r _ (by omega) (by omega) (by omega) (by omega) (by omega) (by omega) (by omega) (by omega) (by omega) (by omega) (by omega) (by omega)).mono ?_
  rintro e w5_ ⟨rfl, hb5⟩
  clear hc hf
  replace hW := belT hW hb5
  obtain ⟨hc, hf⟩ := bcell hW
  go_wp2
  refine bodyPost_ret (v := .tuple #[.agg #[.int .i64 (reC p q g key u v r).1, .int .i64 (reC p q g key u v r).2], .bool true]) (by simp [results, Try.results25, go_sem, hc]) rfl ⟨ret_cb (by simp [reM, q1, q2, q3, q4]), ?_⟩
  exact (by repeat (first | refine belS ?_ (by simp <;> omega) | exact belT (by repeat (first | exact Below.refl _ _ | assumption | refine belA ?_ | refine belD ?_ | refine belN ?_ | refine belS ?_ (by simp) | refine belT ?_ (by assumption))) hW))
end Go.Proofs.Ytemhjhaokbgldaa
