/- For every drawn group of small order, the list of elements is complete, and powers of residues are elements: proved with no condition. -/
import Derived.Test.YteeggmnkcgpfjaaDr4
import Derived.Test.YteeggmnkcgpfjaaEo
import Derived.Test.YteeggmnkcgpfjaaGr1
import Derived.Test.YteeggmnkcgpfjaaTgN
namespace Go.Proofs.Yteeggmnkcgpfjaa
open Go.ChangeShapes Go.WideShapes Go.ChangeAt Go.RowKit Go.Joins
open Go.ChangeMaps (open_string shut_string)
set_option linter.unusedVariables false
attribute [local go_sem ↓] Go.wp_at_zero Go.wp_at_succ
set_option linter.unusedSimpArgs false
theorem eo_full {p q g : Int} (h : (eoM p q g).2 = true) : (((eoM p q g).1.length : Nat) : Int) = q := by
  unfold eoM at h ⊢
  split
  · rename_i hb
    have hg : goodB p q g = true := by
      simp only [eoB, Bool.and_eq_true] at hb
      exact hb.1
    have G := good_of hg
    have := G.q1
    simp only [eoK_len]
    omega
  · rename_i hb
    rw [if_neg hb] at h
    cases h
theorem ret_bb3 {a a' b b' : Bool} (h : (a, b) = (a', b')) : Ending.returned (.tuple #[.bool a, .bool b]) = .returned (.tuple #[.bool a', .bool b']) := by
  injection h with h1 h2
  rw [h1, h2]
def elT (p q g x : Int) : Bool × Bool := (goodB p q g && hasB p q x, goodB p q g)
theorem ef_full {p q g r : Int} (h : (elF p q g r).2 = true) : elT p q g (elF p q g r).1 = (true, true) := by
  unfold elF at h ⊢
  split
  · rename_i hb
    rw [Bool.and_eq_true] at hb
    simp only [elT, hb.1, from_has hb.1 hb.2, Bool.and_self]
  · rename_i hb
    rw [if_neg hb] at h
    cases h
set_option maxHeartbeats 400000 in
theorem iIsEl_any (p q g x : Int) (w : World) :
    Calls Try.prog 27 #[.agg #[.int .i64 p, .int .i64 q, .int .i64 g], .int .i64 x] w fun e w' => e = .returned (.tuple #[.bool (elT p q g x).1, .bool (elT p q g x).2]) ∧ Below w.heap.size w w' := by
  go_enter Try.func27, Try.ntmps27
  go_wp2_with fail
  refine (IsValidGroup_any p q g _).mono ?_
  rintro e w1_ ⟨rfl, hb1⟩
  have hW := hb1
  obtain ⟨hc, hf⟩ := bcell hW
  cases q1 : goodB p q g
  · go_wp2
    go_ret2
    exact ⟨ret_bb3 (by simp [elT, q1]), belT (by repeat (first | exact Below.refl _ _ | assumption | refine belA ?_ | refine belD ?_ | refine belN ?_ | refine belS ?_ (by simp) | refine belT ?_ (by assumption))) hW⟩
  obtain ⟨g1, g2, g3, g4, g5, g6⟩ := good_om q1
  go_wp2_with fail
  refine (has_any p q g x _ g1 g2 g3 g4).mono ?_
  rintro e w2_ ⟨rfl, hb2⟩
  clear hc hf
  replace hW := belT hW hb2
  obtain ⟨hc, hf⟩ := bcell hW
  go_wp2
  go_ret2
  exact ⟨ret_bb3 (by simp [elT, q1]), belT (by repeat (first | exact Below.refl _ _ | assumption | refine belA ?_ | refine belD ?_ | refine belN ?_ | refine belS ?_ (by simp) | refine belT ?_ (by assumption))) hW⟩
theorem row_len {k : IntKind} {w : World} {A : Option Addr} {n c : Nat} {zs : List Int} (h : IsRow k w A n c zs) : n ≤ maxLen := by
  rcases h with ⟨_, rfl, _, _⟩ | ⟨x, _, hl, hm, _⟩
  · exact Nat.zero_le _
  · omega
set_option maxRecDepth 100000 in
set_option maxHeartbeats 8000000 in
theorem walk_FnTinyGroups (w : World) (A0 : Option Addr) (n0 c0 : Nat) (zs0 : List Int) (k0 : IsRow .u8 w A0 n0 c0 zs0) (A1 : Option Addr) (n1 c1 : Nat) (zs1 : List Int) (k1 : IsRow .u8 w A1 n1 c1 zs1) :
    Calls Try.prog 4 #[.slice A0 n0 c0, .slice A1 n1 c1] w fun e w' => e = .returned (.bool true) ∧ Below w.heap.size w w' := by
  have m0 := row_len k0
  have m1 := row_len k1
  unfold maxLen at m0 m1
  by_cases big : 1048576 < wrap64 ((n0 : Int) + (n1 : Int))
  · clear k0 k1
    go_enter Try.func4, Try.ntmps4
    go_wp2
    go_ret
    exact ⟨rfl, (by repeat (first | exact Below.refl _ _ | assumption | refine belA ?_ | refine belD ?_ | refine belN ?_ | refine belS ?_ (by simp) | refine belT ?_ (by assumption)))⟩
  have B0 := Lib.hid (Bys.of_row k0 (by omega))
  have B1 := Lib.hid (Bys.of_row k1 (by omega))
  clear k0 k1
  generalize zs0.take n0 = z0 at B0
  generalize zs1.take n1 = z1 at B1
  go_enter Try.func4, Try.ntmps4
  go_wp2_with fail
  refine (drawElements_any A0 n0 c0 z0 _ B0.out).mono ?_
  rintro e w1 ⟨p, q, g, rfl, hb1⟩
  have HW1 : Hid (Below w.heap.size w (w1.alloc (.cells #[.int .i64 p, .int .i64 q, .int .i64 g] 27))) := Lib.hid (belA hb1)
  have f0 : (w1.alloc (.cells #[.int .i64 p, .int .i64 q, .int .i64 g] 27)).cell? ⟨w1.heap.size, 0, none⟩ = some (.int .i64 p) := (by rw [World.cell?_alloc_at _ _ _ _ (by simp)]; rfl)
  have f1 : (w1.alloc (.cells #[.int .i64 p, .int .i64 q, .int .i64 g] 27)).cell? ⟨w1.heap.size, 1, none⟩ = some (.int .i64 q) := (by rw [World.cell?_alloc_at _ _ _ _ (by simp)]; rfl)
  have f2 : (w1.alloc (.cells #[.int .i64 p, .int .i64 q, .int .i64 g] 27)).cell? ⟨w1.heap.size, 2, none⟩ = some (.int .i64 g) := (by rw [World.cell?_alloc_at _ _ _ _ (by simp)]; rfl)
  have HB1 := Lib.hid (B1.out.below hb1)
  have hs1 := hb1.size
  have hfull := fun h => eo_full (p := p) (q := q) (g := g) h
  have HI := Lib.hid (fun W => iElementsOf_any p q g W)
  have HS := Lib.hid (fun W => sElementsOf_any p q g W)
  generalize eoM p q g = E at hfull HI HS
  obtain ⟨l, ok⟩ := E
  simp only at hfull HI HS
  have HF := Lib.hid hfull
  clear hb1 hfull
  go_wp2_with fail
  refine (HI.out _).mono ?_
  rintro e w2 ⟨A2, d2, rfl, ho2, hb2⟩
  have I2 := Lib.hid (Ints.of_own ho2)
  replace f0 := keepB hb2 f0
  replace f1 := keepB hb2 f1
  replace f2 := keepB hb2 f2
  have HW2 := Lib.hid (belT HW1.out hb2)
  have HB2 := Lib.hid ((HB1.out.below (belA (o := .cells #[.int .i64 p, .int .i64 q, .int .i64 g] 27) (Below.refl _ _))).below hb2)
  have hs2 : w1.heap.size < w2.heap.size := by have := hb2.size; simp at this; omega
  clear ho2 hb2 HB1 HW1
  go_wp2_with fail
  refine (HS.out _).mono ?_
  rintro e w3 ⟨A3, d3, rfl, ho3, hb3⟩
  have I3 := Lib.hid (Ints.of_own ho3)
  replace I2 := Lib.hid (I2.out.below hb3)
  replace f0 := keepB hb3 f0
  replace f1 := keepB hb3 f1
  replace f2 := keepB hb3 f2
  have HW3 := Lib.hid (belT HW2.out hb3)
  have HB3 := Lib.hid ((HB2.out.below hb3).more (show w.heap.size ≤ w3.heap.size by have := hb3.size; omega))
  have hs3 := hb3.size
  clear ho3 hb3 HB2 HW2
  go_wp2_with fail
  refine (drawFrom_any A1 n1 c1 z1 _ HB3.out).mono ?_
  rintro e w4 ⟨hp, hq, hg, r, rfl, hb4⟩
  replace I2 := Lib.hid (I2.out.below (belA (o := .cells #[.int .i64 hp, .int .i64 hq, .int .i64 hg] 27) hb4))
  replace I3 := Lib.hid (I3.out.below (belA (o := .cells #[.int .i64 hp, .int .i64 hq, .int .i64 hg] 27) hb4))
  replace f0 := keepB (belA (o := .cells #[.int .i64 hp, .int .i64 hq, .int .i64 hg] 27) hb4) f0
  replace f1 := keepB (belA (o := .cells #[.int .i64 hp, .int .i64 hq, .int .i64 hg] 27) hb4) f1
  replace f2 := keepB (belA (o := .cells #[.int .i64 hp, .int .i64 hq, .int .i64 hg] 27) hb4) f2
  have g0 : (w4.alloc (.cells #[.int .i64 hp, .int .i64 hq, .int .i64 hg] 27)).cell? ⟨w4.heap.size, 0, none⟩ = some (.int .i64 hp) := (by rw [World.cell?_alloc_at _ _ _ _ (by simp)]; rfl)
  have g1 : (w4.alloc (.cells #[.int .i64 hp, .int .i64 hq, .int .i64 hg] 27)).cell? ⟨w4.heap.size, 1, none⟩ = some (.int .i64 hq) := (by rw [World.cell?_alloc_at _ _ _ _ (by simp)]; rfl)
  have g2 : (w4.alloc (.cells #[.int .i64 hp, .int .i64 hq, .int .i64 hg] 27)).cell? ⟨w4.heap.size, 2, none⟩ = some (.int .i64 hg) := (by rw [World.cell?_alloc_at _ _ _ _ (by simp)]; rfl)
  have HW4 := Lib.hid (belT HW3.out (belA (o := .cells #[.int .i64 hp, .int .i64 hq, .int .i64 hg] 27) hb4))
  have hfe := fun h => ef_full (p := hp) (q := hq) (g := hg) (r := r) h
  have HI2 := Lib.hid (fun W => iElementFrom_any hp hq hg r W)
  have HS2 := Lib.hid (fun W => sElementFrom_any hp hq hg r W)
  have HE2 := Lib.hid (fun W x => iIsEl_any hp hq hg x W)
  have hs4 := hb4.size
  generalize elF hp hq hg r = L at hfe HI2 HS2
  obtain ⟨x, one⟩ := L
  simp only at hfe HI2 HS2
  have HFE := Lib.hid hfe
  clear hb4 HB3 HW3 hfe
  go_wp2_with fail
  refine (HI2.out _).mono ?_
  rintro e w5 ⟨rfl, hb5⟩
  have HW5 := Lib.hid (belT HW4.out hb5)
  replace f0 := keepB hb5 f0
  replace f1 := keepB hb5 f1
  replace f2 := keepB hb5 f2
  replace g0 := keepB hb5 g0
  replace g1 := keepB hb5 g1
  replace g2 := keepB hb5 g2
  replace I2 := Lib.hid (I2.out.below hb5)
  replace I3 := Lib.hid (I3.out.below hb5)
  have hs5 : w4.heap.size < w5.heap.size := by have := hb5.size; simp at this; omega
  clear hb5 HW4
  go_wp2_with fail
  refine (HS2.out _).mono ?_
  rintro e w6 ⟨rfl, hb6⟩
  have HW6 := Lib.hid (belT HW5.out hb6)
  replace f0 := keepB hb6 f0
  replace f1 := keepB hb6 f1
  replace f2 := keepB hb6 f2
  replace g0 := keepB hb6 g0
  replace g1 := keepB hb6 g1
  replace g2 := keepB hb6 g2
  replace I2 := Lib.hid (I2.out.below hb6)
  replace I3 := Lib.hid (I3.out.below hb6)
  have hs6 := hb6.size
  clear hb6 HW5
  have e0 : (ok != ok) = false := by simp
  have e1 : (one != one) = false := by simp
  have e2 : (x != x) = false := by simp
  have e3 : (goodB p q g != goodB p q g) = false := by simp
  go_wp2_with fail
  refine wp_region_held_drew (S := fun W => Below w6.heap.size w6 W) (by kernel_rfl) (belD (Below.refl _ _)) (fun hHeld => ?_)
  refine heldTake (i := 0) (v := ?_) (some 53) rfl rfl (by kernel_rfl) (by kernel_rfl) (by kernel_rfl) (fun _ _ _ h => h) (Or.inl ⟨by rfl, ?_⟩) (by assumption) ?_
  rotate_left
  · (intro W hSw; have q0 := keepB hSw f0; have q1 := keepB hSw f1; have q2 := keepB hSw f2; clear hSw; go_simp; all_goals first | with_reducible rfl | (simp [*]; done) | (intro hh; exfalso; omega) | fail)
  try simp only [Act.put, List.setIfInBounds_toArray, List.set_cons_zero, List.set_cons_succ]
  refine heldTake (i := 1) (v := ?_) (some 54) rfl rfl (by kernel_rfl) (by kernel_rfl) (by kernel_rfl) (fun _ _ _ h => h) (Or.inl ⟨by rfl, ?_⟩) (by assumption) ?_
  rotate_left
  · (intro W hSw; have q0 := keepB hSw f0; have q1 := keepB hSw f1; have q2 := keepB hSw f2; clear hSw; go_simp; all_goals first | with_reducible rfl | (simp [*]; done) | (intro hh; exfalso; omega) | fail)
  try simp only [Act.put, List.setIfInBounds_toArray, List.set_cons_zero, List.set_cons_succ]
  refine heldTake (i := 2) (v := .bool false) (some 55) rfl rfl (by kernel_rfl) (by kernel_rfl) (by kernel_rfl) (fun _ _ _ h => h) (Or.inl ⟨by rfl, ?_⟩) (by assumption) ?_
  · (intro W hSw; have q0 := keepB hSw f0; have q1 := keepB hSw f1; have q2 := keepB hSw f2; clear hSw; go_simp; all_goals first | with_reducible rfl | (simp [*]; done) | (intro hh; exfalso; omega) | fail)
  try simp only [Act.put, List.setIfInBounds_toArray, List.set_cons_zero, List.set_cons_succ]
  refine heldTake (i := 3) (v := ?_) (some 56) rfl rfl (by kernel_rfl) (by kernel_rfl) (by kernel_rfl) (fun _ _ _ h => h) (Or.inl ⟨by rfl, ?_⟩) (by assumption) ?_
  rotate_left
  · (intro W hSw; have q0 := keepB hSw f0; have q1 := keepB hSw f1; have q2 := keepB hSw f2; clear hSw; go_simp; all_goals first | with_reducible rfl | (simp [*]; done) | (intro hh; exfalso; omega) | fail)
  try simp only [Act.put, List.setIfInBounds_toArray, List.set_cons_zero, List.set_cons_succ]
  refine heldTake (i := 4) (v := ?_) (some 57) rfl rfl (by kernel_rfl) (by kernel_rfl) (by kernel_rfl) (fun _ _ _ h => h) (Or.inl ⟨by rfl, ?_⟩) (by assumption) ?_
  rotate_left
  · (intro W hSw; have q0 := keepB hSw f0; have q1 := keepB hSw f1; have q2 := keepB hSw f2; clear hSw; go_simp; all_goals first | with_reducible rfl | (simp [*]; done) | (intro hh; exfalso; omega) | fail)
  try simp only [Act.put, List.setIfInBounds_toArray, List.set_cons_zero, List.set_cons_succ]
  refine heldTake (i := 5) (v := ?_) (some 58) rfl rfl (by kernel_rfl) (by kernel_rfl) (by kernel_rfl) (fun _ _ _ h => h) (Or.inl ⟨by rfl, ?_⟩) (by assumption) ?_
  rotate_left
  · (intro W hSw; have q0 := keepB hSw f0; have q1 := keepB hSw f1; have q2 := keepB hSw f2; clear hSw; go_simp; all_goals first | with_reducible rfl | (simp [*]; done) | (intro hh; exfalso; omega) | fail)
  try simp only [Act.put, List.setIfInBounds_toArray, List.set_cons_zero, List.set_cons_succ]
  refine wpAnyH_ready (rs := [6]) (by kernel_rfl) (by simp) ?_
  refine AllReadyH.cons rfl (fun K hK => ?_) AllReadyH.nil
  go_simp
  (go_at_call 24; refine (qInts_any A2 A3 l.length d2 d3 l _ (I2.out.below hHeld) (I3.out.below hHeld)).mono ?_; rintro e w1 ⟨rfl, hb1⟩)
  have hNx := belT hHeld hb1
  refine hK.out _ _ hNx (fun hNew => ?_)
  clear hK K hHeld hNx
  have hHeld := hNew; clear hNew hb1
  try simp only [Act.put, List.setIfInBounds_toArray, List.set_cons_zero, List.set_cons_succ]
  refine heldTake (i := 7) (v := ?_) (some 60) rfl rfl (by kernel_rfl) (by kernel_rfl) (by kernel_rfl) (fun _ _ _ h => h) (Or.inl ⟨by rfl, ?_⟩) (by assumption) ?_
  rotate_left
  · (intro W hSw; have q0 := keepB hSw f0; have q1 := keepB hSw f1; have q2 := keepB hSw f2; clear hSw; go_simp; all_goals first | with_reducible rfl | (simp [*]; done) | (intro hh; exfalso; omega) | fail)
  try simp only [Act.put, List.setIfInBounds_toArray, List.set_cons_zero, List.set_cons_succ]
  refine heldTake (i := 8) (v := ?_) (some 61) rfl rfl (by kernel_rfl) (by kernel_rfl) (by kernel_rfl) (fun _ _ _ h => h) (Or.inl ⟨by rfl, ?_⟩) (by assumption) ?_
  rotate_left
  · (intro W hSw; have q0 := keepB hSw f0; have q1 := keepB hSw f1; have q2 := keepB hSw f2; clear hSw; go_simp; all_goals first | with_reducible rfl | (simp [*]; done) | (intro hh; exfalso; omega) | fail)
  try simp only [Act.put, List.setIfInBounds_toArray, List.set_cons_zero, List.set_cons_succ]
  refine heldTake (i := 9) (v := ?_) (some 62) rfl rfl (by kernel_rfl) (by kernel_rfl) (by kernel_rfl) (fun _ _ _ h => h) (Or.inl ⟨by rfl, ?_⟩) (by assumption) ?_
  rotate_left
  · (intro W hSw; have q0 := keepB hSw f0; have q1 := keepB hSw f1; have q2 := keepB hSw f2; clear hSw; go_simp; all_goals first | with_reducible rfl | (simp [*]; done) | (intro hh; exfalso; omega) | fail)
  try simp only [Act.put, List.setIfInBounds_toArray, List.set_cons_zero, List.set_cons_succ]
  refine heldTake (i := 10) (v := ?_) (some 63) rfl rfl (by kernel_rfl) (by kernel_rfl) (by kernel_rfl) (fun _ _ _ h => h) (Or.inl ⟨by rfl, ?_⟩) (by assumption) ?_
  rotate_left
  · (intro W hSw; have q0 := keepB hSw f0; have q1 := keepB hSw f1; have q2 := keepB hSw f2; clear hSw; go_simp; all_goals first | with_reducible rfl | (simp [*]; done) | (intro hh; exfalso; omega) | fail)
  try simp only [Act.put, List.setIfInBounds_toArray, List.set_cons_zero, List.set_cons_succ]
  refine heldTake (i := 11) (v := ?_) (some 64) rfl rfl (by kernel_rfl) (by kernel_rfl) (by kernel_rfl) (fun _ _ _ h => h) (Or.inl ⟨by rfl, ?_⟩) (by assumption) ?_
  rotate_left
  · (intro W hSw; have q0 := keepB hSw f0; have q1 := keepB hSw f1; have q2 := keepB hSw f2; clear hSw; go_simp; all_goals first | with_reducible rfl | (simp [*]; done) | (intro hh; exfalso; omega) | fail)
  try simp only [Act.put, List.setIfInBounds_toArray, List.set_cons_zero, List.set_cons_succ]
  refine heldTake (i := 12) (v := .bool false) (some 65) rfl rfl (by kernel_rfl) (by kernel_rfl) (by kernel_rfl) (fun _ _ _ h => h) (Or.inl ⟨by rfl, ?_⟩) (by assumption) ?_
  · (intro W hSw; have q0 := keepB hSw f0; have q1 := keepB hSw f1; have q2 := keepB hSw f2; clear hSw; go_simp; all_goals first | with_reducible rfl | (simp [*]; done) | (intro hh; exfalso; omega) | fail)
  try simp only [Act.put, List.setIfInBounds_toArray, List.set_cons_zero, List.set_cons_succ]
  refine heldTake (i := 13) (v := ?_) (some 66) rfl rfl (by kernel_rfl) (by kernel_rfl) (by kernel_rfl) (fun _ _ _ h => h) (Or.inl ⟨by rfl, ?_⟩) (by assumption) ?_
  rotate_left
  · (intro W hSw; have q0 := keepB hSw f0; have q1 := keepB hSw f1; have q2 := keepB hSw f2; clear hSw; go_simp; all_goals first | with_reducible rfl | (simp [*]; done) | (intro hh; exfalso; omega) | fail)
  try simp only [Act.put, List.setIfInBounds_toArray, List.set_cons_zero, List.set_cons_succ]
  refine heldTake (i := 14) (v := ?_) (some 67) rfl rfl (by kernel_rfl) (by kernel_rfl) (by kernel_rfl) (fun _ _ _ h => h) (Or.inl ⟨by rfl, ?_⟩) (by assumption) ?_
  rotate_left
  · (intro W hSw; have q0 := keepB hSw f0; have q1 := keepB hSw f1; have q2 := keepB hSw f2; clear hSw; go_simp; all_goals first | with_reducible rfl | (simp [*]; done) | (intro hh; exfalso; omega) | fail)
  try simp only [Act.put, List.setIfInBounds_toArray, List.set_cons_zero, List.set_cons_succ]
  refine heldTake (i := 15) (v := ?_) (some 68) rfl rfl (by kernel_rfl) (by kernel_rfl) (by kernel_rfl) (fun _ _ _ h => h) (Or.inl ⟨by rfl, ?_⟩) (by assumption) ?_
  rotate_left
  · (intro W hSw; have q0 := keepB hSw f0; have q1 := keepB hSw f1; have q2 := keepB hSw f2; clear hSw; go_simp; all_goals first | with_reducible rfl | (simp [*]; done) | (intro hh; exfalso; omega) | fail)
  try simp only [Act.put, List.setIfInBounds_toArray, List.set_cons_zero, List.set_cons_succ]
  refine heldTake (i := 16) (v := ?_) (some 69) rfl rfl (by kernel_rfl) (by kernel_rfl) (by kernel_rfl) (fun _ _ _ h => h) (Or.inl ⟨by rfl, ?_⟩) (by assumption) ?_
  rotate_left
  · (intro W hSw; have q0 := keepB hSw f0; have q1 := keepB hSw f1; have q2 := keepB hSw f2; clear hSw; go_simp; all_goals first | with_reducible rfl | (simp [*]; done) | (intro hh; exfalso; omega) | fail)
  try simp only [Act.put, List.setIfInBounds_toArray, List.set_cons_zero, List.set_cons_succ]
  refine heldTake (i := 17) (v := .bool false) (some 70) rfl rfl (by kernel_rfl) (by kernel_rfl) (by kernel_rfl) (fun _ _ _ h => h) (Or.inl ⟨by rfl, ?_⟩) (by assumption) ?_
  · (intro W hSw; have q0 := keepB hSw f0; have q1 := keepB hSw f1; have q2 := keepB hSw f2; clear hSw; go_simp; all_goals first | with_reducible rfl | (simp [*]; done) | (intro hh; exfalso; omega) | fail)
  try simp only [Act.put, List.setIfInBounds_toArray, List.set_cons_zero, List.set_cons_succ]
  refine heldTake (i := 18) (v := ?_) (some 71) rfl rfl (by kernel_rfl) (by kernel_rfl) (by kernel_rfl) (fun _ _ _ h => h) (Or.inl ⟨by rfl, ?_⟩) (by assumption) ?_
  rotate_left
  · (intro W hSw; have q0 := keepB hSw f0; have q1 := keepB hSw f1; have q2 := keepB hSw f2; clear hSw; go_simp; all_goals first | with_reducible rfl | (simp [*]; done) | (intro hh; exfalso; omega) | fail)
  try simp only [Act.put, List.setIfInBounds_toArray, List.set_cons_zero, List.set_cons_succ]
  refine heldTake (i := 19) (v := ?_) (some 72) rfl rfl (by kernel_rfl) (by kernel_rfl) (by kernel_rfl) (fun _ _ _ h => h) (Or.inl ⟨by rfl, ?_⟩) (by assumption) ?_
  rotate_left
  · (intro W hSw; have q0 := keepB hSw f0; have q1 := keepB hSw f1; have q2 := keepB hSw f2; clear hSw; go_simp; all_goals first | with_reducible rfl | (simp [*]; done) | (intro hh; exfalso; omega) | fail)
  try simp only [Act.put, List.setIfInBounds_toArray, List.set_cons_zero, List.set_cons_succ]
  refine heldTake (i := 20) (v := ?_) (some 73) rfl rfl (by kernel_rfl) (by kernel_rfl) (by kernel_rfl) (fun _ _ _ h => h) (Or.inl ⟨by rfl, ?_⟩) (by assumption) ?_
  rotate_left
  · (intro W hSw; have q0 := keepB hSw f0; have q1 := keepB hSw f1; have q2 := keepB hSw f2; clear hSw; go_simp; all_goals first | with_reducible rfl | (simp [*]; done) | (intro hh; exfalso; omega) | fail)
  try simp only [Act.put, List.setIfInBounds_toArray, List.set_cons_zero, List.set_cons_succ]
  refine heldTake (i := 22) (v := ?_) (some 75) rfl rfl (by kernel_rfl) (by kernel_rfl) (by kernel_rfl) (fun _ _ _ h => h) (Or.inl ⟨by rfl, ?_⟩) (by assumption) ?_
  rotate_left
  · (intro W hSw; have q0 := keepB hSw f0; have q1 := keepB hSw f1; have q2 := keepB hSw f2; clear hSw; go_simp; all_goals first | with_reducible rfl | (simp [*]; done) | (intro hh; exfalso; omega) | fail)
  try simp only [Act.put, List.setIfInBounds_toArray, List.set_cons_zero, List.set_cons_succ]
  refine wpAnyH_ready (rs := [21]) (by kernel_rfl) (by simp) ?_
  refine AllReadyH.cons rfl (fun K hK => ?_) AllReadyH.nil
  go_simp
  (go_at_call 25; refine (IsValidGroup_any p q g _).mono ?_; rintro e w1 ⟨rfl, hb1⟩)
  have hNx := belT hHeld hb1
  refine hK.out _ _ hNx (fun hNew => ?_)
  clear hK K hHeld hNx
  have hHeld := hNew; clear hNew hb1
  try simp only [Act.put, List.setIfInBounds_toArray, List.set_cons_zero, List.set_cons_succ]
  refine wpAnyH_ready (rs := [23]) (by kernel_rfl) (by simp) ?_
  refine AllReadyH.cons rfl (fun K hK => ?_) AllReadyH.nil
  go_simp
  (go_at_call 26; refine (sIsValidGroup_any p q g _).mono ?_; rintro e w1 ⟨rfl, hb1⟩)
  have hNx := belT hHeld hb1
  refine hK.out _ _ hNx (fun hNew => ?_)
  clear hK K hHeld hNx
  have hHeld := hNew; clear hNew hb1
  try simp only [Act.put, List.setIfInBounds_toArray, List.set_cons_zero, List.set_cons_succ]
  refine heldTake (i := 24) (v := .bool false) (some 77) rfl rfl (by kernel_rfl) (by kernel_rfl) (by kernel_rfl) (fun _ _ _ h => h) (Or.inl ⟨by rfl, ?_⟩) (by assumption) ?_
  · (intro W hSw; have q0 := keepB hSw f0; have q1 := keepB hSw f1; have q2 := keepB hSw f2; clear hSw; go_simp; all_goals first | with_reducible rfl | (simp [*]; done) | (intro hh; exfalso; omega) | fail)
  try simp only [Act.put, List.setIfInBounds_toArray, List.set_cons_zero, List.set_cons_succ]
  refine heldTake (i := 25) (v := ?_) (some 78) rfl rfl (by kernel_rfl) (by kernel_rfl) (by kernel_rfl) (fun _ _ _ h => h) (Or.inl ⟨by rfl, ?_⟩) (by assumption) ?_
  rotate_left
  · (intro W hSw; have q0 := keepB hSw f0; have q1 := keepB hSw f1; have q2 := keepB hSw f2; clear hSw; go_simp; all_goals first | with_reducible rfl | (simp [*]; done) | (intro hh; exfalso; omega) | fail)
  try simp only [Act.put, List.setIfInBounds_toArray, List.set_cons_zero, List.set_cons_succ]
  refine wpAnyH_done (by kernel_rfl) ?_ _
  have HH := Lib.hid hHeld
  replace f1 := keepB hHeld f1
  replace g0 := keepB hHeld g0
  replace g1 := keepB hHeld g1
  replace g2 := keepB hHeld g2
  have HW7 := Lib.hid (belT HW6.out hHeld)
  have hs7 := hHeld.size
  clear hHeld f0 f2 e3
  cases one
  · cases ok
    · go_wp2
      go_ret
      exact ⟨rfl, HW7.out⟩
    · have hl := HF.out rfl
      have HL : Hid (((l.length : Int) == q) = true) := Lib.hid (by simp [hl])
      clear hl
      go_wp2
      go_ret
      exact ⟨ret_bool (by first | exact HL.out | rw [HL.out] | (simpa using HL.out)), HW7.out⟩
  · have he := HFE.out rfl
    go_wp2_with fail
    refine (HE2.out _ x).mono ?_
    rintro e w8 ⟨rfl, hb8⟩
    rw [he]
    replace f1 := keepB hb8 f1
    have HW8 := Lib.hid (belT HW7.out hb8)
    have hs8 := hb8.size
    clear hb8 he
    simp only
    cases ok
    · go_wp2
      go_ret
      exact ⟨rfl, HW8.out⟩
    · have hl := HF.out rfl
      have HL : Hid (((l.length : Int) == q) = true) := Lib.hid (by simp [hl])
      clear hl
      go_wp2
      go_ret
      exact ⟨ret_bool (by first | exact HL.out | rw [HL.out] | (simpa using HL.out)), HW8.out⟩

set_option maxRecDepth 100000 in
theorem lifted_FnTinyGroups (os : Os) (started : os.Started) (H : Type) (enc : TypeId × Value → H) :
    ReturnsInHanded {} Try.checked os 4 .any (Rows.fnTinyGroupsSpec.pre6 enc Try.prog Try.f4 Rows.fnTinyGroupsRow.domain false) (Rows.fnTinyGroupsSpec.post enc Try.prog Try.f4 false true false false) := by
  refine returnsInHanded_of_change (C := Try.checked) own started (by kernel_rfl) Try.func4
    (ChangeSpec.witness6 (enc := enc) (C := Try.checked) false ⟨#[], #[.slice none 0 0, .slice none 0 0], []⟩ 8 (by kernel_rfl) (by kernel_rfl) (by kernel_rfl) (by kernel_rfl)) ?_
  intro W base args ds gs before hval0 hW hcnd _
  have hval : ∀ (j : Nat) t v, Try.f4.params[j]? = some t → args[j]? = some v → Value.okWide Try.prog W .any base t v := hval0
  have hW' := hW
  obtain ⟨p, q, hA0, hV, rfl, hfz, hnd⟩ := hW
  have hA : DataW.TrodAll enc Try.prog W 0 (fun _ => true) true Try.f4.params.toList args.toList ds p := hA0
  rw [Try.params4] at hA hval
  obtain ⟨v0, vs0, d0, ds0, p0, q0, hargs, rfl, rfl, h0, r0⟩ := trodAll_cons hA
  obtain ⟨v1, vs1, d1, ds1, p1, q1, rfl, rfl, rfl, h1, r1⟩ := trodAll_cons r0
  obtain ⟨rfl, rfl, rfl⟩ := trodAll_nil r1
  obtain rfl : args = #[v0, v1] := by cases args; simp_all
  obtain ⟨rfl, rfl⟩ := trodVars_none hV
  have k0 := h0
  have lt0 : ∀ x ∈ p0, x.block < W.heap.size := by obtain ⟨m, hm⟩ := k0; exact DataW.trod_lt m _ _ _ hm
  obtain ⟨a0, len0, cap0, rfl⟩ := okWide_slice Try.underlying32 (hval 0 32 v0 rfl rfl)
  obtain ⟨z0, w0⟩ : ∃ zs, IsRow .u8 W a0 len0 cap0 zs := by
    obtain ⟨fuel, hf⟩ := h0
    rcases open_ints Try.underlying32 Try.underlying5 (by kernel_rfl) hf with ⟨hcs, _⟩ | ⟨x, l, c, zs, hcs, _, hl, hm, hz, _, hcell, hwz⟩
    · simp [Value.cells] at hcs
      obtain ⟨rfl, rfl, rfl⟩ := hcs
      exact ⟨[], .inl ⟨rfl, rfl, rfl, rfl⟩⟩
    · simp [Value.cells] at hcs
      obtain ⟨rfl, rfl, rfl⟩ := hcs
      exact ⟨zs, .inr ⟨_, rfl, hl, hm, by simpa using hz, hcell, hwz⟩⟩
  have k1 := h1
  have lt1 : ∀ x ∈ p1, x.block < W.heap.size := by obtain ⟨m, hm⟩ := k1; exact DataW.trod_lt m _ _ _ hm
  obtain ⟨a1, len1, cap1, rfl⟩ := okWide_slice Try.underlying32 (hval 1 32 v1 rfl rfl)
  obtain ⟨z1, w1⟩ : ∃ zs, IsRow .u8 W a1 len1 cap1 zs := by
    obtain ⟨fuel, hf⟩ := h1
    rcases open_ints Try.underlying32 Try.underlying5 (by kernel_rfl) hf with ⟨hcs, _⟩ | ⟨x, l, c, zs, hcs, _, hl, hm, hz, _, hcell, hwz⟩
    · simp [Value.cells] at hcs
      obtain ⟨rfl, rfl, rfl⟩ := hcs
      exact ⟨[], .inl ⟨rfl, rfl, rfl, rfl⟩⟩
    · simp [Value.cells] at hcs
      obtain ⟨rfl, rfl, rfl⟩ := hcs
      exact ⟨zs, .inr ⟨_, rfl, hl, hm, by simpa using hz, hcell, hwz⟩⟩
  clear hA0 hval0
  refine (walk_FnTinyGroups (w := W) a0 len0 cap0 z0 w0 a1 len1 cap1 z1 w1).mono fun e W' ⟨he, bel⟩ => ?_
  subst he
  exact ⟨_, rfl, _, _, _, [], _, [], hW', trodAll_mk1 (shut_bool Try.underlying4 _), (trodAll_cons_mk (Below.trod laidOut (by kernel_rfl) (of_decide_eq_true (by kernel_rfl)) k0 bel lt0) (trodAll_cons_mk (Below.trod laidOut (by kernel_rfl) (of_decide_eq_true (by kernel_rfl)) k1 bel lt1) trodAll_mk0)), rfl, bel.frame _, fun h => by cases h⟩

theorem over_FnTinyGroups : Rows.fnTinyGroupsRow.holds Try.pinned (OpenSpec.ofChange Rows.fnTinyGroupsSpec) :=
  OpenClaim.holds_of_wide 4 Try.f4 rfl rfl rfl rfl rfl rfl rfl ⟨rfl, rfl, rfl, rfl, rfl⟩ rfl rfl rfl rfl rfl (by kernel_rfl) Try.func4 (by kernel_rfl)
    (of_decide_eq_true (by kernel_rfl)) (by unfold Func.isWrapper; first | (rw [if_pos (by decide +kernel)]; kernel_rfl) | (rw [if_neg (by decide +kernel)]; exact ⟨rfl, rfl⟩))
    (fun os started H enc _ => lifted_FnTinyGroups os started H enc)

theorem proved_FnTinyGroups : Rows.FnTinyGroupsSaid := over_FnTinyGroups
#print axioms proved_FnTinyGroups
end Go.Proofs.Yteeggmnkcgpfjaa
