/- Contracts: a linear statement's proof is verified, on both sides. -/
import Derived.Test.YteeggmnkcgpfjaaVkA
import Derived.Test.YteeggmnkcgpfjaaPf
import Derived.Deep.RegionHeld3
import Derived.Deep.DrawnRows
namespace Go.Proofs.Yteeggmnkcgpfjaa
open Go.RowKit
set_option linter.unusedVariables false
attribute [local go_sem ↓] Go.wp_at_zero Go.wp_at_succ
set_option linter.unusedSimpArgs false

set_option maxRecDepth 100000 in
set_option maxHeartbeats 4000000 in
theorem verifyLinear_0 (p q g : Int) (s : ByteArray) (R : Option Addr) (r rc : Nat) (bs : List (Option Addr × Nat × List Int)) (A : Option Addr) (n c : Nat) (im : List Int) (A1 A2 A3 : Option Addr) (c1 c2 c3 : Nat) (C H Z : List Int) (w : World)
    (hg : goodB p q g = true) (hs : s.size ≤ 40) (h : Grid w R r bs) (hsb : sbB p q bs = true) (hi : Ints w A n im) (hn : n = r) (him : im.all (hasB p q) = true) (h1 : Ints w A1 C.length C) (h2 : Ints w A2 H.length H) (h3 : Ints w A3 Z.length Z) (t1 : C.length ≠ r) :
    Calls Try.prog 152 #[.agg #[.int .i64 p, .int .i64 q, .int .i64 g], .string s, .slice R r rc, .slice A n c, .agg #[.slice A1 C.length c1, .slice A2 H.length c2, .slice A3 Z.length c3]] w fun e w' => e = .returned (.bool (false)) ∧ Below w.heap.size w w' := by
  have hl := h.len
  subst hl
  subst hn
  obtain ⟨g1, g2, g3, g4, g5, g6⟩ := good_om hg
  have hsv := SB.of hsb
  have HSB := Lib.hid hsv
  obtain ⟨s1, s2, s3, s4, s5⟩ := hsv
  have hlc := h1.le
  have hlh := h2.le
  have hlz := h3.le
  obtain ⟨b, off, eR, hgb, hr0, hrow0⟩ := h.at_ (show 0 < bs.length by omega)
  rw [Nat.add_zero] at hr0
  have hlr := hrow0.le
  have e0 : (bs.getD 0 dRow).2.2 = rowK bs 0 := rfl
  rw [e0] at hr0 hlr
  subst eR
  have hpos : (0 : Int) < (bs.length : Int) := by omega
  have hposn : 0 < bs.length := by omega
  have hb0 : Below w.heap.size w ((w.alloc (.cells #[.int .i64 p, .int .i64 q, .int .i64 g] 27)).alloc (.cells #[.slice A1 C.length c1, .slice A2 H.length c2, .slice A3 Z.length c3] 52)) := belA (belA (Below.refl _ _))
  have HI := Lib.hid (h.below hb0)
  have HM := Lib.hid (hi.below hb0)
  have HC := Lib.hid (h1.below hb0)
  have HH := Lib.hid (h2.below hb0)
  have HZ := Lib.hid (h3.below hb0)
  have hz1 : w.heap.size + 1 < ((w.alloc (.cells #[.int .i64 p, .int .i64 q, .int .i64 g] 27)).alloc (.cells #[.slice A1 C.length c1, .slice A2 H.length c2, .slice A3 Z.length c3] 52)).heap.size := by simp
  have f0 : ((w.alloc (.cells #[.int .i64 p, .int .i64 q, .int .i64 g] 27)).alloc (.cells #[.slice A1 C.length c1, .slice A2 H.length c2, .slice A3 Z.length c3] 52)).cell? ⟨w.heap.size, 0, none⟩ = some (.int .i64 p) := by rw [World.cell?_alloc_past _ _ _ (by simp <;> omega), World.cell?_alloc_at _ _ _ _ (by simp)]; rfl
  have f1 : ((w.alloc (.cells #[.int .i64 p, .int .i64 q, .int .i64 g] 27)).alloc (.cells #[.slice A1 C.length c1, .slice A2 H.length c2, .slice A3 Z.length c3] 52)).cell? ⟨w.heap.size, 1, none⟩ = some (.int .i64 q) := by rw [World.cell?_alloc_past _ _ _ (by simp <;> omega), World.cell?_alloc_at _ _ _ _ (by simp)]; rfl
  have f2 : ((w.alloc (.cells #[.int .i64 p, .int .i64 q, .int .i64 g] 27)).alloc (.cells #[.slice A1 C.length c1, .slice A2 H.length c2, .slice A3 Z.length c3] 52)).cell? ⟨w.heap.size, 2, none⟩ = some (.int .i64 g) := by rw [World.cell?_alloc_past _ _ _ (by simp <;> omega), World.cell?_alloc_at _ _ _ _ (by simp)]; rfl
  have d0 : ((w.alloc (.cells #[.int .i64 p, .int .i64 q, .int .i64 g] 27)).alloc (.cells #[.slice A1 C.length c1, .slice A2 H.length c2, .slice A3 Z.length c3] 52)).cell? ⟨w.heap.size + 1, 0, none⟩ = some (.slice A1 C.length c1) := by rw [World.cell?_alloc_at _ _ _ _ (by simp)]; rfl
  have d1 : ((w.alloc (.cells #[.int .i64 p, .int .i64 q, .int .i64 g] 27)).alloc (.cells #[.slice A1 C.length c1, .slice A2 H.length c2, .slice A3 Z.length c3] 52)).cell? ⟨w.heap.size + 1, 1, none⟩ = some (.slice A2 H.length c2) := by rw [World.cell?_alloc_at _ _ _ _ (by simp)]; rfl
  have d2 : ((w.alloc (.cells #[.int .i64 p, .int .i64 q, .int .i64 g] 27)).alloc (.cells #[.slice A1 C.length c1, .slice A2 H.length c2, .slice A3 Z.length c3] 52)).cell? ⟨w.heap.size + 1, 2, none⟩ = some (.slice A3 Z.length c3) := by rw [World.cell?_alloc_at _ _ _ _ (by simp)]; rfl
  replace hr0 := keepB hb0 hr0
  clear h hi h1 h2 h3 hrow0 e0 s5 hsb
  have x1 : ((C.length : Int) != (bs.length : Int)) = true := by simp; omega
  have HT1 := Lib.hid t1
  clear t1
  go_enter Try.func152, Try.ntmps152
  go_wp2
  generalize hW0 : ((w.alloc (.cells #[.int .i64 p, .int .i64 q, .int .i64 g] 27)).alloc (.cells #[.slice A1 C.length c1, .slice A2 H.length c2, .slice A3 Z.length c3] 52)) = W0 at f0 f1 f2 d0 d1 d2 hr0 hz1 hb0 HI HM HC HH HZ
  clear hW0
  refine wp_region_held_drew (S := fun W => Below W0.heap.size W0 W) (by kernel_rfl) (belD (Below.refl _ _)) (fun hHeld => ?_)
  refine heldTake (i := 0) (v := ?_) (some 15) rfl rfl (by kernel_rfl) (by kernel_rfl) (by kernel_rfl) (fun _ _ _ h => h) (Or.inl ⟨by rfl, ?_⟩) (by assumption) ?_
  rotate_left
  · (intro W hSw; have q0 := keepB hSw f0; have q1 := keepB hSw f1; have q2 := keepB hSw f2; have q3 := keepB hSw d0; have q4 := keepB hSw d1; have q5 := keepB hSw d2; have q6 := keepB hSw hr0; clear hSw; go_simp; all_goals first | with_reducible rfl | (simp [*]; done) | (intro hh; exfalso; omega) | fail)
  try simp only [Act.put, List.setIfInBounds_toArray, List.set_cons_zero, List.set_cons_succ]
  refine heldTake (i := 1) (v := ?_) (some 16) rfl rfl (by kernel_rfl) (by kernel_rfl) (by kernel_rfl) (fun _ _ _ h => h) (Or.inl ⟨by rfl, ?_⟩) (by assumption) ?_
  rotate_left
  · (intro W hSw; have q0 := keepB hSw f0; have q1 := keepB hSw f1; have q2 := keepB hSw f2; have q3 := keepB hSw d0; have q4 := keepB hSw d1; have q5 := keepB hSw d2; have q6 := keepB hSw hr0; clear hSw; go_simp; all_goals first | with_reducible rfl | (simp [*]; done) | (intro hh; exfalso; omega) | fail)
  try simp only [Act.put, List.setIfInBounds_toArray, List.set_cons_zero, List.set_cons_succ]
  refine heldTake (i := 2) (v := ?_) (some 17) rfl rfl (by kernel_rfl) (by kernel_rfl) (by kernel_rfl) (fun _ _ _ h => h) (Or.inl ⟨by rfl, ?_⟩) (by assumption) ?_
  rotate_left
  · (intro W hSw; have q0 := keepB hSw f0; have q1 := keepB hSw f1; have q2 := keepB hSw f2; have q3 := keepB hSw d0; have q4 := keepB hSw d1; have q5 := keepB hSw d2; have q6 := keepB hSw hr0; clear hSw; go_simp; all_goals first | with_reducible rfl | (simp [*]; done) | (intro hh; exfalso; omega) | fail)
  try simp only [Act.put, List.setIfInBounds_toArray, List.set_cons_zero, List.set_cons_succ]
  refine heldTake (i := 3) (v := ?_) (some 18) rfl rfl (by kernel_rfl) (by kernel_rfl) (by kernel_rfl) (fun _ _ _ h => h) (Or.inl ⟨by rfl, ?_⟩) (by assumption) ?_
  rotate_left
  · (intro W hSw; have q0 := keepB hSw f0; have q1 := keepB hSw f1; have q2 := keepB hSw f2; have q3 := keepB hSw d0; have q4 := keepB hSw d1; have q5 := keepB hSw d2; have q6 := keepB hSw hr0; clear hSw; go_simp; all_goals first | with_reducible rfl | (simp [*]; done) | (intro hh; exfalso; omega) | fail)
  try simp only [Act.put, List.setIfInBounds_toArray, List.set_cons_zero, List.set_cons_succ]
  refine heldTake (i := 4) (v := ?_) (some 19) rfl rfl (by kernel_rfl) (by kernel_rfl) (by kernel_rfl) (fun _ _ _ h => h) (Or.inl ⟨by rfl, ?_⟩) (by assumption) ?_
  rotate_left
  · (intro W hSw; have q0 := keepB hSw f0; have q1 := keepB hSw f1; have q2 := keepB hSw f2; have q3 := keepB hSw d0; have q4 := keepB hSw d1; have q5 := keepB hSw d2; have q6 := keepB hSw hr0; clear hSw; go_simp; all_goals first | with_reducible rfl | (simp [*]; done) | (intro hh; exfalso; omega) | fail)
  try simp only [Act.put, List.setIfInBounds_toArray, List.set_cons_zero, List.set_cons_succ]
  refine heldTake (i := 5) (v := ?_) (some 20) rfl rfl (by kernel_rfl) (by kernel_rfl) (by kernel_rfl) (fun _ _ _ h => h) (Or.inl ⟨by rfl, ?_⟩) (by assumption) ?_
  rotate_left
  · (intro W hSw; have q0 := keepB hSw f0; have q1 := keepB hSw f1; have q2 := keepB hSw f2; have q3 := keepB hSw d0; have q4 := keepB hSw d1; have q5 := keepB hSw d2; have q6 := keepB hSw hr0; clear hSw; go_simp; all_goals first | with_reducible rfl | (simp [*]; done) | (intro hh; exfalso; omega) | fail)
  try simp only [Act.put, List.setIfInBounds_toArray, List.set_cons_zero, List.set_cons_succ]
  refine heldTake (i := 6) (v := ?_) (some 21) rfl rfl (by kernel_rfl) (by kernel_rfl) (by kernel_rfl) (fun _ _ _ h => h) (Or.inl ⟨by rfl, ?_⟩) (by assumption) ?_
  rotate_left
  · (intro W hSw; have q0 := keepB hSw f0; have q1 := keepB hSw f1; have q2 := keepB hSw f2; have q3 := keepB hSw d0; have q4 := keepB hSw d1; have q5 := keepB hSw d2; have q6 := keepB hSw hr0; clear hSw; go_simp; all_goals first | with_reducible rfl | (simp [*]; done) | (intro hh; exfalso; omega) | fail)
  try simp only [Act.put, List.setIfInBounds_toArray, List.set_cons_zero, List.set_cons_succ]
  refine heldTake (i := 7) (v := undef) (some 22) rfl rfl (by kernel_rfl) (by kernel_rfl) (by kernel_rfl) (fun _ _ _ h => h) (Or.inr ⟨by rfl, rfl⟩) (by assumption) ?_
  try simp only [Act.put, List.setIfInBounds_toArray, List.set_cons_zero, List.set_cons_succ]
  refine heldTake (i := 8) (v := undef) (some 23) rfl rfl (by kernel_rfl) (by kernel_rfl) (by kernel_rfl) (fun _ _ _ h => h) (Or.inr ⟨by rfl, rfl⟩) (by assumption) ?_
  try simp only [Act.put, List.setIfInBounds_toArray, List.set_cons_zero, List.set_cons_succ]
  refine heldTake (i := 9) (v := undef) (some 24) rfl rfl (by kernel_rfl) (by kernel_rfl) (by kernel_rfl) (fun _ _ _ h => h) (Or.inr ⟨by rfl, rfl⟩) (by assumption) ?_
  try simp only [Act.put, List.setIfInBounds_toArray, List.set_cons_zero, List.set_cons_succ]
  refine heldTake (i := 10) (v := undef) (some 25) rfl rfl (by kernel_rfl) (by kernel_rfl) (by kernel_rfl) (fun _ _ _ h => h) (Or.inr ⟨by rfl, rfl⟩) (by assumption) ?_
  try simp only [Act.put, List.setIfInBounds_toArray, List.set_cons_zero, List.set_cons_succ]
  refine heldTake (i := 11) (v := ?_) (some 26) rfl rfl (by kernel_rfl) (by kernel_rfl) (by kernel_rfl) (fun _ _ _ h => h) (Or.inl ⟨by rfl, ?_⟩) (by assumption) ?_
  rotate_left
  · (intro W hSw; have q0 := keepB hSw f0; have q1 := keepB hSw f1; have q2 := keepB hSw f2; have q3 := keepB hSw d0; have q4 := keepB hSw d1; have q5 := keepB hSw d2; have q6 := keepB hSw hr0; clear hSw; go_simp; all_goals first | with_reducible rfl | (simp [*]; done) | (intro hh; exfalso; omega) | fail)
  try simp only [Act.put, List.setIfInBounds_toArray, List.set_cons_zero, List.set_cons_succ]
  refine heldTake (i := 12) (v := ?_) (some 27) rfl rfl (by kernel_rfl) (by kernel_rfl) (by kernel_rfl) (fun _ _ _ h => h) (Or.inl ⟨by rfl, ?_⟩) (by assumption) ?_
  rotate_left
  · (intro W hSw; have q0 := keepB hSw f0; have q1 := keepB hSw f1; have q2 := keepB hSw f2; have q3 := keepB hSw d0; have q4 := keepB hSw d1; have q5 := keepB hSw d2; have q6 := keepB hSw hr0; clear hSw; go_simp; all_goals first | with_reducible rfl | (simp [*]; done) | (intro hh; exfalso; omega) | fail)
  try simp only [Act.put, List.setIfInBounds_toArray, List.set_cons_zero, List.set_cons_succ]
  refine heldTake (i := 13) (v := undef) (some 28) rfl rfl (by kernel_rfl) (by kernel_rfl) (by kernel_rfl) (fun _ _ _ h => h) (Or.inr ⟨by rfl, rfl⟩) (by assumption) ?_
  try simp only [Act.put, List.setIfInBounds_toArray, List.set_cons_zero, List.set_cons_succ]
  refine heldTake (i := 14) (v := undef) (some 29) rfl rfl (by kernel_rfl) (by kernel_rfl) (by kernel_rfl) (fun _ _ _ h => h) (Or.inr ⟨by rfl, rfl⟩) (by assumption) ?_
  try simp only [Act.put, List.setIfInBounds_toArray, List.set_cons_zero, List.set_cons_succ]
  refine heldTake (i := 15) (v := undef) (some 30) rfl rfl (by kernel_rfl) (by kernel_rfl) (by kernel_rfl) (fun _ _ _ h => h) (Or.inr ⟨by rfl, rfl⟩) (by assumption) ?_
  try simp only [Act.put, List.setIfInBounds_toArray, List.set_cons_zero, List.set_cons_succ]
  refine heldTake (i := 16) (v := undef) (some 31) rfl rfl (by kernel_rfl) (by kernel_rfl) (by kernel_rfl) (fun _ _ _ h => h) (Or.inr ⟨by rfl, rfl⟩) (by assumption) ?_
  try simp only [Act.put, List.setIfInBounds_toArray, List.set_cons_zero, List.set_cons_succ]
  refine heldTake (i := 17) (v := undef) (some 32) rfl rfl (by kernel_rfl) (by kernel_rfl) (by kernel_rfl) (fun _ _ _ h => h) (Or.inr ⟨by rfl, rfl⟩) (by assumption) ?_
  try simp only [Act.put, List.setIfInBounds_toArray, List.set_cons_zero, List.set_cons_succ]
  refine heldTake (i := 18) (v := undef) (some 33) rfl rfl (by kernel_rfl) (by kernel_rfl) (by kernel_rfl) (fun _ _ _ h => h) (Or.inr ⟨by rfl, rfl⟩) (by assumption) ?_
  try simp only [Act.put, List.setIfInBounds_toArray, List.set_cons_zero, List.set_cons_succ]
  refine heldTake (i := 19) (v := undef) (some 34) rfl rfl (by kernel_rfl) (by kernel_rfl) (by kernel_rfl) (fun _ _ _ h => h) (Or.inr ⟨by rfl, rfl⟩) (by assumption) ?_
  try simp only [Act.put, List.setIfInBounds_toArray, List.set_cons_zero, List.set_cons_succ]
  refine heldTake (i := 20) (v := undef) (some 35) rfl rfl (by kernel_rfl) (by kernel_rfl) (by kernel_rfl) (fun _ _ _ h => h) (Or.inr ⟨by rfl, rfl⟩) (by assumption) ?_
  try simp only [Act.put, List.setIfInBounds_toArray, List.set_cons_zero, List.set_cons_succ]
  refine heldTake (i := 21) (v := ?_) (some 36) rfl rfl (by kernel_rfl) (by kernel_rfl) (by kernel_rfl) (fun _ _ _ h => h) (Or.inl ⟨by rfl, ?_⟩) (by assumption) ?_
  rotate_left
  · (intro W hSw; have q0 := keepB hSw f0; have q1 := keepB hSw f1; have q2 := keepB hSw f2; have q3 := keepB hSw d0; have q4 := keepB hSw d1; have q5 := keepB hSw d2; have q6 := keepB hSw hr0; clear hSw; go_simp; all_goals first | with_reducible rfl | (simp [*]; done) | (intro hh; exfalso; omega) | fail)
  try simp only [Act.put, List.setIfInBounds_toArray, List.set_cons_zero, List.set_cons_succ]
  refine heldTake (i := 22) (v := ?_) (some 37) rfl rfl (by kernel_rfl) (by kernel_rfl) (by kernel_rfl) (fun _ _ _ h => h) (Or.inl ⟨by rfl, ?_⟩) (by assumption) ?_
  rotate_left
  · (intro W hSw; have q0 := keepB hSw f0; have q1 := keepB hSw f1; have q2 := keepB hSw f2; have q3 := keepB hSw d0; have q4 := keepB hSw d1; have q5 := keepB hSw d2; have q6 := keepB hSw hr0; clear hSw; go_simp; all_goals first | with_reducible rfl | (simp [*]; done) | (intro hh; exfalso; omega) | fail)
  try simp only [Act.put, List.setIfInBounds_toArray, List.set_cons_zero, List.set_cons_succ]
  refine heldTake (i := 23) (v := undef) (some 38) rfl rfl (by kernel_rfl) (by kernel_rfl) (by kernel_rfl) (fun _ _ _ h => h) (Or.inr ⟨by rfl, rfl⟩) (by assumption) ?_
  try simp only [Act.put, List.setIfInBounds_toArray, List.set_cons_zero, List.set_cons_succ]
  refine heldTake (i := 24) (v := undef) (some 39) rfl rfl (by kernel_rfl) (by kernel_rfl) (by kernel_rfl) (fun _ _ _ h => h) (Or.inr ⟨by rfl, rfl⟩) (by assumption) ?_
  try simp only [Act.put, List.setIfInBounds_toArray, List.set_cons_zero, List.set_cons_succ]
  refine heldTake (i := 25) (v := undef) (some 40) rfl rfl (by kernel_rfl) (by kernel_rfl) (by kernel_rfl) (fun _ _ _ h => h) (Or.inr ⟨by rfl, rfl⟩) (by assumption) ?_
  try simp only [Act.put, List.setIfInBounds_toArray, List.set_cons_zero, List.set_cons_succ]
  refine heldTake (i := 26) (v := undef) (some 41) rfl rfl (by kernel_rfl) (by kernel_rfl) (by kernel_rfl) (fun _ _ _ h => h) (Or.inr ⟨by rfl, rfl⟩) (by assumption) ?_
  try simp only [Act.put, List.setIfInBounds_toArray, List.set_cons_zero, List.set_cons_succ]
  refine heldTake (i := 27) (v := undef) (some 42) rfl rfl (by kernel_rfl) (by kernel_rfl) (by kernel_rfl) (fun _ _ _ h => h) (Or.inr ⟨by rfl, rfl⟩) (by assumption) ?_
  try simp only [Act.put, List.setIfInBounds_toArray, List.set_cons_zero, List.set_cons_succ]
  refine heldTake (i := 28) (v := ?_) (some 43) rfl rfl (by kernel_rfl) (by kernel_rfl) (by kernel_rfl) (fun _ _ _ h => h) (Or.inl ⟨by rfl, ?_⟩) (by assumption) ?_
  rotate_left
  · (intro W hSw; have q0 := keepB hSw f0; have q1 := keepB hSw f1; have q2 := keepB hSw f2; have q3 := keepB hSw d0; have q4 := keepB hSw d1; have q5 := keepB hSw d2; have q6 := keepB hSw hr0; clear hSw; go_simp; all_goals first | with_reducible rfl | (simp [*]; done) | (intro hh; exfalso; omega) | fail)
  try simp only [Act.put, List.setIfInBounds_toArray, List.set_cons_zero, List.set_cons_succ]
  refine heldTake (i := 29) (v := ?_) (some 44) rfl rfl (by kernel_rfl) (by kernel_rfl) (by kernel_rfl) (fun _ _ _ h => h) (Or.inl ⟨by rfl, ?_⟩) (by assumption) ?_
  rotate_left
  · (intro W hSw; have q0 := keepB hSw f0; have q1 := keepB hSw f1; have q2 := keepB hSw f2; have q3 := keepB hSw d0; have q4 := keepB hSw d1; have q5 := keepB hSw d2; have q6 := keepB hSw hr0; clear hSw; go_simp; all_goals first | with_reducible rfl | (simp [*]; done) | (intro hh; exfalso; omega) | fail)
  try simp only [Act.put, List.setIfInBounds_toArray, List.set_cons_zero, List.set_cons_succ]
  refine heldTake (i := 30) (v := undef) (some 45) rfl rfl (by kernel_rfl) (by kernel_rfl) (by kernel_rfl) (fun _ _ _ h => h) (Or.inr ⟨by rfl, rfl⟩) (by assumption) ?_
  try simp only [Act.put, List.setIfInBounds_toArray, List.set_cons_zero, List.set_cons_succ]
  refine heldTake (i := 31) (v := undef) (some 46) rfl rfl (by kernel_rfl) (by kernel_rfl) (by kernel_rfl) (fun _ _ _ h => h) (Or.inr ⟨by rfl, rfl⟩) (by assumption) ?_
  try simp only [Act.put, List.setIfInBounds_toArray, List.set_cons_zero, List.set_cons_succ]
  refine heldTake (i := 32) (v := undef) (some 47) rfl rfl (by kernel_rfl) (by kernel_rfl) (by kernel_rfl) (fun _ _ _ h => h) (Or.inr ⟨by rfl, rfl⟩) (by assumption) ?_
  try simp only [Act.put, List.setIfInBounds_toArray, List.set_cons_zero, List.set_cons_succ]
  refine heldTake (i := 33) (v := undef) (some 48) rfl rfl (by kernel_rfl) (by kernel_rfl) (by kernel_rfl) (fun _ _ _ h => h) (Or.inr ⟨by rfl, rfl⟩) (by assumption) ?_
  try simp only [Act.put, List.setIfInBounds_toArray, List.set_cons_zero, List.set_cons_succ]
  refine heldTake (i := 34) (v := undef) (some 49) rfl rfl (by kernel_rfl) (by kernel_rfl) (by kernel_rfl) (fun _ _ _ h => h) (Or.inr ⟨by rfl, rfl⟩) (by assumption) ?_
  try simp only [Act.put, List.setIfInBounds_toArray, List.set_cons_zero, List.set_cons_succ]
  refine heldTake (i := 35) (v := ?_) (some 50) rfl rfl (by kernel_rfl) (by kernel_rfl) (by kernel_rfl) (fun _ _ _ h => h) (Or.inl ⟨by rfl, ?_⟩) (by assumption) ?_
  rotate_left
  · (intro W hSw; have q0 := keepB hSw f0; have q1 := keepB hSw f1; have q2 := keepB hSw f2; have q3 := keepB hSw d0; have q4 := keepB hSw d1; have q5 := keepB hSw d2; have q6 := keepB hSw hr0; clear hSw; go_simp; all_goals first | with_reducible rfl | (simp [*]; done) | (intro hh; exfalso; omega) | fail)
  try simp only [Act.put, List.setIfInBounds_toArray, List.set_cons_zero, List.set_cons_succ]
  refine wpAnyH_done (by kernel_rfl) ?_ _
  go_wp2
  go_ret
  exact ⟨rfl, belT hb0 hHeld⟩

set_option maxRecDepth 100000 in
set_option maxHeartbeats 4000000 in
theorem verifyLinear_1 (p q g : Int) (s : ByteArray) (R : Option Addr) (r rc : Nat) (bs : List (Option Addr × Nat × List Int)) (A : Option Addr) (n c : Nat) (im : List Int) (A1 A2 A3 : Option Addr) (c1 c2 c3 : Nat) (C H Z : List Int) (w : World)
    (hg : goodB p q g = true) (hs : s.size ≤ 40) (h : Grid w R r bs) (hsb : sbB p q bs = true) (hi : Ints w A n im) (hn : n = r) (him : im.all (hasB p q) = true) (h1 : Ints w A1 C.length C) (h2 : Ints w A2 H.length H) (h3 : Ints w A3 Z.length Z) (t1 : C.length = r) (t2 : H.length ≠ 1) :
    Calls Try.prog 152 #[.agg #[.int .i64 p, .int .i64 q, .int .i64 g], .string s, .slice R r rc, .slice A n c, .agg #[.slice A1 C.length c1, .slice A2 H.length c2, .slice A3 Z.length c3]] w fun e w' => e = .returned (.bool (false)) ∧ Below w.heap.size w w' := by
  have hl := h.len
  subst hl
  subst hn
  obtain ⟨g1, g2, g3, g4, g5, g6⟩ := good_om hg
  have hsv := SB.of hsb
  have HSB := Lib.hid hsv
  obtain ⟨s1, s2, s3, s4, s5⟩ := hsv
  have hlc := h1.le
  have hlh := h2.le
  have hlz := h3.le
  obtain ⟨b, off, eR, hgb, hr0, hrow0⟩ := h.at_ (show 0 < bs.length by omega)
  rw [Nat.add_zero] at hr0
  have hlr := hrow0.le
  have e0 : (bs.getD 0 dRow).2.2 = rowK bs 0 := rfl
  rw [e0] at hr0 hlr
  subst eR
  have hpos : (0 : Int) < (bs.length : Int) := by omega
  have hposn : 0 < bs.length := by omega
  have hb0 : Below w.heap.size w ((w.alloc (.cells #[.int .i64 p, .int .i64 q, .int .i64 g] 27)).alloc (.cells #[.slice A1 C.length c1, .slice A2 H.length c2, .slice A3 Z.length c3] 52)) := belA (belA (Below.refl _ _))
  have HI := Lib.hid (h.below hb0)
  have HM := Lib.hid (hi.below hb0)
  have HC := Lib.hid (h1.below hb0)
  have HH := Lib.hid (h2.below hb0)
  have HZ := Lib.hid (h3.below hb0)
  have hz1 : w.heap.size + 1 < ((w.alloc (.cells #[.int .i64 p, .int .i64 q, .int .i64 g] 27)).alloc (.cells #[.slice A1 C.length c1, .slice A2 H.length c2, .slice A3 Z.length c3] 52)).heap.size := by simp
  have f0 : ((w.alloc (.cells #[.int .i64 p, .int .i64 q, .int .i64 g] 27)).alloc (.cells #[.slice A1 C.length c1, .slice A2 H.length c2, .slice A3 Z.length c3] 52)).cell? ⟨w.heap.size, 0, none⟩ = some (.int .i64 p) := by rw [World.cell?_alloc_past _ _ _ (by simp <;> omega), World.cell?_alloc_at _ _ _ _ (by simp)]; rfl
  have f1 : ((w.alloc (.cells #[.int .i64 p, .int .i64 q, .int .i64 g] 27)).alloc (.cells #[.slice A1 C.length c1, .slice A2 H.length c2, .slice A3 Z.length c3] 52)).cell? ⟨w.heap.size, 1, none⟩ = some (.int .i64 q) := by rw [World.cell?_alloc_past _ _ _ (by simp <;> omega), World.cell?_alloc_at _ _ _ _ (by simp)]; rfl
  have f2 : ((w.alloc (.cells #[.int .i64 p, .int .i64 q, .int .i64 g] 27)).alloc (.cells #[.slice A1 C.length c1, .slice A2 H.length c2, .slice A3 Z.length c3] 52)).cell? ⟨w.heap.size, 2, none⟩ = some (.int .i64 g) := by rw [World.cell?_alloc_past _ _ _ (by simp <;> omega), World.cell?_alloc_at _ _ _ _ (by simp)]; rfl
  have d0 : ((w.alloc (.cells #[.int .i64 p, .int .i64 q, .int .i64 g] 27)).alloc (.cells #[.slice A1 C.length c1, .slice A2 H.length c2, .slice A3 Z.length c3] 52)).cell? ⟨w.heap.size + 1, 0, none⟩ = some (.slice A1 C.length c1) := by rw [World.cell?_alloc_at _ _ _ _ (by simp)]; rfl
  have d1 : ((w.alloc (.cells #[.int .i64 p, .int .i64 q, .int .i64 g] 27)).alloc (.cells #[.slice A1 C.length c1, .slice A2 H.length c2, .slice A3 Z.length c3] 52)).cell? ⟨w.heap.size + 1, 1, none⟩ = some (.slice A2 H.length c2) := by rw [World.cell?_alloc_at _ _ _ _ (by simp)]; rfl
  have d2 : ((w.alloc (.cells #[.int .i64 p, .int .i64 q, .int .i64 g] 27)).alloc (.cells #[.slice A1 C.length c1, .slice A2 H.length c2, .slice A3 Z.length c3] 52)).cell? ⟨w.heap.size + 1, 2, none⟩ = some (.slice A3 Z.length c3) := by rw [World.cell?_alloc_at _ _ _ _ (by simp)]; rfl
  replace hr0 := keepB hb0 hr0
  clear h hi h1 h2 h3 hrow0 e0 s5 hsb
  have x1 : ((C.length : Int) != (bs.length : Int)) = false := by simp; omega
  have HT1 := Lib.hid t1
  clear t1
  have x2 : ((H.length : Int) != 1) = true := by simp; omega
  have HT2 := Lib.hid t2
  clear t2
  go_enter Try.func152, Try.ntmps152
  go_wp2
  generalize hW0 : ((w.alloc (.cells #[.int .i64 p, .int .i64 q, .int .i64 g] 27)).alloc (.cells #[.slice A1 C.length c1, .slice A2 H.length c2, .slice A3 Z.length c3] 52)) = W0 at f0 f1 f2 d0 d1 d2 hr0 hz1 hb0 HI HM HC HH HZ
  clear hW0
  refine wp_region_held_drew (S := fun W => Below W0.heap.size W0 W) (by kernel_rfl) (belD (Below.refl _ _)) (fun hHeld => ?_)
  refine heldTake (i := 0) (v := ?_) (some 15) rfl rfl (by kernel_rfl) (by kernel_rfl) (by kernel_rfl) (fun _ _ _ h => h) (Or.inl ⟨by rfl, ?_⟩) (by assumption) ?_
  rotate_left
  · (intro W hSw; have q0 := keepB hSw f0; have q1 := keepB hSw f1; have q2 := keepB hSw f2; have q3 := keepB hSw d0; have q4 := keepB hSw d1; have q5 := keepB hSw d2; have q6 := keepB hSw hr0; clear hSw; go_simp; all_goals first | with_reducible rfl | (simp [*]; done) | (intro hh; exfalso; omega) | fail)
  try simp only [Act.put, List.setIfInBounds_toArray, List.set_cons_zero, List.set_cons_succ]
  refine heldTake (i := 1) (v := ?_) (some 16) rfl rfl (by kernel_rfl) (by kernel_rfl) (by kernel_rfl) (fun _ _ _ h => h) (Or.inl ⟨by rfl, ?_⟩) (by assumption) ?_
  rotate_left
  · (intro W hSw; have q0 := keepB hSw f0; have q1 := keepB hSw f1; have q2 := keepB hSw f2; have q3 := keepB hSw d0; have q4 := keepB hSw d1; have q5 := keepB hSw d2; have q6 := keepB hSw hr0; clear hSw; go_simp; all_goals first | with_reducible rfl | (simp [*]; done) | (intro hh; exfalso; omega) | fail)
  try simp only [Act.put, List.setIfInBounds_toArray, List.set_cons_zero, List.set_cons_succ]
  refine heldTake (i := 2) (v := ?_) (some 17) rfl rfl (by kernel_rfl) (by kernel_rfl) (by kernel_rfl) (fun _ _ _ h => h) (Or.inl ⟨by rfl, ?_⟩) (by assumption) ?_
  rotate_left
  · (intro W hSw; have q0 := keepB hSw f0; have q1 := keepB hSw f1; have q2 := keepB hSw f2; have q3 := keepB hSw d0; have q4 := keepB hSw d1; have q5 := keepB hSw d2; have q6 := keepB hSw hr0; clear hSw; go_simp; all_goals first | with_reducible rfl | (simp [*]; done) | (intro hh; exfalso; omega) | fail)
  try simp only [Act.put, List.setIfInBounds_toArray, List.set_cons_zero, List.set_cons_succ]
  refine heldTake (i := 3) (v := ?_) (some 18) rfl rfl (by kernel_rfl) (by kernel_rfl) (by kernel_rfl) (fun _ _ _ h => h) (Or.inl ⟨by rfl, ?_⟩) (by assumption) ?_
  rotate_left
  · (intro W hSw; have q0 := keepB hSw f0; have q1 := keepB hSw f1; have q2 := keepB hSw f2; have q3 := keepB hSw d0; have q4 := keepB hSw d1; have q5 := keepB hSw d2; have q6 := keepB hSw hr0; clear hSw; go_simp; all_goals first | with_reducible rfl | (simp [*]; done) | (intro hh; exfalso; omega) | fail)
  try simp only [Act.put, List.setIfInBounds_toArray, List.set_cons_zero, List.set_cons_succ]
  refine heldTake (i := 4) (v := ?_) (some 19) rfl rfl (by kernel_rfl) (by kernel_rfl) (by kernel_rfl) (fun _ _ _ h => h) (Or.inl ⟨by rfl, ?_⟩) (by assumption) ?_
  rotate_left
  · (intro W hSw; have q0 := keepB hSw f0; have q1 := keepB hSw f1; have q2 := keepB hSw f2; have q3 := keepB hSw d0; have q4 := keepB hSw d1; have q5 := keepB hSw d2; have q6 := keepB hSw hr0; clear hSw; go_simp; all_goals first | with_reducible rfl | (simp [*]; done) | (intro hh; exfalso; omega) | fail)
  try simp only [Act.put, List.setIfInBounds_toArray, List.set_cons_zero, List.set_cons_succ]
  refine heldTake (i := 5) (v := ?_) (some 20) rfl rfl (by kernel_rfl) (by kernel_rfl) (by kernel_rfl) (fun _ _ _ h => h) (Or.inl ⟨by rfl, ?_⟩) (by assumption) ?_
  rotate_left
  · (intro W hSw; have q0 := keepB hSw f0; have q1 := keepB hSw f1; have q2 := keepB hSw f2; have q3 := keepB hSw d0; have q4 := keepB hSw d1; have q5 := keepB hSw d2; have q6 := keepB hSw hr0; clear hSw; go_simp; all_goals first | with_reducible rfl | (simp [*]; done) | (intro hh; exfalso; omega) | fail)
  try simp only [Act.put, List.setIfInBounds_toArray, List.set_cons_zero, List.set_cons_succ]
  refine heldTake (i := 6) (v := ?_) (some 21) rfl rfl (by kernel_rfl) (by kernel_rfl) (by kernel_rfl) (fun _ _ _ h => h) (Or.inl ⟨by rfl, ?_⟩) (by assumption) ?_
  rotate_left
  · (intro W hSw; have q0 := keepB hSw f0; have q1 := keepB hSw f1; have q2 := keepB hSw f2; have q3 := keepB hSw d0; have q4 := keepB hSw d1; have q5 := keepB hSw d2; have q6 := keepB hSw hr0; clear hSw; go_simp; all_goals first | with_reducible rfl | (simp [*]; done) | (intro hh; exfalso; omega) | fail)
  try simp only [Act.put, List.setIfInBounds_toArray, List.set_cons_zero, List.set_cons_succ]
  refine heldTake (i := 7) (v := ?_) (some 22) rfl rfl (by kernel_rfl) (by kernel_rfl) (by kernel_rfl) (fun _ _ _ h => h) (Or.inl ⟨by rfl, ?_⟩) (by assumption) ?_
  rotate_left
  · (intro W hSw; have q0 := keepB hSw f0; have q1 := keepB hSw f1; have q2 := keepB hSw f2; have q3 := keepB hSw d0; have q4 := keepB hSw d1; have q5 := keepB hSw d2; have q6 := keepB hSw hr0; clear hSw; go_simp; all_goals first | with_reducible rfl | (simp [*]; done) | (intro hh; exfalso; omega) | fail)
  try simp only [Act.put, List.setIfInBounds_toArray, List.set_cons_zero, List.set_cons_succ]
  refine heldTake (i := 8) (v := ?_) (some 23) rfl rfl (by kernel_rfl) (by kernel_rfl) (by kernel_rfl) (fun _ _ _ h => h) (Or.inl ⟨by rfl, ?_⟩) (by assumption) ?_
  rotate_left
  · (intro W hSw; have q0 := keepB hSw f0; have q1 := keepB hSw f1; have q2 := keepB hSw f2; have q3 := keepB hSw d0; have q4 := keepB hSw d1; have q5 := keepB hSw d2; have q6 := keepB hSw hr0; clear hSw; go_simp; all_goals first | with_reducible rfl | (simp [*]; done) | (intro hh; exfalso; omega) | fail)
  try simp only [Act.put, List.setIfInBounds_toArray, List.set_cons_zero, List.set_cons_succ]
  refine heldTake (i := 9) (v := ?_) (some 24) rfl rfl (by kernel_rfl) (by kernel_rfl) (by kernel_rfl) (fun _ _ _ h => h) (Or.inl ⟨by rfl, ?_⟩) (by assumption) ?_
  rotate_left
  · (intro W hSw; have q0 := keepB hSw f0; have q1 := keepB hSw f1; have q2 := keepB hSw f2; have q3 := keepB hSw d0; have q4 := keepB hSw d1; have q5 := keepB hSw d2; have q6 := keepB hSw hr0; clear hSw; go_simp; all_goals first | with_reducible rfl | (simp [*]; done) | (intro hh; exfalso; omega) | fail)
  try simp only [Act.put, List.setIfInBounds_toArray, List.set_cons_zero, List.set_cons_succ]
  refine heldTake (i := 10) (v := ?_) (some 25) rfl rfl (by kernel_rfl) (by kernel_rfl) (by kernel_rfl) (fun _ _ _ h => h) (Or.inl ⟨by rfl, ?_⟩) (by assumption) ?_
  rotate_left
  · (intro W hSw; have q0 := keepB hSw f0; have q1 := keepB hSw f1; have q2 := keepB hSw f2; have q3 := keepB hSw d0; have q4 := keepB hSw d1; have q5 := keepB hSw d2; have q6 := keepB hSw hr0; clear hSw; go_simp; all_goals first | with_reducible rfl | (simp [*]; done) | (intro hh; exfalso; omega) | fail)
  try simp only [Act.put, List.setIfInBounds_toArray, List.set_cons_zero, List.set_cons_succ]
  refine heldTake (i := 11) (v := ?_) (some 26) rfl rfl (by kernel_rfl) (by kernel_rfl) (by kernel_rfl) (fun _ _ _ h => h) (Or.inl ⟨by rfl, ?_⟩) (by assumption) ?_
  rotate_left
  · (intro W hSw; have q0 := keepB hSw f0; have q1 := keepB hSw f1; have q2 := keepB hSw f2; have q3 := keepB hSw d0; have q4 := keepB hSw d1; have q5 := keepB hSw d2; have q6 := keepB hSw hr0; clear hSw; go_simp; all_goals first | with_reducible rfl | (simp [*]; done) | (intro hh; exfalso; omega) | fail)
  try simp only [Act.put, List.setIfInBounds_toArray, List.set_cons_zero, List.set_cons_succ]
  refine heldTake (i := 12) (v := ?_) (some 27) rfl rfl (by kernel_rfl) (by kernel_rfl) (by kernel_rfl) (fun _ _ _ h => h) (Or.inl ⟨by rfl, ?_⟩) (by assumption) ?_
  rotate_left
  · (intro W hSw; have q0 := keepB hSw f0; have q1 := keepB hSw f1; have q2 := keepB hSw f2; have q3 := keepB hSw d0; have q4 := keepB hSw d1; have q5 := keepB hSw d2; have q6 := keepB hSw hr0; clear hSw; go_simp; all_goals first | with_reducible rfl | (simp [*]; done) | (intro hh; exfalso; omega) | fail)
  try simp only [Act.put, List.setIfInBounds_toArray, List.set_cons_zero, List.set_cons_succ]
  refine heldTake (i := 13) (v := undef) (some 28) rfl rfl (by kernel_rfl) (by kernel_rfl) (by kernel_rfl) (fun _ _ _ h => h) (Or.inr ⟨by rfl, rfl⟩) (by assumption) ?_
  try simp only [Act.put, List.setIfInBounds_toArray, List.set_cons_zero, List.set_cons_succ]
  refine heldTake (i := 14) (v := undef) (some 29) rfl rfl (by kernel_rfl) (by kernel_rfl) (by kernel_rfl) (fun _ _ _ h => h) (Or.inr ⟨by rfl, rfl⟩) (by assumption) ?_
  try simp only [Act.put, List.setIfInBounds_toArray, List.set_cons_zero, List.set_cons_succ]
  refine heldTake (i := 15) (v := undef) (some 30) rfl rfl (by kernel_rfl) (by kernel_rfl) (by kernel_rfl) (fun _ _ _ h => h) (Or.inr ⟨by rfl, rfl⟩) (by assumption) ?_
  try simp only [Act.put, List.setIfInBounds_toArray, List.set_cons_zero, List.set_cons_succ]
  refine heldTake (i := 16) (v := undef) (some 31) rfl rfl (by kernel_rfl) (by kernel_rfl) (by kernel_rfl) (fun _ _ _ h => h) (Or.inr ⟨by rfl, rfl⟩) (by assumption) ?_
  try simp only [Act.put, List.setIfInBounds_toArray, List.set_cons_zero, List.set_cons_succ]
  refine heldTake (i := 17) (v := undef) (some 32) rfl rfl (by kernel_rfl) (by kernel_rfl) (by kernel_rfl) (fun _ _ _ h => h) (Or.inr ⟨by rfl, rfl⟩) (by assumption) ?_
  try simp only [Act.put, List.setIfInBounds_toArray, List.set_cons_zero, List.set_cons_succ]
  refine heldTake (i := 18) (v := undef) (some 33) rfl rfl (by kernel_rfl) (by kernel_rfl) (by kernel_rfl) (fun _ _ _ h => h) (Or.inr ⟨by rfl, rfl⟩) (by assumption) ?_
  try simp only [Act.put, List.setIfInBounds_toArray, List.set_cons_zero, List.set_cons_succ]
  refine heldTake (i := 19) (v := undef) (some 34) rfl rfl (by kernel_rfl) (by kernel_rfl) (by kernel_rfl) (fun _ _ _ h => h) (Or.inr ⟨by rfl, rfl⟩) (by assumption) ?_
  try simp only [Act.put, List.setIfInBounds_toArray, List.set_cons_zero, List.set_cons_succ]
  refine heldTake (i := 20) (v := undef) (some 35) rfl rfl (by kernel_rfl) (by kernel_rfl) (by kernel_rfl) (fun _ _ _ h => h) (Or.inr ⟨by rfl, rfl⟩) (by assumption) ?_
  try simp only [Act.put, List.setIfInBounds_toArray, List.set_cons_zero, List.set_cons_succ]
  refine heldTake (i := 21) (v := ?_) (some 36) rfl rfl (by kernel_rfl) (by kernel_rfl) (by kernel_rfl) (fun _ _ _ h => h) (Or.inl ⟨by rfl, ?_⟩) (by assumption) ?_
  rotate_left
  · (intro W hSw; have q0 := keepB hSw f0; have q1 := keepB hSw f1; have q2 := keepB hSw f2; have q3 := keepB hSw d0; have q4 := keepB hSw d1; have q5 := keepB hSw d2; have q6 := keepB hSw hr0; clear hSw; go_simp; all_goals first | with_reducible rfl | (simp [*]; done) | (intro hh; exfalso; omega) | fail)
  try simp only [Act.put, List.setIfInBounds_toArray, List.set_cons_zero, List.set_cons_succ]
  refine heldTake (i := 22) (v := ?_) (some 37) rfl rfl (by kernel_rfl) (by kernel_rfl) (by kernel_rfl) (fun _ _ _ h => h) (Or.inl ⟨by rfl, ?_⟩) (by assumption) ?_
  rotate_left
  · (intro W hSw; have q0 := keepB hSw f0; have q1 := keepB hSw f1; have q2 := keepB hSw f2; have q3 := keepB hSw d0; have q4 := keepB hSw d1; have q5 := keepB hSw d2; have q6 := keepB hSw hr0; clear hSw; go_simp; all_goals first | with_reducible rfl | (simp [*]; done) | (intro hh; exfalso; omega) | fail)
  try simp only [Act.put, List.setIfInBounds_toArray, List.set_cons_zero, List.set_cons_succ]
  refine heldTake (i := 23) (v := undef) (some 38) rfl rfl (by kernel_rfl) (by kernel_rfl) (by kernel_rfl) (fun _ _ _ h => h) (Or.inr ⟨by rfl, rfl⟩) (by assumption) ?_
  try simp only [Act.put, List.setIfInBounds_toArray, List.set_cons_zero, List.set_cons_succ]
  refine heldTake (i := 24) (v := undef) (some 39) rfl rfl (by kernel_rfl) (by kernel_rfl) (by kernel_rfl) (fun _ _ _ h => h) (Or.inr ⟨by rfl, rfl⟩) (by assumption) ?_
  try simp only [Act.put, List.setIfInBounds_toArray, List.set_cons_zero, List.set_cons_succ]
  refine heldTake (i := 25) (v := undef) (some 40) rfl rfl (by kernel_rfl) (by kernel_rfl) (by kernel_rfl) (fun _ _ _ h => h) (Or.inr ⟨by rfl, rfl⟩) (by assumption) ?_
  try simp only [Act.put, List.setIfInBounds_toArray, List.set_cons_zero, List.set_cons_succ]
  refine heldTake (i := 26) (v := undef) (some 41) rfl rfl (by kernel_rfl) (by kernel_rfl) (by kernel_rfl) (fun _ _ _ h => h) (Or.inr ⟨by rfl, rfl⟩) (by assumption) ?_
  try simp only [Act.put, List.setIfInBounds_toArray, List.set_cons_zero, List.set_cons_succ]
  refine heldTake (i := 27) (v := undef) (some 42) rfl rfl (by kernel_rfl) (by kernel_rfl) (by kernel_rfl) (fun _ _ _ h => h) (Or.inr ⟨by rfl, rfl⟩) (by assumption) ?_
  try simp only [Act.put, List.setIfInBounds_toArray, List.set_cons_zero, List.set_cons_succ]
  refine heldTake (i := 28) (v := ?_) (some 43) rfl rfl (by kernel_rfl) (by kernel_rfl) (by kernel_rfl) (fun _ _ _ h => h) (Or.inl ⟨by rfl, ?_⟩) (by assumption) ?_
  rotate_left
  · (intro W hSw; have q0 := keepB hSw f0; have q1 := keepB hSw f1; have q2 := keepB hSw f2; have q3 := keepB hSw d0; have q4 := keepB hSw d1; have q5 := keepB hSw d2; have q6 := keepB hSw hr0; clear hSw; go_simp; all_goals first | with_reducible rfl | (simp [*]; done) | (intro hh; exfalso; omega) | fail)
  try simp only [Act.put, List.setIfInBounds_toArray, List.set_cons_zero, List.set_cons_succ]
  refine heldTake (i := 29) (v := ?_) (some 44) rfl rfl (by kernel_rfl) (by kernel_rfl) (by kernel_rfl) (fun _ _ _ h => h) (Or.inl ⟨by rfl, ?_⟩) (by assumption) ?_
  rotate_left
  · (intro W hSw; have q0 := keepB hSw f0; have q1 := keepB hSw f1; have q2 := keepB hSw f2; have q3 := keepB hSw d0; have q4 := keepB hSw d1; have q5 := keepB hSw d2; have q6 := keepB hSw hr0; clear hSw; go_simp; all_goals first | with_reducible rfl | (simp [*]; done) | (intro hh; exfalso; omega) | fail)
  try simp only [Act.put, List.setIfInBounds_toArray, List.set_cons_zero, List.set_cons_succ]
  refine heldTake (i := 30) (v := undef) (some 45) rfl rfl (by kernel_rfl) (by kernel_rfl) (by kernel_rfl) (fun _ _ _ h => h) (Or.inr ⟨by rfl, rfl⟩) (by assumption) ?_
  try simp only [Act.put, List.setIfInBounds_toArray, List.set_cons_zero, List.set_cons_succ]
  refine heldTake (i := 31) (v := undef) (some 46) rfl rfl (by kernel_rfl) (by kernel_rfl) (by kernel_rfl) (fun _ _ _ h => h) (Or.inr ⟨by rfl, rfl⟩) (by assumption) ?_
  try simp only [Act.put, List.setIfInBounds_toArray, List.set_cons_zero, List.set_cons_succ]
  refine heldTake (i := 32) (v := undef) (some 47) rfl rfl (by kernel_rfl) (by kernel_rfl) (by kernel_rfl) (fun _ _ _ h => h) (Or.inr ⟨by rfl, rfl⟩) (by assumption) ?_
  try simp only [Act.put, List.setIfInBounds_toArray, List.set_cons_zero, List.set_cons_succ]
  refine heldTake (i := 33) (v := undef) (some 48) rfl rfl (by kernel_rfl) (by kernel_rfl) (by kernel_rfl) (fun _ _ _ h => h) (Or.inr ⟨by rfl, rfl⟩) (by assumption) ?_
  try simp only [Act.put, List.setIfInBounds_toArray, List.set_cons_zero, List.set_cons_succ]
  refine heldTake (i := 34) (v := undef) (some 49) rfl rfl (by kernel_rfl) (by kernel_rfl) (by kernel_rfl) (fun _ _ _ h => h) (Or.inr ⟨by rfl, rfl⟩) (by assumption) ?_
  try simp only [Act.put, List.setIfInBounds_toArray, List.set_cons_zero, List.set_cons_succ]
  refine heldTake (i := 35) (v := ?_) (some 50) rfl rfl (by kernel_rfl) (by kernel_rfl) (by kernel_rfl) (fun _ _ _ h => h) (Or.inl ⟨by rfl, ?_⟩) (by assumption) ?_
  rotate_left
  · (intro W hSw; have q0 := keepB hSw f0; have q1 := keepB hSw f1; have q2 := keepB hSw f2; have q3 := keepB hSw d0; have q4 := keepB hSw d1; have q5 := keepB hSw d2; have q6 := keepB hSw hr0; clear hSw; go_simp; all_goals first | with_reducible rfl | (simp [*]; done) | (intro hh; exfalso; omega) | fail)
  try simp only [Act.put, List.setIfInBounds_toArray, List.set_cons_zero, List.set_cons_succ]
  refine wpAnyH_done (by kernel_rfl) ?_ _
  go_wp2
  go_ret
  exact ⟨rfl, belT hb0 hHeld⟩

set_option maxRecDepth 100000 in
set_option maxHeartbeats 4000000 in
theorem verifyLinear_2 (p q g : Int) (s : ByteArray) (R : Option Addr) (r rc : Nat) (bs : List (Option Addr × Nat × List Int)) (A : Option Addr) (n c : Nat) (im : List Int) (A1 A2 A3 : Option Addr) (c1 c2 c3 : Nat) (C H Z : List Int) (w : World)
    (hg : goodB p q g = true) (hs : s.size ≤ 40) (h : Grid w R r bs) (hsb : sbB p q bs = true) (hi : Ints w A n im) (hn : n = r) (him : im.all (hasB p q) = true) (h1 : Ints w A1 C.length C) (h2 : Ints w A2 H.length H) (h3 : Ints w A3 Z.length Z) (t1 : C.length = r) (t2 : H.length = 1) (t3 : Z.length ≠ (rowK bs 0).length) :
    Calls Try.prog 152 #[.agg #[.int .i64 p, .int .i64 q, .int .i64 g], .string s, .slice R r rc, .slice A n c, .agg #[.slice A1 C.length c1, .slice A2 H.length c2, .slice A3 Z.length c3]] w fun e w' => e = .returned (.bool (false)) ∧ Below w.heap.size w w' := by
  have hl := h.len
  subst hl
  subst hn
  obtain ⟨g1, g2, g3, g4, g5, g6⟩ := good_om hg
  have hsv := SB.of hsb
  have HSB := Lib.hid hsv
  obtain ⟨s1, s2, s3, s4, s5⟩ := hsv
  have hlc := h1.le
  have hlh := h2.le
  have hlz := h3.le
  obtain ⟨b, off, eR, hgb, hr0, hrow0⟩ := h.at_ (show 0 < bs.length by omega)
  rw [Nat.add_zero] at hr0
  have hlr := hrow0.le
  have e0 : (bs.getD 0 dRow).2.2 = rowK bs 0 := rfl
  rw [e0] at hr0 hlr
  subst eR
  have hpos : (0 : Int) < (bs.length : Int) := by omega
  have hposn : 0 < bs.length := by omega
  have hb0 : Below w.heap.size w ((w.alloc (.cells #[.int .i64 p, .int .i64 q, .int .i64 g] 27)).alloc (.cells #[.slice A1 C.length c1, .slice A2 H.length c2, .slice A3 Z.length c3] 52)) := belA (belA (Below.refl _ _))
  have HI := Lib.hid (h.below hb0)
  have HM := Lib.hid (hi.below hb0)
  have HC := Lib.hid (h1.below hb0)
  have HH := Lib.hid (h2.below hb0)
  have HZ := Lib.hid (h3.below hb0)
  have hz1 : w.heap.size + 1 < ((w.alloc (.cells #[.int .i64 p, .int .i64 q, .int .i64 g] 27)).alloc (.cells #[.slice A1 C.length c1, .slice A2 H.length c2, .slice A3 Z.length c3] 52)).heap.size := by simp
  have f0 : ((w.alloc (.cells #[.int .i64 p, .int .i64 q, .int .i64 g] 27)).alloc (.cells #[.slice A1 C.length c1, .slice A2 H.length c2, .slice A3 Z.length c3] 52)).cell? ⟨w.heap.size, 0, none⟩ = some (.int .i64 p) := by rw [World.cell?_alloc_past _ _ _ (by simp <;> omega), World.cell?_alloc_at _ _ _ _ (by simp)]; rfl
  have f1 : ((w.alloc (.cells #[.int .i64 p, .int .i64 q, .int .i64 g] 27)).alloc (.cells #[.slice A1 C.length c1, .slice A2 H.length c2, .slice A3 Z.length c3] 52)).cell? ⟨w.heap.size, 1, none⟩ = some (.int .i64 q) := by rw [World.cell?_alloc_past _ _ _ (by simp <;> omega), World.cell?_alloc_at _ _ _ _ (by simp)]; rfl
  have f2 : ((w.alloc (.cells #[.int .i64 p, .int .i64 q, .int .i64 g] 27)).alloc (.cells #[.slice A1 C.length c1, .slice A2 H.length c2, .slice A3 Z.length c3] 52)).cell? ⟨w.heap.size, 2, none⟩ = some (.int .i64 g) := by rw [World.cell?_alloc_past _ _ _ (by simp <;> omega), World.cell?_alloc_at _ _ _ _ (by simp)]; rfl
  have d0 : ((w.alloc (.cells #[.int .i64 p, .int .i64 q, .int .i64 g] 27)).alloc (.cells #[.slice A1 C.length c1, .slice A2 H.length c2, .slice A3 Z.length c3] 52)).cell? ⟨w.heap.size + 1, 0, none⟩ = some (.slice A1 C.length c1) := by rw [World.cell?_alloc_at _ _ _ _ (by simp)]; rfl
  have d1 : ((w.alloc (.cells #[.int .i64 p, .int .i64 q, .int .i64 g] 27)).alloc (.cells #[.slice A1 C.length c1, .slice A2 H.length c2, .slice A3 Z.length c3] 52)).cell? ⟨w.heap.size + 1, 1, none⟩ = some (.slice A2 H.length c2) := by rw [World.cell?_alloc_at _ _ _ _ (by simp)]; rfl
  have d2 : ((w.alloc (.cells #[.int .i64 p, .int .i64 q, .int .i64 g] 27)).alloc (.cells #[.slice A1 C.length c1, .slice A2 H.length c2, .slice A3 Z.length c3] 52)).cell? ⟨w.heap.size + 1, 2, none⟩ = some (.slice A3 Z.length c3) := by rw [World.cell?_alloc_at _ _ _ _ (by simp)]; rfl
  replace hr0 := keepB hb0 hr0
  clear h hi h1 h2 h3 hrow0 e0 s5 hsb
  have x1 : ((C.length : Int) != (bs.length : Int)) = false := by simp; omega
  have HT1 := Lib.hid t1
  clear t1
  have x2 : ((H.length : Int) != 1) = false := by simp; omega
  have HT2 := Lib.hid t2
  clear t2
  have x3 : ((Z.length : Int) != ((rowK bs 0).length : Int)) = true := by simp; omega
  have HT3 := Lib.hid t3
  clear t3
  go_enter Try.func152, Try.ntmps152
  go_wp2
  generalize hW0 : ((w.alloc (.cells #[.int .i64 p, .int .i64 q, .int .i64 g] 27)).alloc (.cells #[.slice A1 C.length c1, .slice A2 H.length c2, .slice A3 Z.length c3] 52)) = W0 at f0 f1 f2 d0 d1 d2 hr0 hz1 hb0 HI HM HC HH HZ
  clear hW0
  refine wp_region_held_drew (S := fun W => Below W0.heap.size W0 W) (by kernel_rfl) (belD (Below.refl _ _)) (fun hHeld => ?_)
  refine heldTake (i := 0) (v := ?_) (some 15) rfl rfl (by kernel_rfl) (by kernel_rfl) (by kernel_rfl) (fun _ _ _ h => h) (Or.inl ⟨by rfl, ?_⟩) (by assumption) ?_
  rotate_left
  · (intro W hSw; have q0 := keepB hSw f0; have q1 := keepB hSw f1; have q2 := keepB hSw f2; have q3 := keepB hSw d0; have q4 := keepB hSw d1; have q5 := keepB hSw d2; have q6 := keepB hSw hr0; clear hSw; go_simp; all_goals first | with_reducible rfl | (simp [*]; done) | (intro hh; exfalso; omega) | fail)
  try simp only [Act.put, List.setIfInBounds_toArray, List.set_cons_zero, List.set_cons_succ]
  refine heldTake (i := 1) (v := ?_) (some 16) rfl rfl (by kernel_rfl) (by kernel_rfl) (by kernel_rfl) (fun _ _ _ h => h) (Or.inl ⟨by rfl, ?_⟩) (by assumption) ?_
  rotate_left
  · (intro W hSw; have q0 := keepB hSw f0; have q1 := keepB hSw f1; have q2 := keepB hSw f2; have q3 := keepB hSw d0; have q4 := keepB hSw d1; have q5 := keepB hSw d2; have q6 := keepB hSw hr0; clear hSw; go_simp; all_goals first | with_reducible rfl | (simp [*]; done) | (intro hh; exfalso; omega) | fail)
  try simp only [Act.put, List.setIfInBounds_toArray, List.set_cons_zero, List.set_cons_succ]
  refine heldTake (i := 2) (v := ?_) (some 17) rfl rfl (by kernel_rfl) (by kernel_rfl) (by kernel_rfl) (fun _ _ _ h => h) (Or.inl ⟨by rfl, ?_⟩) (by assumption) ?_
  rotate_left
  · (intro W hSw; have q0 := keepB hSw f0; have q1 := keepB hSw f1; have q2 := keepB hSw f2; have q3 := keepB hSw d0; have q4 := keepB hSw d1; have q5 := keepB hSw d2; have q6 := keepB hSw hr0; clear hSw; go_simp; all_goals first | with_reducible rfl | (simp [*]; done) | (intro hh; exfalso; omega) | fail)
  try simp only [Act.put, List.setIfInBounds_toArray, List.set_cons_zero, List.set_cons_succ]
  refine heldTake (i := 3) (v := ?_) (some 18) rfl rfl (by kernel_rfl) (by kernel_rfl) (by kernel_rfl) (fun _ _ _ h => h) (Or.inl ⟨by rfl, ?_⟩) (by assumption) ?_
  rotate_left
  · (intro W hSw; have q0 := keepB hSw f0; have q1 := keepB hSw f1; have q2 := keepB hSw f2; have q3 := keepB hSw d0; have q4 := keepB hSw d1; have q5 := keepB hSw d2; have q6 := keepB hSw hr0; clear hSw; go_simp; all_goals first | with_reducible rfl | (simp [*]; done) | (intro hh; exfalso; omega) | fail)
  try simp only [Act.put, List.setIfInBounds_toArray, List.set_cons_zero, List.set_cons_succ]
  refine heldTake (i := 4) (v := ?_) (some 19) rfl rfl (by kernel_rfl) (by kernel_rfl) (by kernel_rfl) (fun _ _ _ h => h) (Or.inl ⟨by rfl, ?_⟩) (by assumption) ?_
  rotate_left
  · (intro W hSw; have q0 := keepB hSw f0; have q1 := keepB hSw f1; have q2 := keepB hSw f2; have q3 := keepB hSw d0; have q4 := keepB hSw d1; have q5 := keepB hSw d2; have q6 := keepB hSw hr0; clear hSw; go_simp; all_goals first | with_reducible rfl | (simp [*]; done) | (intro hh; exfalso; omega) | fail)
  try simp only [Act.put, List.setIfInBounds_toArray, List.set_cons_zero, List.set_cons_succ]
  refine heldTake (i := 5) (v := ?_) (some 20) rfl rfl (by kernel_rfl) (by kernel_rfl) (by kernel_rfl) (fun _ _ _ h => h) (Or.inl ⟨by rfl, ?_⟩) (by assumption) ?_
  rotate_left
  · (intro W hSw; have q0 := keepB hSw f0; have q1 := keepB hSw f1; have q2 := keepB hSw f2; have q3 := keepB hSw d0; have q4 := keepB hSw d1; have q5 := keepB hSw d2; have q6 := keepB hSw hr0; clear hSw; go_simp; all_goals first | with_reducible rfl | (simp [*]; done) | (intro hh; exfalso; omega) | fail)
  try simp only [Act.put, List.setIfInBounds_toArray, List.set_cons_zero, List.set_cons_succ]
  refine heldTake (i := 6) (v := ?_) (some 21) rfl rfl (by kernel_rfl) (by kernel_rfl) (by kernel_rfl) (fun _ _ _ h => h) (Or.inl ⟨by rfl, ?_⟩) (by assumption) ?_
  rotate_left
  · (intro W hSw; have q0 := keepB hSw f0; have q1 := keepB hSw f1; have q2 := keepB hSw f2; have q3 := keepB hSw d0; have q4 := keepB hSw d1; have q5 := keepB hSw d2; have q6 := keepB hSw hr0; clear hSw; go_simp; all_goals first | with_reducible rfl | (simp [*]; done) | (intro hh; exfalso; omega) | fail)
  try simp only [Act.put, List.setIfInBounds_toArray, List.set_cons_zero, List.set_cons_succ]
  refine heldTake (i := 7) (v := ?_) (some 22) rfl rfl (by kernel_rfl) (by kernel_rfl) (by kernel_rfl) (fun _ _ _ h => h) (Or.inl ⟨by rfl, ?_⟩) (by assumption) ?_
  rotate_left
  · (intro W hSw; have q0 := keepB hSw f0; have q1 := keepB hSw f1; have q2 := keepB hSw f2; have q3 := keepB hSw d0; have q4 := keepB hSw d1; have q5 := keepB hSw d2; have q6 := keepB hSw hr0; clear hSw; go_simp; all_goals first | with_reducible rfl | (simp [*]; done) | (intro hh; exfalso; omega) | fail)
  try simp only [Act.put, List.setIfInBounds_toArray, List.set_cons_zero, List.set_cons_succ]
  refine heldTake (i := 8) (v := ?_) (some 23) rfl rfl (by kernel_rfl) (by kernel_rfl) (by kernel_rfl) (fun _ _ _ h => h) (Or.inl ⟨by rfl, ?_⟩) (by assumption) ?_
  rotate_left
  · (intro W hSw; have q0 := keepB hSw f0; have q1 := keepB hSw f1; have q2 := keepB hSw f2; have q3 := keepB hSw d0; have q4 := keepB hSw d1; have q5 := keepB hSw d2; have q6 := keepB hSw hr0; clear hSw; go_simp; all_goals first | with_reducible rfl | (simp [*]; done) | (intro hh; exfalso; omega) | fail)
  try simp only [Act.put, List.setIfInBounds_toArray, List.set_cons_zero, List.set_cons_succ]
  refine heldTake (i := 9) (v := ?_) (some 24) rfl rfl (by kernel_rfl) (by kernel_rfl) (by kernel_rfl) (fun _ _ _ h => h) (Or.inl ⟨by rfl, ?_⟩) (by assumption) ?_
  rotate_left
  · (intro W hSw; have q0 := keepB hSw f0; have q1 := keepB hSw f1; have q2 := keepB hSw f2; have q3 := keepB hSw d0; have q4 := keepB hSw d1; have q5 := keepB hSw d2; have q6 := keepB hSw hr0; clear hSw; go_simp; all_goals first | with_reducible rfl | (simp [*]; done) | (intro hh; exfalso; omega) | fail)
  try simp only [Act.put, List.setIfInBounds_toArray, List.set_cons_zero, List.set_cons_succ]
  refine heldTake (i := 10) (v := ?_) (some 25) rfl rfl (by kernel_rfl) (by kernel_rfl) (by kernel_rfl) (fun _ _ _ h => h) (Or.inl ⟨by rfl, ?_⟩) (by assumption) ?_
  rotate_left
  · (intro W hSw; have q0 := keepB hSw f0; have q1 := keepB hSw f1; have q2 := keepB hSw f2; have q3 := keepB hSw d0; have q4 := keepB hSw d1; have q5 := keepB hSw d2; have q6 := keepB hSw hr0; clear hSw; go_simp; all_goals first | with_reducible rfl | (simp [*]; done) | (intro hh; exfalso; omega) | fail)
  try simp only [Act.put, List.setIfInBounds_toArray, List.set_cons_zero, List.set_cons_succ]
  refine heldTake (i := 11) (v := ?_) (some 26) rfl rfl (by kernel_rfl) (by kernel_rfl) (by kernel_rfl) (fun _ _ _ h => h) (Or.inl ⟨by rfl, ?_⟩) (by assumption) ?_
  rotate_left
  · (intro W hSw; have q0 := keepB hSw f0; have q1 := keepB hSw f1; have q2 := keepB hSw f2; have q3 := keepB hSw d0; have q4 := keepB hSw d1; have q5 := keepB hSw d2; have q6 := keepB hSw hr0; clear hSw; go_simp; all_goals first | with_reducible rfl | (simp [*]; done) | (intro hh; exfalso; omega) | fail)
  try simp only [Act.put, List.setIfInBounds_toArray, List.set_cons_zero, List.set_cons_succ]
  refine heldTake (i := 12) (v := ?_) (some 27) rfl rfl (by kernel_rfl) (by kernel_rfl) (by kernel_rfl) (fun _ _ _ h => h) (Or.inl ⟨by rfl, ?_⟩) (by assumption) ?_
  rotate_left
  · (intro W hSw; have q0 := keepB hSw f0; have q1 := keepB hSw f1; have q2 := keepB hSw f2; have q3 := keepB hSw d0; have q4 := keepB hSw d1; have q5 := keepB hSw d2; have q6 := keepB hSw hr0; clear hSw; go_simp; all_goals first | with_reducible rfl | (simp [*]; done) | (intro hh; exfalso; omega) | fail)
  try simp only [Act.put, List.setIfInBounds_toArray, List.set_cons_zero, List.set_cons_succ]
  refine heldTake (i := 13) (v := ?_) (some 28) rfl rfl (by kernel_rfl) (by kernel_rfl) (by kernel_rfl) (fun _ _ _ h => h) (Or.inl ⟨by rfl, ?_⟩) (by assumption) ?_
  rotate_left
  · (intro W hSw; have q0 := keepB hSw f0; have q1 := keepB hSw f1; have q2 := keepB hSw f2; have q3 := keepB hSw d0; have q4 := keepB hSw d1; have q5 := keepB hSw d2; have q6 := keepB hSw hr0; clear hSw; go_simp; all_goals first | with_reducible rfl | (simp [*]; done) | (intro hh; exfalso; omega) | fail)
  try simp only [Act.put, List.setIfInBounds_toArray, List.set_cons_zero, List.set_cons_succ]
  refine heldTake (i := 14) (v := ?_) (some 29) rfl rfl (by kernel_rfl) (by kernel_rfl) (by kernel_rfl) (fun _ _ _ h => h) (Or.inl ⟨by rfl, ?_⟩) (by assumption) ?_
  rotate_left
  · (intro W hSw; have q0 := keepB hSw f0; have q1 := keepB hSw f1; have q2 := keepB hSw f2; have q3 := keepB hSw d0; have q4 := keepB hSw d1; have q5 := keepB hSw d2; have q6 := keepB hSw hr0; clear hSw; go_simp; all_goals first | with_reducible rfl | (simp [*]; done) | (intro hh; exfalso; omega) | fail)
  try simp only [Act.put, List.setIfInBounds_toArray, List.set_cons_zero, List.set_cons_succ]
  refine heldTake (i := 15) (v := ?_) (some 30) rfl rfl (by kernel_rfl) (by kernel_rfl) (by kernel_rfl) (fun _ _ _ h => h) (Or.inl ⟨by rfl, ?_⟩) (by assumption) ?_
  rotate_left
  · (intro W hSw; have q0 := keepB hSw f0; have q1 := keepB hSw f1; have q2 := keepB hSw f2; have q3 := keepB hSw d0; have q4 := keepB hSw d1; have q5 := keepB hSw d2; have q6 := keepB hSw hr0; clear hSw; go_simp; all_goals first | with_reducible rfl | (simp [*]; done) | (intro hh; exfalso; omega) | fail)
  try simp only [Act.put, List.setIfInBounds_toArray, List.set_cons_zero, List.set_cons_succ]
  refine heldTake (i := 16) (v := ?_) (some 31) rfl rfl (by kernel_rfl) (by kernel_rfl) (by kernel_rfl) (fun _ _ _ h => h) (Or.inl ⟨by rfl, ?_⟩) (by assumption) ?_
  rotate_left
  · (intro W hSw; have q0 := keepB hSw f0; have q1 := keepB hSw f1; have q2 := keepB hSw f2; have q3 := keepB hSw d0; have q4 := keepB hSw d1; have q5 := keepB hSw d2; have q6 := keepB hSw hr0; clear hSw; go_simp; all_goals first | with_reducible rfl | (simp [*]; done) | (intro hh; exfalso; omega) | fail)
  try simp only [Act.put, List.setIfInBounds_toArray, List.set_cons_zero, List.set_cons_succ]
  refine heldTake (i := 17) (v := ?_) (some 32) rfl rfl (by kernel_rfl) (by kernel_rfl) (by kernel_rfl) (fun _ _ _ h => h) (Or.inl ⟨by rfl, ?_⟩) (by assumption) ?_
  rotate_left
  · (intro W hSw; have q0 := keepB hSw f0; have q1 := keepB hSw f1; have q2 := keepB hSw f2; have q3 := keepB hSw d0; have q4 := keepB hSw d1; have q5 := keepB hSw d2; have q6 := keepB hSw hr0; clear hSw; go_simp; all_goals first | with_reducible rfl | (simp [*]; done) | (intro hh; exfalso; omega) | fail)
  try simp only [Act.put, List.setIfInBounds_toArray, List.set_cons_zero, List.set_cons_succ]
  refine heldTake (i := 18) (v := ?_) (some 33) rfl rfl (by kernel_rfl) (by kernel_rfl) (by kernel_rfl) (fun _ _ _ h => h) (Or.inl ⟨by rfl, ?_⟩) (by assumption) ?_
  rotate_left
  · (intro W hSw; have q0 := keepB hSw f0; have q1 := keepB hSw f1; have q2 := keepB hSw f2; have q3 := keepB hSw d0; have q4 := keepB hSw d1; have q5 := keepB hSw d2; have q6 := keepB hSw hr0; clear hSw; go_simp; all_goals first | with_reducible rfl | (simp [*]; done) | (intro hh; exfalso; omega) | fail)
  try simp only [Act.put, List.setIfInBounds_toArray, List.set_cons_zero, List.set_cons_succ]
  refine heldTake (i := 19) (v := ?_) (some 34) rfl rfl (by kernel_rfl) (by kernel_rfl) (by kernel_rfl) (fun _ _ _ h => h) (Or.inl ⟨by rfl, ?_⟩) (by assumption) ?_
  rotate_left
  · (intro W hSw; have q0 := keepB hSw f0; have q1 := keepB hSw f1; have q2 := keepB hSw f2; have q3 := keepB hSw d0; have q4 := keepB hSw d1; have q5 := keepB hSw d2; have q6 := keepB hSw hr0; clear hSw; go_simp; all_goals first | with_reducible rfl | (simp [*]; done) | (intro hh; exfalso; omega) | fail)
  try simp only [Act.put, List.setIfInBounds_toArray, List.set_cons_zero, List.set_cons_succ]
  refine heldTake (i := 20) (v := ?_) (some 35) rfl rfl (by kernel_rfl) (by kernel_rfl) (by kernel_rfl) (fun _ _ _ h => h) (Or.inl ⟨by rfl, ?_⟩) (by assumption) ?_
  rotate_left
  · (intro W hSw; have q0 := keepB hSw f0; have q1 := keepB hSw f1; have q2 := keepB hSw f2; have q3 := keepB hSw d0; have q4 := keepB hSw d1; have q5 := keepB hSw d2; have q6 := keepB hSw hr0; clear hSw; go_simp; all_goals first | with_reducible rfl | (simp [*]; done) | (intro hh; exfalso; omega) | fail)
  try simp only [Act.put, List.setIfInBounds_toArray, List.set_cons_zero, List.set_cons_succ]
  refine heldTake (i := 21) (v := ?_) (some 36) rfl rfl (by kernel_rfl) (by kernel_rfl) (by kernel_rfl) (fun _ _ _ h => h) (Or.inl ⟨by rfl, ?_⟩) (by assumption) ?_
  rotate_left
  · (intro W hSw; have q0 := keepB hSw f0; have q1 := keepB hSw f1; have q2 := keepB hSw f2; have q3 := keepB hSw d0; have q4 := keepB hSw d1; have q5 := keepB hSw d2; have q6 := keepB hSw hr0; clear hSw; go_simp; all_goals first | with_reducible rfl | (simp [*]; done) | (intro hh; exfalso; omega) | fail)
  try simp only [Act.put, List.setIfInBounds_toArray, List.set_cons_zero, List.set_cons_succ]
  refine heldTake (i := 22) (v := ?_) (some 37) rfl rfl (by kernel_rfl) (by kernel_rfl) (by kernel_rfl) (fun _ _ _ h => h) (Or.inl ⟨by rfl, ?_⟩) (by assumption) ?_
  rotate_left
  · (intro W hSw; have q0 := keepB hSw f0; have q1 := keepB hSw f1; have q2 := keepB hSw f2; have q3 := keepB hSw d0; have q4 := keepB hSw d1; have q5 := keepB hSw d2; have q6 := keepB hSw hr0; clear hSw; go_simp; all_goals first | with_reducible rfl | (simp [*]; done) | (intro hh; exfalso; omega) | fail)
  try simp only [Act.put, List.setIfInBounds_toArray, List.set_cons_zero, List.set_cons_succ]
  refine heldTake (i := 23) (v := undef) (some 38) rfl rfl (by kernel_rfl) (by kernel_rfl) (by kernel_rfl) (fun _ _ _ h => h) (Or.inr ⟨by rfl, rfl⟩) (by assumption) ?_
  try simp only [Act.put, List.setIfInBounds_toArray, List.set_cons_zero, List.set_cons_succ]
  refine heldTake (i := 24) (v := undef) (some 39) rfl rfl (by kernel_rfl) (by kernel_rfl) (by kernel_rfl) (fun _ _ _ h => h) (Or.inr ⟨by rfl, rfl⟩) (by assumption) ?_
  try simp only [Act.put, List.setIfInBounds_toArray, List.set_cons_zero, List.set_cons_succ]
  refine heldTake (i := 25) (v := undef) (some 40) rfl rfl (by kernel_rfl) (by kernel_rfl) (by kernel_rfl) (fun _ _ _ h => h) (Or.inr ⟨by rfl, rfl⟩) (by assumption) ?_
  try simp only [Act.put, List.setIfInBounds_toArray, List.set_cons_zero, List.set_cons_succ]
  refine heldTake (i := 26) (v := undef) (some 41) rfl rfl (by kernel_rfl) (by kernel_rfl) (by kernel_rfl) (fun _ _ _ h => h) (Or.inr ⟨by rfl, rfl⟩) (by assumption) ?_
  try simp only [Act.put, List.setIfInBounds_toArray, List.set_cons_zero, List.set_cons_succ]
  refine heldTake (i := 27) (v := undef) (some 42) rfl rfl (by kernel_rfl) (by kernel_rfl) (by kernel_rfl) (fun _ _ _ h => h) (Or.inr ⟨by rfl, rfl⟩) (by assumption) ?_
  try simp only [Act.put, List.setIfInBounds_toArray, List.set_cons_zero, List.set_cons_succ]
  refine heldTake (i := 28) (v := ?_) (some 43) rfl rfl (by kernel_rfl) (by kernel_rfl) (by kernel_rfl) (fun _ _ _ h => h) (Or.inl ⟨by rfl, ?_⟩) (by assumption) ?_
  rotate_left
  · (intro W hSw; have q0 := keepB hSw f0; have q1 := keepB hSw f1; have q2 := keepB hSw f2; have q3 := keepB hSw d0; have q4 := keepB hSw d1; have q5 := keepB hSw d2; have q6 := keepB hSw hr0; clear hSw; go_simp; all_goals first | with_reducible rfl | (simp [*]; done) | (intro hh; exfalso; omega) | fail)
  try simp only [Act.put, List.setIfInBounds_toArray, List.set_cons_zero, List.set_cons_succ]
  refine heldTake (i := 29) (v := ?_) (some 44) rfl rfl (by kernel_rfl) (by kernel_rfl) (by kernel_rfl) (fun _ _ _ h => h) (Or.inl ⟨by rfl, ?_⟩) (by assumption) ?_
  rotate_left
  · (intro W hSw; have q0 := keepB hSw f0; have q1 := keepB hSw f1; have q2 := keepB hSw f2; have q3 := keepB hSw d0; have q4 := keepB hSw d1; have q5 := keepB hSw d2; have q6 := keepB hSw hr0; clear hSw; go_simp; all_goals first | with_reducible rfl | (simp [*]; done) | (intro hh; exfalso; omega) | fail)
  try simp only [Act.put, List.setIfInBounds_toArray, List.set_cons_zero, List.set_cons_succ]
  refine heldTake (i := 30) (v := undef) (some 45) rfl rfl (by kernel_rfl) (by kernel_rfl) (by kernel_rfl) (fun _ _ _ h => h) (Or.inr ⟨by rfl, rfl⟩) (by assumption) ?_
  try simp only [Act.put, List.setIfInBounds_toArray, List.set_cons_zero, List.set_cons_succ]
  refine heldTake (i := 31) (v := undef) (some 46) rfl rfl (by kernel_rfl) (by kernel_rfl) (by kernel_rfl) (fun _ _ _ h => h) (Or.inr ⟨by rfl, rfl⟩) (by assumption) ?_
  try simp only [Act.put, List.setIfInBounds_toArray, List.set_cons_zero, List.set_cons_succ]
  refine heldTake (i := 32) (v := undef) (some 47) rfl rfl (by kernel_rfl) (by kernel_rfl) (by kernel_rfl) (fun _ _ _ h => h) (Or.inr ⟨by rfl, rfl⟩) (by assumption) ?_
  try simp only [Act.put, List.setIfInBounds_toArray, List.set_cons_zero, List.set_cons_succ]
  refine heldTake (i := 33) (v := undef) (some 48) rfl rfl (by kernel_rfl) (by kernel_rfl) (by kernel_rfl) (fun _ _ _ h => h) (Or.inr ⟨by rfl, rfl⟩) (by assumption) ?_
  try simp only [Act.put, List.setIfInBounds_toArray, List.set_cons_zero, List.set_cons_succ]
  refine heldTake (i := 34) (v := undef) (some 49) rfl rfl (by kernel_rfl) (by kernel_rfl) (by kernel_rfl) (fun _ _ _ h => h) (Or.inr ⟨by rfl, rfl⟩) (by assumption) ?_
  try simp only [Act.put, List.setIfInBounds_toArray, List.set_cons_zero, List.set_cons_succ]
  refine heldTake (i := 35) (v := ?_) (some 50) rfl rfl (by kernel_rfl) (by kernel_rfl) (by kernel_rfl) (fun _ _ _ h => h) (Or.inl ⟨by rfl, ?_⟩) (by assumption) ?_
  rotate_left
  · (intro W hSw; have q0 := keepB hSw f0; have q1 := keepB hSw f1; have q2 := keepB hSw f2; have q3 := keepB hSw d0; have q4 := keepB hSw d1; have q5 := keepB hSw d2; have q6 := keepB hSw hr0; clear hSw; go_simp; all_goals first | with_reducible rfl | (simp [*]; done) | (intro hh; exfalso; omega) | fail)
  try simp only [Act.put, List.setIfInBounds_toArray, List.set_cons_zero, List.set_cons_succ]
  refine wpAnyH_done (by kernel_rfl) ?_ _
  go_wp2
  go_ret
  exact ⟨rfl, belT hb0 hHeld⟩

set_option maxRecDepth 100000 in
set_option maxHeartbeats 4000000 in
theorem verifyLinear_3 (p q g : Int) (s : ByteArray) (R : Option Addr) (r rc : Nat) (bs : List (Option Addr × Nat × List Int)) (A : Option Addr) (n c : Nat) (im : List Int) (A1 A2 A3 : Option Addr) (c1 c2 c3 : Nat) (C H Z : List Int) (w : World)
    (hg : goodB p q g = true) (hs : s.size ≤ 40) (h : Grid w R r bs) (hsb : sbB p q bs = true) (hi : Ints w A n im) (hn : n = r) (him : im.all (hasB p q) = true) (h1 : Ints w A1 C.length C) (h2 : Ints w A2 H.length H) (h3 : Ints w A3 Z.length Z) (t1 : C.length = r) (t2 : H.length = 1) (t3 : Z.length = (rowK bs 0).length) (hC : C.all (hasB p q) = false) :
    Calls Try.prog 152 #[.agg #[.int .i64 p, .int .i64 q, .int .i64 g], .string s, .slice R r rc, .slice A n c, .agg #[.slice A1 C.length c1, .slice A2 H.length c2, .slice A3 Z.length c3]] w fun e w' => e = .returned (.bool (false)) ∧ Below w.heap.size w w' := by
  have hl := h.len
  subst hl
  subst hn
  obtain ⟨g1, g2, g3, g4, g5, g6⟩ := good_om hg
  have hsv := SB.of hsb
  have HSB := Lib.hid hsv
  obtain ⟨s1, s2, s3, s4, s5⟩ := hsv
  have hlc := h1.le
  have hlh := h2.le
  have hlz := h3.le
  obtain ⟨b, off, eR, hgb, hr0, hrow0⟩ := h.at_ (show 0 < bs.length by omega)
  rw [Nat.add_zero] at hr0
  have hlr := hrow0.le
  have e0 : (bs.getD 0 dRow).2.2 = rowK bs 0 := rfl
  rw [e0] at hr0 hlr
  subst eR
  have hpos : (0 : Int) < (bs.length : Int) := by omega
  have hposn : 0 < bs.length := by omega
  have hb0 : Below w.heap.size w ((w.alloc (.cells #[.int .i64 p, .int .i64 q, .int .i64 g] 27)).alloc (.cells #[.slice A1 C.length c1, .slice A2 H.length c2, .slice A3 Z.length c3] 52)) := belA (belA (Below.refl _ _))
  have HI := Lib.hid (h.below hb0)
  have HM := Lib.hid (hi.below hb0)
  have HC := Lib.hid (h1.below hb0)
  have HH := Lib.hid (h2.below hb0)
  have HZ := Lib.hid (h3.below hb0)
  have hz1 : w.heap.size + 1 < ((w.alloc (.cells #[.int .i64 p, .int .i64 q, .int .i64 g] 27)).alloc (.cells #[.slice A1 C.length c1, .slice A2 H.length c2, .slice A3 Z.length c3] 52)).heap.size := by simp
  have f0 : ((w.alloc (.cells #[.int .i64 p, .int .i64 q, .int .i64 g] 27)).alloc (.cells #[.slice A1 C.length c1, .slice A2 H.length c2, .slice A3 Z.length c3] 52)).cell? ⟨w.heap.size, 0, none⟩ = some (.int .i64 p) := by rw [World.cell?_alloc_past _ _ _ (by simp <;> omega), World.cell?_alloc_at _ _ _ _ (by simp)]; rfl
  have f1 : ((w.alloc (.cells #[.int .i64 p, .int .i64 q, .int .i64 g] 27)).alloc (.cells #[.slice A1 C.length c1, .slice A2 H.length c2, .slice A3 Z.length c3] 52)).cell? ⟨w.heap.size, 1, none⟩ = some (.int .i64 q) := by rw [World.cell?_alloc_past _ _ _ (by simp <;> omega), World.cell?_alloc_at _ _ _ _ (by simp)]; rfl
  have f2 : ((w.alloc (.cells #[.int .i64 p, .int .i64 q, .int .i64 g] 27)).alloc (.cells #[.slice A1 C.length c1, .slice A2 H.length c2, .slice A3 Z.length c3] 52)).cell? ⟨w.heap.size, 2, none⟩ = some (.int .i64 g) := by rw [World.cell?_alloc_past _ _ _ (by simp <;> omega), World.cell?_alloc_at _ _ _ _ (by simp)]; rfl
  have d0 : ((w.alloc (.cells #[.int .i64 p, .int .i64 q, .int .i64 g] 27)).alloc (.cells #[.slice A1 C.length c1, .slice A2 H.length c2, .slice A3 Z.length c3] 52)).cell? ⟨w.heap.size + 1, 0, none⟩ = some (.slice A1 C.length c1) := by rw [World.cell?_alloc_at _ _ _ _ (by simp)]; rfl
  have d1 : ((w.alloc (.cells #[.int .i64 p, .int .i64 q, .int .i64 g] 27)).alloc (.cells #[.slice A1 C.length c1, .slice A2 H.length c2, .slice A3 Z.length c3] 52)).cell? ⟨w.heap.size + 1, 1, none⟩ = some (.slice A2 H.length c2) := by rw [World.cell?_alloc_at _ _ _ _ (by simp)]; rfl
  have d2 : ((w.alloc (.cells #[.int .i64 p, .int .i64 q, .int .i64 g] 27)).alloc (.cells #[.slice A1 C.length c1, .slice A2 H.length c2, .slice A3 Z.length c3] 52)).cell? ⟨w.heap.size + 1, 2, none⟩ = some (.slice A3 Z.length c3) := by rw [World.cell?_alloc_at _ _ _ _ (by simp)]; rfl
  replace hr0 := keepB hb0 hr0
  clear h hi h1 h2 h3 hrow0 e0 s5 hsb
  have x1 : ((C.length : Int) != (bs.length : Int)) = false := by simp; omega
  have HT1 := Lib.hid t1
  clear t1
  have x2 : ((H.length : Int) != 1) = false := by simp; omega
  have HT2 := Lib.hid t2
  clear t2
  have x3 : ((Z.length : Int) != ((rowK bs 0).length : Int)) = false := by simp; omega
  have HT3 := Lib.hid t3
  clear t3
  go_enter Try.func152, Try.ntmps152
  go_wp2
  generalize hW0 : ((w.alloc (.cells #[.int .i64 p, .int .i64 q, .int .i64 g] 27)).alloc (.cells #[.slice A1 C.length c1, .slice A2 H.length c2, .slice A3 Z.length c3] 52)) = W0 at f0 f1 f2 d0 d1 d2 hr0 hz1 hb0 HI HM HC HH HZ
  clear hW0
  refine wp_region_held_drew (S := fun W => Below W0.heap.size W0 W) (by kernel_rfl) (belD (Below.refl _ _)) (fun hHeld => ?_)
  refine heldTake (i := 0) (v := ?_) (some 15) rfl rfl (by kernel_rfl) (by kernel_rfl) (by kernel_rfl) (fun _ _ _ h => h) (Or.inl ⟨by rfl, ?_⟩) (by assumption) ?_
  rotate_left
  · (intro W hSw; have q0 := keepB hSw f0; have q1 := keepB hSw f1; have q2 := keepB hSw f2; have q3 := keepB hSw d0; have q4 := keepB hSw d1; have q5 := keepB hSw d2; have q6 := keepB hSw hr0; clear hSw; go_simp; all_goals first | with_reducible rfl | (simp [*]; done) | (intro hh; exfalso; omega) | fail)
  try simp only [Act.put, List.setIfInBounds_toArray, List.set_cons_zero, List.set_cons_succ]
  refine heldTake (i := 1) (v := ?_) (some 16) rfl rfl (by kernel_rfl) (by kernel_rfl) (by kernel_rfl) (fun _ _ _ h => h) (Or.inl ⟨by rfl, ?_⟩) (by assumption) ?_
  rotate_left
  · (intro W hSw; have q0 := keepB hSw f0; have q1 := keepB hSw f1; have q2 := keepB hSw f2; have q3 := keepB hSw d0; have q4 := keepB hSw d1; have q5 := keepB hSw d2; have q6 := keepB hSw hr0; clear hSw; go_simp; all_goals first | with_reducible rfl | (simp [*]; done) | (intro hh; exfalso; omega) | fail)
  try simp only [Act.put, List.setIfInBounds_toArray, List.set_cons_zero, List.set_cons_succ]
  refine heldTake (i := 2) (v := ?_) (some 17) rfl rfl (by kernel_rfl) (by kernel_rfl) (by kernel_rfl) (fun _ _ _ h => h) (Or.inl ⟨by rfl, ?_⟩) (by assumption) ?_
  rotate_left
  · (intro W hSw; have q0 := keepB hSw f0; have q1 := keepB hSw f1; have q2 := keepB hSw f2; have q3 := keepB hSw d0; have q4 := keepB hSw d1; have q5 := keepB hSw d2; have q6 := keepB hSw hr0; clear hSw; go_simp; all_goals first | with_reducible rfl | (simp [*]; done) | (intro hh; exfalso; omega) | fail)
  try simp only [Act.put, List.setIfInBounds_toArray, List.set_cons_zero, List.set_cons_succ]
  refine heldTake (i := 3) (v := ?_) (some 18) rfl rfl (by kernel_rfl) (by kernel_rfl) (by kernel_rfl) (fun _ _ _ h => h) (Or.inl ⟨by rfl, ?_⟩) (by assumption) ?_
  rotate_left
  · (intro W hSw; have q0 := keepB hSw f0; have q1 := keepB hSw f1; have q2 := keepB hSw f2; have q3 := keepB hSw d0; have q4 := keepB hSw d1; have q5 := keepB hSw d2; have q6 := keepB hSw hr0; clear hSw; go_simp; all_goals first | with_reducible rfl | (simp [*]; done) | (intro hh; exfalso; omega) | fail)
  try simp only [Act.put, List.setIfInBounds_toArray, List.set_cons_zero, List.set_cons_succ]
  refine heldTake (i := 4) (v := ?_) (some 19) rfl rfl (by kernel_rfl) (by kernel_rfl) (by kernel_rfl) (fun _ _ _ h => h) (Or.inl ⟨by rfl, ?_⟩) (by assumption) ?_
  rotate_left
  · (intro W hSw; have q0 := keepB hSw f0; have q1 := keepB hSw f1; have q2 := keepB hSw f2; have q3 := keepB hSw d0; have q4 := keepB hSw d1; have q5 := keepB hSw d2; have q6 := keepB hSw hr0; clear hSw; go_simp; all_goals first | with_reducible rfl | (simp [*]; done) | (intro hh; exfalso; omega) | fail)
  try simp only [Act.put, List.setIfInBounds_toArray, List.set_cons_zero, List.set_cons_succ]
  refine heldTake (i := 5) (v := ?_) (some 20) rfl rfl (by kernel_rfl) (by kernel_rfl) (by kernel_rfl) (fun _ _ _ h => h) (Or.inl ⟨by rfl, ?_⟩) (by assumption) ?_
  rotate_left
  · (intro W hSw; have q0 := keepB hSw f0; have q1 := keepB hSw f1; have q2 := keepB hSw f2; have q3 := keepB hSw d0; have q4 := keepB hSw d1; have q5 := keepB hSw d2; have q6 := keepB hSw hr0; clear hSw; go_simp; all_goals first | with_reducible rfl | (simp [*]; done) | (intro hh; exfalso; omega) | fail)
  try simp only [Act.put, List.setIfInBounds_toArray, List.set_cons_zero, List.set_cons_succ]
  refine heldTake (i := 6) (v := ?_) (some 21) rfl rfl (by kernel_rfl) (by kernel_rfl) (by kernel_rfl) (fun _ _ _ h => h) (Or.inl ⟨by rfl, ?_⟩) (by assumption) ?_
  rotate_left
  · (intro W hSw; have q0 := keepB hSw f0; have q1 := keepB hSw f1; have q2 := keepB hSw f2; have q3 := keepB hSw d0; have q4 := keepB hSw d1; have q5 := keepB hSw d2; have q6 := keepB hSw hr0; clear hSw; go_simp; all_goals first | with_reducible rfl | (simp [*]; done) | (intro hh; exfalso; omega) | fail)
  try simp only [Act.put, List.setIfInBounds_toArray, List.set_cons_zero, List.set_cons_succ]
  refine heldTake (i := 7) (v := ?_) (some 22) rfl rfl (by kernel_rfl) (by kernel_rfl) (by kernel_rfl) (fun _ _ _ h => h) (Or.inl ⟨by rfl, ?_⟩) (by assumption) ?_
  rotate_left
  · (intro W hSw; have q0 := keepB hSw f0; have q1 := keepB hSw f1; have q2 := keepB hSw f2; have q3 := keepB hSw d0; have q4 := keepB hSw d1; have q5 := keepB hSw d2; have q6 := keepB hSw hr0; clear hSw; go_simp; all_goals first | with_reducible rfl | (simp [*]; done) | (intro hh; exfalso; omega) | fail)
  try simp only [Act.put, List.setIfInBounds_toArray, List.set_cons_zero, List.set_cons_succ]
  refine heldTake (i := 8) (v := ?_) (some 23) rfl rfl (by kernel_rfl) (by kernel_rfl) (by kernel_rfl) (fun _ _ _ h => h) (Or.inl ⟨by rfl, ?_⟩) (by assumption) ?_
  rotate_left
  · (intro W hSw; have q0 := keepB hSw f0; have q1 := keepB hSw f1; have q2 := keepB hSw f2; have q3 := keepB hSw d0; have q4 := keepB hSw d1; have q5 := keepB hSw d2; have q6 := keepB hSw hr0; clear hSw; go_simp; all_goals first | with_reducible rfl | (simp [*]; done) | (intro hh; exfalso; omega) | fail)
  try simp only [Act.put, List.setIfInBounds_toArray, List.set_cons_zero, List.set_cons_succ]
  refine heldTake (i := 9) (v := ?_) (some 24) rfl rfl (by kernel_rfl) (by kernel_rfl) (by kernel_rfl) (fun _ _ _ h => h) (Or.inl ⟨by rfl, ?_⟩) (by assumption) ?_
  rotate_left
  · (intro W hSw; have q0 := keepB hSw f0; have q1 := keepB hSw f1; have q2 := keepB hSw f2; have q3 := keepB hSw d0; have q4 := keepB hSw d1; have q5 := keepB hSw d2; have q6 := keepB hSw hr0; clear hSw; go_simp; all_goals first | with_reducible rfl | (simp [*]; done) | (intro hh; exfalso; omega) | fail)
  try simp only [Act.put, List.setIfInBounds_toArray, List.set_cons_zero, List.set_cons_succ]
  refine heldTake (i := 10) (v := ?_) (some 25) rfl rfl (by kernel_rfl) (by kernel_rfl) (by kernel_rfl) (fun _ _ _ h => h) (Or.inl ⟨by rfl, ?_⟩) (by assumption) ?_
  rotate_left
  · (intro W hSw; have q0 := keepB hSw f0; have q1 := keepB hSw f1; have q2 := keepB hSw f2; have q3 := keepB hSw d0; have q4 := keepB hSw d1; have q5 := keepB hSw d2; have q6 := keepB hSw hr0; clear hSw; go_simp; all_goals first | with_reducible rfl | (simp [*]; done) | (intro hh; exfalso; omega) | fail)
  try simp only [Act.put, List.setIfInBounds_toArray, List.set_cons_zero, List.set_cons_succ]
  refine heldTake (i := 11) (v := ?_) (some 26) rfl rfl (by kernel_rfl) (by kernel_rfl) (by kernel_rfl) (fun _ _ _ h => h) (Or.inl ⟨by rfl, ?_⟩) (by assumption) ?_
  rotate_left
  · (intro W hSw; have q0 := keepB hSw f0; have q1 := keepB hSw f1; have q2 := keepB hSw f2; have q3 := keepB hSw d0; have q4 := keepB hSw d1; have q5 := keepB hSw d2; have q6 := keepB hSw hr0; clear hSw; go_simp; all_goals first | with_reducible rfl | (simp [*]; done) | (intro hh; exfalso; omega) | fail)
  try simp only [Act.put, List.setIfInBounds_toArray, List.set_cons_zero, List.set_cons_succ]
  refine heldTake (i := 12) (v := ?_) (some 27) rfl rfl (by kernel_rfl) (by kernel_rfl) (by kernel_rfl) (fun _ _ _ h => h) (Or.inl ⟨by rfl, ?_⟩) (by assumption) ?_
  rotate_left
  · (intro W hSw; have q0 := keepB hSw f0; have q1 := keepB hSw f1; have q2 := keepB hSw f2; have q3 := keepB hSw d0; have q4 := keepB hSw d1; have q5 := keepB hSw d2; have q6 := keepB hSw hr0; clear hSw; go_simp; all_goals first | with_reducible rfl | (simp [*]; done) | (intro hh; exfalso; omega) | fail)
  try simp only [Act.put, List.setIfInBounds_toArray, List.set_cons_zero, List.set_cons_succ]
  refine heldTake (i := 13) (v := ?_) (some 28) rfl rfl (by kernel_rfl) (by kernel_rfl) (by kernel_rfl) (fun _ _ _ h => h) (Or.inl ⟨by rfl, ?_⟩) (by assumption) ?_
  rotate_left
  · (intro W hSw; have q0 := keepB hSw f0; have q1 := keepB hSw f1; have q2 := keepB hSw f2; have q3 := keepB hSw d0; have q4 := keepB hSw d1; have q5 := keepB hSw d2; have q6 := keepB hSw hr0; clear hSw; go_simp; all_goals first | with_reducible rfl | (simp [*]; done) | (intro hh; exfalso; omega) | fail)
  try simp only [Act.put, List.setIfInBounds_toArray, List.set_cons_zero, List.set_cons_succ]
  refine heldTake (i := 14) (v := ?_) (some 29) rfl rfl (by kernel_rfl) (by kernel_rfl) (by kernel_rfl) (fun _ _ _ h => h) (Or.inl ⟨by rfl, ?_⟩) (by assumption) ?_
  rotate_left
  · (intro W hSw; have q0 := keepB hSw f0; have q1 := keepB hSw f1; have q2 := keepB hSw f2; have q3 := keepB hSw d0; have q4 := keepB hSw d1; have q5 := keepB hSw d2; have q6 := keepB hSw hr0; clear hSw; go_simp; all_goals first | with_reducible rfl | (simp [*]; done) | (intro hh; exfalso; omega) | fail)
  try simp only [Act.put, List.setIfInBounds_toArray, List.set_cons_zero, List.set_cons_succ]
  refine heldTake (i := 15) (v := ?_) (some 30) rfl rfl (by kernel_rfl) (by kernel_rfl) (by kernel_rfl) (fun _ _ _ h => h) (Or.inl ⟨by rfl, ?_⟩) (by assumption) ?_
  rotate_left
  · (intro W hSw; have q0 := keepB hSw f0; have q1 := keepB hSw f1; have q2 := keepB hSw f2; have q3 := keepB hSw d0; have q4 := keepB hSw d1; have q5 := keepB hSw d2; have q6 := keepB hSw hr0; clear hSw; go_simp; all_goals first | with_reducible rfl | (simp [*]; done) | (intro hh; exfalso; omega) | fail)
  try simp only [Act.put, List.setIfInBounds_toArray, List.set_cons_zero, List.set_cons_succ]
  refine heldTake (i := 16) (v := ?_) (some 31) rfl rfl (by kernel_rfl) (by kernel_rfl) (by kernel_rfl) (fun _ _ _ h => h) (Or.inl ⟨by rfl, ?_⟩) (by assumption) ?_
  rotate_left
  · (intro W hSw; have q0 := keepB hSw f0; have q1 := keepB hSw f1; have q2 := keepB hSw f2; have q3 := keepB hSw d0; have q4 := keepB hSw d1; have q5 := keepB hSw d2; have q6 := keepB hSw hr0; clear hSw; go_simp; all_goals first | with_reducible rfl | (simp [*]; done) | (intro hh; exfalso; omega) | fail)
  try simp only [Act.put, List.setIfInBounds_toArray, List.set_cons_zero, List.set_cons_succ]
  refine heldTake (i := 17) (v := ?_) (some 32) rfl rfl (by kernel_rfl) (by kernel_rfl) (by kernel_rfl) (fun _ _ _ h => h) (Or.inl ⟨by rfl, ?_⟩) (by assumption) ?_
  rotate_left
  · (intro W hSw; have q0 := keepB hSw f0; have q1 := keepB hSw f1; have q2 := keepB hSw f2; have q3 := keepB hSw d0; have q4 := keepB hSw d1; have q5 := keepB hSw d2; have q6 := keepB hSw hr0; clear hSw; go_simp; all_goals first | with_reducible rfl | (simp [*]; done) | (intro hh; exfalso; omega) | fail)
  try simp only [Act.put, List.setIfInBounds_toArray, List.set_cons_zero, List.set_cons_succ]
  refine heldTake (i := 18) (v := ?_) (some 33) rfl rfl (by kernel_rfl) (by kernel_rfl) (by kernel_rfl) (fun _ _ _ h => h) (Or.inl ⟨by rfl, ?_⟩) (by assumption) ?_
  rotate_left
  · (intro W hSw; have q0 := keepB hSw f0; have q1 := keepB hSw f1; have q2 := keepB hSw f2; have q3 := keepB hSw d0; have q4 := keepB hSw d1; have q5 := keepB hSw d2; have q6 := keepB hSw hr0; clear hSw; go_simp; all_goals first | with_reducible rfl | (simp [*]; done) | (intro hh; exfalso; omega) | fail)
  try simp only [Act.put, List.setIfInBounds_toArray, List.set_cons_zero, List.set_cons_succ]
  refine heldTake (i := 19) (v := ?_) (some 34) rfl rfl (by kernel_rfl) (by kernel_rfl) (by kernel_rfl) (fun _ _ _ h => h) (Or.inl ⟨by rfl, ?_⟩) (by assumption) ?_
  rotate_left
  · (intro W hSw; have q0 := keepB hSw f0; have q1 := keepB hSw f1; have q2 := keepB hSw f2; have q3 := keepB hSw d0; have q4 := keepB hSw d1; have q5 := keepB hSw d2; have q6 := keepB hSw hr0; clear hSw; go_simp; all_goals first | with_reducible rfl | (simp [*]; done) | (intro hh; exfalso; omega) | fail)
  try simp only [Act.put, List.setIfInBounds_toArray, List.set_cons_zero, List.set_cons_succ]
  refine heldTake (i := 20) (v := ?_) (some 35) rfl rfl (by kernel_rfl) (by kernel_rfl) (by kernel_rfl) (fun _ _ _ h => h) (Or.inl ⟨by rfl, ?_⟩) (by assumption) ?_
  rotate_left
  · (intro W hSw; have q0 := keepB hSw f0; have q1 := keepB hSw f1; have q2 := keepB hSw f2; have q3 := keepB hSw d0; have q4 := keepB hSw d1; have q5 := keepB hSw d2; have q6 := keepB hSw hr0; clear hSw; go_simp; all_goals first | with_reducible rfl | (simp [*]; done) | (intro hh; exfalso; omega) | fail)
  try simp only [Act.put, List.setIfInBounds_toArray, List.set_cons_zero, List.set_cons_succ]
  refine heldTake (i := 21) (v := ?_) (some 36) rfl rfl (by kernel_rfl) (by kernel_rfl) (by kernel_rfl) (fun _ _ _ h => h) (Or.inl ⟨by rfl, ?_⟩) (by assumption) ?_
  rotate_left
  · (intro W hSw; have q0 := keepB hSw f0; have q1 := keepB hSw f1; have q2 := keepB hSw f2; have q3 := keepB hSw d0; have q4 := keepB hSw d1; have q5 := keepB hSw d2; have q6 := keepB hSw hr0; clear hSw; go_simp; all_goals first | with_reducible rfl | (simp [*]; done) | (intro hh; exfalso; omega) | fail)
  try simp only [Act.put, List.setIfInBounds_toArray, List.set_cons_zero, List.set_cons_succ]
  refine heldTake (i := 22) (v := ?_) (some 37) rfl rfl (by kernel_rfl) (by kernel_rfl) (by kernel_rfl) (fun _ _ _ h => h) (Or.inl ⟨by rfl, ?_⟩) (by assumption) ?_
  rotate_left
  · (intro W hSw; have q0 := keepB hSw f0; have q1 := keepB hSw f1; have q2 := keepB hSw f2; have q3 := keepB hSw d0; have q4 := keepB hSw d1; have q5 := keepB hSw d2; have q6 := keepB hSw hr0; clear hSw; go_simp; all_goals first | with_reducible rfl | (simp [*]; done) | (intro hh; exfalso; omega) | fail)
  try simp only [Act.put, List.setIfInBounds_toArray, List.set_cons_zero, List.set_cons_succ]
  refine heldTake (i := 23) (v := ?_) (some 38) rfl rfl (by kernel_rfl) (by kernel_rfl) (by kernel_rfl) (fun _ _ _ h => h) (Or.inl ⟨by rfl, ?_⟩) (by assumption) ?_
  rotate_left
  · (intro W hSw; have q0 := keepB hSw f0; have q1 := keepB hSw f1; have q2 := keepB hSw f2; have q3 := keepB hSw d0; have q4 := keepB hSw d1; have q5 := keepB hSw d2; have q6 := keepB hSw hr0; clear hSw; go_simp; all_goals first | with_reducible rfl | (simp [*]; done) | (intro hh; exfalso; omega) | fail)
  try simp only [Act.put, List.setIfInBounds_toArray, List.set_cons_zero, List.set_cons_succ]
  refine heldTake (i := 24) (v := ?_) (some 39) rfl rfl (by kernel_rfl) (by kernel_rfl) (by kernel_rfl) (fun _ _ _ h => h) (Or.inl ⟨by rfl, ?_⟩) (by assumption) ?_
  rotate_left
  · (intro W hSw; have q0 := keepB hSw f0; have q1 := keepB hSw f1; have q2 := keepB hSw f2; have q3 := keepB hSw d0; have q4 := keepB hSw d1; have q5 := keepB hSw d2; have q6 := keepB hSw hr0; clear hSw; go_simp; all_goals first | with_reducible rfl | (simp [*]; done) | (intro hh; exfalso; omega) | fail)
  try simp only [Act.put, List.setIfInBounds_toArray, List.set_cons_zero, List.set_cons_succ]
  refine heldTake (i := 25) (v := ?_) (some 40) rfl rfl (by kernel_rfl) (by kernel_rfl) (by kernel_rfl) (fun _ _ _ h => h) (Or.inl ⟨by rfl, ?_⟩) (by assumption) ?_
  rotate_left
  · (intro W hSw; have q0 := keepB hSw f0; have q1 := keepB hSw f1; have q2 := keepB hSw f2; have q3 := keepB hSw d0; have q4 := keepB hSw d1; have q5 := keepB hSw d2; have q6 := keepB hSw hr0; clear hSw; go_simp; all_goals first | with_reducible rfl | (simp [*]; done) | (intro hh; exfalso; omega) | fail)
  try simp only [Act.put, List.setIfInBounds_toArray, List.set_cons_zero, List.set_cons_succ]
  refine wpAnyH_ready (rs := [26]) (by kernel_rfl) (by simp) ?_
  refine AllReadyH.cons rfl (fun K hK => ?_) AllReadyH.nil
  go_simp
  (go_at_call 129; refine (hasAll_any p q g A1 C.length c1 C _ (HC.out.below hHeld) (by omega) (by omega) (by omega) (by omega)).mono ?_; rintro e w1 ⟨rfl, hb1⟩)
  rw [hC]
  have hNx := belT hHeld hb1
  refine hK.out _ _ hNx (fun hNew => ?_)
  clear hK K hHeld hNx
  have hHeld := hNew; clear hNew hb1
  try simp only [Act.put, List.setIfInBounds_toArray, List.set_cons_zero, List.set_cons_succ]
  refine heldTake (i := 27) (v := ?_) (some 42) rfl rfl (by kernel_rfl) (by kernel_rfl) (by kernel_rfl) (fun _ _ _ h => h) (Or.inl ⟨by rfl, ?_⟩) (by assumption) ?_
  rotate_left
  · (intro W hSw; have q0 := keepB hSw f0; have q1 := keepB hSw f1; have q2 := keepB hSw f2; have q3 := keepB hSw d0; have q4 := keepB hSw d1; have q5 := keepB hSw d2; have q6 := keepB hSw hr0; clear hSw; go_simp; all_goals first | with_reducible rfl | (simp [*]; done) | (intro hh; exfalso; omega) | fail)
  try simp only [Act.put, List.setIfInBounds_toArray, List.set_cons_zero, List.set_cons_succ]
  refine heldTake (i := 28) (v := ?_) (some 43) rfl rfl (by kernel_rfl) (by kernel_rfl) (by kernel_rfl) (fun _ _ _ h => h) (Or.inl ⟨by rfl, ?_⟩) (by assumption) ?_
  rotate_left
  · (intro W hSw; have q0 := keepB hSw f0; have q1 := keepB hSw f1; have q2 := keepB hSw f2; have q3 := keepB hSw d0; have q4 := keepB hSw d1; have q5 := keepB hSw d2; have q6 := keepB hSw hr0; clear hSw; go_simp; all_goals first | with_reducible rfl | (simp [*]; done) | (intro hh; exfalso; omega) | fail)
  try simp only [Act.put, List.setIfInBounds_toArray, List.set_cons_zero, List.set_cons_succ]
  refine heldTake (i := 29) (v := ?_) (some 44) rfl rfl (by kernel_rfl) (by kernel_rfl) (by kernel_rfl) (fun _ _ _ h => h) (Or.inl ⟨by rfl, ?_⟩) (by assumption) ?_
  rotate_left
  · (intro W hSw; have q0 := keepB hSw f0; have q1 := keepB hSw f1; have q2 := keepB hSw f2; have q3 := keepB hSw d0; have q4 := keepB hSw d1; have q5 := keepB hSw d2; have q6 := keepB hSw hr0; clear hSw; go_simp; all_goals first | with_reducible rfl | (simp [*]; done) | (intro hh; exfalso; omega) | fail)
  try simp only [Act.put, List.setIfInBounds_toArray, List.set_cons_zero, List.set_cons_succ]
  refine heldTake (i := 30) (v := undef) (some 45) rfl rfl (by kernel_rfl) (by kernel_rfl) (by kernel_rfl) (fun _ _ _ h => h) (Or.inr ⟨by rfl, rfl⟩) (by assumption) ?_
  try simp only [Act.put, List.setIfInBounds_toArray, List.set_cons_zero, List.set_cons_succ]
  refine heldTake (i := 31) (v := undef) (some 46) rfl rfl (by kernel_rfl) (by kernel_rfl) (by kernel_rfl) (fun _ _ _ h => h) (Or.inr ⟨by rfl, rfl⟩) (by assumption) ?_
  try simp only [Act.put, List.setIfInBounds_toArray, List.set_cons_zero, List.set_cons_succ]
  refine heldTake (i := 32) (v := undef) (some 47) rfl rfl (by kernel_rfl) (by kernel_rfl) (by kernel_rfl) (fun _ _ _ h => h) (Or.inr ⟨by rfl, rfl⟩) (by assumption) ?_
  try simp only [Act.put, List.setIfInBounds_toArray, List.set_cons_zero, List.set_cons_succ]
  refine heldTake (i := 33) (v := undef) (some 48) rfl rfl (by kernel_rfl) (by kernel_rfl) (by kernel_rfl) (fun _ _ _ h => h) (Or.inr ⟨by rfl, rfl⟩) (by assumption) ?_
  try simp only [Act.put, List.setIfInBounds_toArray, List.set_cons_zero, List.set_cons_succ]
  refine heldTake (i := 34) (v := undef) (some 49) rfl rfl (by kernel_rfl) (by kernel_rfl) (by kernel_rfl) (fun _ _ _ h => h) (Or.inr ⟨by rfl, rfl⟩) (by assumption) ?_
  try simp only [Act.put, List.setIfInBounds_toArray, List.set_cons_zero, List.set_cons_succ]
  refine heldTake (i := 35) (v := ?_) (some 50) rfl rfl (by kernel_rfl) (by kernel_rfl) (by kernel_rfl) (fun _ _ _ h => h) (Or.inl ⟨by rfl, ?_⟩) (by assumption) ?_
  rotate_left
  · (intro W hSw; have q0 := keepB hSw f0; have q1 := keepB hSw f1; have q2 := keepB hSw f2; have q3 := keepB hSw d0; have q4 := keepB hSw d1; have q5 := keepB hSw d2; have q6 := keepB hSw hr0; clear hSw; go_simp; all_goals first | with_reducible rfl | (simp [*]; done) | (intro hh; exfalso; omega) | fail)
  try simp only [Act.put, List.setIfInBounds_toArray, List.set_cons_zero, List.set_cons_succ]
  refine wpAnyH_done (by kernel_rfl) ?_ _
  go_wp2
  go_ret
  exact ⟨rfl, belT hb0 hHeld⟩

set_option maxRecDepth 100000 in
set_option maxHeartbeats 4000000 in
theorem verifyLinear_4 (p q g : Int) (s : ByteArray) (R : Option Addr) (r rc : Nat) (bs : List (Option Addr × Nat × List Int)) (A : Option Addr) (n c : Nat) (im : List Int) (A1 A2 A3 : Option Addr) (c1 c2 c3 : Nat) (C H Z : List Int) (w : World)
    (hg : goodB p q g = true) (hs : s.size ≤ 40) (h : Grid w R r bs) (hsb : sbB p q bs = true) (hi : Ints w A n im) (hn : n = r) (him : im.all (hasB p q) = true) (h1 : Ints w A1 C.length C) (h2 : Ints w A2 H.length H) (h3 : Ints w A3 Z.length Z) (t1 : C.length = r) (t2 : H.length = 1) (t3 : Z.length = (rowK bs 0).length) (hC : C.all (hasB p q) = true) (hZ : Z.all (fun z => inB z 0 (q - 1)) = false) :
    Calls Try.prog 152 #[.agg #[.int .i64 p, .int .i64 q, .int .i64 g], .string s, .slice R r rc, .slice A n c, .agg #[.slice A1 C.length c1, .slice A2 H.length c2, .slice A3 Z.length c3]] w fun e w' => e = .returned (.bool (false)) ∧ Below w.heap.size w w' := by
  have hl := h.len
  subst hl
  subst hn
  obtain ⟨g1, g2, g3, g4, g5, g6⟩ := good_om hg
  have hsv := SB.of hsb
  have HSB := Lib.hid hsv
  obtain ⟨s1, s2, s3, s4, s5⟩ := hsv
  have hlc := h1.le
  have hlh := h2.le
  have hlz := h3.le
  obtain ⟨b, off, eR, hgb, hr0, hrow0⟩ := h.at_ (show 0 < bs.length by omega)
  rw [Nat.add_zero] at hr0
  have hlr := hrow0.le
  have e0 : (bs.getD 0 dRow).2.2 = rowK bs 0 := rfl
  rw [e0] at hr0 hlr
  subst eR
  have hpos : (0 : Int) < (bs.length : Int) := by omega
  have hposn : 0 < bs.length := by omega
  have hb0 : Below w.heap.size w ((w.alloc (.cells #[.int .i64 p, .int .i64 q, .int .i64 g] 27)).alloc (.cells #[.slice A1 C.length c1, .slice A2 H.length c2, .slice A3 Z.length c3] 52)) := belA (belA (Below.refl _ _))
  have HI := Lib.hid (h.below hb0)
  have HM := Lib.hid (hi.below hb0)
  have HC := Lib.hid (h1.below hb0)
  have HH := Lib.hid (h2.below hb0)
  have HZ := Lib.hid (h3.below hb0)
  have hz1 : w.heap.size + 1 < ((w.alloc (.cells #[.int .i64 p, .int .i64 q, .int .i64 g] 27)).alloc (.cells #[.slice A1 C.length c1, .slice A2 H.length c2, .slice A3 Z.length c3] 52)).heap.size := by simp
  have f0 : ((w.alloc (.cells #[.int .i64 p, .int .i64 q, .int .i64 g] 27)).alloc (.cells #[.slice A1 C.length c1, .slice A2 H.length c2, .slice A3 Z.length c3] 52)).cell? ⟨w.heap.size, 0, none⟩ = some (.int .i64 p) := by rw [World.cell?_alloc_past _ _ _ (by simp <;> omega), World.cell?_alloc_at _ _ _ _ (by simp)]; rfl
  have f1 : ((w.alloc (.cells #[.int .i64 p, .int .i64 q, .int .i64 g] 27)).alloc (.cells #[.slice A1 C.length c1, .slice A2 H.length c2, .slice A3 Z.length c3] 52)).cell? ⟨w.heap.size, 1, none⟩ = some (.int .i64 q) := by rw [World.cell?_alloc_past _ _ _ (by simp <;> omega), World.cell?_alloc_at _ _ _ _ (by simp)]; rfl
  have f2 : ((w.alloc (.cells #[.int .i64 p, .int .i64 q, .int .i64 g] 27)).alloc (.cells #[.slice A1 C.length c1, .slice A2 H.length c2, .slice A3 Z.length c3] 52)).cell? ⟨w.heap.size, 2, none⟩ = some (.int .i64 g) := by rw [World.cell?_alloc_past _ _ _ (by simp <;> omega), World.cell?_alloc_at _ _ _ _ (by simp)]; rfl
  have d0 : ((w.alloc (.cells #[.int .i64 p, .int .i64 q, .int .i64 g] 27)).alloc (.cells #[.slice A1 C.length c1, .slice A2 H.length c2, .slice A3 Z.length c3] 52)).cell? ⟨w.heap.size + 1, 0, none⟩ = some (.slice A1 C.length c1) := by rw [World.cell?_alloc_at _ _ _ _ (by simp)]; rfl
  have d1 : ((w.alloc (.cells #[.int .i64 p, .int .i64 q, .int .i64 g] 27)).alloc (.cells #[.slice A1 C.length c1, .slice A2 H.length c2, .slice A3 Z.length c3] 52)).cell? ⟨w.heap.size + 1, 1, none⟩ = some (.slice A2 H.length c2) := by rw [World.cell?_alloc_at _ _ _ _ (by simp)]; rfl
  have d2 : ((w.alloc (.cells #[.int .i64 p, .int .i64 q, .int .i64 g] 27)).alloc (.cells #[.slice A1 C.length c1, .slice A2 H.length c2, .slice A3 Z.length c3] 52)).cell? ⟨w.heap.size + 1, 2, none⟩ = some (.slice A3 Z.length c3) := by rw [World.cell?_alloc_at _ _ _ _ (by simp)]; rfl
  replace hr0 := keepB hb0 hr0
  clear h hi h1 h2 h3 hrow0 e0 s5 hsb
  have x1 : ((C.length : Int) != (bs.length : Int)) = false := by simp; omega
  have HT1 := Lib.hid t1
  clear t1
  have x2 : ((H.length : Int) != 1) = false := by simp; omega
  have HT2 := Lib.hid t2
  clear t2
  have x3 : ((Z.length : Int) != ((rowK bs 0).length : Int)) = false := by simp; omega
  have HT3 := Lib.hid t3
  clear t3
  go_enter Try.func152, Try.ntmps152
  go_wp2
  generalize hW0 : ((w.alloc (.cells #[.int .i64 p, .int .i64 q, .int .i64 g] 27)).alloc (.cells #[.slice A1 C.length c1, .slice A2 H.length c2, .slice A3 Z.length c3] 52)) = W0 at f0 f1 f2 d0 d1 d2 hr0 hz1 hb0 HI HM HC HH HZ
  clear hW0
  refine wp_region_held_drew (S := fun W => Below W0.heap.size W0 W) (by kernel_rfl) (belD (Below.refl _ _)) (fun hHeld => ?_)
  refine heldTake (i := 0) (v := ?_) (some 15) rfl rfl (by kernel_rfl) (by kernel_rfl) (by kernel_rfl) (fun _ _ _ h => h) (Or.inl ⟨by rfl, ?_⟩) (by assumption) ?_
  rotate_left
  · (intro W hSw; have q0 := keepB hSw f0; have q1 := keepB hSw f1; have q2 := keepB hSw f2; have q3 := keepB hSw d0; have q4 := keepB hSw d1; have q5 := keepB hSw d2; have q6 := keepB hSw hr0; clear hSw; go_simp; all_goals first | with_reducible rfl | (simp [*]; done) | (intro hh; exfalso; omega) | fail)
  try simp only [Act.put, List.setIfInBounds_toArray, List.set_cons_zero, List.set_cons_succ]
  refine heldTake (i := 1) (v := ?_) (some 16) rfl rfl (by kernel_rfl) (by kernel_rfl) (by kernel_rfl) (fun _ _ _ h => h) (Or.inl ⟨by rfl, ?_⟩) (by assumption) ?_
  rotate_left
  · (intro W hSw; have q0 := keepB hSw f0; have q1 := keepB hSw f1; have q2 := keepB hSw f2; have q3 := keepB hSw d0; have q4 := keepB hSw d1; have q5 := keepB hSw d2; have q6 := keepB hSw hr0; clear hSw; go_simp; all_goals first | with_reducible rfl | (simp [*]; done) | (intro hh; exfalso; omega) | fail)
  try simp only [Act.put, List.setIfInBounds_toArray, List.set_cons_zero, List.set_cons_succ]
  refine heldTake (i := 2) (v := ?_) (some 17) rfl rfl (by kernel_rfl) (by kernel_rfl) (by kernel_rfl) (fun _ _ _ h => h) (Or.inl ⟨by rfl, ?_⟩) (by assumption) ?_
  rotate_left
  · (intro W hSw; have q0 := keepB hSw f0; have q1 := keepB hSw f1; have q2 := keepB hSw f2; have q3 := keepB hSw d0; have q4 := keepB hSw d1; have q5 := keepB hSw d2; have q6 := keepB hSw hr0; clear hSw; go_simp; all_goals first | with_reducible rfl | (simp [*]; done) | (intro hh; exfalso; omega) | fail)
  try simp only [Act.put, List.setIfInBounds_toArray, List.set_cons_zero, List.set_cons_succ]
  refine heldTake (i := 3) (v := ?_) (some 18) rfl rfl (by kernel_rfl) (by kernel_rfl) (by kernel_rfl) (fun _ _ _ h => h) (Or.inl ⟨by rfl, ?_⟩) (by assumption) ?_
  rotate_left
  · (intro W hSw; have q0 := keepB hSw f0; have q1 := keepB hSw f1; have q2 := keepB hSw f2; have q3 := keepB hSw d0; have q4 := keepB hSw d1; have q5 := keepB hSw d2; have q6 := keepB hSw hr0; clear hSw; go_simp; all_goals first | with_reducible rfl | (simp [*]; done) | (intro hh; exfalso; omega) | fail)
  try simp only [Act.put, List.setIfInBounds_toArray, List.set_cons_zero, List.set_cons_succ]
  refine heldTake (i := 4) (v := ?_) (some 19) rfl rfl (by kernel_rfl) (by kernel_rfl) (by kernel_rfl) (fun _ _ _ h => h) (Or.inl ⟨by rfl, ?_⟩) (by assumption) ?_
  rotate_left
  · (intro W hSw; have q0 := keepB hSw f0; have q1 := keepB hSw f1; have q2 := keepB hSw f2; have q3 := keepB hSw d0; have q4 := keepB hSw d1; have q5 := keepB hSw d2; have q6 := keepB hSw hr0; clear hSw; go_simp; all_goals first | with_reducible rfl | (simp [*]; done) | (intro hh; exfalso; omega) | fail)
  try simp only [Act.put, List.setIfInBounds_toArray, List.set_cons_zero, List.set_cons_succ]
  refine heldTake (i := 5) (v := ?_) (some 20) rfl rfl (by kernel_rfl) (by kernel_rfl) (by kernel_rfl) (fun _ _ _ h => h) (Or.inl ⟨by rfl, ?_⟩) (by assumption) ?_
  rotate_left
  · (intro W hSw; have q0 := keepB hSw f0; have q1 := keepB hSw f1; have q2 := keepB hSw f2; have q3 := keepB hSw d0; have q4 := keepB hSw d1; have q5 := keepB hSw d2; have q6 := keepB hSw hr0; clear hSw; go_simp; all_goals first | with_reducible rfl | (simp [*]; done) | (intro hh; exfalso; omega) | fail)
  try simp only [Act.put, List.setIfInBounds_toArray, List.set_cons_zero, List.set_cons_succ]
  refine heldTake (i := 6) (v := ?_) (some 21) rfl rfl (by kernel_rfl) (by kernel_rfl) (by kernel_rfl) (fun _ _ _ h => h) (Or.inl ⟨by rfl, ?_⟩) (by assumption) ?_
  rotate_left
  · (intro W hSw; have q0 := keepB hSw f0; have q1 := keepB hSw f1; have q2 := keepB hSw f2; have q3 := keepB hSw d0; have q4 := keepB hSw d1; have q5 := keepB hSw d2; have q6 := keepB hSw hr0; clear hSw; go_simp; all_goals first | with_reducible rfl | (simp [*]; done) | (intro hh; exfalso; omega) | fail)
  try simp only [Act.put, List.setIfInBounds_toArray, List.set_cons_zero, List.set_cons_succ]
  refine heldTake (i := 7) (v := ?_) (some 22) rfl rfl (by kernel_rfl) (by kernel_rfl) (by kernel_rfl) (fun _ _ _ h => h) (Or.inl ⟨by rfl, ?_⟩) (by assumption) ?_
  rotate_left
  · (intro W hSw; have q0 := keepB hSw f0; have q1 := keepB hSw f1; have q2 := keepB hSw f2; have q3 := keepB hSw d0; have q4 := keepB hSw d1; have q5 := keepB hSw d2; have q6 := keepB hSw hr0; clear hSw; go_simp; all_goals first | with_reducible rfl | (simp [*]; done) | (intro hh; exfalso; omega) | fail)
  try simp only [Act.put, List.setIfInBounds_toArray, List.set_cons_zero, List.set_cons_succ]
  refine heldTake (i := 8) (v := ?_) (some 23) rfl rfl (by kernel_rfl) (by kernel_rfl) (by kernel_rfl) (fun _ _ _ h => h) (Or.inl ⟨by rfl, ?_⟩) (by assumption) ?_
  rotate_left
  · (intro W hSw; have q0 := keepB hSw f0; have q1 := keepB hSw f1; have q2 := keepB hSw f2; have q3 := keepB hSw d0; have q4 := keepB hSw d1; have q5 := keepB hSw d2; have q6 := keepB hSw hr0; clear hSw; go_simp; all_goals first | with_reducible rfl | (simp [*]; done) | (intro hh; exfalso; omega) | fail)
  try simp only [Act.put, List.setIfInBounds_toArray, List.set_cons_zero, List.set_cons_succ]
  refine heldTake (i := 9) (v := ?_) (some 24) rfl rfl (by kernel_rfl) (by kernel_rfl) (by kernel_rfl) (fun _ _ _ h => h) (Or.inl ⟨by rfl, ?_⟩) (by assumption) ?_
  rotate_left
  · (intro W hSw; have q0 := keepB hSw f0; have q1 := keepB hSw f1; have q2 := keepB hSw f2; have q3 := keepB hSw d0; have q4 := keepB hSw d1; have q5 := keepB hSw d2; have q6 := keepB hSw hr0; clear hSw; go_simp; all_goals first | with_reducible rfl | (simp [*]; done) | (intro hh; exfalso; omega) | fail)
  try simp only [Act.put, List.setIfInBounds_toArray, List.set_cons_zero, List.set_cons_succ]
  refine heldTake (i := 10) (v := ?_) (some 25) rfl rfl (by kernel_rfl) (by kernel_rfl) (by kernel_rfl) (fun _ _ _ h => h) (Or.inl ⟨by rfl, ?_⟩) (by assumption) ?_
  rotate_left
  · (intro W hSw; have q0 := keepB hSw f0; have q1 := keepB hSw f1; have q2 := keepB hSw f2; have q3 := keepB hSw d0; have q4 := keepB hSw d1; have q5 := keepB hSw d2; have q6 := keepB hSw hr0; clear hSw; go_simp; all_goals first | with_reducible rfl | (simp [*]; done) | (intro hh; exfalso; omega) | fail)
  try simp only [Act.put, List.setIfInBounds_toArray, List.set_cons_zero, List.set_cons_succ]
  refine heldTake (i := 11) (v := ?_) (some 26) rfl rfl (by kernel_rfl) (by kernel_rfl) (by kernel_rfl) (fun _ _ _ h => h) (Or.inl ⟨by rfl, ?_⟩) (by assumption) ?_
  rotate_left
  · (intro W hSw; have q0 := keepB hSw f0; have q1 := keepB hSw f1; have q2 := keepB hSw f2; have q3 := keepB hSw d0; have q4 := keepB hSw d1; have q5 := keepB hSw d2; have q6 := keepB hSw hr0; clear hSw; go_simp; all_goals first | with_reducible rfl | (simp [*]; done) | (intro hh; exfalso; omega) | fail)
  try simp only [Act.put, List.setIfInBounds_toArray, List.set_cons_zero, List.set_cons_succ]
  refine heldTake (i := 12) (v := ?_) (some 27) rfl rfl (by kernel_rfl) (by kernel_rfl) (by kernel_rfl) (fun _ _ _ h => h) (Or.inl ⟨by rfl, ?_⟩) (by assumption) ?_
  rotate_left
  · (intro W hSw; have q0 := keepB hSw f0; have q1 := keepB hSw f1; have q2 := keepB hSw f2; have q3 := keepB hSw d0; have q4 := keepB hSw d1; have q5 := keepB hSw d2; have q6 := keepB hSw hr0; clear hSw; go_simp; all_goals first | with_reducible rfl | (simp [*]; done) | (intro hh; exfalso; omega) | fail)
  try simp only [Act.put, List.setIfInBounds_toArray, List.set_cons_zero, List.set_cons_succ]
  refine heldTake (i := 13) (v := ?_) (some 28) rfl rfl (by kernel_rfl) (by kernel_rfl) (by kernel_rfl) (fun _ _ _ h => h) (Or.inl ⟨by rfl, ?_⟩) (by assumption) ?_
  rotate_left
  · (intro W hSw; have q0 := keepB hSw f0; have q1 := keepB hSw f1; have q2 := keepB hSw f2; have q3 := keepB hSw d0; have q4 := keepB hSw d1; have q5 := keepB hSw d2; have q6 := keepB hSw hr0; clear hSw; go_simp; all_goals first | with_reducible rfl | (simp [*]; done) | (intro hh; exfalso; omega) | fail)
  try simp only [Act.put, List.setIfInBounds_toArray, List.set_cons_zero, List.set_cons_succ]
  refine heldTake (i := 14) (v := ?_) (some 29) rfl rfl (by kernel_rfl) (by kernel_rfl) (by kernel_rfl) (fun _ _ _ h => h) (Or.inl ⟨by rfl, ?_⟩) (by assumption) ?_
  rotate_left
  · (intro W hSw; have q0 := keepB hSw f0; have q1 := keepB hSw f1; have q2 := keepB hSw f2; have q3 := keepB hSw d0; have q4 := keepB hSw d1; have q5 := keepB hSw d2; have q6 := keepB hSw hr0; clear hSw; go_simp; all_goals first | with_reducible rfl | (simp [*]; done) | (intro hh; exfalso; omega) | fail)
  try simp only [Act.put, List.setIfInBounds_toArray, List.set_cons_zero, List.set_cons_succ]
  refine heldTake (i := 15) (v := ?_) (some 30) rfl rfl (by kernel_rfl) (by kernel_rfl) (by kernel_rfl) (fun _ _ _ h => h) (Or.inl ⟨by rfl, ?_⟩) (by assumption) ?_
  rotate_left
  · (intro W hSw; have q0 := keepB hSw f0; have q1 := keepB hSw f1; have q2 := keepB hSw f2; have q3 := keepB hSw d0; have q4 := keepB hSw d1; have q5 := keepB hSw d2; have q6 := keepB hSw hr0; clear hSw; go_simp; all_goals first | with_reducible rfl | (simp [*]; done) | (intro hh; exfalso; omega) | fail)
  try simp only [Act.put, List.setIfInBounds_toArray, List.set_cons_zero, List.set_cons_succ]
  refine heldTake (i := 16) (v := ?_) (some 31) rfl rfl (by kernel_rfl) (by kernel_rfl) (by kernel_rfl) (fun _ _ _ h => h) (Or.inl ⟨by rfl, ?_⟩) (by assumption) ?_
  rotate_left
  · (intro W hSw; have q0 := keepB hSw f0; have q1 := keepB hSw f1; have q2 := keepB hSw f2; have q3 := keepB hSw d0; have q4 := keepB hSw d1; have q5 := keepB hSw d2; have q6 := keepB hSw hr0; clear hSw; go_simp; all_goals first | with_reducible rfl | (simp [*]; done) | (intro hh; exfalso; omega) | fail)
  try simp only [Act.put, List.setIfInBounds_toArray, List.set_cons_zero, List.set_cons_succ]
  refine heldTake (i := 17) (v := ?_) (some 32) rfl rfl (by kernel_rfl) (by kernel_rfl) (by kernel_rfl) (fun _ _ _ h => h) (Or.inl ⟨by rfl, ?_⟩) (by assumption) ?_
  rotate_left
  · (intro W hSw; have q0 := keepB hSw f0; have q1 := keepB hSw f1; have q2 := keepB hSw f2; have q3 := keepB hSw d0; have q4 := keepB hSw d1; have q5 := keepB hSw d2; have q6 := keepB hSw hr0; clear hSw; go_simp; all_goals first | with_reducible rfl | (simp [*]; done) | (intro hh; exfalso; omega) | fail)
  try simp only [Act.put, List.setIfInBounds_toArray, List.set_cons_zero, List.set_cons_succ]
  refine heldTake (i := 18) (v := ?_) (some 33) rfl rfl (by kernel_rfl) (by kernel_rfl) (by kernel_rfl) (fun _ _ _ h => h) (Or.inl ⟨by rfl, ?_⟩) (by assumption) ?_
  rotate_left
  · (intro W hSw; have q0 := keepB hSw f0; have q1 := keepB hSw f1; have q2 := keepB hSw f2; have q3 := keepB hSw d0; have q4 := keepB hSw d1; have q5 := keepB hSw d2; have q6 := keepB hSw hr0; clear hSw; go_simp; all_goals first | with_reducible rfl | (simp [*]; done) | (intro hh; exfalso; omega) | fail)
  try simp only [Act.put, List.setIfInBounds_toArray, List.set_cons_zero, List.set_cons_succ]
  refine heldTake (i := 19) (v := ?_) (some 34) rfl rfl (by kernel_rfl) (by kernel_rfl) (by kernel_rfl) (fun _ _ _ h => h) (Or.inl ⟨by rfl, ?_⟩) (by assumption) ?_
  rotate_left
  · (intro W hSw; have q0 := keepB hSw f0; have q1 := keepB hSw f1; have q2 := keepB hSw f2; have q3 := keepB hSw d0; have q4 := keepB hSw d1; have q5 := keepB hSw d2; have q6 := keepB hSw hr0; clear hSw; go_simp; all_goals first | with_reducible rfl | (simp [*]; done) | (intro hh; exfalso; omega) | fail)
  try simp only [Act.put, List.setIfInBounds_toArray, List.set_cons_zero, List.set_cons_succ]
  refine heldTake (i := 20) (v := ?_) (some 35) rfl rfl (by kernel_rfl) (by kernel_rfl) (by kernel_rfl) (fun _ _ _ h => h) (Or.inl ⟨by rfl, ?_⟩) (by assumption) ?_
  rotate_left
  · (intro W hSw; have q0 := keepB hSw f0; have q1 := keepB hSw f1; have q2 := keepB hSw f2; have q3 := keepB hSw d0; have q4 := keepB hSw d1; have q5 := keepB hSw d2; have q6 := keepB hSw hr0; clear hSw; go_simp; all_goals first | with_reducible rfl | (simp [*]; done) | (intro hh; exfalso; omega) | fail)
  try simp only [Act.put, List.setIfInBounds_toArray, List.set_cons_zero, List.set_cons_succ]
  refine heldTake (i := 21) (v := ?_) (some 36) rfl rfl (by kernel_rfl) (by kernel_rfl) (by kernel_rfl) (fun _ _ _ h => h) (Or.inl ⟨by rfl, ?_⟩) (by assumption) ?_
  rotate_left
  · (intro W hSw; have q0 := keepB hSw f0; have q1 := keepB hSw f1; have q2 := keepB hSw f2; have q3 := keepB hSw d0; have q4 := keepB hSw d1; have q5 := keepB hSw d2; have q6 := keepB hSw hr0; clear hSw; go_simp; all_goals first | with_reducible rfl | (simp [*]; done) | (intro hh; exfalso; omega) | fail)
  try simp only [Act.put, List.setIfInBounds_toArray, List.set_cons_zero, List.set_cons_succ]
  refine heldTake (i := 22) (v := ?_) (some 37) rfl rfl (by kernel_rfl) (by kernel_rfl) (by kernel_rfl) (fun _ _ _ h => h) (Or.inl ⟨by rfl, ?_⟩) (by assumption) ?_
  rotate_left
  · (intro W hSw; have q0 := keepB hSw f0; have q1 := keepB hSw f1; have q2 := keepB hSw f2; have q3 := keepB hSw d0; have q4 := keepB hSw d1; have q5 := keepB hSw d2; have q6 := keepB hSw hr0; clear hSw; go_simp; all_goals first | with_reducible rfl | (simp [*]; done) | (intro hh; exfalso; omega) | fail)
  try simp only [Act.put, List.setIfInBounds_toArray, List.set_cons_zero, List.set_cons_succ]
  refine heldTake (i := 23) (v := ?_) (some 38) rfl rfl (by kernel_rfl) (by kernel_rfl) (by kernel_rfl) (fun _ _ _ h => h) (Or.inl ⟨by rfl, ?_⟩) (by assumption) ?_
  rotate_left
  · (intro W hSw; have q0 := keepB hSw f0; have q1 := keepB hSw f1; have q2 := keepB hSw f2; have q3 := keepB hSw d0; have q4 := keepB hSw d1; have q5 := keepB hSw d2; have q6 := keepB hSw hr0; clear hSw; go_simp; all_goals first | with_reducible rfl | (simp [*]; done) | (intro hh; exfalso; omega) | fail)
  try simp only [Act.put, List.setIfInBounds_toArray, List.set_cons_zero, List.set_cons_succ]
  refine heldTake (i := 24) (v := ?_) (some 39) rfl rfl (by kernel_rfl) (by kernel_rfl) (by kernel_rfl) (fun _ _ _ h => h) (Or.inl ⟨by rfl, ?_⟩) (by assumption) ?_
  rotate_left
  · (intro W hSw; have q0 := keepB hSw f0; have q1 := keepB hSw f1; have q2 := keepB hSw f2; have q3 := keepB hSw d0; have q4 := keepB hSw d1; have q5 := keepB hSw d2; have q6 := keepB hSw hr0; clear hSw; go_simp; all_goals first | with_reducible rfl | (simp [*]; done) | (intro hh; exfalso; omega) | fail)
  try simp only [Act.put, List.setIfInBounds_toArray, List.set_cons_zero, List.set_cons_succ]
  refine heldTake (i := 25) (v := ?_) (some 40) rfl rfl (by kernel_rfl) (by kernel_rfl) (by kernel_rfl) (fun _ _ _ h => h) (Or.inl ⟨by rfl, ?_⟩) (by assumption) ?_
  rotate_left
  · (intro W hSw; have q0 := keepB hSw f0; have q1 := keepB hSw f1; have q2 := keepB hSw f2; have q3 := keepB hSw d0; have q4 := keepB hSw d1; have q5 := keepB hSw d2; have q6 := keepB hSw hr0; clear hSw; go_simp; all_goals first | with_reducible rfl | (simp [*]; done) | (intro hh; exfalso; omega) | fail)
  try simp only [Act.put, List.setIfInBounds_toArray, List.set_cons_zero, List.set_cons_succ]
  refine wpAnyH_ready (rs := [26]) (by kernel_rfl) (by simp) ?_
  refine AllReadyH.cons rfl (fun K hK => ?_) AllReadyH.nil
  go_simp
  (go_at_call 129; refine (hasAll_any p q g A1 C.length c1 C _ (HC.out.below hHeld) (by omega) (by omega) (by omega) (by omega)).mono ?_; rintro e w1 ⟨rfl, hb1⟩)
  rw [hC]
  have hNx := belT hHeld hb1
  refine hK.out _ _ hNx (fun hNew => ?_)
  clear hK K hHeld hNx
  have hHeld := hNew; clear hNew hb1
  try simp only [Act.put, List.setIfInBounds_toArray, List.set_cons_zero, List.set_cons_succ]
  refine heldTake (i := 27) (v := ?_) (some 42) rfl rfl (by kernel_rfl) (by kernel_rfl) (by kernel_rfl) (fun _ _ _ h => h) (Or.inl ⟨by rfl, ?_⟩) (by assumption) ?_
  rotate_left
  · (intro W hSw; have q0 := keepB hSw f0; have q1 := keepB hSw f1; have q2 := keepB hSw f2; have q3 := keepB hSw d0; have q4 := keepB hSw d1; have q5 := keepB hSw d2; have q6 := keepB hSw hr0; clear hSw; go_simp; all_goals first | with_reducible rfl | (simp [*]; done) | (intro hh; exfalso; omega) | fail)
  try simp only [Act.put, List.setIfInBounds_toArray, List.set_cons_zero, List.set_cons_succ]
  refine heldTake (i := 28) (v := ?_) (some 43) rfl rfl (by kernel_rfl) (by kernel_rfl) (by kernel_rfl) (fun _ _ _ h => h) (Or.inl ⟨by rfl, ?_⟩) (by assumption) ?_
  rotate_left
  · (intro W hSw; have q0 := keepB hSw f0; have q1 := keepB hSw f1; have q2 := keepB hSw f2; have q3 := keepB hSw d0; have q4 := keepB hSw d1; have q5 := keepB hSw d2; have q6 := keepB hSw hr0; clear hSw; go_simp; all_goals first | with_reducible rfl | (simp [*]; done) | (intro hh; exfalso; omega) | fail)
  try simp only [Act.put, List.setIfInBounds_toArray, List.set_cons_zero, List.set_cons_succ]
  refine heldTake (i := 29) (v := ?_) (some 44) rfl rfl (by kernel_rfl) (by kernel_rfl) (by kernel_rfl) (fun _ _ _ h => h) (Or.inl ⟨by rfl, ?_⟩) (by assumption) ?_
  rotate_left
  · (intro W hSw; have q0 := keepB hSw f0; have q1 := keepB hSw f1; have q2 := keepB hSw f2; have q3 := keepB hSw d0; have q4 := keepB hSw d1; have q5 := keepB hSw d2; have q6 := keepB hSw hr0; clear hSw; go_simp; all_goals first | with_reducible rfl | (simp [*]; done) | (intro hh; exfalso; omega) | fail)
  try simp only [Act.put, List.setIfInBounds_toArray, List.set_cons_zero, List.set_cons_succ]
  refine heldTake (i := 30) (v := ?_) (some 45) rfl rfl (by kernel_rfl) (by kernel_rfl) (by kernel_rfl) (fun _ _ _ h => h) (Or.inl ⟨by rfl, ?_⟩) (by assumption) ?_
  rotate_left
  · (intro W hSw; have q0 := keepB hSw f0; have q1 := keepB hSw f1; have q2 := keepB hSw f2; have q3 := keepB hSw d0; have q4 := keepB hSw d1; have q5 := keepB hSw d2; have q6 := keepB hSw hr0; clear hSw; go_simp; all_goals first | with_reducible rfl | (simp [*]; done) | (intro hh; exfalso; omega) | fail)
  try simp only [Act.put, List.setIfInBounds_toArray, List.set_cons_zero, List.set_cons_succ]
  refine heldTake (i := 31) (v := ?_) (some 46) rfl rfl (by kernel_rfl) (by kernel_rfl) (by kernel_rfl) (fun _ _ _ h => h) (Or.inl ⟨by rfl, ?_⟩) (by assumption) ?_
  rotate_left
  · (intro W hSw; have q0 := keepB hSw f0; have q1 := keepB hSw f1; have q2 := keepB hSw f2; have q3 := keepB hSw d0; have q4 := keepB hSw d1; have q5 := keepB hSw d2; have q6 := keepB hSw hr0; clear hSw; go_simp; all_goals first | with_reducible rfl | (simp [*]; done) | (intro hh; exfalso; omega) | fail)
  try simp only [Act.put, List.setIfInBounds_toArray, List.set_cons_zero, List.set_cons_succ]
  refine heldTake (i := 32) (v := ?_) (some 47) rfl rfl (by kernel_rfl) (by kernel_rfl) (by kernel_rfl) (fun _ _ _ h => h) (Or.inl ⟨by rfl, ?_⟩) (by assumption) ?_
  rotate_left
  · (intro W hSw; have q0 := keepB hSw f0; have q1 := keepB hSw f1; have q2 := keepB hSw f2; have q3 := keepB hSw d0; have q4 := keepB hSw d1; have q5 := keepB hSw d2; have q6 := keepB hSw hr0; clear hSw; go_simp; all_goals first | with_reducible rfl | (simp [*]; done) | (intro hh; exfalso; omega) | fail)
  try simp only [Act.put, List.setIfInBounds_toArray, List.set_cons_zero, List.set_cons_succ]
  refine wpAnyH_ready (rs := [33]) (by kernel_rfl) (by simp) ?_
  refine AllReadyH.cons rfl (fun K hK => ?_) AllReadyH.nil
  go_simp
  (go_at_call 91; refine (areExps_any p q g A3 Z.length c3 Z _ (HZ.out.below hHeld) (by omega) (by omega)).mono ?_; rintro e w1 ⟨rfl, hb1⟩)
  rw [hZ]
  have hNx := belT hHeld hb1
  refine hK.out _ _ hNx (fun hNew => ?_)
  clear hK K hHeld hNx
  have hHeld := hNew; clear hNew hb1
  try simp only [Act.put, List.setIfInBounds_toArray, List.set_cons_zero, List.set_cons_succ]
  refine heldTake (i := 34) (v := ?_) (some 49) rfl rfl (by kernel_rfl) (by kernel_rfl) (by kernel_rfl) (fun _ _ _ h => h) (Or.inl ⟨by rfl, ?_⟩) (by assumption) ?_
  rotate_left
  · (intro W hSw; have q0 := keepB hSw f0; have q1 := keepB hSw f1; have q2 := keepB hSw f2; have q3 := keepB hSw d0; have q4 := keepB hSw d1; have q5 := keepB hSw d2; have q6 := keepB hSw hr0; clear hSw; go_simp; all_goals first | with_reducible rfl | (simp [*]; done) | (intro hh; exfalso; omega) | fail)
  try simp only [Act.put, List.setIfInBounds_toArray, List.set_cons_zero, List.set_cons_succ]
  refine heldTake (i := 35) (v := ?_) (some 50) rfl rfl (by kernel_rfl) (by kernel_rfl) (by kernel_rfl) (fun _ _ _ h => h) (Or.inl ⟨by rfl, ?_⟩) (by assumption) ?_
  rotate_left
  · (intro W hSw; have q0 := keepB hSw f0; have q1 := keepB hSw f1; have q2 := keepB hSw f2; have q3 := keepB hSw d0; have q4 := keepB hSw d1; have q5 := keepB hSw d2; have q6 := keepB hSw hr0; clear hSw; go_simp; all_goals first | with_reducible rfl | (simp [*]; done) | (intro hh; exfalso; omega) | fail)
  try simp only [Act.put, List.setIfInBounds_toArray, List.set_cons_zero, List.set_cons_succ]
  refine wpAnyH_done (by kernel_rfl) ?_ _
  go_wp2
  go_ret
  exact ⟨rfl, belT hb0 hHeld⟩

end Go.Proofs.Yteeggmnkcgpfjaa
