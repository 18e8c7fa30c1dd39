/- The program's VerifyEqual returns what the reference's VerifyEqual returns, for all arguments: proved with no condition. -/
import Derived.Test.YteeggmnkcgpfjaaVt
import Derived.Test.YteeggmnkcgpfjaaGrF
namespace Go.Proofs.Yteeggmnkcgpfjaa
open Go.ChangeShapes Go.WideShapes Go.ChangeAt Go.RowKit Go.Joins
open Go.ChangeMaps (open_string shut_string)
set_option linter.unusedVariables false
attribute [local go_sem ↓] Go.wp_at_zero Go.wp_at_succ
set_option linter.unusedSimpArgs false
set_option maxRecDepth 100000 in
set_option maxHeartbeats 8000000 in
theorem walk_FnExactVerifyEqual (w : World) (p q g : Int) (h0a : (Lit.int .i64 p).wf = true) (h0b : (Lit.int .i64 q).wf = true) (h0c : (Lit.int .i64 g).wf = true) (s : ByteArray) (hsl : s.size ≤ maxLen) (a b c d : Int) (h2a : (Lit.int .i64 a).wf = true) (h2b : (Lit.int .i64 b).wf = true) (h2c : (Lit.int .i64 c).wf = true) (h2d : (Lit.int .i64 d).wf = true) (A1 : Option Addr) (n1 c1 : Nat) (z1 : List Int) (I1 : Ints w A1 n1 z1) (A2 : Option Addr) (n2 c2 : Nat) (z2 : List Int) (I2 : Ints w A2 n2 z2) (A3 : Option Addr) (n3 c3 : Nat) (z3 : List Int) (I3 : Ints w A3 n3 z3) :
    Calls Try.prog 12 #[.agg #[.int .i64 p, .int .i64 q, .int .i64 g], .string s, .agg #[.int .i64 a, .int .i64 b, .int .i64 c, .int .i64 d], .agg #[.slice A1 n1 c1, .slice A2 n2 c2, .slice A3 n3 c3]] w fun e w' => e = .returned (.bool true) ∧ Below w.heap.size w w' := by
  clear h0a h0b h0c h2a h2b h2c h2d
  have hm : s.size ≤ 9223372036854775807 := by unfold maxLen at hsl; omega
  clear hsl
  by_cases big0 : 1048576 < s.size
  · go_enter Try.func12, Try.ntmps12
    go_wp2
    go_ret
    exact ⟨rfl, (by repeat (first | exact Below.refl _ _ | assumption | refine belA ?_ | refine belD ?_ | refine belN ?_ | refine belS ?_ (by simp) | refine belT ?_ (by assumption)))⟩
  have hs := fun (D1 : Option Addr) (d1 : Nat) (D2 : Option Addr) (d2 : Nat) (D3 : Option Addr) (d3 : Nat) (W : World) (h1 : Ints W D1 n1 z1) (h2 : Ints W D2 n2 z2) (h3 : Ints W D3 n3 z3) => sVerifyEqual_any p q g s a b c d D1 D2 D3 n1 n2 n3 d1 d2 d3 z1 z2 z3 W hm h1 h2 h3
  have hi := fun (D1 : Option Addr) (d1 : Nat) (D2 : Option Addr) (d2 : Nat) (D3 : Option Addr) (d3 : Nat) (W : World) (h1 : Ints W D1 n1 z1) (h2 : Ints W D2 n2 z2) (h3 : Ints W D3 n3 z3) => iVerifyEqual_any p q g s a b c d D1 D2 D3 n1 n2 n3 d1 d2 d3 z1 z2 z3 W hm h1 h2 h3
  generalize (vlM p q g s [[a], [c]] [b, d] z1 z2 z3).1 = r0 at hs hi
  generalize (vlM p q g s [[a], [c]] [b, d] z1 z2 z3).2 = r1 at hs hi
  have Hs := Lib.hid hs
  have Hi := Lib.hid hi
  clear hs hi
  have hl1 := I1.le
  have hl2 := I2.le
  have hl3 := I3.le
  have hb0 : Below w.heap.size w (((w.alloc (.cells #[.int .i64 p, .int .i64 q, .int .i64 g] 23)).alloc (.cells #[.int .i64 a, .int .i64 b, .int .i64 c, .int .i64 d] 70)).alloc (.cells #[.slice A1 n1 c1, .slice A2 n2 c2, .slice A3 n3 c3] 71)) := (by repeat (first | exact Below.refl _ _ | assumption | refine belA ?_ | refine belD ?_ | refine belN ?_ | refine belS ?_ (by simp) | refine belT ?_ (by assumption)))
  have H1 := Lib.hid (I1.below hb0)
  have H2 := Lib.hid (I2.below hb0)
  have H3 := Lib.hid (I3.below hb0)
  have fa0 : (((w.alloc (.cells #[.int .i64 p, .int .i64 q, .int .i64 g] 23)).alloc (.cells #[.int .i64 a, .int .i64 b, .int .i64 c, .int .i64 d] 70)).alloc (.cells #[.slice A1 n1 c1, .slice A2 n2 c2, .slice A3 n3 c3] 71)).cell? ⟨w.heap.size, 0, none⟩ = some (.int .i64 p) := by rw [World.cell?_alloc_past _ _ _ (by simp <;> omega), World.cell?_alloc_past _ _ _ (by simp <;> omega), World.cell?_alloc_at _ _ _ _ (by simp)]; rfl
  have fa1 : (((w.alloc (.cells #[.int .i64 p, .int .i64 q, .int .i64 g] 23)).alloc (.cells #[.int .i64 a, .int .i64 b, .int .i64 c, .int .i64 d] 70)).alloc (.cells #[.slice A1 n1 c1, .slice A2 n2 c2, .slice A3 n3 c3] 71)).cell? ⟨w.heap.size, 1, none⟩ = some (.int .i64 q) := by rw [World.cell?_alloc_past _ _ _ (by simp <;> omega), World.cell?_alloc_past _ _ _ (by simp <;> omega), World.cell?_alloc_at _ _ _ _ (by simp)]; rfl
  have fa2 : (((w.alloc (.cells #[.int .i64 p, .int .i64 q, .int .i64 g] 23)).alloc (.cells #[.int .i64 a, .int .i64 b, .int .i64 c, .int .i64 d] 70)).alloc (.cells #[.slice A1 n1 c1, .slice A2 n2 c2, .slice A3 n3 c3] 71)).cell? ⟨w.heap.size, 2, none⟩ = some (.int .i64 g) := by rw [World.cell?_alloc_past _ _ _ (by simp <;> omega), World.cell?_alloc_past _ _ _ (by simp <;> omega), World.cell?_alloc_at _ _ _ _ (by simp)]; rfl
  have fb0 : (((w.alloc (.cells #[.int .i64 p, .int .i64 q, .int .i64 g] 23)).alloc (.cells #[.int .i64 a, .int .i64 b, .int .i64 c, .int .i64 d] 70)).alloc (.cells #[.slice A1 n1 c1, .slice A2 n2 c2, .slice A3 n3 c3] 71)).cell? ⟨w.heap.size + 1, 0, none⟩ = some (.int .i64 a) := by rw [World.cell?_alloc_past _ _ _ (by simp <;> omega), World.cell?_alloc_at _ _ _ _ (by simp)]; rfl
  have fb1 : (((w.alloc (.cells #[.int .i64 p, .int .i64 q, .int .i64 g] 23)).alloc (.cells #[.int .i64 a, .int .i64 b, .int .i64 c, .int .i64 d] 70)).alloc (.cells #[.slice A1 n1 c1, .slice A2 n2 c2, .slice A3 n3 c3] 71)).cell? ⟨w.heap.size + 1, 1, none⟩ = some (.int .i64 b) := by rw [World.cell?_alloc_past _ _ _ (by simp <;> omega), World.cell?_alloc_at _ _ _ _ (by simp)]; rfl
  have fb2 : (((w.alloc (.cells #[.int .i64 p, .int .i64 q, .int .i64 g] 23)).alloc (.cells #[.int .i64 a, .int .i64 b, .int .i64 c, .int .i64 d] 70)).alloc (.cells #[.slice A1 n1 c1, .slice A2 n2 c2, .slice A3 n3 c3] 71)).cell? ⟨w.heap.size + 1, 2, none⟩ = some (.int .i64 c) := by rw [World.cell?_alloc_past _ _ _ (by simp <;> omega), World.cell?_alloc_at _ _ _ _ (by simp)]; rfl
  have fb3 : (((w.alloc (.cells #[.int .i64 p, .int .i64 q, .int .i64 g] 23)).alloc (.cells #[.int .i64 a, .int .i64 b, .int .i64 c, .int .i64 d] 70)).alloc (.cells #[.slice A1 n1 c1, .slice A2 n2 c2, .slice A3 n3 c3] 71)).cell? ⟨w.heap.size + 1, 3, none⟩ = some (.int .i64 d) := by rw [World.cell?_alloc_past _ _ _ (by simp <;> omega), World.cell?_alloc_at _ _ _ _ (by simp)]; rfl
  have fp0 : (((w.alloc (.cells #[.int .i64 p, .int .i64 q, .int .i64 g] 23)).alloc (.cells #[.int .i64 a, .int .i64 b, .int .i64 c, .int .i64 d] 70)).alloc (.cells #[.slice A1 n1 c1, .slice A2 n2 c2, .slice A3 n3 c3] 71)).cell? ⟨w.heap.size + 2, 0, none⟩ = some (.slice A1 n1 c1) := by rw [World.cell?_alloc_at _ _ _ _ (by simp)]; rfl
  have fp1 : (((w.alloc (.cells #[.int .i64 p, .int .i64 q, .int .i64 g] 23)).alloc (.cells #[.int .i64 a, .int .i64 b, .int .i64 c, .int .i64 d] 70)).alloc (.cells #[.slice A1 n1 c1, .slice A2 n2 c2, .slice A3 n3 c3] 71)).cell? ⟨w.heap.size + 2, 1, none⟩ = some (.slice A2 n2 c2) := by rw [World.cell?_alloc_at _ _ _ _ (by simp)]; rfl
  have fp2 : (((w.alloc (.cells #[.int .i64 p, .int .i64 q, .int .i64 g] 23)).alloc (.cells #[.int .i64 a, .int .i64 b, .int .i64 c, .int .i64 d] 70)).alloc (.cells #[.slice A1 n1 c1, .slice A2 n2 c2, .slice A3 n3 c3] 71)).cell? ⟨w.heap.size + 2, 2, none⟩ = some (.slice A3 n3 c3) := by rw [World.cell?_alloc_at _ _ _ _ (by simp)]; rfl
  clear I1 I2 I3
  go_enter Try.func12, Try.ntmps12
  go_wp2_with fail
  refine (szProof_any A1 A2 A3 n1 n2 n3 c1 c2 c3 1048576 _ hl1 hl2 hl3 (by omega) (by omega)).mono ?_
  rintro e V0 ⟨rfl, hbV⟩
  have hbW := belT hb0 hbV
  by_cases hsz : (1048576 : Int) < (n1 : Int) + n2 + n3
  · rw [if_neg (by omega)]
    go_wp2
    go_ret
    exact ⟨rfl, hbW⟩
  rw [if_pos (by omega)]
  have hlf : 0 ≤ (1048576 : Int) - n1 - n2 - n3 := by omega
  generalize (1048576 : Int) - n1 - n2 - n3 = lf at hlf
  replace fa0 := keepB hbV fa0
  replace fa1 := keepB hbV fa1
  replace fa2 := keepB hbV fa2
  replace fb0 := keepB hbV fb0
  replace fb1 := keepB hbV fb1
  replace fb2 := keepB hbV fb2
  replace fb3 := keepB hbV fb3
  replace fp0 := keepB hbV fp0
  replace fp1 := keepB hbV fp1
  replace fp2 := keepB hbV fp2
  replace H1 := Lib.hid (H1.out.below hbV)
  replace H2 := Lib.hid (H2.out.below hbV)
  replace H3 := Lib.hid (H3.out.below hbV)
  clear hbV hb0
  go_wp2_with fail
  refine wp_region_held_drew (S := fun W => Below V0.heap.size V0 W) (by kernel_rfl) (belD (Below.refl _ _)) (fun hHeld => ?_)
  refine heldTake (i := 0) (v := ?_) (some 24) rfl rfl (by kernel_rfl) (by kernel_rfl) (by kernel_rfl) (fun _ _ _ h => h) (Or.inl ⟨by rfl, ?_⟩) (by assumption) ?_
  rotate_left
  · (intro W hSw; have q0 := keepB hSw fa0; have q1 := keepB hSw fa1; have q2 := keepB hSw fa2; have q3 := keepB hSw fb0; have q4 := keepB hSw fb1; have q5 := keepB hSw fb2; have q6 := keepB hSw fb3; have q7 := keepB hSw fp0; have q8 := keepB hSw fp1; have q9 := keepB hSw fp2; clear hSw; go_simp; all_goals first | with_reducible rfl | (simp [*]; done) | (intro hh; exfalso; omega) | fail)
  try simp only [Act.put, List.setIfInBounds_toArray, List.set_cons_zero, List.set_cons_succ]
  refine heldTake (i := 2) (v := ?_) (some 26) rfl rfl (by kernel_rfl) (by kernel_rfl) (by kernel_rfl) (fun _ _ _ h => h) (Or.inl ⟨by rfl, ?_⟩) (by assumption) ?_
  rotate_left
  · (intro W hSw; have q0 := keepB hSw fa0; have q1 := keepB hSw fa1; have q2 := keepB hSw fa2; have q3 := keepB hSw fb0; have q4 := keepB hSw fb1; have q5 := keepB hSw fb2; have q6 := keepB hSw fb3; have q7 := keepB hSw fp0; have q8 := keepB hSw fp1; have q9 := keepB hSw fp2; clear hSw; go_simp; all_goals first | with_reducible rfl | (simp [*]; done) | (intro hh; exfalso; omega) | fail)
  try simp only [Act.put, List.setIfInBounds_toArray, List.set_cons_zero, List.set_cons_succ]
  refine heldTake (i := 3) (v := ?_) (some 27) rfl rfl (by kernel_rfl) (by kernel_rfl) (by kernel_rfl) (fun _ _ _ h => h) (Or.inl ⟨by rfl, ?_⟩) (by assumption) ?_
  rotate_left
  · (intro W hSw; have q0 := keepB hSw fa0; have q1 := keepB hSw fa1; have q2 := keepB hSw fa2; have q3 := keepB hSw fb0; have q4 := keepB hSw fb1; have q5 := keepB hSw fb2; have q6 := keepB hSw fb3; have q7 := keepB hSw fp0; have q8 := keepB hSw fp1; have q9 := keepB hSw fp2; clear hSw; go_simp; all_goals first | with_reducible rfl | (simp [*]; done) | (intro hh; exfalso; omega) | fail)
  try simp only [Act.put, List.setIfInBounds_toArray, List.set_cons_zero, List.set_cons_succ]
  refine heldTake (i := 5) (v := ?_) (some 29) rfl rfl (by kernel_rfl) (by kernel_rfl) (by kernel_rfl) (fun _ _ _ h => h) (Or.inl ⟨by rfl, ?_⟩) (by assumption) ?_
  rotate_left
  · (intro W hSw; have q0 := keepB hSw fa0; have q1 := keepB hSw fa1; have q2 := keepB hSw fa2; have q3 := keepB hSw fb0; have q4 := keepB hSw fb1; have q5 := keepB hSw fb2; have q6 := keepB hSw fb3; have q7 := keepB hSw fp0; have q8 := keepB hSw fp1; have q9 := keepB hSw fp2; clear hSw; go_simp; all_goals first | with_reducible rfl | (simp [*]; done) | (intro hh; exfalso; omega) | fail)
  try simp only [Act.put, List.setIfInBounds_toArray, List.set_cons_zero, List.set_cons_succ]
  refine wpAnyH_ready (rs := [1]) (by kernel_rfl) (by simp) ?_
  refine AllReadyH.cons rfl (fun K hK => ?_) AllReadyH.nil
  go_simp
  (go_at_call 15; refine (toGroup_any p q g _).mono ?_; rintro e w1 ⟨rfl, hb1⟩)
  have hNx := belT hHeld hb1
  refine hK.out _ _ hNx (fun hNew => ?_)
  clear hK K hHeld hNx
  have hHeld := hNew; clear hNew hb1
  try simp only [Act.put, List.setIfInBounds_toArray, List.set_cons_zero, List.set_cons_succ]
  refine wpAnyH_ready (rs := [4]) (by kernel_rfl) (by simp) ?_
  refine AllReadyH.cons rfl (fun K hK => ?_) AllReadyH.nil
  go_simp
  (go_at_call 55; refine (toEqualLog_any a b c d _).mono ?_; rintro e w1 ⟨rfl, hb1⟩)
  have hNx := belT hHeld hb1
  refine hK.out _ _ hNx (fun hNew => ?_)
  clear hK K hHeld hNx
  have hHeld := hNew; clear hNew hb1
  try simp only [Act.put, List.setIfInBounds_toArray, List.set_cons_zero, List.set_cons_succ]
  refine wpAnyH_ready (rs := [6]) (by kernel_rfl) (by simp) ?_
  refine AllReadyH.cons rfl (fun K hK => ?_) AllReadyH.nil
  go_simp
  (go_at_call 56; refine (toProof_any A1 A2 A3 n1 n2 n3 c1 c2 c3 z1 z2 z3 _ (H1.out.below hHeld) (H2.out.below hHeld) (H3.out.below hHeld) (by omega) (by omega) (by omega)).mono ?_; rintro e w1 ⟨D1, d1, D2, d2, D3, d3, rfl, j1, j2, j3, hb1⟩)
  have HD1 := Lib.hid j1
  have HD2 := Lib.hid j2
  have HD3 := Lib.hid j3
  clear j1 j2 j3
  have hNx := belT hHeld hb1
  refine hK.out _ _ hNx (fun hNew => ?_)
  clear hK K hHeld hNx
  have hHeld := hNew; clear hNew hb1
  try simp only [Act.put, List.setIfInBounds_toArray, List.set_cons_zero, List.set_cons_succ]
  refine wpAnyH_ready (rs := [7]) (by kernel_rfl) (by simp) ?_
  refine AllReadyH.cons rfl (fun K hK => ?_) AllReadyH.nil
  go_simp
  (go_at_call 54; refine (Hs.out D1 d1 D2 d2 D3 d3 _ HD1.out HD2.out HD3.out).mono ?_; rintro e w1 ⟨rfl, hb1⟩)
  have hNx := belT hHeld hb1
  refine hK.out _ _ hNx (fun hNew => ?_)
  clear hK K hHeld hNx
  have hHeld := hNew; clear hNew hb1
  try simp only [Act.put, List.setIfInBounds_toArray, List.set_cons_zero, List.set_cons_succ]
  refine heldTake (i := 8) (v := ?_) (some 23) rfl rfl (by kernel_rfl) (by kernel_rfl) (by kernel_rfl) (fun _ _ _ h => h) (Or.inl ⟨by rfl, ?_⟩) (by assumption) ?_
  rotate_left
  · (intro W hSw; have q0 := keepB hSw fa0; have q1 := keepB hSw fa1; have q2 := keepB hSw fa2; have q3 := keepB hSw fb0; have q4 := keepB hSw fb1; have q5 := keepB hSw fb2; have q6 := keepB hSw fb3; have q7 := keepB hSw fp0; have q8 := keepB hSw fp1; have q9 := keepB hSw fp2; clear hSw; go_simp; all_goals first | with_reducible rfl | (simp [*]; done) | (intro hh; exfalso; omega) | fail)
  try simp only [Act.put, List.setIfInBounds_toArray, List.set_cons_zero, List.set_cons_succ]
  refine heldTake (i := 9) (v := ?_) (some 32) rfl rfl (by kernel_rfl) (by kernel_rfl) (by kernel_rfl) (fun _ _ _ h => h) (Or.inl ⟨by rfl, ?_⟩) (by assumption) ?_
  rotate_left
  · (intro W hSw; have q0 := keepB hSw fa0; have q1 := keepB hSw fa1; have q2 := keepB hSw fa2; have q3 := keepB hSw fb0; have q4 := keepB hSw fb1; have q5 := keepB hSw fb2; have q6 := keepB hSw fb3; have q7 := keepB hSw fp0; have q8 := keepB hSw fp1; have q9 := keepB hSw fp2; clear hSw; go_simp; all_goals first | with_reducible rfl | (simp [*]; done) | (intro hh; exfalso; omega) | fail)
  try simp only [Act.put, List.setIfInBounds_toArray, List.set_cons_zero, List.set_cons_succ]
  refine heldTake (i := 10) (v := ?_) (some 33) rfl rfl (by kernel_rfl) (by kernel_rfl) (by kernel_rfl) (fun _ _ _ h => h) (Or.inl ⟨by rfl, ?_⟩) (by assumption) ?_
  rotate_left
  · (intro W hSw; have q0 := keepB hSw fa0; have q1 := keepB hSw fa1; have q2 := keepB hSw fa2; have q3 := keepB hSw fb0; have q4 := keepB hSw fb1; have q5 := keepB hSw fb2; have q6 := keepB hSw fb3; have q7 := keepB hSw fp0; have q8 := keepB hSw fp1; have q9 := keepB hSw fp2; clear hSw; go_simp; all_goals first | with_reducible rfl | (simp [*]; done) | (intro hh; exfalso; omega) | fail)
  try simp only [Act.put, List.setIfInBounds_toArray, List.set_cons_zero, List.set_cons_succ]
  refine heldTake (i := 11) (v := ?_) (some 10) rfl rfl (by kernel_rfl) (by kernel_rfl) (by kernel_rfl) (fun _ _ _ h => h) (Or.inl ⟨by rfl, ?_⟩) (by assumption) ?_
  rotate_left
  · (intro W hSw; have q0 := keepB hSw fa0; have q1 := keepB hSw fa1; have q2 := keepB hSw fa2; have q3 := keepB hSw fb0; have q4 := keepB hSw fb1; have q5 := keepB hSw fb2; have q6 := keepB hSw fb3; have q7 := keepB hSw fp0; have q8 := keepB hSw fp1; have q9 := keepB hSw fp2; clear hSw; go_simp; all_goals first | with_reducible rfl | (simp [*]; done) | (intro hh; exfalso; omega) | fail)
  try simp only [Act.put, List.setIfInBounds_toArray, List.set_cons_zero, List.set_cons_succ]
  refine heldTake (i := 12) (v := ?_) (some 11) rfl rfl (by kernel_rfl) (by kernel_rfl) (by kernel_rfl) (fun _ _ _ h => h) (Or.inl ⟨by rfl, ?_⟩) (by assumption) ?_
  rotate_left
  · (intro W hSw; have q0 := keepB hSw fa0; have q1 := keepB hSw fa1; have q2 := keepB hSw fa2; have q3 := keepB hSw fb0; have q4 := keepB hSw fb1; have q5 := keepB hSw fb2; have q6 := keepB hSw fb3; have q7 := keepB hSw fp0; have q8 := keepB hSw fp1; have q9 := keepB hSw fp2; clear hSw; go_simp; all_goals first | with_reducible rfl | (simp [*]; done) | (intro hh; exfalso; omega) | fail)
  try simp only [Act.put, List.setIfInBounds_toArray, List.set_cons_zero, List.set_cons_succ]
  refine wpAnyH_done (by kernel_rfl) ?_ _
  have hbS := hHeld
  have gp0 := keepB hbS fp0
  have gp1 := keepB hbS fp1
  have gp2 := keepB hbS fp2
  clear HD1 HD2 HD3
  go_wp2_with fail
  clear gp0 gp1 gp2
  refine (toProof_any A1 A2 A3 n1 n2 n3 c1 c2 c3 z1 z2 z3 _ (H1.out.below hbS) (H2.out.below hbS) (H3.out.below hbS) (by omega) (by omega) (by omega)).mono ?_
  rintro e V1 ⟨X1, y1, X2, y2, X3, y3, rfl, j1, j2, j3, hbX⟩
  have hbV2 : Below V0.heap.size V0 (V1.alloc (.cells #[.slice X1 n1 y1, .slice X2 n2 y2, .slice X3 n3 y3] 52)) := belA (belT hbS hbX)
  have HX1 := Lib.hid (j1.below (belA (o := .cells #[.slice X1 n1 y1, .slice X2 n2 y2, .slice X3 n3 y3] 52) (Below.refl _ _)))
  have HX2 := Lib.hid (j2.below (belA (o := .cells #[.slice X1 n1 y1, .slice X2 n2 y2, .slice X3 n3 y3] 52) (Below.refl _ _)))
  have HX3 := Lib.hid (j3.below (belA (o := .cells #[.slice X1 n1 y1, .slice X2 n2 y2, .slice X3 n3 y3] 52) (Below.refl _ _)))
  have fx0 : (V1.alloc (.cells #[.slice X1 n1 y1, .slice X2 n2 y2, .slice X3 n3 y3] 52)).cell? ⟨V1.heap.size, 0, none⟩ = some (.slice X1 n1 y1) := (by rw [World.cell?_alloc_at _ _ _ _ (by simp)]; rfl)
  have fx1 : (V1.alloc (.cells #[.slice X1 n1 y1, .slice X2 n2 y2, .slice X3 n3 y3] 52)).cell? ⟨V1.heap.size, 1, none⟩ = some (.slice X2 n2 y2) := (by rw [World.cell?_alloc_at _ _ _ _ (by simp)]; rfl)
  have fx2 : (V1.alloc (.cells #[.slice X1 n1 y1, .slice X2 n2 y2, .slice X3 n3 y3] 52)).cell? ⟨V1.heap.size, 2, none⟩ = some (.slice X3 n3 y3) := (by rw [World.cell?_alloc_at _ _ _ _ (by simp)]; rfl)
  clear j1 j2 j3 hbX hbS hHeld
  go_wp2_with fail
  generalize hV2 : V1.alloc (.cells #[.slice X1 n1 y1, .slice X2 n2 y2, .slice X3 n3 y3] 52) = V2 at hbV2 HX1 HX2 HX3 fx0 fx1 fx2
  clear hV2
  replace fa0 := keepB hbV2 fa0
  replace fa1 := keepB hbV2 fa1
  replace fa2 := keepB hbV2 fa2
  replace fb0 := keepB hbV2 fb0
  replace fb1 := keepB hbV2 fb1
  replace fb2 := keepB hbV2 fb2
  replace fb3 := keepB hbV2 fb3
  replace fp0 := keepB hbV2 fp0
  replace fp1 := keepB hbV2 fp1
  replace fp2 := keepB hbV2 fp2
  replace H1 := Lib.hid (H1.out.below hbV2)
  replace H2 := Lib.hid (H2.out.below hbV2)
  replace H3 := Lib.hid (H3.out.below hbV2)
  replace hbW := belT hbW hbV2
  clear hbV2
  refine wp_region_held_drew (S := fun W => Below V2.heap.size V2 W) (by kernel_rfl) (belD (Below.refl _ _)) (fun hHeld => ?_)
  refine heldTake (i := 0) (v := ?_) (some 37) rfl rfl (by kernel_rfl) (by kernel_rfl) (by kernel_rfl) (fun _ _ _ h => h) (Or.inl ⟨by rfl, ?_⟩) (by assumption) ?_
  rotate_left
  · (intro W hSw; have q0 := keepB hSw fa0; have q1 := keepB hSw fa1; have q2 := keepB hSw fa2; have q3 := keepB hSw fb0; have q4 := keepB hSw fb1; have q5 := keepB hSw fb2; have q6 := keepB hSw fb3; have q7 := keepB hSw fp0; have q8 := keepB hSw fp1; have q9 := keepB hSw fp2; have q10 := keepB hSw fx0; have q11 := keepB hSw fx1; have q12 := keepB hSw fx2; clear hSw; go_simp; all_goals first | with_reducible rfl | (simp [*]; done) | (intro hh; exfalso; omega) | fail)
  try simp only [Act.put, List.setIfInBounds_toArray, List.set_cons_zero, List.set_cons_succ]
  refine heldTake (i := 2) (v := ?_) (some 39) rfl rfl (by kernel_rfl) (by kernel_rfl) (by kernel_rfl) (fun _ _ _ h => h) (Or.inl ⟨by rfl, ?_⟩) (by assumption) ?_
  rotate_left
  · (intro W hSw; have q0 := keepB hSw fa0; have q1 := keepB hSw fa1; have q2 := keepB hSw fa2; have q3 := keepB hSw fb0; have q4 := keepB hSw fb1; have q5 := keepB hSw fb2; have q6 := keepB hSw fb3; have q7 := keepB hSw fp0; have q8 := keepB hSw fp1; have q9 := keepB hSw fp2; have q10 := keepB hSw fx0; have q11 := keepB hSw fx1; have q12 := keepB hSw fx2; clear hSw; go_simp; all_goals first | with_reducible rfl | (simp [*]; done) | (intro hh; exfalso; omega) | fail)
  try simp only [Act.put, List.setIfInBounds_toArray, List.set_cons_zero, List.set_cons_succ]
  refine heldTake (i := 3) (v := ?_) (some 40) rfl rfl (by kernel_rfl) (by kernel_rfl) (by kernel_rfl) (fun _ _ _ h => h) (Or.inl ⟨by rfl, ?_⟩) (by assumption) ?_
  rotate_left
  · (intro W hSw; have q0 := keepB hSw fa0; have q1 := keepB hSw fa1; have q2 := keepB hSw fa2; have q3 := keepB hSw fb0; have q4 := keepB hSw fb1; have q5 := keepB hSw fb2; have q6 := keepB hSw fb3; have q7 := keepB hSw fp0; have q8 := keepB hSw fp1; have q9 := keepB hSw fp2; have q10 := keepB hSw fx0; have q11 := keepB hSw fx1; have q12 := keepB hSw fx2; clear hSw; go_simp; all_goals first | with_reducible rfl | (simp [*]; done) | (intro hh; exfalso; omega) | fail)
  try simp only [Act.put, List.setIfInBounds_toArray, List.set_cons_zero, List.set_cons_succ]
  refine heldTake (i := 5) (v := ?_) (some 42) rfl rfl (by kernel_rfl) (by kernel_rfl) (by kernel_rfl) (fun _ _ _ h => h) (Or.inl ⟨by rfl, ?_⟩) (by assumption) ?_
  rotate_left
  · (intro W hSw; have q0 := keepB hSw fa0; have q1 := keepB hSw fa1; have q2 := keepB hSw fa2; have q3 := keepB hSw fb0; have q4 := keepB hSw fb1; have q5 := keepB hSw fb2; have q6 := keepB hSw fb3; have q7 := keepB hSw fp0; have q8 := keepB hSw fp1; have q9 := keepB hSw fp2; have q10 := keepB hSw fx0; have q11 := keepB hSw fx1; have q12 := keepB hSw fx2; clear hSw; go_simp; all_goals first | with_reducible rfl | (simp [*]; done) | (intro hh; exfalso; omega) | fail)
  try simp only [Act.put, List.setIfInBounds_toArray, List.set_cons_zero, List.set_cons_succ]
  refine wpAnyH_ready (rs := [1]) (by kernel_rfl) (by simp) ?_
  refine AllReadyH.cons rfl (fun K hK => ?_) AllReadyH.nil
  go_simp
  (go_at_call 15; refine (toGroup_any p q g _).mono ?_; rintro e w1 ⟨rfl, hb1⟩)
  have hNx := belT hHeld hb1
  refine hK.out _ _ hNx (fun hNew => ?_)
  clear hK K hHeld hNx
  have hHeld := hNew; clear hNew hb1
  try simp only [Act.put, List.setIfInBounds_toArray, List.set_cons_zero, List.set_cons_succ]
  refine wpAnyH_ready (rs := [4]) (by kernel_rfl) (by simp) ?_
  refine AllReadyH.cons rfl (fun K hK => ?_) AllReadyH.nil
  go_simp
  (go_at_call 55; refine (toEqualLog_any a b c d _).mono ?_; rintro e w1 ⟨rfl, hb1⟩)
  have hNx := belT hHeld hb1
  refine hK.out _ _ hNx (fun hNew => ?_)
  clear hK K hHeld hNx
  have hHeld := hNew; clear hNew hb1
  try simp only [Act.put, List.setIfInBounds_toArray, List.set_cons_zero, List.set_cons_succ]
  refine wpAnyH_ready (rs := [6]) (by kernel_rfl) (by simp) ?_
  refine AllReadyH.cons rfl (fun K hK => ?_) AllReadyH.nil
  go_simp
  (go_at_call 57; refine (Hi.out X1 y1 X2 y2 X3 y3 _ (HX1.out.below hHeld) (HX2.out.below hHeld) (HX3.out.below hHeld)).mono ?_; rintro e w1 ⟨rfl, hb1⟩)
  have hNx := belT hHeld hb1
  refine hK.out _ _ hNx (fun hNew => ?_)
  clear hK K hHeld hNx
  have hHeld := hNew; clear hNew hb1
  try simp only [Act.put, List.setIfInBounds_toArray, List.set_cons_zero, List.set_cons_succ]
  refine heldTake (i := 7) (v := ?_) (some 36) rfl rfl (by kernel_rfl) (by kernel_rfl) (by kernel_rfl) (fun _ _ _ h => h) (Or.inl ⟨by rfl, ?_⟩) (by assumption) ?_
  rotate_left
  · (intro W hSw; have q0 := keepB hSw fa0; have q1 := keepB hSw fa1; have q2 := keepB hSw fa2; have q3 := keepB hSw fb0; have q4 := keepB hSw fb1; have q5 := keepB hSw fb2; have q6 := keepB hSw fb3; have q7 := keepB hSw fp0; have q8 := keepB hSw fp1; have q9 := keepB hSw fp2; have q10 := keepB hSw fx0; have q11 := keepB hSw fx1; have q12 := keepB hSw fx2; clear hSw; go_simp; all_goals first | with_reducible rfl | (simp [*]; done) | (intro hh; exfalso; omega) | fail)
  try simp only [Act.put, List.setIfInBounds_toArray, List.set_cons_zero, List.set_cons_succ]
  refine heldTake (i := 8) (v := ?_) (some 44) rfl rfl (by kernel_rfl) (by kernel_rfl) (by kernel_rfl) (fun _ _ _ h => h) (Or.inl ⟨by rfl, ?_⟩) (by assumption) ?_
  rotate_left
  · (intro W hSw; have q0 := keepB hSw fa0; have q1 := keepB hSw fa1; have q2 := keepB hSw fa2; have q3 := keepB hSw fb0; have q4 := keepB hSw fb1; have q5 := keepB hSw fb2; have q6 := keepB hSw fb3; have q7 := keepB hSw fp0; have q8 := keepB hSw fp1; have q9 := keepB hSw fp2; have q10 := keepB hSw fx0; have q11 := keepB hSw fx1; have q12 := keepB hSw fx2; clear hSw; go_simp; all_goals first | with_reducible rfl | (simp [*]; done) | (intro hh; exfalso; omega) | fail)
  try simp only [Act.put, List.setIfInBounds_toArray, List.set_cons_zero, List.set_cons_succ]
  refine heldTake (i := 9) (v := ?_) (some 45) rfl rfl (by kernel_rfl) (by kernel_rfl) (by kernel_rfl) (fun _ _ _ h => h) (Or.inl ⟨by rfl, ?_⟩) (by assumption) ?_
  rotate_left
  · (intro W hSw; have q0 := keepB hSw fa0; have q1 := keepB hSw fa1; have q2 := keepB hSw fa2; have q3 := keepB hSw fb0; have q4 := keepB hSw fb1; have q5 := keepB hSw fb2; have q6 := keepB hSw fb3; have q7 := keepB hSw fp0; have q8 := keepB hSw fp1; have q9 := keepB hSw fp2; have q10 := keepB hSw fx0; have q11 := keepB hSw fx1; have q12 := keepB hSw fx2; clear hSw; go_simp; all_goals first | with_reducible rfl | (simp [*]; done) | (intro hh; exfalso; omega) | fail)
  try simp only [Act.put, List.setIfInBounds_toArray, List.set_cons_zero, List.set_cons_succ]
  refine heldTake (i := 10) (v := ?_) (some 13) rfl rfl (by kernel_rfl) (by kernel_rfl) (by kernel_rfl) (fun _ _ _ h => h) (Or.inl ⟨by rfl, ?_⟩) (by assumption) ?_
  rotate_left
  · (intro W hSw; have q0 := keepB hSw fa0; have q1 := keepB hSw fa1; have q2 := keepB hSw fa2; have q3 := keepB hSw fb0; have q4 := keepB hSw fb1; have q5 := keepB hSw fb2; have q6 := keepB hSw fb3; have q7 := keepB hSw fp0; have q8 := keepB hSw fp1; have q9 := keepB hSw fp2; have q10 := keepB hSw fx0; have q11 := keepB hSw fx1; have q12 := keepB hSw fx2; clear hSw; go_simp; all_goals first | with_reducible rfl | (simp [*]; done) | (intro hh; exfalso; omega) | fail)
  try simp only [Act.put, List.setIfInBounds_toArray, List.set_cons_zero, List.set_cons_succ]
  refine heldTake (i := 11) (v := ?_) (some 14) rfl rfl (by kernel_rfl) (by kernel_rfl) (by kernel_rfl) (fun _ _ _ h => h) (Or.inl ⟨by rfl, ?_⟩) (by assumption) ?_
  rotate_left
  · (intro W hSw; have q0 := keepB hSw fa0; have q1 := keepB hSw fa1; have q2 := keepB hSw fa2; have q3 := keepB hSw fb0; have q4 := keepB hSw fb1; have q5 := keepB hSw fb2; have q6 := keepB hSw fb3; have q7 := keepB hSw fp0; have q8 := keepB hSw fp1; have q9 := keepB hSw fp2; have q10 := keepB hSw fx0; have q11 := keepB hSw fx1; have q12 := keepB hSw fx2; clear hSw; go_simp; all_goals first | with_reducible rfl | (simp [*]; done) | (intro hh; exfalso; omega) | fail)
  try simp only [Act.put, List.setIfInBounds_toArray, List.set_cons_zero, List.set_cons_succ]
  refine wpAnyH_done (by kernel_rfl) ?_ _
  have hbS := hHeld
  clear hHeld
  have e0 : (r0 != r0) = false := by simp
  have e1 : (r1 != r1) = false := by simp
  go_wp2_with fail
  refine wp_region_held_drew (S := fun W => Below V2.heap.size V2 W) (by kernel_rfl) (belD hbS) (fun hHeld => ?_)
  refine heldTake (i := 0) (v := ?_) (some 54) rfl rfl (by kernel_rfl) (by kernel_rfl) (by kernel_rfl) (fun _ _ _ h => h) (Or.inl ⟨by rfl, ?_⟩) (by assumption) ?_
  rotate_left
  · (intro W hSw; have q0 := keepB hSw fa0; have q1 := keepB hSw fa1; have q2 := keepB hSw fa2; have q3 := keepB hSw fb0; have q4 := keepB hSw fb1; have q5 := keepB hSw fb2; have q6 := keepB hSw fb3; have q7 := keepB hSw fp0; have q8 := keepB hSw fp1; have q9 := keepB hSw fp2; have q10 := keepB hSw fx0; have q11 := keepB hSw fx1; have q12 := keepB hSw fx2; clear hSw; go_simp; all_goals first | with_reducible rfl | (simp [*]; done) | (intro hh; exfalso; omega) | fail)
  try simp only [Act.put, List.setIfInBounds_toArray, List.set_cons_zero, List.set_cons_succ]
  refine heldTake (i := 1) (v := ?_) (some 55) rfl rfl (by kernel_rfl) (by kernel_rfl) (by kernel_rfl) (fun _ _ _ h => h) (Or.inl ⟨by rfl, ?_⟩) (by assumption) ?_
  rotate_left
  · (intro W hSw; have q0 := keepB hSw fa0; have q1 := keepB hSw fa1; have q2 := keepB hSw fa2; have q3 := keepB hSw fb0; have q4 := keepB hSw fb1; have q5 := keepB hSw fb2; have q6 := keepB hSw fb3; have q7 := keepB hSw fp0; have q8 := keepB hSw fp1; have q9 := keepB hSw fp2; have q10 := keepB hSw fx0; have q11 := keepB hSw fx1; have q12 := keepB hSw fx2; clear hSw; go_simp; all_goals first | with_reducible rfl | (simp [*]; done) | (intro hh; exfalso; omega) | fail)
  try simp only [Act.put, List.setIfInBounds_toArray, List.set_cons_zero, List.set_cons_succ]
  refine wpAnyH_ready (rs := [2]) (by kernel_rfl) (by simp) ?_
  refine AllReadyH.cons rfl (fun K hK => ?_) AllReadyH.nil
  go_simp
  (go_at_call 56; refine (toProof_any A1 A2 A3 n1 n2 n3 c1 c2 c3 z1 z2 z3 _ (H1.out.below hHeld) (H2.out.below hHeld) (H3.out.below hHeld) (by omega) (by omega) (by omega)).mono ?_; rintro e w1 ⟨D1, d1, D2, d2, D3, d3, rfl, j1, j2, j3, hb1⟩)
  have HD1 := Lib.hid j1
  have HD2 := Lib.hid j2
  have HD3 := Lib.hid j3
  clear j1 j2 j3
  have hNx := belT hHeld hb1
  refine hK.out _ _ hNx (fun hNew => ?_)
  clear hK K hHeld hNx
  have hHeld := hNew; clear hNew hb1
  try simp only [Act.put, List.setIfInBounds_toArray, List.set_cons_zero, List.set_cons_succ]
  refine wpAnyH_ready (rs := [3]) (by kernel_rfl) (by simp) ?_
  refine AllReadyH.cons rfl (fun K hK => ?_) AllReadyH.nil
  go_simp
  (go_at_call 38; refine (eqProof_any X1 X2 X3 D1 D2 D3 n1 n2 n3 y1 y2 y3 d1 d2 d3 z1 z2 z3 _ (HX1.out.below hHeld) (HX2.out.below hHeld) (HX3.out.below hHeld) HD1.out HD2.out HD3.out).mono ?_; rintro e w1 ⟨rfl, hb1⟩)
  have hNx := belT hHeld hb1
  refine hK.out _ _ hNx (fun hNew => ?_)
  clear hK K hHeld hNx
  have hHeld := hNew; clear hNew hb1
  try simp only [Act.put, List.setIfInBounds_toArray, List.set_cons_zero, List.set_cons_succ]
  refine heldTake (i := 4) (v := ?_) (some 58) rfl rfl (by kernel_rfl) (by kernel_rfl) (by kernel_rfl) (fun _ _ _ h => h) (Or.inl ⟨by rfl, ?_⟩) (by assumption) ?_
  rotate_left
  · (intro W hSw; have q0 := keepB hSw fa0; have q1 := keepB hSw fa1; have q2 := keepB hSw fa2; have q3 := keepB hSw fb0; have q4 := keepB hSw fb1; have q5 := keepB hSw fb2; have q6 := keepB hSw fb3; have q7 := keepB hSw fp0; have q8 := keepB hSw fp1; have q9 := keepB hSw fp2; have q10 := keepB hSw fx0; have q11 := keepB hSw fx1; have q12 := keepB hSw fx2; clear hSw; go_simp; all_goals first | with_reducible rfl | (simp [*]; done) | (intro hh; exfalso; omega) | fail)
  try simp only [Act.put, List.setIfInBounds_toArray, List.set_cons_zero, List.set_cons_succ]
  refine wpAnyH_done (by kernel_rfl) ?_ _
  go_wp2
  go_ret
  exact ⟨rfl, belT hbW hHeld⟩

set_option maxRecDepth 100000 in
theorem lifted_FnExactVerifyEqual (os : Os) (started : os.Started) (H : Type) (enc : TypeId × Value → H) :
    ReturnsInHanded {} Try.checked os 12 .any (Rows.fnExactVerifyEqualSpec.pre6 enc Try.prog Try.f12 Rows.fnExactVerifyEqualRow.domain false) (Rows.fnExactVerifyEqualSpec.post enc Try.prog Try.f12 false true false false) := by
  refine returnsInHanded_of_change (C := Try.checked) own started (by kernel_rfl) Try.func12
    (ChangeSpec.witness6 (enc := enc) (C := Try.checked) false ⟨#[], #[.agg #[.int .i64 0, .int .i64 0, .int .i64 0], .string ByteArray.empty, .agg #[.int .i64 0, .int .i64 0, .int .i64 0, .int .i64 0], .agg #[.slice none 0 0, .slice none 0 0, .slice none 0 0]], []⟩ 8 (by kernel_rfl) (by kernel_rfl) (by kernel_rfl) (by kernel_rfl)) ?_
  intro W base args ds gs before hval0 hW hcnd _
  have hval : ∀ (j : Nat) t v, Try.f12.params[j]? = some t → args[j]? = some v → Value.okWide Try.prog W .any base t v := hval0
  have hW' := hW
  obtain ⟨p, q, hA0, hV, rfl, hfz, hnd⟩ := hW
  have hA : DataW.TrodAll enc Try.prog W 0 (fun _ => true) true Try.f12.params.toList args.toList ds p := hA0
  rw [Try.params12] at hA hval
  obtain ⟨v0, vs0, d0, ds0, p0, q0, hargs, rfl, rfl, h0, r0⟩ := trodAll_cons hA
  obtain ⟨v1, vs1, d1, ds1, p1, q1, rfl, rfl, rfl, h1, r1⟩ := trodAll_cons r0
  obtain ⟨v2, vs2, d2, ds2, p2, q2, rfl, rfl, rfl, h2, r2⟩ := trodAll_cons r1
  obtain ⟨v3, vs3, d3, ds3, p3, q3, rfl, rfl, rfl, h3, r3⟩ := trodAll_cons r2
  obtain ⟨rfl, rfl, rfl⟩ := trodAll_nil r3
  obtain rfl : args = #[v0, v1, v2, v3] := by cases args; simp_all
  obtain ⟨rfl, rfl⟩ := trodVars_none hV
  have k0 := h0
  have lt0 : ∀ x ∈ p0, x.block < W.heap.size := by obtain ⟨m, hm⟩ := k0; exact DataW.trod_lt m _ _ _ hm
  obtain ⟨c0_0, c0_1, c0_2, y0_0, y0_1, y0_2, m0, rfl, rfl, rfl, u0_0, u0_1, u0_2⟩ := open_agg3 Try.underlying23 (by kernel_rfl) (by kernel_rfl) (hval 0 23 v0 rfl rfl) h0
  obtain ⟨b0_0, e0_0, hb0_0, x0_0⟩ := DataW.trod_int Try.underlying3 u0_0
  simp only [List.cons.injEq, and_true] at e0_0
  subst e0_0
  obtain ⟨b0_1, e0_1, hb0_1, x0_1⟩ := DataW.trod_int Try.underlying3 u0_1
  simp only [List.cons.injEq, and_true] at e0_1
  subst e0_1
  obtain ⟨b0_2, e0_2, hb0_2, x0_2⟩ := DataW.trod_int Try.underlying3 u0_2
  simp only [List.cons.injEq, and_true] at e0_2
  subst e0_2
  have k1 := h1
  have lt1 : ∀ x ∈ p1, x.block < W.heap.size := by obtain ⟨m, hm⟩ := k1; exact DataW.trod_lt m _ _ _ hm
  obtain ⟨s1, rfl, rfl, rfl, w1⟩ := open_string Try.underlying9 (hval 1 9 v1 rfl rfl) h1
  have k2 := h2
  have lt2 : ∀ x ∈ p2, x.block < W.heap.size := by obtain ⟨m, hm⟩ := k2; exact DataW.trod_lt m _ _ _ hm
  obtain ⟨c2_0, c2_1, c2_2, c2_3, y2_0, y2_1, y2_2, y2_3, m2, rfl, rfl, rfl, u2_0, u2_1, u2_2, u2_3⟩ := open_agg4 Try.underlying70 (by kernel_rfl) (by kernel_rfl) (hval 2 70 v2 rfl rfl) h2
  obtain ⟨b2_0, e2_0, hb2_0, x2_0⟩ := DataW.trod_int Try.underlying3 u2_0
  simp only [List.cons.injEq, and_true] at e2_0
  subst e2_0
  obtain ⟨b2_1, e2_1, hb2_1, x2_1⟩ := DataW.trod_int Try.underlying3 u2_1
  simp only [List.cons.injEq, and_true] at e2_1
  subst e2_1
  obtain ⟨b2_2, e2_2, hb2_2, x2_2⟩ := DataW.trod_int Try.underlying3 u2_2
  simp only [List.cons.injEq, and_true] at e2_2
  subst e2_2
  obtain ⟨b2_3, e2_3, hb2_3, x2_3⟩ := DataW.trod_int Try.underlying3 u2_3
  simp only [List.cons.injEq, and_true] at e2_3
  subst e2_3
  have k3 := h3
  have lt3 : ∀ x ∈ p3, x.block < W.heap.size := by obtain ⟨m, hm⟩ := k3; exact DataW.trod_lt m _ _ _ hm
  obtain ⟨c3_0, c3_1, c3_2, y3_0, y3_1, y3_2, m3, rfl, rfl, rfl, u3_0, u3_1, u3_2⟩ := open_agg3 Try.underlying71 (by kernel_rfl) (by kernel_rfl) (hval 3 71 v3 rfl rfl) h3
  obtain ⟨A3_0, n3_0, k3_0, z3_0, e3_0, w3_0⟩ := ints_open1 u3_0
  subst e3_0
  obtain ⟨A3_1, n3_1, k3_1, z3_1, e3_1, w3_1⟩ := ints_open1 u3_1
  subst e3_1
  obtain ⟨A3_2, n3_2, k3_2, z3_2, e3_2, w3_2⟩ := ints_open1 u3_2
  subst e3_2
  clear hA0 hval0
  refine (walk_FnExactVerifyEqual (w := W) b0_0 b0_1 b0_2 x0_0 x0_1 x0_2 s1 w1 b2_0 b2_1 b2_2 b2_3 x2_0 x2_1 x2_2 x2_3 A3_0 n3_0 k3_0 z3_0 w3_0 A3_1 n3_1 k3_1 z3_1 w3_1 A3_2 n3_2 k3_2 z3_2 w3_2).mono fun e W' ⟨he, bel⟩ => ?_
  subst he
  exact ⟨_, rfl, _, _, _, [], _, [], hW', trodAll_mk1 (shut_bool Try.underlying4 _), (trodAll_cons_mk (Below.trod laidOut (by kernel_rfl) (of_decide_eq_true (by kernel_rfl)) k0 bel lt0) (trodAll_cons_mk (Below.trod laidOut (by kernel_rfl) (of_decide_eq_true (by kernel_rfl)) k1 bel lt1) (trodAll_cons_mk (Below.trod laidOut (by kernel_rfl) (of_decide_eq_true (by kernel_rfl)) k2 bel lt2) (trodAll_cons_mk (Below.trod laidOut (by kernel_rfl) (of_decide_eq_true (by kernel_rfl)) k3 bel lt3) trodAll_mk0)))), rfl, bel.frame _, fun h => by cases h⟩

theorem over_FnExactVerifyEqual : Rows.fnExactVerifyEqualRow.holds Try.pinned (OpenSpec.ofChange Rows.fnExactVerifyEqualSpec) :=
  OpenClaim.holds_of_wide 12 Try.f12 rfl rfl rfl rfl rfl rfl rfl ⟨rfl, rfl, rfl, rfl, rfl⟩ rfl rfl rfl rfl rfl (by kernel_rfl) Try.func12 (by kernel_rfl)
    (of_decide_eq_true (by kernel_rfl)) (by unfold Func.isWrapper; first | (rw [if_pos (by decide +kernel)]; kernel_rfl) | (rw [if_neg (by decide +kernel)]; exact ⟨rfl, rfl⟩))
    (fun os started H enc _ => lifted_FnExactVerifyEqual os started H enc)

theorem proved_FnExactVerifyEqual : Rows.FnExactVerifyEqualSaid := over_FnExactVerifyEqual
#print axioms proved_FnExactVerifyEqual
end Go.Proofs.Yteeggmnkcgpfjaa
