/- Contracts: any group, exponents and elements that are drawn; the draws of two statements. -/
import Derived.Test.YteeggmnkcgpfjaaDr2
namespace Go.Proofs.Yteeggmnkcgpfjaa
open Go.RowKit
set_option linter.unusedVariables false
attribute [local go_sem ↓] Go.wp_at_zero Go.wp_at_succ
set_option linter.unusedSimpArgs false

set_option maxRecDepth 100000 in
set_option maxHeartbeats 4000000 in
theorem anyGroup_any (b k : Nat) (w : World) (h : Cur w b k) (hk : k ≤ 100) :
    Calls Try.prog 66 #[.pointer (some ⟨b, 0, none⟩)] w (DrewG b (k + 14) GrA w) := by
  have hlt := h.lt
  have hrb := RB.new w 27 (.int .i64 0) (.int .i64 0) (.int .i64 0) w.heap.size rfl
  have HC := Lib.hid (h.below (belA (o := .cells #[.int .i64 0, .int .i64 0, .int .i64 0] 27) (Below.refl _ _)))
  have HS0 : Hid (Spared b (b + 1) w (w.alloc (.cells #[.int .i64 0, .int .i64 0, .int .i64 0] 27))) := Lib.hid (Spared.of_below (belA (Below.refl _ _)))
  have HR := Lib.hid hrb
  clear h hrb
  go_enter Try.func66, Try.ntmps66
  go_wp2_with fail
  refine (group_any b k _ HC.out (by omega)).mono ?_
  rintro e w1 ⟨p, q, g, rfl, ⟨t1, t2, t3, t4, t5, t6⟩, hc1, hs1⟩
  have hz1 : w.heap.size < w1.heap.size := by have := hs1.size; simp at this; omega
  have hb1 : b < w1.heap.size := hc1.lt
  have HR1 := Lib.hid ((HR.out.spared hs1 (by omega)).below (belA (o := .cells #[.int .i64 p, .int .i64 q, .int .i64 g] 27) (Below.refl _ _)))
  have HG1 := Lib.hid (RB.new w1 27 (.int .i64 p) (.int .i64 q) (.int .i64 g) w1.heap.size rfl)
  have HS1 := Lib.hid ((HS0.out.trans hs1).allocR (o := .cells #[.int .i64 p, .int .i64 q, .int .i64 g] 27))
  have HC1 := Lib.hid (hc1.below (belA (o := .cells #[.int .i64 p, .int .i64 q, .int .i64 g] 27) (Below.refl _ _)))
  clear hc1 hs1
  go_wp2_with fail
  refine (pick_any b (k + 10) 24 _ HC1.out (by omega) (by omega)).mono ?_
  rintro e w2 ⟨x, rfl, ⟨x0, _, x1, _⟩, hc2, hs2⟩
  replace x1 := x1 (by omega)
  have HR2 := Lib.hid (HR1.out.spared hs2 (by omega))
  have HG2 := Lib.hid (HG1.out.spared hs2 (by omega))
  have HS2 := Lib.hid (HS1.out.trans hs2)
  have HC2 := Lib.hid hc2
  have hz2 : w1.heap.size < w2.heap.size := HG2.out.lt
  clear hc2 hs2
  by_cases h0 : x = 0
  · subst h0
    have u0 : IntKind.i64.wrap (p + 2) = p + 2 := by rw [IntKind.wrap_i64]; omega
    have u1 : IntKind.i64.wrap (q + 1) = q + 1 := by rw [IntKind.wrap_i64]; omega
    have u2 : IntKind.i64.wrap (p - 1) = p - 1 := by rw [IntKind.wrap_i64]; omega
    have u3 : IntKind.i64.wrap (g + 1) = g + 1 := by rw [IntKind.wrap_i64]; omega
    obtain ⟨c0, c1, c2, cf0, cf1, cf2⟩ := HG2.out
    go_wp2_with fail
    refine (among_any w2.heap.size 4 4 b (k + 12) [0, p + 2, 4, (-7)] _ (HC2.out.below (belA (Below.refl _ _))) (by omega) (lit_ints _ _ _ _ _ rfl (by simp) (by simp)) (by omega) (by omega) (by omega)).mono ?_
    rintro e w3 ⟨y, rfl, hy, hc3, hs3⟩
    have HG3 := (HG2.out.below (belA (o := .cells #[.int .i64 0, .int .i64 (p + 2), .int .i64 4, .int .i64 (-7)] 3) (Below.refl _ _))).spared hs3 (by omega)
    have HR3 := (HR2.out.below (belA (o := .cells #[.int .i64 0, .int .i64 (p + 2), .int .i64 4, .int .i64 (-7)] 3) (Below.refl _ _))).spared hs3 (by omega)
    have HSP := Lib.hid (HS2.out.allocR.trans hs3)
    have HCU := Lib.hid (hc3.more (show k + 12 + 2 ≤ k + 14 by omega))
    have hY : -10 ≤ y ∧ y ≤ 2000000010 := by
      simp only [List.mem_cons, List.mem_nil_iff, or_false] at hy
      omega
    have hzz : w.heap.size < w3.heap.size := HR3.lt
    have hzz2 : w1.heap.size < w3.heap.size := HG3.lt
    clear hc3 hs3 hy c0 c1 c2 cf0 cf1 cf2
    obtain ⟨c0, c1, c2, cf0, cf1, cf2⟩ := HG3
    obtain ⟨y0, y1, y2, z0, z1, z2⟩ := HR3
    go_wp2
    refine bodyPost_ret (v := .agg #[.int .i64 y, .int .i64 q, .int .i64 g]) (by simp [results, Try.results66, go_sem, y0, y1, y2, hzz, hzz2]) rfl ⟨_, _, _, rfl, ⟨by omega, by omega, by omega, by omega, by omega, by omega⟩, (by repeat (first | assumption | exact HCU.out | refine Cur.above ?_ (by first | omega | (simp; omega)) | refine Cur.below ?_ (belA (Below.refl _ _)))), (by repeat (first | assumption | exact HSP.out | refine Spared.setAbove ?_ (by first | omega | (simp; omega)) | refine Spared.allocR ?_))⟩
  have g0 : (x == 0) = false := by rw [beq_eq_false_iff_ne]; exact h0
  by_cases h1 : x = 1
  · subst h1
    have u0 : IntKind.i64.wrap (p + 2) = p + 2 := by rw [IntKind.wrap_i64]; omega
    have u1 : IntKind.i64.wrap (q + 1) = q + 1 := by rw [IntKind.wrap_i64]; omega
    have u2 : IntKind.i64.wrap (p - 1) = p - 1 := by rw [IntKind.wrap_i64]; omega
    have u3 : IntKind.i64.wrap (g + 1) = g + 1 := by rw [IntKind.wrap_i64]; omega
    obtain ⟨c0, c1, c2, cf0, cf1, cf2⟩ := HG2.out
    go_wp2_with fail
    refine (among_any w2.heap.size 4 4 b (k + 12) [0, 1, q + 1, p - 1] _ (HC2.out.below (belA (Below.refl _ _))) (by omega) (lit_ints _ _ _ _ _ rfl (by simp) (by simp)) (by omega) (by omega) (by omega)).mono ?_
    rintro e w3 ⟨y, rfl, hy, hc3, hs3⟩
    have HG3 := (HG2.out.below (belA (o := .cells #[.int .i64 0, .int .i64 1, .int .i64 (q + 1), .int .i64 (p - 1)] 3) (Below.refl _ _))).spared hs3 (by omega)
    have HR3 := (HR2.out.below (belA (o := .cells #[.int .i64 0, .int .i64 1, .int .i64 (q + 1), .int .i64 (p - 1)] 3) (Below.refl _ _))).spared hs3 (by omega)
    have HSP := Lib.hid (HS2.out.allocR.trans hs3)
    have HCU := Lib.hid (hc3.more (show k + 12 + 2 ≤ k + 14 by omega))
    have hY : -10 ≤ y ∧ y ≤ 2000000010 := by
      simp only [List.mem_cons, List.mem_nil_iff, or_false] at hy
      omega
    have hzz : w.heap.size < w3.heap.size := HR3.lt
    have hzz2 : w1.heap.size < w3.heap.size := HG3.lt
    clear hc3 hs3 hy c0 c1 c2 cf0 cf1 cf2
    obtain ⟨c0, c1, c2, cf0, cf1, cf2⟩ := HG3
    obtain ⟨y0, y1, y2, z0, z1, z2⟩ := HR3
    go_wp2
    refine bodyPost_ret (v := .agg #[.int .i64 p, .int .i64 y, .int .i64 g]) (by simp [results, Try.results66, go_sem, y0, y1, y2, hzz, hzz2]) rfl ⟨_, _, _, rfl, ⟨by omega, by omega, by omega, by omega, by omega, by omega⟩, (by repeat (first | assumption | exact HCU.out | refine Cur.above ?_ (by first | omega | (simp; omega)) | refine Cur.below ?_ (belA (Below.refl _ _)))), (by repeat (first | assumption | exact HSP.out | refine Spared.setAbove ?_ (by first | omega | (simp; omega)) | refine Spared.allocR ?_))⟩
  have g1 : (x == 1) = false := by rw [beq_eq_false_iff_ne]; exact h1
  by_cases h2 : x = 2
  · subst h2
    have u0 : IntKind.i64.wrap (p + 2) = p + 2 := by rw [IntKind.wrap_i64]; omega
    have u1 : IntKind.i64.wrap (q + 1) = q + 1 := by rw [IntKind.wrap_i64]; omega
    have u2 : IntKind.i64.wrap (p - 1) = p - 1 := by rw [IntKind.wrap_i64]; omega
    have u3 : IntKind.i64.wrap (g + 1) = g + 1 := by rw [IntKind.wrap_i64]; omega
    obtain ⟨c0, c1, c2, cf0, cf1, cf2⟩ := HG2.out
    go_wp2_with fail
    refine (among_any w2.heap.size 5 5 b (k + 12) [0, 1, p - 1, p, g + 1] _ (HC2.out.below (belA (Below.refl _ _))) (by omega) (lit_ints _ _ _ _ _ rfl (by simp) (by simp)) (by omega) (by omega) (by omega)).mono ?_
    rintro e w3 ⟨y, rfl, hy, hc3, hs3⟩
    have HG3 := (HG2.out.below (belA (o := .cells #[.int .i64 0, .int .i64 1, .int .i64 (p - 1), .int .i64 p, .int .i64 (g + 1)] 3) (Below.refl _ _))).spared hs3 (by omega)
    have HR3 := (HR2.out.below (belA (o := .cells #[.int .i64 0, .int .i64 1, .int .i64 (p - 1), .int .i64 p, .int .i64 (g + 1)] 3) (Below.refl _ _))).spared hs3 (by omega)
    have HSP := Lib.hid (HS2.out.allocR.trans hs3)
    have HCU := Lib.hid (hc3.more (show k + 12 + 2 ≤ k + 14 by omega))
    have hY : -10 ≤ y ∧ y ≤ 2000000010 := by
      simp only [List.mem_cons, List.mem_nil_iff, or_false] at hy
      omega
    have hzz : w.heap.size < w3.heap.size := HR3.lt
    have hzz2 : w1.heap.size < w3.heap.size := HG3.lt
    clear hc3 hs3 hy c0 c1 c2 cf0 cf1 cf2
    obtain ⟨c0, c1, c2, cf0, cf1, cf2⟩ := HG3
    obtain ⟨y0, y1, y2, z0, z1, z2⟩ := HR3
    go_wp2
    refine bodyPost_ret (v := .agg #[.int .i64 p, .int .i64 q, .int .i64 y]) (by simp [results, Try.results66, go_sem, y0, y1, y2, hzz, hzz2]) rfl ⟨_, _, _, rfl, ⟨by omega, by omega, by omega, by omega, by omega, by omega⟩, (by repeat (first | assumption | exact HCU.out | refine Cur.above ?_ (by first | omega | (simp; omega)) | refine Cur.below ?_ (belA (Below.refl _ _)))), (by repeat (first | assumption | exact HSP.out | refine Spared.setAbove ?_ (by first | omega | (simp; omega)) | refine Spared.allocR ?_))⟩
  have g2 : (x == 2) = false := by rw [beq_eq_false_iff_ne]; exact h2
  have HSP := Lib.hid HS2.out
  have HCU := Lib.hid (HC2.out.more (show k + 10 + 2 ≤ k + 14 by omega))
  have hzz : w.heap.size < w2.heap.size := by omega
  have hzz2 := hz2
  obtain ⟨c0, c1, c2, cf0, cf1, cf2⟩ := HG2.out
  obtain ⟨y0, y1, y2, z0, z1, z2⟩ := HR2.out
  go_wp2
  refine bodyPost_ret (v := .agg #[.int .i64 p, .int .i64 q, .int .i64 g]) (by simp [results, Try.results66, go_sem, y0, y1, y2, hzz, hzz2]) rfl ⟨_, _, _, rfl, ⟨by omega, by omega, by omega, by omega, by omega, by omega⟩, (by repeat (first | assumption | exact HCU.out | refine Cur.above ?_ (by first | omega | (simp; omega)) | refine Cur.below ?_ (belA (Below.refl _ _)))), (by repeat (first | assumption | exact HSP.out | refine Spared.setAbove ?_ (by first | omega | (simp; omega)) | refine Spared.allocR ?_))⟩
set_option maxRecDepth 100000 in
set_option maxHeartbeats 4000000 in
theorem expo_any (b k : Nat) (p q g : Int) (w : World) (h : Cur w b k) (hk : k ≤ 200) (q1 : q ≤ 2000000010) :
    Calls Try.prog 117 #[.pointer (some ⟨b, 0, none⟩), .agg #[.int .i64 p, .int .i64 q, .int .i64 g]] w (Drew b (k + 4) (fun x => 0 ≤ x ∧ x ≤ 4000000000) w) := by
  have hlt := h.lt
  have HC := Lib.hid (h.below (belA (o := .cells #[.int .i64 p, .int .i64 q, .int .i64 g] 27) (Below.refl _ _)))
  have HS0 : Hid (Spared b (b + 1) w (w.alloc (.cells #[.int .i64 p, .int .i64 q, .int .i64 g] 27))) := Lib.hid (Spared.of_below (belA (Below.refl _ _)))
  have c1 : (w.alloc (.cells #[.int .i64 p, .int .i64 q, .int .i64 g] 27)).cell? ⟨w.heap.size, 1, none⟩ = some (.int .i64 q) := (by rw [World.cell?_alloc_at _ _ _ _ (by simp)]; rfl)
  clear h
  by_cases hq : q < 2
  · have HCU := Lib.hid (HC.out.more (show k ≤ k + 4 by omega))
    go_enter Try.func117, Try.ntmps117
    go_wp2
    go_ret
    exact ⟨0, rfl, ⟨by omega, by omega⟩, HCU.out, HS0.out⟩
  · have hq0 : (q == 0) = false := by rw [beq_eq_false_iff_ne]; omega
    have hq0' : ¬ q = 0 := by omega
    go_enter Try.func117, Try.ntmps117
    go_wp2_with fail
    generalize hW0 : (w.alloc (.cells #[.int .i64 p, .int .i64 q, .int .i64 g] 27)) = W0 at HC HS0 c1
    clear hW0
    refine wp_region_held_drew (S := fun W => Spared b (b + 1) W0 W) (by kernel_rfl) (Spared.rfl'.drewR (m := 1)) (fun hHeld => ?_)
    refine heldTake (i := 0) (v := ?_) (some 8) rfl rfl (by kernel_rfl) (by kernel_rfl) (by kernel_rfl) (fun _ _ _ h => h) (Or.inl ⟨by rfl, ?_⟩) (by assumption) ?_
    rotate_left
    · (intro W hSw; have t0 := hSw.cell c1 (by omega); clear hSw; go_simp; all_goals first | with_reducible rfl | (simp [*]; done) | (intro hh; exfalso; omega) | fail)
    try simp only [Act.put, List.setIfInBounds_toArray, List.set_cons_zero, List.set_cons_succ]
    refine heldTake (i := 3) (v := ?_) (some 11) rfl rfl (by kernel_rfl) (by kernel_rfl) (by kernel_rfl) (fun _ _ _ h => h) (Or.inl ⟨by rfl, ?_⟩) (by assumption) ?_
    rotate_left
    · (intro W hSw; have t0 := hSw.cell c1 (by omega); clear hSw; go_simp; all_goals first | with_reducible rfl | (simp [*]; done) | (intro hh; exfalso; omega) | fail)
    try simp only [Act.put, List.setIfInBounds_toArray, List.set_cons_zero, List.set_cons_succ]
    refine heldTake (i := 6) (v := ?_) (some 14) rfl rfl (by kernel_rfl) (by kernel_rfl) (by kernel_rfl) (fun _ _ _ h => h) (Or.inl ⟨by rfl, ?_⟩) (by assumption) ?_
    rotate_left
    · (intro W hSw; have t0 := hSw.cell c1 (by omega); clear hSw; go_simp; all_goals first | with_reducible rfl | (simp [*]; done) | (intro hh; exfalso; omega) | fail)
    try simp only [Act.put, List.setIfInBounds_toArray, List.set_cons_zero, List.set_cons_succ]
    refine heldTake (i := 7) (v := ?_) (some 15) rfl rfl (by kernel_rfl) (by kernel_rfl) (by kernel_rfl) (fun _ _ _ h => h) (Or.inl ⟨by rfl, ?_⟩) (by assumption) ?_
    rotate_left
    · (intro W hSw; have t0 := hSw.cell c1 (by omega); clear hSw; go_simp; all_goals first | with_reducible rfl | (simp [*]; done) | (intro hh; exfalso; omega) | fail)
    try simp only [Act.put, List.setIfInBounds_toArray, List.set_cons_zero, List.set_cons_succ]
    refine wpAnyH_ready (rs := [1]) (by kernel_rfl) (by simp) ?_
    refine AllReadyH.cons rfl (fun K hK => ?_) AllReadyH.nil
    go_simp
    (go_at_call 68; refine (pick_any b k 60000 _ HC.out.drewN (by omega) (by omega)).mono ?_; rintro e w1 ⟨x, rfl, ⟨x0, _, x1, _⟩, hc1, hs1⟩)
    replace x1 := x1 (by omega)
    have HC1 := Lib.hid hc1
    have hNx := hHeld.trans hs1
    refine hK.out _ _ hNx (fun hNew => ?_)
    clear hK K hHeld hNx
    have hHeld := hNew; clear hNew
    try simp only [Act.put, List.setIfInBounds_toArray, List.set_cons_zero, List.set_cons_succ]
    have ux : IntKind.i64.wrap (x * 60000) = x * 60000 := by rw [IntKind.wrap_i64]; omega
    refine heldTake (i := 2) (v := .int .i64 (x * 60000)) (some 10) rfl rfl (by kernel_rfl) (by kernel_rfl) (by kernel_rfl) (fun _ _ _ h => h) (Or.inl ⟨by rfl, ?_⟩) (by assumption) ?_
    · (intro W hSw; have t0 := hSw.cell c1 (by omega); clear hSw; go_simp; all_goals first | with_reducible rfl | (simp [*]; done) | (intro hh; exfalso; omega) | fail)
    try simp only [Act.put, List.setIfInBounds_toArray, List.set_cons_zero, List.set_cons_succ]
    refine wpAnyH_ready (rs := [4]) (by kernel_rfl) (by simp) ?_
    refine AllReadyH.cons rfl (fun K hK => ?_) AllReadyH.nil
    go_simp
    (go_at_call 68; refine (pick_any b (k + 2) 60000 _ HC1.out (by omega) (by omega)).mono ?_; rintro e w2 ⟨y, rfl, ⟨y0, _, y1, _⟩, hc2, hs2⟩)
    replace y1 := y1 (by omega)
    have HC2 := Lib.hid hc2
    have hNx := hHeld.trans hs2
    refine hK.out _ _ hNx (fun hNew => ?_)
    clear hK K hHeld hNx
    have hHeld := hNew; clear hNew
    try simp only [Act.put, List.setIfInBounds_toArray, List.set_cons_zero, List.set_cons_succ]
    have uy : IntKind.i64.wrap (x * 60000 + y) = x * 60000 + y := by rw [IntKind.wrap_i64]; omega
    have ht : (x * 60000 + y).tmod q = (x * 60000 + y) % q := Int.tmod_eq_emod_of_nonneg (by omega)
    have r0 := Int.emod_nonneg (x * 60000 + y) (show q ≠ 0 by omega)
    have r1 := Int.emod_lt_of_pos (x * 60000 + y) (show 0 < q by omega)
    generalize hzz : (x * 60000 + y) % q = z at ht r0 r1
    have uz : IntKind.i64.wrap z = z := by rw [IntKind.wrap_i64]; omega
    clear hzz
    refine heldTake (i := 5) (v := .int .i64 (x * 60000 + y)) (some 13) rfl rfl (by kernel_rfl) (by kernel_rfl) (by kernel_rfl) (fun _ _ _ h => h) (Or.inl ⟨by rfl, ?_⟩) (by assumption) ?_
    · (intro W hSw; have t0 := hSw.cell c1 (by omega); clear hSw; go_simp; all_goals first | with_reducible rfl | (simp [*]; done) | (intro hh; exfalso; omega) | fail)
    try simp only [Act.put, List.setIfInBounds_toArray, List.set_cons_zero, List.set_cons_succ]
    refine heldTake (i := 8) (v := .int .i64 z) (some 16) rfl rfl (by kernel_rfl) (by kernel_rfl) (by kernel_rfl) (fun _ _ _ h => h) (Or.inl ⟨by rfl, ?_⟩) (by assumption) ?_
    · (intro W hSw; have t0 := hSw.cell c1 (by omega); clear hSw; go_simp; all_goals first | with_reducible rfl | (simp [*]; done) | (intro hh; exfalso; omega) | fail)
    try simp only [Act.put, List.setIfInBounds_toArray, List.set_cons_zero, List.set_cons_succ]
    refine heldTake (i := 9) (v := ?_) (some 4) rfl rfl (by kernel_rfl) (by kernel_rfl) (by kernel_rfl) (fun _ _ _ h => h) (Or.inl ⟨by rfl, ?_⟩) (by assumption) ?_
    rotate_left
    · (intro W hSw; have t0 := hSw.cell c1 (by omega); clear hSw; go_simp; all_goals first | with_reducible rfl | (simp [*]; done) | (intro hh; exfalso; omega) | fail)
    try simp only [Act.put, List.setIfInBounds_toArray, List.set_cons_zero, List.set_cons_succ]
    refine wpAnyH_done (by kernel_rfl) ?_ _
    go_wp2
    go_ret
    exact ⟨z, rfl, ⟨r0, by omega⟩, HC2.out, HS0.out.trans hHeld⟩
set_option maxRecDepth 100000 in
set_option maxHeartbeats 4000000 in
theorem element_any (b k : Nat) (p q g : Int) (w : World) (h : Cur w b k) (hk : k ≤ 200) (p1 : p ≤ 2000000010) (q1 : q ≤ 2000000010) :
    Calls Try.prog 69 #[.pointer (some ⟨b, 0, none⟩), .agg #[.int .i64 p, .int .i64 q, .int .i64 g]] w (Drew b (k + 4) (fun x => 0 ≤ x ∧ x ≤ 4000000000) w) := by
  have hlt := h.lt
  have HC := Lib.hid (h.below (belA (o := .cells #[.int .i64 p, .int .i64 q, .int .i64 g] 27) (Below.refl _ _)))
  have HS0 : Hid (Spared b (b + 1) w (w.alloc (.cells #[.int .i64 p, .int .i64 q, .int .i64 g] 27))) := Lib.hid (Spared.of_below (belA (Below.refl _ _)))
  have c0 : (w.alloc (.cells #[.int .i64 p, .int .i64 q, .int .i64 g] 27)).cell? ⟨w.heap.size, 0, none⟩ = some (.int .i64 p) := (by rw [World.cell?_alloc_at _ _ _ _ (by simp)]; rfl)
  have c1 : (w.alloc (.cells #[.int .i64 p, .int .i64 q, .int .i64 g] 27)).cell? ⟨w.heap.size, 1, none⟩ = some (.int .i64 q) := (by rw [World.cell?_alloc_at _ _ _ _ (by simp)]; rfl)
  have c2 : (w.alloc (.cells #[.int .i64 p, .int .i64 q, .int .i64 g] 27)).cell? ⟨w.heap.size, 2, none⟩ = some (.int .i64 g) := (by rw [World.cell?_alloc_at _ _ _ _ (by simp)]; rfl)
  have HCU := Lib.hid (HC.out.more (show k ≤ k + 4 by omega))
  clear h
  by_cases hp : p < 3
  · go_enter Try.func69, Try.ntmps69
    go_wp2
    go_ret
    exact ⟨1, rfl, ⟨by omega, by omega⟩, HCU.out, HS0.out⟩
  by_cases hq : q < 1
  · go_enter Try.func69, Try.ntmps69
    go_wp2
    go_ret
    exact ⟨1, rfl, ⟨by omega, by omega⟩, HCU.out, HS0.out⟩
  · have m0 := Int.emod_nonneg g (show p ≠ 0 by omega)
    have m1 := Int.emod_lt_of_pos g (show 0 < p by omega)
    go_enter Try.func69, Try.ntmps69
    go_wp2_with fail
    generalize hW0 : (w.alloc (.cells #[.int .i64 p, .int .i64 q, .int .i64 g] 27)) = W0 at HC HS0 HCU c0 c1 c2
    clear hW0
    refine wp_region_held_drew (S := fun W => Spared b (b + 1) W0 W) (by kernel_rfl) (Spared.rfl'.drewR (m := 1)) (fun hHeld => ?_)
    refine heldTake (i := 0) (v := ?_) (some 13) rfl rfl (by kernel_rfl) (by kernel_rfl) (by kernel_rfl) (fun _ _ _ h => h) (Or.inl ⟨by rfl, ?_⟩) (by assumption) ?_
    rotate_left
    · (intro W hSw; have t0 := hSw.cell c0 (by omega); have t1 := hSw.cell c1 (by omega); have t2 := hSw.cell c2 (by omega); clear hSw; go_simp; all_goals first | with_reducible rfl | (simp [*]; done) | (intro hh; exfalso; omega) | fail)
    try simp only [Act.put, List.setIfInBounds_toArray, List.set_cons_zero, List.set_cons_succ]
    refine heldTake (i := 1) (v := ?_) (some 14) rfl rfl (by kernel_rfl) (by kernel_rfl) (by kernel_rfl) (fun _ _ _ h => h) (Or.inl ⟨by rfl, ?_⟩) (by assumption) ?_
    rotate_left
    · (intro W hSw; have t0 := hSw.cell c0 (by omega); have t1 := hSw.cell c1 (by omega); have t2 := hSw.cell c2 (by omega); clear hSw; go_simp; all_goals first | with_reducible rfl | (simp [*]; done) | (intro hh; exfalso; omega) | fail)
    try simp only [Act.put, List.setIfInBounds_toArray, List.set_cons_zero, List.set_cons_succ]
    refine heldTake (i := 2) (v := ?_) (some 15) rfl rfl (by kernel_rfl) (by kernel_rfl) (by kernel_rfl) (fun _ _ _ h => h) (Or.inl ⟨by rfl, ?_⟩) (by assumption) ?_
    rotate_left
    · (intro W hSw; have t0 := hSw.cell c0 (by omega); have t1 := hSw.cell c1 (by omega); have t2 := hSw.cell c2 (by omega); clear hSw; go_simp; all_goals first | with_reducible rfl | (simp [*]; done) | (intro hh; exfalso; omega) | fail)
    try simp only [Act.put, List.setIfInBounds_toArray, List.set_cons_zero, List.set_cons_succ]
    refine heldTake (i := 3) (v := ?_) (some 16) rfl rfl (by kernel_rfl) (by kernel_rfl) (by kernel_rfl) (fun _ _ _ h => h) (Or.inl ⟨by rfl, ?_⟩) (by assumption) ?_
    rotate_left
    · (intro W hSw; have t0 := hSw.cell c0 (by omega); have t1 := hSw.cell c1 (by omega); have t2 := hSw.cell c2 (by omega); clear hSw; go_simp; all_goals first | with_reducible rfl | (simp [*]; done) | (intro hh; exfalso; omega) | fail)
    try simp only [Act.put, List.setIfInBounds_toArray, List.set_cons_zero, List.set_cons_succ]
    refine heldTake (i := 4) (v := ?_) (some 17) rfl rfl (by kernel_rfl) (by kernel_rfl) (by kernel_rfl) (fun _ _ _ h => h) (Or.inl ⟨by rfl, ?_⟩) (by assumption) ?_
    rotate_left
    · (intro W hSw; have t0 := hSw.cell c0 (by omega); have t1 := hSw.cell c1 (by omega); have t2 := hSw.cell c2 (by omega); clear hSw; go_simp; all_goals first | with_reducible rfl | (simp [*]; done) | (intro hh; exfalso; omega) | fail)
    try simp only [Act.put, List.setIfInBounds_toArray, List.set_cons_zero, List.set_cons_succ]
    refine heldTake (i := 6) (v := ?_) (some 19) rfl rfl (by kernel_rfl) (by kernel_rfl) (by kernel_rfl) (fun _ _ _ h => h) (Or.inl ⟨by rfl, ?_⟩) (by assumption) ?_
    rotate_left
    · (intro W hSw; have t0 := hSw.cell c0 (by omega); have t1 := hSw.cell c1 (by omega); have t2 := hSw.cell c2 (by omega); clear hSw; go_simp; all_goals first | with_reducible rfl | (simp [*]; done) | (intro hh; exfalso; omega) | fail)
    try simp only [Act.put, List.setIfInBounds_toArray, List.set_cons_zero, List.set_cons_succ]
    refine heldTake (i := 7) (v := ?_) (some 20) rfl rfl (by kernel_rfl) (by kernel_rfl) (by kernel_rfl) (fun _ _ _ h => h) (Or.inl ⟨by rfl, ?_⟩) (by assumption) ?_
    rotate_left
    · (intro W hSw; have t0 := hSw.cell c0 (by omega); have t1 := hSw.cell c1 (by omega); have t2 := hSw.cell c2 (by omega); clear hSw; go_simp; all_goals first | with_reducible rfl | (simp [*]; done) | (intro hh; exfalso; omega) | fail)
    try simp only [Act.put, List.setIfInBounds_toArray, List.set_cons_zero, List.set_cons_succ]
    refine wpAnyH_ready (rs := [5]) (by kernel_rfl) (by simp) ?_
    refine AllReadyH.cons rfl (fun K hK => ?_) AllReadyH.nil
    go_simp
    (go_at_call 112; refine (nMod_any g p _ (by omega) (by omega)).mono ?_; rintro e w1 ⟨rfl, rfl⟩)
    have hNx := hHeld
    refine hK.out _ _ hNx (fun hNew => ?_)
    clear hK K hHeld hNx
    have hHeld := hNew; clear hNew
    try simp only [Act.put, List.setIfInBounds_toArray, List.set_cons_zero, List.set_cons_succ]
    generalize g % p = gm at m0 m1 ⊢
    refine wpAnyH_ready (rs := [8]) (by kernel_rfl) (by simp) ?_
    refine AllReadyH.cons rfl (fun K hK => ?_) AllReadyH.nil
    go_simp
    (go_at_call 117; refine (expo_any b k p q g _ HC.out.drewN hk q1).mono ?_; rintro e w2 ⟨y, rfl, ⟨y0, y1⟩, hc2, hs2⟩)
    have HC2 := Lib.hid hc2
    have hNx := hHeld.trans hs2
    refine hK.out _ _ hNx (fun hNew => ?_)
    clear hK K hHeld hNx
    have hHeld := hNew; clear hNew
    try simp only [Act.put, List.setIfInBounds_toArray, List.set_cons_zero, List.set_cons_succ]
    refine wpAnyH_ready (rs := [9]) (by kernel_rfl) (by simp) ?_
    refine AllReadyH.cons rfl (fun K hK => ?_) AllReadyH.nil
    go_simp
    (go_at_call 62; refine (gExp_any p q g gm y _ (by omega) (by omega) (by omega) (by omega) m0 m1).mono ?_; rintro e w3 ⟨rfl, hb3⟩)
    have hgp := gpow_bd (p := p) (q := q) (x := gm) (e := y) (by omega)
    generalize gpow p q gm y = z at hgp ⊢
    have HC3 := Lib.hid (HC2.out.below hb3)
    have hNx := hHeld.trans (Spared.of_below hb3)
    refine hK.out _ _ hNx (fun hNew => ?_)
    clear hK K hHeld hNx
    have hHeld := hNew; clear hNew
    try simp only [Act.put, List.setIfInBounds_toArray, List.set_cons_zero, List.set_cons_succ]
    refine heldTake (i := 10) (v := ?_) (some 4) rfl rfl (by kernel_rfl) (by kernel_rfl) (by kernel_rfl) (fun _ _ _ h => h) (Or.inl ⟨by rfl, ?_⟩) (by assumption) ?_
    rotate_left
    · (intro W hSw; have t0 := hSw.cell c0 (by omega); have t1 := hSw.cell c1 (by omega); have t2 := hSw.cell c2 (by omega); clear hSw; go_simp; all_goals first | with_reducible rfl | (simp [*]; done) | (intro hh; exfalso; omega) | fail)
    try simp only [Act.put, List.setIfInBounds_toArray, List.set_cons_zero, List.set_cons_succ]
    refine wpAnyH_done (by kernel_rfl) ?_ _
    go_wp2
    go_ret
    exact ⟨z, rfl, ⟨hgp.1, by omega⟩, HC3.out, HS0.out.trans hHeld⟩
end Go.Proofs.Yteeggmnkcgpfjaa
