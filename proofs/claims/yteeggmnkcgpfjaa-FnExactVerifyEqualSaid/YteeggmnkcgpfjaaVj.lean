/- Contracts: a linear statement's proof is verified, on both sides. -/
import Derived.Test.YteeggmnkcgpfjaaVjA
import Derived.Test.YteeggmnkcgpfjaaV2
import Derived.Test.YteeggmnkcgpfjaaPf
import Derived.Deep.RegionHeld3
import Derived.Deep.DrawnRows
namespace Go.Proofs.Yteeggmnkcgpfjaa
open Go.RowKit
set_option linter.unusedVariables false
attribute [local go_sem ↓] Go.wp_at_zero Go.wp_at_succ
set_option linter.unusedSimpArgs false

set_option maxRecDepth 100000 in
set_option maxHeartbeats 8000000 in
theorem verifyLinear_5 (p q g : Int) (s : ByteArray) (R : Option Addr) (r rc : Nat) (bs : List (Option Addr × Nat × List Int)) (A : Option Addr) (n c : Nat) (im : List Int) (A1 A2 A3 : Option Addr) (c1 c2 c3 : Nat) (C H Z : List Int) (w : World)
    (hg : goodB p q g = true) (hs : s.size ≤ 40) (h : Grid w R r bs) (hsb : sbB p q bs = true) (hi : Ints w A n im) (hn : n = r) (him : im.all (hasB p q) = true) (h1 : Ints w A1 C.length C) (h2 : Ints w A2 H.length H) (h3 : Ints w A3 Z.length Z) (t1 : C.length = r) (t2 : H.length = 1) (t3 : Z.length = (rowK bs 0).length) (hC : C.all (hasB p q) = true) (hZ : Z.all (fun z => inB z 0 (q - 1)) = true) :
    Calls Try.prog 152 #[.agg #[.int .i64 p, .int .i64 q, .int .i64 g], .string s, .slice R r rc, .slice A n c, .agg #[.slice A1 C.length c1, .slice A2 H.length c2, .slice A3 Z.length c3]] w fun e w' => e = .returned (.bool ((H.getD 0 0 == chV p q g s (flatG bs ++ im ++ C)) && (List.range bs.length).all fun k => vfE p q (rowsG bs) im C Z (H.getD 0 0) k)) ∧ Below w.heap.size w w' := by
  have hfl := (SB.of hsb).flat
  have HGD := Lib.hid hg
  have HLB := Lib.hid (st_lb (p := p) (q := q) (g := g) (s := s) hs (flat_digs hg hsb) (all_dig hg him) (all_dig hg hC) hfl (by have := (SB.of hsb).r8; have := hi.len; have := h.len; omega) (by have := (SB.of hsb).r8; have := h.len; omega))
  have HIMS := Lib.hid (all_small him)
  have HCS := Lib.hid (all_small hC)
  have hl := h.len
  subst hl
  subst hn
  obtain ⟨g1, g2, g3, g4, g5, g6⟩ := good_om hg
  have hsv := SB.of hsb
  have HSB := Lib.hid hsv
  obtain ⟨s1, s2, s3, s4, s5⟩ := hsv
  have hlc := h1.le
  have hlh := h2.le
  have hlz := h3.le
  obtain ⟨b, off, eR, hgb, hr0, hrow0⟩ := h.at_ (show 0 < bs.length by omega)
  rw [Nat.add_zero] at hr0
  have hlr := hrow0.le
  have e0 : (bs.getD 0 dRow).2.2 = rowK bs 0 := rfl
  rw [e0] at hr0 hlr
  subst eR
  have hpos : (0 : Int) < (bs.length : Int) := by omega
  have hposn : 0 < bs.length := by omega
  have hb0 : Below w.heap.size w ((w.alloc (.cells #[.int .i64 p, .int .i64 q, .int .i64 g] 27)).alloc (.cells #[.slice A1 C.length c1, .slice A2 H.length c2, .slice A3 Z.length c3] 52)) := belA (belA (Below.refl _ _))
  have HI := Lib.hid (h.below hb0)
  have HM := Lib.hid (hi.below hb0)
  have HC := Lib.hid (h1.below hb0)
  have HH := Lib.hid (h2.below hb0)
  have HZ := Lib.hid (h3.below hb0)
  have hz1 : w.heap.size + 1 < ((w.alloc (.cells #[.int .i64 p, .int .i64 q, .int .i64 g] 27)).alloc (.cells #[.slice A1 C.length c1, .slice A2 H.length c2, .slice A3 Z.length c3] 52)).heap.size := by simp
  have f0 : ((w.alloc (.cells #[.int .i64 p, .int .i64 q, .int .i64 g] 27)).alloc (.cells #[.slice A1 C.length c1, .slice A2 H.length c2, .slice A3 Z.length c3] 52)).cell? ⟨w.heap.size, 0, none⟩ = some (.int .i64 p) := by rw [World.cell?_alloc_past _ _ _ (by simp <;> omega), World.cell?_alloc_at _ _ _ _ (by simp)]; rfl
  have f1 : ((w.alloc (.cells #[.int .i64 p, .int .i64 q, .int .i64 g] 27)).alloc (.cells #[.slice A1 C.length c1, .slice A2 H.length c2, .slice A3 Z.length c3] 52)).cell? ⟨w.heap.size, 1, none⟩ = some (.int .i64 q) := by rw [World.cell?_alloc_past _ _ _ (by simp <;> omega), World.cell?_alloc_at _ _ _ _ (by simp)]; rfl
  have f2 : ((w.alloc (.cells #[.int .i64 p, .int .i64 q, .int .i64 g] 27)).alloc (.cells #[.slice A1 C.length c1, .slice A2 H.length c2, .slice A3 Z.length c3] 52)).cell? ⟨w.heap.size, 2, none⟩ = some (.int .i64 g) := by rw [World.cell?_alloc_past _ _ _ (by simp <;> omega), World.cell?_alloc_at _ _ _ _ (by simp)]; rfl
  have d0 : ((w.alloc (.cells #[.int .i64 p, .int .i64 q, .int .i64 g] 27)).alloc (.cells #[.slice A1 C.length c1, .slice A2 H.length c2, .slice A3 Z.length c3] 52)).cell? ⟨w.heap.size + 1, 0, none⟩ = some (.slice A1 C.length c1) := by rw [World.cell?_alloc_at _ _ _ _ (by simp)]; rfl
  have d1 : ((w.alloc (.cells #[.int .i64 p, .int .i64 q, .int .i64 g] 27)).alloc (.cells #[.slice A1 C.length c1, .slice A2 H.length c2, .slice A3 Z.length c3] 52)).cell? ⟨w.heap.size + 1, 1, none⟩ = some (.slice A2 H.length c2) := by rw [World.cell?_alloc_at _ _ _ _ (by simp)]; rfl
  have d2 : ((w.alloc (.cells #[.int .i64 p, .int .i64 q, .int .i64 g] 27)).alloc (.cells #[.slice A1 C.length c1, .slice A2 H.length c2, .slice A3 Z.length c3] 52)).cell? ⟨w.heap.size + 1, 2, none⟩ = some (.slice A3 Z.length c3) := by rw [World.cell?_alloc_at _ _ _ _ (by simp)]; rfl
  replace hr0 := keepB hb0 hr0
  clear h hi h1 h2 h3 hrow0 e0 s5 hsb
  have x1 : ((C.length : Int) != (bs.length : Int)) = false := by simp; omega
  have HT1 := Lib.hid t1
  clear t1
  have x2 : ((H.length : Int) != 1) = false := by simp; omega
  have HT2 := Lib.hid t2
  clear t2
  have x3 : ((Z.length : Int) != ((rowK bs 0).length : Int)) = false := by simp; omega
  have HT3 := Lib.hid t3
  clear t3
  have HFL := Lib.hid hfl
  clear hfl
  have HIL := Lib.hid HM.out.len
  obtain ⟨b2, off2, eA2, hb2, hch⟩ := HH.out.at_ (k := 0) (show 0 < H.length by have := HT2.out; omega)
  rw [Nat.add_zero] at hch
  subst eA2
  generalize H.getD 0 0 = ev at hch ⊢
  generalize hcv : chV p q g s (flatG bs ++ im ++ C) = cv
  have HCW := Lib.hid (show chW p q g s (flatG bs ++ im ++ C) = (cv, true) by rw [chW, HLB.out, ← hcv]; rfl)
  clear hcv
  have hl0 : (0 : Int) < (H.length : Int) := by have := HT2.out; omega
  go_enter Try.func152, Try.ntmps152
  go_wp2
  generalize hW0 : ((w.alloc (.cells #[.int .i64 p, .int .i64 q, .int .i64 g] 27)).alloc (.cells #[.slice A1 C.length c1, .slice (some ⟨b2, off2, none⟩) H.length c2, .slice A3 Z.length c3] 52)) = W0 at f0 hch f1 f2 d0 d1 d2 hr0 hz1 hb0 HI HM HC HH HZ
  clear hW0
  refine wp_region_held_drew (S := fun W => Below W0.heap.size W0 W) (by kernel_rfl) (belD (Below.refl _ _)) (fun hHeld => ?_)
  refine heldTake (i := 0) (v := ?_) (some 15) rfl rfl (by kernel_rfl) (by kernel_rfl) (by kernel_rfl) (fun _ _ _ h => h) (Or.inl ⟨by rfl, ?_⟩) (by assumption) ?_
  rotate_left
  · (intro W hSw; have q0 := keepB hSw f0; have q1 := keepB hSw f1; have q2 := keepB hSw f2; have q3 := keepB hSw d0; have q4 := keepB hSw d1; have q5 := keepB hSw d2; have q6 := keepB hSw hr0; clear hSw; go_simp; all_goals first | with_reducible rfl | (simp [*]; done) | (intro hh; exfalso; omega) | fail)
  try simp only [Act.put, List.setIfInBounds_toArray, List.set_cons_zero, List.set_cons_succ]
  refine heldTake (i := 1) (v := ?_) (some 16) rfl rfl (by kernel_rfl) (by kernel_rfl) (by kernel_rfl) (fun _ _ _ h => h) (Or.inl ⟨by rfl, ?_⟩) (by assumption) ?_
  rotate_left
  · (intro W hSw; have q0 := keepB hSw f0; have q1 := keepB hSw f1; have q2 := keepB hSw f2; have q3 := keepB hSw d0; have q4 := keepB hSw d1; have q5 := keepB hSw d2; have q6 := keepB hSw hr0; clear hSw; go_simp; all_goals first | with_reducible rfl | (simp [*]; done) | (intro hh; exfalso; omega) | fail)
  try simp only [Act.put, List.setIfInBounds_toArray, List.set_cons_zero, List.set_cons_succ]
  refine heldTake (i := 2) (v := ?_) (some 17) rfl rfl (by kernel_rfl) (by kernel_rfl) (by kernel_rfl) (fun _ _ _ h => h) (Or.inl ⟨by rfl, ?_⟩) (by assumption) ?_
  rotate_left
  · (intro W hSw; have q0 := keepB hSw f0; have q1 := keepB hSw f1; have q2 := keepB hSw f2; have q3 := keepB hSw d0; have q4 := keepB hSw d1; have q5 := keepB hSw d2; have q6 := keepB hSw hr0; clear hSw; go_simp; all_goals first | with_reducible rfl | (simp [*]; done) | (intro hh; exfalso; omega) | fail)
  try simp only [Act.put, List.setIfInBounds_toArray, List.set_cons_zero, List.set_cons_succ]
  refine heldTake (i := 3) (v := ?_) (some 18) rfl rfl (by kernel_rfl) (by kernel_rfl) (by kernel_rfl) (fun _ _ _ h => h) (Or.inl ⟨by rfl, ?_⟩) (by assumption) ?_
  rotate_left
  · (intro W hSw; have q0 := keepB hSw f0; have q1 := keepB hSw f1; have q2 := keepB hSw f2; have q3 := keepB hSw d0; have q4 := keepB hSw d1; have q5 := keepB hSw d2; have q6 := keepB hSw hr0; clear hSw; go_simp; all_goals first | with_reducible rfl | (simp [*]; done) | (intro hh; exfalso; omega) | fail)
  try simp only [Act.put, List.setIfInBounds_toArray, List.set_cons_zero, List.set_cons_succ]
  refine heldTake (i := 4) (v := ?_) (some 19) rfl rfl (by kernel_rfl) (by kernel_rfl) (by kernel_rfl) (fun _ _ _ h => h) (Or.inl ⟨by rfl, ?_⟩) (by assumption) ?_
  rotate_left
  · (intro W hSw; have q0 := keepB hSw f0; have q1 := keepB hSw f1; have q2 := keepB hSw f2; have q3 := keepB hSw d0; have q4 := keepB hSw d1; have q5 := keepB hSw d2; have q6 := keepB hSw hr0; clear hSw; go_simp; all_goals first | with_reducible rfl | (simp [*]; done) | (intro hh; exfalso; omega) | fail)
  try simp only [Act.put, List.setIfInBounds_toArray, List.set_cons_zero, List.set_cons_succ]
  refine heldTake (i := 5) (v := ?_) (some 20) rfl rfl (by kernel_rfl) (by kernel_rfl) (by kernel_rfl) (fun _ _ _ h => h) (Or.inl ⟨by rfl, ?_⟩) (by assumption) ?_
  rotate_left
  · (intro W hSw; have q0 := keepB hSw f0; have q1 := keepB hSw f1; have q2 := keepB hSw f2; have q3 := keepB hSw d0; have q4 := keepB hSw d1; have q5 := keepB hSw d2; have q6 := keepB hSw hr0; clear hSw; go_simp; all_goals first | with_reducible rfl | (simp [*]; done) | (intro hh; exfalso; omega) | fail)
  try simp only [Act.put, List.setIfInBounds_toArray, List.set_cons_zero, List.set_cons_succ]
  refine heldTake (i := 6) (v := ?_) (some 21) rfl rfl (by kernel_rfl) (by kernel_rfl) (by kernel_rfl) (fun _ _ _ h => h) (Or.inl ⟨by rfl, ?_⟩) (by assumption) ?_
  rotate_left
  · (intro W hSw; have q0 := keepB hSw f0; have q1 := keepB hSw f1; have q2 := keepB hSw f2; have q3 := keepB hSw d0; have q4 := keepB hSw d1; have q5 := keepB hSw d2; have q6 := keepB hSw hr0; clear hSw; go_simp; all_goals first | with_reducible rfl | (simp [*]; done) | (intro hh; exfalso; omega) | fail)
  try simp only [Act.put, List.setIfInBounds_toArray, List.set_cons_zero, List.set_cons_succ]
  refine heldTake (i := 7) (v := ?_) (some 22) rfl rfl (by kernel_rfl) (by kernel_rfl) (by kernel_rfl) (fun _ _ _ h => h) (Or.inl ⟨by rfl, ?_⟩) (by assumption) ?_
  rotate_left
  · (intro W hSw; have q0 := keepB hSw f0; have q1 := keepB hSw f1; have q2 := keepB hSw f2; have q3 := keepB hSw d0; have q4 := keepB hSw d1; have q5 := keepB hSw d2; have q6 := keepB hSw hr0; clear hSw; go_simp; all_goals first | with_reducible rfl | (simp [*]; done) | (intro hh; exfalso; omega) | fail)
  try simp only [Act.put, List.setIfInBounds_toArray, List.set_cons_zero, List.set_cons_succ]
  refine heldTake (i := 8) (v := ?_) (some 23) rfl rfl (by kernel_rfl) (by kernel_rfl) (by kernel_rfl) (fun _ _ _ h => h) (Or.inl ⟨by rfl, ?_⟩) (by assumption) ?_
  rotate_left
  · (intro W hSw; have q0 := keepB hSw f0; have q1 := keepB hSw f1; have q2 := keepB hSw f2; have q3 := keepB hSw d0; have q4 := keepB hSw d1; have q5 := keepB hSw d2; have q6 := keepB hSw hr0; clear hSw; go_simp; all_goals first | with_reducible rfl | (simp [*]; done) | (intro hh; exfalso; omega) | fail)
  try simp only [Act.put, List.setIfInBounds_toArray, List.set_cons_zero, List.set_cons_succ]
  refine heldTake (i := 9) (v := ?_) (some 24) rfl rfl (by kernel_rfl) (by kernel_rfl) (by kernel_rfl) (fun _ _ _ h => h) (Or.inl ⟨by rfl, ?_⟩) (by assumption) ?_
  rotate_left
  · (intro W hSw; have q0 := keepB hSw f0; have q1 := keepB hSw f1; have q2 := keepB hSw f2; have q3 := keepB hSw d0; have q4 := keepB hSw d1; have q5 := keepB hSw d2; have q6 := keepB hSw hr0; clear hSw; go_simp; all_goals first | with_reducible rfl | (simp [*]; done) | (intro hh; exfalso; omega) | fail)
  try simp only [Act.put, List.setIfInBounds_toArray, List.set_cons_zero, List.set_cons_succ]
  refine heldTake (i := 10) (v := ?_) (some 25) rfl rfl (by kernel_rfl) (by kernel_rfl) (by kernel_rfl) (fun _ _ _ h => h) (Or.inl ⟨by rfl, ?_⟩) (by assumption) ?_
  rotate_left
  · (intro W hSw; have q0 := keepB hSw f0; have q1 := keepB hSw f1; have q2 := keepB hSw f2; have q3 := keepB hSw d0; have q4 := keepB hSw d1; have q5 := keepB hSw d2; have q6 := keepB hSw hr0; clear hSw; go_simp; all_goals first | with_reducible rfl | (simp [*]; done) | (intro hh; exfalso; omega) | fail)
  try simp only [Act.put, List.setIfInBounds_toArray, List.set_cons_zero, List.set_cons_succ]
  refine heldTake (i := 11) (v := ?_) (some 26) rfl rfl (by kernel_rfl) (by kernel_rfl) (by kernel_rfl) (fun _ _ _ h => h) (Or.inl ⟨by rfl, ?_⟩) (by assumption) ?_
  rotate_left
  · (intro W hSw; have q0 := keepB hSw f0; have q1 := keepB hSw f1; have q2 := keepB hSw f2; have q3 := keepB hSw d0; have q4 := keepB hSw d1; have q5 := keepB hSw d2; have q6 := keepB hSw hr0; clear hSw; go_simp; all_goals first | with_reducible rfl | (simp [*]; done) | (intro hh; exfalso; omega) | fail)
  try simp only [Act.put, List.setIfInBounds_toArray, List.set_cons_zero, List.set_cons_succ]
  refine heldTake (i := 12) (v := ?_) (some 27) rfl rfl (by kernel_rfl) (by kernel_rfl) (by kernel_rfl) (fun _ _ _ h => h) (Or.inl ⟨by rfl, ?_⟩) (by assumption) ?_
  rotate_left
  · (intro W hSw; have q0 := keepB hSw f0; have q1 := keepB hSw f1; have q2 := keepB hSw f2; have q3 := keepB hSw d0; have q4 := keepB hSw d1; have q5 := keepB hSw d2; have q6 := keepB hSw hr0; clear hSw; go_simp; all_goals first | with_reducible rfl | (simp [*]; done) | (intro hh; exfalso; omega) | fail)
  try simp only [Act.put, List.setIfInBounds_toArray, List.set_cons_zero, List.set_cons_succ]
  refine heldTake (i := 13) (v := ?_) (some 28) rfl rfl (by kernel_rfl) (by kernel_rfl) (by kernel_rfl) (fun _ _ _ h => h) (Or.inl ⟨by rfl, ?_⟩) (by assumption) ?_
  rotate_left
  · (intro W hSw; have q0 := keepB hSw f0; have q1 := keepB hSw f1; have q2 := keepB hSw f2; have q3 := keepB hSw d0; have q4 := keepB hSw d1; have q5 := keepB hSw d2; have q6 := keepB hSw hr0; clear hSw; go_simp; all_goals first | with_reducible rfl | (simp [*]; done) | (intro hh; exfalso; omega) | fail)
  try simp only [Act.put, List.setIfInBounds_toArray, List.set_cons_zero, List.set_cons_succ]
  refine heldTake (i := 14) (v := ?_) (some 29) rfl rfl (by kernel_rfl) (by kernel_rfl) (by kernel_rfl) (fun _ _ _ h => h) (Or.inl ⟨by rfl, ?_⟩) (by assumption) ?_
  rotate_left
  · (intro W hSw; have q0 := keepB hSw f0; have q1 := keepB hSw f1; have q2 := keepB hSw f2; have q3 := keepB hSw d0; have q4 := keepB hSw d1; have q5 := keepB hSw d2; have q6 := keepB hSw hr0; clear hSw; go_simp; all_goals first | with_reducible rfl | (simp [*]; done) | (intro hh; exfalso; omega) | fail)
  try simp only [Act.put, List.setIfInBounds_toArray, List.set_cons_zero, List.set_cons_succ]
  refine heldTake (i := 15) (v := ?_) (some 30) rfl rfl (by kernel_rfl) (by kernel_rfl) (by kernel_rfl) (fun _ _ _ h => h) (Or.inl ⟨by rfl, ?_⟩) (by assumption) ?_
  rotate_left
  · (intro W hSw; have q0 := keepB hSw f0; have q1 := keepB hSw f1; have q2 := keepB hSw f2; have q3 := keepB hSw d0; have q4 := keepB hSw d1; have q5 := keepB hSw d2; have q6 := keepB hSw hr0; clear hSw; go_simp; all_goals first | with_reducible rfl | (simp [*]; done) | (intro hh; exfalso; omega) | fail)
  try simp only [Act.put, List.setIfInBounds_toArray, List.set_cons_zero, List.set_cons_succ]
  refine heldTake (i := 16) (v := ?_) (some 31) rfl rfl (by kernel_rfl) (by kernel_rfl) (by kernel_rfl) (fun _ _ _ h => h) (Or.inl ⟨by rfl, ?_⟩) (by assumption) ?_
  rotate_left
  · (intro W hSw; have q0 := keepB hSw f0; have q1 := keepB hSw f1; have q2 := keepB hSw f2; have q3 := keepB hSw d0; have q4 := keepB hSw d1; have q5 := keepB hSw d2; have q6 := keepB hSw hr0; clear hSw; go_simp; all_goals first | with_reducible rfl | (simp [*]; done) | (intro hh; exfalso; omega) | fail)
  try simp only [Act.put, List.setIfInBounds_toArray, List.set_cons_zero, List.set_cons_succ]
  refine heldTake (i := 17) (v := ?_) (some 32) rfl rfl (by kernel_rfl) (by kernel_rfl) (by kernel_rfl) (fun _ _ _ h => h) (Or.inl ⟨by rfl, ?_⟩) (by assumption) ?_
  rotate_left
  · (intro W hSw; have q0 := keepB hSw f0; have q1 := keepB hSw f1; have q2 := keepB hSw f2; have q3 := keepB hSw d0; have q4 := keepB hSw d1; have q5 := keepB hSw d2; have q6 := keepB hSw hr0; clear hSw; go_simp; all_goals first | with_reducible rfl | (simp [*]; done) | (intro hh; exfalso; omega) | fail)
  try simp only [Act.put, List.setIfInBounds_toArray, List.set_cons_zero, List.set_cons_succ]
  refine heldTake (i := 18) (v := ?_) (some 33) rfl rfl (by kernel_rfl) (by kernel_rfl) (by kernel_rfl) (fun _ _ _ h => h) (Or.inl ⟨by rfl, ?_⟩) (by assumption) ?_
  rotate_left
  · (intro W hSw; have q0 := keepB hSw f0; have q1 := keepB hSw f1; have q2 := keepB hSw f2; have q3 := keepB hSw d0; have q4 := keepB hSw d1; have q5 := keepB hSw d2; have q6 := keepB hSw hr0; clear hSw; go_simp; all_goals first | with_reducible rfl | (simp [*]; done) | (intro hh; exfalso; omega) | fail)
  try simp only [Act.put, List.setIfInBounds_toArray, List.set_cons_zero, List.set_cons_succ]
  refine heldTake (i := 19) (v := ?_) (some 34) rfl rfl (by kernel_rfl) (by kernel_rfl) (by kernel_rfl) (fun _ _ _ h => h) (Or.inl ⟨by rfl, ?_⟩) (by assumption) ?_
  rotate_left
  · (intro W hSw; have q0 := keepB hSw f0; have q1 := keepB hSw f1; have q2 := keepB hSw f2; have q3 := keepB hSw d0; have q4 := keepB hSw d1; have q5 := keepB hSw d2; have q6 := keepB hSw hr0; clear hSw; go_simp; all_goals first | with_reducible rfl | (simp [*]; done) | (intro hh; exfalso; omega) | fail)
  try simp only [Act.put, List.setIfInBounds_toArray, List.set_cons_zero, List.set_cons_succ]
  refine heldTake (i := 20) (v := ?_) (some 35) rfl rfl (by kernel_rfl) (by kernel_rfl) (by kernel_rfl) (fun _ _ _ h => h) (Or.inl ⟨by rfl, ?_⟩) (by assumption) ?_
  rotate_left
  · (intro W hSw; have q0 := keepB hSw f0; have q1 := keepB hSw f1; have q2 := keepB hSw f2; have q3 := keepB hSw d0; have q4 := keepB hSw d1; have q5 := keepB hSw d2; have q6 := keepB hSw hr0; clear hSw; go_simp; all_goals first | with_reducible rfl | (simp [*]; done) | (intro hh; exfalso; omega) | fail)
  try simp only [Act.put, List.setIfInBounds_toArray, List.set_cons_zero, List.set_cons_succ]
  refine heldTake (i := 21) (v := ?_) (some 36) rfl rfl (by kernel_rfl) (by kernel_rfl) (by kernel_rfl) (fun _ _ _ h => h) (Or.inl ⟨by rfl, ?_⟩) (by assumption) ?_
  rotate_left
  · (intro W hSw; have q0 := keepB hSw f0; have q1 := keepB hSw f1; have q2 := keepB hSw f2; have q3 := keepB hSw d0; have q4 := keepB hSw d1; have q5 := keepB hSw d2; have q6 := keepB hSw hr0; clear hSw; go_simp; all_goals first | with_reducible rfl | (simp [*]; done) | (intro hh; exfalso; omega) | fail)
  try simp only [Act.put, List.setIfInBounds_toArray, List.set_cons_zero, List.set_cons_succ]
  refine heldTake (i := 22) (v := ?_) (some 37) rfl rfl (by kernel_rfl) (by kernel_rfl) (by kernel_rfl) (fun _ _ _ h => h) (Or.inl ⟨by rfl, ?_⟩) (by assumption) ?_
  rotate_left
  · (intro W hSw; have q0 := keepB hSw f0; have q1 := keepB hSw f1; have q2 := keepB hSw f2; have q3 := keepB hSw d0; have q4 := keepB hSw d1; have q5 := keepB hSw d2; have q6 := keepB hSw hr0; clear hSw; go_simp; all_goals first | with_reducible rfl | (simp [*]; done) | (intro hh; exfalso; omega) | fail)
  try simp only [Act.put, List.setIfInBounds_toArray, List.set_cons_zero, List.set_cons_succ]
  refine heldTake (i := 23) (v := ?_) (some 38) rfl rfl (by kernel_rfl) (by kernel_rfl) (by kernel_rfl) (fun _ _ _ h => h) (Or.inl ⟨by rfl, ?_⟩) (by assumption) ?_
  rotate_left
  · (intro W hSw; have q0 := keepB hSw f0; have q1 := keepB hSw f1; have q2 := keepB hSw f2; have q3 := keepB hSw d0; have q4 := keepB hSw d1; have q5 := keepB hSw d2; have q6 := keepB hSw hr0; clear hSw; go_simp; all_goals first | with_reducible rfl | (simp [*]; done) | (intro hh; exfalso; omega) | fail)
  try simp only [Act.put, List.setIfInBounds_toArray, List.set_cons_zero, List.set_cons_succ]
  refine heldTake (i := 24) (v := ?_) (some 39) rfl rfl (by kernel_rfl) (by kernel_rfl) (by kernel_rfl) (fun _ _ _ h => h) (Or.inl ⟨by rfl, ?_⟩) (by assumption) ?_
  rotate_left
  · (intro W hSw; have q0 := keepB hSw f0; have q1 := keepB hSw f1; have q2 := keepB hSw f2; have q3 := keepB hSw d0; have q4 := keepB hSw d1; have q5 := keepB hSw d2; have q6 := keepB hSw hr0; clear hSw; go_simp; all_goals first | with_reducible rfl | (simp [*]; done) | (intro hh; exfalso; omega) | fail)
  try simp only [Act.put, List.setIfInBounds_toArray, List.set_cons_zero, List.set_cons_succ]
  refine heldTake (i := 25) (v := ?_) (some 40) rfl rfl (by kernel_rfl) (by kernel_rfl) (by kernel_rfl) (fun _ _ _ h => h) (Or.inl ⟨by rfl, ?_⟩) (by assumption) ?_
  rotate_left
  · (intro W hSw; have q0 := keepB hSw f0; have q1 := keepB hSw f1; have q2 := keepB hSw f2; have q3 := keepB hSw d0; have q4 := keepB hSw d1; have q5 := keepB hSw d2; have q6 := keepB hSw hr0; clear hSw; go_simp; all_goals first | with_reducible rfl | (simp [*]; done) | (intro hh; exfalso; omega) | fail)
  try simp only [Act.put, List.setIfInBounds_toArray, List.set_cons_zero, List.set_cons_succ]
  refine wpAnyH_ready (rs := [26]) (by kernel_rfl) (by simp) ?_
  refine AllReadyH.cons rfl (fun K hK => ?_) AllReadyH.nil
  go_simp
  (go_at_call 129; refine (hasAll_any p q g A1 C.length c1 C _ (HC.out.below hHeld) (by omega) (by omega) (by omega) (by omega)).mono ?_; rintro e w1 ⟨rfl, hb1⟩)
  rw [hC]
  have hNx := belT hHeld hb1
  refine hK.out _ _ hNx (fun hNew => ?_)
  clear hK K hHeld hNx
  have hHeld := hNew; clear hNew hb1
  try simp only [Act.put, List.setIfInBounds_toArray, List.set_cons_zero, List.set_cons_succ]
  refine heldTake (i := 27) (v := ?_) (some 42) rfl rfl (by kernel_rfl) (by kernel_rfl) (by kernel_rfl) (fun _ _ _ h => h) (Or.inl ⟨by rfl, ?_⟩) (by assumption) ?_
  rotate_left
  · (intro W hSw; have q0 := keepB hSw f0; have q1 := keepB hSw f1; have q2 := keepB hSw f2; have q3 := keepB hSw d0; have q4 := keepB hSw d1; have q5 := keepB hSw d2; have q6 := keepB hSw hr0; clear hSw; go_simp; all_goals first | with_reducible rfl | (simp [*]; done) | (intro hh; exfalso; omega) | fail)
  try simp only [Act.put, List.setIfInBounds_toArray, List.set_cons_zero, List.set_cons_succ]
  refine heldTake (i := 28) (v := ?_) (some 43) rfl rfl (by kernel_rfl) (by kernel_rfl) (by kernel_rfl) (fun _ _ _ h => h) (Or.inl ⟨by rfl, ?_⟩) (by assumption) ?_
  rotate_left
  · (intro W hSw; have q0 := keepB hSw f0; have q1 := keepB hSw f1; have q2 := keepB hSw f2; have q3 := keepB hSw d0; have q4 := keepB hSw d1; have q5 := keepB hSw d2; have q6 := keepB hSw hr0; clear hSw; go_simp; all_goals first | with_reducible rfl | (simp [*]; done) | (intro hh; exfalso; omega) | fail)
  try simp only [Act.put, List.setIfInBounds_toArray, List.set_cons_zero, List.set_cons_succ]
  refine heldTake (i := 29) (v := ?_) (some 44) rfl rfl (by kernel_rfl) (by kernel_rfl) (by kernel_rfl) (fun _ _ _ h => h) (Or.inl ⟨by rfl, ?_⟩) (by assumption) ?_
  rotate_left
  · (intro W hSw; have q0 := keepB hSw f0; have q1 := keepB hSw f1; have q2 := keepB hSw f2; have q3 := keepB hSw d0; have q4 := keepB hSw d1; have q5 := keepB hSw d2; have q6 := keepB hSw hr0; clear hSw; go_simp; all_goals first | with_reducible rfl | (simp [*]; done) | (intro hh; exfalso; omega) | fail)
  try simp only [Act.put, List.setIfInBounds_toArray, List.set_cons_zero, List.set_cons_succ]
  refine heldTake (i := 30) (v := ?_) (some 45) rfl rfl (by kernel_rfl) (by kernel_rfl) (by kernel_rfl) (fun _ _ _ h => h) (Or.inl ⟨by rfl, ?_⟩) (by assumption) ?_
  rotate_left
  · (intro W hSw; have q0 := keepB hSw f0; have q1 := keepB hSw f1; have q2 := keepB hSw f2; have q3 := keepB hSw d0; have q4 := keepB hSw d1; have q5 := keepB hSw d2; have q6 := keepB hSw hr0; clear hSw; go_simp; all_goals first | with_reducible rfl | (simp [*]; done) | (intro hh; exfalso; omega) | fail)
  try simp only [Act.put, List.setIfInBounds_toArray, List.set_cons_zero, List.set_cons_succ]
  refine heldTake (i := 31) (v := ?_) (some 46) rfl rfl (by kernel_rfl) (by kernel_rfl) (by kernel_rfl) (fun _ _ _ h => h) (Or.inl ⟨by rfl, ?_⟩) (by assumption) ?_
  rotate_left
  · (intro W hSw; have q0 := keepB hSw f0; have q1 := keepB hSw f1; have q2 := keepB hSw f2; have q3 := keepB hSw d0; have q4 := keepB hSw d1; have q5 := keepB hSw d2; have q6 := keepB hSw hr0; clear hSw; go_simp; all_goals first | with_reducible rfl | (simp [*]; done) | (intro hh; exfalso; omega) | fail)
  try simp only [Act.put, List.setIfInBounds_toArray, List.set_cons_zero, List.set_cons_succ]
  refine heldTake (i := 32) (v := ?_) (some 47) rfl rfl (by kernel_rfl) (by kernel_rfl) (by kernel_rfl) (fun _ _ _ h => h) (Or.inl ⟨by rfl, ?_⟩) (by assumption) ?_
  rotate_left
  · (intro W hSw; have q0 := keepB hSw f0; have q1 := keepB hSw f1; have q2 := keepB hSw f2; have q3 := keepB hSw d0; have q4 := keepB hSw d1; have q5 := keepB hSw d2; have q6 := keepB hSw hr0; clear hSw; go_simp; all_goals first | with_reducible rfl | (simp [*]; done) | (intro hh; exfalso; omega) | fail)
  try simp only [Act.put, List.setIfInBounds_toArray, List.set_cons_zero, List.set_cons_succ]
  refine wpAnyH_ready (rs := [33]) (by kernel_rfl) (by simp) ?_
  refine AllReadyH.cons rfl (fun K hK => ?_) AllReadyH.nil
  go_simp
  (go_at_call 91; refine (areExps_any p q g A3 Z.length c3 Z _ (HZ.out.below hHeld) (by omega) (by omega)).mono ?_; rintro e w1 ⟨rfl, hb1⟩)
  rw [hZ]
  have hNx := belT hHeld hb1
  refine hK.out _ _ hNx (fun hNew => ?_)
  clear hK K hHeld hNx
  have hHeld := hNew; clear hNew hb1
  try simp only [Act.put, List.setIfInBounds_toArray, List.set_cons_zero, List.set_cons_succ]
  refine heldTake (i := 34) (v := ?_) (some 49) rfl rfl (by kernel_rfl) (by kernel_rfl) (by kernel_rfl) (fun _ _ _ h => h) (Or.inl ⟨by rfl, ?_⟩) (by assumption) ?_
  rotate_left
  · (intro W hSw; have q0 := keepB hSw f0; have q1 := keepB hSw f1; have q2 := keepB hSw f2; have q3 := keepB hSw d0; have q4 := keepB hSw d1; have q5 := keepB hSw d2; have q6 := keepB hSw hr0; clear hSw; go_simp; all_goals first | with_reducible rfl | (simp [*]; done) | (intro hh; exfalso; omega) | fail)
  try simp only [Act.put, List.setIfInBounds_toArray, List.set_cons_zero, List.set_cons_succ]
  refine heldTake (i := 35) (v := ?_) (some 50) rfl rfl (by kernel_rfl) (by kernel_rfl) (by kernel_rfl) (fun _ _ _ h => h) (Or.inl ⟨by rfl, ?_⟩) (by assumption) ?_
  rotate_left
  · (intro W hSw; have q0 := keepB hSw f0; have q1 := keepB hSw f1; have q2 := keepB hSw f2; have q3 := keepB hSw d0; have q4 := keepB hSw d1; have q5 := keepB hSw d2; have q6 := keepB hSw hr0; clear hSw; go_simp; all_goals first | with_reducible rfl | (simp [*]; done) | (intro hh; exfalso; omega) | fail)
  try simp only [Act.put, List.setIfInBounds_toArray, List.set_cons_zero, List.set_cons_succ]
  refine wpAnyH_done (by kernel_rfl) ?_ _
  have hH1 := hHeld
  go_wp2_with fail
  refine wp_region_held_drew (S := fun W => Below W0.heap.size W0 W) (by kernel_rfl) (belD hH1) (fun hHeld => ?_)
  refine heldTake (i := 0) (v := ?_) (some 52) rfl rfl (by kernel_rfl) (by kernel_rfl) (by kernel_rfl) (fun _ _ _ h => h) (Or.inl ⟨by rfl, ?_⟩) (by assumption) ?_
  rotate_left
  · (intro W hSw; have q0 := keepB hSw f0; have q1 := keepB hSw f1; have q2 := keepB hSw f2; have q3 := keepB hSw d0; have q4 := keepB hSw d1; have q5 := keepB hSw d2; have q6 := keepB hSw hr0; clear hSw; go_simp; all_goals first | with_reducible rfl | (simp [*]; done) | (intro hh; exfalso; omega) | fail)
  try simp only [Act.put, List.setIfInBounds_toArray, List.set_cons_zero, List.set_cons_succ]
  refine heldTake (i := 1) (v := ?_) (some 53) rfl rfl (by kernel_rfl) (by kernel_rfl) (by kernel_rfl) (fun _ _ _ h => h) (Or.inl ⟨by rfl, ?_⟩) (by assumption) ?_
  rotate_left
  · (intro W hSw; have q0 := keepB hSw f0; have q1 := keepB hSw f1; have q2 := keepB hSw f2; have q3 := keepB hSw d0; have q4 := keepB hSw d1; have q5 := keepB hSw d2; have q6 := keepB hSw hr0; clear hSw; go_simp; all_goals first | with_reducible rfl | (simp [*]; done) | (intro hh; exfalso; omega) | fail)
  try simp only [Act.put, List.setIfInBounds_toArray, List.set_cons_zero, List.set_cons_succ]
  refine heldTake (i := 2) (v := ?_) (some 54) rfl rfl (by kernel_rfl) (by kernel_rfl) (by kernel_rfl) (fun _ _ _ h => h) (Or.inl ⟨by rfl, ?_⟩) (by assumption) ?_
  rotate_left
  · (intro W hSw; have q0 := keepB hSw f0; have q1 := keepB hSw f1; have q2 := keepB hSw f2; have q3 := keepB hSw d0; have q4 := keepB hSw d1; have q5 := keepB hSw d2; have q6 := keepB hSw hr0; clear hSw; go_simp; all_goals first | with_reducible rfl | (simp [*]; done) | (intro hh; exfalso; omega) | fail)
  try simp only [Act.put, List.setIfInBounds_toArray, List.set_cons_zero, List.set_cons_succ]
  refine heldTake (i := 4) (v := ?_) (some 56) rfl rfl (by kernel_rfl) (by kernel_rfl) (by kernel_rfl) (fun _ _ _ h => h) (Or.inl ⟨by rfl, ?_⟩) (by assumption) ?_
  rotate_left
  · (intro W hSw; have q0 := keepB hSw f0; have q1 := keepB hSw f1; have q2 := keepB hSw f2; have q3 := keepB hSw d0; have q4 := keepB hSw d1; have q5 := keepB hSw d2; have q6 := keepB hSw hr0; clear hSw; go_simp; all_goals first | with_reducible rfl | (simp [*]; done) | (intro hh; exfalso; omega) | fail)
  try simp only [Act.put, List.setIfInBounds_toArray, List.set_cons_zero, List.set_cons_succ]
  refine heldTake (i := 5) (v := ?_) (some 57) rfl rfl (by kernel_rfl) (by kernel_rfl) (by kernel_rfl) (fun _ _ _ h => h) (Or.inl ⟨by rfl, ?_⟩) (by assumption) ?_
  rotate_left
  · (intro W hSw; have q0 := keepB hSw f0; have q1 := keepB hSw f1; have q2 := keepB hSw f2; have q3 := keepB hSw d0; have q4 := keepB hSw d1; have q5 := keepB hSw d2; have q6 := keepB hSw hr0; clear hSw; go_simp; all_goals first | with_reducible rfl | (simp [*]; done) | (intro hh; exfalso; omega) | fail)
  try simp only [Act.put, List.setIfInBounds_toArray, List.set_cons_zero, List.set_cons_succ]
  refine heldTake (i := 6) (v := ?_) (some 58) rfl rfl (by kernel_rfl) (by kernel_rfl) (by kernel_rfl) (fun _ _ _ h => h) (Or.inl ⟨by rfl, ?_⟩) (by assumption) ?_
  rotate_left
  · (intro W hSw; have q0 := keepB hSw f0; have q1 := keepB hSw f1; have q2 := keepB hSw f2; have q3 := keepB hSw d0; have q4 := keepB hSw d1; have q5 := keepB hSw d2; have q6 := keepB hSw hr0; clear hSw; go_simp; all_goals first | with_reducible rfl | (simp [*]; done) | (intro hh; exfalso; omega) | fail)
  try simp only [Act.put, List.setIfInBounds_toArray, List.set_cons_zero, List.set_cons_succ]
  refine wpAnyH_ready (rs := [3]) (by kernel_rfl) (by simp) ?_
  refine AllReadyH.cons rfl (fun K hK => ?_) AllReadyH.nil
  go_simp
  (go_at_call 179; refine (Concat_any (some ⟨b, off, none⟩) bs.length rc bs _ (HI.out.below hHeld) (by have := HFL.out; omega)).mono ?_; rintro e w1 ⟨B1, cc1, rfl, ho, hb1⟩)
  have HO := Lib.hid (Ints.of_own ho)
  clear ho
  have hNx := belT hHeld hb1
  refine hK.out _ _ hNx (fun hNew => ?_)
  clear hK K hHeld hNx
  have hHeld := hNew; clear hNew hb1
  try simp only [Act.put, List.setIfInBounds_toArray, List.set_cons_zero, List.set_cons_succ]
  refine wpAnyH_ready (rs := [7]) (by kernel_rfl) (by simp) ?_
  refine AllReadyH.cons rfl (fun K hK => ?_) AllReadyH.nil
  go_simp
  have hH0 := hHeld
  refine hK.out _ _ (belA hHeld) (fun hNew => ?_)
  clear hK K hHeld
  have hHeld := hNew; clear hNew
  have HG3 := Lib.hid (grid3' (W := w1) (t := 24) (a := cc1) (b := c) (c := c1) HO.out (HM.out.below hH0) (HC.out.below hH0))
  try simp only [Act.put, List.setIfInBounds_toArray, List.set_cons_zero, List.set_cons_succ]
  refine wpAnyH_ready (rs := [8]) (by kernel_rfl) (by simp) ?_
  refine AllReadyH.cons rfl (fun K hK => ?_) AllReadyH.nil
  go_simp
  (go_at_call 179; refine (Concat_any _ 3 3 _ _ HG3.out (by rw [flat3]; simp only [List.length_append]; have := HFL.out; have := HT1.out; have := HIL.out; omega)).mono ?_; rintro e w1 ⟨B2, cc2, rfl, ho, hb1⟩)
  rw [flat3] at ho ⊢
  generalize hLn : (flatG bs ++ im ++ C).length = Ln at ho ⊢
  have HLN := Lib.hid hLn
  clear hLn
  have HO2 := Lib.hid (Ints.of_own ho)
  clear ho
  have hNx := belT hHeld hb1
  refine hK.out _ _ hNx (fun hNew => ?_)
  clear hK K hHeld hNx
  have hHeld := hNew; clear hNew hb1
  try simp only [Act.put, List.setIfInBounds_toArray, List.set_cons_zero, List.set_cons_succ]
  refine wpAnyH_ready (rs := [9]) (by kernel_rfl) (by simp) ?_
  refine AllReadyH.cons rfl (fun K hK => ?_) AllReadyH.nil
  go_simp
  (go_at_call 178; refine (challenge_any p q g s B2 Ln cc2 (flatG bs ++ im ++ C) _ HO2.out (by have hh := HLN.out; simp only [List.length_append] at hh; have := HFL.out; have := HT1.out; have := HIL.out; omega) HGD.out).mono ?_; rintro e w1 ⟨rfl, hb1⟩)
  rw [HCW.out]
  have hNx := belT hHeld hb1
  refine hK.out _ _ hNx (fun hNew => ?_)
  clear hK K hHeld hNx
  have hHeld := hNew; clear hNew hb1
  try simp only [Act.put, List.setIfInBounds_toArray, List.set_cons_zero, List.set_cons_succ]
  refine heldTake (i := 10) (v := ?_) (some 51) rfl rfl (by kernel_rfl) (by kernel_rfl) (by kernel_rfl) (fun _ _ _ h => h) (Or.inl ⟨by rfl, ?_⟩) (by assumption) ?_
  rotate_left
  · (intro W hSw; have q0 := keepB hSw f0; have q1 := keepB hSw f1; have q2 := keepB hSw f2; have q3 := keepB hSw d0; have q4 := keepB hSw d1; have q5 := keepB hSw d2; have q6 := keepB hSw hr0; clear hSw; go_simp; all_goals first | with_reducible rfl | (simp [*]; done) | (intro hh; exfalso; omega) | fail)
  try simp only [Act.put, List.setIfInBounds_toArray, List.set_cons_zero, List.set_cons_succ]
  refine heldTake (i := 11) (v := ?_) (some 62) rfl rfl (by kernel_rfl) (by kernel_rfl) (by kernel_rfl) (fun _ _ _ h => h) (Or.inl ⟨by rfl, ?_⟩) (by assumption) ?_
  rotate_left
  · (intro W hSw; have q0 := keepB hSw f0; have q1 := keepB hSw f1; have q2 := keepB hSw f2; have q3 := keepB hSw d0; have q4 := keepB hSw d1; have q5 := keepB hSw d2; have q6 := keepB hSw hr0; clear hSw; go_simp; all_goals first | with_reducible rfl | (simp [*]; done) | (intro hh; exfalso; omega) | fail)
  try simp only [Act.put, List.setIfInBounds_toArray, List.set_cons_zero, List.set_cons_succ]
  refine heldTake (i := 12) (v := ?_) (some 63) rfl rfl (by kernel_rfl) (by kernel_rfl) (by kernel_rfl) (fun _ _ _ h => h) (Or.inl ⟨by rfl, ?_⟩) (by assumption) ?_
  rotate_left
  · (intro W hSw; have q0 := keepB hSw f0; have q1 := keepB hSw f1; have q2 := keepB hSw f2; have q3 := keepB hSw d0; have q4 := keepB hSw d1; have q5 := keepB hSw d2; have q6 := keepB hSw hr0; clear hSw; go_simp; all_goals first | with_reducible rfl | (simp [*]; done) | (intro hh; exfalso; omega) | fail)
  try simp only [Act.put, List.setIfInBounds_toArray, List.set_cons_zero, List.set_cons_succ]
  refine heldTake (i := 13) (v := ?_) (some 11) rfl rfl (by kernel_rfl) (by kernel_rfl) (by kernel_rfl) (fun _ _ _ h => h) (Or.inl ⟨by rfl, ?_⟩) (by assumption) ?_
  rotate_left
  · (intro W hSw; have q0 := keepB hSw f0; have q1 := keepB hSw f1; have q2 := keepB hSw f2; have q3 := keepB hSw d0; have q4 := keepB hSw d1; have q5 := keepB hSw d2; have q6 := keepB hSw hr0; clear hSw; go_simp; all_goals first | with_reducible rfl | (simp [*]; done) | (intro hh; exfalso; omega) | fail)
  try simp only [Act.put, List.setIfInBounds_toArray, List.set_cons_zero, List.set_cons_succ]
  refine heldTake (i := 14) (v := ?_) (some 12) rfl rfl (by kernel_rfl) (by kernel_rfl) (by kernel_rfl) (fun _ _ _ h => h) (Or.inl ⟨by rfl, ?_⟩) (by assumption) ?_
  rotate_left
  · (intro W hSw; have q0 := keepB hSw f0; have q1 := keepB hSw f1; have q2 := keepB hSw f2; have q3 := keepB hSw d0; have q4 := keepB hSw d1; have q5 := keepB hSw d2; have q6 := keepB hSw hr0; clear hSw; go_simp; all_goals first | with_reducible rfl | (simp [*]; done) | (intro hh; exfalso; omega) | fail)
  try simp only [Act.put, List.setIfInBounds_toArray, List.set_cons_zero, List.set_cons_succ]
  refine wpAnyH_done (by kernel_rfl) ?_ _
  have hH2 := hHeld
  have u0 := keepB hHeld f0
  have u1 := keepB hHeld f1
  have u2 := keepB hHeld f2
  have v1 := keepB hHeld d1
  have v0 := keepB hHeld d0
  have v2 := keepB hHeld d2
  have vh := keepB hHeld hch
  cases hev : (ev == cv)
  · have hne : (ev != cv) = true := by simp [bne, hev]
    have HEV := Lib.hid hev
    go_wp2
    go_ret
    exact ⟨ret_bool (by rw [HEV.out]; rfl), belT hb0 hH2⟩
  · have hne : (ev != cv) = false := by simp [bne, hev]
    have HEV := Lib.hid hev
    have hec : ev = cv := by simpa using hev
    subst hec
    clear hH1 hev
    go_wp2_with fail
    refine (images_any p q g (some ⟨b, off, none⟩) bs.length rc bs A3 Z.length c3 Z _ (HI.out.below hH2) (HZ.out.below hH2) (fun k hk => by rw [(HSB.out.all k hk).1, HT3.out]; exact Nat.le_refl _) HSB.out.small (by omega) (by omega) (by omega) (by omega) (by omega)).mono ?_
    rintro e wI ⟨BI, ccI, rfl, hoI, hbI⟩
    have hH3 := belT hH2 hbI
    have HII := Lib.hid (Ints.of_own hoI)
    have hzI := World.block_lt_of_cell? _ _ (keepB hH3 f0)
    simp only at hzI
    replace f0 := keepB hH3 f0
    replace f1 := keepB hH3 f1
    replace f2 := keepB hH3 f2
    replace d0 := keepB hH3 d0
    have HCI := Lib.hid (HC.out.below hH3)
    have HMI := Lib.hid (HM.out.below hH3)
    have hBI := belT hb0 hH3
    clear hoI hbI u0 u1 u2 v0 v1 v2 vh hH3 hH2 hHeld hr0 d1 d2 hch hz1 HC HM
    go_wp2
    go_loopw [80] (fun i wr => ∃ k : Nat, k ≤ bs.length ∧ i = .int .i64 k ∧ Hid (Below wI.heap.size wI wr) ∧ Hid (∀ j, j < k → vfE p q (rowsG bs) im C Z ev j = true)) (fun i _ => bs.length - (intOf i).toNat)
    case atStart => exact ⟨0, by omega, rfl, Lib.hid (Below.refl _ _), Lib.hid fun j hj => absurd hj (by omega)⟩
    case round =>
      obtain ⟨k, hk, rfl, HB, HK⟩ := hrel
      by_cases hlt : k < bs.length
      · obtain ⟨b3, off3, e3, hb3, hpk⟩ := HII.out.at_ hlt
        obtain ⟨b4, off4, e4, hb4, hck⟩ := HCI.out.at_ (k := k) (by have := HT1.out; omega)
        obtain ⟨b5, off5, e5, hb5, hik⟩ := HMI.out.at_ hlt
        subst e3 e4 e5
        have hpe : (imgK p q bs Z bs.length).getD k 0 = prodK p q (rowK bs k) Z (rowK bs k).length := by
          simp [imgK, List.getD_eq_getElem?_getD, hlt]
        rw [hpe] at hpk
        have HVE : Hid (vfE p q (rowsG bs) im C Z ev k = (prodK p q (rowK bs k) Z (rowK bs k).length == mulK p [C.getD k 0, gpow p q (im.getD k 0) ev] 2)) := Lib.hid (by unfold vfE; rw [rowsG_get]; rfl)
        have hxc := HCS.out _ (getD_mem (d := 0) (show k < C.length by have := HT1.out; omega))
        have hxi := HIMS.out _ (getD_mem (d := 0) (show k < im.length by rw [HIL.out]; exact hlt))
        have hgp := gpow_bd (p := p) (q := q) (x := im.getD k 0) (e := ev) (by omega)
        have hsm2 := Lib.hid (small2 hxc hgp)
        obtain ⟨xi0, xi1⟩ := hxi
        generalize hgg : gpow p q (im.getD k 0) ev = gp at hsm2 HVE
        have HGG := Lib.hid hgg
        generalize C.getD k 0 = ck at hck HVE hsm2
        generalize im.getD k 0 = ik at hik xi0 xi1 HGG
        generalize prodK p q (rowK bs k) Z (rowK bs k).length = pr at hpk HVE
        generalize hmm : mulK p [ck, gp] 2 = mm at HVE
        have HMM := Lib.hid hmm
        have i1 : (0 : Int) ≤ (k : Int) := by omega
        have i2 : (k : Int) < (bs.length : Int) := by omega
        have i4 : k < bs.length := hlt
        have i5 : k < C.length := by have := HT1.out; omega
        have i3 : (k : Int) < (C.length : Int) := by have := HT1.out; omega
        clear hxc hgp hgg hmm hpe
        have w0 := keepB HB.out hpk
        go_wp2_with fail
        refine wp_region_held_drew (S := fun W => Below wI.heap.size wI W) (by kernel_rfl) (belD HB.out) (fun hHeld => ?_)
        refine heldTake (i := 0) (v := ?_) (some 85) rfl rfl (by kernel_rfl) (by kernel_rfl) (by kernel_rfl) (fun _ _ _ h => h) (Or.inl ⟨by rfl, ?_⟩) (by assumption) ?_
        rotate_left
        · (intro W hSw; have q0 := keepB hSw f0; have q1 := keepB hSw f1; have q2 := keepB hSw f2; have q3 := keepB hSw d0; have q4 := keepB hSw hck; have q5 := keepB hSw hik; clear hSw; go_simp; all_goals first | with_reducible rfl | (simp [*]; done) | (intro hh; exfalso; omega) | fail)
        try simp only [Act.put, List.setIfInBounds_toArray, List.set_cons_zero, List.set_cons_succ]
        refine heldTake (i := 1) (v := ?_) (some 86) rfl rfl (by kernel_rfl) (by kernel_rfl) (by kernel_rfl) (fun _ _ _ h => h) (Or.inl ⟨by rfl, ?_⟩) (by assumption) ?_
        rotate_left
        · (intro W hSw; have q0 := keepB hSw f0; have q1 := keepB hSw f1; have q2 := keepB hSw f2; have q3 := keepB hSw d0; have q4 := keepB hSw hck; have q5 := keepB hSw hik; clear hSw; go_simp; all_goals first | with_reducible rfl | (simp [*]; done) | (intro hh; exfalso; omega) | fail)
        try simp only [Act.put, List.setIfInBounds_toArray, List.set_cons_zero, List.set_cons_succ]
        refine heldTake (i := 2) (v := ?_) (some 87) rfl rfl (by kernel_rfl) (by kernel_rfl) (by kernel_rfl) (fun _ _ _ h => h) (Or.inl ⟨by rfl, ?_⟩) (by assumption) ?_
        rotate_left
        · (intro W hSw; have q0 := keepB hSw f0; have q1 := keepB hSw f1; have q2 := keepB hSw f2; have q3 := keepB hSw d0; have q4 := keepB hSw hck; have q5 := keepB hSw hik; clear hSw; go_simp; all_goals first | with_reducible rfl | (simp [*]; done) | (intro hh; exfalso; omega) | fail)
        try simp only [Act.put, List.setIfInBounds_toArray, List.set_cons_zero, List.set_cons_succ]
        refine heldTake (i := 3) (v := ?_) (some 88) rfl rfl (by kernel_rfl) (by kernel_rfl) (by kernel_rfl) (fun _ _ _ h => h) (Or.inl ⟨by rfl, ?_⟩) (by assumption) ?_
        rotate_left
        · (intro W hSw; have q0 := keepB hSw f0; have q1 := keepB hSw f1; have q2 := keepB hSw f2; have q3 := keepB hSw d0; have q4 := keepB hSw hck; have q5 := keepB hSw hik; clear hSw; go_simp; all_goals first | with_reducible rfl | (simp [*]; done) | (intro hh; exfalso; omega) | fail)
        try simp only [Act.put, List.setIfInBounds_toArray, List.set_cons_zero, List.set_cons_succ]
        refine heldTake (i := 4) (v := ?_) (some 89) rfl rfl (by kernel_rfl) (by kernel_rfl) (by kernel_rfl) (fun _ _ _ h => h) (Or.inl ⟨by rfl, ?_⟩) (by assumption) ?_
        rotate_left
        · (intro W hSw; have q0 := keepB hSw f0; have q1 := keepB hSw f1; have q2 := keepB hSw f2; have q3 := keepB hSw d0; have q4 := keepB hSw hck; have q5 := keepB hSw hik; clear hSw; go_simp; all_goals first | with_reducible rfl | (simp [*]; done) | (intro hh; exfalso; omega) | fail)
        try simp only [Act.put, List.setIfInBounds_toArray, List.set_cons_zero, List.set_cons_succ]
        refine heldTake (i := 5) (v := ?_) (some 90) rfl rfl (by kernel_rfl) (by kernel_rfl) (by kernel_rfl) (fun _ _ _ h => h) (Or.inl ⟨by rfl, ?_⟩) (by assumption) ?_
        rotate_left
        · (intro W hSw; have q0 := keepB hSw f0; have q1 := keepB hSw f1; have q2 := keepB hSw f2; have q3 := keepB hSw d0; have q4 := keepB hSw hck; have q5 := keepB hSw hik; clear hSw; go_simp; all_goals first | with_reducible rfl | (simp [*]; done) | (intro hh; exfalso; omega) | fail)
        try simp only [Act.put, List.setIfInBounds_toArray, List.set_cons_zero, List.set_cons_succ]
        refine heldTake (i := 6) (v := ?_) (some 91) rfl rfl (by kernel_rfl) (by kernel_rfl) (by kernel_rfl) (fun _ _ _ h => h) (Or.inl ⟨by rfl, ?_⟩) (by assumption) ?_
        rotate_left
        · (intro W hSw; have q0 := keepB hSw f0; have q1 := keepB hSw f1; have q2 := keepB hSw f2; have q3 := keepB hSw d0; have q4 := keepB hSw hck; have q5 := keepB hSw hik; clear hSw; go_simp; all_goals first | with_reducible rfl | (simp [*]; done) | (intro hh; exfalso; omega) | fail)
        try simp only [Act.put, List.setIfInBounds_toArray, List.set_cons_zero, List.set_cons_succ]
        refine heldTake (i := 7) (v := ?_) (some 92) rfl rfl (by kernel_rfl) (by kernel_rfl) (by kernel_rfl) (fun _ _ _ h => h) (Or.inl ⟨by rfl, ?_⟩) (by assumption) ?_
        rotate_left
        · (intro W hSw; have q0 := keepB hSw f0; have q1 := keepB hSw f1; have q2 := keepB hSw f2; have q3 := keepB hSw d0; have q4 := keepB hSw hck; have q5 := keepB hSw hik; clear hSw; go_simp; all_goals first | with_reducible rfl | (simp [*]; done) | (intro hh; exfalso; omega) | fail)
        try simp only [Act.put, List.setIfInBounds_toArray, List.set_cons_zero, List.set_cons_succ]
        refine heldTake (i := 8) (v := ?_) (some 93) rfl rfl (by kernel_rfl) (by kernel_rfl) (by kernel_rfl) (fun _ _ _ h => h) (Or.inl ⟨by rfl, ?_⟩) (by assumption) ?_
        rotate_left
        · (intro W hSw; have q0 := keepB hSw f0; have q1 := keepB hSw f1; have q2 := keepB hSw f2; have q3 := keepB hSw d0; have q4 := keepB hSw hck; have q5 := keepB hSw hik; clear hSw; go_simp; all_goals first | with_reducible rfl | (simp [*]; done) | (intro hh; exfalso; omega) | fail)
        try simp only [Act.put, List.setIfInBounds_toArray, List.set_cons_zero, List.set_cons_succ]
        refine heldTake (i := 9) (v := ?_) (some 94) rfl rfl (by kernel_rfl) (by kernel_rfl) (by kernel_rfl) (fun _ _ _ h => h) (Or.inl ⟨by rfl, ?_⟩) (by assumption) ?_
        rotate_left
        · (intro W hSw; have q0 := keepB hSw f0; have q1 := keepB hSw f1; have q2 := keepB hSw f2; have q3 := keepB hSw d0; have q4 := keepB hSw hck; have q5 := keepB hSw hik; clear hSw; go_simp; all_goals first | with_reducible rfl | (simp [*]; done) | (intro hh; exfalso; omega) | fail)
        try simp only [Act.put, List.setIfInBounds_toArray, List.set_cons_zero, List.set_cons_succ]
        refine heldTake (i := 10) (v := ?_) (some 95) rfl rfl (by kernel_rfl) (by kernel_rfl) (by kernel_rfl) (fun _ _ _ h => h) (Or.inl ⟨by rfl, ?_⟩) (by assumption) ?_
        rotate_left
        · (intro W hSw; have q0 := keepB hSw f0; have q1 := keepB hSw f1; have q2 := keepB hSw f2; have q3 := keepB hSw d0; have q4 := keepB hSw hck; have q5 := keepB hSw hik; clear hSw; go_simp; all_goals first | with_reducible rfl | (simp [*]; done) | (intro hh; exfalso; omega) | fail)
        try simp only [Act.put, List.setIfInBounds_toArray, List.set_cons_zero, List.set_cons_succ]
        refine heldTake (i := 11) (v := ?_) (some 96) rfl rfl (by kernel_rfl) (by kernel_rfl) (by kernel_rfl) (fun _ _ _ h => h) (Or.inl ⟨by rfl, ?_⟩) (by assumption) ?_
        rotate_left
        · (intro W hSw; have q0 := keepB hSw f0; have q1 := keepB hSw f1; have q2 := keepB hSw f2; have q3 := keepB hSw d0; have q4 := keepB hSw hck; have q5 := keepB hSw hik; clear hSw; go_simp; all_goals first | with_reducible rfl | (simp [*]; done) | (intro hh; exfalso; omega) | fail)
        try simp only [Act.put, List.setIfInBounds_toArray, List.set_cons_zero, List.set_cons_succ]
        refine heldTake (i := 12) (v := ?_) (some 97) rfl rfl (by kernel_rfl) (by kernel_rfl) (by kernel_rfl) (fun _ _ _ h => h) (Or.inl ⟨by rfl, ?_⟩) (by assumption) ?_
        rotate_left
        · (intro W hSw; have q0 := keepB hSw f0; have q1 := keepB hSw f1; have q2 := keepB hSw f2; have q3 := keepB hSw d0; have q4 := keepB hSw hck; have q5 := keepB hSw hik; clear hSw; go_simp; all_goals first | with_reducible rfl | (simp [*]; done) | (intro hh; exfalso; omega) | fail)
        try simp only [Act.put, List.setIfInBounds_toArray, List.set_cons_zero, List.set_cons_succ]
        refine wpAnyH_ready (rs := [13]) (by kernel_rfl) (by simp) ?_
        refine AllReadyH.cons rfl (fun K hK => ?_) AllReadyH.nil
        go_simp
        (go_at_call 169; refine (pow_any p q g ik ev _ (by omega) (by omega) (by omega) (by omega) xi0 xi1).mono ?_; rintro e w1 ⟨rfl, hb1⟩)
        rw [HGG.out]
        have hNx := belT hHeld hb1
        refine hK.out _ _ hNx (fun hNew => ?_)
        clear hK K hHeld hNx
        have hHeld := hNew; clear hNew hb1
        try simp only [Act.put, List.setIfInBounds_toArray, List.set_cons_zero, List.set_cons_succ]
        refine wpAnyH_ready (rs := [14]) (by kernel_rfl) (by simp) ?_
        refine AllReadyH.cons rfl (fun K hK => ?_) AllReadyH.nil
        go_simp
        refine hK.out _ _ (belA hHeld) (fun hNew => ?_)
        clear hK K hHeld
        have hHeld := hNew; clear hNew
        have HL2 := Lib.hid (lit2_of hHeld)
        try simp only [Act.put, List.setIfInBounds_toArray, List.set_cons_zero, List.set_cons_succ]
        refine wpAnyH_ready (rs := [15]) (by kernel_rfl) (by simp) ?_
        refine AllReadyH.cons rfl (fun K hK => ?_) AllReadyH.nil
        go_simp
        (go_at_call 63; refine (mul_any p q g _ 2 2 [ck, gp] _ HL2.out (by omega) (by omega) hsm2.out).mono ?_; rintro e w1 ⟨rfl, hb1⟩)
        rw [HMM.out]
        have hNx := belT hHeld hb1
        refine hK.out _ _ hNx (fun hNew => ?_)
        clear hK K hHeld hNx
        have hHeld := hNew; clear hNew hb1
        try simp only [Act.put, List.setIfInBounds_toArray, List.set_cons_zero, List.set_cons_succ]
        refine heldTake (i := 16) (v := ?_) (some 101) rfl rfl (by kernel_rfl) (by kernel_rfl) (by kernel_rfl) (fun _ _ _ h => h) (Or.inl ⟨by rfl, ?_⟩) (by assumption) ?_
        rotate_left
        · (intro W hSw; have q0 := keepB hSw f0; have q1 := keepB hSw f1; have q2 := keepB hSw f2; have q3 := keepB hSw d0; have q4 := keepB hSw hck; have q5 := keepB hSw hik; clear hSw; go_simp; all_goals first | with_reducible rfl | (simp [*]; done) | (intro hh; exfalso; omega) | fail)
        try simp only [Act.put, List.setIfInBounds_toArray, List.set_cons_zero, List.set_cons_succ]
        refine wpAnyH_done (by kernel_rfl) ?_ _
        have hH4 := hHeld
        cases hpm : (pr == mm)
        · have hne2 : (pr != mm) = true := by simp [bne, hpm]
          have HN := Lib.hid (show ((List.range bs.length).all fun k => vfE p q (rowsG bs) im C Z ev k) = false by
            rw [List.all_eq_false]
            exact ⟨k, by simpa using hlt, by rw [HVE.out, hpm]; simp⟩)
          go_wp2
          go_ret
          exact ⟨ret_bool (by rw [HEV.out, HN.out]; rfl), belT hBI hH4⟩
        · have hne2 : (pr != mm) = false := by simp [bne, hpm]
          go_wp2
          go_roundw
          case rel => exact ⟨k + 1, by omega, by go_num, Lib.hid hH4, Lib.hid (upto_succ HK.out (by rw [HVE.out, hpm]))⟩
          case measure => simp [intOf]; omega
      · have e : k = bs.length := by omega
        subst e
        have HN := Lib.hid (show ((List.range bs.length).all fun k => vfE p q (rowsG bs) im C Z ev k) = true by
          rw [List.all_eq_true]
          exact fun j hj => HK.out j (by simpa using hj))
        go_wp2
        go_ret
        exact ⟨ret_bool (by rw [HEV.out, HN.out]; rfl), belT hBI HB.out⟩

theorem verifyLinear_any (p q g : Int) (s : ByteArray) (R : Option Addr) (r rc : Nat) (bs : List (Option Addr × Nat × List Int)) (A : Option Addr) (n c : Nat) (im : List Int) (A1 A2 A3 : Option Addr) (c1 c2 c3 : Nat) (C H Z : List Int) (w : World)
    (hg : goodB p q g = true) (hs : s.size ≤ 40) (h : Grid w R r bs) (hsb : sbB p q bs = true) (hi : Ints w A n im) (hn : n = r) (him : im.all (hasB p q) = true) (h1 : Ints w A1 C.length C) (h2 : Ints w A2 H.length H) (h3 : Ints w A3 Z.length Z) :
    Calls Try.prog 152 #[.agg #[.int .i64 p, .int .i64 q, .int .i64 g], .string s, .slice R r rc, .slice A n c, .agg #[.slice A1 C.length c1, .slice A2 H.length c2, .slice A3 Z.length c3]] w fun e w' => e = .returned (.bool (vfB p q g s (rowsG bs) im C H Z)) ∧ Below w.heap.size w w' := by
  have hr : (rowsG bs).length = r := by rw [rowsG_len, h.len]
  have hr0 : (rowsG bs).getD 0 [] = rowK bs 0 := (rowK_rows bs 0).symm
  by_cases t1 : C.length = r
  · by_cases t2 : H.length = 1
    · by_cases t3 : Z.length = (rowK bs 0).length
      · cases hC : C.all (hasB p q)
        · rw [show vfB p q g s (rowsG bs) im C H Z = false by rw [vfB, vfF, hC]; simp]
          exact verifyLinear_3 p q g s R r rc bs A n c im A1 A2 A3 c1 c2 c3 C H Z w hg hs h hsb hi hn him h1 h2 h3 t1 t2 t3 hC
        · cases hZ : Z.all (fun z => inB z 0 (q - 1))
          · rw [show vfB p q g s (rowsG bs) im C H Z = false by rw [vfB, vfF, hZ]; simp]
            exact verifyLinear_4 p q g s R r rc bs A n c im A1 A2 A3 c1 c2 c3 C H Z w hg hs h hsb hi hn him h1 h2 h3 t1 t2 t3 hC hZ
          · rw [show vfB p q g s (rowsG bs) im C H Z = ((H.getD 0 0 == chV p q g s (flatG bs ++ im ++ C)) && (List.range bs.length).all fun k => vfE p q (rowsG bs) im C Z (H.getD 0 0) k) by rw [vfB, vfF, hr, hr0, hC, hZ, decide_eq_true t1, decide_eq_true t2, decide_eq_true t3, h.len]; rfl]
            exact verifyLinear_5 p q g s R r rc bs A n c im A1 A2 A3 c1 c2 c3 C H Z w hg hs h hsb hi hn him h1 h2 h3 t1 t2 t3 hC hZ
      · rw [show vfB p q g s (rowsG bs) im C H Z = false by rw [vfB, vfF, hr0, decide_eq_false t3]; simp]
        exact verifyLinear_2 p q g s R r rc bs A n c im A1 A2 A3 c1 c2 c3 C H Z w hg hs h hsb hi hn him h1 h2 h3 t1 t2 t3
    · rw [show vfB p q g s (rowsG bs) im C H Z = false by rw [vfB, vfF, decide_eq_false t2]; simp]
      exact verifyLinear_1 p q g s R r rc bs A n c im A1 A2 A3 c1 c2 c3 C H Z w hg hs h hsb hi hn him h1 h2 h3 t1 t2
  · rw [show vfB p q g s (rowsG bs) im C H Z = false by rw [vfB, vfF, hr, decide_eq_false t1]; rfl]
    exact verifyLinear_0 p q g s R r rc bs A n c im A1 A2 A3 c1 c2 c3 C H Z w hg hs h hsb hi hn him h1 h2 h3 t1
end Go.Proofs.Yteeggmnkcgpfjaa
