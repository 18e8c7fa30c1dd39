/- Contracts: a linear statement is proved: the reference's side. -/
import Derived.Test.YteeggmnkcgpfjaaPv

namespace Go.Proofs.Yteeggmnkcgpfjaa
open Go.RowKit
set_option linter.unusedVariables false
attribute [local go_sem ↓] Go.wp_at_zero Go.wp_at_succ
set_option linter.unusedSimpArgs false

theorem heldTake {P : Program} {md : Region.Mode} {ops : Array Oper} {Q : Exit → Act → World → Prop} {S : World → Prop} {i k : Nat} {oi : Oper} {v : Value} {l : Array Bool} {a : Act} {w : World} (d : Option Tmp) (hi : ops[i]? = some oi) (hd : oi.dst = d)
    (hs : Region.noSelect ops = true) (hf : Region.free md ops l i = true) (hr : (Region.ready md ops l).contains i = true) (hQ : ∀ c a w, Q (.panic c) (a.put d v) w → Q (.panic c) a w)
    (hy : YieldsIf P ops S oi v a) (hS : S w) (h : wpAnyH P md ops Q S k (l.setIfInBounds i true) (a.put d v) w) : wpAnyH P md ops Q S (k + 1) l a w := by
  subst hd
  exact wpAnyH_take hi hs hf hr hQ hy hS h
set_option maxRecDepth 100000 in
set_option maxHeartbeats 8000000 in
theorem sProve_any (p q g : Int) (s : ByteArray) (R : Option Addr) (r rc : Nat) (bs : List (Option Addr × Nat × List Int)) (A : Option Addr) (n c : Nat) (ss : List Int) (A' : Option Addr) (n' c' : Nat) (cs : List Int) (w : World)
    (hg : goodB p q g = true) (hs : s.size ≤ 40) (h : Grid w R r bs) (hsb : sbB p q bs = true) (h1 : Ints w A n ss) (h2 : Ints w A' n' cs) (hn : n = (rowK bs 0).length) (hn' : n' = n) (he1 : (ss.all fun e => inB e 0 (q - 1)) = true) (he2 : (cs.all fun e => inB e 0 (q - 1)) = true) :
    Calls Try.prog 148 #[.agg #[.int .i64 p, .int .i64 q, .int .i64 g], .string s, .slice R r rc, .slice A n c, .slice A' n' c'] w (PRp w (pvV p q g s (rowsG bs) ss cs)) := by
  have hl := h.len
  subst hl
  have hl := h1.len
  subst hl
  have hl := h2.len
  subst hl
  obtain ⟨g1, g2, g3, g4, g5, g6⟩ := good_om hg
  have hsv := SB.of hsb
  have hfl := hsv.flat
  have HSB := Lib.hid hsv
  obtain ⟨s1, s2, s3, s4, s5⟩ := hsv
  have HCO1 : Hid (∀ k, k < bs.length → (rowK bs k).length ≤ ss.length) := Lib.hid fun k hk => by rw [(s5 k hk).1, hn]; exact Nat.le_refl _
  have HCO2 : Hid (∀ k, k < bs.length → (rowK bs k).length ≤ cs.length) := Lib.hid fun k hk => by rw [(s5 k hk).1, hn', hn]; exact Nat.le_refl _
  have hnb : ss.length ≤ 8 := by omega
  have HNE := Lib.hid hn'
  have HE1 := Lib.hid he1
  have HE2 := Lib.hid he2
  have hls := h1.le
  have hlc := h2.le
  have hV : pvV p q g s (rowsG bs) ss cs = (imgK p q bs cs bs.length, [chV p q g s (flatG bs ++ imgK p q bs ss bs.length ++ imgK p q bs cs bs.length)], ansK q (chV p q g s (flatG bs ++ imgK p q bs ss bs.length ++ imgK p q bs cs bs.length)) ss cs ss.length) := by
    rw [pvV, ← img_rows p q bs cs rfl, ← img_rows p q bs ss rfl]
    rfl
  have hD1 := small_dig hg (img_small hg bs ss bs.length)
  have hD2 := small_dig hg (img_small hg bs cs bs.length)
  have hL1 := imgK_len p q bs ss bs.length
  have hL2 := imgK_len p q bs cs bs.length
  have HM1 := Lib.hid (fun (R : Option Addr) (rc : Nat) (W : World) (h : Grid W R bs.length bs) (h' : Ints W A ss.length ss) => sImages_any p q g R bs.length rc bs A ss.length c ss W h h' HCO1.out HSB.out.small (by omega) (by omega) (by omega) (by omega) (by omega))
  have HM2 := Lib.hid (fun (R : Option Addr) (rc : Nat) (W : World) (h : Grid W R bs.length bs) (h' : Ints W A' cs.length cs) => sImages_any p q g R bs.length rc bs A' cs.length c' cs W h h' HCO2.out HSB.out.small (by omega) (by omega) (by omega) (by omega) (by omega))
  generalize imgK p q bs cs bs.length = C0 at hV hD2 hL2 HM2
  generalize imgK p q bs ss bs.length = S0 at hV hD1 hL1 HM1
  have HDG := Lib.hid ((chL_digs (zs := flatG bs ++ S0 ++ C0) hg).trans (digs_app (digs_app (flat_digs hg hsb) hD1) hD2))
  have hcb : 0 ≤ chV p q g s (flatG bs ++ S0 ++ C0) ∧ chV p q g s (flatG bs ++ S0 ++ C0) < q := ⟨Int.emod_nonneg _ (by omega), Int.emod_lt_of_pos _ (by omega)⟩
  generalize hcv : chV p q g s (flatG bs ++ S0 ++ C0) = ev at hV hcb
  have HCV := Lib.hid hcv
  have HV := Lib.hid hV
  have HLS := Lib.hid hL1
  have HLC := Lib.hid hL2
  clear hV hcv hL1 hL2 hD1 hD2
  have hb0 : Below w.heap.size w ((w.alloc (.cells #[.int .i64 p, .int .i64 q, .int .i64 g] 27)).alloc (.cells #[.slice none 0 0, .slice none 0 0, .slice none 0 0] 52)) := belA (belA (Below.refl _ _))
  have HI := Lib.hid (h.below hb0)
  have H1 := Lib.hid (h1.below hb0)
  have H2 := Lib.hid (h2.below hb0)
  have f0 : ((w.alloc (.cells #[.int .i64 p, .int .i64 q, .int .i64 g] 27)).alloc (.cells #[.slice none 0 0, .slice none 0 0, .slice none 0 0] 52)).cell? ⟨w.heap.size, 0, none⟩ = some (.int .i64 p) := by rw [World.cell?_alloc_past _ _ _ (by simp <;> omega), World.cell?_alloc_at _ _ _ _ (by simp)]; rfl
  have f1 : ((w.alloc (.cells #[.int .i64 p, .int .i64 q, .int .i64 g] 27)).alloc (.cells #[.slice none 0 0, .slice none 0 0, .slice none 0 0] 52)).cell? ⟨w.heap.size, 1, none⟩ = some (.int .i64 q) := by rw [World.cell?_alloc_past _ _ _ (by simp <;> omega), World.cell?_alloc_at _ _ _ _ (by simp)]; rfl
  have f2 : ((w.alloc (.cells #[.int .i64 p, .int .i64 q, .int .i64 g] 27)).alloc (.cells #[.slice none 0 0, .slice none 0 0, .slice none 0 0] 52)).cell? ⟨w.heap.size, 2, none⟩ = some (.int .i64 g) := by rw [World.cell?_alloc_past _ _ _ (by simp <;> omega), World.cell?_alloc_at _ _ _ _ (by simp)]; rfl
  have hrb : PB ((w.alloc (.cells #[.int .i64 p, .int .i64 q, .int .i64 g] 27)).alloc (.cells #[.slice none 0 0, .slice none 0 0, .slice none 0 0] 52)) (w.heap.size + 1) (.slice none 0 0) (.slice none 0 0) (.slice none 0 0) := by
    have := PB.new (w.alloc (.cells #[.int .i64 p, .int .i64 q, .int .i64 g] 27)) 52 (.slice none 0 0) (.slice none 0 0) (.slice none 0 0)
    simpa using this
  have hzw : w.heap.size + 2 = ((w.alloc (.cells #[.int .i64 p, .int .i64 q, .int .i64 g] 27)).alloc (.cells #[.slice none 0 0, .slice none 0 0, .slice none 0 0] 52)).heap.size := by simp
  have HZW := Lib.hid hzw
  have HFL := Lib.hid hfl
  clear h h1 h2 s5 hsb hn hn' hfl hzw hg he1 he2
  go_enter Try.func148, Try.ntmps148
  go_wp2_with fail
  generalize hW0 : ((w.alloc (.cells #[.int .i64 p, .int .i64 q, .int .i64 g] 27)).alloc (.cells #[.slice none 0 0, .slice none 0 0, .slice none 0 0] 52)) = V0 at HI H1 H2 f0 f1 f2 hrb HZW hb0
  clear hW0
  refine (HM2.out R rc _ HI.out H2.out).mono ?_
  rintro e wA ⟨B1, k1, rfl, hoA, hbA⟩
  have OA := Lib.hid (Own.mk' hoA)
  have hbA1 : Below V0.heap.size V0 (wA.alloc (.cells #[.slice B1 bs.length k1, .slice none 0 0, .slice none 0 0] 52)) := belA hbA
  have hpb := PB.new wA 52 (.slice B1 bs.length k1) (.slice none 0 0) (.slice none 0 0)
  have hOA1 := Lib.hid (OA.out.below (belA (o := .cells #[.slice B1 bs.length k1, .slice none 0 0, .slice none 0 0] 52) (Below.refl _ _)))
  have hzA : V0.heap.size ≤ wA.heap.size := hbA.size
  have hz1 : wA.heap.size + 1 = (wA.alloc (.cells #[.slice B1 bs.length k1, .slice none 0 0, .slice none 0 0] 52)).heap.size := by simp
  have HZ1 := Lib.hid hz1
  clear hoA hbA OA hz1
  go_wp2_with fail
  generalize hW1 : wA.alloc (.cells #[.slice B1 bs.length k1, .slice none 0 0, .slice none 0 0] 52) = W1 at hbA1 hpb hOA1 HZ1
  clear hW1
  have e0 := keepB hbA1 f0
  have e1 := keepB hbA1 f1
  have e2 := keepB hbA1 f2
  obtain ⟨pc0, pc1, pc2, pf0, pf1, pf2⟩ := hpb
  refine wp_region_held_drew (S := fun W => Below W1.heap.size W1 W) (by kernel_rfl) (belD (Below.refl _ _)) (fun hHeld => ?_)
  refine heldTake (i := 0) (v := ?_) (some 20) rfl rfl (by kernel_rfl) (by kernel_rfl) (by kernel_rfl) (fun _ _ _ h => h) (Or.inl ⟨by rfl, ?_⟩) (by assumption) ?_
  rotate_left
  · (intro W hSw; have q0 := keepB hSw e0; have q1 := keepB hSw e1; have q2 := keepB hSw e2; have q3 := keepB hSw pc0; clear hSw; go_simp; all_goals first | with_reducible rfl | (simp [*]; done) | (intro hh; exfalso; omega) | fail)
  try simp only [Act.put, List.setIfInBounds_toArray, List.set_cons_zero, List.set_cons_succ]
  refine heldTake (i := 1) (v := ?_) (some 21) rfl rfl (by kernel_rfl) (by kernel_rfl) (by kernel_rfl) (fun _ _ _ h => h) (Or.inl ⟨by rfl, ?_⟩) (by assumption) ?_
  rotate_left
  · (intro W hSw; have q0 := keepB hSw e0; have q1 := keepB hSw e1; have q2 := keepB hSw e2; have q3 := keepB hSw pc0; clear hSw; go_simp; all_goals first | with_reducible rfl | (simp [*]; done) | (intro hh; exfalso; omega) | fail)
  try simp only [Act.put, List.setIfInBounds_toArray, List.set_cons_zero, List.set_cons_succ]
  refine heldTake (i := 2) (v := ?_) (some 22) rfl rfl (by kernel_rfl) (by kernel_rfl) (by kernel_rfl) (fun _ _ _ h => h) (Or.inl ⟨by rfl, ?_⟩) (by assumption) ?_
  rotate_left
  · (intro W hSw; have q0 := keepB hSw e0; have q1 := keepB hSw e1; have q2 := keepB hSw e2; have q3 := keepB hSw pc0; clear hSw; go_simp; all_goals first | with_reducible rfl | (simp [*]; done) | (intro hh; exfalso; omega) | fail)
  try simp only [Act.put, List.setIfInBounds_toArray, List.set_cons_zero, List.set_cons_succ]
  refine heldTake (i := 3) (v := ?_) (some 23) rfl rfl (by kernel_rfl) (by kernel_rfl) (by kernel_rfl) (fun _ _ _ h => h) (Or.inl ⟨by rfl, ?_⟩) (by assumption) ?_
  rotate_left
  · (intro W hSw; have q0 := keepB hSw e0; have q1 := keepB hSw e1; have q2 := keepB hSw e2; have q3 := keepB hSw pc0; clear hSw; go_simp; all_goals first | with_reducible rfl | (simp [*]; done) | (intro hh; exfalso; omega) | fail)
  try simp only [Act.put, List.setIfInBounds_toArray, List.set_cons_zero, List.set_cons_succ]
  refine heldTake (i := 4) (v := ?_) (some 24) rfl rfl (by kernel_rfl) (by kernel_rfl) (by kernel_rfl) (fun _ _ _ h => h) (Or.inl ⟨by rfl, ?_⟩) (by assumption) ?_
  rotate_left
  · (intro W hSw; have q0 := keepB hSw e0; have q1 := keepB hSw e1; have q2 := keepB hSw e2; have q3 := keepB hSw pc0; clear hSw; go_simp; all_goals first | with_reducible rfl | (simp [*]; done) | (intro hh; exfalso; omega) | fail)
  try simp only [Act.put, List.setIfInBounds_toArray, List.set_cons_zero, List.set_cons_succ]
  refine heldTake (i := 5) (v := ?_) (some 25) rfl rfl (by kernel_rfl) (by kernel_rfl) (by kernel_rfl) (fun _ _ _ h => h) (Or.inl ⟨by rfl, ?_⟩) (by assumption) ?_
  rotate_left
  · (intro W hSw; have q0 := keepB hSw e0; have q1 := keepB hSw e1; have q2 := keepB hSw e2; have q3 := keepB hSw pc0; clear hSw; go_simp; all_goals first | with_reducible rfl | (simp [*]; done) | (intro hh; exfalso; omega) | fail)
  try simp only [Act.put, List.setIfInBounds_toArray, List.set_cons_zero, List.set_cons_succ]
  refine heldTake (i := 7) (v := ?_) (some 27) rfl rfl (by kernel_rfl) (by kernel_rfl) (by kernel_rfl) (fun _ _ _ h => h) (Or.inl ⟨by rfl, ?_⟩) (by assumption) ?_
  rotate_left
  · (intro W hSw; have q0 := keepB hSw e0; have q1 := keepB hSw e1; have q2 := keepB hSw e2; have q3 := keepB hSw pc0; clear hSw; go_simp; all_goals first | with_reducible rfl | (simp [*]; done) | (intro hh; exfalso; omega) | fail)
  try simp only [Act.put, List.setIfInBounds_toArray, List.set_cons_zero, List.set_cons_succ]
  refine heldTake (i := 8) (v := ?_) (some 28) rfl rfl (by kernel_rfl) (by kernel_rfl) (by kernel_rfl) (fun _ _ _ h => h) (Or.inl ⟨by rfl, ?_⟩) (by assumption) ?_
  rotate_left
  · (intro W hSw; have q0 := keepB hSw e0; have q1 := keepB hSw e1; have q2 := keepB hSw e2; have q3 := keepB hSw pc0; clear hSw; go_simp; all_goals first | with_reducible rfl | (simp [*]; done) | (intro hh; exfalso; omega) | fail)
  try simp only [Act.put, List.setIfInBounds_toArray, List.set_cons_zero, List.set_cons_succ]
  refine wpAnyH_ready (rs := [6]) (by kernel_rfl) (by simp) ?_
  refine AllReadyH.cons rfl (fun K hK => ?_) AllReadyH.nil
  go_simp
  (go_at_call 89; refine (HM1.out R rc _ (HI.out.below (belT hbA1 hHeld)) (H1.out.below (belT hbA1 hHeld))).mono ?_; rintro e w1 ⟨B2, k2, rfl, ho, hb1⟩)
  have HO2 := Lib.hid (Ints.of_own ho)
  clear ho
  have hNx := belT hHeld hb1
  refine hK.out _ _ hNx (fun hNew => ?_)
  clear hK K hHeld hNx
  have hHeld := hNew; clear hNew hb1
  try simp only [Act.put, List.setIfInBounds_toArray, List.set_cons_zero, List.set_cons_succ]
  refine wpAnyH_ready (rs := [9]) (by kernel_rfl) (by simp) ?_
  refine AllReadyH.cons rfl (fun K hK => ?_) AllReadyH.nil
  go_simp
  (go_at_call 177; refine (sStatement_any R bs.length rc bs B2 bs.length k2 S0 B1 bs.length k1 C0 _ (HI.out.below (belT hbA1 hHeld)) HO2.out (hOA1.out.below hHeld).ints (by have := HFL.out; omega) (by omega) (by omega)).mono ?_; rintro e w1 ⟨B3, k3, rfl, ho, hb1⟩)
  have HO3 := Lib.hid (Ints.of_own ho)
  clear ho
  have hNx := belT hHeld hb1
  refine hK.out _ _ hNx (fun hNew => ?_)
  clear hK K hHeld hNx
  have hHeld := hNew; clear hNew hb1
  try simp only [Act.put, List.setIfInBounds_toArray, List.set_cons_zero, List.set_cons_succ]
  refine wpAnyH_ready (rs := [10]) (by kernel_rfl) (by simp) ?_
  refine AllReadyH.cons rfl (fun K hK => ?_) AllReadyH.nil
  go_simp
  (go_at_call 176; refine (hChallenge_any p q g s B3 _ k3 (flatG bs ++ S0 ++ C0) _ HO3.out (by have := HFL.out; omega) (by omega) HDG.out (by omega) (by omega)).mono ?_; rintro e w1 ⟨rfl, hb1⟩)
  rw [HCV.out]
  have hNx := belT hHeld hb1
  refine hK.out _ _ hNx (fun hNew => ?_)
  clear hK K hHeld hNx
  have hHeld := hNew; clear hNew hb1
  try simp only [Act.put, List.setIfInBounds_toArray, List.set_cons_zero, List.set_cons_succ]
  refine heldTake (i := 11) (v := ?_) (some 12) rfl rfl (by kernel_rfl) (by kernel_rfl) (by kernel_rfl) (fun _ _ _ h => h) (Or.inl ⟨by rfl, ?_⟩) (by assumption) ?_
  rotate_left
  · (intro W hSw; have q0 := keepB hSw e0; have q1 := keepB hSw e1; have q2 := keepB hSw e2; have q3 := keepB hSw pc0; clear hSw; go_simp; all_goals first | with_reducible rfl | (simp [*]; done) | (intro hh; exfalso; omega) | fail)
  try simp only [Act.put, List.setIfInBounds_toArray, List.set_cons_zero, List.set_cons_succ]
  refine wpAnyH_done (by kernel_rfl) ?_ _
  have hpb2 := (PB.mk pc0 pc1 pc2 pf0 pf1 pf2).below hHeld
  have hrb2 := (hrb.below hbA1).below hHeld
  have hB1 := belT hbA1 hHeld
  have hOA2 := Lib.hid (hOA1.out.below hHeld)
  obtain ⟨qc0, qc1, qc2, qf0, qf1, qf2⟩ := hpb2
  have hz2 : wA.heap.size < w1.heap.size := by have := hHeld.size; have := HZ1.out; omega
  clear hHeld pc0 pc1 pc2 pf0 pf1 pf2 e0 e1 e2
  have hpb3 : PB ((w1.setCell ⟨wA.heap.size, 1, none⟩ (.slice (some ⟨w1.heap.size, 0, none⟩) 1 1)).alloc (.cells #[.int .i64 ev] 3)) wA.heap.size (.slice B1 bs.length k1) (.slice (some ⟨w1.heap.size, 0, none⟩) 1 1) (.slice none 0 0) := ((PB.mk qc0 qc1 qc2 qf0 qf1 qf2).put1 _).below (belA (Below.refl _ _))
  have hrb3 : PB ((w1.setCell ⟨wA.heap.size, 1, none⟩ (.slice (some ⟨w1.heap.size, 0, none⟩) 1 1)).alloc (.cells #[.int .i64 ev] 3)) (w.heap.size + 1) (.slice none 0 0) (.slice none 0 0) (.slice none 0 0) := (hrb2.other (by have := HZW.out; omega)).below (belA (Below.refl _ _))
  have hB3 : Below V0.heap.size V0 ((w1.setCell ⟨wA.heap.size, 1, none⟩ (.slice (some ⟨w1.heap.size, 0, none⟩) 1 1)).alloc (.cells #[.int .i64 ev] 3)) := belA (belS hB1 (by simpa using hzA))
  have hOA3 : Hid (Own ((w1.setCell ⟨wA.heap.size, 1, none⟩ (.slice (some ⟨w1.heap.size, 0, none⟩) 1 1)).alloc (.cells #[.int .i64 ev] 3)) V0.heap.size wA.heap.size B1 bs.length k1 C0) := Lib.hid ((((Save.refl w1.heap.size wA.heap.size w1).put (i := 1) (v := .slice (some ⟨w1.heap.size, 0, none⟩) 1 1)).own hOA2.out (by omega) (.inl (Nat.le_refl _))).below (belA (Below.refl _ _)))
  have hOB3 : Hid (Own ((w1.setCell ⟨wA.heap.size, 1, none⟩ (.slice (some ⟨w1.heap.size, 0, none⟩) 1 1)).alloc (.cells #[.int .i64 ev] 3)) w1.heap.size (w1.heap.size + 1) (some ⟨w1.heap.size, 0, none⟩) 1 1 [ev]) := Lib.hid (by have := Own.mk' (own_lit1 (w1.setCell ⟨wA.heap.size, 1, none⟩ (.slice (some ⟨w1.heap.size, 0, none⟩) 1 1)) w1.heap.size ev (by simp)); simpa using this)
  have hsz3 : w1.heap.size + 1 ≤ ((w1.setCell ⟨wA.heap.size, 1, none⟩ (.slice (some ⟨w1.heap.size, 0, none⟩) 1 1)).alloc (.cells #[.int .i64 ev] 3)).heap.size := by simp
  have HE0 : Hid (World.ownsRow ((w1.setCell ⟨wA.heap.size, 1, none⟩ (.slice (some ⟨w1.heap.size, 0, none⟩) 1 1)).alloc (.cells #[.int .i64 ev] 3)) (w1.heap.size + 1) 3 1 (.slice none 0 0) 0 ((ansK q ev ss cs 0).map (Value.int .i64))) := Lib.hid (own_nil _ _)
  have hzwA : w.heap.size + 1 < wA.heap.size := by have := HZW.out; omega
  clear hB1 hrb2 hOA1 hOA2 hrb hbA1
  go_wp2
  generalize hW3 : ((w1.setCell ⟨wA.heap.size, 1, none⟩ (.slice (some ⟨w1.heap.size, 0, none⟩) 1 1)).alloc (.cells #[.int .i64 ev] 3)) = V3 at hpb3 hrb3 hB3 hOA3 hOB3 hsz3 HE0
  clear hW3 qc0 qc1 qc2 qf0 qf1 qf2
  go_loopw [36] (fun i wr => ∃ k : Nat, k ≤ ss.length ∧ i = .int .i64 k ∧ Hid (∃ v, PB wr wA.heap.size (.slice B1 bs.length k1) (.slice (some ⟨w1.heap.size, 0, none⟩) 1 1) v ∧ wr.ownsRow (w1.heap.size + 1) 3 1 v k ((ansK q ev ss cs k).map (Value.int .i64))) ∧ Hid (Save (w1.heap.size + 1) wA.heap.size V3 wr)) (fun i _ => ss.length - (intOf i).toNat)
  case atStart => exact ⟨0, by omega, rfl, Lib.hid ⟨_, hpb3, HE0.out⟩, Lib.hid (Save.refl _ _ _)⟩
  case round =>
    obtain ⟨k, hk, rfl, HP, HS⟩ := hrel
    obtain ⟨v, hpv, hov⟩ := HP.out
    obtain ⟨Cv, oc, rfl⟩ := own_shape hov
    have hzr := HS.out.size
    have hzw1 : w.heap.size + 1 < w1.heap.size := by have := HZW.out; omega
    have a0 := HS.out.cell (keepB hB3 f0) (by omega) (by omega)
    have a1 := HS.out.cell (keepB hB3 f1) (by omega) (by omega)
    have a2 := HS.out.cell (keepB hB3 f2) (by omega) (by omega)
    have HI1 := Lib.hid (HS.out.ints (H1.out.below hB3) (Ints.base H1.out) (by omega) (by omega))
    have HI2 := Lib.hid (HS.out.ints (H2.out.below hB3) (Ints.base H2.out) (by omega) (by omega))
    obtain ⟨u0, u1, u2, x0, x1, x2⟩ := hpv
    have HOV := Lib.hid hov
    have HPV := Lib.hid (PB.mk u0 u1 u2 x0 x1 x2)
    clear hov HP
    by_cases hlt : k < ss.length
    · obtain ⟨bx, ox, ex, hbx, hcx⟩ := HI1.out.at_ hlt
      obtain ⟨by_, oy, ey, hby, hcy⟩ := HI2.out.at_ (k := k) (by have := HNE.out; omega)
      have hbx2 := Ints.base H1.out bx ox ex (by omega)
      have hby2 := Ints.base H2.out by_ oy ey (by have := HNE.out; omega)
      subst ex ey
      have b1 := exps_bd HE1.out hlt
      have b2 := exps_bd HE2.out (k := k) (by have := HNE.out; omega)
      have HAN := Lib.hid (ansK_succ q ev ss cs k)
      generalize ss.getD k 0 = xs at hcx b1 HAN
      generalize cs.getD k 0 = xc at hcy b2 HAN
      obtain ⟨m0, m1, m2, m3⟩ := ans_bd g3 (by omega) b2 hcb b1
      generalize hy : ev * xs = y at m0 m1 m2 m3 HAN
      have HY := Lib.hid hy
      generalize hzz : xc + y = z at m2 m3 HAN
      have HZZ := Lib.hid hzz
      have hwm : IntKind.i64.wrap (ev * xs) = y := by rw [HY.out, IntKind.wrap_i64]; omega
      have hwm2 : wrap64 (ev * xs) = y := by rw [HY.out]; unfold wrap64; omega
      have hwa : IntKind.i64.wrap (xc + y) = z := by rw [HZZ.out, IntKind.wrap_i64]; omega
      have hwa2 : wrap64 (xc + y) = z := by rw [HZZ.out]; unfold wrap64; omega
      have hq0 : (q == 0) = false := by rw [beq_eq_false_iff_ne]; omega
      have hq0' : ¬ q = 0 := by omega
      have r0 := Int.emod_nonneg z (show q ≠ 0 by omega)
      have r1 := Int.emod_lt_of_pos z (show 0 < q by omega)
      have ht : z.tmod q = z % q := Int.tmod_eq_emod_of_nonneg m2
      generalize hzq : z % q = zq at r0 r1 ht HAN
      have HZQ := Lib.hid hzq
      have hwt : IntKind.i64.wrap zq = zq := by rw [IntKind.wrap_i64]; omega
      have i1 : (0 : Int) ≤ (k : Int) := by omega
      have i2 : (k : Int) < (ss.length : Int) := by omega
      have i3 : (k : Int) < (cs.length : Int) := by have := HNE.out; omega
      have i4 : k < ss.length := hlt
      have i5 : k < cs.length := by have := HNE.out; omega
      clear hy hzz hzq
      go_wp2_with fail
      refine region_end 16 (S := fun W => Below (w1.heap.size + 1) wr W) (by kernel_rfl) (by kernel_rfl) (Below.refl (w1.heap.size + 1) wr).drew (fun hE hHeld => ?_)
      refine EndW.take (i := 0) (v := ?_) (some 41) hE rfl rfl (by kernel_rfl) (by kernel_rfl) (by omega) (fun _ _ _ h => h) (Or.inl ⟨by rfl, ?_⟩) (by assumption) ?_
      rotate_left
      · (intro W hSw; have t0 := keepL hSw (show w.heap.size < w1.heap.size + 1 by omega) a0; have t1 := keepL hSw (show w.heap.size < w1.heap.size + 1 by omega) a1; have t2 := keepL hSw (show w.heap.size < w1.heap.size + 1 by omega) a2; have t3 := keepL hSw (show wA.heap.size < w1.heap.size + 1 by omega) u2; have t4 := keepL hSw (show bx < w1.heap.size + 1 by omega) hcx; have t5 := keepL hSw (show by_ < w1.heap.size + 1 by omega) hcy; clear hSw; go_simp; all_goals first | with_reducible rfl | (simp [*]; done) | (intro hh; exfalso; omega) | fail)
      try simp only [Act.put, List.setIfInBounds_toArray, List.set_cons_zero, List.set_cons_succ]
      refine EndW.take (i := 1) (v := ?_) (some 42) hE rfl rfl (by kernel_rfl) (by kernel_rfl) (by omega) (fun _ _ _ h => h) (Or.inl ⟨by rfl, ?_⟩) (by assumption) ?_
      rotate_left
      · (intro W hSw; have t0 := keepL hSw (show w.heap.size < w1.heap.size + 1 by omega) a0; have t1 := keepL hSw (show w.heap.size < w1.heap.size + 1 by omega) a1; have t2 := keepL hSw (show w.heap.size < w1.heap.size + 1 by omega) a2; have t3 := keepL hSw (show wA.heap.size < w1.heap.size + 1 by omega) u2; have t4 := keepL hSw (show bx < w1.heap.size + 1 by omega) hcx; have t5 := keepL hSw (show by_ < w1.heap.size + 1 by omega) hcy; clear hSw; go_simp; all_goals first | with_reducible rfl | (simp [*]; done) | (intro hh; exfalso; omega) | fail)
      try simp only [Act.put, List.setIfInBounds_toArray, List.set_cons_zero, List.set_cons_succ]
      refine EndW.take (i := 2) (v := ?_) (some 43) hE rfl rfl (by kernel_rfl) (by kernel_rfl) (by omega) (fun _ _ _ h => h) (Or.inl ⟨by rfl, ?_⟩) (by assumption) ?_
      rotate_left
      · (intro W hSw; have t0 := keepL hSw (show w.heap.size < w1.heap.size + 1 by omega) a0; have t1 := keepL hSw (show w.heap.size < w1.heap.size + 1 by omega) a1; have t2 := keepL hSw (show w.heap.size < w1.heap.size + 1 by omega) a2; have t3 := keepL hSw (show wA.heap.size < w1.heap.size + 1 by omega) u2; have t4 := keepL hSw (show bx < w1.heap.size + 1 by omega) hcx; have t5 := keepL hSw (show by_ < w1.heap.size + 1 by omega) hcy; clear hSw; go_simp; all_goals first | with_reducible rfl | (simp [*]; done) | (intro hh; exfalso; omega) | fail)
      try simp only [Act.put, List.setIfInBounds_toArray, List.set_cons_zero, List.set_cons_succ]
      refine EndW.take (i := 3) (v := ?_) (some 44) hE rfl rfl (by kernel_rfl) (by kernel_rfl) (by omega) (fun _ _ _ h => h) (Or.inl ⟨by rfl, ?_⟩) (by assumption) ?_
      rotate_left
      · (intro W hSw; have t0 := keepL hSw (show w.heap.size < w1.heap.size + 1 by omega) a0; have t1 := keepL hSw (show w.heap.size < w1.heap.size + 1 by omega) a1; have t2 := keepL hSw (show w.heap.size < w1.heap.size + 1 by omega) a2; have t3 := keepL hSw (show wA.heap.size < w1.heap.size + 1 by omega) u2; have t4 := keepL hSw (show bx < w1.heap.size + 1 by omega) hcx; have t5 := keepL hSw (show by_ < w1.heap.size + 1 by omega) hcy; clear hSw; go_simp; all_goals first | with_reducible rfl | (simp [*]; done) | (intro hh; exfalso; omega) | fail)
      try simp only [Act.put, List.setIfInBounds_toArray, List.set_cons_zero, List.set_cons_succ]
      refine EndW.take (i := 4) (v := ?_) (some 45) hE rfl rfl (by kernel_rfl) (by kernel_rfl) (by omega) (fun _ _ _ h => h) (Or.inl ⟨by rfl, ?_⟩) (by assumption) ?_
      rotate_left
      · (intro W hSw; have t0 := keepL hSw (show w.heap.size < w1.heap.size + 1 by omega) a0; have t1 := keepL hSw (show w.heap.size < w1.heap.size + 1 by omega) a1; have t2 := keepL hSw (show w.heap.size < w1.heap.size + 1 by omega) a2; have t3 := keepL hSw (show wA.heap.size < w1.heap.size + 1 by omega) u2; have t4 := keepL hSw (show bx < w1.heap.size + 1 by omega) hcx; have t5 := keepL hSw (show by_ < w1.heap.size + 1 by omega) hcy; clear hSw; go_simp; all_goals first | with_reducible rfl | (simp [*]; done) | (intro hh; exfalso; omega) | fail)
      try simp only [Act.put, List.setIfInBounds_toArray, List.set_cons_zero, List.set_cons_succ]
      refine EndW.take (i := 5) (v := ?_) (some 46) hE rfl rfl (by kernel_rfl) (by kernel_rfl) (by omega) (fun _ _ _ h => h) (Or.inl ⟨by rfl, ?_⟩) (by assumption) ?_
      rotate_left
      · (intro W hSw; have t0 := keepL hSw (show w.heap.size < w1.heap.size + 1 by omega) a0; have t1 := keepL hSw (show w.heap.size < w1.heap.size + 1 by omega) a1; have t2 := keepL hSw (show w.heap.size < w1.heap.size + 1 by omega) a2; have t3 := keepL hSw (show wA.heap.size < w1.heap.size + 1 by omega) u2; have t4 := keepL hSw (show bx < w1.heap.size + 1 by omega) hcx; have t5 := keepL hSw (show by_ < w1.heap.size + 1 by omega) hcy; clear hSw; go_simp; all_goals first | with_reducible rfl | (simp [*]; done) | (intro hh; exfalso; omega) | fail)
      try simp only [Act.put, List.setIfInBounds_toArray, List.set_cons_zero, List.set_cons_succ]
      refine EndW.take (i := 6) (v := ?_) (some 47) hE rfl rfl (by kernel_rfl) (by kernel_rfl) (by omega) (fun _ _ _ h => h) (Or.inl ⟨by rfl, ?_⟩) (by assumption) ?_
      rotate_left
      · (intro W hSw; have t0 := keepL hSw (show w.heap.size < w1.heap.size + 1 by omega) a0; have t1 := keepL hSw (show w.heap.size < w1.heap.size + 1 by omega) a1; have t2 := keepL hSw (show w.heap.size < w1.heap.size + 1 by omega) a2; have t3 := keepL hSw (show wA.heap.size < w1.heap.size + 1 by omega) u2; have t4 := keepL hSw (show bx < w1.heap.size + 1 by omega) hcx; have t5 := keepL hSw (show by_ < w1.heap.size + 1 by omega) hcy; clear hSw; go_simp; all_goals first | with_reducible rfl | (simp [*]; done) | (intro hh; exfalso; omega) | fail)
      try simp only [Act.put, List.setIfInBounds_toArray, List.set_cons_zero, List.set_cons_succ]
      refine EndW.take (i := 7) (v := ?_) (some 48) hE rfl rfl (by kernel_rfl) (by kernel_rfl) (by omega) (fun _ _ _ h => h) (Or.inl ⟨by rfl, ?_⟩) (by assumption) ?_
      rotate_left
      · (intro W hSw; have t0 := keepL hSw (show w.heap.size < w1.heap.size + 1 by omega) a0; have t1 := keepL hSw (show w.heap.size < w1.heap.size + 1 by omega) a1; have t2 := keepL hSw (show w.heap.size < w1.heap.size + 1 by omega) a2; have t3 := keepL hSw (show wA.heap.size < w1.heap.size + 1 by omega) u2; have t4 := keepL hSw (show bx < w1.heap.size + 1 by omega) hcx; have t5 := keepL hSw (show by_ < w1.heap.size + 1 by omega) hcy; clear hSw; go_simp; all_goals first | with_reducible rfl | (simp [*]; done) | (intro hh; exfalso; omega) | fail)
      try simp only [Act.put, List.setIfInBounds_toArray, List.set_cons_zero, List.set_cons_succ]
      refine EndW.take (i := 8) (v := .int .i64 y) (some 49) hE rfl rfl (by kernel_rfl) (by kernel_rfl) (by omega) (fun _ _ _ h => h) (Or.inl ⟨by rfl, ?_⟩) (by assumption) ?_
      · (intro W hSw; have t0 := keepL hSw (show w.heap.size < w1.heap.size + 1 by omega) a0; have t1 := keepL hSw (show w.heap.size < w1.heap.size + 1 by omega) a1; have t2 := keepL hSw (show w.heap.size < w1.heap.size + 1 by omega) a2; have t3 := keepL hSw (show wA.heap.size < w1.heap.size + 1 by omega) u2; have t4 := keepL hSw (show bx < w1.heap.size + 1 by omega) hcx; have t5 := keepL hSw (show by_ < w1.heap.size + 1 by omega) hcy; clear hSw; go_simp; all_goals first | with_reducible rfl | (simp [*]; done) | (intro hh; exfalso; omega) | fail)
      try simp only [Act.put, List.setIfInBounds_toArray, List.set_cons_zero, List.set_cons_succ]
      refine EndW.take (i := 9) (v := .int .i64 z) (some 50) hE rfl rfl (by kernel_rfl) (by kernel_rfl) (by omega) (fun _ _ _ h => h) (Or.inl ⟨by rfl, ?_⟩) (by assumption) ?_
      · (intro W hSw; have t0 := keepL hSw (show w.heap.size < w1.heap.size + 1 by omega) a0; have t1 := keepL hSw (show w.heap.size < w1.heap.size + 1 by omega) a1; have t2 := keepL hSw (show w.heap.size < w1.heap.size + 1 by omega) a2; have t3 := keepL hSw (show wA.heap.size < w1.heap.size + 1 by omega) u2; have t4 := keepL hSw (show bx < w1.heap.size + 1 by omega) hcx; have t5 := keepL hSw (show by_ < w1.heap.size + 1 by omega) hcy; clear hSw; go_simp; all_goals first | with_reducible rfl | (simp [*]; done) | (intro hh; exfalso; omega) | fail)
      try simp only [Act.put, List.setIfInBounds_toArray, List.set_cons_zero, List.set_cons_succ]
      refine EndW.take (i := 10) (v := ?_) (some 51) hE rfl rfl (by kernel_rfl) (by kernel_rfl) (by omega) (fun _ _ _ h => h) (Or.inl ⟨by rfl, ?_⟩) (by assumption) ?_
      rotate_left
      · (intro W hSw; have t0 := keepL hSw (show w.heap.size < w1.heap.size + 1 by omega) a0; have t1 := keepL hSw (show w.heap.size < w1.heap.size + 1 by omega) a1; have t2 := keepL hSw (show w.heap.size < w1.heap.size + 1 by omega) a2; have t3 := keepL hSw (show wA.heap.size < w1.heap.size + 1 by omega) u2; have t4 := keepL hSw (show bx < w1.heap.size + 1 by omega) hcx; have t5 := keepL hSw (show by_ < w1.heap.size + 1 by omega) hcy; clear hSw; go_simp; all_goals first | with_reducible rfl | (simp [*]; done) | (intro hh; exfalso; omega) | fail)
      try simp only [Act.put, List.setIfInBounds_toArray, List.set_cons_zero, List.set_cons_succ]
      refine EndW.take (i := 11) (v := ?_) (some 52) hE rfl rfl (by kernel_rfl) (by kernel_rfl) (by omega) (fun _ _ _ h => h) (Or.inl ⟨by rfl, ?_⟩) (by assumption) ?_
      rotate_left
      · (intro W hSw; have t0 := keepL hSw (show w.heap.size < w1.heap.size + 1 by omega) a0; have t1 := keepL hSw (show w.heap.size < w1.heap.size + 1 by omega) a1; have t2 := keepL hSw (show w.heap.size < w1.heap.size + 1 by omega) a2; have t3 := keepL hSw (show wA.heap.size < w1.heap.size + 1 by omega) u2; have t4 := keepL hSw (show bx < w1.heap.size + 1 by omega) hcx; have t5 := keepL hSw (show by_ < w1.heap.size + 1 by omega) hcy; clear hSw; go_simp; all_goals first | with_reducible rfl | (simp [*]; done) | (intro hh; exfalso; omega) | fail)
      try simp only [Act.put, List.setIfInBounds_toArray, List.set_cons_zero, List.set_cons_succ]
      refine EndW.take (i := 12) (v := .int .i64 zq) (some 53) hE rfl rfl (by kernel_rfl) (by kernel_rfl) (by omega) (fun _ _ _ h => h) (Or.inl ⟨by rfl, ?_⟩) (by assumption) ?_
      · (intro W hSw; have t0 := keepL hSw (show w.heap.size < w1.heap.size + 1 by omega) a0; have t1 := keepL hSw (show w.heap.size < w1.heap.size + 1 by omega) a1; have t2 := keepL hSw (show w.heap.size < w1.heap.size + 1 by omega) a2; have t3 := keepL hSw (show wA.heap.size < w1.heap.size + 1 by omega) u2; have t4 := keepL hSw (show bx < w1.heap.size + 1 by omega) hcx; have t5 := keepL hSw (show by_ < w1.heap.size + 1 by omega) hcy; clear hSw; go_simp; all_goals first | with_reducible rfl | (simp [*]; done) | (intro hh; exfalso; omega) | fail)
      try simp only [Act.put, List.setIfInBounds_toArray, List.set_cons_zero, List.set_cons_succ]
      refine EndW.one (i := 13) (by kernel_rfl) (by omega) ⟨_, rfl, fun K hK => ?_⟩
      go_simp
      refine hK.out _ _ (hHeld.alloc (by have := hHeld.size; omega) _) (fun hNew => ?_)
      clear hK K hHeld
      have hHeld := hNew; clear hNew
      have HOc := Lib.hid (own_alloc_ofD hHeld (own_drew HOV.out))
      have IX := Lib.hid (lit1_ofD hHeld)
      try simp only [Act.put, List.setIfInBounds_toArray, List.set_cons_zero, List.set_cons_succ]
      refine EndW.one (i := 14) (by kernel_rfl) (by omega) ⟨_, rfl, fun K hK => ?_⟩
      refine step_appI (by rfl) _ _ (by rfl) (by rfl) (by rfl) IX.out HOc.out (by omega) (by have := hHeld.size; omega) ?_
      intro A3 c3 w3 hown3 hg3
      have hN3 := own_below hHeld (by have := hHeld.size; omega) HOc.out hg3
      refine hK.out _ _ hN3 (fun hNew => ?_)
      clear hK K hHeld
      have hHeld := hNew; clear hNew hN3
      try simp only [Act.put, List.setIfInBounds_toArray, List.set_cons_zero, List.set_cons_succ]
      refine EndW.take (i := 15) (v := ?_) (some 56) hE rfl rfl (by kernel_rfl) (by kernel_rfl) (by omega) (fun _ _ _ h => h) (Or.inl ⟨by rfl, ?_⟩) (by assumption) ?_
      rotate_left
      · (intro W hSw; have t0 := keepL hSw (show w.heap.size < w1.heap.size + 1 by omega) a0; have t1 := keepL hSw (show w.heap.size < w1.heap.size + 1 by omega) a1; have t2 := keepL hSw (show w.heap.size < w1.heap.size + 1 by omega) a2; have t3 := keepL hSw (show wA.heap.size < w1.heap.size + 1 by omega) u2; have t4 := keepL hSw (show bx < w1.heap.size + 1 by omega) hcx; have t5 := keepL hSw (show by_ < w1.heap.size + 1 by omega) hcy; clear hSw; go_simp; all_goals first | with_reducible rfl | (simp [*]; done) | (intro hh; exfalso; omega) | fail)
      try simp only [Act.put, List.setIfInBounds_toArray, List.set_cons_zero, List.set_cons_succ]
      rw [HAN.out] at hown3
      have HP3 := Lib.hid ((HPV.out.keep hHeld (by omega)).put2 (.slice A3 (k + 1) c3))
      have HOW := Lib.hid (own_put' (b := wA.heap.size) (i := 2) (u := .slice A3 (k + 1) c3) hown3 (by omega))
      have HS3 := Lib.hid ((HS.out.below hHeld).put (i := 2) (v := .slice A3 (k + 1) c3))
      obtain ⟨z0, z1, z2, zf0, zf1, zf2⟩ := HPV.out.keep hHeld (by omega)
      refine EndW.last (by kernel_rfl) rfl (by kernel_rfl) (fun K hK => ?_)
      go_simp
      refine hK.out _ _ ?_
      clear hK K hHeld hown3 hg3
      go_wp2
      go_roundw
      case rel => exact ⟨k + 1, by omega, by go_num, Lib.hid ⟨_, HP3.out, HOW.out⟩, HS3⟩
      case measure => simp [intOf]; omega
    · have e : k = ss.length := by omega
      subst e
      have hrbr : PB wr (w.heap.size + 1) (.slice none 0 0) (.slice none 0 0) (.slice none 0 0) := by
        obtain ⟨y0, y1, y2, yf0, yf1, yf2⟩ := hrb3
        have hbl := HS.out.block (w.heap.size + 1) (by omega) (by have := HZW.out; omega)
        exact ⟨HS.out.cell y0 (by omega) (by have := HZW.out; omega), HS.out.cell y1 (by omega) (by have := HZW.out; omega), HS.out.cell y2 (by omega) (by have := HZW.out; omega),
          (World.frozen?_of_block (a := ⟨w.heap.size + 1, 0, none⟩) hbl).trans yf0, (World.frozen?_of_block (a := ⟨w.heap.size + 1, 1, none⟩) hbl).trans yf1, (World.frozen?_of_block (a := ⟨w.heap.size + 1, 2, none⟩) hbl).trans yf2⟩
      obtain ⟨y0, y1, y2, yf0, yf1, yf2⟩ := hrbr
      have o1 := HS.out.own hOA3.out (by omega) (.inl (Nat.le_refl _))
      have o2 := HS.out.own hOB3.out (by omega) (.inr (by omega))
      have o3 : Own wr (w1.heap.size + 1) wr.heap.size Cv ss.length oc (ansK q ev ss cs ss.length) := Own.mk' HOV.out
      have hbw : Below w.heap.size w wr := below_of_save (belT hb0 hB3) HS.out (by omega) (by have := HZW.out; omega)
      have hzw2 := HZW.out
      have hnl : ¬ ((ss.length : Int) < (cs.length : Int)) := by have := HNE.out; omega
      have hnl2 : ¬ (ss.length < cs.length) := by have := HNE.out; omega
      have HF := Lib.hid (And.intro o1 (And.intro o2 (And.intro o3 hbw)))
      clear o1 o2 o3 hbw a0 a1 a2
      go_wp2
      refine bodyPost_ret (v := .agg #[.slice B1 bs.length k1, .slice (some ⟨w1.heap.size, 0, none⟩) 1 1, .slice Cv ss.length oc]) (by simp [results, Try.results148, go_sem, y0, y1, y2]) rfl ?_
      obtain ⟨o1, o2, o3, hbw⟩ := HF.out
      rw [HV.out]
      have q1 : Spared (w.heap.size + 1) (w.heap.size + 1 + 1) wr (((wr.setCell ⟨w.heap.size + 1, 0, none⟩ (.slice B1 bs.length k1)).setCell ⟨w.heap.size + 1, 1, none⟩ (.slice (some ⟨w1.heap.size, 0, none⟩) 1 1)).setCell ⟨w.heap.size + 1, 2, none⟩ (.slice Cv ss.length oc)) :=
        (spared_put'.trans spared_put').trans spared_put'
      exact prEndP HLC.out (ansK_len _ _ _ _ _) o1 o2 o3 q1 hzw2 hzA hz2 (by omega) hbw (by simp)
end Go.Proofs.Yteeggmnkcgpfjaa
