/- Contracts of both sides: WeightedProduct. -/
import Derived.Test.YtemhjhaokbgldaaMc
import Derived.Test.YtemhjhaokbgldaaRe
namespace Go.Proofs.Ytemhjhaokbgldaa
open Go.RowKit
set_option linter.unusedVariables false
attribute [local go_sem ↓] Go.wp_at_zero Go.wp_at_succ
set_option linter.unusedSimpArgs false

/-- the product of powers of the first ciphertexts -/
def wpK (p q : Int) (l : List (Int × Int)) (es : List Int) : Nat → Int × Int
  | 0 => (1, 1)
  | k + 1 => (mulK p [(wpK p q l es k).1, gpow p q (l.getD k (0, 0)).1 (es.getD k 0)] 2, mulK p [(wpK p q l es k).2, gpow p q (l.getD k (0, 0)).2 (es.getD k 0)] 2)
theorem wpK_bd {p q : Int} (l : List (Int × Int)) (es : List Int) (hp : 2 ≤ p) : ∀ k, (0 ≤ (wpK p q l es k).1 ∧ (wpK p q l es k).1 < p) ∧ 0 ≤ (wpK p q l es k).2 ∧ (wpK p q l es k).2 < p
  | 0 => by simp [wpK]; omega
  | k + 1 => ⟨mulK_bd _ hp 2, mulK_bd _ hp 2⟩

set_option maxRecDepth 100000 in
set_option maxHeartbeats 8000000 in
theorem weighted_any (p q g : Int) (A A' : Option Addr) (n c c' : Nat) (l : List (Int × Int)) (es : List Int) (w : World) (h : Cips w A n l) (h' : Ints w A' n es) (p1 : 2 ≤ p) (p2 : p ≤ 3000000000) (q1 : 1 ≤ q) (q2 : q ≤ 3000000000) (hs : SmallC p l) :
    Calls Try.prog 80 #[.agg #[.int .i64 p, .int .i64 q, .int .i64 g], .slice A n c, .slice A' n c'] w fun e w' => e = .returned (.agg #[.int .i64 (wpK p q l es n).1, .int .i64 (wpK p q l es n).2]) ∧ Below w.heap.size w w' := by
  have hl := h.len
  subst hl
  have HI := Lib.hid h
  have HE := Lib.hid h'
  have hn := h.le
  have HS := Lib.hid hs
  have HM := Lib.hid (MW.new w p q g 28 30)
  clear h hs h'
  go_enter Try.func80, Try.ntmps80
  go_wp2
  go_loopw [13] (fun i wr => ∃ k : Nat, k ≤ l.length ∧ i = .int .i64 k ∧ Hid (MW wr w.heap.size p q g (wpK p q l es k).1 (wpK p q l es k).2) ∧ Hid (Below w.heap.size w wr)) (fun i _ => l.length - (intOf i).toNat)
  case atStart => exact ⟨0, by omega, rfl, HM, Lib.hid (by repeat (first | exact Below.refl _ _ | assumption | refine belA ?_ | refine belD ?_ | refine belN ?_ | refine belS ?_ (by simp) | refine belT ?_ (by assumption)))⟩
  case round =>
    obtain ⟨k, hk, rfl, H1, H2⟩ := hrel
    by_cases hlt : k < l.length
    · obtain ⟨b, off, rfl, hb, hc, hc'⟩ := (HI.out.below H2.out).at_ hlt
      obtain ⟨b2, off2, rfl, hb2, hce⟩ := (HE.out.below H2.out).at_ hlt
      have hsm := HS.out k hlt
      have hbd := wpK_bd (p := p) (q := q) l es p1 k
      have e1 : wpK p q l es (k + 1) = (mulK p [(wpK p q l es k).1, gpow p q (l.getD k (0, 0)).1 (es.getD k 0)] 2, mulK p [(wpK p q l es k).2, gpow p q (l.getD k (0, 0)).2 (es.getD k 0)] 2) := rfl
      generalize l.getD k (0, 0) = cc at hc hc' hsm e1
      generalize es.getD k 0 = ex at hce e1
      generalize wpK p q l es k = st at H1 hbd e1
      obtain ⟨u, v⟩ := cc
      obtain ⟨x, y⟩ := st
      simp only at hc hc' e1
      obtain ⟨⟨u0, u1⟩, v0, v1⟩ := hsm
      obtain ⟨⟨x0, x1⟩, y0, y1⟩ := hbd
      simp only at u0 u1 v0 v1 x0 x1 y0 y1
      have hg1 := gpow_bd (p := p) (q := q) (x := u) (e := ex) (by omega)
      have hg2 := gpow_bd (p := p) (q := q) (x := v) (e := ex) (by omega)
      generalize hpu : gpow p q u ex = pu at hg1 e1
      generalize hpv : gpow p q v ex = pv at hg2 e1
      obtain ⟨r0, r1⟩ := hg1
      obtain ⟨s0, s1⟩ := hg2
      have HPU := Lib.hid hpu
      have HPV := Lib.hid hpv
      have E1 := Lib.hid e1
      have i1 : (0 : Int) ≤ (k : Int) := by omega
      have i2 : (k : Int) < (l.length : Int) := by omega
      clear e1 hpu hpv
      have hz2 := H1.out.lt
      go_wp2
      have HW := Lib.hid (H1.out.below (belA (o := .cells #[.int .i64 u, .int .i64 v] 30) (Below.refl _ _)))
      have HB := Lib.hid (belA (o := .cells #[.int .i64 u, .int .i64 v] 30) H2.out)
      have k6 : (wr.alloc (.cells #[.int .i64 u, .int .i64 v] 30)).cell? ⟨wr.heap.size, 0, none⟩ = some (.int .i64 u) := (by rw [World.cell?_alloc_at _ _ _ _ (by simp)]; rfl)
      have k7 : (wr.alloc (.cells #[.int .i64 u, .int .i64 v] 30)).cell? ⟨wr.heap.size, 1, none⟩ = some (.int .i64 v) := (by rw [World.cell?_alloc_at _ _ _ _ (by simp)]; rfl)
      have k8 : (wr.alloc (.cells #[.int .i64 u, .int .i64 v] 30)).cell? ⟨b2, off2 + k, none⟩ = some (.int .i64 ex) := keepB (belA (Below.refl _ _)) hce
      generalize hW0 : wr.alloc (.cells #[.int .i64 u, .int .i64 v] 30) = W0 at HW HB k6 k7 k8
      clear hW0 hc hc' hb hb2 hce H1 H2
      obtain ⟨m1, m2, m3, m4, m5, m6, m7, m8⟩ := HW.out
      have hlt2 := HW.out.lt
      have hz0 := World.block_lt_of_cell? _ _ k6
      simp only at hz0
      have hz1 : w.heap.size < W0.heap.size := by omega
      clear m4
      refine region_end 10 (S := (fun W => W.cell? ⟨w.heap.size, 0, none⟩ = some (.int .i64 p) ∧ W.cell? ⟨w.heap.size, 1, none⟩ = some (.int .i64 q) ∧ W.cell? ⟨w.heap.size, 2, none⟩ = some (.int .i64 g) ∧ W.cell? ⟨wr.heap.size, 0, none⟩ = some (.int .i64 u) ∧ W.cell? ⟨wr.heap.size, 1, none⟩ = some (.int .i64 v) ∧ W.cell? ⟨w.heap.size + 1 + 1, 0, none⟩ = some (.int .i64 x) ∧ W.cell? ⟨w.heap.size + 1 + 1, 1, none⟩ = some (.int .i64 y) ∧ W.cell? ⟨b2, off2 + k, none⟩ = some (.int .i64 ex))) (by kernel_rfl) (by kernel_rfl) ?_ (fun hE hHeld => ?_)
      · ((try dsimp only); (go_split_ands; (repeat' apply And.intro) <;> first | assumption | (refine keepB (belA (Below.refl _ _)) ?_; assumption) | (refine keepB hb1 ?_; assumption) | (refine keepS ?_ (keepS ?_ ?_) <;> first | assumption | (simp; done) | (simp; omega)) | (refine keepS ?_ ?_ <;> first | assumption | (simp; done) | (simp; omega)) | go_keep))
      refine EndW.take (i := 0) (v := ?_) (some 18) hE rfl rfl (by kernel_rfl) (by kernel_rfl) (by omega) (fun _ _ _ h => h) (Or.inl ⟨by rfl, ?_⟩) (by assumption) ?_
      rotate_left
      · (intro W hSw; (try dsimp only at hSw); go_simp; all_goals with_reducible rfl)
      try simp only [Act.put, List.setIfInBounds_toArray, List.set_cons_zero, List.set_cons_succ]
      refine EndW.take (i := 1) (v := ?_) (some 19) hE rfl rfl (by kernel_rfl) (by kernel_rfl) (by omega) (fun _ _ _ h => h) (Or.inl ⟨by rfl, ?_⟩) (by assumption) ?_
      rotate_left
      · (intro W hSw; (try dsimp only at hSw); go_simp; all_goals with_reducible rfl)
      try simp only [Act.put, List.setIfInBounds_toArray, List.set_cons_zero, List.set_cons_succ]
      refine EndW.take (i := 2) (v := ?_) (some 20) hE rfl rfl (by kernel_rfl) (by kernel_rfl) (by omega) (fun _ _ _ h => h) (Or.inl ⟨by rfl, ?_⟩) (by assumption) ?_
      rotate_left
      · (intro W hSw; (try dsimp only at hSw); go_simp; all_goals with_reducible rfl)
      try simp only [Act.put, List.setIfInBounds_toArray, List.set_cons_zero, List.set_cons_succ]
      refine EndW.take (i := 3) (v := ?_) (some 21) hE rfl rfl (by kernel_rfl) (by kernel_rfl) (by omega) (fun _ _ _ h => h) (Or.inl ⟨by rfl, ?_⟩) (by assumption) ?_
      rotate_left
      · (intro W hSw; (try dsimp only at hSw); go_simp; all_goals with_reducible rfl)
      try simp only [Act.put, List.setIfInBounds_toArray, List.set_cons_zero, List.set_cons_succ]
      refine EndW.take (i := 4) (v := ?_) (some 22) hE rfl rfl (by kernel_rfl) (by kernel_rfl) (by omega) (fun _ _ _ h => h) (Or.inl ⟨by rfl, ?_⟩) (by assumption) ?_
      rotate_left
      · (intro W hSw; (try dsimp only at hSw); go_simp; all_goals with_reducible rfl)
      try simp only [Act.put, List.setIfInBounds_toArray, List.set_cons_zero, List.set_cons_succ]
      refine EndW.take (i := 5) (v := ?_) (some 23) hE rfl rfl (by kernel_rfl) (by kernel_rfl) (by omega) (fun _ _ _ h => h) (Or.inl ⟨by rfl, ?_⟩) (by assumption) ?_
      rotate_left
      · (intro W hSw; (try dsimp only at hSw); go_simp; all_goals with_reducible rfl)
      try simp only [Act.put, List.setIfInBounds_toArray, List.set_cons_zero, List.set_cons_succ]
      refine EndW.take (i := 6) (v := ?_) (some 24) hE rfl rfl (by kernel_rfl) (by kernel_rfl) (by omega) (fun _ _ _ h => h) (Or.inl ⟨by rfl, ?_⟩) (by assumption) ?_
      rotate_left
      · (intro W hSw; (try dsimp only at hSw); go_simp; all_goals with_reducible rfl)
      try simp only [Act.put, List.setIfInBounds_toArray, List.set_cons_zero, List.set_cons_succ]
      refine EndW.take (i := 7) (v := ?_) (some 25) hE rfl rfl (by kernel_rfl) (by kernel_rfl) (by omega) (fun _ _ _ h => h) (Or.inl ⟨by rfl, ?_⟩) (by assumption) ?_
      rotate_left
      · (intro W hSw; (try dsimp only at hSw); go_simp; all_goals with_reducible rfl)
      try simp only [Act.put, List.setIfInBounds_toArray, List.set_cons_zero, List.set_cons_succ]
      refine EndW.one (i := 8) (by kernel_rfl) (by omega) ⟨_, rfl, fun K hK => ?_⟩
      go_simp
      go_at_call 109
      refine (powCipher_any p q g u v ex _ (by omega) (by omega) (by omega) (by omega) (by omega) (by omega) (by omega) (by omega)).mono ?_
      rintro e' w1 ⟨rfl, hb1⟩
      rw [HPU.out, HPV.out]
      refine hK.out _ _ ?_ (fun hNew => ?_)
      · ((try dsimp only); (go_split_ands; (repeat' apply And.intro) <;> first | assumption | (refine keepB (belA (Below.refl _ _)) ?_; assumption) | (refine keepB hb1 ?_; assumption) | (refine keepS ?_ (keepS ?_ ?_) <;> first | assumption | (simp; done) | (simp; omega)) | (refine keepS ?_ ?_ <;> first | assumption | (simp; done) | (simp; omega)) | go_keep))
      clear hK K hHeld
      have hHeld := hNew; clear hNew
      try simp only [Act.put, List.setIfInBounds_toArray, List.set_cons_zero, List.set_cons_succ]
      have hX1 : Below W0.heap.size W0 w1 := (by repeat (first | exact Below.refl _ _ | assumption | refine belA ?_ | refine belD ?_ | refine belN ?_ | refine belS ?_ (by simp <;> omega) | refine belT ?_ (by assumption)))
      clear hb1
      refine EndW.one (i := 9) (by kernel_rfl) (by omega) ⟨_, rfl, fun K hK => ?_⟩
      go_simp
      go_at_call 104
      refine (mulTwo_any p q g x y pu pv _ p1 p2 x0 x1 y0 y1 r0 r1 s0 s1).mono ?_
      rintro e' w2 ⟨rfl, hb1⟩
      have hX : Below W0.heap.size W0 w2 := by first | exact belT hX1 hb1 | exact belT (belA hX1) hb1 | exact belT (belD hX1) hb1
      have HN := Lib.hid (HW.out.below hX)
      obtain ⟨n1, n2, n3, n4, n5, n6, n7, n8⟩ := HN.out
      clear n1 n2 n3
      have hlt3 := HN.out.lt
      obtain ⟨nx, ny, nc0, nc1, nf0, nf1⟩ := n4.facts
      refine hK.out _ _ ?_ (fun hNew => ?_)
      · ((try dsimp only); (go_split_ands; (repeat' apply And.intro) <;> first | assumption | (refine keepB (belA (Below.refl _ _)) ?_; assumption) | (refine keepB hb1 ?_; assumption) | (refine keepS ?_ (keepS ?_ ?_) <;> first | assumption | (simp; done) | (simp; omega)) | (refine keepS ?_ ?_ <;> first | assumption | (simp; done) | (simp; omega)) | go_keep))
      clear hK K hHeld
      have hHeld := hNew; clear hNew
      try simp only [Act.put, List.setIfInBounds_toArray, List.set_cons_zero, List.set_cons_succ]
      refine EndW.last (by kernel_rfl) rfl (by kernel_rfl) (fun K hK => ?_)
      go_simp
      refine hK.out _ _ ?_
      clear hK K hHeld
      go_wp2
      go_roundw
      all_goals first | (simp [intOf]; omega; done) | exact ⟨k + 1, by omega, by go_num, Lib.hid (by rw [E1.out]; exact HN.out.put _ _), Lib.hid (belS (belS (belT HB.out hX) (by simp <;> omega)) (by simp <;> omega))⟩
    · have e : k = l.length := by omega
      subst e
      generalize hst : wpK p q l es l.length = st at H1
      have HT := Lib.hid hst
      clear hst
      obtain ⟨x, y⟩ := st
      obtain ⟨m1, m2, m3, m4, m5, m6, m7, m8⟩ := H1.out
      simp only at m5 m6
      obtain ⟨rx, ry, rc0, rc1, rf0, rf1⟩ := m4.facts
      go_wp2
      refine bodyPost_ret (v := .agg #[.int .i64 x, .int .i64 y]) (by simp [results, Try.results80, go_sem, rc0, rc1]) rfl ⟨by rw [HT.out], ?_⟩
      exact belS (belS H2.out (by simp)) (by simp)
set_option maxRecDepth 100000 in
set_option maxHeartbeats 8000000 in
theorem eProd_any (p q g : Int) (A A' : Option Addr) (n c c' : Nat) (l : List (Int × Int)) (es : List Int) (w : World) (h : Cips w A n l) (h' : Ints w A' n es) (p1 : 2 ≤ p) (p2 : p ≤ 3000000000) (q1 : 1 ≤ q) (q2 : q ≤ 3000000000) (hs : SmallC p l) :
    Calls Try.prog 79 #[.agg #[.int .i64 p, .int .i64 q, .int .i64 g], .slice A n c, .slice A' n c'] w fun e w' => e = .returned (.agg #[.int .i64 (wpK p q l es n).1, .int .i64 (wpK p q l es n).2]) ∧ Below w.heap.size w w' := by
  have hl := h.len
  subst hl
  have HI := Lib.hid h
  have HE := Lib.hid h'
  have hn := h.le
  have HS := Lib.hid hs
  have HM := Lib.hid (MW.new w p q g 28 30)
  clear h hs h'
  go_enter Try.func79, Try.ntmps79
  go_wp2
  go_loopw [13] (fun i wr => ∃ k : Nat, k ≤ l.length ∧ i = .int .i64 k ∧ Hid (MW wr w.heap.size p q g (wpK p q l es k).1 (wpK p q l es k).2) ∧ Hid (Below w.heap.size w wr)) (fun i _ => l.length - (intOf i).toNat)
  case atStart => exact ⟨0, by omega, rfl, HM, Lib.hid (by repeat (first | exact Below.refl _ _ | assumption | refine belA ?_ | refine belD ?_ | refine belN ?_ | refine belS ?_ (by simp) | refine belT ?_ (by assumption)))⟩
  case round =>
    obtain ⟨k, hk, rfl, H1, H2⟩ := hrel
    by_cases hlt : k < l.length
    · obtain ⟨b, off, rfl, hb, hc, hc'⟩ := (HI.out.below H2.out).at_ hlt
      obtain ⟨b2, off2, rfl, hb2, hce⟩ := (HE.out.below H2.out).at_ hlt
      have hsm := HS.out k hlt
      have hbd := wpK_bd (p := p) (q := q) l es p1 k
      have e1 : wpK p q l es (k + 1) = (mulK p [(wpK p q l es k).1, gpow p q (l.getD k (0, 0)).1 (es.getD k 0)] 2, mulK p [(wpK p q l es k).2, gpow p q (l.getD k (0, 0)).2 (es.getD k 0)] 2) := rfl
      generalize l.getD k (0, 0) = cc at hc hc' hsm e1
      generalize es.getD k 0 = ex at hce e1
      generalize wpK p q l es k = st at H1 hbd e1
      obtain ⟨u, v⟩ := cc
      obtain ⟨x, y⟩ := st
      simp only at hc hc' e1
      obtain ⟨⟨u0, u1⟩, v0, v1⟩ := hsm
      obtain ⟨⟨x0, x1⟩, y0, y1⟩ := hbd
      simp only at u0 u1 v0 v1 x0 x1 y0 y1
      have hg1 := gpow_bd (p := p) (q := q) (x := u) (e := ex) (by omega)
      have hg2 := gpow_bd (p := p) (q := q) (x := v) (e := ex) (by omega)
      generalize hpu : gpow p q u ex = pu at hg1 e1
      generalize hpv : gpow p q v ex = pv at hg2 e1
      obtain ⟨r0, r1⟩ := hg1
      obtain ⟨s0, s1⟩ := hg2
      have HPU := Lib.hid hpu
      have HPV := Lib.hid hpv
      have E1 := Lib.hid e1
      have i1 : (0 : Int) ≤ (k : Int) := by omega
      have i2 : (k : Int) < (l.length : Int) := by omega
      clear e1 hpu hpv
      have hz2 := H1.out.lt
      go_wp2
      have HW := Lib.hid (H1.out.below (belA (o := .cells #[.int .i64 u, .int .i64 v] 30) (Below.refl _ _)))
      have HB := Lib.hid (belA (o := .cells #[.int .i64 u, .int .i64 v] 30) H2.out)
      have k6 : (wr.alloc (.cells #[.int .i64 u, .int .i64 v] 30)).cell? ⟨wr.heap.size, 0, none⟩ = some (.int .i64 u) := (by rw [World.cell?_alloc_at _ _ _ _ (by simp)]; rfl)
      have k7 : (wr.alloc (.cells #[.int .i64 u, .int .i64 v] 30)).cell? ⟨wr.heap.size, 1, none⟩ = some (.int .i64 v) := (by rw [World.cell?_alloc_at _ _ _ _ (by simp)]; rfl)
      have k8 : (wr.alloc (.cells #[.int .i64 u, .int .i64 v] 30)).cell? ⟨b2, off2 + k, none⟩ = some (.int .i64 ex) := keepB (belA (Below.refl _ _)) hce
      generalize hW0 : wr.alloc (.cells #[.int .i64 u, .int .i64 v] 30) = W0 at HW HB k6 k7 k8
      clear hW0 hc hc' hb hb2 hce H1 H2
      obtain ⟨m1, m2, m3, m4, m5, m6, m7, m8⟩ := HW.out
      have hlt2 := HW.out.lt
      have hz0 := World.block_lt_of_cell? _ _ k6
      simp only at hz0
      have hz1 : w.heap.size < W0.heap.size := by omega
      clear m4
      refine region_end 11 (S := (fun W => W.cell? ⟨w.heap.size, 0, none⟩ = some (.int .i64 p) ∧ W.cell? ⟨w.heap.size, 1, none⟩ = some (.int .i64 q) ∧ W.cell? ⟨w.heap.size, 2, none⟩ = some (.int .i64 g) ∧ W.cell? ⟨wr.heap.size, 0, none⟩ = some (.int .i64 u) ∧ W.cell? ⟨wr.heap.size, 1, none⟩ = some (.int .i64 v) ∧ W.cell? ⟨w.heap.size + 1 + 1, 0, none⟩ = some (.int .i64 x) ∧ W.cell? ⟨w.heap.size + 1 + 1, 1, none⟩ = some (.int .i64 y) ∧ W.cell? ⟨b2, off2 + k, none⟩ = some (.int .i64 ex))) (by kernel_rfl) (by kernel_rfl) ?_ (fun hE hHeld => ?_)
      · ((try dsimp only); (go_split_ands; (repeat' apply And.intro) <;> first | assumption | (refine keepB (belA (Below.refl _ _)) ?_; assumption) | (refine keepB hb1 ?_; assumption) | (refine keepS ?_ (keepS ?_ ?_) <;> first | assumption | (simp; done) | (simp; omega)) | (refine keepS ?_ ?_ <;> first | assumption | (simp; done) | (simp; omega)) | go_keep))
      refine EndW.take (i := 0) (v := ?_) (some 18) hE rfl rfl (by kernel_rfl) (by kernel_rfl) (by omega) (fun _ _ _ h => h) (Or.inl ⟨by rfl, ?_⟩) (by assumption) ?_
      rotate_left
      · (intro W hSw; (try dsimp only at hSw); go_simp; all_goals with_reducible rfl)
      try simp only [Act.put, List.setIfInBounds_toArray, List.set_cons_zero, List.set_cons_succ]
      refine EndW.take (i := 1) (v := ?_) (some 19) hE rfl rfl (by kernel_rfl) (by kernel_rfl) (by omega) (fun _ _ _ h => h) (Or.inl ⟨by rfl, ?_⟩) (by assumption) ?_
      rotate_left
      · (intro W hSw; (try dsimp only at hSw); go_simp; all_goals with_reducible rfl)
      try simp only [Act.put, List.setIfInBounds_toArray, List.set_cons_zero, List.set_cons_succ]
      refine EndW.take (i := 2) (v := ?_) (some 20) hE rfl rfl (by kernel_rfl) (by kernel_rfl) (by omega) (fun _ _ _ h => h) (Or.inl ⟨by rfl, ?_⟩) (by assumption) ?_
      rotate_left
      · (intro W hSw; (try dsimp only at hSw); go_simp; all_goals with_reducible rfl)
      try simp only [Act.put, List.setIfInBounds_toArray, List.set_cons_zero, List.set_cons_succ]
      refine EndW.take (i := 3) (v := ?_) (some 21) hE rfl rfl (by kernel_rfl) (by kernel_rfl) (by omega) (fun _ _ _ h => h) (Or.inl ⟨by rfl, ?_⟩) (by assumption) ?_
      rotate_left
      · (intro W hSw; (try dsimp only at hSw); go_simp; all_goals with_reducible rfl)
      try simp only [Act.put, List.setIfInBounds_toArray, List.set_cons_zero, List.set_cons_succ]
      refine EndW.take (i := 4) (v := ?_) (some 22) hE rfl rfl (by kernel_rfl) (by kernel_rfl) (by omega) (fun _ _ _ h => h) (Or.inl ⟨by rfl, ?_⟩) (by assumption) ?_
      rotate_left
      · (intro W hSw; (try dsimp only at hSw); go_simp; all_goals with_reducible rfl)
      try simp only [Act.put, List.setIfInBounds_toArray, List.set_cons_zero, List.set_cons_succ]
      refine EndW.take (i := 5) (v := ?_) (some 23) hE rfl rfl (by kernel_rfl) (by kernel_rfl) (by omega) (fun _ _ _ h => h) (Or.inl ⟨by rfl, ?_⟩) (by assumption) ?_
      rotate_left
      · (intro W hSw; (try dsimp only at hSw); go_simp; all_goals with_reducible rfl)
      try simp only [Act.put, List.setIfInBounds_toArray, List.set_cons_zero, List.set_cons_succ]
      refine EndW.take (i := 6) (v := ?_) (some 24) hE rfl rfl (by kernel_rfl) (by kernel_rfl) (by omega) (fun _ _ _ h => h) (Or.inl ⟨by rfl, ?_⟩) (by assumption) ?_
      rotate_left
      · (intro W hSw; (try dsimp only at hSw); go_simp; all_goals with_reducible rfl)
      try simp only [Act.put, List.setIfInBounds_toArray, List.set_cons_zero, List.set_cons_succ]
      refine EndW.take (i := 7) (v := ?_) (some 25) hE rfl rfl (by kernel_rfl) (by kernel_rfl) (by omega) (fun _ _ _ h => h) (Or.inl ⟨by rfl, ?_⟩) (by assumption) ?_
      rotate_left
      · (intro W hSw; (try dsimp only at hSw); go_simp; all_goals with_reducible rfl)
      try simp only [Act.put, List.setIfInBounds_toArray, List.set_cons_zero, List.set_cons_succ]
      refine EndW.one (i := 8) (by kernel_rfl) (by omega) ⟨_, rfl, fun K hK => ?_⟩
      go_simp
      go_at_call 108
      refine (ePow_any p q g u v ex _ (by omega) (by omega) (by omega) (by omega) (by omega) (by omega) (by omega) (by omega)).mono ?_
      rintro e' w1 ⟨rfl, hb1⟩
      rw [HPU.out, HPV.out]
      refine hK.out _ _ ?_ (fun hNew => ?_)
      · ((try dsimp only); (go_split_ands; (repeat' apply And.intro) <;> first | assumption | (refine keepB (belA (Below.refl _ _)) ?_; assumption) | (refine keepB hb1 ?_; assumption) | (refine keepS ?_ (keepS ?_ ?_) <;> first | assumption | (simp; done) | (simp; omega)) | (refine keepS ?_ ?_ <;> first | assumption | (simp; done) | (simp; omega)) | go_keep))
      clear hK K hHeld
      have hHeld := hNew; clear hNew
      try simp only [Act.put, List.setIfInBounds_toArray, List.set_cons_zero, List.set_cons_succ]
      have hX1 : Below W0.heap.size W0 w1 := (by repeat (first | exact Below.refl _ _ | assumption | refine belA ?_ | refine belD ?_ | refine belN ?_ | refine belS ?_ (by simp <;> omega) | refine belT ?_ (by assumption)))
      clear hb1
      refine EndW.one (i := 9) (by kernel_rfl) (by omega) ⟨_, rfl, fun K hK => ?_⟩
      go_simp
      refine hK.out _ _ ?_ (fun hNew => ?_)
      · ((try dsimp only); (go_split_ands; (repeat' apply And.intro) <;> first | assumption | (refine keepB (belA (Below.refl _ _)) ?_; assumption) | (refine keepB hb1 ?_; assumption) | (refine keepS ?_ (keepS ?_ ?_) <;> first | assumption | (simp; done) | (simp; omega)) | (refine keepS ?_ ?_ <;> first | assumption | (simp; done) | (simp; omega)) | go_keep))
      clear hK K hHeld
      have hHeld := hNew; clear hNew
      try simp only [Act.put, List.setIfInBounds_toArray, List.set_cons_zero, List.set_cons_succ]
      refine EndW.one (i := 10) (by kernel_rfl) (by omega) ⟨_, rfl, fun K hK => ?_⟩
      go_simp
      go_at_call 76
      refine (eMul_any p q g _ 2 2 [(x, y), (pu, pv)] _ (Cips.two ?_ ?_ ?_ ?_) p1 p2 (smallC_two x0 x1 y0 y1 r0 r1 s0 s1)).mono ?_
      focus (first | (simp [go_sem]; done) | (simp [go_sem, hc1]; done))
      focus (first | (simp [go_sem]; done) | (simp [go_sem, hc1]; done))
      focus (first | (simp [go_sem]; done) | (simp [go_sem, hc1]; done))
      focus (first | (simp [go_sem]; done) | (simp [go_sem, hc1]; done))
      rintro e' w2 ⟨rfl, hb1⟩
      rw [mulCK_two p1 x0 x1 y0 y1]
      have hX : Below W0.heap.size W0 w2 := by first | exact belT hX1 hb1 | exact belT (belA hX1) hb1 | exact belT (belD hX1) hb1
      have HN := Lib.hid (HW.out.below hX)
      obtain ⟨n1, n2, n3, n4, n5, n6, n7, n8⟩ := HN.out
      clear n1 n2 n3
      have hlt3 := HN.out.lt
      obtain ⟨nx, ny, nc0, nc1, nf0, nf1⟩ := n4.facts
      refine hK.out _ _ ?_ (fun hNew => ?_)
      · ((try dsimp only); (go_split_ands; (repeat' apply And.intro) <;> first | assumption | (refine keepB (belA (Below.refl _ _)) ?_; assumption) | (refine keepB hb1 ?_; assumption) | (refine keepS ?_ (keepS ?_ ?_) <;> first | assumption | (simp; done) | (simp; omega)) | (refine keepS ?_ ?_ <;> first | assumption | (simp; done) | (simp; omega)) | go_keep))
      clear hK K hHeld
      have hHeld := hNew; clear hNew
      try simp only [Act.put, List.setIfInBounds_toArray, List.set_cons_zero, List.set_cons_succ]
      refine EndW.last (by kernel_rfl) rfl (by kernel_rfl) (fun K hK => ?_)
      go_simp
      refine hK.out _ _ ?_
      clear hK K hHeld
      go_wp2
      go_roundw
      all_goals first | (simp [intOf]; omega; done) | exact ⟨k + 1, by omega, by go_num, Lib.hid (by rw [E1.out]; exact HN.out.put _ _), Lib.hid (belS (belS (belT HB.out hX) (by simp <;> omega)) (by simp <;> omega))⟩
    · have e : k = l.length := by omega
      subst e
      generalize hst : wpK p q l es l.length = st at H1
      have HT := Lib.hid hst
      clear hst
      obtain ⟨x, y⟩ := st
      obtain ⟨m1, m2, m3, m4, m5, m6, m7, m8⟩ := H1.out
      simp only at m5 m6
      obtain ⟨rx, ry, rc0, rc1, rf0, rf1⟩ := m4.facts
      go_wp2
      refine bodyPost_ret (v := .agg #[.int .i64 x, .int .i64 y]) (by simp [results, Try.results79, go_sem, rc0, rc1]) rfl ⟨by rw [HT.out], ?_⟩
      exact belS (belS H2.out (by simp)) (by simp)

def expsB (q : Int) (es : List Int) : Bool := es.all fun z => inB z 0 (q - 1)
def wtM (p q g : Int) (n m : Nat) (l : List (Int × Int)) (es : List Int) : (Int × Int) × Bool := if goodB p q g && allC p q n l && (m == n) && expsB q es then (wpK p q l es n, true) else ((0, 0), false)
set_option maxHeartbeats 1600000 in
theorem sWeightedProduct_any (p q g : Int) (A : Option Addr) (n c : Nat) (l : List (Int × Int)) (A' : Option Addr) (m c' : Nat) (es : List Int) (w : World) (h : Cips w A n l) (h' : Ints w A' m es) :
    Calls Try.prog 35 #[.agg #[.int .i64 p, .int .i64 q, .int .i64 g], .slice A n c, .slice A' m c'] w fun e' w' => e' = .returned (.tuple #[.agg #[.int .i64 (wtM p q g n m l es).1.1, .int .i64 (wtM p q g n m l es).1.2], .bool (wtM p q g n m l es).2]) ∧ Below w.heap.size w w' := by
  have HI := Lib.hid h
  have HE := Lib.hid h'
  have hn1 := h.le
  have hn2 := h'.le
  clear h h'
  by_cases hnm : m = n
  · subst hnm
    have hd0 : ((m : Int) != (m : Int)) = false := by simp
    go_enter Try.func35, Try.ntmps35
    go_wp2_with fail
    refine (l2Good_any p q g _).mono ?_
    rintro e w1_ ⟨rfl, hb1⟩
    have hW := hb1
    obtain ⟨hc, hf⟩ := bcell hW
    cases q1 : goodB p q g
    · go_wp2
      refine bodyPost_ret (v := .tuple #[.agg #[.int .i64 0, .int .i64 0], .bool false]) (by simp [results, Try.results35, go_sem, hc]) rfl ⟨ret_cb (by simp [wtM, q1]), ?_⟩
      exact (by repeat (first | refine belS ?_ (by simp <;> omega) | exact belT (by repeat (first | exact Below.refl _ _ | assumption | refine belA ?_ | refine belD ?_ | refine belN ?_ | refine belS ?_ (by simp) | refine belT ?_ (by assumption))) hW))
    obtain ⟨g1, g2, g3, g4, g5, g6⟩ := good_om q1
    go_wp2_with fail
    refine (eGood_any p q g A m c l _ (HI.out.below (belT (by repeat (first | exact Below.refl _ _ | assumption | refine belA ?_ | refine belD ?_ | refine belN ?_ | refine belS ?_ (by simp) | refine belT ?_ (by assumption))) hW)) g1 g2 g3 g4).mono ?_
    rintro e w2_ ⟨rfl, hb2⟩
    clear hc hf
    replace hW := belT hW hb2
    obtain ⟨hc, hf⟩ := bcell hW
    rw [show (decide (m ≤ 24) && l.all (hasC p q)) = allC p q m l from rfl]
    cases q2 : allC p q m l
    · go_wp2
      refine bodyPost_ret (v := .tuple #[.agg #[.int .i64 0, .int .i64 0], .bool false]) (by simp [results, Try.results35, go_sem, hc]) rfl ⟨ret_cb (by simp [wtM, q2]), ?_⟩
      exact (by repeat (first | refine belS ?_ (by simp <;> omega) | exact belT (by repeat (first | exact Below.refl _ _ | assumption | refine belA ?_ | refine belD ?_ | refine belN ?_ | refine belS ?_ (by simp) | refine belT ?_ (by assumption))) hW))
    have hs := allC_small q2
    go_wp2_with fail
    refine (gExps_any p q g A' m c' es _ (HE.out.below (belT (by repeat (first | exact Below.refl _ _ | assumption | refine belA ?_ | refine belD ?_ | refine belN ?_ | refine belS ?_ (by simp) | refine belT ?_ (by assumption))) hW)) (by omega) (by omega)).mono ?_
    rintro e w3_ ⟨rfl, hb3⟩
    clear hc hf
    replace hW := belT hW hb3
    obtain ⟨hc, hf⟩ := bcell hW
    rw [show (es.all fun z => inB z 0 (q - 1)) = expsB q es from rfl]
    cases q3 : expsB q es
    · go_wp2
      refine bodyPost_ret (v := .tuple #[.agg #[.int .i64 0, .int .i64 0], .bool false]) (by simp [results, Try.results35, go_sem, hc]) rfl ⟨ret_cb (by simp [wtM, q3]), ?_⟩
      exact (by repeat (first | refine belS ?_ (by simp <;> omega) | exact belT (by repeat (first | exact Below.refl _ _ | assumption | refine belA ?_ | refine belD ?_ | refine belN ?_ | refine belS ?_ (by simp) | refine belT ?_ (by assumption))) hW))
    go_wp2_with fail
    refine (eProd_any p q g A A' m c c' l es _ (HI.out.below (belT (by repeat (first | exact Below.refl _ _ | assumption | refine belA ?_ | refine belD ?_ | refine belN ?_ | refine belS ?_ (by simp) | refine belT ?_ (by assumption))) hW)) (HE.out.below (belT (by repeat (first | exact Below.refl _ _ | assumption | refine belA ?_ | refine belD ?_ | refine belN ?_ | refine belS ?_ (by simp) | refine belT ?_ (by assumption))) hW)) (by omega) (by omega) (by omega) (by omega) hs).mono ?_
    rintro e w4_ ⟨rfl, hb4⟩
    clear hc hf
    replace hW := belT hW hb4
    obtain ⟨hc, hf⟩ := bcell hW
    go_wp2
    refine bodyPost_ret (v := .tuple #[.agg #[.int .i64 (wpK p q l es m).1, .int .i64 (wpK p q l es m).2], .bool true]) (by simp [results, Try.results35, go_sem, hc]) rfl ⟨ret_cb (by simp [wtM, q1, q2, q3]), ?_⟩
    exact (by repeat (first | refine belS ?_ (by simp <;> omega) | exact belT (by repeat (first | exact Below.refl _ _ | assumption | refine belA ?_ | refine belD ?_ | refine belN ?_ | refine belS ?_ (by simp) | refine belT ?_ (by assumption))) hW))
  · have hd0 : ((m : Int) != (n : Int)) = true := by simp; omega
    have hd1 : (m == n) = false := by simp [hnm]
    have HD := Lib.hid hd1
    clear hd1
    go_enter Try.func35, Try.ntmps35
    go_wp2_with fail
    refine (l2Good_any p q g _).mono ?_
    rintro e w1_ ⟨rfl, hb1⟩
    have hW := hb1
    obtain ⟨hc, hf⟩ := bcell hW
    cases q1 : goodB p q g
    · go_wp2
      refine bodyPost_ret (v := .tuple #[.agg #[.int .i64 0, .int .i64 0], .bool false]) (by simp [results, Try.results35, go_sem, hc]) rfl ⟨ret_cb (by simp [wtM, q1]), ?_⟩
      exact (by repeat (first | refine belS ?_ (by simp <;> omega) | exact belT (by repeat (first | exact Below.refl _ _ | assumption | refine belA ?_ | refine belD ?_ | refine belN ?_ | refine belS ?_ (by simp) | refine belT ?_ (by assumption))) hW))
    obtain ⟨g1, g2, g3, g4, g5, g6⟩ := good_om q1
    go_wp2_with fail
    refine (eGood_any p q g A n c l _ (HI.out.below (belT (by repeat (first | exact Below.refl _ _ | assumption | refine belA ?_ | refine belD ?_ | refine belN ?_ | refine belS ?_ (by simp) | refine belT ?_ (by assumption))) hW)) g1 g2 g3 g4).mono ?_
    rintro e w2_ ⟨rfl, hb2⟩
    clear hc hf
    replace hW := belT hW hb2
    obtain ⟨hc, hf⟩ := bcell hW
    rw [show (decide (n ≤ 24) && l.all (hasC p q)) = allC p q n l from rfl]
    cases q2 : allC p q n l
    · go_wp2
      refine bodyPost_ret (v := .tuple #[.agg #[.int .i64 0, .int .i64 0], .bool false]) (by simp [results, Try.results35, go_sem, hc]) rfl ⟨ret_cb (by simp [wtM, q2]), ?_⟩
      exact (by repeat (first | refine belS ?_ (by simp <;> omega) | exact belT (by repeat (first | exact Below.refl _ _ | assumption | refine belA ?_ | refine belD ?_ | refine belN ?_ | refine belS ?_ (by simp) | refine belT ?_ (by assumption))) hW))
    go_wp2
    refine bodyPost_ret (v := .tuple #[.agg #[.int .i64 0, .int .i64 0], .bool false]) (by simp [results, Try.results35, go_sem, hc]) rfl ⟨ret_cb (by simp [wtM, HD.out]), ?_⟩
    exact (by repeat (first | refine belS ?_ (by simp <;> omega) | exact belT (by repeat (first | exact Below.refl _ _ | assumption | refine belA ?_ | refine belD ?_ | refine belN ?_ | refine belS ?_ (by simp) | refine belT ?_ (by assumption))) hW))
set_option maxHeartbeats 1600000 in
theorem iWeightedProduct_any (p q g : Int) (A : Option Addr) (n c : Nat) (l : List (Int × Int)) (A' : Option Addr) (m c' : Nat) (es : List Int) (w : World) (h : Cips w A n l) (h' : Ints w A' m es) :
    Calls Try.prog 37 #[.agg #[.int .i64 p, .int .i64 q, .int .i64 g], .slice A n c, .slice A' m c'] w fun e' w' => e' = .returned (.tuple #[.agg #[.int .i64 (wtM p q g n m l es).1.1, .int .i64 (wtM p q g n m l es).1.2], .bool (wtM p q g n m l es).2]) ∧ Below w.heap.size w w' := by
  have HI := Lib.hid h
  have HE := Lib.hid h'
  have hn1 := h.le
  have hn2 := h'.le
  clear h h'
  by_cases hnm : m = n
  · subst hnm
    have hd0 : ((m : Int) != (m : Int)) = false := by simp
    go_enter Try.func37, Try.ntmps37
    go_wp2_with fail
    refine (IsValidGroup_any p q g _).mono ?_
    rintro e w1_ ⟨rfl, hb1⟩
    have hW := hb1
    obtain ⟨hc, hf⟩ := bcell hW
    cases q1 : goodB p q g
    · go_wp2
      refine bodyPost_ret (v := .tuple #[.agg #[.int .i64 0, .int .i64 0], .bool false]) (by simp [results, Try.results37, go_sem, hc]) rfl ⟨ret_cb (by simp [wtM, q1]), ?_⟩
      exact (by repeat (first | refine belS ?_ (by simp <;> omega) | exact belT (by repeat (first | exact Below.refl _ _ | assumption | refine belA ?_ | refine belD ?_ | refine belN ?_ | refine belS ?_ (by simp) | refine belT ?_ (by assumption))) hW))
    obtain ⟨g1, g2, g3, g4, g5, g6⟩ := good_om q1
    go_wp2_with fail
    refine (hasCiphers_any p q g A m c l _ (HI.out.below (belT (by repeat (first | exact Below.refl _ _ | assumption | refine belA ?_ | refine belD ?_ | refine belN ?_ | refine belS ?_ (by simp) | refine belT ?_ (by assumption))) hW)) g1 g2 g3 g4).mono ?_
    rintro e w2_ ⟨rfl, hb2⟩
    clear hc hf
    replace hW := belT hW hb2
    obtain ⟨hc, hf⟩ := bcell hW
    rw [show (decide (m ≤ 24) && l.all (hasC p q)) = allC p q m l from rfl]
    cases q2 : allC p q m l
    · go_wp2
      refine bodyPost_ret (v := .tuple #[.agg #[.int .i64 0, .int .i64 0], .bool false]) (by simp [results, Try.results37, go_sem, hc]) rfl ⟨ret_cb (by simp [wtM, q2]), ?_⟩
      exact (by repeat (first | refine belS ?_ (by simp <;> omega) | exact belT (by repeat (first | exact Below.refl _ _ | assumption | refine belA ?_ | refine belD ?_ | refine belN ?_ | refine belS ?_ (by simp) | refine belT ?_ (by assumption))) hW))
    have hs := allC_small q2
    go_wp2_with fail
    refine (areExps_any p q g A' m c' es _ (HE.out.below (belT (by repeat (first | exact Below.refl _ _ | assumption | refine belA ?_ | refine belD ?_ | refine belN ?_ | refine belS ?_ (by simp) | refine belT ?_ (by assumption))) hW)) (by omega) (by omega)).mono ?_
    rintro e w3_ ⟨rfl, hb3⟩
    clear hc hf
    replace hW := belT hW hb3
    obtain ⟨hc, hf⟩ := bcell hW
    rw [show (es.all fun z => inB z 0 (q - 1)) = expsB q es from rfl]
    cases q3 : expsB q es
    · go_wp2
      refine bodyPost_ret (v := .tuple #[.agg #[.int .i64 0, .int .i64 0], .bool false]) (by simp [results, Try.results37, go_sem, hc]) rfl ⟨ret_cb (by simp [wtM, q3]), ?_⟩
      exact (by repeat (first | refine belS ?_ (by simp <;> omega) | exact belT (by repeat (first | exact Below.refl _ _ | assumption | refine belA ?_ | refine belD ?_ | refine belN ?_ | refine belS ?_ (by simp) | refine belT ?_ (by assumption))) hW))
    go_wp2_with fail
    refine (weighted_any p q g A A' m c c' l es _ (HI.out.below (belT (by repeat (first | exact Below.refl _ _ | assumption | refine belA ?_ | refine belD ?_ | refine belN ?_ | refine belS ?_ (by simp) | refine belT ?_ (by assumption))) hW)) (HE.out.below (belT (by repeat (first | exact Below.refl _ _ | assumption | refine belA ?_ | refine belD ?_ | refine belN ?_ | refine belS ?_ (by simp) | refine belT ?_ (by assumption))) hW)) (by omega) (by omega) (by omega) (by omega) hs).mono ?_
    rintro e w4_ ⟨rfl, hb4⟩
    clear hc hf
    replace hW := belT hW hb4
    obtain ⟨hc, hf⟩ := bcell hW
    go_wp2
    refine bodyPost_ret (v := .tuple #[.agg #[.int .i64 (wpK p q l es m).1, .int .i64 (wpK p q l es m).2], .bool true]) (by simp [results, Try.results37, go_sem, hc]) rfl ⟨ret_cb (by simp [wtM, q1, q2, q3]), ?_⟩
    exact (by repeat (first | refine belS ?_ (by simp <;> omega) | exact belT (by repeat (first | exact Below.refl _ _ | assumption | refine belA ?_ | refine belD ?_ | refine belN ?_ | refine belS ?_ (by simp) | refine belT ?_ (by assumption))) hW))
  · have hd0 : ((m : Int) != (n : Int)) = true := by simp; omega
    have hd1 : (m == n) = false := by simp [hnm]
    have HD := Lib.hid hd1
    clear hd1
    go_enter Try.func37, Try.ntmps37
    go_wp2_with fail
    refine (IsValidGroup_any p q g _).mono ?_
    rintro e w1_ ⟨rfl, hb1⟩
    have hW := hb1
    obtain ⟨hc, hf⟩ := bcell hW
    cases q1 : goodB p q g
    · go_wp2
      refine bodyPost_ret (v := .tuple #[.agg #[.int .i64 0, .int .i64 0], .bool false]) (by simp [results, Try.results37, go_sem, hc]) rfl ⟨ret_cb (by simp [wtM, q1]), ?_⟩
      exact (by repeat (first | refine belS ?_ (by simp <;> omega) | exact belT (by repeat (first | exact Below.refl _ _ | assumption | refine belA ?_ | refine belD ?_ | refine belN ?_ | refine belS ?_ (by simp) | refine belT ?_ (by assumption))) hW))
    obtain ⟨g1, g2, g3, g4, g5, g6⟩ := good_om q1
    go_wp2_with fail
    refine (hasCiphers_any p q g A n c l _ (HI.out.below (belT (by repeat (first | exact Below.refl _ _ | assumption | refine belA ?_ | refine belD ?_ | refine belN ?_ | refine belS ?_ (by simp) | refine belT ?_ (by assumption))) hW)) g1 g2 g3 g4).mono ?_
    rintro e w2_ ⟨rfl, hb2⟩
    clear hc hf
    replace hW := belT hW hb2
    obtain ⟨hc, hf⟩ := bcell hW
    rw [show (decide (n ≤ 24) && l.all (hasC p q)) = allC p q n l from rfl]
    cases q2 : allC p q n l
    · go_wp2
      refine bodyPost_ret (v := .tuple #[.agg #[.int .i64 0, .int .i64 0], .bool false]) (by simp [results, Try.results37, go_sem, hc]) rfl ⟨ret_cb (by simp [wtM, q2]), ?_⟩
      exact (by repeat (first | refine belS ?_ (by simp <;> omega) | exact belT (by repeat (first | exact Below.refl _ _ | assumption | refine belA ?_ | refine belD ?_ | refine belN ?_ | refine belS ?_ (by simp) | refine belT ?_ (by assumption))) hW))
    go_wp2
    refine bodyPost_ret (v := .tuple #[.agg #[.int .i64 0, .int .i64 0], .bool false]) (by simp [results, Try.results37, go_sem, hc]) rfl ⟨ret_cb (by simp [wtM, HD.out]), ?_⟩
    exact (by repeat (first | refine belS ?_ (by simp <;> omega) | exact belT (by repeat (first | exact Below.refl _ _ | assumption | refine belA ?_ | refine belD ?_ | refine belN ?_ | refine belS ?_ (by simp) | refine belT ?_ (by assumption))) hW))
end Go.Proofs.Ytemhjhaokbgldaa
