/- Contracts: the reference's product of many ciphertexts. -/
import Derived.Test.YtemhjhaokbgldaaTl
namespace Go.Proofs.Ytemhjhaokbgldaa
open Go.RowKit
set_option linter.unusedVariables false
attribute [local go_sem ↓] Go.wp_at_zero Go.wp_at_succ
set_option linter.unusedSimpArgs false

set_option maxRecDepth 100000 in
set_option maxHeartbeats 60000000 in
theorem eMul_any (p q g : Int) (A : Option Addr) (n c : Nat) (l : List (Int × Int)) (w : World) (h : Cips w A n l) (p1 : 2 ≤ p) (p2 : p ≤ 3000000000) (hs : SmallC p l) :
    Calls Try.prog 76 #[.agg #[.int .i64 p, .int .i64 q, .int .i64 g], .slice A n c] w fun e w' => e = .returned (.agg #[.int .i64 (mulCK p l n).1, .int .i64 (mulCK p l n).2]) ∧ Below w.heap.size w w' := by
  have hl := h.len
  subst hl
  have HI := Lib.hid h
  have hn := h.le
  have HS := Lib.hid hs
  have HM := Lib.hid (MW.new w p q g 28 30)
  clear h hs
  go_enter Try.func76, Try.ntmps76
  go_wp2
  go_loopw [11] (fun i wr => ∃ k : Nat, k ≤ l.length ∧ i = .int .i64 k ∧ Hid (MW wr w.heap.size p q g (mulCK p l k).1 (mulCK p l k).2) ∧ Hid (Below w.heap.size w wr)) (fun i _ => l.length - (intOf i).toNat)
  case atStart => exact ⟨0, by omega, rfl, HM, Lib.hid (by repeat (first | exact Below.refl _ _ | assumption | refine belA ?_ | refine belD ?_ | refine belN ?_ | refine belS ?_ (by simp) | refine belT ?_ (by assumption)))⟩
  case round =>
    obtain ⟨k, hk, rfl, H1, H2⟩ := hrel
    by_cases hlt : k < l.length
    · obtain ⟨b, off, rfl, hb, hc, hc'⟩ := (HI.out.below H2.out).at_ hlt
      have hsm := HS.out k hlt
      have hbd := mulCK_bd (p := p) l p1 k
      have e1 : mulCK p l (k + 1) = (mulK p [(mulCK p l k).1, (l.getD k (0, 0)).1] 2, mulK p [(mulCK p l k).2, (l.getD k (0, 0)).2] 2) := rfl
      generalize l.getD k (0, 0) = cc at hc hc' hsm e1
      generalize mulCK p l k = st at H1 hbd e1
      obtain ⟨u, v⟩ := cc
      obtain ⟨x, y⟩ := st
      simp only at hc hc'
      obtain ⟨⟨u0, u1⟩, v0, v1⟩ := hsm
      obtain ⟨⟨x0, x1⟩, y0, y1⟩ := hbd
      simp only at u0 u1 v0 v1 x0 x1 y0 y1
      have E1 := Lib.hid e1
      have i1 : (0 : Int) ≤ (k : Int) := by omega
      have i2 : (k : Int) < (l.length : Int) := by omega
      clear e1
      have hz2 := H1.out.lt
      go_wp2
      have HW := Lib.hid (H1.out.below (belA (o := .cells #[.int .i64 u, .int .i64 v] 30) (Below.refl _ _)))
      have HB := Lib.hid (belA (o := .cells #[.int .i64 u, .int .i64 v] 30) H2.out)
      have k6 : (wr.alloc (.cells #[.int .i64 u, .int .i64 v] 30)).cell? ⟨wr.heap.size, 0, none⟩ = some (.int .i64 u) := (by rw [World.cell?_alloc_at _ _ _ _ (by simp)]; rfl)
      have k7 : (wr.alloc (.cells #[.int .i64 u, .int .i64 v] 30)).cell? ⟨wr.heap.size, 1, none⟩ = some (.int .i64 v) := (by rw [World.cell?_alloc_at _ _ _ _ (by simp)]; rfl)
      generalize hW0 : wr.alloc (.cells #[.int .i64 u, .int .i64 v] 30) = W0 at HW HB k6 k7
      clear hW0 hc hc' hb H1 H2
      obtain ⟨m1, m2, m3, m4, m5, m6, m7, m8⟩ := HW.out
      have hlt2 := HW.out.lt
      have hz0 := World.block_lt_of_cell? _ _ k6
      simp only at hz0
      have hz1 : w.heap.size < W0.heap.size := by omega
      clear m4
      refine region_end 15 (S := (fun W => W.cell? ⟨w.heap.size, 0, none⟩ = some (.int .i64 p) ∧ W.cell? ⟨w.heap.size, 1, none⟩ = some (.int .i64 q) ∧ W.cell? ⟨w.heap.size, 2, none⟩ = some (.int .i64 g) ∧ W.cell? ⟨wr.heap.size, 0, none⟩ = some (.int .i64 u) ∧ W.cell? ⟨wr.heap.size, 1, none⟩ = some (.int .i64 v) ∧ W.cell? ⟨w.heap.size + 1 + 1, 0, none⟩ = some (.int .i64 x) ∧ W.cell? ⟨w.heap.size + 1 + 1, 1, none⟩ = some (.int .i64 y))) (by kernel_rfl) (by kernel_rfl) ?_ (fun hE hHeld => ?_)
      · ((try dsimp only); (go_split_ands; (repeat' apply And.intro) <;> first | assumption | (refine keepB (belA (Below.refl _ _)) ?_; assumption) | (refine keepB hb1 ?_; assumption) | (refine keepS ?_ (keepS ?_ ?_) <;> first | assumption | (simp; done) | (simp; omega)) | (refine keepS ?_ ?_ <;> first | assumption | (simp; done) | (simp; omega)) | go_keep))
      refine EndW.take (i := 0) (v := ?_) (some 15) hE rfl rfl (by kernel_rfl) (by kernel_rfl) (by omega) (fun _ _ _ h => h) (Or.inl ⟨by rfl, ?_⟩) (by assumption) ?_
      rotate_left
      · (intro W hSw; (try dsimp only at hSw); go_simp; all_goals with_reducible rfl)
      try simp only [Act.put, List.setIfInBounds_toArray, List.set_cons_zero, List.set_cons_succ]
      refine EndW.take (i := 1) (v := ?_) (some 16) hE rfl rfl (by kernel_rfl) (by kernel_rfl) (by omega) (fun _ _ _ h => h) (Or.inl ⟨by rfl, ?_⟩) (by assumption) ?_
      rotate_left
      · (intro W hSw; (try dsimp only at hSw); go_simp; all_goals with_reducible rfl)
      try simp only [Act.put, List.setIfInBounds_toArray, List.set_cons_zero, List.set_cons_succ]
      refine EndW.take (i := 2) (v := ?_) (some 17) hE rfl rfl (by kernel_rfl) (by kernel_rfl) (by omega) (fun _ _ _ h => h) (Or.inl ⟨by rfl, ?_⟩) (by assumption) ?_
      rotate_left
      · (intro W hSw; (try dsimp only at hSw); go_simp; all_goals with_reducible rfl)
      try simp only [Act.put, List.setIfInBounds_toArray, List.set_cons_zero, List.set_cons_succ]
      refine EndW.take (i := 3) (v := ?_) (some 18) hE rfl rfl (by kernel_rfl) (by kernel_rfl) (by omega) (fun _ _ _ h => h) (Or.inl ⟨by rfl, ?_⟩) (by assumption) ?_
      rotate_left
      · (intro W hSw; (try dsimp only at hSw); go_simp; all_goals with_reducible rfl)
      try simp only [Act.put, List.setIfInBounds_toArray, List.set_cons_zero, List.set_cons_succ]
      refine EndW.take (i := 4) (v := ?_) (some 19) hE rfl rfl (by kernel_rfl) (by kernel_rfl) (by omega) (fun _ _ _ h => h) (Or.inl ⟨by rfl, ?_⟩) (by assumption) ?_
      rotate_left
      · (intro W hSw; (try dsimp only at hSw); go_simp; all_goals with_reducible rfl)
      try simp only [Act.put, List.setIfInBounds_toArray, List.set_cons_zero, List.set_cons_succ]
      refine EndW.take (i := 7) (v := ?_) (some 22) hE rfl rfl (by kernel_rfl) (by kernel_rfl) (by omega) (fun _ _ _ h => h) (Or.inl ⟨by rfl, ?_⟩) (by assumption) ?_
      rotate_left
      · (intro W hSw; (try dsimp only at hSw); go_simp; all_goals with_reducible rfl)
      try simp only [Act.put, List.setIfInBounds_toArray, List.set_cons_zero, List.set_cons_succ]
      refine EndW.take (i := 8) (v := ?_) (some 23) hE rfl rfl (by kernel_rfl) (by kernel_rfl) (by omega) (fun _ _ _ h => h) (Or.inl ⟨by rfl, ?_⟩) (by assumption) ?_
      rotate_left
      · (intro W hSw; (try dsimp only at hSw); go_simp; all_goals with_reducible rfl)
      try simp only [Act.put, List.setIfInBounds_toArray, List.set_cons_zero, List.set_cons_succ]
      refine EndW.take (i := 9) (v := ?_) (some 24) hE rfl rfl (by kernel_rfl) (by kernel_rfl) (by omega) (fun _ _ _ h => h) (Or.inl ⟨by rfl, ?_⟩) (by assumption) ?_
      rotate_left
      · (intro W hSw; (try dsimp only at hSw); go_simp; all_goals with_reducible rfl)
      try simp only [Act.put, List.setIfInBounds_toArray, List.set_cons_zero, List.set_cons_succ]
      refine EndW.take (i := 10) (v := ?_) (some 25) hE rfl rfl (by kernel_rfl) (by kernel_rfl) (by omega) (fun _ _ _ h => h) (Or.inl ⟨by rfl, ?_⟩) (by assumption) ?_
      rotate_left
      · (intro W hSw; (try dsimp only at hSw); go_simp; all_goals with_reducible rfl)
      try simp only [Act.put, List.setIfInBounds_toArray, List.set_cons_zero, List.set_cons_succ]
      refine EndW.take (i := 11) (v := ?_) (some 26) hE rfl rfl (by kernel_rfl) (by kernel_rfl) (by omega) (fun _ _ _ h => h) (Or.inl ⟨by rfl, ?_⟩) (by assumption) ?_
      rotate_left
      · (intro W hSw; (try dsimp only at hSw); go_simp; all_goals with_reducible rfl)
      try simp only [Act.put, List.setIfInBounds_toArray, List.set_cons_zero, List.set_cons_succ]
      refine EndW.two (i := 5) (j := 12) (by kernel_rfl) (by omega) (by omega) ⟨_, rfl, fun K hK => ?_⟩ ⟨_, rfl, fun K hK => ?_⟩
      · skip
        go_simp
        refine hK.out _ _ ?_ (fun hNew => ?_)
        · ((try dsimp only); (go_split_ands; (repeat' apply And.intro) <;> first | assumption | (refine keepB (belA (Below.refl _ _)) ?_; assumption) | (refine keepB hb1 ?_; assumption) | (refine keepS ?_ (keepS ?_ ?_) <;> first | assumption | (simp; done) | (simp; omega)) | (refine keepS ?_ ?_ <;> first | assumption | (simp; done) | (simp; omega)) | go_keep))
        clear hK K hHeld
        have hHeld := hNew; clear hNew
        try simp only [Act.put, List.setIfInBounds_toArray, List.set_cons_zero, List.set_cons_succ]
        refine EndW.two (i := 6) (j := 12) (by kernel_rfl) (by omega) (by omega) ⟨_, rfl, fun K hK => ?_⟩ ⟨_, rfl, fun K hK => ?_⟩
        · skip
          go_simp
          (go_at_call 94; refine (gMul_any p q g _ 2 2 [x, u] _ (Ints.two ?_ ?_) (by omega) (by omega) (small2 ⟨x0, x1⟩ ⟨u0, u1⟩)).mono ?_; (focus (first | (simp [go_sem]; done) | (simp [go_sem, hc1]; done))); (focus (first | (simp [go_sem]; done) | (simp [go_sem, hc1]; done))); rintro e' w1 ⟨rfl, hb1⟩; have hX : Below W0.heap.size W0 w1 := (by repeat (first | exact Below.refl _ _ | assumption | refine belA ?_ | refine belD ?_ | refine belN ?_ | refine belS ?_ (by simp <;> omega) | refine belT ?_ (by assumption))); have HN := Lib.hid (HW.out.below hX); obtain ⟨n1, n2, n3, n4, n5, n6, n7, n8⟩ := HN.out; clear n1 n2 n3; have hlt3 := HN.out.lt; obtain ⟨nx, ny, nc0, nc1, nf0, nf1⟩ := n4.facts; obtain ⟨hc1, hf1⟩ := bcell hb1)
          try go_wp2_with fail
          refine hK.out _ _ ?_ (fun hNew => ?_)
          · ((try dsimp only); (go_split_ands; (repeat' apply And.intro) <;> first | assumption | (refine keepB (belA (Below.refl _ _)) ?_; assumption) | (refine keepB hb1 ?_; assumption) | (refine keepS ?_ (keepS ?_ ?_) <;> first | assumption | (simp; done) | (simp; omega)) | (refine keepS ?_ ?_ <;> first | assumption | (simp; done) | (simp; omega)) | go_keep))
          clear hK K hHeld
          have hHeld := hNew; clear hNew
          try simp only [Act.put, List.setIfInBounds_toArray, List.set_cons_zero, List.set_cons_succ]
          refine EndW.one (i := 12) (by kernel_rfl) (by omega) ⟨_, rfl, fun K hK => ?_⟩
          go_simp
          refine hK.out _ _ ?_ (fun hNew => ?_)
          · ((try dsimp only); (go_split_ands; (repeat' apply And.intro) <;> first | assumption | (refine keepB (belA (Below.refl _ _)) ?_; assumption) | (refine keepB hb1 ?_; assumption) | (refine keepS ?_ (keepS ?_ ?_) <;> first | assumption | (simp; done) | (simp; omega)) | (refine keepS ?_ ?_ <;> first | assumption | (simp; done) | (simp; omega)) | go_keep))
          clear hK K hHeld
          have hHeld := hNew; clear hNew
          try simp only [Act.put, List.setIfInBounds_toArray, List.set_cons_zero, List.set_cons_succ]
          refine EndW.one (i := 13) (by kernel_rfl) (by omega) ⟨_, rfl, fun K hK => ?_⟩
          go_simp
          (go_at_call 94; refine (gMul_any p q g _ 2 2 [y, v] _ (Ints.two ?_ ?_) (by omega) (by omega) (small2 ⟨y0, y1⟩ ⟨v0, v1⟩)).mono ?_; (focus (first | (simp [go_sem]; done) | (simp [go_sem, hc1]; done))); (focus (first | (simp [go_sem]; done) | (simp [go_sem, hc1]; done))); rintro e' w1 ⟨rfl, hb1⟩; have hX : Below W0.heap.size W0 w1 := (by repeat (first | exact Below.refl _ _ | assumption | refine belA ?_ | refine belD ?_ | refine belN ?_ | refine belS ?_ (by simp <;> omega) | refine belT ?_ (by assumption))); have HN := Lib.hid (HW.out.below hX); obtain ⟨n1, n2, n3, n4, n5, n6, n7, n8⟩ := HN.out; clear n1 n2 n3; have hlt3 := HN.out.lt; obtain ⟨nx, ny, nc0, nc1, nf0, nf1⟩ := n4.facts; obtain ⟨hc1, hf1⟩ := bcell hb1)
          try go_wp2_with fail
          refine hK.out _ _ ?_ (fun hNew => ?_)
          · ((try dsimp only); (go_split_ands; (repeat' apply And.intro) <;> first | assumption | (refine keepB (belA (Below.refl _ _)) ?_; assumption) | (refine keepB hb1 ?_; assumption) | (refine keepS ?_ (keepS ?_ ?_) <;> first | assumption | (simp; done) | (simp; omega)) | (refine keepS ?_ ?_ <;> first | assumption | (simp; done) | (simp; omega)) | go_keep))
          clear hK K hHeld
          have hHeld := hNew; clear hNew
          try simp only [Act.put, List.setIfInBounds_toArray, List.set_cons_zero, List.set_cons_succ]
          refine EndW.take (i := 14) (v := ?_) (some 29) hE rfl rfl (by kernel_rfl) (by kernel_rfl) (by omega) (fun _ _ _ h => h) (Or.inl ⟨by rfl, ?_⟩) (by assumption) ?_
          rotate_left
          · (intro W hSw; (try dsimp only at hSw); go_simp; all_goals with_reducible rfl)
          try simp only [Act.put, List.setIfInBounds_toArray, List.set_cons_zero, List.set_cons_succ]
          refine EndW.last (by kernel_rfl) rfl (by kernel_rfl) (fun K hK => ?_)
          go_simp
          refine hK.out _ _ ?_
          clear hK K hHeld
          go_wp2
          go_roundw
          all_goals first | (simp [intOf]; omega; done) | exact ⟨k + 1, by omega, by go_num, Lib.hid (by rw [E1.out]; exact HN.out.put _ _), Lib.hid (belS (belS (belT HB.out hX) (by simp <;> omega)) (by simp <;> omega))⟩
        · skip
          go_simp
          refine hK.out _ _ ?_ (fun hNew => ?_)
          · ((try dsimp only); (go_split_ands; (repeat' apply And.intro) <;> first | assumption | (refine keepB (belA (Below.refl _ _)) ?_; assumption) | (refine keepB hb1 ?_; assumption) | (refine keepS ?_ (keepS ?_ ?_) <;> first | assumption | (simp; done) | (simp; omega)) | (refine keepS ?_ ?_ <;> first | assumption | (simp; done) | (simp; omega)) | go_keep))
          clear hK K hHeld
          have hHeld := hNew; clear hNew
          try simp only [Act.put, List.setIfInBounds_toArray, List.set_cons_zero, List.set_cons_succ]
          refine EndW.one (i := 6) (by kernel_rfl) (by omega) ⟨_, rfl, fun K hK => ?_⟩
          go_simp
          (go_at_call 94; refine (gMul_any p q g _ 2 2 [x, u] _ (Ints.two ?_ ?_) (by omega) (by omega) (small2 ⟨x0, x1⟩ ⟨u0, u1⟩)).mono ?_; (focus (first | (simp [go_sem]; done) | (simp [go_sem, hc1]; done))); (focus (first | (simp [go_sem]; done) | (simp [go_sem, hc1]; done))); rintro e' w1 ⟨rfl, hb1⟩; have hX : Below W0.heap.size W0 w1 := (by repeat (first | exact Below.refl _ _ | assumption | refine belA ?_ | refine belD ?_ | refine belN ?_ | refine belS ?_ (by simp <;> omega) | refine belT ?_ (by assumption))); have HN := Lib.hid (HW.out.below hX); obtain ⟨n1, n2, n3, n4, n5, n6, n7, n8⟩ := HN.out; clear n1 n2 n3; have hlt3 := HN.out.lt; obtain ⟨nx, ny, nc0, nc1, nf0, nf1⟩ := n4.facts; obtain ⟨hc1, hf1⟩ := bcell hb1)
          try go_wp2_with fail
          refine hK.out _ _ ?_ (fun hNew => ?_)
          · ((try dsimp only); (go_split_ands; (repeat' apply And.intro) <;> first | assumption | (refine keepB (belA (Below.refl _ _)) ?_; assumption) | (refine keepB hb1 ?_; assumption) | (refine keepS ?_ (keepS ?_ ?_) <;> first | assumption | (simp; done) | (simp; omega)) | (refine keepS ?_ ?_ <;> first | assumption | (simp; done) | (simp; omega)) | go_keep))
          clear hK K hHeld
          have hHeld := hNew; clear hNew
          try simp only [Act.put, List.setIfInBounds_toArray, List.set_cons_zero, List.set_cons_succ]
          refine EndW.one (i := 13) (by kernel_rfl) (by omega) ⟨_, rfl, fun K hK => ?_⟩
          go_simp
          (go_at_call 94; refine (gMul_any p q g _ 2 2 [y, v] _ (Ints.two ?_ ?_) (by omega) (by omega) (small2 ⟨y0, y1⟩ ⟨v0, v1⟩)).mono ?_; (focus (first | (simp [go_sem]; done) | (simp [go_sem, hc1]; done))); (focus (first | (simp [go_sem]; done) | (simp [go_sem, hc1]; done))); rintro e' w1 ⟨rfl, hb1⟩; have hX : Below W0.heap.size W0 w1 := (by repeat (first | exact Below.refl _ _ | assumption | refine belA ?_ | refine belD ?_ | refine belN ?_ | refine belS ?_ (by simp <;> omega) | refine belT ?_ (by assumption))); have HN := Lib.hid (HW.out.below hX); obtain ⟨n1, n2, n3, n4, n5, n6, n7, n8⟩ := HN.out; clear n1 n2 n3; have hlt3 := HN.out.lt; obtain ⟨nx, ny, nc0, nc1, nf0, nf1⟩ := n4.facts; obtain ⟨hc1, hf1⟩ := bcell hb1)
          try go_wp2_with fail
          refine hK.out _ _ ?_ (fun hNew => ?_)
          · ((try dsimp only); (go_split_ands; (repeat' apply And.intro) <;> first | assumption | (refine keepB (belA (Below.refl _ _)) ?_; assumption) | (refine keepB hb1 ?_; assumption) | (refine keepS ?_ (keepS ?_ ?_) <;> first | assumption | (simp; done) | (simp; omega)) | (refine keepS ?_ ?_ <;> first | assumption | (simp; done) | (simp; omega)) | go_keep))
          clear hK K hHeld
          have hHeld := hNew; clear hNew
          try simp only [Act.put, List.setIfInBounds_toArray, List.set_cons_zero, List.set_cons_succ]
          refine EndW.take (i := 14) (v := ?_) (some 29) hE rfl rfl (by kernel_rfl) (by kernel_rfl) (by omega) (fun _ _ _ h => h) (Or.inl ⟨by rfl, ?_⟩) (by assumption) ?_
          rotate_left
          · (intro W hSw; (try dsimp only at hSw); go_simp; all_goals with_reducible rfl)
          try simp only [Act.put, List.setIfInBounds_toArray, List.set_cons_zero, List.set_cons_succ]
          refine EndW.last (by kernel_rfl) rfl (by kernel_rfl) (fun K hK => ?_)
          go_simp
          refine hK.out _ _ ?_
          clear hK K hHeld
          go_wp2
          go_roundw
          all_goals first | (simp [intOf]; omega; done) | exact ⟨k + 1, by omega, by go_num, Lib.hid (by rw [E1.out]; exact HN.out.put _ _), Lib.hid (belS (belS (belT HB.out hX) (by simp <;> omega)) (by simp <;> omega))⟩
      · skip
        go_simp
        refine hK.out _ _ ?_ (fun hNew => ?_)
        · ((try dsimp only); (go_split_ands; (repeat' apply And.intro) <;> first | assumption | (refine keepB (belA (Below.refl _ _)) ?_; assumption) | (refine keepB hb1 ?_; assumption) | (refine keepS ?_ (keepS ?_ ?_) <;> first | assumption | (simp; done) | (simp; omega)) | (refine keepS ?_ ?_ <;> first | assumption | (simp; done) | (simp; omega)) | go_keep))
        clear hK K hHeld
        have hHeld := hNew; clear hNew
        try simp only [Act.put, List.setIfInBounds_toArray, List.set_cons_zero, List.set_cons_succ]
        refine EndW.one (i := 5) (by kernel_rfl) (by omega) ⟨_, rfl, fun K hK => ?_⟩
        go_simp
        refine hK.out _ _ ?_ (fun hNew => ?_)
        · ((try dsimp only); (go_split_ands; (repeat' apply And.intro) <;> first | assumption | (refine keepB (belA (Below.refl _ _)) ?_; assumption) | (refine keepB hb1 ?_; assumption) | (refine keepS ?_ (keepS ?_ ?_) <;> first | assumption | (simp; done) | (simp; omega)) | (refine keepS ?_ ?_ <;> first | assumption | (simp; done) | (simp; omega)) | go_keep))
        clear hK K hHeld
        have hHeld := hNew; clear hNew
        try simp only [Act.put, List.setIfInBounds_toArray, List.set_cons_zero, List.set_cons_succ]
        refine EndW.one (i := 6) (by kernel_rfl) (by omega) ⟨_, rfl, fun K hK => ?_⟩
        go_simp
        (go_at_call 94; refine (gMul_any p q g _ 2 2 [x, u] _ (Ints.two ?_ ?_) (by omega) (by omega) (small2 ⟨x0, x1⟩ ⟨u0, u1⟩)).mono ?_; (focus (first | (simp [go_sem]; done) | (simp [go_sem, hc1]; done))); (focus (first | (simp [go_sem]; done) | (simp [go_sem, hc1]; done))); rintro e' w1 ⟨rfl, hb1⟩; have hX : Below W0.heap.size W0 w1 := (by repeat (first | exact Below.refl _ _ | assumption | refine belA ?_ | refine belD ?_ | refine belN ?_ | refine belS ?_ (by simp <;> omega) | refine belT ?_ (by assumption))); have HN := Lib.hid (HW.out.below hX); obtain ⟨n1, n2, n3, n4, n5, n6, n7, n8⟩ := HN.out; clear n1 n2 n3; have hlt3 := HN.out.lt; obtain ⟨nx, ny, nc0, nc1, nf0, nf1⟩ := n4.facts; obtain ⟨hc1, hf1⟩ := bcell hb1)
        try go_wp2_with fail
        refine hK.out _ _ ?_ (fun hNew => ?_)
        · ((try dsimp only); (go_split_ands; (repeat' apply And.intro) <;> first | assumption | (refine keepB (belA (Below.refl _ _)) ?_; assumption) | (refine keepB hb1 ?_; assumption) | (refine keepS ?_ (keepS ?_ ?_) <;> first | assumption | (simp; done) | (simp; omega)) | (refine keepS ?_ ?_ <;> first | assumption | (simp; done) | (simp; omega)) | go_keep))
        clear hK K hHeld
        have hHeld := hNew; clear hNew
        try simp only [Act.put, List.setIfInBounds_toArray, List.set_cons_zero, List.set_cons_succ]
        refine EndW.one (i := 13) (by kernel_rfl) (by omega) ⟨_, rfl, fun K hK => ?_⟩
        go_simp
        (go_at_call 94; refine (gMul_any p q g _ 2 2 [y, v] _ (Ints.two ?_ ?_) (by omega) (by omega) (small2 ⟨y0, y1⟩ ⟨v0, v1⟩)).mono ?_; (focus (first | (simp [go_sem]; done) | (simp [go_sem, hc1]; done))); (focus (first | (simp [go_sem]; done) | (simp [go_sem, hc1]; done))); rintro e' w1 ⟨rfl, hb1⟩; have hX : Below W0.heap.size W0 w1 := (by repeat (first | exact Below.refl _ _ | assumption | refine belA ?_ | refine belD ?_ | refine belN ?_ | refine belS ?_ (by simp <;> omega) | refine belT ?_ (by assumption))); have HN := Lib.hid (HW.out.below hX); obtain ⟨n1, n2, n3, n4, n5, n6, n7, n8⟩ := HN.out; clear n1 n2 n3; have hlt3 := HN.out.lt; obtain ⟨nx, ny, nc0, nc1, nf0, nf1⟩ := n4.facts; obtain ⟨hc1, hf1⟩ := bcell hb1)
        try go_wp2_with fail
        refine hK.out _ _ ?_ (fun hNew => ?_)
        · ((try dsimp only); (go_split_ands; (repeat' apply And.intro) <;> first | assumption | (refine keepB (belA (Below.refl _ _)) ?_; assumption) | (refine keepB hb1 ?_; assumption) | (refine keepS ?_ (keepS ?_ ?_) <;> first | assumption | (simp; done) | (simp; omega)) | (refine keepS ?_ ?_ <;> first | assumption | (simp; done) | (simp; omega)) | go_keep))
        clear hK K hHeld
        have hHeld := hNew; clear hNew
        try simp only [Act.put, List.setIfInBounds_toArray, List.set_cons_zero, List.set_cons_succ]
        refine EndW.take (i := 14) (v := ?_) (some 29) hE rfl rfl (by kernel_rfl) (by kernel_rfl) (by omega) (fun _ _ _ h => h) (Or.inl ⟨by rfl, ?_⟩) (by assumption) ?_
        rotate_left
        · (intro W hSw; (try dsimp only at hSw); go_simp; all_goals with_reducible rfl)
        try simp only [Act.put, List.setIfInBounds_toArray, List.set_cons_zero, List.set_cons_succ]
        refine EndW.last (by kernel_rfl) rfl (by kernel_rfl) (fun K hK => ?_)
        go_simp
        refine hK.out _ _ ?_
        clear hK K hHeld
        go_wp2
        go_roundw
        all_goals first | (simp [intOf]; omega; done) | exact ⟨k + 1, by omega, by go_num, Lib.hid (by rw [E1.out]; exact HN.out.put _ _), Lib.hid (belS (belS (belT HB.out hX) (by simp <;> omega)) (by simp <;> omega))⟩
    · have e : k = l.length := by omega
      subst e
      generalize hst : mulCK p l l.length = st at H1
      have HT := Lib.hid hst
      clear hst
      obtain ⟨x, y⟩ := st
      obtain ⟨m1, m2, m3, m4, m5, m6, m7, m8⟩ := H1.out
      simp only at m5 m6
      obtain ⟨rx, ry, rc0, rc1, rf0, rf1⟩ := m4.facts
      go_wp2
      refine bodyPost_ret (v := .agg #[.int .i64 x, .int .i64 y]) (by simp [results, Try.results76, go_sem, rc0, rc1]) rfl ⟨by rw [HT.out], ?_⟩
      exact belS (belS H2.out (by simp)) (by simp)
end Go.Proofs.Ytemhjhaokbgldaa
