/- Contracts of both sides: Interpolate. -/
import Derived.Test.YteeggmnkcgpfjaaVf
import Derived.Deep.RegionHeld3
import Derived.Deep.DrawnRows
namespace Go.Proofs.Yteeggmnkcgpfjaa
open Go.RowKit
set_option linter.unusedVariables false
attribute [local go_sem ↓] Go.wp_at_zero Go.wp_at_succ
set_option linter.unusedSimpArgs false

theorem heldTake {P : Program} {md : Region.Mode} {ops : Array Oper} {Q : Exit → Act → World → Prop} {S : World → Prop} {i k : Nat} {oi : Oper} {v : Value} {l : Array Bool} {a : Act} {w : World} (d : Option Tmp) (hi : ops[i]? = some oi) (hd : oi.dst = d)
    (hs : Region.noSelect ops = true) (hf : Region.free md ops l i = true) (hr : (Region.ready md ops l).contains i = true) (hQ : ∀ c a w, Q (.panic c) (a.put d v) w → Q (.panic c) a w)
    (hy : YieldsIf P ops S oi v a) (hS : S w) (h : wpAnyH P md ops Q S k (l.setIfInBounds i true) (a.put d v) w) : wpAnyH P md ops Q S (k + 1) l a w := by
  subst hd
  exact wpAnyH_take hi hs hf hr hQ hy hS h
theorem own_set2 {w : World} {B e s n b i : Nat} {v u : Value} {xs : List Value} (h : w.ownsRow B e s v n xs) (hb : b < B) : (w.setCell ⟨b, i, none⟩ u).ownsRow B e s v n xs :=
  h.kept (row := some b) ⟨rfl, rfl, rfl, by simp, fun k hk hne => heap_setCell_other w _ k u (by intro e; subst e; exact hne rfl)⟩ (by
    cases hv : v.ownBlock with
    | none => exact .inl rfl
    | some k => exact .inr (by intro e; injection e with e; have := (h.lt k hv).1; omega))
theorem it_no {q : Int} {xs ys : List Int} (h : tabB q xs ys = false) : itM q xs ys = ([], false) := by rw [itM, h]; rfl
theorem it_yes {q : Int} {xs ys : List Int} (h : tabB q xs ys = true) : itM q xs ys = (itK q xs ys xs.length, true) := by rw [itM, h]; rfl
theorem erase_app (xs : List Int) (k : Nat) : xs.take k ++ xs.drop (k + 1) = xs.eraseIdx k := (List.eraseIdx_eq_take_drop_succ xs k).symm

set_option maxHeartbeats 400000 in
theorem l1Own_any (A : Option Addr) (n c : Nat) (zs : List Int) (w : World) (h : Ints w A n zs) (hn : n ≤ 1000000) :
    Calls Try.prog 139 #[.slice A n c] w fun e w' => ∃ A' c', e = .returned (.slice A' n c') ∧ w'.ownsRow w.heap.size 3 1 (.slice A' n c') n (zs.map (Value.int .i64)) ∧ Below w.heap.size w w' := by
  have HI := Lib.hid h
  clear h
  go_enter Try.func139, Try.ntmps139
  go_wp2_with (at_builtin; refine appI rfl _ _ rfl rfl rfl (HI.out.below (belA (Below.refl _ _))) (own_empty w w.heap.size (Nat.le_refl _)) (by omega) (by simp) ?_; intro A' c' w1 hown hg)
  rw [Nat.zero_add, List.nil_append] at hown
  go_wp2
  go_ret
  exact ⟨A', c', by simp, hown, own_below (belA (Below.refl _ _)) (by simp) (own_empty w w.heap.size (Nat.le_refl _)) hg⟩
set_option maxRecDepth 100000 in
set_option maxHeartbeats 4000000 in
theorem yInterpolate_any (q : Int) (A : Option Addr) (n c : Nat) (xs : List Int) (A' : Option Addr) (n' c' : Nat) (ys : List Int) (w : World) (h : Ints w A n xs) (h' : Ints w A' n' ys) (hcap : n ≤ c) (ht : tabB q xs ys = true) :
    Calls Try.prog 100 #[.int .i64 q, .slice A n c, .slice A' n' c'] w fun e w' => ∃ B cc, e = .returned (.slice B n cc) ∧ w'.ownsRow w.heap.size 3 1 (.slice B n cc) n ((itK q xs ys n).map (Value.int .i64)) ∧ Below w.heap.size w w' := by
  have hl := h.len
  subst hl
  have hl := h'.len
  subst hl
  have HI := Lib.hid h
  have HI' := Lib.hid h'
  obtain ⟨⟨m1, m2⟩, t1, t2, t3, t4, t5, t6, t7⟩ := tab_all ht
  have HT := Lib.hid (And.intro t4 (And.intro t5 (And.intro t6 t7)))
  have T3 := Lib.hid t3
  have hq0 : (q == 0) = false := by simp; omega
  obtain ⟨i0, hi, hz0, hz1, hz2⟩ := info_parts int_info
  clear h h' ht t3 t4 t5 t6 t7
  go_enter Try.func100, Try.ntmps100
  go_wp2_with (at_make; refine wpList_make_full _ rfl _ _ 24 rfl w.heap.size 3 i0 (.int .i64 0) 1 Try.underlying24 hi hz0 hz1 .i64 .i64 _ _ xs.length rfl rfl rfl rfl (by rw [hz2]; omega) (by simp only [maxLen]; omega) (Nat.le_refl _) ?_; intro w1 hown hg)
  have hw0 : Below w.heap.size w w1 := (Below.refl _ _).grown hg (Nat.le_refl _) (by intro k hk; cases hk)
  have H0 := Lib.hid (own_zero hown)
  clear hown hg
  go_loopw [7, 19] (fun v i wr => ∃ k : Nat, k ≤ xs.length ∧ i = .int .i64 k ∧ Hid (wr.ownsRow w.heap.size 3 1 v xs.length ((itK q xs ys k).map (Value.int .i64))) ∧ Hid (Below w.heap.size w wr)) (fun _ i _ => xs.length - (intOf i).toNat)
  case atStart => exact ⟨0, by omega, rfl, H0, Lib.hid hw0⟩
  case round =>
    obtain ⟨k, hk, rfl, HO, HB⟩ := hrel
    obtain ⟨C, oc, rfl⟩ := own_shape HO.out
    by_cases hlt : k < xs.length
    · obtain ⟨b, off, rfl, hb, hc⟩ := (HI.out.below HB.out).at_ hlt
      have HIr := Lib.hid (HI.out.below HB.out)
      have HC := Lib.hid hc
      obtain ⟨b', off', rfl, hb', hc'⟩ := (HI'.out.below HB.out).at_ (show k < ys.length by have := T3.out; omega)
      obtain ⟨y0, y1⟩ := HT.out.2.2.2 k (by have := T3.out; omega)
      obtain ⟨a0, a1⟩ := HT.out.2.1 k hlt
      obtain ⟨⟨v0, v1⟩, hgc, u0, u1⟩ := bak_facts HT.out.1 m1 HT.out.2.1 HT.out.2.2.1 hlt
      have HRR := Lib.hid (HT.out.2.1.erase (show 0 < q by omega) k)
      have HF := Lib.hid (show Res q (othL q xs k) from rootK_res m1 _)
      have HOT := Lib.hid (show othL q xs k = rootK q (xs.eraseIdx k) (xs.length - 1) from rfl)
      have HBK := Lib.hid (show bakL q xs k = invM (evalP q (othL q xs k) (xs.getD k 0)) q from rfl)
      have HWG := Lib.hid (show wgtL q xs ys k = mulL q (othL q xs k) [ys.getD k 0 * bakL q xs k % q] from rfl)
      have HWL := Lib.hid (wgtL_len (q := q) (ys := ys) (i := k) t1)
      have HWR := Lib.hid (wgtL_res (q := q) (xs := xs) (ys := ys) (i := k) (by omega))
      have HKL := Lib.hid (itK_len (q := q) (ys := ys) t1 (k + 1))
      have HKR := Lib.hid (itK_res (q := q) (ys := ys) (show 0 < q by omega) t1 k)
      have HKS := Lib.hid (show itK q xs ys (k + 1) = addL q (itK q xs ys k) (wgtL q xs ys k) from rfl)
      have HGC := Lib.hid hgc
      obtain ⟨p1, p2⟩ := mul_bdi ⟨y0, y1⟩ ⟨u0, u1⟩ m2
      have p3 := Int.emod_nonneg (ys.getD k 0 * bakL q xs k) (show q ≠ 0 by omega)
      have p4 := Int.emod_lt_of_pos (ys.getD k 0 * bakL q xs k) (show 0 < q by omega)
      generalize xs.getD k 0 = a at hc HC a0 a1 v0 v1 HBK HGC
      generalize ys.getD k 0 = y at hc' y0 y1 p1 p2 p3 p4 HWG
      generalize bakL q xs k = bk at u0 u1 p1 p2 p3 p4 HBK HWG
      have HC' := Lib.hid hc'
      have hI1 := Lib.hid (HIr.out.take (k := k) (by omega))
      have hI2 := Lib.hid (HIr.out.drop (k := k + 1) (by omega))
      have HE := Lib.hid (erase_app xs k)
      have hn1 : k + (xs.length - (k + 1)) = xs.length - 1 := by omega
      have HN1 := Lib.hid hn1
      have i1 : (0 : Int) ≤ (k : Int) := by omega
      have i2 : (k : Int) < (xs.length : Int) := by omega
      have i3 : (k : Int) ≤ (c : Int) := by omega
      have i4 : (k : Int) + 1 ≤ (xs.length : Int) := by omega
      have i5 : (xs.length : Int) ≤ (c : Int) := by omega
      have i8 : (k : Int) < (ys.length : Int) := by have := T3.out; omega
      have hX0 := Below.refl wr.heap.size wr
      clear hgc hc' hn1
      by_cases hkc : c = k + 1
      · have hI3 : Hid (Ints wr (some ⟨b, off, none⟩) 0 (xs.drop (k + 1))) := Lib.hid (by
          rw [List.drop_of_length_le (by omega)]
          exact Ints.nil _ _)
        subst hkc
        have e2 : xs.length - 1 = k := by omega
        rw [e2] at HOT
        clear e2
        have hwk : IntKind.i64.wrap ((k : Int) + 1) = (k : Int) + 1 := by rw [IntKind.wrap_i64]; omega
        go_wp2
        refine wp_region_held_drew (S := fun _ => True) (by kernel_rfl) ?_ (fun hHeld => ?_)
        · exact trivial
        refine heldTake (i := 0) (v := ?_) (some 24) rfl rfl (by kernel_rfl) (by kernel_rfl) (by kernel_rfl) (fun _ _ _ h => h) (Or.inl ⟨by rfl, ?_⟩) (by assumption) ?_
        rotate_left
        · (intro W hSw; (try dsimp only at hSw); go_simp; all_goals first | with_reducible rfl | (simp [*]; done) | (intro hh; exfalso; omega) | fail)
        try simp only [Act.put, List.setIfInBounds_toArray, List.set_cons_zero, List.set_cons_succ]
        refine heldTake (i := 1) (v := ?_) (some 25) rfl rfl (by kernel_rfl) (by kernel_rfl) (by kernel_rfl) (fun _ _ _ h => h) (Or.inl ⟨by rfl, ?_⟩) (by assumption) ?_
        rotate_left
        · (intro W hSw; (try dsimp only at hSw); go_simp; all_goals first | with_reducible rfl | (simp [*]; done) | (intro hh; exfalso; omega) | fail)
        try simp only [Act.put, List.setIfInBounds_toArray, List.set_cons_zero, List.set_cons_succ]
        refine heldTake (i := 2) (v := .slice (some ⟨b, off, none⟩) k (k + 1)) (some 26) rfl rfl (by kernel_rfl) (by kernel_rfl) (by kernel_rfl) (fun _ _ _ h => h) (Or.inl ⟨by rfl, ?_⟩) (by assumption) ?_
        · (intro W hSw; (try dsimp only at hSw); go_simp; all_goals first | with_reducible rfl | (simp [*]; done) | (intro hh; exfalso; omega) | fail)
        try simp only [Act.put, List.setIfInBounds_toArray, List.set_cons_zero, List.set_cons_succ]
        refine heldTake (i := 4) (v := ?_) (some 28) rfl rfl (by kernel_rfl) (by kernel_rfl) (by kernel_rfl) (fun _ _ _ h => h) (Or.inl ⟨by rfl, ?_⟩) (by assumption) ?_
        rotate_left
        · (intro W hSw; (try dsimp only at hSw); go_simp; all_goals first | with_reducible rfl | (simp [*]; done) | (intro hh; exfalso; omega) | fail)
        try simp only [Act.put, List.setIfInBounds_toArray, List.set_cons_zero, List.set_cons_succ]
        refine heldTake (i := 5) (v := ?_) (some 29) rfl rfl (by kernel_rfl) (by kernel_rfl) (by kernel_rfl) (fun _ _ _ h => h) (Or.inl ⟨by rfl, ?_⟩) (by assumption) ?_
        rotate_left
        · (intro W hSw; (try dsimp only at hSw); go_simp; all_goals first | with_reducible rfl | (simp [*]; done) | (intro hh; exfalso; omega) | fail)
        try simp only [Act.put, List.setIfInBounds_toArray, List.set_cons_zero, List.set_cons_succ]
        refine heldTake (i := 6) (v := .int .i64 ((k : Int) + 1)) (some 30) rfl rfl (by kernel_rfl) (by kernel_rfl) (by kernel_rfl) (fun _ _ _ h => h) (Or.inl ⟨by rfl, ?_⟩) (by assumption) ?_
        · (intro W hSw; (try dsimp only at hSw); go_simp; all_goals first | with_reducible rfl | (simp [*]; done) | (intro hh; exfalso; omega) | fail)
        try simp only [Act.put, List.setIfInBounds_toArray, List.set_cons_zero, List.set_cons_succ]
        refine heldTake (i := 7) (v := .slice (some ⟨b, off, none⟩) 0 0) (some 31) rfl rfl (by kernel_rfl) (by kernel_rfl) (by kernel_rfl) (fun _ _ _ h => h) (Or.inl ⟨by rfl, ?_⟩) (by assumption) ?_
        · (intro W hSw; (try dsimp only at hSw); go_simp; all_goals first | with_reducible rfl | (simp [*]; done) | (intro hh; exfalso; omega) | fail)
        try simp only [Act.put, List.setIfInBounds_toArray, List.set_cons_zero, List.set_cons_succ]
        refine wpAnyH_ready (rs := [3]) (by kernel_rfl) (by simp) ?_
        refine AllReadyH.cons rfl (fun K hK => ?_) AllReadyH.nil
        go_simp
        (go_at_call 139; refine (l1Own_any _ k _ (xs.take k) _ (Ints.drew hI1.out) (by omega)).mono ?_; rintro e w2 ⟨A2, c2, rfl, ho2, hb2⟩)
        refine hK.out _ _ trivial (fun hNew => ?_)
        clear hK K hHeld
        have hHeld := hNew; clear hNew
        have HO2 := Lib.hid ho2; have HB2 := Lib.hid ((belD (Below.refl wr.heap.size wr)).trans hb2); clear ho2 hb2
        try simp only [Act.put, List.setIfInBounds_toArray, List.set_cons_zero, List.set_cons_succ]
        refine wpAnyH_ready (rs := [8]) (by kernel_rfl) (by simp) ?_
        refine AllReadyH.cons rfl (fun K hK => ?_) AllReadyH.nil
        refine step_appI (n := 0) (c := 0) (by rfl) _ _ (by rfl) (by rfl) (by rfl) (hI3.out.below HB2.out) HO2.out (by omega) HB2.out.size ?_
        intro A3 c3 w3 hown3 hg3
        refine hK.out _ _ trivial (fun hNew => ?_)
        clear hK K hHeld
        have hHeld := hNew; clear hNew
        have HB3 := Lib.hid (own_below HB2.out HB2.out.size HO2.out hg3); have HO3 := Lib.hid hown3; clear hown3 hg3
        try simp only [Act.put, List.setIfInBounds_toArray, List.set_cons_zero, List.set_cons_succ]
        refine heldTake (i := 9) (v := ?_) (some 10) rfl rfl (by kernel_rfl) (by kernel_rfl) (by kernel_rfl) (fun _ _ _ h => h) (Or.inl ⟨by rfl, ?_⟩) (by assumption) ?_
        rotate_left
        · (intro W hSw; (try dsimp only at hSw); go_simp; all_goals first | with_reducible rfl | (simp [*]; done) | (intro hh; exfalso; omega) | fail)
        try simp only [Act.put, List.setIfInBounds_toArray, List.set_cons_zero, List.set_cons_succ]
        refine wpAnyH_done (by kernel_rfl) ?_ _
        rw [Nat.add_zero, HE.out] at HO3
        go_wp2_with fail
        have HO3' : Hid (w3.ownsRow wr.heap.size 3 1 (.slice A3 k c3) k ((xs.eraseIdx k).map (Value.int .i64))) := HO3
        refine (yRoots_any q A3 k c3 (xs.eraseIdx k) _ (Ints.of_own HO3'.out) m1 m2 HRR.out (by omega)).mono ?_
        rintro e w4 ⟨B4, c4, rfl, ho4, hb4⟩
        rw [← HOT.out] at ho4
        have hX4 := belT HB3.out hb4
        have HO4 := Lib.hid ho4
        have HX4 := Lib.hid hX4
        clear ho4 hb4 hX4 HO3 HO3' HO2 HB2 HB3
        go_wp2_with fail
        refine (yEval_any q B4 (k + 1) c4 (othL q xs k) a _ (Ints.of_own HO4.out) m1 m2 HF.out.all_ a0 a1).mono ?_
        rintro e w5 ⟨rfl, hb5⟩
        have HX5 := Lib.hid (belT HX4.out hb5)
        have HO5 := Lib.hid (ownBelow HO4.out hb5)
        clear hb5 HO4 HX4
        go_wp2_with fail
        refine (nInverse_any _ q _ v0 v1 m1 (by omega)).mono ?_
        rintro e w' ⟨yy, rfl, hy, rfl⟩
        have hy2 := hy HGC.out
        rw [← HBK.out] at hy2
        subst hy2
        clear hy
        have k5 := keepB HX5.out HC'.out
        go_wp2_with fail
        refine (yMul_any q B4 (k + 1) c4 (othL q xs k) _ 1 1 [y * yy % q] _ ((Ints.of_own HO5.out).below (belA (Below.refl _ _))) (Ints.one (by rw [World.cell?_alloc_at _ _ _ _ (by simp)]; rfl)) m1 m2 HF.out (Res.one p3 p4) (by omega) (by omega)).mono ?_
        rintro e w6 ⟨B6, c6, rfl, ho6, hb6⟩
        rw [← HWG.out, HWL.out] at ho6
        rw [← HWG.out, HWL.out]
        have HX6 := Lib.hid (belT (belA HX5.out) hb6)
        have HO6 := Lib.hid ho6
        have HOk := Lib.hid (ownBelow HO.out HX6.out)
        clear ho6 hb6 k5 HO5
        go_wp2_with fail
        refine (yAdd_any q C xs.length oc (itK q xs ys k) B6 xs.length c6 (wgtL q xs ys k) _ (Ints.of_own HOk.out) (Ints.of_own HO6.out) m1 m2 HKR.out HWR.out (by omega) (by omega)).mono ?_
        rintro e w7 ⟨B7, c7, rfl, ho7, hb7⟩
        rw [← HKS.out, HKL.out] at ho7
        rw [← HKS.out, HKL.out]
        have HX7 := Lib.hid (belT HX6.out hb7)
        have HO7 := Lib.hid (ownDown ho7 (Nat.le_trans HB.out.size HX6.out.size))
        clear ho7 hb7
        go_wp2
        go_roundw
        case rel => exact ⟨k + 1, by omega, by go_num, HO7, Lib.hid (belT HB.out HX7.out)⟩
        case measure => simp [intOf]; omega
      · have i6 : (k : Int) + 1 < (c : Int) := by omega
        have i7 : ¬ c = k + 1 := hkc
        have HNX := HN1
        have hwk : IntKind.i64.wrap ((k : Int) + 1) = (k : Int) + 1 := by rw [IntKind.wrap_i64]; omega
        go_wp2
        refine wp_region_held_drew (S := fun _ => True) (by kernel_rfl) ?_ (fun hHeld => ?_)
        · exact trivial
        refine heldTake (i := 0) (v := ?_) (some 24) rfl rfl (by kernel_rfl) (by kernel_rfl) (by kernel_rfl) (fun _ _ _ h => h) (Or.inl ⟨by rfl, ?_⟩) (by assumption) ?_
        rotate_left
        · (intro W hSw; (try dsimp only at hSw); go_simp; all_goals first | with_reducible rfl | (simp [*]; done) | (intro hh; exfalso; omega) | fail)
        try simp only [Act.put, List.setIfInBounds_toArray, List.set_cons_zero, List.set_cons_succ]
        refine heldTake (i := 1) (v := ?_) (some 25) rfl rfl (by kernel_rfl) (by kernel_rfl) (by kernel_rfl) (fun _ _ _ h => h) (Or.inl ⟨by rfl, ?_⟩) (by assumption) ?_
        rotate_left
        · (intro W hSw; (try dsimp only at hSw); go_simp; all_goals first | with_reducible rfl | (simp [*]; done) | (intro hh; exfalso; omega) | fail)
        try simp only [Act.put, List.setIfInBounds_toArray, List.set_cons_zero, List.set_cons_succ]
        refine heldTake (i := 2) (v := .slice (some ⟨b, off, none⟩) k c) (some 26) rfl rfl (by kernel_rfl) (by kernel_rfl) (by kernel_rfl) (fun _ _ _ h => h) (Or.inl ⟨by rfl, ?_⟩) (by assumption) ?_
        · (intro W hSw; (try dsimp only at hSw); go_simp; all_goals first | with_reducible rfl | (simp [*]; done) | (intro hh; exfalso; omega) | fail)
        try simp only [Act.put, List.setIfInBounds_toArray, List.set_cons_zero, List.set_cons_succ]
        refine heldTake (i := 4) (v := ?_) (some 28) rfl rfl (by kernel_rfl) (by kernel_rfl) (by kernel_rfl) (fun _ _ _ h => h) (Or.inl ⟨by rfl, ?_⟩) (by assumption) ?_
        rotate_left
        · (intro W hSw; (try dsimp only at hSw); go_simp; all_goals first | with_reducible rfl | (simp [*]; done) | (intro hh; exfalso; omega) | fail)
        try simp only [Act.put, List.setIfInBounds_toArray, List.set_cons_zero, List.set_cons_succ]
        refine heldTake (i := 5) (v := ?_) (some 29) rfl rfl (by kernel_rfl) (by kernel_rfl) (by kernel_rfl) (fun _ _ _ h => h) (Or.inl ⟨by rfl, ?_⟩) (by assumption) ?_
        rotate_left
        · (intro W hSw; (try dsimp only at hSw); go_simp; all_goals first | with_reducible rfl | (simp [*]; done) | (intro hh; exfalso; omega) | fail)
        try simp only [Act.put, List.setIfInBounds_toArray, List.set_cons_zero, List.set_cons_succ]
        refine heldTake (i := 6) (v := .int .i64 ((k : Int) + 1)) (some 30) rfl rfl (by kernel_rfl) (by kernel_rfl) (by kernel_rfl) (fun _ _ _ h => h) (Or.inl ⟨by rfl, ?_⟩) (by assumption) ?_
        · (intro W hSw; (try dsimp only at hSw); go_simp; all_goals first | with_reducible rfl | (simp [*]; done) | (intro hh; exfalso; omega) | fail)
        try simp only [Act.put, List.setIfInBounds_toArray, List.set_cons_zero, List.set_cons_succ]
        refine heldTake (i := 7) (v := .slice (some ⟨b, off + (k + 1), none⟩) (xs.length - (k + 1)) (c - (k + 1))) (some 31) rfl rfl (by kernel_rfl) (by kernel_rfl) (by kernel_rfl) (fun _ _ _ h => h) (Or.inl ⟨by rfl, ?_⟩) (by assumption) ?_
        · (intro W hSw; (try dsimp only at hSw); go_simp; all_goals first | with_reducible rfl | (simp [*]; done) | (intro hh; exfalso; omega) | fail)
        try simp only [Act.put, List.setIfInBounds_toArray, List.set_cons_zero, List.set_cons_succ]
        refine wpAnyH_ready (rs := [3]) (by kernel_rfl) (by simp) ?_
        refine AllReadyH.cons rfl (fun K hK => ?_) AllReadyH.nil
        go_simp
        (go_at_call 139; refine (l1Own_any _ k _ (xs.take k) _ (Ints.drew hI1.out) (by omega)).mono ?_; rintro e w2 ⟨A2, c2, rfl, ho2, hb2⟩)
        refine hK.out _ _ trivial (fun hNew => ?_)
        clear hK K hHeld
        have hHeld := hNew; clear hNew
        have HO2 := Lib.hid ho2; have HB2 := Lib.hid ((belD (Below.refl wr.heap.size wr)).trans hb2); clear ho2 hb2
        try simp only [Act.put, List.setIfInBounds_toArray, List.set_cons_zero, List.set_cons_succ]
        refine wpAnyH_ready (rs := [8]) (by kernel_rfl) (by simp) ?_
        refine AllReadyH.cons rfl (fun K hK => ?_) AllReadyH.nil
        refine step_appI (by rfl) _ _ (by rfl) (by rfl) (by rfl) (hI2.out.below HB2.out) HO2.out (by omega) HB2.out.size ?_
        intro A3 c3 w3 hown3 hg3
        refine hK.out _ _ trivial (fun hNew => ?_)
        clear hK K hHeld
        have hHeld := hNew; clear hNew
        have HB3 := Lib.hid (own_below HB2.out HB2.out.size HO2.out hg3); have HO3 := Lib.hid hown3; clear hown3 hg3
        try simp only [Act.put, List.setIfInBounds_toArray, List.set_cons_zero, List.set_cons_succ]
        refine heldTake (i := 9) (v := ?_) (some 10) rfl rfl (by kernel_rfl) (by kernel_rfl) (by kernel_rfl) (fun _ _ _ h => h) (Or.inl ⟨by rfl, ?_⟩) (by assumption) ?_
        rotate_left
        · (intro W hSw; (try dsimp only at hSw); go_simp; all_goals first | with_reducible rfl | (simp [*]; done) | (intro hh; exfalso; omega) | fail)
        try simp only [Act.put, List.setIfInBounds_toArray, List.set_cons_zero, List.set_cons_succ]
        refine wpAnyH_done (by kernel_rfl) ?_ _
        rw [HNX.out, HE.out] at HO3
        go_wp2_with fail
        rw [HNX.out]
        have HO3' : Hid (w3.ownsRow wr.heap.size 3 1 (.slice A3 (xs.length - 1) c3) (xs.length - 1) ((xs.eraseIdx k).map (Value.int .i64))) := HO3
        refine (yRoots_any q A3 (xs.length - 1) c3 (xs.eraseIdx k) _ (Ints.of_own HO3'.out) m1 m2 HRR.out (by omega)).mono ?_
        rintro e w4 ⟨B4, c4, rfl, ho4, hb4⟩
        rw [← HOT.out] at ho4
        have hX4 := belT HB3.out hb4
        have HO4 := Lib.hid ho4
        have HX4 := Lib.hid hX4
        clear ho4 hb4 hX4 HO3 HO3' HO2 HB2 HB3
        go_wp2_with fail
        refine (yEval_any q B4 (xs.length - 1 + 1) c4 (othL q xs k) a _ (Ints.of_own HO4.out) m1 m2 HF.out.all_ a0 a1).mono ?_
        rintro e w5 ⟨rfl, hb5⟩
        have HX5 := Lib.hid (belT HX4.out hb5)
        have HO5 := Lib.hid (ownBelow HO4.out hb5)
        clear hb5 HO4 HX4
        go_wp2_with fail
        refine (nInverse_any _ q _ v0 v1 m1 (by omega)).mono ?_
        rintro e w' ⟨yy, rfl, hy, rfl⟩
        have hy2 := hy HGC.out
        rw [← HBK.out] at hy2
        subst hy2
        clear hy
        have k5 := keepB HX5.out HC'.out
        go_wp2_with fail
        refine (yMul_any q B4 (xs.length - 1 + 1) c4 (othL q xs k) _ 1 1 [y * yy % q] _ ((Ints.of_own HO5.out).below (belA (Below.refl _ _))) (Ints.one (by rw [World.cell?_alloc_at _ _ _ _ (by simp)]; rfl)) m1 m2 HF.out (Res.one p3 p4) (by omega) (by omega)).mono ?_
        rintro e w6 ⟨B6, c6, rfl, ho6, hb6⟩
        rw [← HWG.out, HWL.out] at ho6
        rw [← HWG.out, HWL.out]
        have HX6 := Lib.hid (belT (belA HX5.out) hb6)
        have HO6 := Lib.hid ho6
        have HOk := Lib.hid (ownBelow HO.out HX6.out)
        clear ho6 hb6 k5 HO5
        go_wp2_with fail
        refine (yAdd_any q C xs.length oc (itK q xs ys k) B6 xs.length c6 (wgtL q xs ys k) _ (Ints.of_own HOk.out) (Ints.of_own HO6.out) m1 m2 HKR.out HWR.out (by omega) (by omega)).mono ?_
        rintro e w7 ⟨B7, c7, rfl, ho7, hb7⟩
        rw [← HKS.out, HKL.out] at ho7
        rw [← HKS.out, HKL.out]
        have HX7 := Lib.hid (belT HX6.out hb7)
        have HO7 := Lib.hid (ownDown ho7 (Nat.le_trans HB.out.size HX6.out.size))
        clear ho7 hb7
        go_wp2
        go_roundw
        case rel => exact ⟨k + 1, by omega, by go_num, HO7, Lib.hid (belT HB.out HX7.out)⟩
        case measure => simp [intOf]; omega
    · have e : k = xs.length := by omega
      subst e
      go_wp2
      go_ret
      exact ⟨_, _, rfl, HO.out, HB.out⟩
set_option maxHeartbeats 800000 in
theorem sInterpolate_ri (q : Int) (A : Option Addr) (n c : Nat) (xs : List Int) (A' : Option Addr) (n' c' : Nat) (ys : List Int) (w : World) (h : Ints w A n xs) (h' : Ints w A' n' ys) (hcap : n ≤ c) :
    Calls Try.prog 49 #[.int .i64 q, .slice A n c, .slice A' n' c'] w (RI w (itM q xs ys)) := by
  have hl := h.len
  subst hl
  have HI := Lib.hid h
  have HI' := Lib.hid h'
  clear h h'
  cases h1 : tabB q xs ys
  · have HN := Lib.hid (it_no h1)
    go_enter Try.func49, Try.ntmps49
    go_wp2_with fail
    refine (yTable_any q A xs.length c xs A' n' c' ys _ HI.out HI'.out hcap).mono ?_
    rintro e w1_ ⟨rfl, hb1⟩
    have hW := hb1
    obtain ⟨hc, hf⟩ := bcell hW
    rw [h1]
    go_wp2
    go_ret2
    exact RI.no HN.out hW
  · have HN := Lib.hid (it_yes h1)
    go_enter Try.func49, Try.ntmps49
    go_wp2_with fail
    refine (yTable_any q A xs.length c xs A' n' c' ys _ HI.out HI'.out hcap).mono ?_
    rintro e w1_ ⟨rfl, hb1⟩
    have hW := hb1
    obtain ⟨hc, hf⟩ := bcell hW
    rw [h1]
    go_wp2_with (go_at_call 100; refine (yInterpolate_any q A xs.length c xs A' n' c' ys _ (HI.out.below hW) (HI'.out.below hW) hcap h1).mono ?_; rintro e w2 ⟨B2, c2, rfl, ho2, hb2⟩; have HO2 := Lib.hid ho2; clear ho2)
    go_ret2
    exact RI.yes HN.out (ownDown HO2.out hW.size) (belT hW hb2)
theorem sInterpolate_any (q : Int) (A : Option Addr) (n c : Nat) (xs : List Int) (A' : Option Addr) (n' c' : Nat) (ys : List Int) (w : World) (h : Ints w A n xs) (h' : Ints w A' n' ys) (hcap : n ≤ c) (hcap' : n' ≤ c') :
    Calls Try.prog 49 #[.int .i64 q, .slice A n c, .slice A' n' c'] w fun e w' => ∃ B cc, e = .returned (.tuple #[.slice B (itM q xs ys).1.length cc, .bool (itM q xs ys).2]) ∧ w'.ownsRow w.heap.size 3 1 (.slice B (itM q xs ys).1.length cc) (itM q xs ys).1.length ((itM q xs ys).1.map (Value.int .i64)) ∧ Below w.heap.size w w' := sInterpolate_ri q A n c xs A' n' c' ys w h h' hcap
set_option maxRecDepth 100000 in
set_option maxHeartbeats 4000000 in
theorem iInterpolate_ri (q : Int) (A : Option Addr) (n c : Nat) (xs : List Int) (A' : Option Addr) (n' c' : Nat) (ys : List Int) (w : World) (h : Ints w A n xs) (h' : Ints w A' n' ys) (hcap : n ≤ c) :
    Calls Try.prog 50 #[.int .i64 q, .slice A n c, .slice A' n' c'] w (RI w (itM q xs ys)) := by
  have hl := h.len
  subst hl
  have hl := h'.len
  subst hl
  have HI := Lib.hid h
  have HI' := Lib.hid h'
  have hle := h.le
  have hle' := h'.le
  clear h h'
  cases h1 : arP q xs
  · have HN := Lib.hid (it_no (q := q) (xs := xs) (ys := ys) (by rw [tabB, h1]; rfl))
    go_enter Try.func50, Try.ntmps50
    go_wp2_with fail
    refine (arePoints_any q A xs.length c xs _ HI.out hcap).mono ?_
    rintro e w1_ ⟨rfl, hb1⟩
    have hW := hb1
    obtain ⟨hc, hf⟩ := bcell hW
    rw [h1]
    go_wp2
    go_ret2
    exact RI.no HN.out hW
  · have hm := (poly_of (arP_of h1).1)
    obtain ⟨m1, m2, m3, _⟩ := hm
    by_cases hxy : ys.length = xs.length
    · have he : ((ys.length : Int) != (xs.length : Int)) = false := by simp; omega
      have hb2 : (ys.length == xs.length) = true := by simp [hxy]
      cases h2 : (ys.all fun z => inB z 0 (q - 1))
      · have HN := Lib.hid (it_no (q := q) (xs := xs) (ys := ys) (by rw [tabB, h2]; simp))
        clear hxy
        go_enter Try.func50, Try.ntmps50
        go_wp2_with fail
        refine (arePoints_any q A xs.length c xs _ HI.out hcap).mono ?_
        rintro e w1_ ⟨rfl, hb1⟩
        have hW := hb1
        obtain ⟨hc, hf⟩ := bcell hW
        rw [h1]
        go_wp2_with (go_at_call 97; refine (areBelow_any A' ys.length c' ys q _ (HI'.out.below hW) (by omega) (by omega)).mono ?_; rintro e w2 ⟨rfl, hb2⟩; rw [h2])
        go_ret2
        exact RI.no HN.out (belT hW hb2)
      · have ht : tabB q xs ys = true := by rw [tabB, h1, h2, hb2]; rfl
        have HN := Lib.hid (it_yes ht)
        obtain ⟨_, t1, t2, t3, t4, t5, t6, t7⟩ := tab_all ht
        have T3 := Lib.hid t3
        have HT := Lib.hid (And.intro t4 (And.intro t5 (And.intro t6 t7)))
        have hq0 : (q == 0) = false := by simp; omega
        obtain ⟨i0, hi, hz0, hz1, hz2⟩ := info_parts int_info
        clear t3 t4 t5 t6 t7 hxy ht hb2
        go_enter Try.func50, Try.ntmps50
        go_wp2_with fail
        refine (arePoints_any q A xs.length c xs _ HI.out hcap).mono ?_
        rintro e w1_ ⟨rfl, hb1⟩
        have hW := hb1
        obtain ⟨hc, hf⟩ := bcell hW
        rw [h1]
        go_wp2_with (first | (go_at_call 97; refine (areBelow_any A' ys.length c' ys q _ (HI'.out.below hW) (by omega) (by omega)).mono ?_; rintro e w2 ⟨rfl, hb2⟩; rw [h2]; have HB2 := Lib.hid (belT hW hb2); clear hb2) | (at_make; refine wpList_make_full _ rfl _ _ 24 rfl w2.heap.size 3 i0 (.int .i64 0) 1 Try.underlying24 hi hz0 hz1 .i64 .i64 _ _ xs.length rfl rfl rfl rfl (by rw [hz2]; omega) (by simp only [maxLen]; omega) (Nat.le_refl _) ?_; intro w3 hown hg))
        have hw3 : Below w2.heap.size w2 w3 := (Below.refl _ _).grown hg (Nat.le_refl _) (by intro k hk; cases hk)
        have H0 := Lib.hid (own_zero hown)
        have HW2 := Lib.hid (belT HB2.out hw3)
        have hsz := HB2.out.size
        clear hown hg hW hc hf hb1
        go_loopw [34] (fun i wr => ∃ k : Nat, k ≤ xs.length ∧ i = .int .i64 k ∧ Hid (wr.ownsRow w.heap.size 3 1 (.slice (some ⟨w2.heap.size, 0, none⟩) xs.length xs.length) xs.length ((itK q xs ys k).map (Value.int .i64))) ∧ Hid (Below w.heap.size w wr)) (fun i _ => xs.length - (intOf i).toNat)
        case atStart => exact ⟨0, by omega, rfl, Lib.hid (ownDown H0.out hsz), HW2⟩
        case round =>
          obtain ⟨k, hk, rfl, HO, HB⟩ := hrel
          by_cases hlt : k < xs.length
          · have HKS := Lib.hid (itK_step (q := q) (ys := ys) hlt)
            have HBLn := Lib.hid (basL_len (q := q) hlt)
            have HBR := Lib.hid (show Res q (basL q xs k) from mulL_res (by omega))
            have HKR := Lib.hid (itK_res (q := q) (ys := ys) (show 0 < q by omega) t1 k)
            have HKL := Lib.hid (itK_len (q := q) (ys := ys) t1 k)
            obtain ⟨y0, y1⟩ := HT.out.2.2.2 k (by have := T3.out; omega)
            have hky : k < ys.length := by have := T3.out; omega
            have HGG := Lib.hid fun (j : Nat) (hj : j < xs.length) => (show (gL q xs ys k).getD j 0 = (basL q xs k).getD j 0 * ys.getD k 0 % q by
              rw [gL, List.getD_eq_getElem?_getD, List.getElem?_map, List.getElem?_eq_getElem (by rw [HBLn.out]; exact hj), List.getD_eq_getElem?_getD (l := basL q xs k), List.getElem?_eq_getElem (by rw [HBLn.out]; exact hj)]
              rfl)
            have i1 : (0 : Int) ≤ (k : Int) := by omega
            have i2 : (k : Int) < (xs.length : Int) := by omega
            have i3 : (k : Int) < (ys.length : Int) := by omega
            generalize gL q xs ys k = G at HKS HGG
            generalize itK q xs ys k = row at HO HKS HKR HKL
            go_wp2_with fail
            refine (basisAt_any q A xs.length c xs k _ (HI.out.below HB.out) m1 m2 HT.out.1 HT.out.2.1 HT.out.2.2.1 m3 hlt).mono ?_
            rintro e w4 ⟨B4, c4, rfl, ho4, hb4⟩
            have hgb := (HO.out.lt w2.heap.size rfl).2
            have HI4 := Lib.hid (ownDown (B' := w2.heap.size + 1) ho4 (by omega))
            have HB4 := Lib.hid (belT HB.out hb4)
            have HO4 := Lib.hid (ownBelow HO.out hb4)
            clear ho4 hb4 HO HB
            generalize basL q xs k = bs at HI4 HBLn HBR HGG
            go_wp2
            go_loopw [42] (fun i wr => ∃ j : Nat, j ≤ xs.length ∧ i = .int .i64 j ∧ Hid (wr.ownsRow w.heap.size 3 1 (.slice (some ⟨w2.heap.size, 0, none⟩) xs.length xs.length) xs.length ((addK q row G j).map (Value.int .i64))) ∧ Hid (Below w.heap.size w wr) ∧ Hid (wr.ownsRow (w2.heap.size + 1) 3 1 (.slice B4 xs.length c4) xs.length (bs.map (Value.int .i64)))) (fun i _ => xs.length - (intOf i).toNat)
            case atStart => exact ⟨0, by omega, rfl, HO4, HB4, HI4⟩
            case round =>
              clear HO4 HB4 HI4
              obtain ⟨j, hj, rfl, HO, HB, HIb⟩ := hrel
              by_cases hlt2 : j < xs.length
              · obtain ⟨b, off, eB, hb, hc⟩ := (Ints.of_own HIb.out).at_ hlt2
                subst eB
                obtain ⟨b', off', rfl, hb', hc'⟩ := (HI'.out.below HB.out).at_ hky
                obtain ⟨z0, z1⟩ := HBR.out j (by rw [HBLn.out]; exact hlt2)
                have hd := own_at (k := j) HO.out hlt2
                have hfz := HO.out.frozenAt j
                obtain ⟨r1, r2⟩ := (addK_res (G := G) (show 0 < q by omega) HKR.out j).getD j (by omega)
                have HT2 := Lib.hid (show addK q row G (j + 1) = (addK q row G j).set j (((addK q row G j).getD j 0 + G.getD j 0) % q) from rfl)
                have HGJ := Lib.hid (HGG.out j hlt2)
                generalize bs.getD j 0 = z at hc z0 z1 HGJ
                generalize (addK q row G j).getD j 0 = r at hd r1 r2 HT2
                generalize ys.getD k 0 = y at hc' y0 y1 HGJ
                obtain ⟨p1, p2⟩ := mul_bdi ⟨z0, z1⟩ ⟨y0, y1⟩ m2
                have p3 := Int.emod_nonneg (z * y) (show q ≠ 0 by omega)
                have p4 := Int.emod_lt_of_pos (z * y) (show 0 < q by omega)
                have p5 := Int.emod_nonneg (r + z * y % q) (show q ≠ 0 by omega)
                have HP := Lib.hid (own_put (k := j) (z := (r + z * y % q) % q) HO.out)
                rw [← HGJ.out, ← HT2.out, HGJ.out] at HP
                have j1 : (0 : Int) ≤ (j : Int) := by omega
                have j2 : (j : Int) < (xs.length : Int) := by omega
                go_wp2
                go_region
                go_wp2
                go_roundw
                case rel => exact ⟨j + 1, by omega, by go_num, Lib.hid (own_drew (by simpa using HP.out)), Lib.hid (belD (belS HB.out (by simp; omega))), Lib.hid (own_drew (own_set2 HIb.out (by omega)))⟩
                case measure => simp [intOf]; omega
              · have e : j = xs.length := by omega
                subst e
                rw [← HKS.out] at HO
                go_wp2
                go_roundw
                case rel => exact ⟨k + 1, by omega, by go_num, HO, HB⟩
                case measure => simp [intOf]; omega
          · have e : k = xs.length := by omega
            subst e
            go_wp2
            go_ret2
            exact RI.yes HN.out HO.out HB.out
    · have he : ((ys.length : Int) != (xs.length : Int)) = true := by simp; omega
      have hb2 : (ys.length == xs.length) = false := by simp [hxy]
      have HN := Lib.hid (it_no (q := q) (xs := xs) (ys := ys) (by rw [tabB, hb2]; simp))
      clear hxy hb2
      go_enter Try.func50, Try.ntmps50
      go_wp2_with fail
      refine (arePoints_any q A xs.length c xs _ HI.out hcap).mono ?_
      rintro e w1_ ⟨rfl, hb1⟩
      have hW := hb1
      obtain ⟨hc, hf⟩ := bcell hW
      rw [h1]
      go_wp2
      go_ret2
      exact RI.no HN.out hW
theorem iInterpolate_any (q : Int) (A : Option Addr) (n c : Nat) (xs : List Int) (A' : Option Addr) (n' c' : Nat) (ys : List Int) (w : World) (h : Ints w A n xs) (h' : Ints w A' n' ys) (hcap : n ≤ c) (hcap' : n' ≤ c') :
    Calls Try.prog 50 #[.int .i64 q, .slice A n c, .slice A' n' c'] w fun e w' => ∃ B cc, e = .returned (.tuple #[.slice B (itM q xs ys).1.length cc, .bool (itM q xs ys).2]) ∧ w'.ownsRow w.heap.size 3 1 (.slice B (itM q xs ys).1.length cc) (itM q xs ys).1.length ((itM q xs ys).1.map (Value.int .i64)) ∧ Below w.heap.size w w' := iInterpolate_ri q A n c xs A' n' c' ys w h h' hcap
end Go.Proofs.Yteeggmnkcgpfjaa
