/- Contracts of both sides: ReencryptAll. -/
import Derived.Test.YtemhjhaokbgldaaWp
import Derived.Test.YtemhjhaokbgldaaAc
namespace Go.Proofs.Ytemhjhaokbgldaa
open Go.RowKit
set_option linter.unusedVariables false
attribute [local go_sem ↓] Go.wp_at_zero Go.wp_at_succ
set_option linter.unusedSimpArgs false

section
variable {P : Program} {ops : Array Oper} {Q : Exit → Act → World → Prop} {md : Region.Mode} {S : World → Prop} {n : Nat}
theorem end_any : ∀ (k : Nat) (l : Array Bool) (a : Act) (w : World), (∀ i, i < n → l.getD i true = true) → wpAny P md ops Q k l a w → WEnd P md ops Q S n k l a w
  | 0, _, _, _, _, h => h
  | k + 1, l, _, _, hl, h => ⟨h.1, fun i hi => wpOp_mono (fun b u H => ⟨fun c => absurd (mem_ready.1 hi).1 (by rw [hl i c]; simp), end_any k _ b u (fun j hj => by
      by_cases e : i = j
      · exact absurd (mem_ready.1 hi).1 (by rw [e, hl j hj]; simp)
      · rw [getD_set_ne true e]; exact hl j hj) H⟩) (h.2 i hi)⟩
/-- behind number n the region goes on without S -/
theorem EndW.then_ {k : Nat} {o : Oper} {l : Array Bool} {a : Act} {w : World} (hr : Region.ready md ops l = [n]) (ho : ops[n]? = some o) (hl : (List.range n).all (fun i => l.getD i true) = true)
    (h : ∀ K : Act → World → Prop, Shut (∀ b u, wpAny P md ops Q k (l.setIfInBounds n true) b u → K b u) → if Region.wanted o (yielded ops a.tmps) = true then Oper.wp P o a w K Q else K (a.put o.dst undef) w) : EndW P md ops Q S n (k + 1) l a w := by
  intro inv
  refine ⟨fun c => (by rw [hr] at c; cases c), fun m hm => ?_⟩
  rw [hr, List.mem_singleton] at hm
  subst hm
  refine wpOp_step ho fun K hK => h K fun b u q => hK b u ⟨fun c => absurd c (Nat.lt_irrefl _), end_any k _ b u (fun i hi => ?_) q⟩
  rw [getD_set_ne true (by omega)]
  exact List.all_eq_true.1 hl i (List.mem_range.2 hi)
end

/-- the first new ciphertexts -/
def raL (p q g key : Int) (l : List (Int × Int)) (rs : List Int) (k : Nat) : List (Int × Int) := (List.range k).map fun j => reC p q g key (l.getD j (0, 0)).1 (l.getD j (0, 0)).2 (rs.getD j 0)
theorem raL_succ (p q g key : Int) (l : List (Int × Int)) (rs : List Int) (k : Nat) : raL p q g key l rs (k + 1) = raL p q g key l rs k ++ [reC p q g key (l.getD k (0, 0)).1 (l.getD k (0, 0)).2 (rs.getD k 0)] := by simp [raL, List.range_succ]
theorem raL_len (p q g key : Int) (l : List (Int × Int)) (rs : List Int) (k : Nat) : (raL p q g key l rs k).length = k := by simp [raL]

/-- ciphertexts of the call's own, and a truth value, as a result -/
def RCi (w : World) (r : List (Int × Int) × Bool) (e : Ending) (w' : World) : Prop :=
  ∃ B cc, e = .returned (.tuple #[.slice B r.1.length cc, .bool r.2]) ∧ w'.ownsRow w.heap.size 30 2 (.slice B r.1.length cc) r.1.length (cellsL r.1) ∧ Below w.heap.size w w'
theorem RCi.no {w w' : World} {r : List (Int × Int) × Bool} (hr : r = ([], false)) (hb : Below w.heap.size w w') : RCi w r (.returned (.tuple #[.slice none 0 0, .bool false])) w' := by
  subst hr
  exact ⟨none, 0, rfl, ownC_nil _ _, hb⟩
theorem RCi.yes {w w' : World} {r : List (Int × Int) × Bool} {l : List (Int × Int)} {B : Option Addr} {n cc : Nat} (hr : r = (l, true)) (hl : l.length = n) (ho : w'.ownsRow w.heap.size 30 2 (.slice B n cc) n (cellsL l)) (hb : Below w.heap.size w w') : RCi w r (.returned (.tuple #[.slice B n cc, .bool true])) w' := by
  subst hr
  subst hl
  exact ⟨B, cc, rfl, ho, hb⟩
theorem belLess {B B' : Nat} {w w' : World} (h : Below B w w') (hB : B' ≤ B) : Below B' w w' := ⟨h.os, h.tape, h.output, h.size, fun k hk => h.block k (by omega)⟩

def raM (p q g key : Int) (n m : Nat) (l : List (Int × Int)) (rs : List Int) : List (Int × Int) × Bool := if goodB p q g && hasB p q key && allC p q n l && (m == n) && expsB q rs then (raL p q g key l rs n, true) else ([], false)

theorem allC_le {p q : Int} {n : Nat} {l : List (Int × Int)} (h : l.length = n ∧ allC p q n l = true) : l.length ≤ 24 := by
  have h2 := h.2
  simp only [allC, Bool.and_eq_true, decide_eq_true_eq] at h2
  have := h.1
  omega
theorem belA' {B : Nat} {a w : World} {o : Obj} (hB : B ≤ w.heap.size) (h : Below B a w) : Below B a (w.alloc o) := h.alloc hB o

set_option maxRecDepth 100000 in
set_option maxHeartbeats 8000000 in
theorem sReencryptAll_rc (p q g key : Int) (A : Option Addr) (n c : Nat) (l : List (Int × Int)) (A' : Option Addr) (m c' : Nat) (rs : List Int) (w : World) (h : Cips w A n l) (h' : Ints w A' m rs) :
    Calls Try.prog 39 #[.agg #[.int .i64 p, .int .i64 q, .int .i64 g], .int .i64 key, .slice A n c, .slice A' m c'] w (RCi w (raM p q g key n m l rs)) := by
  have HI := Lib.hid h
  have HE := Lib.hid h'
  have hn1 := h.le
  have hn2 := h'.le
  have hll := h.len
  clear h h'
  by_cases hnm : m = n
  · subst hnm
    have hd0 : ((m : Int) != (m : Int)) = false := by simp
    go_enter Try.func39, Try.ntmps39
    go_wp2_with fail
    refine (eKey_any p q g key _).mono ?_
    rintro e w1_ ⟨rfl, hb1⟩
    have hW := hb1
    obtain ⟨hc, hf⟩ := bcell hW
    cases q1 : (goodB p q g && hasB p q key)
    · go_wp2
      go_ret2
      exact RCi.no (by simp [raM, q1]) (belT (by repeat (first | exact Below.refl _ _ | assumption | refine belA ?_ | refine belD ?_ | refine belN ?_ | refine belS ?_ (by simp) | refine belT ?_ (by assumption))) hW)
    obtain ⟨⟨g1, g2, g3, g4, g5, g6⟩, x1, x2⟩ := key_om q1
    go_wp2_with fail
    refine (eGood_any p q g A m c l _ (HI.out.below (belT (by repeat (first | exact Below.refl _ _ | assumption | refine belA ?_ | refine belD ?_ | refine belN ?_ | refine belS ?_ (by simp) | refine belT ?_ (by assumption))) hW)) g1 g2 g3 g4).mono ?_
    rintro e w2_ ⟨rfl, hb2⟩
    clear hc hf
    replace hW := belT hW hb2
    obtain ⟨hc, hf⟩ := bcell hW
    rw [show (decide (m ≤ 24) && l.all (hasC p q)) = allC p q m l from rfl]
    cases q2 : allC p q m l
    · go_wp2
      go_ret2
      exact RCi.no (by simp [raM, q2]) (belT (by repeat (first | exact Below.refl _ _ | assumption | refine belA ?_ | refine belD ?_ | refine belN ?_ | refine belS ?_ (by simp) | refine belT ?_ (by assumption))) hW)
    have hs := allC_small q2
    have h24 := allC_le (And.intro hll q2)
    go_wp2_with fail
    refine (gExps_any p q g A' m c' rs _ (HE.out.below (belT (by repeat (first | exact Below.refl _ _ | assumption | refine belA ?_ | refine belD ?_ | refine belN ?_ | refine belS ?_ (by simp) | refine belT ?_ (by assumption))) hW)) (by omega) (by omega)).mono ?_
    rintro e w3_ ⟨rfl, hb3⟩
    clear hc hf
    replace hW := belT hW hb3
    obtain ⟨hc, hf⟩ := bcell hW
    rw [show (rs.all fun z => inB z 0 (q - 1)) = expsB q rs from rfl]
    cases q3 : expsB q rs
    · go_wp2
      go_ret2
      exact RCi.no (by simp [raM, q3]) (belT (by repeat (first | exact Below.refl _ _ | assumption | refine belA ?_ | refine belD ?_ | refine belN ?_ | refine belS ?_ (by simp) | refine belT ?_ (by assumption))) hW)
    go_wp2
    have hq := Lib.hid (show raM p q g key m m l rs = (raL p q g key l rs m, true) by simp [raM, key_two q1, q2, q3])
    have HS := Lib.hid hs
    have k1 := keepB hW (a := ⟨w.heap.size, 0, none⟩) (v := .int .i64 p) (by rw [World.cell?_alloc_at _ _ _ _ (by simp)]; rfl)
    have k2 := keepB hW (a := ⟨w.heap.size, 1, none⟩) (v := .int .i64 q) (by rw [World.cell?_alloc_at _ _ _ _ (by simp)]; rfl)
    have k3 := keepB hW (a := ⟨w.heap.size, 2, none⟩) (v := .int .i64 g) (by rw [World.cell?_alloc_at _ _ _ _ (by simp)]; rfl)
    have hB : Below w.heap.size w _ := belT (belA (Below.refl _ _)) hW
    obtain ⟨W0, hw0⟩ : ∃ x, x = w3_ := ⟨_, rfl⟩
    subst hw0
    clear hc hf hW
    have K1 := Lib.hid k1
    have K2 := Lib.hid k2
    have K3 := Lib.hid k3
    have hz := World.block_lt_of_cell? _ _ k1
    simp only at hz
    have HB := Lib.hid hB
    clear k1 k2 k3 hB
    go_loopw [10, 38] (fun v i wr => ∃ k : Nat, k ≤ m ∧ i = .int .i64 k ∧ Hid (wr.ownsRow (w.heap.size + 1) 30 2 v k (cellsL (raL p q g key l rs k))) ∧ Hid (Below (w.heap.size + 1) W0 wr)) (fun _ i _ => m - (intOf i).toNat)
    case atStart => exact ⟨0, by omega, rfl, Lib.hid (ownC_nil _ _), Lib.hid (Below.refl _ _)⟩
    case round =>
      obtain ⟨k, hk, rfl, HO, H2⟩ := hrel
      have hzr : W0.heap.size ≤ wr.heap.size := H2.out.size
      have H3 := Lib.hid (HB.out.trans (belLess H2.out (Nat.le_succ _)))
      by_cases hlt : k < m
      · obtain ⟨b, off, rfl, hb, hc, hd⟩ := (HI.out.below H3.out).at_ hlt
        obtain ⟨b2, off2, rfl, hb2, hce⟩ := (HE.out.below H3.out).at_ hlt
        have hsm := HS.out k (by omega)
        have e1 := raL_succ p q g key l rs k
        generalize l.getD k (0, 0) = cc at hc hd hsm e1
        generalize rs.getD k 0 = ex at hce e1
        obtain ⟨u, v⟩ := cc
        simp only at hc hd e1
        obtain ⟨⟨u0, u1⟩, v0, v1⟩ := hsm
        simp only at u0 u1 v0 v1
        generalize hre : reC p q g key u v ex = xy at e1
        obtain ⟨x, y⟩ := xy
        have HR := Lib.hid hre
        have E1 := Lib.hid e1
        have i1 : (0 : Int) ≤ (k : Int) := by omega
        have i2 : (k : Int) < (m : Int) := by omega
        clear e1 hre
        go_wp2
        have HW := Lib.hid (belA (o := .cells #[.int .i64 u, .int .i64 v] 30) (Below.refl wr.heap.size wr))
        have k1 := keepB HW.out (keepL H2.out (Nat.lt_succ_self _) K1.out)
        have k2 := keepB HW.out (keepL H2.out (Nat.lt_succ_self _) K2.out)
        have k3 := keepB HW.out (keepL H2.out (Nat.lt_succ_self _) K3.out)
        have k6 : (wr.alloc (.cells #[.int .i64 u, .int .i64 v] 30)).cell? ⟨wr.heap.size, 0, none⟩ = some (.int .i64 u) := (by rw [World.cell?_alloc_at _ _ _ _ (by simp)]; rfl)
        have k7 : (wr.alloc (.cells #[.int .i64 u, .int .i64 v] 30)).cell? ⟨wr.heap.size, 1, none⟩ = some (.int .i64 v) := (by rw [World.cell?_alloc_at _ _ _ _ (by simp)]; rfl)
        have k8 := keepB HW.out hce
        have hz4 : wr.heap.size < (wr.alloc (.cells #[.int .i64 u, .int .i64 v] 30)).heap.size := by simp
        generalize hW1 : wr.alloc (.cells #[.int .i64 u, .int .i64 v] 30) = W1 at HW k1 k2 k3 k6 k7 k8 hz4
        clear hW1 hc hd hb hb2 hce
        refine region_end 10 (S := (fun W => W.cell? ⟨w.heap.size, 0, none⟩ = some (.int .i64 p) ∧ W.cell? ⟨w.heap.size, 1, none⟩ = some (.int .i64 q) ∧ W.cell? ⟨w.heap.size, 2, none⟩ = some (.int .i64 g) ∧ W.cell? ⟨wr.heap.size, 0, none⟩ = some (.int .i64 u) ∧ W.cell? ⟨wr.heap.size, 1, none⟩ = some (.int .i64 v) ∧ W.cell? ⟨b2, off2 + k, none⟩ = some (.int .i64 ex))) (by kernel_rfl) (by kernel_rfl) ?_ (fun hE hHeld => ?_)
        · ((try dsimp only); (go_split_ands; (repeat' apply And.intro) <;> first | assumption | (refine keepB (belA (Below.refl _ _)) ?_; assumption) | (refine keepB hb1 ?_; assumption) | (refine keepS ?_ (keepS ?_ ?_) <;> first | assumption | (simp; done) | (simp; omega)) | (refine keepS ?_ ?_ <;> first | assumption | (simp; done) | (simp; omega)) | go_keep))
        refine EndW.take (i := 0) (v := ?_) (some 43) hE rfl rfl (by kernel_rfl) (by kernel_rfl) (by omega) (fun _ _ _ h => h) (Or.inl ⟨by rfl, ?_⟩) (by assumption) ?_
        rotate_left
        · (intro W hSw; (try dsimp only at hSw); go_simp; all_goals with_reducible rfl)
        try simp only [Act.put, List.setIfInBounds_toArray, List.set_cons_zero, List.set_cons_succ]
        refine EndW.take (i := 1) (v := ?_) (some 44) hE rfl rfl (by kernel_rfl) (by kernel_rfl) (by omega) (fun _ _ _ h => h) (Or.inl ⟨by rfl, ?_⟩) (by assumption) ?_
        rotate_left
        · (intro W hSw; (try dsimp only at hSw); go_simp; all_goals with_reducible rfl)
        try simp only [Act.put, List.setIfInBounds_toArray, List.set_cons_zero, List.set_cons_succ]
        refine EndW.take (i := 2) (v := ?_) (some 45) hE rfl rfl (by kernel_rfl) (by kernel_rfl) (by omega) (fun _ _ _ h => h) (Or.inl ⟨by rfl, ?_⟩) (by assumption) ?_
        rotate_left
        · (intro W hSw; (try dsimp only at hSw); go_simp; all_goals with_reducible rfl)
        try simp only [Act.put, List.setIfInBounds_toArray, List.set_cons_zero, List.set_cons_succ]
        refine EndW.take (i := 3) (v := ?_) (some 46) hE rfl rfl (by kernel_rfl) (by kernel_rfl) (by omega) (fun _ _ _ h => h) (Or.inl ⟨by rfl, ?_⟩) (by assumption) ?_
        rotate_left
        · (intro W hSw; (try dsimp only at hSw); go_simp; all_goals with_reducible rfl)
        try simp only [Act.put, List.setIfInBounds_toArray, List.set_cons_zero, List.set_cons_succ]
        refine EndW.take (i := 4) (v := ?_) (some 47) hE rfl rfl (by kernel_rfl) (by kernel_rfl) (by omega) (fun _ _ _ h => h) (Or.inl ⟨by rfl, ?_⟩) (by assumption) ?_
        rotate_left
        · (intro W hSw; (try dsimp only at hSw); go_simp; all_goals with_reducible rfl)
        try simp only [Act.put, List.setIfInBounds_toArray, List.set_cons_zero, List.set_cons_succ]
        refine EndW.take (i := 5) (v := ?_) (some 48) hE rfl rfl (by kernel_rfl) (by kernel_rfl) (by omega) (fun _ _ _ h => h) (Or.inl ⟨by rfl, ?_⟩) (by assumption) ?_
        rotate_left
        · (intro W hSw; (try dsimp only at hSw); go_simp; all_goals with_reducible rfl)
        try simp only [Act.put, List.setIfInBounds_toArray, List.set_cons_zero, List.set_cons_succ]
        refine EndW.take (i := 6) (v := ?_) (some 49) hE rfl rfl (by kernel_rfl) (by kernel_rfl) (by omega) (fun _ _ _ h => h) (Or.inl ⟨by rfl, ?_⟩) (by assumption) ?_
        rotate_left
        · (intro W hSw; (try dsimp only at hSw); go_simp; all_goals with_reducible rfl)
        try simp only [Act.put, List.setIfInBounds_toArray, List.set_cons_zero, List.set_cons_succ]
        refine EndW.take (i := 7) (v := ?_) (some 50) hE rfl rfl (by kernel_rfl) (by kernel_rfl) (by omega) (fun _ _ _ h => h) (Or.inl ⟨by rfl, ?_⟩) (by assumption) ?_
        rotate_left
        · (intro W hSw; (try dsimp only at hSw); go_simp; all_goals with_reducible rfl)
        try simp only [Act.put, List.setIfInBounds_toArray, List.set_cons_zero, List.set_cons_succ]
        refine EndW.one (i := 8) (by kernel_rfl) (by omega) ⟨_, rfl, fun K hK => ?_⟩
        go_simp
        go_at_call 71
        refine (eRe_any p q g key u v ex _ (by omega) (by omega) (by omega) (by omega) (by omega) (by omega) (by omega) (by omega) (by omega) (by omega) (by omega) (by omega)).mono ?_
        rintro e' w1 ⟨rfl, hb1⟩
        rw [HR.out]
        simp only
        have hX1 : Below W1.heap.size W1 w1 := (by repeat (first | exact Below.refl _ _ | assumption | refine belA ?_ | refine belD ?_ | refine belN ?_ | refine belS ?_ (by simp <;> omega) | refine belT ?_ (by assumption)))
        refine hK.out _ _ ?_ (fun hNew => ?_)
        · ((try dsimp only); (go_split_ands; (repeat' apply And.intro) <;> first | assumption | (refine keepB (belA (Below.refl _ _)) ?_; assumption) | (refine keepB hb1 ?_; assumption) | (refine keepS ?_ (keepS ?_ ?_) <;> first | assumption | (simp; done) | (simp; omega)) | (refine keepS ?_ ?_ <;> first | assumption | (simp; done) | (simp; omega)) | go_keep))
        clear hK K hHeld
        have hHeld := hNew; clear hNew
        try simp only [Act.put, List.setIfInBounds_toArray, List.set_cons_zero, List.set_cons_succ]
        clear hb1
        refine EndW.one (i := 9) (by kernel_rfl) (by omega) ⟨_, rfl, fun K hK => ?_⟩
        go_simp
        refine hK.out _ _ ?_ (fun hNew => ?_)
        · ((try dsimp only); (go_split_ands; (repeat' apply And.intro) <;> first | assumption | (refine keepB (belA (Below.refl _ _)) ?_; assumption) | (refine keepB hb1 ?_; assumption) | (refine keepS ?_ (keepS ?_ ?_) <;> first | assumption | (simp; done) | (simp; omega)) | (refine keepS ?_ ?_ <;> first | assumption | (simp; done) | (simp; omega)) | go_keep))
        clear hK K hHeld
        have hHeld := hNew; clear hNew
        try simp only [Act.put, List.setIfInBounds_toArray, List.set_cons_zero, List.set_cons_succ]
        refine EndW.then_ (by kernel_rfl) rfl (by kernel_rfl) (fun K hK => ?_)
        have hX : Below wr.heap.size wr w1 := belT HW.out hX1
        have HO1 := Lib.hid ((ownBelow HO.out hX).alloc (.cells #[.int .i64 x, .int .i64 y] 30))
        have hs1 : w.heap.size + 1 ≤ w1.heap.size := by have := hX.size; omega
        refine step_appC rfl _ _ rfl rfl rfl (by rw [World.cell?_alloc_at _ _ _ _ (by simp)]; rfl) (by rw [World.cell?_alloc_at _ _ _ _ (by simp)]; rfl) HO1.out (by omega) (by simp; omega) ?_
        intro A2 c2 w2 hown2 hg2
        have hbb : Below (w.heap.size + 1) W0 w2 := own_below (belA' (by omega) (H2.out.trans (belLess hX (by omega)))) (by simp; omega) HO1.out hg2
        rw [← E1.out] at hown2
        have HN := Lib.hid hown2
        have HBB := Lib.hid hbb
        clear hown2 hg2 hbb
        refine hK.out _ _ ?_
        clear hK K hHeld
        try simp only [Act.put, List.setIfInBounds_toArray, List.set_cons_zero, List.set_cons_succ]
        refine wpAny_take (i := 11) (v := ?_) rfl (by kernel_rfl) (by kernel_rfl) (by kernel_rfl) (fun _ _ _ h => h) (Or.inl ⟨by rfl, ?_⟩) ?_
        rotate_left
        · (intro W; go_simp; all_goals with_reducible rfl)
        try simp only [Act.put, List.setIfInBounds_toArray, List.set_cons_zero, List.set_cons_succ]
        refine wpAny_done (by kernel_rfl) ?_ _
        go_wp2
        go_roundw
        all_goals first | (simp [intOf]; omega; done) | exact ⟨k + 1, by omega, by go_num, HN, HBB⟩
      · have e : k = m := by omega
        subst e
        obtain ⟨A2, c2, rfl⟩ := own_shapeC HO.out
        go_wp2
        go_ret2
        exact RCi.yes hq.out (raL_len _ _ _ _ _ _ _) (ownDown HO.out (Nat.le_succ _)) H3.out
  · have hd0 : ((m : Int) != (n : Int)) = true := by simp; omega
    have hd1 : (m == n) = false := by simp [hnm]
    have HD := Lib.hid hd1
    clear hd1
    go_enter Try.func39, Try.ntmps39
    go_wp2_with fail
    refine (eKey_any p q g key _).mono ?_
    rintro e w1_ ⟨rfl, hb1⟩
    have hW := hb1
    obtain ⟨hc, hf⟩ := bcell hW
    cases q1 : (goodB p q g && hasB p q key)
    · go_wp2
      go_ret2
      exact RCi.no (by simp [raM, q1]) (belT (by repeat (first | exact Below.refl _ _ | assumption | refine belA ?_ | refine belD ?_ | refine belN ?_ | refine belS ?_ (by simp) | refine belT ?_ (by assumption))) hW)
    obtain ⟨⟨g1, g2, g3, g4, g5, g6⟩, x1, x2⟩ := key_om q1
    go_wp2_with fail
    refine (eGood_any p q g A n c l _ (HI.out.below (belT (by repeat (first | exact Below.refl _ _ | assumption | refine belA ?_ | refine belD ?_ | refine belN ?_ | refine belS ?_ (by simp) | refine belT ?_ (by assumption))) hW)) g1 g2 g3 g4).mono ?_
    rintro e w2_ ⟨rfl, hb2⟩
    clear hc hf
    replace hW := belT hW hb2
    obtain ⟨hc, hf⟩ := bcell hW
    rw [show (decide (n ≤ 24) && l.all (hasC p q)) = allC p q n l from rfl]
    cases q2 : allC p q n l
    · go_wp2
      go_ret2
      exact RCi.no (by simp [raM, q2]) (belT (by repeat (first | exact Below.refl _ _ | assumption | refine belA ?_ | refine belD ?_ | refine belN ?_ | refine belS ?_ (by simp) | refine belT ?_ (by assumption))) hW)
    have hs := allC_small q2
    have h24 := allC_le (And.intro hll q2)
    go_wp2
    go_ret2
    exact RCi.no (by simp [raM, HD.out]) (belT (by repeat (first | exact Below.refl _ _ | assumption | refine belA ?_ | refine belD ?_ | refine belN ?_ | refine belS ?_ (by simp) | refine belT ?_ (by assumption))) hW)
theorem sReencryptAll_any (p q g key : Int) (A : Option Addr) (n c : Nat) (l : List (Int × Int)) (A' : Option Addr) (m c' : Nat) (rs : List Int) (w : World) (h : Cips w A n l) (h' : Ints w A' m rs) :
    Calls Try.prog 39 #[.agg #[.int .i64 p, .int .i64 q, .int .i64 g], .int .i64 key, .slice A n c, .slice A' m c'] w fun e w' => ∃ B cc, e = .returned (.tuple #[.slice B (raM p q g key n m l rs).1.length cc, .bool (raM p q g key n m l rs).2]) ∧ w'.ownsRow w.heap.size 30 2 (.slice B (raM p q g key n m l rs).1.length cc) (raM p q g key n m l rs).1.length (cellsL (raM p q g key n m l rs).1) ∧ Below w.heap.size w w' :=
  sReencryptAll_rc p q g key A n c l A' m c' rs w h h'
set_option maxRecDepth 100000 in
set_option maxHeartbeats 8000000 in
theorem iReencryptAll_rc (p q g key : Int) (A : Option Addr) (n c : Nat) (l : List (Int × Int)) (A' : Option Addr) (m c' : Nat) (rs : List Int) (w : World) (h : Cips w A n l) (h' : Ints w A' m rs) :
    Calls Try.prog 40 #[.agg #[.int .i64 p, .int .i64 q, .int .i64 g], .int .i64 key, .slice A n c, .slice A' m c'] w (RCi w (raM p q g key n m l rs)) := by
  have HI := Lib.hid h
  have HE := Lib.hid h'
  have hn1 := h.le
  have hn2 := h'.le
  have hll := h.len
  clear h h'
  by_cases hnm : m = n
  · subst hnm
    have hd0 : ((m : Int) != (m : Int)) = false := by simp
    go_enter Try.func40, Try.ntmps40
    go_wp2_with fail
    refine (IsValidGroup_any p q g _).mono ?_
    rintro e w1_ ⟨rfl, hb1⟩
    have hW := hb1
    obtain ⟨hc, hf⟩ := bcell hW
    cases q1 : goodB p q g
    · go_wp2
      go_ret2
      exact RCi.no (by simp [raM, q1]) (belT (by repeat (first | exact Below.refl _ _ | assumption | refine belA ?_ | refine belD ?_ | refine belN ?_ | refine belS ?_ (by simp) | refine belT ?_ (by assumption))) hW)
    obtain ⟨g1, g2, g3, g4, g5, g6⟩ := good_om q1
    go_wp2_with fail
    refine (has_any p q g key _ g1 g2 g3 g4).mono ?_
    rintro e w2_ ⟨rfl, hb2⟩
    clear hc hf
    replace hW := belT hW hb2
    obtain ⟨hc, hf⟩ := bcell hW
    cases q2 : hasB p q key
    · go_wp2
      go_ret2
      exact RCi.no (by simp [raM, q2]) (belT (by repeat (first | exact Below.refl _ _ | assumption | refine belA ?_ | refine belD ?_ | refine belN ?_ | refine belS ?_ (by simp) | refine belT ?_ (by assumption))) hW)
    obtain ⟨x1, x2⟩ := has_small q2
    go_wp2_with fail
    refine (hasCiphers_any p q g A m c l _ (HI.out.below (belT (by repeat (first | exact Below.refl _ _ | assumption | refine belA ?_ | refine belD ?_ | refine belN ?_ | refine belS ?_ (by simp) | refine belT ?_ (by assumption))) hW)) g1 g2 g3 g4).mono ?_
    rintro e w3_ ⟨rfl, hb3⟩
    clear hc hf
    replace hW := belT hW hb3
    obtain ⟨hc, hf⟩ := bcell hW
    rw [show (decide (m ≤ 24) && l.all (hasC p q)) = allC p q m l from rfl]
    cases q3 : allC p q m l
    · go_wp2
      go_ret2
      exact RCi.no (by simp [raM, q3]) (belT (by repeat (first | exact Below.refl _ _ | assumption | refine belA ?_ | refine belD ?_ | refine belN ?_ | refine belS ?_ (by simp) | refine belT ?_ (by assumption))) hW)
    have hs := allC_small q3
    have h24 := allC_le (And.intro hll q3)
    go_wp2_with fail
    refine (areExps_any p q g A' m c' rs _ (HE.out.below (belT (by repeat (first | exact Below.refl _ _ | assumption | refine belA ?_ | refine belD ?_ | refine belN ?_ | refine belS ?_ (by simp) | refine belT ?_ (by assumption))) hW)) (by omega) (by omega)).mono ?_
    rintro e w4_ ⟨rfl, hb4⟩
    clear hc hf
    replace hW := belT hW hb4
    obtain ⟨hc, hf⟩ := bcell hW
    rw [show (rs.all fun z => inB z 0 (q - 1)) = expsB q rs from rfl]
    cases q4 : expsB q rs
    · go_wp2
      go_ret2
      exact RCi.no (by simp [raM, q4]) (belT (by repeat (first | exact Below.refl _ _ | assumption | refine belA ?_ | refine belD ?_ | refine belN ?_ | refine belS ?_ (by simp) | refine belT ?_ (by assumption))) hW)
    go_wp2
    have hq := Lib.hid (show raM p q g key m m l rs = (raL p q g key l rs m, true) by simp [raM, q1, q2, q3, q4])
    have HS := Lib.hid hs
    have k1 := keepB hW (a := ⟨w.heap.size, 0, none⟩) (v := .int .i64 p) (by rw [World.cell?_alloc_at _ _ _ _ (by simp)]; rfl)
    have k2 := keepB hW (a := ⟨w.heap.size, 1, none⟩) (v := .int .i64 q) (by rw [World.cell?_alloc_at _ _ _ _ (by simp)]; rfl)
    have k3 := keepB hW (a := ⟨w.heap.size, 2, none⟩) (v := .int .i64 g) (by rw [World.cell?_alloc_at _ _ _ _ (by simp)]; rfl)
    have hB : Below w.heap.size w _ := belT (belA (Below.refl _ _)) hW
    obtain ⟨W0, hw0⟩ : ∃ x, x = w4_ := ⟨_, rfl⟩
    subst hw0
    clear hc hf hW
    have K1 := Lib.hid k1
    have K2 := Lib.hid k2
    have K3 := Lib.hid k3
    have hz := World.block_lt_of_cell? _ _ k1
    simp only at hz
    have HB := Lib.hid hB
    clear k1 k2 k3 hB
    go_loopw [10, 44] (fun v i wr => ∃ k : Nat, k ≤ m ∧ i = .int .i64 k ∧ Hid (wr.ownsRow (w.heap.size + 1) 30 2 v k (cellsL (raL p q g key l rs k))) ∧ Hid (Below (w.heap.size + 1) W0 wr)) (fun _ i _ => m - (intOf i).toNat)
    case atStart => exact ⟨0, by omega, rfl, Lib.hid (ownC_empty _ _ (by omega)), Lib.hid (belA' (by omega) (Below.refl _ _))⟩
    case round =>
      obtain ⟨k, hk, rfl, HO, H2⟩ := hrel
      have hzr : W0.heap.size ≤ wr.heap.size := H2.out.size
      have H3 := Lib.hid (HB.out.trans (belLess H2.out (Nat.le_succ _)))
      by_cases hlt : k < m
      · obtain ⟨b, off, rfl, hb, hc, hd⟩ := (HI.out.below H3.out).at_ hlt
        obtain ⟨b2, off2, rfl, hb2, hce⟩ := (HE.out.below H3.out).at_ hlt
        have hsm := HS.out k (by omega)
        have e1 := raL_succ p q g key l rs k
        generalize l.getD k (0, 0) = cc at hc hd hsm e1
        generalize rs.getD k 0 = ex at hce e1
        obtain ⟨u, v⟩ := cc
        simp only at hc hd e1
        obtain ⟨⟨u0, u1⟩, v0, v1⟩ := hsm
        simp only at u0 u1 v0 v1
        generalize hre : reC p q g key u v ex = xy at e1
        obtain ⟨x, y⟩ := xy
        have HR := Lib.hid hre
        have E1 := Lib.hid e1
        have i1 : (0 : Int) ≤ (k : Int) := by omega
        have i2 : (k : Int) < (m : Int) := by omega
        clear e1 hre
        go_wp2
        have HW := Lib.hid (belA (o := .cells #[.int .i64 u, .int .i64 v] 30) (Below.refl wr.heap.size wr))
        have k1 := keepB HW.out (keepL H2.out (Nat.lt_succ_self _) K1.out)
        have k2 := keepB HW.out (keepL H2.out (Nat.lt_succ_self _) K2.out)
        have k3 := keepB HW.out (keepL H2.out (Nat.lt_succ_self _) K3.out)
        have k6 : (wr.alloc (.cells #[.int .i64 u, .int .i64 v] 30)).cell? ⟨wr.heap.size, 0, none⟩ = some (.int .i64 u) := (by rw [World.cell?_alloc_at _ _ _ _ (by simp)]; rfl)
        have k7 : (wr.alloc (.cells #[.int .i64 u, .int .i64 v] 30)).cell? ⟨wr.heap.size, 1, none⟩ = some (.int .i64 v) := (by rw [World.cell?_alloc_at _ _ _ _ (by simp)]; rfl)
        have k8 := keepB HW.out hce
        have hz4 : wr.heap.size < (wr.alloc (.cells #[.int .i64 u, .int .i64 v] 30)).heap.size := by simp
        generalize hW1 : wr.alloc (.cells #[.int .i64 u, .int .i64 v] 30) = W1 at HW k1 k2 k3 k6 k7 k8 hz4
        clear hW1 hc hd hb hb2 hce
        refine region_end 10 (S := (fun W => W.cell? ⟨w.heap.size, 0, none⟩ = some (.int .i64 p) ∧ W.cell? ⟨w.heap.size, 1, none⟩ = some (.int .i64 q) ∧ W.cell? ⟨w.heap.size, 2, none⟩ = some (.int .i64 g) ∧ W.cell? ⟨wr.heap.size, 0, none⟩ = some (.int .i64 u) ∧ W.cell? ⟨wr.heap.size, 1, none⟩ = some (.int .i64 v) ∧ W.cell? ⟨b2, off2 + k, none⟩ = some (.int .i64 ex))) (by kernel_rfl) (by kernel_rfl) ?_ (fun hE hHeld => ?_)
        · ((try dsimp only); (go_split_ands; (repeat' apply And.intro) <;> first | assumption | (refine keepB (belA (Below.refl _ _)) ?_; assumption) | (refine keepB hb1 ?_; assumption) | (refine keepS ?_ (keepS ?_ ?_) <;> first | assumption | (simp; done) | (simp; omega)) | (refine keepS ?_ ?_ <;> first | assumption | (simp; done) | (simp; omega)) | go_keep))
        refine EndW.take (i := 0) (v := ?_) (some 49) hE rfl rfl (by kernel_rfl) (by kernel_rfl) (by omega) (fun _ _ _ h => h) (Or.inl ⟨by rfl, ?_⟩) (by assumption) ?_
        rotate_left
        · (intro W hSw; (try dsimp only at hSw); go_simp; all_goals with_reducible rfl)
        try simp only [Act.put, List.setIfInBounds_toArray, List.set_cons_zero, List.set_cons_succ]
        refine EndW.take (i := 1) (v := ?_) (some 50) hE rfl rfl (by kernel_rfl) (by kernel_rfl) (by omega) (fun _ _ _ h => h) (Or.inl ⟨by rfl, ?_⟩) (by assumption) ?_
        rotate_left
        · (intro W hSw; (try dsimp only at hSw); go_simp; all_goals with_reducible rfl)
        try simp only [Act.put, List.setIfInBounds_toArray, List.set_cons_zero, List.set_cons_succ]
        refine EndW.take (i := 2) (v := ?_) (some 51) hE rfl rfl (by kernel_rfl) (by kernel_rfl) (by omega) (fun _ _ _ h => h) (Or.inl ⟨by rfl, ?_⟩) (by assumption) ?_
        rotate_left
        · (intro W hSw; (try dsimp only at hSw); go_simp; all_goals with_reducible rfl)
        try simp only [Act.put, List.setIfInBounds_toArray, List.set_cons_zero, List.set_cons_succ]
        refine EndW.take (i := 3) (v := ?_) (some 52) hE rfl rfl (by kernel_rfl) (by kernel_rfl) (by omega) (fun _ _ _ h => h) (Or.inl ⟨by rfl, ?_⟩) (by assumption) ?_
        rotate_left
        · (intro W hSw; (try dsimp only at hSw); go_simp; all_goals with_reducible rfl)
        try simp only [Act.put, List.setIfInBounds_toArray, List.set_cons_zero, List.set_cons_succ]
        refine EndW.take (i := 4) (v := ?_) (some 53) hE rfl rfl (by kernel_rfl) (by kernel_rfl) (by omega) (fun _ _ _ h => h) (Or.inl ⟨by rfl, ?_⟩) (by assumption) ?_
        rotate_left
        · (intro W hSw; (try dsimp only at hSw); go_simp; all_goals with_reducible rfl)
        try simp only [Act.put, List.setIfInBounds_toArray, List.set_cons_zero, List.set_cons_succ]
        refine EndW.take (i := 5) (v := ?_) (some 54) hE rfl rfl (by kernel_rfl) (by kernel_rfl) (by omega) (fun _ _ _ h => h) (Or.inl ⟨by rfl, ?_⟩) (by assumption) ?_
        rotate_left
        · (intro W hSw; (try dsimp only at hSw); go_simp; all_goals with_reducible rfl)
        try simp only [Act.put, List.setIfInBounds_toArray, List.set_cons_zero, List.set_cons_succ]
        refine EndW.take (i := 6) (v := ?_) (some 55) hE rfl rfl (by kernel_rfl) (by kernel_rfl) (by omega) (fun _ _ _ h => h) (Or.inl ⟨by rfl, ?_⟩) (by assumption) ?_
        rotate_left
        · (intro W hSw; (try dsimp only at hSw); go_simp; all_goals with_reducible rfl)
        try simp only [Act.put, List.setIfInBounds_toArray, List.set_cons_zero, List.set_cons_succ]
        refine EndW.take (i := 7) (v := ?_) (some 56) hE rfl rfl (by kernel_rfl) (by kernel_rfl) (by omega) (fun _ _ _ h => h) (Or.inl ⟨by rfl, ?_⟩) (by assumption) ?_
        rotate_left
        · (intro W hSw; (try dsimp only at hSw); go_simp; all_goals with_reducible rfl)
        try simp only [Act.put, List.setIfInBounds_toArray, List.set_cons_zero, List.set_cons_succ]
        refine EndW.one (i := 8) (by kernel_rfl) (by omega) ⟨_, rfl, fun K hK => ?_⟩
        go_simp
        go_at_call 72
        refine (reencrypt_any p q g key u v ex _ (by omega) (by omega) (by omega) (by omega) (by omega) (by omega) (by omega) (by omega) (by omega) (by omega) (by omega) (by omega)).mono ?_
        rintro e' w1 ⟨rfl, hb1⟩
        rw [HR.out]
        simp only
        have hX1 : Below W1.heap.size W1 w1 := (by repeat (first | exact Below.refl _ _ | assumption | refine belA ?_ | refine belD ?_ | refine belN ?_ | refine belS ?_ (by simp <;> omega) | refine belT ?_ (by assumption)))
        refine hK.out _ _ ?_ (fun hNew => ?_)
        · ((try dsimp only); (go_split_ands; (repeat' apply And.intro) <;> first | assumption | (refine keepB (belA (Below.refl _ _)) ?_; assumption) | (refine keepB hb1 ?_; assumption) | (refine keepS ?_ (keepS ?_ ?_) <;> first | assumption | (simp; done) | (simp; omega)) | (refine keepS ?_ ?_ <;> first | assumption | (simp; done) | (simp; omega)) | go_keep))
        clear hK K hHeld
        have hHeld := hNew; clear hNew
        try simp only [Act.put, List.setIfInBounds_toArray, List.set_cons_zero, List.set_cons_succ]
        clear hb1
        refine EndW.one (i := 9) (by kernel_rfl) (by omega) ⟨_, rfl, fun K hK => ?_⟩
        go_simp
        refine hK.out _ _ ?_ (fun hNew => ?_)
        · ((try dsimp only); (go_split_ands; (repeat' apply And.intro) <;> first | assumption | (refine keepB (belA (Below.refl _ _)) ?_; assumption) | (refine keepB hb1 ?_; assumption) | (refine keepS ?_ (keepS ?_ ?_) <;> first | assumption | (simp; done) | (simp; omega)) | (refine keepS ?_ ?_ <;> first | assumption | (simp; done) | (simp; omega)) | go_keep))
        clear hK K hHeld
        have hHeld := hNew; clear hNew
        try simp only [Act.put, List.setIfInBounds_toArray, List.set_cons_zero, List.set_cons_succ]
        refine EndW.then_ (by kernel_rfl) rfl (by kernel_rfl) (fun K hK => ?_)
        have hX : Below wr.heap.size wr w1 := belT HW.out hX1
        have HO1 := Lib.hid ((ownBelow HO.out hX).alloc (.cells #[.int .i64 x, .int .i64 y] 30))
        have hs1 : w.heap.size + 1 ≤ w1.heap.size := by have := hX.size; omega
        refine step_appC rfl _ _ rfl rfl rfl (by rw [World.cell?_alloc_at _ _ _ _ (by simp)]; rfl) (by rw [World.cell?_alloc_at _ _ _ _ (by simp)]; rfl) HO1.out (by omega) (by simp; omega) ?_
        intro A2 c2 w2 hown2 hg2
        have hbb : Below (w.heap.size + 1) W0 w2 := own_below (belA' (by omega) (H2.out.trans (belLess hX (by omega)))) (by simp; omega) HO1.out hg2
        rw [← E1.out] at hown2
        have HN := Lib.hid hown2
        have HBB := Lib.hid hbb
        clear hown2 hg2 hbb
        refine hK.out _ _ ?_
        clear hK K hHeld
        try simp only [Act.put, List.setIfInBounds_toArray, List.set_cons_zero, List.set_cons_succ]
        refine wpAny_take (i := 11) (v := ?_) rfl (by kernel_rfl) (by kernel_rfl) (by kernel_rfl) (fun _ _ _ h => h) (Or.inl ⟨by rfl, ?_⟩) ?_
        rotate_left
        · (intro W; go_simp; all_goals with_reducible rfl)
        try simp only [Act.put, List.setIfInBounds_toArray, List.set_cons_zero, List.set_cons_succ]
        refine wpAny_done (by kernel_rfl) ?_ _
        go_wp2
        go_roundw
        all_goals first | (simp [intOf]; omega; done) | exact ⟨k + 1, by omega, by go_num, HN, HBB⟩
      · have e : k = m := by omega
        subst e
        obtain ⟨A2, c2, rfl⟩ := own_shapeC HO.out
        go_wp2
        go_ret2
        exact RCi.yes hq.out (raL_len _ _ _ _ _ _ _) (ownDown HO.out (Nat.le_succ _)) H3.out
  · have hd0 : ((m : Int) != (n : Int)) = true := by simp; omega
    have hd1 : (m == n) = false := by simp [hnm]
    have HD := Lib.hid hd1
    clear hd1
    go_enter Try.func40, Try.ntmps40
    go_wp2_with fail
    refine (IsValidGroup_any p q g _).mono ?_
    rintro e w1_ ⟨rfl, hb1⟩
    have hW := hb1
    obtain ⟨hc, hf⟩ := bcell hW
    cases q1 : goodB p q g
    · go_wp2
      go_ret2
      exact RCi.no (by simp [raM, q1]) (belT (by repeat (first | exact Below.refl _ _ | assumption | refine belA ?_ | refine belD ?_ | refine belN ?_ | refine belS ?_ (by simp) | refine belT ?_ (by assumption))) hW)
    obtain ⟨g1, g2, g3, g4, g5, g6⟩ := good_om q1
    go_wp2_with fail
    refine (has_any p q g key _ g1 g2 g3 g4).mono ?_
    rintro e w2_ ⟨rfl, hb2⟩
    clear hc hf
    replace hW := belT hW hb2
    obtain ⟨hc, hf⟩ := bcell hW
    cases q2 : hasB p q key
    · go_wp2
      go_ret2
      exact RCi.no (by simp [raM, q2]) (belT (by repeat (first | exact Below.refl _ _ | assumption | refine belA ?_ | refine belD ?_ | refine belN ?_ | refine belS ?_ (by simp) | refine belT ?_ (by assumption))) hW)
    obtain ⟨x1, x2⟩ := has_small q2
    go_wp2_with fail
    refine (hasCiphers_any p q g A n c l _ (HI.out.below (belT (by repeat (first | exact Below.refl _ _ | assumption | refine belA ?_ | refine belD ?_ | refine belN ?_ | refine belS ?_ (by simp) | refine belT ?_ (by assumption))) hW)) g1 g2 g3 g4).mono ?_
    rintro e w3_ ⟨rfl, hb3⟩
    clear hc hf
    replace hW := belT hW hb3
    obtain ⟨hc, hf⟩ := bcell hW
    rw [show (decide (n ≤ 24) && l.all (hasC p q)) = allC p q n l from rfl]
    cases q3 : allC p q n l
    · go_wp2
      go_ret2
      exact RCi.no (by simp [raM, q3]) (belT (by repeat (first | exact Below.refl _ _ | assumption | refine belA ?_ | refine belD ?_ | refine belN ?_ | refine belS ?_ (by simp) | refine belT ?_ (by assumption))) hW)
    have hs := allC_small q3
    have h24 := allC_le (And.intro hll q3)
    go_wp2
    go_ret2
    exact RCi.no (by simp [raM, HD.out]) (belT (by repeat (first | exact Below.refl _ _ | assumption | refine belA ?_ | refine belD ?_ | refine belN ?_ | refine belS ?_ (by simp) | refine belT ?_ (by assumption))) hW)
theorem iReencryptAll_any (p q g key : Int) (A : Option Addr) (n c : Nat) (l : List (Int × Int)) (A' : Option Addr) (m c' : Nat) (rs : List Int) (w : World) (h : Cips w A n l) (h' : Ints w A' m rs) :
    Calls Try.prog 40 #[.agg #[.int .i64 p, .int .i64 q, .int .i64 g], .int .i64 key, .slice A n c, .slice A' m c'] w fun e w' => ∃ B cc, e = .returned (.tuple #[.slice B (raM p q g key n m l rs).1.length cc, .bool (raM p q g key n m l rs).2]) ∧ w'.ownsRow w.heap.size 30 2 (.slice B (raM p q g key n m l rs).1.length cc) (raM p q g key n m l rs).1.length (cellsL (raM p q g key n m l rs).1) ∧ Below w.heap.size w w' :=
  iReencryptAll_rc p q g key A n c l A' m c' rs w h h'
theorem raM_len (p q g key : Int) (n m : Nat) (l : List (Int × Int)) (rs : List Int) : (raM p q g key n m l rs).1.length ≤ 24 := by
  unfold raM
  split
  · rename_i h
    simp only [allC, Bool.and_eq_true, decide_eq_true_eq] at h
    rw [raL_len]
    exact h.1.1.2.1
  · simp
end Go.Proofs.Ytemhjhaokbgldaa
