/- Contracts: the draws of two statements, lists compared. -/
import Derived.Test.YteeggmnkcgpfjaaDr3
namespace Go.Proofs.Yteeggmnkcgpfjaa
open Go.RowKit
set_option linter.unusedVariables false
attribute [local go_sem ↓] Go.wp_at_zero Go.wp_at_succ
set_option linter.unusedSimpArgs false

theorem Bys.of_row {w : World} {A : Option Addr} {n c : Nat} {zs : List Int} (h : IsRow .u8 w A n c zs) (hn : n ≤ 9223372036854775807) : Bys w w.heap.size A n (zs.take n) := by
  rcases h with ⟨rfl, rfl, rfl, rfl⟩ | ⟨x, rfl, hl, hm, hz, hc, hw⟩
  · exact ⟨rfl, by omega, fun j hj => absurd hj (by omega), fun h => absurd h (by omega)⟩
  · refine ⟨by simp; omega, hn, fun j hj => ?_, fun hn0 => ?_⟩
    · rw [List.getD_eq_getElem?_getD, List.getElem?_take_of_lt hj, List.getElem?_eq_getElem (by omega)]
      have := hw _ (List.getElem_mem (show j < zs.length by omega))
      have h2 := bounds_u8 this
      exact h2
    · obtain ⟨b, off, spot⟩ := x
      have h0 := hc 0 (by omega)
      have hspot : spot = none := by simpa [Addr.add] using World.cell?_spot h0
      subst hspot
      refine ⟨b, off, rfl, ?_, fun k hk => ?_⟩
      · have := World.block_lt_of_cell? _ _ h0
        simpa [Addr.add] using this
      · have := hc k (by omega)
        have hadd : (⟨b, off, none⟩ : Addr).add k = ⟨b, off + k, none⟩ := by unfold Addr.add; split <;> simp_all
        rw [hadd] at this
        rw [this, List.getD_eq_getElem?_getD, List.getD_eq_getElem?_getD, List.getElem?_take_of_lt hk]
theorem Bys.below {w w' : World} {B : Nat} {A : Option Addr} {n : Nat} {zs : List Int} (h : Bys w B A n zs) (hb : Below w.heap.size w w') : Bys w' B A n zs := by
  obtain ⟨h1, h2, h3, h4⟩ := h
  refine ⟨h1, h2, h3, fun hn => ?_⟩
  obtain ⟨b, off, e, hlt, hc⟩ := h4 hn
  exact ⟨b, off, e, hlt, fun k hk => keepB hb (hc k hk)⟩
theorem Bys.more {w : World} {B B' : Nat} {A : Option Addr} {n : Nat} {zs : List Int} (h : Bys w B A n zs) (hB : B ≤ B') : Bys w B' A n zs := by
  obtain ⟨h1, h2, h3, h4⟩ := h
  refine ⟨h1, h2, h3, fun hn => ?_⟩
  obtain ⟨b, off, e, hlt, hc⟩ := h4 hn
  exact ⟨b, off, e, by omega, hc⟩
theorem Cur.new {W : World} {t : TypeId} {A : Option Addr} {n c H : Nat} {zs : List Int} (h : Bys W W.heap.size A n zs) (hH : W.heap.size = H) : Cur (W.alloc (.cells #[.slice A n c, .int .i64 0, .int .u64 0] t)) H 0 := by
  subst hH
  exact ⟨⟨A, n, c, zs, 0, 0, (by rw [World.cell?_alloc_at _ _ _ _ (by simp)]; rfl), (by rw [World.cell?_alloc_at _ _ _ _ (by simp)]; rfl), (by rw [World.cell?_alloc_at _ _ _ _ (by simp)]; rfl), h.below (belA (Below.refl _ _)), by omega, by omega, by omega, by omega⟩, by rw [World.frozen?_alloc_at _ _ _ _ (by simp)], by rw [World.frozen?_alloc_at _ _ _ _ (by simp)]⟩
/-- a group that a draw hands back -/
def DG (w : World) (e : Ending) (w' : World) : Prop := ∃ p q g : Int, e = .returned (.agg #[.int .i64 p, .int .i64 q, .int .i64 g]) ∧ Below w.heap.size w w'
/-- a group and a number that a draw hands back -/
def DGI (w : World) (e : Ending) (w' : World) : Prop := ∃ p q g x : Int, e = .returned (.tuple #[.agg #[.int .i64 p, .int .i64 q, .int .i64 g], .int .i64 x]) ∧ Below w.heap.size w w'
set_option maxHeartbeats 1600000 in
theorem drawValid_any (A : Option Addr) (n c : Nat) (zs : List Int) (w : World) (h : Bys w w.heap.size A n zs) :
    Calls Try.prog 65 #[.slice A n c] w (DG w) := by
  have hrb := (RB.new w 27 (.int .i64 0) (.int .i64 0) (.int .i64 0) w.heap.size rfl).below (belA (o := .cells #[.slice A n c, .int .i64 0, .int .u64 0] 87) (Below.refl _ _))
  have HC : Hid (Cur ((w.alloc (.cells #[.int .i64 0, .int .i64 0, .int .i64 0] 27)).alloc (.cells #[.slice A n c, .int .i64 0, .int .u64 0] 87)) (w.heap.size + 1) 0) := Lib.hid (Cur.new ((h.below (belA (Below.refl _ _))).more (by simp)) (by simp))
  have HB : Hid (Below w.heap.size w ((w.alloc (.cells #[.int .i64 0, .int .i64 0, .int .i64 0] 27)).alloc (.cells #[.slice A n c, .int .i64 0, .int .u64 0] 87))) := Lib.hid (by repeat (first | exact Below.refl _ _ | assumption | refine belA ?_ | refine belD ?_ | refine belN ?_ | refine belS ?_ (by simp) | refine belT ?_ (by assumption)))
  have HR := Lib.hid hrb
  clear h hrb
  go_enter Try.func65, Try.ntmps65
  go_wp2_with fail
  refine (anyGroup_any (w.heap.size + 1) 0 _ HC.out (by omega)).mono ?_
  rintro e w1 ⟨p, q, g, rfl, _, hc1, hs1⟩
  have HR1 := HR.out.spared hs1 (by omega)
  have HW := Lib.hid (hs1.below HB.out (by omega) HB.out.size)
  have hzz := HR1.lt
  obtain ⟨y0, y1, y2, z0, z1, z2⟩ := HR1
  clear hc1 hs1
  go_wp2
  refine bodyPost_ret (v := .agg #[.int .i64 p, .int .i64 q, .int .i64 g]) (by simp [results, Try.results65, go_sem, y0, y1, y2]) rfl ⟨p, q, g, rfl, ?_⟩
  exact belS (belS (belS HW.out (by simp)) (by simp)) (by simp)
set_option maxHeartbeats 1600000 in
theorem drawElements_any (A : Option Addr) (n c : Nat) (zs : List Int) (w : World) (h : Bys w w.heap.size A n zs) :
    Calls Try.prog 20 #[.slice A n c] w (DG w) := by
  have hrb := RB.new w 27 (.int .i64 0) (.int .i64 0) (.int .i64 0) w.heap.size rfl
  have HC : Hid (Bys (w.alloc (.cells #[.int .i64 0, .int .i64 0, .int .i64 0] 27)) (w.alloc (.cells #[.int .i64 0, .int .i64 0, .int .i64 0] 27)).heap.size A n zs) := Lib.hid ((h.below (belA (Below.refl _ _))).more (by simp))
  have HB : Hid (Below w.heap.size w (w.alloc (.cells #[.int .i64 0, .int .i64 0, .int .i64 0] 27))) := Lib.hid (by repeat (first | exact Below.refl _ _ | assumption | refine belA ?_ | refine belD ?_ | refine belN ?_ | refine belS ?_ (by simp) | refine belT ?_ (by assumption)))
  have HR := Lib.hid hrb
  clear h hrb
  go_enter Try.func20, Try.ntmps20
  go_wp2_with fail
  refine (drawValid_any A n c zs _ HC.out).mono ?_
  rintro e w1 ⟨p, q, g, rfl, hb1⟩
  have HR1 := HR.out.below hb1
  have HW := Lib.hid (belT HB.out hb1)
  have hzz := HR1.lt
  obtain ⟨y0, y1, y2, z0, z1, z2⟩ := HR1
  clear hb1
  go_wp2
  refine bodyPost_ret (v := .agg #[.int .i64 p, .int .i64 q, .int .i64 g]) (by simp [results, Try.results20, go_sem, y0, y1, y2]) rfl ⟨p, q, g, rfl, ?_⟩
  exact belS (belS (belS HW.out (by simp)) (by simp)) (by simp)
/-- nothing has turned but two blocks -/
structure Sp2 (b r : Nat) (w w' : World) : Prop where
  os : w'.os = w.os
  tape : w'.tape = w.tape
  output : w'.output = w.output
  size : w.heap.size ≤ w'.heap.size
  block : ∀ k, k < w.heap.size → k ≠ b → k ≠ r → w'.heap[k]? = w.heap[k]?
theorem Sp2.start {b r : Nat} {w : World} : Sp2 b r w w.drew := ⟨rfl, rfl, rfl, Nat.le_refl _, fun _ _ _ _ => rfl⟩
theorem Sp2.spared {b r : Nat} {w w' w'' : World} (h : Sp2 b r w w') (hs : Spared b (b + 1) w' w'') : Sp2 b r w w'' :=
  ⟨hs.os.trans h.os, hs.tape.trans h.tape, hs.output.trans h.output, Nat.le_trans h.size hs.size, fun k hk h1 h2 => (hs.block k (Nat.lt_of_lt_of_le hk h.size) (by omega)).trans (h.block k hk h1 h2)⟩
theorem Sp2.below {b r : Nat} {w w' w'' : World} (h : Sp2 b r w w') (hs : Below w'.heap.size w' w'') : Sp2 b r w w'' := h.spared (Spared.of_below hs)
theorem Sp2.put {b r i : Nat} {v : Value} {w w' : World} (h : Sp2 b r w w') : Sp2 b r w (w'.setCell ⟨r, i, none⟩ v) :=
  ⟨h.os, h.tape, h.output, by simpa using h.size, fun k hk h1 h2 => (heap_setCell_other w' _ k v (by intro e; subst e; exact h2 rfl)).trans (h.block k hk h1 h2)⟩
theorem Sp2.cell {b r k o : Nat} {v : Value} {w w' : World} (h : Sp2 b r w w') (hc : w.cell? ⟨k, o, none⟩ = some v) (h1 : k ≠ b) (h2 : k ≠ r) : w'.cell? ⟨k, o, none⟩ = some v :=
  (World.cell?_of_block (a := ⟨k, o, none⟩) (h.block k (World.block_lt_of_cell? _ _ hc) h1 h2)).trans hc
theorem Sp2.bel {b r B : Nat} {a w w' : World} (hb : Below B a w) (h : Sp2 b r w w') (h1 : B ≤ b) (h2 : B ≤ r) (hw : B ≤ w.heap.size) : Below B a w' :=
  ⟨h.os.trans hb.os, h.tape.trans hb.tape, h.output.trans hb.output, Nat.le_trans hb.size h.size, fun k hk => (h.block k (by omega) (by omega) (by omega)).trans (hb.block k hk)⟩
theorem RB.put {W : World} {b : Nat} {v0 v1 v2 x y z : Value} (h : RB W b v0 v1 v2) : RB (((W.setCell ⟨b, 0, none⟩ x).setCell ⟨b, 1, none⟩ y).setCell ⟨b, 2, none⟩ z) b x y z := by
  refine ⟨?_, ?_, ?_, by rw [World.frozen?_setCell, World.frozen?_setCell, World.frozen?_setCell]; exact h.f0, by rw [World.frozen?_setCell, World.frozen?_setCell, World.frozen?_setCell]; exact h.f1, by rw [World.frozen?_setCell, World.frozen?_setCell, World.frozen?_setCell]; exact h.f2⟩
  · rw [World.cell?_setCell_other _ _ _ _ (by simp), World.cell?_setCell_other _ _ _ _ (by simp)]; exact World.cell?_setCell_same _ _ _ h.c0
  · rw [World.cell?_setCell_other _ _ _ _ (by simp)]; exact World.cell?_setCell_same _ _ _ (by rw [World.cell?_setCell_other _ _ _ _ (by simp)]; exact h.c1)
  · exact World.cell?_setCell_same _ _ _ (by rw [World.cell?_setCell_other _ _ _ _ (by simp), World.cell?_setCell_other _ _ _ _ (by simp)]; exact h.c2)
theorem RB.drew {W : World} {b : Nat} {v0 v1 v2 : Value} (h : RB W b v0 v1 v2) : RB W.drew b v0 v1 v2 := ⟨h.c0, h.c1, h.c2, h.f0, h.f1, h.f2⟩
set_option maxRecDepth 100000 in
set_option maxHeartbeats 4000000 in
theorem drawFrom_any (A : Option Addr) (n c : Nat) (zs : List Int) (w : World) (h : Bys w w.heap.size A n zs) :
    Calls Try.prog 21 #[.slice A n c] w (DGI w) := by
  have hrb := (RB.new w 27 (.int .i64 0) (.int .i64 0) (.int .i64 0) w.heap.size rfl).below (belA (o := .cells #[.slice A n c, .int .i64 0, .int .u64 0] 87) (Below.refl _ _))
  have HC : Hid (Cur ((w.alloc (.cells #[.int .i64 0, .int .i64 0, .int .i64 0] 27)).alloc (.cells #[.slice A n c, .int .i64 0, .int .u64 0] 87)) (w.heap.size + 1) 0) := Lib.hid (Cur.new ((h.below (belA (Below.refl _ _))).more (by simp)) (by simp))
  have HB : Hid (Below w.heap.size w ((w.alloc (.cells #[.int .i64 0, .int .i64 0, .int .i64 0] 27)).alloc (.cells #[.slice A n c, .int .i64 0, .int .u64 0] 87))) := Lib.hid (by repeat (first | exact Below.refl _ _ | assumption | refine belA ?_ | refine belD ?_ | refine belN ?_ | refine belS ?_ (by simp) | refine belT ?_ (by assumption)))
  have HR := Lib.hid hrb
  have hzW : w.heap.size + 2 = ((w.alloc (.cells #[.int .i64 0, .int .i64 0, .int .i64 0] 27)).alloc (.cells #[.slice A n c, .int .i64 0, .int .u64 0] 87)).heap.size := by simp
  have HZW := Lib.hid hzW
  clear h hrb hzW
  go_enter Try.func21, Try.ntmps21
  go_wp2_with fail
  refine (anyGroup_any (w.heap.size + 1) 0 _ HC.out (by omega)).mono ?_
  rintro e w1 ⟨p, q, g, rfl, ⟨t1, t2, t3, t4, t5, t6⟩, hc1, hs1⟩
  have hz1 : w.heap.size + 2 ≤ w1.heap.size := by have := hs1.size; have := HZW.out; omega
  have HR0 := Lib.hid ((HR.out.spared hs1 (by omega)).below (belA (o := .cells #[.int .i64 p, .int .i64 q, .int .i64 g] 27) (Below.refl _ _)))
  have hg0 := RB.new w1 27 (.int .i64 p) (.int .i64 q) (.int .i64 g) w1.heap.size rfl
  have HC0 := Lib.hid (hc1.below (belA (o := .cells #[.int .i64 p, .int .i64 q, .int .i64 g] 27) (Below.refl _ _)))
  have HB0 := Lib.hid (belA (o := .cells #[.int .i64 p, .int .i64 q, .int .i64 g] 27) (hs1.below HB.out (by omega) HB.out.size))
  have up : IntKind.i64.wrap (p - 1) = p - 1 := by rw [IntKind.wrap_i64]; omega
  clear hc1 hs1 HC
  go_wp2_with fail
  generalize hW0 : w1.alloc (.cells #[.int .i64 p, .int .i64 q, .int .i64 g] 27) = W0 at HR0 hg0 HC0 HB0
  clear hW0
  have hz0 : w1.heap.size < W0.heap.size := hg0.lt
  obtain ⟨c0, c1, c2, _, _, _⟩ := hg0
  refine wp_region_held_drew (S := fun W => Sp2 (w.heap.size + 1) w.heap.size W0 W) (by kernel_rfl) Sp2.start (fun hHeld => ?_)
  refine heldTake (i := 0) (v := ?_) (some 11) rfl rfl (by kernel_rfl) (by kernel_rfl) (by kernel_rfl) (fun _ _ _ h => h) (Or.inl ⟨by rfl, ?_⟩) (by assumption) ?_
  rotate_left
  · (intro W hSw; have t0 := hSw.cell c0 (by omega) (by omega); have t1 := hSw.cell c1 (by omega) (by omega); have t2 := hSw.cell c2 (by omega) (by omega); clear hSw; go_simp; all_goals first | with_reducible rfl | (simp [*]; done) | (intro hh; exfalso; omega) | fail)
  try simp only [Act.put, List.setIfInBounds_toArray, List.set_cons_zero, List.set_cons_succ]
  refine heldTake (i := 1) (v := ?_) (some 12) rfl rfl (by kernel_rfl) (by kernel_rfl) (by kernel_rfl) (fun _ _ _ h => h) (Or.inl ⟨by rfl, ?_⟩) (by assumption) ?_
  rotate_left
  · (intro W hSw; have t0 := hSw.cell c0 (by omega) (by omega); have t1 := hSw.cell c1 (by omega) (by omega); have t2 := hSw.cell c2 (by omega) (by omega); clear hSw; go_simp; all_goals first | with_reducible rfl | (simp [*]; done) | (intro hh; exfalso; omega) | fail)
  try simp only [Act.put, List.setIfInBounds_toArray, List.set_cons_zero, List.set_cons_succ]
  refine heldTake (i := 2) (v := ?_) (some 13) rfl rfl (by kernel_rfl) (by kernel_rfl) (by kernel_rfl) (fun _ _ _ h => h) (Or.inl ⟨by rfl, ?_⟩) (by assumption) ?_
  rotate_left
  · (intro W hSw; have t0 := hSw.cell c0 (by omega) (by omega); have t1 := hSw.cell c1 (by omega) (by omega); have t2 := hSw.cell c2 (by omega) (by omega); clear hSw; go_simp; all_goals first | with_reducible rfl | (simp [*]; done) | (intro hh; exfalso; omega) | fail)
  try simp only [Act.put, List.setIfInBounds_toArray, List.set_cons_zero, List.set_cons_succ]
  refine heldTake (i := 3) (v := ?_) (some 14) rfl rfl (by kernel_rfl) (by kernel_rfl) (by kernel_rfl) (fun _ _ _ h => h) (Or.inl ⟨by rfl, ?_⟩) (by assumption) ?_
  rotate_left
  · (intro W hSw; have t0 := hSw.cell c0 (by omega) (by omega); have t1 := hSw.cell c1 (by omega) (by omega); have t2 := hSw.cell c2 (by omega) (by omega); clear hSw; go_simp; all_goals first | with_reducible rfl | (simp [*]; done) | (intro hh; exfalso; omega) | fail)
  try simp only [Act.put, List.setIfInBounds_toArray, List.set_cons_zero, List.set_cons_succ]
  refine heldTake (i := 4) (v := .int .i64 (p - 1)) (some 15) rfl rfl (by kernel_rfl) (by kernel_rfl) (by kernel_rfl) (fun _ _ _ h => h) (Or.inl ⟨by rfl, ?_⟩) (by assumption) ?_
  · (intro W hSw; have t0 := hSw.cell c0 (by omega) (by omega); have t1 := hSw.cell c1 (by omega) (by omega); have t2 := hSw.cell c2 (by omega) (by omega); clear hSw; go_simp; all_goals first | with_reducible rfl | (simp [*]; done) | (intro hh; exfalso; omega) | fail)
  try simp only [Act.put, List.setIfInBounds_toArray, List.set_cons_zero, List.set_cons_succ]
  refine heldTake (i := 5) (v := ?_) (some 16) rfl rfl (by kernel_rfl) (by kernel_rfl) (by kernel_rfl) (fun _ _ _ h => h) (Or.inl ⟨by rfl, ?_⟩) (by assumption) ?_
  rotate_left
  · (intro W hSw; have t0 := hSw.cell c0 (by omega) (by omega); have t1 := hSw.cell c1 (by omega) (by omega); have t2 := hSw.cell c2 (by omega) (by omega); clear hSw; go_simp; all_goals first | with_reducible rfl | (simp [*]; done) | (intro hh; exfalso; omega) | fail)
  try simp only [Act.put, List.setIfInBounds_toArray, List.set_cons_zero, List.set_cons_succ]
  refine heldTake (i := 6) (v := ?_) (some 17) rfl rfl (by kernel_rfl) (by kernel_rfl) (by kernel_rfl) (fun _ _ _ h => h) (Or.inl ⟨by rfl, ?_⟩) (by assumption) ?_
  rotate_left
  · (intro W hSw; have t0 := hSw.cell c0 (by omega) (by omega); have t1 := hSw.cell c1 (by omega) (by omega); have t2 := hSw.cell c2 (by omega) (by omega); clear hSw; go_simp; all_goals first | with_reducible rfl | (simp [*]; done) | (intro hh; exfalso; omega) | fail)
  try simp only [Act.put, List.setIfInBounds_toArray, List.set_cons_zero, List.set_cons_succ]
  refine heldTake (i := 7) (v := ?_) (some 18) rfl rfl (by kernel_rfl) (by kernel_rfl) (by kernel_rfl) (fun _ _ _ h => h) (Or.inl ⟨by rfl, ?_⟩) (by assumption) ?_
  rotate_left
  · (intro W hSw; have t0 := hSw.cell c0 (by omega) (by omega); have t1 := hSw.cell c1 (by omega) (by omega); have t2 := hSw.cell c2 (by omega) (by omega); clear hSw; go_simp; all_goals first | with_reducible rfl | (simp [*]; done) | (intro hh; exfalso; omega) | fail)
  try simp only [Act.put, List.setIfInBounds_toArray, List.set_cons_zero, List.set_cons_succ]
  refine heldTake (i := 9) (v := ?_) (some 20) rfl rfl (by kernel_rfl) (by kernel_rfl) (by kernel_rfl) (fun _ _ _ h => h) (Or.inl ⟨by rfl, ?_⟩) (by assumption) ?_
  rotate_left
  · (intro W hSw; have t0 := hSw.cell c0 (by omega) (by omega); have t1 := hSw.cell c1 (by omega) (by omega); have t2 := hSw.cell c2 (by omega) (by omega); clear hSw; go_simp; all_goals first | with_reducible rfl | (simp [*]; done) | (intro hh; exfalso; omega) | fail)
  try simp only [Act.put, List.setIfInBounds_toArray, List.set_cons_zero, List.set_cons_succ]
  refine heldTake (i := 10) (v := ?_) (some 21) rfl rfl (by kernel_rfl) (by kernel_rfl) (by kernel_rfl) (fun _ _ _ h => h) (Or.inl ⟨by rfl, ?_⟩) (by assumption) ?_
  rotate_left
  · (intro W hSw; have t0 := hSw.cell c0 (by omega) (by omega); have t1 := hSw.cell c1 (by omega) (by omega); have t2 := hSw.cell c2 (by omega) (by omega); clear hSw; go_simp; all_goals first | with_reducible rfl | (simp [*]; done) | (intro hh; exfalso; omega) | fail)
  try simp only [Act.put, List.setIfInBounds_toArray, List.set_cons_zero, List.set_cons_succ]
  refine wpAnyH_ready (rs := [8]) (by kernel_rfl) (by simp) ?_
  refine AllReadyH.cons rfl (fun K hK => ?_) AllReadyH.nil
  go_simp
  (go_at_call 68; refine (pick_any (w.heap.size + 1) 14 60 _ HC0.out.drewN (by omega) (by omega)).mono ?_; rintro e w2 ⟨x, rfl, ⟨x0, _, x1, _⟩, hc2, hs2⟩)
  replace x1 := x1 (by omega)
  have HC2 := Lib.hid hc2
  have HR2 := Lib.hid (HR0.out.drew.spared hs2 (by omega))
  have hNx := hHeld.spared hs2
  refine hK.out _ _ hNx (fun hNew => ?_)
  clear hK K hHeld hNx
  have hHeld := hNew; clear hNew
  try simp only [Act.put, List.setIfInBounds_toArray, List.set_cons_zero, List.set_cons_succ]
  refine wpAnyH_ready (rs := [11]) (by kernel_rfl) (by simp) ?_
  refine AllReadyH.cons rfl (fun K hK => ?_) AllReadyH.nil
  go_simp
  (go_at_call 69; refine (element_any (w.heap.size + 1) 16 p q g _ HC2.out (by omega) (by omega) (by omega)).mono ?_; rintro e w3 ⟨y, rfl, ⟨y0, y1⟩, hc3, hs3⟩)
  have HC3 := Lib.hid hc3
  have HR3 := Lib.hid (HR2.out.spared hs3 (by omega))
  have hNx := hHeld.spared hs3
  refine hK.out _ _ hNx (fun hNew => ?_)
  clear hK K hHeld hNx
  have hHeld := hNew; clear hNew
  try simp only [Act.put, List.setIfInBounds_toArray, List.set_cons_zero, List.set_cons_succ]
  have hz3 := hHeld.size
  refine wpAnyH_ready (rs := [12]) (by kernel_rfl) (by simp) ?_
  refine AllReadyH.cons rfl (fun K hK => ?_) AllReadyH.nil
  go_simp
  have HC4 := Lib.hid (HC3.out.below (belA (o := .cells #[.int .i64 0, .int .i64 1, .int .i64 2, .int .i64 3, .int .i64 5, .int .i64 (p - 1), .int .i64 p, .int .i64 x, .int .i64 y] 3) (Below.refl _ _)))
  have HR4 := Lib.hid (HR3.out.below (belA (o := .cells #[.int .i64 0, .int .i64 1, .int .i64 2, .int .i64 3, .int .i64 5, .int .i64 (p - 1), .int .i64 p, .int .i64 x, .int .i64 y] 3) (Below.refl _ _)))
  have hNx := hHeld.below (belA (o := .cells #[.int .i64 0, .int .i64 1, .int .i64 2, .int .i64 3, .int .i64 5, .int .i64 (p - 1), .int .i64 p, .int .i64 x, .int .i64 y] 3) (Below.refl _ _))
  refine hK.out _ _ hNx (fun hNew => ?_)
  clear hK K hHeld hNx
  have hHeld := hNew; clear hNew
  try simp only [Act.put, List.setIfInBounds_toArray, List.set_cons_zero, List.set_cons_succ]
  refine wpAnyH_ready (rs := [13]) (by kernel_rfl) (by simp) ?_
  refine AllReadyH.cons rfl (fun K hK => ?_) AllReadyH.nil
  go_simp
  (go_at_call 67; refine (among_any w3.heap.size 9 9 (w.heap.size + 1) 20 [0, 1, 2, 3, 5, p - 1, p, x, y] _ HC4.out (by omega) (lit_ints w3 _ _ _ _ rfl (by simp) rfl) (by omega) (by omega) (by omega)).mono ?_; rintro e w5 ⟨v, rfl, _, hc5, hs5⟩)
  have HR5 := Lib.hid (HR4.out.spared hs5 (by omega))
  have hNx := hHeld.spared hs5
  refine hK.out _ _ hNx (fun hNew => ?_)
  clear hK K hHeld hNx
  have hHeld := hNew; clear hNew
  try simp only [Act.put, List.setIfInBounds_toArray, List.set_cons_zero, List.set_cons_succ]
  obtain ⟨n0, n1, n2, nf0, nf1, nf2⟩ := HR5.out
  refine wpAnyH_ready (rs := [14]) (by kernel_rfl) (by simp) ?_
  refine AllReadyH.cons rfl (fun K hK => ?_) AllReadyH.nil
  go_simp
  try simp only [n0, n1, n2, nf0, nf1, nf2]
  have hNx := ((hHeld.put (i := 0) (v := .int .i64 p)).put (i := 1) (v := .int .i64 q)).put (i := 2) (v := .int .i64 g)
  refine hK.out _ _ hNx (fun hNew => ?_)
  clear hK K hHeld hNx
  have hHeld := hNew; clear hNew
  try simp only [Act.put, List.setIfInBounds_toArray, List.set_cons_zero, List.set_cons_succ]
  refine heldTake (i := 15) (v := ?_) (some 3) rfl rfl (by kernel_rfl) (by kernel_rfl) (by kernel_rfl) (fun _ _ _ h => h) (Or.inl ⟨by rfl, ?_⟩) (by assumption) ?_
  rotate_left
  · (intro W hSw; have t0 := hSw.cell c0 (by omega) (by omega); have t1 := hSw.cell c1 (by omega) (by omega); have t2 := hSw.cell c2 (by omega) (by omega); clear hSw; go_simp; all_goals first | with_reducible rfl | (simp [*]; done) | (intro hh; exfalso; omega) | fail)
  try simp only [Act.put, List.setIfInBounds_toArray, List.set_cons_zero, List.set_cons_succ]
  refine wpAnyH_done (by kernel_rfl) ?_ _
  obtain ⟨y0', y1', y2', _, _, _⟩ := HR5.out.put (x := .int .i64 p) (y := .int .i64 q) (z := .int .i64 g)
  go_wp2
  refine bodyPost_ret (v := .tuple #[.agg #[.int .i64 p, .int .i64 q, .int .i64 g], .int .i64 v]) (by simp [results, Try.results21, go_sem, y0', y1', y2', n0, n1, n2]) rfl ⟨p, q, g, v, rfl, ?_⟩
  exact Sp2.bel HB0.out hHeld (by omega) (Nat.le_refl _) (by omega)
set_option maxHeartbeats 800000 in
theorem qInts_any (A A' : Option Addr) (n c c' : Nat) (zs : List Int) (w : World) (h : Ints w A n zs) (h' : Ints w A' n zs) :
    Calls Try.prog 24 #[.slice A n c, .slice A' n c'] w fun e w' => e = .returned (.bool true) ∧ Below w.heap.size w w' := by
  have hn := h.le
  have HI := Lib.hid h
  have HI' := Lib.hid h'
  clear h h'
  go_enter Try.func24, Try.ntmps24
  go_wp2
  go_loopw [13] (fun i wr => ∃ k : Nat, k ≤ n ∧ i = .int .i64 k ∧ Hid (Below w.heap.size w wr)) (fun i _ => n - (intOf i).toNat)
  case atStart => exact ⟨0, by omega, rfl, Lib.hid (Below.refl _ _)⟩
  case round =>
    obtain ⟨k, hk, rfl, HB⟩ := hrel
    by_cases hlt : k < n
    · obtain ⟨b, off, rfl, hb, hc⟩ := (HI.out.below HB.out).at_ hlt
      obtain ⟨b', off', rfl, hb', hc'⟩ := (HI'.out.below HB.out).at_ hlt
      generalize zs.getD k 0 = z at hc hc'
      have k1 : (0 : Int) ≤ (k : Int) := by omega
      have k2 : (k : Int) < (n : Int) := by omega
      have hne : (z != z) = false := by simp
      go_wp2
      go_quiet (fail)
      go_wp2
      go_roundw
      case rel => exact ⟨k + 1, by omega, by go_num, Lib.hid (belN HB.out)⟩
      case measure => simp [intOf]; omega
    · have e : k = n := by omega
      subst e
      go_wp2
      go_ret
      exact ⟨rfl, HB.out⟩
end Go.Proofs.Yteeggmnkcgpfjaa
