/- Contracts of both sides: ElementsOf. -/
import Derived.Test.YteeggmnkcgpfjaaEoN
import Derived.Test.YteeggmnkcgpfjaaGr3
import Derived.Test.YteeggmnkcgpfjaaRd
import Derived.Test.YteeggmnkcgpfjaaShelfB
import Derived.Sort.OwnSorted
import Derived.Deep.RegionHeld3
import Derived.Deep.DrawnRows
namespace Go.Proofs.Yteeggmnkcgpfjaa
open Go.RowKit
set_option linter.unusedVariables false
attribute [local go_sem ↓] Go.wp_at_zero Go.wp_at_succ
set_option linter.unusedSimpArgs false

theorem heldTake {P : Program} {md : Region.Mode} {ops : Array Oper} {Q : Exit → Act → World → Prop} {S : World → Prop} {i k : Nat} {oi : Oper} {v : Value} {l : Array Bool} {a : Act} {w : World} (d : Option Tmp) (hi : ops[i]? = some oi) (hd : oi.dst = d)
    (hs : Region.noSelect ops = true) (hf : Region.free md ops l i = true) (hr : (Region.ready md ops l).contains i = true) (hQ : ∀ c a w, Q (.panic c) (a.put d v) w → Q (.panic c) a w)
    (hy : YieldsIf P ops S oi v a) (hS : S w) (h : wpAnyH P md ops Q S k (l.setIfInBounds i true) (a.put d v) w) : wpAnyH P md ops Q S (k + 1) l a w := by
  subst hd
  exact wpAnyH_take hi hs hf hr hQ hy hS h
theorem ret_sl {A : Option Addr} {n m c : Nat} (h : n = m) : Ending.returned (.slice A n c) = .returned (.slice A m c) := by rw [h]
theorem Ints.two' {w : World} {b : Nat} {x y : Int} (hc : w.cell? ⟨b, 0, none⟩ = some (.int .i64 x)) (hd : w.cell? ⟨b, 1, none⟩ = some (.int .i64 y)) : Ints w (some ⟨b, 0, none⟩) 2 [x, y] :=
  ⟨rfl, by omega, fun _ => ⟨b, 0, rfl, World.block_lt_of_cell? _ _ hc, fun k hk => by
    match k, hk with
    | 0, _ => exact hc
    | 1, _ => exact hd
    | k + 2, h => exact absurd h (by omega)⟩⟩
theorem own_alloc_of {B B' : Nat} {a W : World} {o : Obj} {e s n : Nat} {v : Value} {xs : List Value} (h : Below B a (W.alloc o)) (ho : W.ownsRow B' e s v n xs) : (W.alloc o).ownsRow B' e s v n xs := ho.alloc _
theorem ints_alloc_of {B : Nat} {a W : World} {o : Obj} {A : Option Addr} {n : Nat} {zs : List Int} (h : Below B a (W.alloc o)) (hI : Ints W A n zs) : Ints (W.alloc o) A n zs := hI.below (belA (Below.refl _ _))
theorem lit1_of {B : Nat} {a W : World} {x : Int} {t : TypeId} (h : Below B a (W.alloc (.cells #[.int .i64 x] t))) : Ints (W.alloc (.cells #[.int .i64 x] t)) (some ⟨W.heap.size, 0, none⟩) 1 [x] := Ints.one (by rw [World.cell?_alloc_at _ _ _ _ (by simp)]; rfl)
theorem lit2_of {B : Nat} {a W : World} {x y : Int} {t : TypeId} (h : Below B a (W.alloc (.cells #[.int .i64 x, .int .i64 y] t))) : Ints (W.alloc (.cells #[.int .i64 x, .int .i64 y] t)) (some ⟨W.heap.size, 0, none⟩) 2 [x, y] := Ints.two' (by rw [World.cell?_alloc_at _ _ _ _ (by simp)]; rfl) (by rw [World.cell?_alloc_at _ _ _ _ (by simp)]; rfl)
theorem own_alloc_ofD {B B' : Nat} {a W : World} {o : Obj} {e s n : Nat} {v : Value} {xs : List Value} (h : Below B a (W.alloc o).drew) (ho : W.drew.ownsRow B' e s v n xs) : (W.alloc o).drew.ownsRow B' e s v n xs := own_drew (World.ownsRow.alloc (w := W) ho _)
theorem ints_alloc_ofD {B : Nat} {a W : World} {o : Obj} {A : Option Addr} {n : Nat} {zs : List Int} (h : Below B a (W.alloc o).drew) (hI : Ints W.drew A n zs) : Ints (W.alloc o).drew A n zs := Ints.drew (Ints.below (w := W) hI (belA (Below.refl _ _)))
theorem lit1_ofD {B : Nat} {a W : World} {x : Int} {t : TypeId} (h : Below B a (W.alloc (.cells #[.int .i64 x] t)).drew) : Ints (W.alloc (.cells #[.int .i64 x] t)).drew (some ⟨W.heap.size, 0, none⟩) 1 [x] := Ints.drew (Ints.one (by rw [World.cell?_alloc_at _ _ _ _ (by simp)]; rfl))
theorem lit2_ofD {B : Nat} {a W : World} {x y : Int} {t : TypeId} (h : Below B a (W.alloc (.cells #[.int .i64 x, .int .i64 y] t)).drew) : Ints (W.alloc (.cells #[.int .i64 x, .int .i64 y] t)).drew (some ⟨W.heap.size, 0, none⟩) 2 [x, y] := Ints.drew (Ints.two' (by rw [World.cell?_alloc_at _ _ _ _ (by simp)]; rfl) (by rw [World.cell?_alloc_at _ _ _ _ (by simp)]; rfl))
theorem ints_kept {W w' : World} {b n : Nat} {zs : List Int} {v : Value} (hI : Ints W (some ⟨b, 0, none⟩) n zs) (hg : W.grownBy w' v.ownBlock) (hne : ∀ k, v.ownBlock = some k → k ≠ b) : Ints w' (some ⟨b, 0, none⟩) n zs := by
  refine ⟨hI.1, hI.2.1, fun hn => ?_⟩
  obtain ⟨b', off, e, hb, hc⟩ := hI.2.2 hn
  injection e with e
  injection e with e1 e2
  subst e1 e2
  exact ⟨b, 0, rfl, Nat.lt_of_lt_of_le hb hg.size, fun k hk => hg.cell (hc k hk) (fun e' => hne b e'.symm rfl)⟩
/-! ## a row of integers, sorted by the library -/
theorem heap_sortedI {w : World} {g n : Nat} {os : Array Obj} {cur : Array Value} {e : TypeId} {fr : Nat × Nat} (d : Array Int) (hb : w.heap[g]? = some (.cells cur e fr)) :
    (Go.Sort.grow (Go.Sort.putRow (Value.int .i64) (Go.Sort.ahead w n) g 0 d) os).heap[g]? = some (.cells (Go.Sort.putCells (Value.int .i64) 0 d cur) e fr) := by
  have hg : g < w.heap.size := (Array.getElem?_eq_some_iff.1 hb).1
  rw [Go.Sort.heap_grow_old _ _ (by simpa using hg)]
  simp [Go.Sort.putRow, Go.Sort.mapBlock, Go.Sort.ahead, Array.getElem?_modify, hb, Go.Sort.onCells]
theorem grownBy_sortedI {w : World} {g n : Nat} {os : Array Obj} (d : Array Int) : w.grownBy (Go.Sort.grow (Go.Sort.putRow (Value.int .i64) (Go.Sort.ahead w n) g 0 d) os) (some g) := by
  refine ⟨rfl, rfl, rfl, by simp, fun k hk hne => ?_⟩
  rw [Go.Sort.heap_grow_old _ _ (by simpa using hk)]
  have : g ≠ k := fun e => hne (by rw [e])
  simp [Go.Sort.putRow, Go.Sort.mapBlock, Go.Sort.ahead, Array.getElem?_modify, this]
theorem take_putCellsI (cur : Array Value) (ts : List Int) (h : ts.length ≤ cur.size) : (Go.Sort.putCells (Value.int .i64) 0 ts.toArray cur).toList.take ts.length = ts.map (Value.int .i64) := by
  apply List.ext_getElem?
  intro j
  by_cases hj : j < ts.length
  · rw [List.getElem?_take_of_lt hj, Array.getElem?_toList]
    simp [Go.Sort.putCells, hj, show j < cur.size by omega]
  · rw [List.getElem?_take_eq_none (by omega), List.getElem?_eq_none (by simp; omega)]
theorem ownsRow_sortedI {w : World} {base g cap n : Nat} {e : TypeId} {os : Array Obj} {cur : Array Value} {ss ts : List Int} (hl : ts.length = ss.length) (hbase : base ≤ g) (hb : w.heap[g]? = some (.cells cur e (0, 0)))
    (h1 : ss.length ≤ cap) (h2 : cap ≤ maxLen) (h3 : cur.size = cap * 1) :
    (Go.Sort.grow (Go.Sort.putRow (Value.int .i64) (Go.Sort.ahead w n) g 0 ts.toArray) os).ownsRow base e 1 (.slice (some ⟨g, 0, none⟩) ss.length cap) ss.length (ts.map (Value.int .i64)) :=
  ⟨by simp [hl], .inr ⟨g, cap, _, rfl, hbase, heap_sortedI _ hb, h1, h2, by simp [Go.Sort.putCells, h3], by rw [Nat.mul_one, ← hl]; exact take_putCellsI cur ts (by omega)⟩⟩
set_option maxHeartbeats 800000 in
theorem sort_any (A : Option Addr) (n c B : Nat) (zs : List Int) (w : World) (h : w.ownsRow B 3 1 (.slice A n c) n (zs.map (Value.int .i64))) (hn : 0 < n) (hn2 : n ≤ 1000000) :
    Calls Try.prog 64 #[.slice A n c] w fun e w' => e = .returned (.tuple #[]) ∧ w'.ownsRow B 3 1 (.slice A n c) n ((zs.mergeSort fun x y => decide (x ≤ y)).map (Value.int .i64)) ∧ w.grownBy w' (Value.slice A n c).ownBlock := by
  have hl : zs.length = n := by have := h.1; simpa using this
  subst hl
  have h' := h
  rcases h.2 with ⟨h1, h2⟩ | ⟨g, cap, cur, h1, h2, h3, h4, h5, h6, h7⟩
  · omega
  · injection h1 with e1 e2 e3
    subst e1 e3
    have hH : Go.Sort.Holds (Value.int .i64) w g 0 zs.toArray := by
      intro j hj
      have hj' : j < zs.length := by simpa using hj
      refine ⟨?_, ?_⟩
      · have := h'.cellAt j (by omega)
        rw [Nat.zero_add, this, List.getElem?_map, List.getElem?_eq_getElem hj']
        simp [hj']
      · rw [Nat.zero_add]; exact h'.frozenAt j
    refine (Try.slices_Sort_int g 0 c zs w hH (Array.getElem?_eq_some_iff.1 h3).1 (by omega)).mono ?_
    rintro e w' ⟨rfl, m, os, rfl⟩
    exact ⟨rfl, ownsRow_sortedI (by simp) h2 h3 h4 h5 h6, grownBy_sortedI _⟩

set_option maxRecDepth 100000 in
set_option maxHeartbeats 1600000 in
theorem l1Put_any (A : Option Addr) (n c : Nat) (zs : List Int) (x : Int) (w : World) (h : Ints w A n zs) (hk : Caps A n c) (hx : x ∉ zs) (hn : n ≤ 1000000) :
    Calls Try.prog 61 #[.slice A n c, .int .i64 x] w fun e w' => ∃ A' c', e = .returned (.slice A' (n + 1) c') ∧ w'.ownsRow w.heap.size 3 1 (.slice A' (n + 1) c') (n + 1) ((insI zs x).map (Value.int .i64)) ∧ Below w.heap.size w w' := by
  have hl := h.len
  subst hl
  obtain ⟨c1, c2, c3⟩ := hk
  have HX := Lib.hid hx
  clear hx
  rcases c3 with ⟨rfl, rfl⟩ | ⟨g, off, rfl⟩
  · have hz : zs = [] := List.eq_nil_of_length_eq_zero (by omega)
    subst hz
    have HN := Lib.hid (show insI [] x = [x] from rfl)
    have HI := Lib.hid (Ints.nil w none)
    clear h c1
    go_enter Try.func61, Try.ntmps61
    go_wp2
    go_loop [5] (fun i => i = .int .i64 0) (fun i => 0)
    case atStart => rfl
    case round =>
      subst hrel
      go_wp2_with (first | (at_builtin; first | (refine appI rfl _ _ rfl rfl rfl (HI.out.below (belA (Below.refl _ _))) (own_empty w w.heap.size (Nat.le_refl _)) (by omega) (by simp) ?_; intro A1 c1 w1 hown1 hg1; rw [Nat.zero_add, List.nil_append] at hown1; have HO1 := Lib.hid hown1; have HB1 := Lib.hid (own_below (belA (Below.refl _ _)) (by simp) (own_empty w w.heap.size (Nat.le_refl _)) hg1); clear hown1 hg1) | (refine app1 rfl _ _ rfl rfl rfl HO1.out (by omega) HB1.out.size ?_; intro v2 w2 hown2 hbel2; have HO2 := Lib.hid hown2; have HB2 := Lib.hid (HB1.out.trans hbel2); clear hown2 hbel2) | (refine appI rfl _ _ rfl rfl rfl (HI.out.below HB2.out) HO2.out (by omega) HB2.out.size ?_; intro A3 c3 w3 hown3 hg3; have HO3 := Lib.hid hown3; have HB3 := Lib.hid (own_below HB2.out HB2.out.size HO2.out hg3); clear hown3 hg3)))
      go_wp2
      go_ret
      rw [HN.out]
      refine ⟨A3, c3, by simp, ?_, HB3.out⟩
      have := HO3.out
      simpa using this
  · have HI := Lib.hid h
    clear h
    go_enter Try.func61, Try.ntmps61
    go_wp2
    go_loop [5] (fun i => ∃ k : Nat, k ≤ zs.length ∧ i = .int .i64 k ∧ Hid (∀ j, j < k → zs.getD j 0 < x)) (fun i => zs.length - (intOf i).toNat)
    case atStart => exact ⟨0, by omega, rfl, Lib.hid fun j hj => absurd hj (by omega)⟩
    case round =>
      obtain ⟨k, hk, rfl, HK⟩ := hrel
      have i1 : (0 : Int) ≤ (k : Int) := by omega
      have i3 : (k : Int) ≤ (c : Int) := by omega
      have i4 : (k : Int) ≤ (zs.length : Int) := by omega
      have HT := Lib.hid (HI.out.take (k := k) hk)
      by_cases hlt : k < zs.length
      · obtain ⟨b, off', e', hb, hc⟩ := HI.out.at_ hlt
        injection e' with e'
        injection e' with e1 e2
        subst e1 e2
        have hne : zs.getD k 0 ≠ x := fun e => HX.out (by rw [← e]; exact getD_mem hlt)
        generalize hzz : zs.getD k 0 = z at hc hne
        have HZ := Lib.hid hzz
        have i2 : (k : Int) < (zs.length : Int) := by omega
        clear hzz
        by_cases hzx : z < x
        · go_wp2
          go_round
          case rel => exact ⟨k + 1, by omega, by go_num, Lib.hid (upto_succ HK.out (by rw [HZ.out]; exact hzx))⟩
          case measure => simp [intOf]; omega
        · have heq : (z == x) = false := by simp [hne]
          have HN := Lib.hid (cutI_eq (n := x) hk HK.out (fun _ => by rw [HZ.out]; exact hzx))
          have HD := Lib.hid (HI.out.drop (k := k) hk)
          have hck : ¬ c = k := by omega
          go_wp2_with (first | (at_builtin; first | (refine appI rfl _ _ rfl rfl rfl (HT.out.below (belA (Below.refl _ _))) (own_empty w w.heap.size (Nat.le_refl _)) (by omega) (by simp) ?_; intro A1 c1 w1 hown1 hg1; rw [Nat.zero_add, List.nil_append] at hown1; have HO1 := Lib.hid hown1; have HB1 := Lib.hid (own_below (belA (Below.refl _ _)) (by simp) (own_empty w w.heap.size (Nat.le_refl _)) hg1); clear hown1 hg1) | (refine app1 rfl _ _ rfl rfl rfl HO1.out (by omega) HB1.out.size ?_; intro v2 w2 hown2 hbel2; have HO2 := Lib.hid hown2; have HB2 := Lib.hid (HB1.out.trans hbel2); clear hown2 hbel2) | (refine appI rfl _ _ rfl rfl rfl (HD.out.below HB2.out) HO2.out (by omega) HB2.out.size ?_; intro A3 c3 w3 hown3 hg3; have HO3 := Lib.hid hown3; have HB3 := Lib.hid (own_below HB2.out HB2.out.size HO2.out hg3); clear hown3 hg3)))
          have e3 : k + 1 + (zs.length - k) = zs.length + 1 := by omega
          go_wp2
          go_ret
          rw [e3] at HO3
          refine ⟨A3, c3, ret_sl e3, ?_, HB3.out⟩
          have := HO3.out
          rw [List.append_assoc] at this
          rw [insI, HN.out]
          exact this
      · have e : k = zs.length := by omega
        subst e
        have HN := Lib.hid (cutI_eq (n := x) hk HK.out (fun h => absurd h (by omega)))
        rw [List.take_of_length_le (Nat.le_refl _)] at HT
        have HZ := Lib.hid (show insI zs x = zs ++ [x] by rw [insI, HN.out, List.take_of_length_le (Nat.le_refl _), List.drop_of_length_le (Nat.le_refl _)])
        have hsub : zs.length - zs.length = 0 := Nat.sub_self _
        by_cases hck : c = zs.length
        · have HD := Lib.hid (Ints.nil w (some ⟨g, off, none⟩))
          go_wp2_with (first | (at_builtin; first | (refine appI rfl _ _ rfl rfl rfl (HT.out.below (belA (Below.refl _ _))) (own_empty w w.heap.size (Nat.le_refl _)) (by omega) (by simp) ?_; intro A1 c1 w1 hown1 hg1; rw [Nat.zero_add, List.nil_append] at hown1; have HO1 := Lib.hid hown1; have HB1 := Lib.hid (own_below (belA (Below.refl _ _)) (by simp) (own_empty w w.heap.size (Nat.le_refl _)) hg1); clear hown1 hg1) | (refine app1 rfl _ _ rfl rfl rfl HO1.out (by omega) HB1.out.size ?_; intro v2 w2 hown2 hbel2; have HO2 := Lib.hid hown2; have HB2 := Lib.hid (HB1.out.trans hbel2); clear hown2 hbel2) | (refine appI rfl _ _ rfl rfl rfl (HD.out.below HB2.out) HO2.out (by omega) HB2.out.size ?_; intro A3 c3 w3 hown3 hg3; have HO3 := Lib.hid hown3; have HB3 := Lib.hid (own_below HB2.out HB2.out.size HO2.out hg3); clear hown3 hg3)))
          go_wp2
          go_ret
          rw [Nat.add_zero] at HO3
          refine ⟨A3, c3, by simp, ?_, HB3.out⟩
          rw [HZ.out]
          have := HO3.out
          rwa [List.append_nil] at this
        · have HD := Lib.hid (Ints.nil w (some ⟨g, off + zs.length, none⟩))
          go_wp2_with (first | (at_builtin; first | (refine appI rfl _ _ rfl rfl rfl (HT.out.below (belA (Below.refl _ _))) (own_empty w w.heap.size (Nat.le_refl _)) (by omega) (by simp) ?_; intro A1 c1 w1 hown1 hg1; rw [Nat.zero_add, List.nil_append] at hown1; have HO1 := Lib.hid hown1; have HB1 := Lib.hid (own_below (belA (Below.refl _ _)) (by simp) (own_empty w w.heap.size (Nat.le_refl _)) hg1); clear hown1 hg1) | (refine app1 rfl _ _ rfl rfl rfl HO1.out (by omega) HB1.out.size ?_; intro v2 w2 hown2 hbel2; have HO2 := Lib.hid hown2; have HB2 := Lib.hid (HB1.out.trans hbel2); clear hown2 hbel2) | (refine appI rfl _ _ rfl rfl rfl (HD.out.below HB2.out) HO2.out (by omega) HB2.out.size ?_; intro A3 c3 w3 hown3 hg3; have HO3 := Lib.hid hown3; have HB3 := Lib.hid (own_below HB2.out HB2.out.size HO2.out hg3); clear hown3 hg3)))
          go_wp2
          go_ret
          rw [Nat.add_zero] at HO3
          refine ⟨A3, c3, by simp, ?_, HB3.out⟩
          rw [HZ.out]
          have := HO3.out
          rwa [List.append_nil] at this
set_option maxRecDepth 100000 in
set_option maxHeartbeats 1600000 in
theorem sElementsOf_ri (p q g : Int) (w : World) :
    Calls Try.prog 14 #[.agg #[.int .i64 p, .int .i64 q, .int .i64 g]] w (RI w (eoM p q g)) := by
  have hb0 : Below w.heap.size w (w.alloc (.cells #[.int .i64 p, .int .i64 q, .int .i64 g] 27)) := (by repeat (first | exact Below.refl _ _ | assumption | refine belA ?_ | refine belD ?_ | refine belN ?_ | refine belS ?_ (by simp) | refine belT ?_ (by assumption)))
  cases h1 : goodB p q g
  · have HN := Lib.hid (show eoM p q g = ([], false) by rw [eoM, eoB, h1]; rfl)
    go_enter Try.func14, Try.ntmps14
    go_wp2_with fail
    refine (l2Good_any p q g _).mono ?_
    rintro e w1_ ⟨rfl, hb1⟩
    have hW := hb1
    obtain ⟨hc, hf⟩ := bcell hW
    rw [h1]
    go_wp2
    go_ret2
    exact RI.no HN.out (belT hb0 hW)
  · obtain ⟨g1, g2, g3, g4, g5, g6⟩ := good_om h1
    by_cases hq : q ≤ 2000
    · have hd : decide ((2000 : Int) < q) = false := by simp; omega
      have HN := Lib.hid (show eoM p q g = (eoK p q g q.toNat, true) by rw [eoM, eoB, h1, decide_eq_true hq]; rfl)
      have HG := Lib.hid h1
      go_enter Try.func14, Try.ntmps14
      go_wp2_with fail
      have c0 : (w.alloc (.cells #[.int .i64 p, .int .i64 q, .int .i64 g] 27)).cell? ⟨w.heap.size, 0, none⟩ = some (.int .i64 p) := (by rw [World.cell?_alloc_at _ _ _ _ (by simp)]; rfl)
      have c1 : (w.alloc (.cells #[.int .i64 p, .int .i64 q, .int .i64 g] 27)).cell? ⟨w.heap.size, 1, none⟩ = some (.int .i64 q) := (by rw [World.cell?_alloc_at _ _ _ _ (by simp)]; rfl)
      have c2 : (w.alloc (.cells #[.int .i64 p, .int .i64 q, .int .i64 g] 27)).cell? ⟨w.heap.size, 2, none⟩ = some (.int .i64 g) := (by rw [World.cell?_alloc_at _ _ _ _ (by simp)]; rfl)
      have hz0 : (w.alloc (.cells #[.int .i64 p, .int .i64 q, .int .i64 g] 27)).heap.size = w.heap.size + 1 := by simp
      refine (l2Good_any p q g _).mono ?_
      rintro e W1 ⟨rfl, hb1⟩
      rw [h1]
      generalize hW0 : (w.alloc (.cells #[.int .i64 p, .int .i64 q, .int .i64 g] 27)) = W0 at c0 c1 c2 hz0 hb0 hb1
      clear hW0
      have HX0 : Hid (Below (w.heap.size + 1) W0 W1) := Lib.hid (by rw [← hz0]; exact hb1)
      have k0 := keepL HX0.out (Nat.lt_succ_self _) c0
      have k1 := keepL HX0.out (Nat.lt_succ_self _) c1
      have k2 := keepL HX0.out (Nat.lt_succ_self _) c2
      have hsz := hb1.size
      have hsz1 : w.heap.size < W1.heap.size := by omega
      clear hb1
      go_wp2
      clear k0 k1 k2
      go_loopw [4, 5] (fun v i wr => ∃ k : Nat, (k : Int) ≤ q ∧ i = .int .i64 k ∧ Hid (wr.ownsRow (w.heap.size + 1) 3 1 v k ((eoK p q g k).map (Value.int .i64))) ∧ Hid (Below (w.heap.size + 1) W0 wr)) (fun _ i _ => q.toNat - (intOf i).toNat)
      case atStart => exact ⟨0, by omega, rfl, Lib.hid (own_nil _ _), HX0⟩
      case round =>
        clear HX0 hsz hsz1
        obtain ⟨k, hk, rfl, HO, HX⟩ := hrel
        obtain ⟨C, oc, rfl⟩ := own_shape HO.out
        have k0 := keepL HX.out (Nat.lt_succ_self _) c0
        have k1 := keepL HX.out (Nat.lt_succ_self _) c1
        have k2 := keepL HX.out (Nat.lt_succ_self _) c2
        have hsz := HX.out.size
        by_cases hlt : (k : Int) < q
        · have HNW := Lib.hid (eoK_new HG.out hlt)
          have HST := Lib.hid (show eoK p q g (k + 1) = insI (eoK p q g k) (gpow p q g (k : Int)) from rfl)
          go_wp2_with fail
          refine (gExp_any p q g g (k : Int) _ (by omega) (by omega) (by omega) (by omega) (by omega) (by omega)).mono ?_
          rintro e w2 ⟨rfl, hb2⟩
          have HO2 := Lib.hid (ownBelow HO.out hb2)
          have HX2 := Lib.hid (HX.out.trans (hb2.mono (by omega)))
          have hsz2 := HX2.out.size
          clear hb2
          go_wp2_with fail
          refine (l1Put_any C k oc (eoK p q g k) _ _ (Ints.of_own HO2.out) (Own.mk' HO2.out).caps HNW.out (by omega)).mono ?_
          rintro e w3 ⟨A3, c3, rfl, ho3, hb3⟩
          rw [← HST.out] at ho3
          have HO3 := Lib.hid (ownDown (B' := w.heap.size + 1) ho3 (by omega))
          have HX3 := Lib.hid (HX2.out.trans (hb3.mono (by omega)))
          clear ho3 hb3
          go_wp2
          go_roundw
          case rel => exact ⟨k + 1, by omega, by go_num, HO3, HX3⟩
          case measure => simp [intOf]; omega
        · have e : (k : Int) = q := by omega
          have e2 : q.toNat = k := by omega
          rw [e2] at HN
          go_wp2
          go_ret2
          exact RI.yes HN.out (ownDown HO.out (by omega)) (hb0.trans (HX.out.mono (by omega)))
    · have hd : decide ((2000 : Int) < q) = true := by simp; omega
      have HN := Lib.hid (show eoM p q g = ([], false) by rw [eoM, eoB, decide_eq_false hq]; simp)
      go_enter Try.func14, Try.ntmps14
      go_wp2_with fail
      refine (l2Good_any p q g _).mono ?_
      rintro e w1_ ⟨rfl, hb1⟩
      have hW := hb1
      obtain ⟨hc, hf⟩ := bcell hW
      rw [h1]
      go_wp2
      go_ret2
      exact RI.no HN.out (belT hb0 hW)
theorem sElementsOf_any (p q g : Int) (w : World) :
    Calls Try.prog 14 #[.agg #[.int .i64 p, .int .i64 q, .int .i64 g]] w fun e w' => ∃ B cc, e = .returned (.tuple #[.slice B (eoM p q g).1.length cc, .bool (eoM p q g).2]) ∧ w'.ownsRow w.heap.size 3 1 (.slice B (eoM p q g).1.length cc) (eoM p q g).1.length ((eoM p q g).1.map (Value.int .i64)) ∧ Below w.heap.size w w' := sElementsOf_ri p q g w
set_option maxRecDepth 100000 in
set_option maxHeartbeats 1600000 in
theorem iElementsOf_ri (p q g : Int) (w : World) :
    Calls Try.prog 16 #[.agg #[.int .i64 p, .int .i64 q, .int .i64 g]] w (RI w (eoM p q g)) := by
  have hb0 : Below w.heap.size w (w.alloc (.cells #[.int .i64 p, .int .i64 q, .int .i64 g] 27)) := (by repeat (first | exact Below.refl _ _ | assumption | refine belA ?_ | refine belD ?_ | refine belN ?_ | refine belS ?_ (by simp) | refine belT ?_ (by assumption)))
  cases h1 : goodB p q g
  · have HN := Lib.hid (show eoM p q g = ([], false) by rw [eoM, eoB, h1]; rfl)
    go_enter Try.func16, Try.ntmps16
    go_wp2_with fail
    refine (IsValidGroup_any p q g _).mono ?_
    rintro e w1_ ⟨rfl, hb1⟩
    have hW := hb1
    obtain ⟨hc, hf⟩ := bcell hW
    rw [h1]
    go_wp2
    go_ret2
    exact RI.no HN.out (belT hb0 hW)
  · obtain ⟨g1, g2, g3, g4, g5, g6⟩ := good_om h1
    by_cases hq : q ≤ 2000
    · have hd : decide ((2000 : Int) < q) = false := by simp; omega
      have HN := Lib.hid (show eoM p q g = (eoK p q g q.toNat, true) by rw [eoM, eoB, h1, decide_eq_true hq]; rfl)
      have HG := Lib.hid h1
      go_enter Try.func16, Try.ntmps16
      go_wp2_with fail
      have c0 : (w.alloc (.cells #[.int .i64 p, .int .i64 q, .int .i64 g] 27)).cell? ⟨w.heap.size, 0, none⟩ = some (.int .i64 p) := (by rw [World.cell?_alloc_at _ _ _ _ (by simp)]; rfl)
      have c1 : (w.alloc (.cells #[.int .i64 p, .int .i64 q, .int .i64 g] 27)).cell? ⟨w.heap.size, 1, none⟩ = some (.int .i64 q) := (by rw [World.cell?_alloc_at _ _ _ _ (by simp)]; rfl)
      have c2 : (w.alloc (.cells #[.int .i64 p, .int .i64 q, .int .i64 g] 27)).cell? ⟨w.heap.size, 2, none⟩ = some (.int .i64 g) := (by rw [World.cell?_alloc_at _ _ _ _ (by simp)]; rfl)
      have hz0 : (w.alloc (.cells #[.int .i64 p, .int .i64 q, .int .i64 g] 27)).heap.size = w.heap.size + 1 := by simp
      refine (IsValidGroup_any p q g _).mono ?_
      rintro e W1 ⟨rfl, hb1⟩
      rw [h1]
      generalize hW0 : (w.alloc (.cells #[.int .i64 p, .int .i64 q, .int .i64 g] 27)) = W0 at c0 c1 c2 hz0 hb0 hb1
      clear hW0
      have HX0 : Hid (Below (w.heap.size + 1) W0 W1) := Lib.hid (by rw [← hz0]; exact hb1)
      have k0 := keepL HX0.out (Nat.lt_succ_self _) c0
      have k1 := keepL HX0.out (Nat.lt_succ_self _) c1
      have k2 := keepL HX0.out (Nat.lt_succ_self _) c2
      have hsz := hb1.size
      have hsz1 : w.heap.size < W1.heap.size := by omega
      clear hb1
      go_wp2
      clear k0 k1 k2
      go_loopw [4, 5, 17] (fun v x i wr => ∃ k : Nat, (k : Int) ≤ q ∧ i = .int .i64 k ∧ x = .int .i64 (pw g (k : Int) p) ∧ Hid (wr.ownsRow (w.heap.size + 1) 3 1 v k ((pwsL p q g k).map (Value.int .i64))) ∧ Hid (Below (w.heap.size + 1) W0 wr)) (fun _ _ i _ => q.toNat - (intOf i).toNat)
      case atStart =>
        refine ⟨0, by omega, rfl, ?_, Lib.hid (ownDown (own_empty W1 W1.heap.size (Nat.le_refl _)) (by omega)), Lib.hid (HX0.out.alloc (by omega) _)⟩
        simp only [pw, Int.toNat_natCast, Nat.pow_zero]
        congr 1
        rw [Nat.mod_eq_of_lt (by omega)]
        rfl
      case round =>
        clear HX0 hsz hsz1
        obtain ⟨k, hk, rfl, rfl, HO, HX⟩ := hrel
        obtain ⟨C, oc, rfl⟩ := own_shape HO.out
        have k0 := keepL HX.out (Nat.lt_succ_self _) c0
        have k1 := keepL HX.out (Nat.lt_succ_self _) c1
        have k2 := keepL HX.out (Nat.lt_succ_self _) c2
        have hsz := HX.out.size
        by_cases hlt : (k : Int) < q
        · have HLF : Hid (pwsL p q g k ++ [pw g (k : Int) p] = pwsL p q g (k + 1)) := Lib.hid (by rw [pwsL_succ, gpow_small hlt])
          have HPW : Hid (mulK p [pw g (k : Int) p, g] 2 = pw g ((k + 1 : Nat) : Int) p) := Lib.hid (pw_next (by omega) (by omega))
          have HSM : Hid (∀ z ∈ [pw g (k : Int) p, g], Small p z) := Lib.hid (by
            intro z hz
            have hb := pw_bd (m := p) (a := g) (e := (k : Int)) (by omega)
            simp at hz
            rcases hz with rfl | rfl
            · exact hb
            · exact ⟨by omega, by omega⟩)
          have HV := Lib.hid (fun j (hj : (Value.slice C k oc).ownBlock = some j) => (HO.out.lt j hj).2)
          go_wp2
          refine wp_region_held_drew (S := fun W => Below (w.heap.size + 1) W0 W ∧ wr.heap.size ≤ W.heap.size) (by kernel_rfl) ⟨belD HX.out, Nat.le_refl _⟩ (fun hHeld => ?_)
          refine heldTake (i := 0) (v := ?_) (some 19) rfl rfl (by kernel_rfl) (by kernel_rfl) (by kernel_rfl) (fun _ _ _ h => h) (Or.inl ⟨by rfl, ?_⟩) (by assumption) ?_
          rotate_left
          · (intro W hSw; have q0 := keepL hSw.1 (Nat.lt_succ_self _) c0; have q1 := keepL hSw.1 (Nat.lt_succ_self _) c1; have q2 := keepL hSw.1 (Nat.lt_succ_self _) c2; clear hSw; go_simp; all_goals first | with_reducible rfl | (simp [*]; done) | fail)
          try simp only [Act.put, List.setIfInBounds_toArray, List.set_cons_zero, List.set_cons_succ]
          refine heldTake (i := 1) (v := ?_) (some 20) rfl rfl (by kernel_rfl) (by kernel_rfl) (by kernel_rfl) (fun _ _ _ h => h) (Or.inl ⟨by rfl, ?_⟩) (by assumption) ?_
          rotate_left
          · (intro W hSw; have q0 := keepL hSw.1 (Nat.lt_succ_self _) c0; have q1 := keepL hSw.1 (Nat.lt_succ_self _) c1; have q2 := keepL hSw.1 (Nat.lt_succ_self _) c2; clear hSw; go_simp; all_goals first | with_reducible rfl | (simp [*]; done) | fail)
          try simp only [Act.put, List.setIfInBounds_toArray, List.set_cons_zero, List.set_cons_succ]
          refine heldTake (i := 4) (v := ?_) (some 23) rfl rfl (by kernel_rfl) (by kernel_rfl) (by kernel_rfl) (fun _ _ _ h => h) (Or.inl ⟨by rfl, ?_⟩) (by assumption) ?_
          rotate_left
          · (intro W hSw; have q0 := keepL hSw.1 (Nat.lt_succ_self _) c0; have q1 := keepL hSw.1 (Nat.lt_succ_self _) c1; have q2 := keepL hSw.1 (Nat.lt_succ_self _) c2; clear hSw; go_simp; all_goals first | with_reducible rfl | (simp [*]; done) | fail)
          try simp only [Act.put, List.setIfInBounds_toArray, List.set_cons_zero, List.set_cons_succ]
          refine heldTake (i := 5) (v := ?_) (some 24) rfl rfl (by kernel_rfl) (by kernel_rfl) (by kernel_rfl) (fun _ _ _ h => h) (Or.inl ⟨by rfl, ?_⟩) (by assumption) ?_
          rotate_left
          · (intro W hSw; have q0 := keepL hSw.1 (Nat.lt_succ_self _) c0; have q1 := keepL hSw.1 (Nat.lt_succ_self _) c1; have q2 := keepL hSw.1 (Nat.lt_succ_self _) c2; clear hSw; go_simp; all_goals first | with_reducible rfl | (simp [*]; done) | fail)
          try simp only [Act.put, List.setIfInBounds_toArray, List.set_cons_zero, List.set_cons_succ]
          refine heldTake (i := 6) (v := ?_) (some 25) rfl rfl (by kernel_rfl) (by kernel_rfl) (by kernel_rfl) (fun _ _ _ h => h) (Or.inl ⟨by rfl, ?_⟩) (by assumption) ?_
          rotate_left
          · (intro W hSw; have q0 := keepL hSw.1 (Nat.lt_succ_self _) c0; have q1 := keepL hSw.1 (Nat.lt_succ_self _) c1; have q2 := keepL hSw.1 (Nat.lt_succ_self _) c2; clear hSw; go_simp; all_goals first | with_reducible rfl | (simp [*]; done) | fail)
          try simp only [Act.put, List.setIfInBounds_toArray, List.set_cons_zero, List.set_cons_succ]
          refine heldTake (i := 7) (v := ?_) (some 26) rfl rfl (by kernel_rfl) (by kernel_rfl) (by kernel_rfl) (fun _ _ _ h => h) (Or.inl ⟨by rfl, ?_⟩) (by assumption) ?_
          rotate_left
          · (intro W hSw; have q0 := keepL hSw.1 (Nat.lt_succ_self _) c0; have q1 := keepL hSw.1 (Nat.lt_succ_self _) c1; have q2 := keepL hSw.1 (Nat.lt_succ_self _) c2; clear hSw; go_simp; all_goals first | with_reducible rfl | (simp [*]; done) | fail)
          try simp only [Act.put, List.setIfInBounds_toArray, List.set_cons_zero, List.set_cons_succ]
          have HOc := Lib.hid (own_drew HO.out)
          refine wpAnyH_ready (rs := [2, 8]) (by kernel_rfl) (by simp) ?_
          refine AllReadyH.cons rfl (fun K hK => ?_) (AllReadyH.cons rfl (fun K hK => ?_) AllReadyH.nil)
          · go_simp
            refine hK.out _ _ ⟨hHeld.1.alloc (by have := hHeld.1.size; omega) _, by have := hHeld.2; first | omega | (simp; done) | (simp; omega)⟩ (fun hNew => ?_)
            clear hK K
            have hOld := hHeld.2
            clear hHeld
            have hHeld := hNew; clear hNew
            replace HOc := Lib.hid (own_alloc_ofD hHeld.1 HOc.out)
            have IX := Lib.hid (lit1_ofD hHeld.1)
            try simp only [World.size_alloc] at IX
            clear hOld
            try simp only [Act.put, List.setIfInBounds_toArray, List.set_cons_zero, List.set_cons_succ]
            refine wpAnyH_ready (rs := [3, 8]) (by kernel_rfl) (by simp) ?_
            refine AllReadyH.cons rfl (fun K hK => ?_) (AllReadyH.cons rfl (fun K hK => ?_) AllReadyH.nil)
            · refine step_appI (by rfl) _ _ (by rfl) (by rfl) (by rfl) IX.out HOc.out (by omega) (by have := hHeld.1.size; omega) ?_
              intro A9 c9 w9 hown9 hg9
              refine hK.out _ _ ⟨own_below hHeld.1 (by have := hHeld.1.size; omega) HOc.out hg9, Nat.le_trans hHeld.2 hg9.size⟩ (fun hNew => ?_)
              clear hK K hHeld
              have hHeld := hNew; clear hNew
              rw [HLF.out] at hown9
              replace HOc := Lib.hid hown9
              clear hown9 hg9 IX
              try simp only [Act.put, List.setIfInBounds_toArray, List.set_cons_zero, List.set_cons_succ]
              refine wpAnyH_ready (rs := [8]) (by kernel_rfl) (by simp) ?_
              refine AllReadyH.cons rfl (fun K hK => ?_) AllReadyH.nil
              go_simp
              refine hK.out _ _ ⟨hHeld.1.alloc (by have := hHeld.1.size; omega) _, by have := hHeld.2; first | omega | (simp; done) | (simp; omega)⟩ (fun hNew => ?_)
              clear hK K
              have hOld := hHeld.2
              clear hHeld
              have hHeld := hNew; clear hNew
              replace HOc := Lib.hid (own_alloc_of hHeld.1 HOc.out)
              have IM := Lib.hid (lit2_of hHeld.1)
              have IB := Lib.hid hOld
              try simp only [World.size_alloc] at IM
              try simp only [World.size_alloc, World.size_drew] at IB
              clear hOld
              try simp only [Act.put, List.setIfInBounds_toArray, List.set_cons_zero, List.set_cons_succ]
              refine wpAnyH_ready (rs := [9]) (by kernel_rfl) (by simp) ?_
              refine AllReadyH.cons rfl (fun K hK => ?_) AllReadyH.nil
              go_simp
              (go_at_call 63; refine (mul_any p q g _ 2 _ [pw g (k : Int) p, g] _ IM.out (by omega) (by omega) HSM.out).mono ?_; rintro e' w9 ⟨rfl, hb9⟩; rw [HPW.out])
              refine hK.out _ _ ⟨hHeld.1.trans (hb9.mono (by have := hHeld.1.size; omega)), Nat.le_trans hHeld.2 hb9.size⟩ (fun hNew => ?_)
              clear hK K hHeld
              have hHeld := hNew; clear hNew
              replace HOc := Lib.hid (ownBelow HOc.out hb9)
              clear hb9 IM IB
              try simp only [Act.put, List.setIfInBounds_toArray, List.set_cons_zero, List.set_cons_succ]
              refine heldTake (i := 10) (v := ?_) (some 4) rfl rfl (by kernel_rfl) (by kernel_rfl) (by kernel_rfl) (fun _ _ _ h => h) (Or.inl ⟨by rfl, ?_⟩) (by assumption) ?_
              rotate_left
              · (intro W hSw; have q0 := keepL hSw.1 (Nat.lt_succ_self _) c0; have q1 := keepL hSw.1 (Nat.lt_succ_self _) c1; have q2 := keepL hSw.1 (Nat.lt_succ_self _) c2; clear hSw; go_simp; all_goals first | with_reducible rfl | (simp [*]; done) | fail)
              try simp only [Act.put, List.setIfInBounds_toArray, List.set_cons_zero, List.set_cons_succ]
              refine heldTake (i := 11) (v := ?_) (some 5) rfl rfl (by kernel_rfl) (by kernel_rfl) (by kernel_rfl) (fun _ _ _ h => h) (Or.inl ⟨by rfl, ?_⟩) (by assumption) ?_
              rotate_left
              · (intro W hSw; have q0 := keepL hSw.1 (Nat.lt_succ_self _) c0; have q1 := keepL hSw.1 (Nat.lt_succ_self _) c1; have q2 := keepL hSw.1 (Nat.lt_succ_self _) c2; clear hSw; go_simp; all_goals first | with_reducible rfl | (simp [*]; done) | fail)
              try simp only [Act.put, List.setIfInBounds_toArray, List.set_cons_zero, List.set_cons_succ]
              refine wpAnyH_done (by kernel_rfl) ?_ _
              go_wp2
              go_roundw
              case rel => exact ⟨k + 1, by omega, by go_num, by first | rfl | simp, HOc, Lib.hid hHeld.1⟩
              case measure => simp [intOf]; omega
            · go_simp
              refine hK.out _ _ ⟨hHeld.1.alloc (by have := hHeld.1.size; omega) _, by have := hHeld.2; first | omega | (simp; done) | (simp; omega)⟩ (fun hNew => ?_)
              clear hK K
              have hOld := hHeld.2
              clear hHeld
              have hHeld := hNew; clear hNew
              replace HOc := Lib.hid (own_alloc_ofD hHeld.1 HOc.out)
              replace IX := Lib.hid (ints_alloc_ofD hHeld.1 IX.out)
              have IM := Lib.hid (lit2_ofD hHeld.1)
              have IB := Lib.hid hOld
              try simp only [World.size_alloc] at IM
              try simp only [World.size_alloc, World.size_drew] at IB
              clear hOld
              try simp only [Act.put, List.setIfInBounds_toArray, List.set_cons_zero, List.set_cons_succ]
              refine wpAnyH_ready (rs := [3]) (by kernel_rfl) (by simp) ?_
              refine AllReadyH.cons rfl (fun K hK => ?_) AllReadyH.nil
              refine step_appI (by rfl) _ _ (by rfl) (by rfl) (by rfl) IX.out HOc.out (by omega) (by have := hHeld.1.size; omega) ?_
              intro A9 c9 w9 hown9 hg9
              refine hK.out _ _ ⟨own_below hHeld.1 (by have := hHeld.1.size; omega) HOc.out hg9, Nat.le_trans hHeld.2 hg9.size⟩ (fun hNew => ?_)
              clear hK K hHeld
              have hHeld := hNew; clear hNew
              replace IM := Lib.hid (ints_kept IM.out hg9 (fun j hj => by have h1 := HV.out j hj; have h2 := IB.out; first | omega | (simp at h2 ⊢; omega) | (simp; omega)))
              rw [HLF.out] at hown9
              replace HOc := Lib.hid hown9
              clear hown9 hg9 IX
              try simp only [Act.put, List.setIfInBounds_toArray, List.set_cons_zero, List.set_cons_succ]
              refine wpAnyH_ready (rs := [9]) (by kernel_rfl) (by simp) ?_
              refine AllReadyH.cons rfl (fun K hK => ?_) AllReadyH.nil
              go_simp
              (go_at_call 63; refine (mul_any p q g _ 2 _ [pw g (k : Int) p, g] _ IM.out (by omega) (by omega) HSM.out).mono ?_; rintro e' w9 ⟨rfl, hb9⟩; rw [HPW.out])
              refine hK.out _ _ ⟨hHeld.1.trans (hb9.mono (by have := hHeld.1.size; omega)), Nat.le_trans hHeld.2 hb9.size⟩ (fun hNew => ?_)
              clear hK K hHeld
              have hHeld := hNew; clear hNew
              replace HOc := Lib.hid (ownBelow HOc.out hb9)
              clear hb9 IM IB
              try simp only [Act.put, List.setIfInBounds_toArray, List.set_cons_zero, List.set_cons_succ]
              refine heldTake (i := 10) (v := ?_) (some 4) rfl rfl (by kernel_rfl) (by kernel_rfl) (by kernel_rfl) (fun _ _ _ h => h) (Or.inl ⟨by rfl, ?_⟩) (by assumption) ?_
              rotate_left
              · (intro W hSw; have q0 := keepL hSw.1 (Nat.lt_succ_self _) c0; have q1 := keepL hSw.1 (Nat.lt_succ_self _) c1; have q2 := keepL hSw.1 (Nat.lt_succ_self _) c2; clear hSw; go_simp; all_goals first | with_reducible rfl | (simp [*]; done) | fail)
              try simp only [Act.put, List.setIfInBounds_toArray, List.set_cons_zero, List.set_cons_succ]
              refine heldTake (i := 11) (v := ?_) (some 5) rfl rfl (by kernel_rfl) (by kernel_rfl) (by kernel_rfl) (fun _ _ _ h => h) (Or.inl ⟨by rfl, ?_⟩) (by assumption) ?_
              rotate_left
              · (intro W hSw; have q0 := keepL hSw.1 (Nat.lt_succ_self _) c0; have q1 := keepL hSw.1 (Nat.lt_succ_self _) c1; have q2 := keepL hSw.1 (Nat.lt_succ_self _) c2; clear hSw; go_simp; all_goals first | with_reducible rfl | (simp [*]; done) | fail)
              try simp only [Act.put, List.setIfInBounds_toArray, List.set_cons_zero, List.set_cons_succ]
              refine wpAnyH_done (by kernel_rfl) ?_ _
              go_wp2
              go_roundw
              case rel => exact ⟨k + 1, by omega, by go_num, by first | rfl | simp, HOc, Lib.hid hHeld.1⟩
              case measure => simp [intOf]; omega
          · go_simp
            refine hK.out _ _ ⟨hHeld.1.alloc (by have := hHeld.1.size; omega) _, by have := hHeld.2; first | omega | (simp; done) | (simp; omega)⟩ (fun hNew => ?_)
            clear hK K
            have hOld := hHeld.2
            clear hHeld
            have hHeld := hNew; clear hNew
            replace HOc := Lib.hid (own_alloc_ofD hHeld.1 HOc.out)
            have IM := Lib.hid (lit2_ofD hHeld.1)
            have IB := Lib.hid hOld
            try simp only [World.size_alloc] at IM
            try simp only [World.size_alloc, World.size_drew] at IB
            clear hOld
            try simp only [Act.put, List.setIfInBounds_toArray, List.set_cons_zero, List.set_cons_succ]
            refine wpAnyH_ready (rs := [2]) (by kernel_rfl) (by simp) ?_
            refine AllReadyH.cons rfl (fun K hK => ?_) AllReadyH.nil
            go_simp
            refine hK.out _ _ ⟨hHeld.1.alloc (by have := hHeld.1.size; omega) _, by have := hHeld.2; first | omega | (simp; done) | (simp; omega)⟩ (fun hNew => ?_)
            clear hK K
            have hOld := hHeld.2
            clear hHeld
            have hHeld := hNew; clear hNew
            replace HOc := Lib.hid (own_alloc_ofD hHeld.1 HOc.out)
            replace IM := Lib.hid (ints_alloc_ofD hHeld.1 IM.out)
            have IX := Lib.hid (lit1_ofD hHeld.1)
            try simp only [World.size_alloc] at IX
            clear hOld
            try simp only [Act.put, List.setIfInBounds_toArray, List.set_cons_zero, List.set_cons_succ]
            refine wpAnyH_ready (rs := [3]) (by kernel_rfl) (by simp) ?_
            refine AllReadyH.cons rfl (fun K hK => ?_) AllReadyH.nil
            refine step_appI (by rfl) _ _ (by rfl) (by rfl) (by rfl) IX.out HOc.out (by omega) (by have := hHeld.1.size; omega) ?_
            intro A9 c9 w9 hown9 hg9
            refine hK.out _ _ ⟨own_below hHeld.1 (by have := hHeld.1.size; omega) HOc.out hg9, Nat.le_trans hHeld.2 hg9.size⟩ (fun hNew => ?_)
            clear hK K hHeld
            have hHeld := hNew; clear hNew
            replace IM := Lib.hid (ints_kept IM.out hg9 (fun j hj => by have h1 := HV.out j hj; have h2 := IB.out; first | omega | (simp at h2 ⊢; omega) | (simp; omega)))
            rw [HLF.out] at hown9
            replace HOc := Lib.hid hown9
            clear hown9 hg9 IX
            try simp only [Act.put, List.setIfInBounds_toArray, List.set_cons_zero, List.set_cons_succ]
            refine wpAnyH_ready (rs := [9]) (by kernel_rfl) (by simp) ?_
            refine AllReadyH.cons rfl (fun K hK => ?_) AllReadyH.nil
            go_simp
            (go_at_call 63; refine (mul_any p q g _ 2 _ [pw g (k : Int) p, g] _ IM.out (by omega) (by omega) HSM.out).mono ?_; rintro e' w9 ⟨rfl, hb9⟩; rw [HPW.out])
            refine hK.out _ _ ⟨hHeld.1.trans (hb9.mono (by have := hHeld.1.size; omega)), Nat.le_trans hHeld.2 hb9.size⟩ (fun hNew => ?_)
            clear hK K hHeld
            have hHeld := hNew; clear hNew
            replace HOc := Lib.hid (ownBelow HOc.out hb9)
            clear hb9 IM IB
            try simp only [Act.put, List.setIfInBounds_toArray, List.set_cons_zero, List.set_cons_succ]
            refine heldTake (i := 10) (v := ?_) (some 4) rfl rfl (by kernel_rfl) (by kernel_rfl) (by kernel_rfl) (fun _ _ _ h => h) (Or.inl ⟨by rfl, ?_⟩) (by assumption) ?_
            rotate_left
            · (intro W hSw; have q0 := keepL hSw.1 (Nat.lt_succ_self _) c0; have q1 := keepL hSw.1 (Nat.lt_succ_self _) c1; have q2 := keepL hSw.1 (Nat.lt_succ_self _) c2; clear hSw; go_simp; all_goals first | with_reducible rfl | (simp [*]; done) | fail)
            try simp only [Act.put, List.setIfInBounds_toArray, List.set_cons_zero, List.set_cons_succ]
            refine heldTake (i := 11) (v := ?_) (some 5) rfl rfl (by kernel_rfl) (by kernel_rfl) (by kernel_rfl) (fun _ _ _ h => h) (Or.inl ⟨by rfl, ?_⟩) (by assumption) ?_
            rotate_left
            · (intro W hSw; have q0 := keepL hSw.1 (Nat.lt_succ_self _) c0; have q1 := keepL hSw.1 (Nat.lt_succ_self _) c1; have q2 := keepL hSw.1 (Nat.lt_succ_self _) c2; clear hSw; go_simp; all_goals first | with_reducible rfl | (simp [*]; done) | fail)
            try simp only [Act.put, List.setIfInBounds_toArray, List.set_cons_zero, List.set_cons_succ]
            refine wpAnyH_done (by kernel_rfl) ?_ _
            go_wp2
            go_roundw
            case rel => exact ⟨k + 1, by omega, by go_num, by first | rfl | simp, HOc, Lib.hid hHeld.1⟩
            case measure => simp [intOf]; omega
        · have e : (k : Int) = q := by omega
          have e2 : q.toNat = k := by omega
          rw [e2] at HN
          have HSO := Lib.hid (pws_sorted HG.out (k := k) hk)
          go_wp2_with fail
          refine (sort_any C k oc (w.heap.size + 1) (pwsL p q g k) _ HO.out (by omega) (by omega)).mono ?_
          rintro e' w3 ⟨rfl, ho3, hg3⟩
          rw [HSO.out] at ho3
          have HO3 := Lib.hid ho3
          have HX3 := Lib.hid (own_below HX.out (by omega) HO.out hg3)
          clear ho3 hg3
          go_wp2
          go_ret2
          exact RI.yes HN.out (ownDown HO3.out (by omega)) (hb0.trans (HX3.out.mono (by omega)))
    · have hd : decide ((2000 : Int) < q) = true := by simp; omega
      have HN := Lib.hid (show eoM p q g = ([], false) by rw [eoM, eoB, decide_eq_false hq]; simp)
      go_enter Try.func16, Try.ntmps16
      go_wp2_with fail
      refine (IsValidGroup_any p q g _).mono ?_
      rintro e w1_ ⟨rfl, hb1⟩
      have hW := hb1
      obtain ⟨hc, hf⟩ := bcell hW
      rw [h1]
      go_wp2
      go_ret2
      exact RI.no HN.out (belT hb0 hW)
theorem iElementsOf_any (p q g : Int) (w : World) :
    Calls Try.prog 16 #[.agg #[.int .i64 p, .int .i64 q, .int .i64 g]] w fun e w' => ∃ B cc, e = .returned (.tuple #[.slice B (eoM p q g).1.length cc, .bool (eoM p q g).2]) ∧ w'.ownsRow w.heap.size 3 1 (.slice B (eoM p q g).1.length cc) (eoM p q g).1.length ((eoM p q g).1.map (Value.int .i64)) ∧ Below w.heap.size w w' := iElementsOf_ri p q g w
end Go.Proofs.Yteeggmnkcgpfjaa
