/- Contracts: points; a place taken out of a list. -/
import Derived.Test.YteeggmnkcgpfjaaItp
import Derived.Test.YteeggmnkcgpfjaaShelf
import Derived.Laws.IdiomCopy
namespace Go.Proofs.Yteeggmnkcgpfjaa
open Go.RowKit
set_option linter.unusedVariables false
set_option linter.unusedSimpArgs false

theorem Ints.take {w : World} {A : Option Addr} {n k : Nat} {zs : List Int} (h : Ints w A n zs) (hk : k ≤ n) : Ints w A k (zs.take k) := by
  refine ⟨by rw [List.length_take, h.len]; omega, by have := h.le; omega, fun h0 => ?_⟩
  obtain ⟨b, off, e, hb, hc⟩ := h.2.2 (by omega)
  refine ⟨b, off, e, hb, fun j hj => ?_⟩
  rw [List.getD_eq_getElem?_getD, List.getElem?_take_of_lt hj, ← List.getD_eq_getElem?_getD]
  exact hc j (by omega)
theorem Ints.drop {w : World} {b off n k : Nat} {zs : List Int} (h : Ints w (some ⟨b, off, none⟩) n zs) (hk : k ≤ n) : Ints w (some ⟨b, off + k, none⟩) (n - k) (zs.drop k) := by
  refine ⟨by rw [List.length_drop, h.len], by have := h.le; omega, fun h0 => ?_⟩
  obtain ⟨b', off', e, hb, hc⟩ := h.2.2 (by omega)
  injection e with e
  injection e with e1 e2
  subst e1 e2
  refine ⟨b, off + k, rfl, hb, fun j hj => ?_⟩
  rw [List.getD_eq_getElem?_getD, List.getElem?_drop, ← List.getD_eq_getElem?_getD, show off + k + j = off + (k + j) from by omega]
  exact hc (k + j) (by omega)
theorem has_yes {zs : List Int} {n k : Nat} {x : Int} (hn : zs.length = n) (hk : k < n) (h : zs.getD k 0 = x) : hasL zs x = true := by
  subst h
  exact List.contains_iff_mem.2 (getD_mem (by omega))
theorem has_no {zs : List Int} {n : Nat} {x : Int} (hn : zs.length = n) (h : ∀ j, j < n → zs.getD j 0 ≠ x) : hasL zs x = false := by
  rw [Bool.eq_false_iff]
  intro hcon
  obtain ⟨j, hj, e⟩ := List.getElem_of_mem (List.contains_iff_mem.1 (show zs.contains x = true from hcon))
  refine h j (by omega) ?_
  rw [List.getD_eq_getElem?_getD, List.getElem?_eq_getElem hj]
  exact e

set_option maxHeartbeats 400000 in
theorem l1Has_any (A : Option Addr) (n c : Nat) (zs : List Int) (x : Int) (w : World) (h : Ints w A n zs) :
    Calls Try.prog 171 #[.slice A n c, .int .i64 x] w fun e w' => e = .returned (.bool (hasL zs x)) ∧ w = w' := by
  have hn := h.le
  have HI := Lib.hid h
  clear h
  go_enter Try.func171, Try.ntmps171
  go_wp2
  go_loop [9] (fun i => ∃ k : Nat, k ≤ n ∧ i = .int .i64 k ∧ Hid (∀ j, j < k → zs.getD j 0 ≠ x)) (fun i => n - (intOf i).toNat)
  case atStart => exact ⟨0, by omega, rfl, Lib.hid fun j hj => absurd hj (by omega)⟩
  case round =>
    obtain ⟨k, hk, rfl, HK⟩ := hrel
    by_cases hlt : k < n
    · obtain ⟨b, off, rfl, hb, hc⟩ := HI.out.at_ hlt
      generalize hz : zs.getD k 0 = z at hc
      have HZ := Lib.hid hz
      clear hz
      have i1 : (0 : Int) ≤ (k : Int) := by omega
      have i2 : (k : Int) < (n : Int) := by omega
      cases hin : ((z : Int) == x)
      · go_wp2
        go_round
        case rel => exact ⟨k + 1, by omega, by go_num, Lib.hid (upto_succ HK.out (by rw [HZ.out]; simpa using hin))⟩
        case measure => simp [intOf]; omega
      · go_wp2
        go_ret
        exact ⟨ret_bool (has_yes HI.out.len hlt (by rw [HZ.out]; simpa using hin)).symm, rfl⟩
    · have e : k = n := by omega
      subst e
      go_wp2
      go_ret
      exact ⟨ret_bool (has_no HI.out.len HK.out).symm, rfl⟩
set_option maxHeartbeats 400000 in
theorem Index_any (A : Option Addr) (n c : Nat) (zs : List Int) (x : Int) (w : World) (h : Ints w A n zs) :
    Calls Try.prog 190 #[.slice A n c, .int .i64 x] w fun e w' => (∃ r : Int, e = .returned (.int .i64 r) ∧ Hid (decide (0 ≤ r) = hasL zs x)) ∧ w = w' := by
  have hn := h.le
  have HI := Lib.hid h
  clear h
  go_enter Try.func190, Try.ntmps190
  go_wp2
  go_loop [8] (fun i => ∃ k : Nat, k ≤ n ∧ i = .int .i64 k ∧ Hid (∀ j, j < k → zs.getD j 0 ≠ x)) (fun i => n - (intOf i).toNat)
  case atStart => exact ⟨0, by omega, rfl, Lib.hid fun j hj => absurd hj (by omega)⟩
  case round =>
    obtain ⟨k, hk, rfl, HK⟩ := hrel
    by_cases hlt : k < n
    · obtain ⟨b, off, rfl, hb, hc⟩ := HI.out.at_ hlt
      generalize hz : zs.getD k 0 = z at hc
      have HZ := Lib.hid hz
      clear hz
      have i1 : (0 : Int) ≤ (k : Int) := by omega
      have i2 : (k : Int) < (n : Int) := by omega
      cases hin : ((x : Int) == z)
      · go_wp2
        go_round
        case rel => exact ⟨k + 1, by omega, by go_num, Lib.hid (upto_succ HK.out (by rw [HZ.out]; intro e; rw [e] at hin; simp at hin))⟩
        case measure => simp [intOf]; omega
      · go_wp2
        go_ret
        exact ⟨⟨k, rfl, Lib.hid (by rw [has_yes HI.out.len hlt (by rw [HZ.out]; exact (by simpa using hin : x = z).symm)]; simp)⟩, rfl⟩
    · have e : k = n := by omega
      subst e
      go_wp2
      go_ret
      exact ⟨⟨-1, rfl, Lib.hid (by rw [has_no HI.out.len HK.out]; rfl)⟩, rfl⟩
set_option maxHeartbeats 400000 in
theorem Contains_any (A : Option Addr) (n c : Nat) (zs : List Int) (x : Int) (w : World) (h : Ints w A n zs) :
    Calls Try.prog 173 #[.slice A n c, .int .i64 x] w fun e w' => e = .returned (.bool (hasL zs x)) ∧ w = w' := by
  have H := Lib.hid (Index_any A n c zs x w h)
  clear h
  go_enter Try.func173, Try.ntmps173
  go_wp2_with (go_at_call 190; refine H.out.mono ?_; rintro e w' ⟨⟨r, rfl, HR⟩, rfl⟩)
  go_ret
  exact ⟨ret_bool HR.out, rfl⟩
set_option maxHeartbeats 800000 in
theorem yPoints_any (A : Option Addr) (n c : Nat) (zs : List Int) (w : World) (h : Ints w A n zs) (hcap : n ≤ c) :
    Calls Try.prog 133 #[.slice A n c] w fun e w' => e = .returned (.bool (ptsB zs)) ∧ w = w' := by
  have hl := h.len
  subst hl
  have hn := h.le
  have HI := Lib.hid h
  clear h
  go_enter Try.func133, Try.ntmps133
  go_wp2
  go_loop [7] (fun i => ∃ k : Nat, k ≤ zs.length ∧ i = .int .i64 k ∧ Hid (∀ j, j < k → hasL (zs.take j) (zs.getD j 0) = false)) (fun i => zs.length - (intOf i).toNat)
  case atStart => exact ⟨0, by omega, rfl, Lib.hid fun j hj => absurd hj (by omega)⟩
  case round =>
    obtain ⟨k, hk, rfl, HK⟩ := hrel
    by_cases hlt : k < zs.length
    · obtain ⟨b, off, rfl, hb, hc⟩ := HI.out.at_ hlt
      have hcon := fun x => l1Has_any _ k c _ x w (HI.out.take (k := k) (by omega))
      have i1 : (0 : Int) ≤ (k : Int) := by omega
      have i2 : (k : Int) < (zs.length : Int) := by omega
      have i3 : (k : Int) ≤ (c : Int) := by omega
      have HCON := Lib.hid hcon
      clear hcon
      cases hin : hasL (zs.take k) (zs.getD k 0)
      · have HIN := Lib.hid hin
        generalize hz : zs.getD k 0 = z at hc hin
        clear hz
        go_wp2_with (go_at_call 171; refine (HCON.out _).mono ?_; rintro e w' ⟨rfl, rfl⟩; rw [hin])
        go_round
        case rel => exact ⟨k + 1, by omega, by go_num, Lib.hid (upto_succ HK.out HIN.out)⟩
        case measure => simp [intOf]; omega
      · have HIN := Lib.hid (ptsB_no hlt hin)
        generalize hz : zs.getD k 0 = z at hc hin
        clear hz
        go_wp2_with (go_at_call 171; refine (HCON.out _).mono ?_; rintro e w' ⟨rfl, rfl⟩; rw [hin])
        go_ret
        exact ⟨ret_bool HIN.out.symm, rfl⟩
    · have e : k = zs.length := by omega
      subst e
      go_wp2
      go_ret
      exact ⟨ret_bool (ptsB_yes HK.out).symm, rfl⟩
set_option maxHeartbeats 800000 in
theorem areDifferent_any (A : Option Addr) (n c : Nat) (zs : List Int) (w : World) (h : Ints w A n zs) (hcap : n ≤ c) :
    Calls Try.prog 136 #[.slice A n c] w fun e w' => e = .returned (.bool (ptsB zs)) ∧ w = w' := by
  have hl := h.len
  subst hl
  have hn := h.le
  have HI := Lib.hid h
  clear h
  go_enter Try.func136, Try.ntmps136
  go_wp2
  go_loop [7] (fun i => ∃ k : Nat, k ≤ zs.length ∧ i = .int .i64 k ∧ Hid (∀ j, j < k → hasL (zs.take j) (zs.getD j 0) = false)) (fun i => zs.length - (intOf i).toNat)
  case atStart => exact ⟨0, by omega, rfl, Lib.hid fun j hj => absurd hj (by omega)⟩
  case round =>
    obtain ⟨k, hk, rfl, HK⟩ := hrel
    by_cases hlt : k < zs.length
    · obtain ⟨b, off, rfl, hb, hc⟩ := HI.out.at_ hlt
      have hcon := fun x => Contains_any _ k c _ x w (HI.out.take (k := k) (by omega))
      have i1 : (0 : Int) ≤ (k : Int) := by omega
      have i2 : (k : Int) < (zs.length : Int) := by omega
      have i3 : (k : Int) ≤ (c : Int) := by omega
      have HCON := Lib.hid hcon
      clear hcon
      cases hin : hasL (zs.take k) (zs.getD k 0)
      · have HIN := Lib.hid hin
        generalize hz : zs.getD k 0 = z at hc hin
        clear hz
        go_wp2_with (go_at_call 173; refine (HCON.out _).mono ?_; rintro e w' ⟨rfl, rfl⟩; rw [hin])
        go_round
        case rel => exact ⟨k + 1, by omega, by go_num, Lib.hid (upto_succ HK.out HIN.out)⟩
        case measure => simp [intOf]; omega
      · have HIN := Lib.hid (ptsB_no hlt hin)
        generalize hz : zs.getD k 0 = z at hc hin
        clear hz
        go_wp2_with (go_at_call 173; refine (HCON.out _).mono ?_; rintro e w' ⟨rfl, rfl⟩; rw [hin])
        go_ret
        exact ⟨ret_bool HIN.out.symm, rfl⟩
    · have e : k = zs.length := by omega
      subst e
      go_wp2
      go_ret
      exact ⟨ret_bool (ptsB_yes HK.out).symm, rfl⟩
set_option maxHeartbeats 800000 in
theorem arePoints_any (q : Int) (A : Option Addr) (n c : Nat) (zs : List Int) (w : World) (h : Ints w A n zs) (hcap : n ≤ c) :
    Calls Try.prog 96 #[.int .i64 q, .slice A n c] w fun e w' => e = .returned (.bool (arP q zs)) ∧ Below w.heap.size w w' := by
  have hl := h.len
  subst hl
  have hn := h.le
  have HI := Lib.hid h
  clear h
  by_cases h0 : 0 < zs.length
  · have hd : decide ((0 : Int) < (zs.length : Int)) = true := decide_eq_true (by omega)
    cases h1 : polyB q zs
    · go_enter Try.func96, Try.ntmps96
      go_wp2_with fail
      refine (isPoly_any q A zs.length c zs _ HI.out).mono ?_
      rintro e w1_ ⟨rfl, hb1⟩
      have hW := hb1
      obtain ⟨hc, hf⟩ := bcell hW
      rw [h1]
      go_wp2
      go_ret
      exact ⟨ret_bool (by rw [arP, h1]; rfl), hW⟩
    · go_enter Try.func96, Try.ntmps96
      go_wp2_with fail
      refine (isPoly_any q A zs.length c zs _ HI.out).mono ?_
      rintro e w1_ ⟨rfl, hb1⟩
      have hW := hb1
      obtain ⟨hc, hf⟩ := bcell hW
      rw [h1]
      go_wp2_with (go_at_call 136; refine (areDifferent_any A zs.length c zs _ (HI.out.below hW) hcap).mono ?_; rintro e w' ⟨rfl, rfl⟩)
      go_ret
      exact ⟨ret_bool (by rw [arP, h1, decide_eq_true h0]; simp), hW⟩
  · have hd : decide ((0 : Int) < (zs.length : Int)) = false := decide_eq_false (by omega)
    go_enter Try.func96, Try.ntmps96
    go_wp2
    go_ret
    exact ⟨ret_bool (by rw [arP, decide_eq_false h0]; simp), Below.refl _ _⟩

theorem belSC {B b : Nat} {a : World} (hb : B ≤ b) : ∀ (vs : List Value) (o : Nat) (W : World), Below B a W → Below B a (W.setCells b o vs)
  | [], _, _, h => h
  | v :: r, o, W, h => belSC hb r (o + 1) _ (h.setCell hb v)
theorem own_caps {w : World} {B g M c : Nat} {xs : List Value} (h : w.ownsRow B 3 1 (.slice (some ⟨g, 0, none⟩) M c) M xs) : M ≤ c ∧ c ≤ maxLen := by
  rcases h.2 with ⟨h1, _⟩ | ⟨g', cap, cur, h1, h2, h3, h4, h5, h6, h7⟩
  · cases h1
  · injection h1 with e1 e2 e3
    subst e3
    exact ⟨h4, h5⟩
theorem erase_row (zs : List Int) (i n : Nat) (hl : zs.length = n) (hi : i < n) : (zs.take n).take i ++ (zs.take n).drop (i + 1) ++ List.replicate (i + 1 - i) 0 = zs.eraseIdx i ++ [0] := by
  have e : zs.take n = zs := List.take_of_length_le (by omega)
  rw [e, show i + 1 - i = 1 from by omega, List.eraseIdx_eq_take_drop_succ]
  rfl
theorem delete_any (W : World) (B g n c i : Nat) (zs : List Int) (h : W.ownsRow B 3 1 (.slice (some ⟨g, 0, none⟩) n c) n (zs.map (Value.int .i64))) (hi : i < n) :
    Calls Try.prog 144 #[.slice (some ⟨g, 0, none⟩) n c, .int .i64 (i : Int), .int .i64 ((i : Int) + 1)] W fun e w' => e = .returned (.slice (some ⟨g, 0, none⟩) (n - 1) c) ∧ Ints w' (some ⟨g, 0, none⟩) (n - 1) (zs.eraseIdx i) ∧ Below B W w' := by
  have hl : zs.length = n := by have := h.1; simpa using this
  obtain ⟨hc1, hc2⟩ := own_caps h
  unfold maxLen at hc2
  have hlt := h.lt g rfl
  have hD := Try.slices_Delete_int_cells g 0 n c i (i + 1) zs W (by omega) hc1 (by omega) (by omega) (by omega) (fun j hj => by rw [Nat.zero_add]; exact own_at h (by omega)) (fun j hj => by rw [Nat.zero_add]; exact h.frozenAt j)
  rw [show ((i + 1 : Nat) : Int) = (i : Int) + 1 from by omega, erase_row zs i n hl hi, show i + 1 - i = 1 from by omega] at hD
  refine hD.mono ?_
  rintro e w' ⟨rfl, q, rfl⟩
  refine ⟨rfl, ?_, belSC hlt.1 _ _ _ (belN (Below.refl _ _))⟩
  have hel : (zs.eraseIdx i).length = n - 1 := by rw [List.length_eraseIdx, if_pos (by omega)]; omega
  refine ⟨hel, by omega, fun h0 => ⟨g, 0, rfl, ?_, fun k hk => ?_⟩⟩
  · have : ∀ (vs : List Value) (o : Nat) (V : World), g < V.heap.size → g < (V.setCells g o vs).heap.size := by
      intro vs
      induction vs with
      | nil => intro o V h; exact h
      | cons v r ih => intro o V h; exact ih _ _ (by simpa using h)
    exact this _ _ _ hlt.2
  · have hin := World.cell?_setCells_in g ((zs.eraseIdx i ++ [0]).map (Value.int .i64)) 0 (W.drewN q) (fun j hj => by
      rw [Nat.zero_add]
      have := own_at h (k := j) (by simp at hj; omega)
      show (W.cell? ⟨g, j, none⟩).isSome = true
      rw [this]
      rfl) k (by simp; omega)
    rw [hin]
    simp only [List.getElem_map]
    rw [List.getElem_append_left (by omega), List.getD_eq_getElem?_getD, List.getElem?_eq_getElem (by omega)]
    rfl
end Go.Proofs.Yteeggmnkcgpfjaa
