/- PolyFromRoots: contracts of both sides. -/
import Derived.Test.YteeggmnkcgpfjaaMul2
namespace Go.Proofs.Yteeggmnkcgpfjaa
open Go.RowKit
set_option linter.unusedVariables false

def rootK (q : Int) (rs : List Int) : Nat → List Int
  | 0 => [1]
  | k + 1 => mulL q (rootK q rs k) [(-(rs.getD k 0)) % q, 1]
theorem rootK_len (q : Int) (rs : List Int) : ∀ k, (rootK q rs k).length = k + 1
  | 0 => rfl
  | k + 1 => by rw [rootK, mulL_len, rootK_len q rs k]; simp
theorem Res.pair {q a b : Int} (a0 : 0 ≤ a) (a1 : a < q) (b0 : 0 ≤ b) (b1 : b < q) : Res q [a, b] := by
  intro j hj
  match j with
  | 0 => exact ⟨a0, a1⟩
  | 1 => exact ⟨b0, b1⟩
  | j + 2 => exact absurd hj (by simp)
theorem rootK_res {q : Int} {rs : List Int} (hq : 2 ≤ q) : ∀ k, Res q (rootK q rs k)
  | 0 => by
    intro j hj
    have e : j = 0 := by simp [rootK] at hj; omega
    subst e
    show 0 ≤ (1 : Int) ∧ (1 : Int) < q
    omega
  | k + 1 => mulL_res (by omega)
def rtM (q : Int) (rs : List Int) : List Int × Bool := if polyB q rs && decide (rs.length < 24) then (rootK q rs rs.length, true) else ([], false)
theorem rtM_len (q : Int) (rs : List Int) : (rtM q rs).1.length ≤ rs.length + 1 := by
  unfold rtM
  split
  · show (rootK q rs rs.length).length ≤ _
    rw [rootK_len]
    omega
  · simp
theorem own_one (W : World) (B : Nat) (x : Int) (hB : B ≤ W.heap.size) : (W.alloc (.cells #[.int .i64 x] 3)).ownsRow B 3 1 (.slice (some ⟨W.heap.size, 0, none⟩) 1 1) 1 ([x].map (Value.int .i64)) :=
  World.ownsRow_lit W #[.int .i64 x] 1 hB (by simp [maxLen]) (by simp)
theorem Ints.pair (W : World) (x y : Int) : Ints (W.alloc (.cells #[.int .i64 x, .int .i64 y] 3)) (some ⟨W.heap.size, 0, none⟩) 2 [x, y] :=
  Ints.of_own (World.ownsRow_lit (base := 0) (e := 3) (size := 1) W #[.int .i64 x, .int .i64 y] 2 (Nat.zero_le _) (by simp [maxLen]) (by simp))

set_option maxHeartbeats 800000 in
theorem yRoots_any (q : Int) (A : Option Addr) (n c : Nat) (rs : List Int) (w : World) (h : Ints w A n rs) (m1 : 2 ≤ q) (m2 : q ≤ 2000000000) (hr : Res q rs) (hn : n ≤ 100000) :
    Calls Try.prog 140 #[.int .i64 q, .slice A n c] w fun e w' => ∃ B cc, e = .returned (.slice B (n + 1) cc) ∧ w'.ownsRow w.heap.size 3 1 (.slice B (n + 1) cc) (n + 1) ((rootK q rs n).map (Value.int .i64)) ∧ Below w.heap.size w w' := by
  have hl := h.len
  subst hl
  have HI := Lib.hid h
  have HA := Lib.hid hr
  clear h hr
  go_enter Try.func140, Try.ntmps140
  go_wp2
  go_loopw [5, 11] (fun o i wr => ∃ k : Nat, k ≤ rs.length ∧ i = .int .i64 k ∧ Hid (wr.ownsRow w.heap.size 3 1 o (k + 1) ((rootK q rs k).map (Value.int .i64))) ∧ Hid (Below w.heap.size w wr)) (fun _ i _ => rs.length - (intOf i).toNat)
  case atStart => exact ⟨0, by omega, rfl, Lib.hid (own_one _ _ _ (Nat.le_refl _)), Lib.hid (by repeat (first | exact Below.refl _ _ | assumption | refine belA ?_ | refine belD ?_ | refine belN ?_ | refine belS ?_ (by simp) | refine belT ?_ (by assumption)))⟩
  case round =>
    obtain ⟨k, hk, rfl, HO, HB⟩ := hrel
    obtain ⟨C, oc, rfl⟩ := own_shape HO.out
    by_cases hlt : k < rs.length
    · obtain ⟨b, off, rfl, hb, hc⟩ := (HI.out.below HB.out).at_ hlt
      obtain ⟨z1, z2⟩ := HA.out k hlt
      have HS := Lib.hid (show mulL q (rootK q rs k) [(-(rs.getD k 0)) % q, 1] = rootK q rs (k + 1) from rfl)
      have HL := Lib.hid (rootK_len q rs (k + 1))
      have HK := Lib.hid (rootK_res (rs := rs) m1 k)
      generalize rs.getD k 0 = z at hc z1 z2 HS
      go_wp2_with fail
      refine (nMod_any _ _ _ (by omega) (by omega)).mono ?_
      rintro e w1 ⟨rfl, rfl⟩
      have y1 := Int.emod_nonneg (-z) (show q ≠ 0 by omega)
      have y2 := Int.emod_lt_of_pos (-z) (show 0 < q by omega)
      generalize (-z) % q = y at y1 y2 HS
      go_wp2_with fail
      refine (yMul_any q C (k + 1) oc (rootK q rs k) _ 2 2 [y, 1] _ ((Ints.of_own HO.out).below (belA (Below.refl _ _))) (Ints.pair _ _ _) m1 m2 HK.out (Res.pair y1 y2 (by omega) (by omega)) (by omega) (by omega)).mono ?_
      rintro e w2 ⟨B, cc, rfl, hown, hb2⟩
      rw [HS.out, HL.out] at hown
      rw [HS.out, HL.out]
      have HO2 := Lib.hid (ownDown hown (Nat.le_trans HB.out.size (by simp)))
      clear hown
      go_wp2
      go_roundw
      case rel => exact ⟨k + 1, by omega, by go_num, HO2, Lib.hid (belT (belA HB.out) hb2)⟩
      case measure => simp [intOf]; omega
    · have e : k = rs.length := by omega
      subst e
      go_wp2
      go_ret
      exact ⟨_, _, rfl, HO.out, HB.out⟩

set_option maxHeartbeats 800000 in
theorem fromRoots_any (q : Int) (A : Option Addr) (n c : Nat) (rs : List Int) (w : World) (h : Ints w A n rs) (m1 : 2 ≤ q) (m2 : q ≤ 2000000000) (hr : Res q rs) (hn : n ≤ 100000) :
    Calls Try.prog 145 #[.int .i64 q, .slice A n c] w fun e w' => ∃ B cc, e = .returned (.slice B (n + 1) cc) ∧ w'.ownsRow w.heap.size 3 1 (.slice B (n + 1) cc) (n + 1) ((rootK q rs n).map (Value.int .i64)) ∧ Below w.heap.size w w' := by
  have hl := h.len
  subst hl
  have HI := Lib.hid h
  have HA := Lib.hid hr
  clear h hr
  go_enter Try.func145, Try.ntmps145
  go_wp2
  go_loopw [5, 11] (fun o i wr => ∃ k : Nat, k ≤ rs.length ∧ i = .int .i64 k ∧ Hid (wr.ownsRow w.heap.size 3 1 o (k + 1) ((rootK q rs k).map (Value.int .i64))) ∧ Hid (Below w.heap.size w wr)) (fun _ i _ => rs.length - (intOf i).toNat)
  case atStart => exact ⟨0, by omega, rfl, Lib.hid (own_one _ _ _ (Nat.le_refl _)), Lib.hid (by repeat (first | exact Below.refl _ _ | assumption | refine belA ?_ | refine belD ?_ | refine belN ?_ | refine belS ?_ (by simp) | refine belT ?_ (by assumption)))⟩
  case round =>
    obtain ⟨k, hk, rfl, HO, HB⟩ := hrel
    obtain ⟨C, oc, rfl⟩ := own_shape HO.out
    by_cases hlt : k < rs.length
    · obtain ⟨b, off, rfl, hb, hc⟩ := (HI.out.below HB.out).at_ hlt
      obtain ⟨z1, z2⟩ := HA.out k hlt
      have HS := Lib.hid (show mulL q (rootK q rs k) [(-(rs.getD k 0)) % q, 1] = rootK q rs (k + 1) from rfl)
      have HL := Lib.hid (rootK_len q rs (k + 1))
      have HK := Lib.hid (rootK_res (rs := rs) m1 k)
      generalize rs.getD k 0 = z at hc z1 z2 HS
      go_wp2_with fail
      refine (mod_any _ _ _ (by omega) (by omega)).mono ?_
      rintro e w1 ⟨rfl, rfl⟩
      have y1 := Int.emod_nonneg (-z) (show q ≠ 0 by omega)
      have y2 := Int.emod_lt_of_pos (-z) (show 0 < q by omega)
      generalize (-z) % q = y at y1 y2 HS
      go_wp2_with fail
      refine (mulPolys_any q C (k + 1) oc (rootK q rs k) _ 2 2 [y, 1] _ ((Ints.of_own HO.out).below (belA (Below.refl _ _))) (Ints.pair _ _ _) m1 m2 HK.out (Res.pair y1 y2 (by omega) (by omega)) (by omega) (by omega)).mono ?_
      rintro e w2 ⟨B, cc, rfl, hown, hb2⟩
      rw [HS.out, HL.out] at hown
      rw [HS.out, HL.out]
      have HO2 := Lib.hid (ownDown hown (Nat.le_trans HB.out.size (by simp)))
      clear hown
      go_wp2
      go_roundw
      case rel => exact ⟨k + 1, by omega, by go_num, HO2, Lib.hid (belT (belA HB.out) hb2)⟩
      case measure => simp [intOf]; omega
    · have e : k = rs.length := by omega
      subst e
      go_wp2
      go_ret
      exact ⟨_, _, rfl, HO.out, HB.out⟩


end Go.Proofs.Yteeggmnkcgpfjaa
