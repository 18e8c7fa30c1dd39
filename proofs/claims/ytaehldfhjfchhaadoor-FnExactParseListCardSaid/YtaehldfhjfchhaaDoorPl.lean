/- Contracts: the reference's ParseList. -/
import Derived.Test.YtaehldfhjfchhaaDoorPlN
import Derived.Test.YtaehldfhjfchhaaDoorFn
namespace Go.Proofs.YtaehldfhjfchhaaDoor
open Go.RowKit
set_option linter.unusedVariables false
set_option linter.unusedSimpArgs false

/-- the byte at a place -/
def byt (s : ByteArray) (j : Nat) : Nat := (s.data.toList.getD j 0).toNat
theorem byt_eq {s : ByteArray} {k : Nat} (h : k < s.size) : s[k].toNat = byt s k := by
  unfold byt
  rw [List.getD_eq_getElem?_getD, List.getElem?_eq_getElem (by simpa using h)]
  rfl
theorem byt_le (s : ByteArray) (j : Nat) : byt s j ≤ 255 := by
  have := (s.data.toList.getD j 0).toNat_lt
  unfold byt
  omega
theorem drop_byt {s : ByteArray} {k : Nat} (h : k < s.size) : s.data.toList.drop k = s.data.toList.getD k 0 :: s.data.toList.drop (k + 1) := by
  rw [List.drop_eq_getElem_cons (by simpa using h), List.getD_eq_getElem?_getD, List.getElem?_eq_getElem (by simpa using h)]
  rfl
theorem toList_len (s : ByteArray) : s.data.toList.length = s.size := rfl
theorem pK_bad {s : ByteArray} {k : Nat} (a : Nat) (hk : k < s.size) (h : byt s k < 48 ∨ 57 < byt s k) : pK a (s.data.toList.drop k) = -1 := by
  unfold byt at h
  rw [drop_byt hk, pK, if_pos (by omega)]
theorem pK_big {s : ByteArray} {k : Nat} (a : Nat) (hk : k < s.size) (h : (4611686018427387903 - (byt s k - 48)) / 10 < a) : pK a (s.data.toList.drop k) = -1 := by
  unfold byt at h
  rw [drop_byt hk, pK, if_pos (by omega)]
theorem pK_go {s : ByteArray} {k : Nat} (a : Nat) (hk : k < s.size) (h1 : 48 ≤ byt s k) (h2 : byt s k ≤ 57) (h : a ≤ (4611686018427387903 - (byt s k - 48)) / 10) : pK a (s.data.toList.drop k) = pK (10 * a + (byt s k - 48)) (s.data.toList.drop (k + 1)) := by
  unfold byt at h h1 h2
  rw [drop_byt hk, pK, if_neg (by omega)]
  rfl
theorem l4N_size {s : ByteArray} (h : s.size < 1 ∨ 19 < s.size) : l4N s.data.toList = -1 := by
  rw [l4N, if_pos]
  rw [toList_len]
  omega
theorem head_byt {s : ByteArray} (h : 0 < s.size) : s.data.toList.head? = some (s.data.toList.getD 0 0) := by
  have := drop_byt h
  rw [List.drop_zero] at this
  rw [this]
  rfl
theorem l4N_zero {s : ByteArray} (h0 : byt s 0 = 48) (h1 : 1 < s.size) : l4N s.data.toList = -1 := by
  have h2 : s.data.toList.getD 0 0 = 48 := UInt8.toNat_inj.1 h0
  rw [l4N, if_pos]
  rw [toList_len, head_byt (by omega), h2]
  exact .inr (.inr ⟨rfl, h1⟩)
theorem l4N_pK {s : ByteArray} (h1 : 1 ≤ s.size) (h2 : s.size ≤ 19) (h : byt s 0 ≠ 48 ∨ s.size = 1) : l4N s.data.toList = pK 0 (s.data.toList.drop 0) := by
  rw [l4N, if_neg, List.drop_zero]
  rw [toList_len, head_byt (by omega)]
  rintro (h | h | ⟨h3, h4⟩)
  · omega
  · omega
  · injection h3 with h3
    rcases h with h | h
    · exact h (by unfold byt; rw [h3]; rfl)
    · omega

set_option maxRecDepth 100000 in
set_option maxHeartbeats 4000000 in
theorem l4Number_any (s : ByteArray) (w : World) (hs : s.size ≤ 2000000) :
    Calls Tryd.prog 23 #[.string s] w fun e w' => e = .returned (.int .i64 (l4N s.data.toList)) ∧ w = w' := by
  by_cases hz : 1 ≤ s.size ∧ s.size ≤ 19
  · obtain ⟨z1, z2⟩ := hz
    have hin : inB (s.size : Int) 1 19 = true := inB_mk (by omega) (by omega)
    have z0 : 0 < s.size := by omega
    have z0' : (0 : Int) < (s.size : Int) := by omega
    have hb0 := byt_eq z0
    have hb1 := byt_le s 0
    by_cases h48 : byt s 0 = 48 ∧ 1 < s.size
    · obtain ⟨h48, h1⟩ := h48
      have HN := Lib.hid (l4N_zero h48 h1)
      rw [h48] at hb0
      have h1' : (1 : Int) < (s.size : Int) := by omega
      go_enter Tryd.func23, Tryd.ntmps23
      go_wp2_with (go_at_call 36; refine (l1In_any _ _ _ _).mono ?_; rintro e w' ⟨rfl, rfl⟩; rw [hin])
      go_ret
      exact ⟨ret_int HN.out.symm, rfl⟩
    · have HN := Lib.hid (l4N_pK z1 z2 (by omega))
      have hor : byt s 0 ≠ 48 ∨ (byt s 0 = 48 ∧ s.size = 1) := by omega
      clear h48
      rcases hor with h | ⟨h, h1⟩
      · generalize byt s 0 = c0 at hb0 hb1 h
        have hd48 : ((c0 : Int) == 48) = false := by rw [beq_eq_false_iff_ne]; omega
        have hd48' : ¬ (c0 : Int) = 48 := by omega
        go_enter Tryd.func23, Tryd.ntmps23
        go_wp2_with (go_at_call 36; refine (l1In_any _ _ _ _).mono ?_; rintro e w' ⟨rfl, rfl⟩; rw [hin])
        go_loop [3, 4] (fun v i => ∃ k a : Nat, k ≤ s.size ∧ i = .int .i64 k ∧ v = .int .i64 (a : Int) ∧ a ≤ 4611686018427387903 ∧ Hid (l4N s.data.toList = pK a (s.data.toList.drop k))) (fun _ i => s.size - (intOf i).toNat)
        case atStart => exact ⟨0, 0, by omega, rfl, rfl, by omega, HN⟩
        case round =>
          obtain ⟨k, a, hk, rfl, rfl, ha, HP⟩ := hrel
          by_cases hlt : k < s.size
          · have hc := byt_eq hlt
            have hc2 := byt_le s k
            have HBAD := Lib.hid fun h => HP.out.trans (pK_bad a hlt h)
            have HBIG := Lib.hid fun h => HP.out.trans (pK_big a hlt h)
            have HGO := Lib.hid fun h1 h2 h => HP.out.trans (pK_go a hlt h1 h2 h)
            have hw8 : IntKind.i64.wrap ((byt s k : Nat) : Int) = (byt s k : Nat) := by rw [IntKind.wrap_i64]; omega
            have hw9 : IntKind.i64.wrap (((byt s k : Nat) : Int) - 48) = (byt s k : Nat) - 48 := by rw [IntKind.wrap_i64]; omega
            generalize byt s k = c at hc hc2 HBAD HBIG HGO hw8 hw9
            clear HP
            by_cases hd : 48 ≤ c ∧ c ≤ 57
            · have hin9 : inB ((c : Int) - 48) 0 9 = true := inB_mk (by omega) (by omega)
              have hq : (4611686018427387903 - ((c : Int) - 48)).tdiv 10 = (((4611686018427387903 - (c - 48)) / 10 : Nat) : Int) := by rw [Int.tdiv_eq_ediv_of_nonneg (by omega)]; omega
              obtain ⟨d1, d2⟩ := hd
              generalize hqq : (4611686018427387903 - (c - 48)) / 10 = q at hq HBIG HGO
              have hqb : 10 * q + (c - 48) ≤ 4611686018427387903 := by omega
              clear hqq
              by_cases hb : q < a
              · have HE := Lib.hid (HBIG.out hb)
                have hb' : (q : Int) < (a : Int) := by omega
                go_wp2_with (go_at_call 36; refine (l1In_any _ _ _ _).mono ?_; rintro e w' ⟨rfl, rfl⟩; rw [hin9])
                go_ret
                exact ⟨ret_int HE.out.symm, rfl⟩
              · have HE := Lib.hid (HGO.out d1 d2 (by omega))
                have hb' : ¬ (q : Int) < (a : Int) := by omega
                have hm : IntKind.i64.wrap (10 * (a : Int)) = 10 * a := by rw [IntKind.wrap_i64]; omega
                have hm2 : IntKind.i64.wrap (10 * (a : Int) + ((c : Int) - 48)) = 10 * a + ((c : Int) - 48) := by rw [IntKind.wrap_i64]; omega
                go_wp2_with (go_at_call 36; refine (l1In_any _ _ _ _).mono ?_; rintro e w' ⟨rfl, rfl⟩; rw [hin9])
                go_round
                case rel => exact ⟨k + 1, 10 * a + (c - 48), by omega, by go_num, by congr 1; omega, by omega, HE⟩
                case measure => simp [intOf]; omega
            · have hin9 : inB ((c : Int) - 48) 0 9 = false := inB_no (by omega)
              have HE := Lib.hid (HBAD.out (by omega))
              go_wp2_with (go_at_call 36; refine (l1In_any _ _ _ _).mono ?_; rintro e w' ⟨rfl, rfl⟩; rw [hin9])
              go_ret
              exact ⟨ret_int HE.out.symm, rfl⟩
          · have e : k = s.size := by omega
            subst e
            have HE := Lib.hid (HP.out.trans (show pK a (s.data.toList.drop s.size) = (a : Int) by rw [List.drop_of_length_le (by rw [toList_len]; exact Nat.le_refl _)]; rfl))
            go_wp2
            go_ret
            exact ⟨ret_int HE.out.symm, rfl⟩
      · rw [h] at hb0
        have h1' : ¬ (1 : Int) < (s.size : Int) := by omega
        clear h1
        go_enter Tryd.func23, Tryd.ntmps23
        go_wp2_with (go_at_call 36; refine (l1In_any _ _ _ _).mono ?_; rintro e w' ⟨rfl, rfl⟩; rw [hin])
        go_loop [3, 4] (fun v i => ∃ k a : Nat, k ≤ s.size ∧ i = .int .i64 k ∧ v = .int .i64 (a : Int) ∧ a ≤ 4611686018427387903 ∧ Hid (l4N s.data.toList = pK a (s.data.toList.drop k))) (fun _ i => s.size - (intOf i).toNat)
        case atStart => exact ⟨0, 0, by omega, rfl, rfl, by omega, HN⟩
        case round =>
          obtain ⟨k, a, hk, rfl, rfl, ha, HP⟩ := hrel
          by_cases hlt : k < s.size
          · have hc := byt_eq hlt
            have hc2 := byt_le s k
            have HBAD := Lib.hid fun h => HP.out.trans (pK_bad a hlt h)
            have HBIG := Lib.hid fun h => HP.out.trans (pK_big a hlt h)
            have HGO := Lib.hid fun h1 h2 h => HP.out.trans (pK_go a hlt h1 h2 h)
            have hw8 : IntKind.i64.wrap ((byt s k : Nat) : Int) = (byt s k : Nat) := by rw [IntKind.wrap_i64]; omega
            have hw9 : IntKind.i64.wrap (((byt s k : Nat) : Int) - 48) = (byt s k : Nat) - 48 := by rw [IntKind.wrap_i64]; omega
            generalize byt s k = c at hc hc2 HBAD HBIG HGO hw8 hw9
            clear HP
            by_cases hd : 48 ≤ c ∧ c ≤ 57
            · have hin9 : inB ((c : Int) - 48) 0 9 = true := inB_mk (by omega) (by omega)
              have hq : (4611686018427387903 - ((c : Int) - 48)).tdiv 10 = (((4611686018427387903 - (c - 48)) / 10 : Nat) : Int) := by rw [Int.tdiv_eq_ediv_of_nonneg (by omega)]; omega
              obtain ⟨d1, d2⟩ := hd
              generalize hqq : (4611686018427387903 - (c - 48)) / 10 = q at hq HBIG HGO
              have hqb : 10 * q + (c - 48) ≤ 4611686018427387903 := by omega
              clear hqq
              by_cases hb : q < a
              · have HE := Lib.hid (HBIG.out hb)
                have hb' : (q : Int) < (a : Int) := by omega
                go_wp2_with (go_at_call 36; refine (l1In_any _ _ _ _).mono ?_; rintro e w' ⟨rfl, rfl⟩; rw [hin9])
                go_ret
                exact ⟨ret_int HE.out.symm, rfl⟩
              · have HE := Lib.hid (HGO.out d1 d2 (by omega))
                have hb' : ¬ (q : Int) < (a : Int) := by omega
                have hm : IntKind.i64.wrap (10 * (a : Int)) = 10 * a := by rw [IntKind.wrap_i64]; omega
                have hm2 : IntKind.i64.wrap (10 * (a : Int) + ((c : Int) - 48)) = 10 * a + ((c : Int) - 48) := by rw [IntKind.wrap_i64]; omega
                go_wp2_with (go_at_call 36; refine (l1In_any _ _ _ _).mono ?_; rintro e w' ⟨rfl, rfl⟩; rw [hin9])
                go_round
                case rel => exact ⟨k + 1, 10 * a + (c - 48), by omega, by go_num, by congr 1; omega, by omega, HE⟩
                case measure => simp [intOf]; omega
            · have hin9 : inB ((c : Int) - 48) 0 9 = false := inB_no (by omega)
              have HE := Lib.hid (HBAD.out (by omega))
              go_wp2_with (go_at_call 36; refine (l1In_any _ _ _ _).mono ?_; rintro e w' ⟨rfl, rfl⟩; rw [hin9])
              go_ret
              exact ⟨ret_int HE.out.symm, rfl⟩
          · have e : k = s.size := by omega
            subst e
            have HE := Lib.hid (HP.out.trans (show pK a (s.data.toList.drop s.size) = (a : Int) by rw [List.drop_of_length_le (by rw [toList_len]; exact Nat.le_refl _)]; rfl))
            go_wp2
            go_ret
            exact ⟨ret_int HE.out.symm, rfl⟩
  · have HN := Lib.hid (l4N_size (s := s) (by omega))
    have hin : inB (s.size : Int) 1 19 = false := inB_no (by omega)
    go_enter Tryd.func23, Tryd.ntmps23
    go_wp2_with (go_at_call 36; refine (l1In_any _ _ _ _).mono ?_; rintro e w' ⟨rfl, rfl⟩; rw [hin])
    go_ret
    exact ⟨ret_int HN.out.symm, rfl⟩
end Go.Proofs.YtaehldfhjfchhaaDoor
