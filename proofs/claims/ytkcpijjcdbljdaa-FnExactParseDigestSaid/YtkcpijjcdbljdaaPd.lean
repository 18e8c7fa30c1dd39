/- Contracts of both sides: ParseDigest. -/
import Derived.Test.YtkcpijjcdbljdaaLw
import Derived.Test.YtkcpijjcdbljdaaShelf
namespace Go.Proofs.Ytkcpijjcdbljdaa
open Go.RowKit
set_option linter.unusedVariables false
set_option linter.unusedSimpArgs false

/-! ## the plain law -/
def isHex (c : Nat) : Bool := (decide (48 ≤ c) && decide (c ≤ 57)) || (decide (97 ≤ c) && decide (c ≤ 102))
def hexN (c : Nat) : Nat := if c ≤ 57 then c - 48 else c - 87
/-- the byte at a place -/
def byt (s : ByteArray) (j : Nat) : Nat := (s.data.toList.getD j 0).toNat
theorem byt_eq {s : ByteArray} {k : Nat} (h : k < s.size) : s[k].toNat = byt s k := by
  unfold byt
  rw [List.getD_eq_getElem?_getD, List.getElem?_eq_getElem (by simpa using h)]
  rfl
theorem byt_le (s : ByteArray) (j : Nat) : byt s j ≤ 255 := by
  have := (s.data.toList.getD j 0).toNat_lt
  unfold byt
  omega
theorem isHex_num {c : Nat} (h1 : 48 ≤ c) (h2 : c ≤ 57) : isHex c = true ∧ hexN c = c - 48 := ⟨by simp [isHex, h1, h2], by rw [hexN, if_pos h2]⟩
theorem isHex_let {c : Nat} (h1 : 97 ≤ c) (h2 : c ≤ 102) : isHex c = true ∧ hexN c = c - 87 := ⟨by simp [isHex, h1, h2], by rw [hexN, if_neg (by omega)]⟩
theorem isHex_no {c : Nat} (h1 : c < 48 ∨ 57 < c) (h2 : c < 97 ∨ 102 < c) : isHex c = false := by simp [isHex]; omega
theorem hexN_le {c : Nat} (h : isHex c = true) : hexN c ≤ 15 := by
  simp [isHex] at h
  unfold hexN
  split <;> omega
/-- the number of the first digits -/
def pdN (g : Nat → Nat) : Nat → Nat
  | 0 => 0
  | k + 1 => 16 * pdN g k + hexN (g k)
theorem pdN_lt (g : Nat → Nat) : ∀ k, (∀ j, j < k → isHex (g j) = true) → pdN g k < 16 ^ k
  | 0, _ => by simp [pdN]
  | k + 1, h => by
    have := pdN_lt g k (fun j hj => h j (by omega))
    have := hexN_le (h k (by omega))
    rw [pdN, Nat.pow_succ]
    omega
theorem pdN_lo (g : Nat → Nat) (h0 : hexN (g 0) ≤ 3) : ∀ k, (∀ j, j < k + 1 → isHex (g j) = true) → pdN g (k + 1) < 4 * 16 ^ k
  | 0, _ => by simp [pdN]; omega
  | k + 1, h => by
    have := pdN_lo g h0 k (fun j hj => h j (by omega))
    have := hexN_le (h (k + 1) (by omega))
    rw [pdN, Nat.pow_succ]
    omega
theorem pdN_hi (g : Nat → Nat) (h0 : 4 ≤ hexN (g 0)) : ∀ k, 4 * 16 ^ k ≤ pdN g (k + 1)
  | 0 => by simp [pdN]; omega
  | k + 1 => by
    have := pdN_hi g h0 k
    rw [pdN, Nat.pow_succ]
    omega
theorem pdN_small {g : Nat → Nat} {k : Nat} (hk : k ≤ 15) (h : ∀ j, j < k → isHex (g j) = true) : pdN g k ≤ 1152921504606846975 := by
  have h1 := pdN_lt g k h
  have h2 : 16 ^ k ≤ 16 ^ 15 := Nat.pow_le_pow_right (by omega) hk
  omega
theorem pdN_less {g : Nat → Nat} {k : Nat} (hk : k ≤ 15) (h : ∀ j, j < k → isHex (g j) = true) (h0 : 0 < k → hexN (g 0) ≤ 3) : pdN g k ≤ 288230376151711743 := by
  cases k with
  | zero => simp [pdN]
  | succ k =>
    have h1 := pdN_lo g (h0 (by omega)) k h
    have h2 : 16 ^ k ≤ 16 ^ 14 := Nat.pow_le_pow_right (by omega) (by omega)
    omega
def pdB (s : ByteArray) : Bool := (s.size == 16) && ((List.range 16).all fun j => isHex (byt s j)) && decide (hexN (byt s 0) ≤ 3)
def pdM (s : ByteArray) : Int × Bool := if pdB s then (((pdN (byt s) 16 : Nat) : Int), true) else (0, false)
theorem pdM_size {s : ByteArray} (h : s.size ≠ 16) : pdM s = (0, false) := by
  have e : pdB s = false := by simp [pdB, h]
  rw [pdM, e]; rfl
theorem pdM_bad {s : ByteArray} {k : Nat} (hk : k < 16) (h : isHex (byt s k) = false) : pdM s = (0, false) := by
  have e : pdB s = false := by
    rw [pdB, Bool.and_eq_false_iff]
    left
    rw [Bool.and_eq_false_iff]
    right
    rw [List.all_eq_false]
    exact ⟨k, by simp; omega, by simp [h]⟩
  rw [pdM, e]; rfl
theorem pdM_big {s : ByteArray} (h : ¬ hexN (byt s 0) ≤ 3) : pdM s = (0, false) := by
  have e : pdB s = false := by simp [pdB, h]
  rw [pdM, e]; rfl
theorem pdM_yes {s : ByteArray} (h0 : s.size = 16) (h1 : ∀ j, j < 16 → isHex (byt s j) = true) (h2 : hexN (byt s 0) ≤ 3) : pdM s = (((pdN (byt s) 16 : Nat) : Int), true) := by
  have e : pdB s = true := by
    have h3 : ((List.range 16).all fun j => isHex (byt s j)) = true := by
      rw [List.all_eq_true]
      intro j hj
      exact h1 j (by simpa using hj)
    rw [pdB, h3]
    simp [h0, h2]
  rw [pdM, e]; rfl
theorem ret_ib2 {a a' : Int} {b b' : Bool} (h : (a, b) = (a', b')) : Ending.returned (.tuple #[.int .i64 a, .bool b]) = .returned (.tuple #[.int .i64 a', .bool b']) := by
  simp only [Prod.mk.injEq] at h
  obtain ⟨rfl, rfl⟩ := h
  rfl
theorem lor_u64 (a b : Nat) (ha : a < 18446744073709551616) (hb : b < 18446744073709551616) : bits .or .u64 (a : Int) (b : Int) = ((a ||| b : Nat) : Int) := by
  have hx : a ||| b < 2 ^ 64 := Nat.or_lt_two_pow (by omega) (by omega)
  have e : ∀ n : Nat, n < 18446744073709551616 → (BitVec.ofInt 64 (n : Int)).toNat = n := by
    intro n hn
    rw [BitVec.ofInt_natCast, BitVec.toNat_ofNat, Nat.mod_eq_of_lt (by omega)]
  show IntKind.u64.wrap ((BitVec.ofInt 64 (a : Int) ||| BitVec.ofInt 64 (b : Int)).toNat : Int) = _
  rw [BitVec.toNat_or, e a ha, e b hb]
  simp [IntKind.wrap, IntKind.bits, IntKind.signed]
  omega
theorem or_16 (v h : Nat) (hv : v ≤ 1152921504606846975) (hh : h ≤ 15) : bits .or .u64 ((v : Int) * 16) (h : Int) = ((16 * v + h : Nat) : Int) := by
  have e := Nat.two_pow_add_eq_or_of_lt (i := 4) (b := h) (by omega) v
  have := lor_u64 (16 * v) h (by omega) (by omega)
  rw [show (16 * v ||| h) = 16 * v + h from e.symm] at this
  rw [← this]
  congr 1
  rw [Int.natCast_mul, Int.mul_comm]
  rfl

theorem idx_hex : ∀ c : Fin 256, Lib.indexByte [48, 49, 50, 51, 52, 53, 54, 55, 56, 57, 97, 98, 99, 100, 101, 102] (c.1.toUInt8) = if isHex c.1 then (hexN c.1 : Int) else -1 := by decide +kernel
theorem idx_yes (c : Nat) (w : World) (hc : c ≤ 255) (h : isHex c = true) :
    Calls Try.prog 50 #[.string { data := #[48, 49, 50, 51, 52, 53, 54, 55, 56, 57, 97, 98, 99, 100, 101, 102] }, .int .u8 (c : Int)] w fun e w' => e = .returned (.int .i64 (hexN c : Int)) ∧ w = w' := by
  have hi := idx_hex ⟨c, by omega⟩
  simp only [h, if_true] at hi
  refine (Try.strings_IndexByte _ _ _).mono fun e w' hh => ⟨?_, hh.2.symm⟩
  rw [hh.1, Int.toNat_natCast]
  exact congrArg (fun x => Ending.returned (.int .i64 x)) hi
theorem idx_no (c : Nat) (w : World) (hc : c ≤ 255) (h : isHex c = false) :
    Calls Try.prog 50 #[.string { data := #[48, 49, 50, 51, 52, 53, 54, 55, 56, 57, 97, 98, 99, 100, 101, 102] }, .int .u8 (c : Int)] w fun e w' => e = .returned (.int .i64 (-1)) ∧ w = w' := by
  have hi := idx_hex ⟨c, by omega⟩
  simp only [h, Bool.false_eq_true, if_false] at hi
  refine (Try.strings_IndexByte _ _ _).mono fun e w' hh => ⟨?_, hh.2.symm⟩
  rw [hh.1, Int.toNat_natCast]
  exact congrArg (fun x => Ending.returned (.int .i64 x)) hi
set_option maxRecDepth 100000 in
set_option maxHeartbeats 2000000 in
theorem iParseDigest_any (s : ByteArray) (w : World) (hs : s.size ≤ 1048576) :
    Calls Try.prog 22 #[.string s] w fun e' w' => e' = .returned (.tuple #[.int .i64 (pdM s).1, .bool (pdM s).2]) ∧ Below w.heap.size w w' := by
  by_cases h16 : s.size = 16
  · have hd0 : ((s.size : Int) != 16) = false := by simp; omega
    have HZ := Lib.hid h16
    go_enter Try.func22, Try.ntmps22
    go_wp2
    go_loop [4, 12] (fun v i => ∃ k : Nat, k ≤ 16 ∧ i = .int .i64 k ∧ v = .int .u64 ((pdN (byt s) k : Nat) : Int) ∧ Hid (∀ j, j < k → isHex (byt s j) = true)) (fun _ i => 16 - (intOf i).toNat)
    case atStart => exact ⟨0, by omega, rfl, rfl, Lib.hid fun j hj => absurd hj (by omega)⟩
    case round =>
      obtain ⟨k, hk, rfl, rfl, HK⟩ := hrel
      by_cases hlt : k < s.size
      · have hlt2 : k < 16 := by omega
        have hc := byt_eq hlt
        have hc2 := byt_le s k
        have hv := pdN_small (g := byt s) (k := k) (by omega) HK.out
        cases hx : isHex (byt s k)
        · have HN := Lib.hid (pdM_bad hlt2 hx)
          have hcon := Lib.hid fun w => idx_no (byt s k) w hc2 hx
          generalize byt s k = c at hc hc2 hx hcon
          clear hx
          go_wp2_with (go_at_call 50; refine (hcon.out _).mono ?_; rintro e w' ⟨rfl, rfl⟩)
          go_ret2
          exact ⟨ret_ib2 (by rw [HN.out]), Below.refl _ _⟩
        · have hcon := Lib.hid fun w => idx_yes (byt s k) w hc2 hx
          have hh := hexN_le hx
          have hor := or_16 (pdN (byt s) k) (hexN (byt s k)) hv hh
          have HS := Lib.hid (show pdN (byt s) (k + 1) = 16 * pdN (byt s) k + hexN (byt s k) from rfl)
          have HX := Lib.hid hx
          have HC := Lib.hid hc
          generalize hcc : byt s k = c at hc hc2 hx hcon hh hor HS
          generalize pdN (byt s) k = v at hv hor HS ⊢
          generalize hexN c = h at hcon hh hor HS
          have HCC := Lib.hid hcc
          clear hx hcc
          go_wp2_with (go_at_call 50; refine (hcon.out _).mono ?_; rintro e w' ⟨rfl, rfl⟩)
          go_round
          case rel => exact ⟨k + 1, by omega, by go_num, by rw [HS.out]; congr 1, Lib.hid (upto_succ HK.out HX.out)⟩
          case measure => simp [intOf]; omega
      · have e : k = 16 := by omega
        subst e
        by_cases h3 : hexN (byt s 0) ≤ 3
        · have hb := pdN_lo (byt s) h3 15 HK.out
          have HN := Lib.hid (pdM_yes h16 HK.out h3)
          generalize hvv : pdN (byt s) 16 = v at hb ⊢
          have HVV := Lib.hid hvv
          clear hvv
          have hb' : v ≤ 4611686018427387903 := by omega
          clear hb
          go_wp2
          go_ret2
          exact ⟨ret_ib2 (by rw [HN.out, HVV.out]), Below.refl _ _⟩
        · have hb := pdN_hi (byt s) (by omega) 15
          have hb2 := pdN_lt (byt s) 16 HK.out
          have HN := Lib.hid (pdM_big h3)
          generalize pdN (byt s) 16 = v at hb hb2 ⊢
          have hb' : 4611686018427387903 < v := by omega
          have hb3 : v ≤ 18446744073709551615 := by omega
          clear hb hb2
          go_wp2
          go_ret2
          exact ⟨ret_ib2 (by rw [HN.out]), Below.refl _ _⟩
  · have hd0 : ((s.size : Int) != 16) = true := by simp; omega
    have HN := Lib.hid (pdM_size h16)
    rw [HN.out]
    go_enter Try.func22, Try.ntmps22
    go_wp2
    go_ret2
    exact ⟨rfl, Below.refl _ _⟩
set_option maxRecDepth 100000 in
set_option maxHeartbeats 2000000 in
theorem sParseDigest_any (s : ByteArray) (w : World) (hs : s.size ≤ 1048576) :
    Calls Try.prog 21 #[.string s] w fun e' w' => e' = .returned (.tuple #[.int .i64 (pdM s).1, .bool (pdM s).2]) ∧ Below w.heap.size w w' := by
  by_cases h16 : s.size = 16
  · have hd0 : ((s.size : Int) != 16) = false := by simp; omega
    go_enter Try.func21, Try.ntmps21
    go_wp2
    go_loop [4, 5] (fun v i => ∃ k : Nat, k ≤ 16 ∧ i = .int .i64 k ∧ v = .int .i64 ((pdN (byt s) k : Nat) : Int) ∧ Hid (∀ j, j < k → isHex (byt s j) = true) ∧ Hid (0 < k → hexN (byt s 0) ≤ 3)) (fun _ i => 16 - (intOf i).toNat)
    case atStart => exact ⟨0, by omega, rfl, rfl, Lib.hid fun j hj => absurd hj (by omega), Lib.hid fun h => absurd h (by omega)⟩
    case round =>
      obtain ⟨k, hk, rfl, rfl, HK, H0⟩ := hrel
      by_cases hlt : k < 16
      · have hlt2 : k < s.size := by omega
        have hc := byt_eq hlt2
        have hc2 := byt_le s k
        have hv := pdN_less (g := byt s) (k := k) (by omega) HK.out H0.out
        have HS := Lib.hid (show pdN (byt s) (k + 1) = 16 * pdN (byt s) k + hexN (byt s k) from rfl)
        have HPB := Lib.hid fun h => pdM_bad (s := s) hlt h
        have H3 := Lib.hid fun (h : k = 0) (h3 : 3 < hexN (byt s k)) => pdM_big (s := s) (by rw [← h]; omega)
        have HUP := Lib.hid fun (h : isHex (byt s k) = true) => upto_succ HK.out h
        have H30 := Lib.hid fun (h : k = 0 → hexN (byt s k) ≤ 3) (_ : 0 < k + 1) => (show hexN (byt s 0) ≤ 3 by
          rcases Nat.eq_zero_or_pos k with e | e
          · have := h e; rwa [e] at this
          · exact H0.out e)
        generalize byt s k = c at hc hc2 HS HPB H3 HUP H30
        generalize pdN (byt s) k = v at hv HS ⊢
        clear H0 HK
        by_cases a1 : 48 ≤ c ∧ c ≤ 57
        · obtain ⟨x1, x2⟩ := a1
          obtain ⟨y1, y2⟩ := isHex_num x1 x2
          have hin : inB (c : Int) 48 57 = true := inB_mk (by omega) (by omega)
          have Y1 := Lib.hid y1
          have Y2 := Lib.hid y2
          clear y1 y2
          by_cases k0 : k = 0
          · by_cases c3 : 51 < c
            · have HN := Lib.hid (H3.out k0 (by rw [Y2.out]; omega))
              subst k0
              go_wp2_with (go_at_call 43; refine (l1In_any _ _ _ _).mono ?_; rintro e w' ⟨rfl, rfl⟩; rw [hin])
              go_ret2
              exact ⟨ret_ib2 (by rw [HN.out]), Below.refl _ _⟩
            · subst k0
              go_wp2_with (go_at_call 43; refine (l1In_any _ _ _ _).mono ?_; rintro e w' ⟨rfl, rfl⟩; rw [hin])
              go_round
              case rel => exact ⟨1, by omega, by go_num, by rw [HS.out, Y2.out]; congr 1; omega, Lib.hid (HUP.out Y1.out), Lib.hid (H30.out (fun _ => by rw [Y2.out]; omega))⟩
              case measure => simp [intOf]
          · go_wp2_with (go_at_call 43; refine (l1In_any _ _ _ _).mono ?_; rintro e w' ⟨rfl, rfl⟩; rw [hin])
            go_round
            case rel => exact ⟨k + 1, by omega, by go_num, by rw [HS.out, Y2.out]; congr 1; omega, Lib.hid (HUP.out Y1.out), Lib.hid (H30.out (fun h => absurd h k0))⟩
            case measure => simp [intOf]; omega
        · have hin : inB (c : Int) 48 57 = false := inB_no (by omega)
          by_cases a2 : 97 ≤ c ∧ c ≤ 102
          · obtain ⟨x1, x2⟩ := a2
            obtain ⟨y1, y2⟩ := isHex_let x1 x2
            have hin2 : inB (c : Int) 97 102 = true := inB_mk (by omega) (by omega)
            have Y1 := Lib.hid y1
            have Y2 := Lib.hid y2
            clear y1 y2 a1
            by_cases k0 : k = 0
            · have HN := Lib.hid (H3.out k0 (by rw [Y2.out]; omega))
              subst k0
              go_wp2_with (go_at_call 43; refine (l1In_any _ _ _ _).mono ?_; rintro e w' ⟨rfl, rfl⟩; (first | rw [hin] | rw [hin2]))
              go_ret2
              exact ⟨ret_ib2 (by rw [HN.out]), Below.refl _ _⟩
            · go_wp2_with (go_at_call 43; refine (l1In_any _ _ _ _).mono ?_; rintro e w' ⟨rfl, rfl⟩; (first | rw [hin] | rw [hin2]))
              go_round
              case rel => exact ⟨k + 1, by omega, by go_num, by rw [HS.out, Y2.out]; congr 1; omega, Lib.hid (HUP.out Y1.out), Lib.hid (H30.out (fun h => absurd h k0))⟩
              case measure => simp [intOf]; omega
          · have hin2 : inB (c : Int) 97 102 = false := inB_no (by omega)
            have HN := Lib.hid (HPB.out (isHex_no (by omega) (by omega)))
            clear a1 a2
            go_wp2_with (go_at_call 43; refine (l1In_any _ _ _ _).mono ?_; rintro e w' ⟨rfl, rfl⟩; (first | rw [hin] | rw [hin2]))
            go_ret2
            exact ⟨ret_ib2 (by rw [HN.out]), Below.refl _ _⟩
      · have e : k = 16 := by omega
        subst e
        have HN := Lib.hid (pdM_yes h16 HK.out (H0.out (by omega)))
        go_wp2
        go_ret2
        exact ⟨ret_ib2 (by rw [HN.out]), Below.refl _ _⟩
  · have hd0 : ((s.size : Int) != 16) = true := by simp; omega
    have HN := Lib.hid (pdM_size h16)
    rw [HN.out]
    go_enter Try.func21, Try.ntmps21
    go_wp2
    go_ret2
    exact ⟨rfl, Below.refl _ _⟩
end Go.Proofs.Ytkcpijjcdbljdaa
