/- Contracts of both sides: DigestText. -/
import Derived.Test.YtkcpijjcdbljdaaBy
namespace Go.Proofs.Ytkcpijjcdbljdaa
open Go.RowKit
set_option linter.unusedVariables false
set_option linter.unusedSimpArgs false

/-- a hexadecimal digit -/
def hexD (n : Nat) : Int := if n < 10 then 48 + n else 87 + n
theorem hexD_at : ∀ n : Fin 16, ((({ data := #[48, 49, 50, 51, 52, 53, 54, 55, 56, 57, 97, 98, 99, 100, 101, 102] } : ByteArray)[n.1]'(n.2)).toNat : Int) = hexD n.1 := by decide
theorem hexD_get (n : Nat) (h : n < 16) (hn : n < ({ data := #[48, 49, 50, 51, 52, 53, 54, 55, 56, 57, 97, 98, 99, 100, 101, 102] } : ByteArray).size) : ((({ data := #[48, 49, 50, 51, 52, 53, 54, 55, 56, 57, 97, 98, 99, 100, 101, 102] } : ByteArray)[n]'hn).toNat : Int) = hexD n := hexD_at ⟨n, h⟩
/-- the digit at a place of sixteen -/
def digAt (d i : Nat) : Int := hexD (d / 2 ^ (4 * (15 - i)) % 16)
def digL (d : Nat) : List Int := (List.range 16).map (digAt d)
def dtM (d : Int) : ByteArray × Bool := if inB d 0 4611686018427387903 then (strOfNums (digL d.toNat), true) else (⟨#[]⟩, false)
theorem and_15 (f : Nat) (hf : f ≤ 9223372036854775807) : bits .and .i64 (f : Int) 15 = ((f % 16 : Nat) : Int) := by
  have := land_i64 f 15 hf (by omega)
  rw [show f &&& 15 = f % 16 from Nat.and_two_pow_sub_one_eq_mod f 4] at this
  exact this
theorem ret_sb {s s' : ByteArray} {b b' : Bool} (h : (s, b) = (s', b')) : Ending.returned (.tuple #[.string s, .bool b]) = .returned (.tuple #[.string s', .bool b']) := by
  simp only [Prod.mk.injEq] at h
  obtain ⟨rfl, rfl⟩ := h
  rfl
theorem dig_first (d j : Nat) : (List.range j).map (digAt d) ++ [digAt d j] = (List.range (j + 1)).map (digAt d) := by simp [List.range_succ]

set_option maxHeartbeats 400000 in
theorem isDigest_any' (d : Int) (w : World) :
    Calls Try.prog 41 #[.int .i64 d] w fun e w' => e = .returned (.bool (inB d 0 4611686018427387903)) ∧ w = w' := by
  go_enter Try.func41, Try.ntmps41
  go_wp2_with (first | (go_at_call 46; refine (within_any _ _ _ _).mono ?_; rintro e w' ⟨rfl, rfl⟩))
  go_ret
  exact ⟨rfl, rfl⟩
set_option maxHeartbeats 400000 in
theorem l3Digest_any (d : Int) (w : World) :
    Calls Try.prog 40 #[.int .i64 d] w fun e w' => e = .returned (.bool (inB d 0 4611686018427387903)) ∧ w = w' := by
  go_enter Try.func40, Try.ntmps40
  go_wp2_with (first | (go_at_call 43; refine (l1In_any _ _ _ _).mono ?_; rintro e w' ⟨rfl, rfl⟩))
  go_ret
  exact ⟨rfl, rfl⟩

set_option maxRecDepth 100000 in
set_option maxHeartbeats 4000000 in
theorem iDigestText_any (d : Int) (w : World) :
    Calls Try.prog 16 #[.int .i64 d] w fun e' w' => e' = .returned (.tuple #[.string (dtM d).1, .bool (dtM d).2]) ∧ Below w.heap.size w w' := by
  cases h1 : inB d 0 4611686018427387903
  · have HN := Lib.hid (show dtM d = (⟨#[]⟩, false) by rw [dtM, h1]; rfl)
    rw [HN.out]
    go_enter Try.func16, Try.ntmps16
    go_wp2_with (go_at_call 41; refine (isDigest_any' _ _).mono ?_; rintro e w' ⟨rfl, rfl⟩)
    go_ret2
    exact ⟨rfl, Below.refl _ _⟩
  · obtain ⟨d1, d2⟩ := inB_true h1
    obtain ⟨d, rfl⟩ := Int.eq_ofNat_of_zero_le d1
    have HN := Lib.hid (show dtM (d : Int) = (strOfNums (digL d), true) by rw [dtM, h1, Int.toNat_natCast]; rfl)
    rw [HN.out]
    go_enter Try.func16, Try.ntmps16
    go_wp2_with (go_at_call 41; refine (isDigest_any' _ _).mono ?_; rintro e w' ⟨rfl, rfl⟩)
    go_loopw [4, 5] (fun v i wr => ∃ j : Nat, j ≤ 16 ∧ i = .int .i64 (15 - j) ∧ Hid (wr.ownsRow w.heap.size 5 1 v j (((List.range j).map (digAt d)).map (Value.int .u8))) ∧ Hid (Below w.heap.size w wr)) (fun _ i _ => (intOf i + 1).toNat)
    case atStart => exact ⟨0, by omega, by go_num, Lib.hid (ownB_empty _ _ (Nat.le_refl _)), Lib.hid (belA (Below.refl _ _))⟩
    case round =>
      obtain ⟨j, hj, rfl, HO, HB⟩ := hrel
      by_cases hlt : j < 16
      · have hq : d / 2 ^ (4 * (15 - j)) ≤ d := Nat.div_le_self _ _
        have hb := and_15 (d / 2 ^ (4 * (15 - j))) (by omega)
        have hD : digAt d j = hexD (d / 2 ^ (4 * (15 - j)) % 16) := rfl
        have hm : d / 2 ^ (4 * (15 - j)) % 16 < 16 := Nat.mod_lt _ (by omega)
        have hcast : ((d / 2 ^ (4 * (15 - j)) : Nat) : Int) = (d : Int) / 2 ^ (4 * (15 - j)) := by simp
        rw [hcast] at hb
        generalize d / 2 ^ (4 * (15 - j)) % 16 = m at hb hD hm
        have hx := hexD_get m hm
        have HX := Lib.hid (dig_first d j)
        have HD := Lib.hid hD
        clear hcast hq hD
        go_wp2_with (at_builtin; refine appB rfl _ _ rfl rfl rfl HO.out (by omega) HB.out.size ?_; intro v2 w2 hown2 hbel2)
        go_roundw
        case rel => exact ⟨j + 1, by omega, by go_num, Lib.hid (by rw [← HX.out, HD.out]; exact hown2), Lib.hid (HB.out.trans hbel2)⟩
        case measure => simp [intOf]; omega
      · have e : j = 16 := by omega
        subst e
        obtain ⟨A2, c2, rfl⟩ := own_shape HO.out
        have hcv := conv_own HO.out
        go_wp2
        go_ret2
        exact ⟨rfl, HB.out⟩

/-- what is laid behind j places from the end -/
def digR (d j : Nat) : List Int := (List.range 16).map fun i => if 16 ≤ i + j then digAt d i else 0
theorem digR_zero (d : Nat) : digR d 0 = List.replicate 16 0 := by
  unfold digR
  apply List.ext_getElem
  · simp
  · intro i h1 h2
    rw [List.length_replicate] at h2
    simp only [List.getElem_map, List.getElem_range, List.getElem_replicate]
    rw [if_neg (by omega)]
theorem digR_full (d : Nat) : digR d 16 = digL d := by
  unfold digR digL
  apply List.map_congr_left
  intro i hi
  rw [if_pos (by omega)]
theorem digR_step (d j : Nat) (hj : j < 16) : (digR d j).set (15 - j) (digAt d (15 - j)) = digR d (j + 1) := by
  unfold digR
  apply List.ext_getElem
  · simp
  · intro i h1 h2
    simp at h1
    rw [List.getElem_set]
    simp only [List.getElem_map, List.getElem_range]
    split
    · rename_i h
      subst h
      rw [if_pos (by omega)]
    · split
      · rw [if_pos (by omega)]
      · rw [if_neg (by omega)]

set_option maxRecDepth 100000 in
set_option maxHeartbeats 4000000 in
theorem sDigestText_any (d : Int) (w : World) :
    Calls Try.prog 15 #[.int .i64 d] w fun e' w' => e' = .returned (.tuple #[.string (dtM d).1, .bool (dtM d).2]) ∧ Below w.heap.size w w' := by
  cases h1 : inB d 0 4611686018427387903
  · have HN := Lib.hid (show dtM d = (⟨#[]⟩, false) by rw [dtM, h1]; rfl)
    rw [HN.out]
    go_enter Try.func15, Try.ntmps15
    go_wp2_with (go_at_call 40; refine (l3Digest_any _ _).mono ?_; rintro e w' ⟨rfl, rfl⟩)
    go_ret2
    exact ⟨rfl, Below.refl _ _⟩
  · obtain ⟨d1, d2⟩ := inB_true h1
    obtain ⟨d, rfl⟩ := Int.eq_ofNat_of_zero_le d1
    have HN := Lib.hid (show dtM (d : Int) = (strOfNums (digR d 16), true) by rw [dtM, h1, Int.toNat_natCast, digR_full]; rfl)
    rw [HN.out]
    obtain ⟨i0, hi, hz0, hz1, hz2⟩ := info_parts byte_info
    go_enter Try.func15, Try.ntmps15
    go_wp2_with (first | (go_at_call 40; refine (l3Digest_any _ _).mono ?_; rintro e w' ⟨rfl, rfl⟩) | (at_make; refine wpList_make_full _ rfl _ _ 51 rfl w.heap.size 5 i0 (.int .u8 0) 1 Try.underlying51 hi hz0 hz1 .i64 .i64 _ _ 16 rfl rfl rfl rfl (by rw [hz2]; omega) (by simp only [maxLen]; omega) (Nat.le_refl _) ?_; intro w1 hown hg))
    have hw0 : Below w.heap.size w w1 := (Below.refl _ _).grown hg (Nat.le_refl _) (by intro k hk; cases hk)
    have H0 := Lib.hid (ownB_zero hown)
    clear hown hg
    go_loopw [0, 5] (fun x i wr => ∃ j : Nat, j ≤ 16 ∧ i = .int .i64 (15 - j) ∧ x = .int .i64 ((d / 2 ^ (4 * j) : Nat) : Int) ∧ Hid (wr.ownsRow w.heap.size 5 1 (.slice (some ⟨w.heap.size, 0, none⟩) 16 16) 16 ((digR d j).map (Value.int .u8))) ∧ Hid (Below w.heap.size w wr)) (fun _ i _ => (intOf i + 1).toNat)
    case atStart => exact ⟨0, by omega, by go_num, by simp, Lib.hid (by rw [digR_zero]; exact H0.out), Lib.hid hw0⟩
    case round =>
      obtain ⟨j, hj, rfl, rfl, HO, HB⟩ := hrel
      by_cases hlt : j < 16
      · have hq : d / 2 ^ (4 * j) ≤ d := Nat.div_le_self _ _
        have hD : digAt d (15 - j) = hexD (d / 2 ^ (4 * j) % 16) := by unfold digAt; rw [show 15 - (15 - j) = j from by omega]
        have hS : d / 2 ^ (4 * j) / 16 = d / 2 ^ (4 * (j + 1)) := by rw [Nat.div_div_eq_div_mul, show 4 * (j + 1) = 4 * j + 4 from by omega, Nat.pow_add]
        have hd := ownB_at HO.out (k := 15 - j) (by omega)
        have hf := HO.out.frozenAt (15 - j)
        have hst := fun z => ownB_put (z := z) (k := 15 - j) HO.out
        have HX := Lib.hid (digR_step d j hlt)
        generalize d / 2 ^ (4 * j) = q at hD hS hq
        have hm : q % 16 < 16 := Nat.mod_lt _ (by omega)
        have hx := hexD_get (q % 16) hm
        have HD := Lib.hid hD
        have HS := Lib.hid hS
        have HST := Lib.hid hst
        generalize (digR d j).getD (15 - j) 0 = y at hd
        clear hD hS hst
        have hj1 : (15 : Int) - (j : Int) = ((15 - j : Nat) : Int) := by omega
        go_wp2
        go_roundw
        case rel => exact ⟨j + 1, by omega, by go_num, by rw [← HS.out]; simp, Lib.hid (by rw [← HX.out, HD.out]; exact HST.out _), Lib.hid (HB.out.setCell (Nat.le_refl _) _)⟩
        case measure => simp [intOf]; omega
      · have e : j = 16 := by omega
        subst e
        have hcv := conv_own HO.out
        go_wp2
        go_ret2
        exact ⟨rfl, HB.out⟩
end Go.Proofs.Ytkcpijjcdbljdaa
