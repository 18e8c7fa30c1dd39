/- Contracts: FormatList, on both sides. -/
import Derived.Test.YtaehldfhjfchhaaDoorFl
import Derived.Lib.AppendIntMem
namespace Go.Proofs.YtaehldfhjfchhaaDoor
open Go.RowKit
set_option linter.unusedVariables false
set_option linter.unusedSimpArgs false

/-- the first k numbers, with commas between -/
def jK (zs : List Int) : Nat → ByteArray
  | 0 => ⟨#[]⟩
  | k + 1 => (if 0 < k then jK zs k ++ ⟨#[44]⟩ else jK zs k) ++ numS (zs.getD k 0).toNat
theorem jK_first (zs : List Int) {k m : Nat} (hk : k = 0) (h : zs.getD k 0 = (m : Int)) : jK zs (k + 1) = jK zs k ++ numS m := by
  rw [jK, if_neg (by omega), h, Int.toNat_natCast]
theorem jK_next (zs : List Int) {k m : Nat} (hk : 0 < k) (h : zs.getD k 0 = (m : Int)) : jK zs (k + 1) = jK zs k ++ ⟨#[44]⟩ ++ numS m := by
  rw [jK, if_pos hk, h, Int.toNat_natCast]
theorem jK_size {zs : List Int} (hd : digsB zs = true) : ∀ k, k ≤ zs.length → (jK zs k).size ≤ 20 * k
  | 0, _ => by simp [jK, ByteArray.size]
  | k + 1, hk => by
    have ih := jK_size hd k (by omega)
    have hb := digs_bd hd (show k < zs.length by omega)
    have hn := numS_size (z := (zs.getD k 0).toNat) (by omega)
    have h1 : (⟨#[44]⟩ : ByteArray).size = 1 := rfl
    rw [jK, ByteArray.size_append]
    split
    · rw [ByteArray.size_append, h1]; omega
    · omega
def flB (zs : List Int) : ByteArray := if zs.length = 0 then ⟨#[45]⟩ else jK zs zs.length
def flM (zs : List Int) : ByteArray × Bool := if recB zs then (flB zs, true) else (⟨#[]⟩, false)
theorem recB_parts {zs : List Int} (h : recB zs = true) : zs.length ≤ 400 ∧ digsB zs = true := by
  simp only [recB, Bool.and_eq_true, decide_eq_true_eq] at h
  exact h
theorem join_snoc {l : List (List UInt8)} (hl : l ≠ []) (y sep : List UInt8) : Lib.join (l ++ [y]) sep = Lib.join l sep ++ (sep ++ y) := by
  cases l with
  | nil => exact absurd rfl hl
  | cons x r => rw [List.cons_append, Lib.join_cons, Lib.join_cons]; simp [Lib.joinTail]
def gS (z : Int) : ByteArray := numS z.toNat
theorem take_snoc {zs : List Int} {k : Nat} (hk : k < zs.length) : zs.take (k + 1) = zs.take k ++ [zs.getD k 0] := by
  rw [List.take_succ_eq_append_getElem hk, List.getD_eq_getElem?_getD, List.getElem?_eq_getElem hk]
  rfl
theorem join_jK (zs : List Int) : ∀ k, k < zs.length → Lib.join ((zs.take (k + 1)).map fun z => (gS z).data.toList) [44] = (jK zs (k + 1)).data.toList
  | 0, h => by
    rw [take_snoc h, List.take_zero, List.nil_append, List.map_cons, List.map_nil, Lib.join_one, jK, if_neg (by omega), Joins.data_append]
    rfl
  | k + 1, h => by
    have e : jK zs (k + 1 + 1) = jK zs (k + 1) ++ ⟨#[44]⟩ ++ numS (zs.getD (k + 1) 0).toNat := by
      show (if 0 < k + 1 then jK zs (k + 1) ++ ⟨#[44]⟩ else jK zs (k + 1)) ++ _ = _
      rw [if_pos (by omega)]
    have hne : (zs.take (k + 1)).map (fun z => (gS z).data.toList) ≠ [] := by
      intro e
      have := congrArg List.length e
      simp at this
      subst this
      simp at h
    rw [take_snoc h, List.map_append, List.map_cons, List.map_nil, join_snoc hne, join_jK zs k (by omega), e, Joins.data_append, Joins.data_append]
    simp [gS]
theorem join_flB {zs : List Int} (h : 0 < zs.length) : (⟨(Lib.join ((zs.map gS).map (·.data.toList)) [44]).toArray⟩ : ByteArray) = jK zs zs.length := by
  have := join_jK zs (zs.length - 1) (by omega)
  rw [show zs.length - 1 + 1 = zs.length from by omega, List.take_of_length_le (Nat.le_refl _)] at this
  rw [List.map_map]
  rw [show ((fun x : ByteArray => x.data.toList) ∘ gS) = (fun z => (gS z).data.toList) from rfl, this]
theorem itoa_num (m : Nat) : (⟨(Lib.itoa (m : Int)).toArray⟩ : ByteArray) = numS m := by
  rw [Lib.itoa, if_neg (by omega), Int.toNat_natCast]
  rfl

set_option maxRecDepth 100000 in
set_option maxHeartbeats 4000000 in
theorem l4Text_any (A : Option Addr) (n c : Nat) (zs : List Int) (w : World) (h : Ints w A n zs) (hr : recB zs = true) :
    Calls Tryd.prog 19 #[.slice A n c] w fun e w' => e = .returned (.string (flB zs)) ∧ Below w.heap.size w w' := by
  have hl := h.len
  subst hl
  have HI := Lib.hid h
  obtain ⟨h400, hd⟩ := recB_parts hr
  have HD := Lib.hid hd
  clear h hd hr
  by_cases h0 : zs.length = 0
  · have HN : Hid (flB zs = ⟨#[45]⟩) := Lib.hid (by rw [flB, if_pos h0])
    have hz : ((zs.length : Int) == 0) = true := by simp [h0]
    have hz' : (zs.length : Int) = 0 := by omega
    clear h0
    go_enter Tryd.func19, Tryd.ntmps19
    go_wp2
    go_ret
    exact ⟨ret_str HN.out.symm, Below.refl _ _⟩
  · have HN : Hid (flB zs = jK zs zs.length) := Lib.hid (by rw [flB, if_neg h0])
    have hz : ((zs.length : Int) == 0) = false := by rw [beq_eq_false_iff_ne]; omega
    have hz' : ¬ (zs.length : Int) = 0 := by omega
    go_enter Tryd.func19, Tryd.ntmps19
    go_wp2
    go_loopw [3, 11] (fun v i wr => ∃ k : Nat, k ≤ zs.length ∧ i = .int .i64 k ∧ v = .string (jK zs k) ∧ Hid (Below w.heap.size w wr)) (fun _ i _ => zs.length - (intOf i).toNat)
    case atStart => exact ⟨0, by omega, rfl, rfl, Lib.hid (Below.refl _ _)⟩
    case round =>
      obtain ⟨k, hk, rfl, rfl, HB⟩ := hrel
      by_cases hlt : k < zs.length
      · obtain ⟨b, off, rfl, hb, hc⟩ := (HI.out.below HB.out).at_ hlt
        obtain ⟨z0, z1⟩ := digs_bd HD.out hlt
        have hsz := jK_size HD.out k hk
        obtain ⟨m, hm⟩ := Int.eq_ofNat_of_zero_le z0
        have HA := Lib.hid (fun hk0 : k = 0 => jK_first zs hk0 hm)
        have HX := Lib.hid (fun hk0 : 0 < k => jK_next zs hk0 hm)
        rw [hm] at hc z1
        clear hm z0
        generalize jK zs k = s at hsz HA HX ⊢
        have i1 : (0 : Int) ≤ (k : Int) := by omega
        have i2 : (k : Int) < (zs.length : Int) := by omega
        have hm9 : m ≤ 9223372036854775807 := by omega
        have hms := numS_size hm9
        have c1 : (⟨#[44]⟩ : ByteArray).size = 1 := rfl
        by_cases hk0 : k = 0
        · have E := Lib.hid (HA.out hk0)
          have t1 : decide ((0 : Int) < (k : Int)) = false := by simp; omega
          have t2 : ¬ ((0 : Int) < (k : Int)) := by omega
          have e1 : s.size + (numS m).size ≤ 9223372036854775807 := by omega
          clear HA HX hk0
          go_wp2_with (go_at_call 30; refine (l1Num_any m _ hm9).mono ?_; rintro e w1 ⟨rfl, hb1⟩)
          go_roundw
          case rel => exact ⟨k + 1, by omega, by go_num, by rw [E.out], Lib.hid (HB.out.trans (hb1.mono HB.out.size))⟩
          case measure => simp [intOf]; omega
        · have E := Lib.hid (HX.out (by omega))
          have t1 : decide ((0 : Int) < (k : Int)) = true := by simp; omega
          have t2 : (0 : Int) < (k : Int) := by omega
          have e1 : s.size + (⟨#[44]⟩ : ByteArray).size ≤ 9223372036854775807 := by omega
          have e2 : (s ++ ⟨#[44]⟩).size + (numS m).size ≤ 9223372036854775807 := by rw [ByteArray.size_append]; omega
          have e3 : s.size + 1 + (numS m).size ≤ 9223372036854775807 := by omega
          clear HA HX hk0
          go_wp2_with (go_at_call 30; refine (l1Num_any m _ hm9).mono ?_; rintro e w1 ⟨rfl, hb1⟩)
          go_roundw
          case rel => exact ⟨k + 1, by omega, by go_num, by rw [E.out], Lib.hid (HB.out.trans (hb1.mono HB.out.size))⟩
          case measure => simp [intOf]; omega
      · have e : k = zs.length := by omega
        subst e
        go_wp2
        go_ret
        exact ⟨ret_str HN.out.symm, HB.out⟩
end Go.Proofs.YtaehldfhjfchhaaDoor
