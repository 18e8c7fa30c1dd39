/- Contracts of both sides: DecodeText. -/
import Derived.Test.YteeggmnkcgpfjaaRd
namespace Go.Proofs.Yteeggmnkcgpfjaa
open Go.RowKit
set_option linter.unusedVariables false
set_option linter.unusedSimpArgs false

theorem ret_sb {s s' : ByteArray} {b b' : Bool} (h : (s, b) = (s', b')) : Ending.returned (.tuple #[.string s, .bool b]) = .returned (.tuple #[.string s', .bool b']) := by
  simp only [Prod.mk.injEq] at h
  obtain ⟨rfl, rfl⟩ := h
  rfl
theorem copyL_step {t : List Int} {n k : Nat} (hl : t.length = n) (hk : k < n) : (t.take k ++ List.replicate (n - k) 0).set k (t.getD k 0) = t.take (k + 1) ++ List.replicate (n - (k + 1)) 0 := by
  rw [List.take_succ_eq_append_getElem (by omega), List.getD_eq_getElem?_getD, List.getElem?_eq_getElem (by omega), show n - k = (n - (k + 1)) + 1 from by omega, List.replicate_succ,
    List.set_append_right _ _ (by simp; omega)]
  simp only [List.length_take, show k - min k t.length = 0 from by omega, List.set_cons_zero, List.append_assoc, List.singleton_append]
  rfl
theorem low_first {l : List Int} {k : Nat} (h : k < l.length) : (l.take k).map (fun z => z % 256) ++ [l.getD k 0 % 256] = (l.take (k + 1)).map (fun z => z % 256) := map_step (d := 0) (fun z => z % 256) h

set_option maxRecDepth 100000 in
set_option maxHeartbeats 800000 in
theorem iDecodeText_any (A : Option Addr) (n c : Nat) (zs : List Int) (w : World) (h : Ints w A n zs) (hk : CapW w A n c) (hn : n ≤ 2000000) :
    Calls Try.prog 30 #[.slice A n c] w fun e w' => e = .returned (.tuple #[.string (txM zs).1, .bool (txM zs).2]) ∧ Below w.heap.size w w' := by
  have hl := h.len
  subst hl
  have HI := Lib.hid h
  have HC := Lib.hid hk
  have htl := takeL_len zs (recB zs)
  have HBIG := Lib.hid fun (z : Int) (hz : z ∈ (takeL zs (recB zs)).1) (hb : 255 < z) => txM_big hz hb
  have HBAD := Lib.hid fun (hb : ((takeL zs (recB zs)).2.2 && decide ((takeL zs (recB zs)).2.1.length = 0)) = false) => txM_bad hb
  have HYES := Lib.hid fun (h0 : ∀ z ∈ (takeL zs (recB zs)).1, z ≤ 255) (hb : ((takeL zs (recB zs)).2.2 && decide ((takeL zs (recB zs)).2.1.length = 0)) = true) => txM_yes h0 hb
  have HLS := Lib.hid fun (b : Nat) (W : World) (hr : RD W b zs (recB zs)) => list_any b zs (recB zs) W hr (by omega)
  clear h hk
  obtain ⟨hl1, hl2⟩ := htl
  go_enter Try.func30, Try.ntmps30
  go_wp2_with fail
  refine (isRecord_any A zs.length c zs _ HI.out).mono ?_
  rintro e w1 ⟨rfl, hb1⟩
  have HB1 := Lib.hid hb1
  have HR1 : Hid (RD (w1.alloc (.cells #[.slice A zs.length c, .bool (recB zs)] 99)) w1.heap.size zs (recB zs)) := Lib.hid (RD.new (HI.out.below hb1) HC.out.1 (fun a e => Nat.lt_of_lt_of_le (HC.out.2 a e) hb1.size))
  clear hb1
  generalize recB zs = ok at HR1 hl1 hl2 HBIG HBAD HYES HLS
  generalize takeL zs ok = r at hl1 hl2 HBIG HBAD HYES HLS
  obtain ⟨out, rest, ok2⟩ := r
  simp only at hl1 hl2
  go_wp2_with fail
  refine (HLS.out w1.heap.size _ (HR1.out.below (belA (Below.refl _ _)))).mono ?_
  rintro e w2 ⟨⟨A2, c2, rfl, ho2⟩, hr2, hb2⟩
  try simp only at ho2 hr2
  try simp only
  have HO2 := Lib.hid ho2
  have HR2 := Lib.hid hr2
  have HB2 := Lib.hid hb2
  have hs2 : w1.heap.size + 2 ≤ w2.heap.size := by have := hb2.size; simp at this; omega
  have HBW : Hid (Below w1.heap.size w1 w2) := Lib.hid (bel_of_grown (belA (belA (Below.refl _ _))) hb2 (Nat.le_refl _) (by simp; omega))
  clear ho2 hr2
  have hO0 : w2.ownsRow (w1.heap.size + 1) 5 1 (.slice (some ⟨w1.heap.size + 1, 0, none⟩) 0 0) 0 (([] : List Int).map (Value.int .u8)) := by
    refine World.ownsRow.kept ?_ HB2.out (.inr (by simp [Value.ownBlock]))
    have := ownB_empty (w1.alloc (.cells #[.slice A zs.length c, .bool ok] 99)) (w1.heap.size + 1) (by simp)
    simpa using this
  have HO0 := Lib.hid hO0
  have HBel := Lib.hid (belT HB1.out HBW.out)
  have hls := HB1.out.size
  have HL0 := Lib.hid (ownDown (B' := w.heap.size) HO2.out (by simp; omega))
  clear hO0 HO2 HB2 HBW hb2
  go_wp2
  go_loopw [5, 17] (fun v i wr => ∃ k : Nat, k ≤ out.length ∧ i = .int .i64 k ∧ Hid (wr.ownsRow (w1.heap.size + 1) 5 1 v k (((out.take k).map fun z => z % 256).map (Value.int .u8))) ∧ Hid (wr.ownsRow w.heap.size 3 1 (.slice A2 out.length c2) out.length (out.map (Value.int .i64))) ∧ Hid (RD wr w1.heap.size rest ok2) ∧ Hid (Below w.heap.size w wr) ∧ Hid (w1.heap.size + 2 ≤ wr.heap.size) ∧ Hid (∀ j, j < k → out.getD j 0 ≤ 255)) (fun _ i _ => out.length - (intOf i).toNat)
  case atStart => exact ⟨0, by omega, rfl, HO0, HL0, HR2, HBel, Lib.hid hs2, Lib.hid fun j hj => absurd hj (by omega)⟩
  case round =>
    clear HO0 HL0 HR2 HBel hs2
    obtain ⟨k, hk, rfl, HO, HL, HR, HB, HS, HK⟩ := hrel
    by_cases hlt : k < out.length
    · obtain ⟨b, off, rfl, hb, hc⟩ := (Ints.of_own HL.out).at_ hlt
      have HM := Lib.hid (getD_mem (d := (0 : Int)) hlt)
      have HF := Lib.hid (low_first hlt)
      generalize hz : out.getD k 0 = z at hc HM HF
      have HZ := Lib.hid hz
      have i1 : (0 : Int) ≤ (k : Int) := by omega
      have i2 : (k : Int) < (out.length : Int) := by omega
      clear hz
      by_cases hbig : 255 < z
      · go_wp2
        go_ret2
        exact ⟨ret_sb (HBIG.out z HM.out hbig).symm, HB.out⟩
      · have hz2 : z ≤ 255 := by omega
        go_wp2_with (at_builtin; refine appBg rfl _ _ rfl rfl rfl HO.out (by omega) (by have := HS.out; omega) ?_; intro v2 w3 hown3 hbel3 hg3)
        have hs3 := HS.out
        go_roundw
        case rel =>
          refine ⟨k + 1, by omega, by go_num, Lib.hid ?_, Lib.hid (HL.out.kept hg3 (own_apart HL.out HO.out (by decide))), Lib.hid (HR.out.keep hbel3 (by omega)), Lib.hid (HB.out.trans (hbel3.mono (by omega))), Lib.hid (by have := hbel3.size; omega), Lib.hid (upto_succ HK.out (by rw [HZ.out]; exact hz2))⟩
          rw [← HF.out]
          exact hown3
        case measure => simp [intOf]; omega
    · have e : k = out.length := by omega
      subst e
      obtain ⟨A3, c3, rfl⟩ := own_shape HO.out
      have h0 : ∀ z ∈ out, z ≤ 255 := by
        intro z hz
        obtain ⟨j, hj, rfl⟩ := List.getElem_of_mem hz
        have := HK.out j hj
        rwa [List.getD_eq_getElem?_getD, List.getElem?_eq_getElem hj] at this
      have H0 := Lib.hid h0
      rw [List.take_of_length_le (Nat.le_refl _)] at HO
      have hcv := conv_own HO.out
      clear h0
      cases he : (ok2 && decide (rest.length = 0))
      · have HE := Lib.hid (HBAD.out he)
        go_wp2_with (go_at_call 79; refine (ends_any _ rest ok2 _ HR.out).mono ?_; rintro e w' ⟨rfl, rfl⟩; rw [he])
        go_ret2
        exact ⟨ret_sb HE.out.symm, HB.out⟩
      · have HE := Lib.hid (HYES.out H0.out he)
        go_wp2_with (go_at_call 79; refine (ends_any _ rest ok2 _ HR.out).mono ?_; rintro e w' ⟨rfl, rfl⟩; rw [he])
        go_ret2
        exact ⟨ret_sb HE.out.symm, HB.out⟩
set_option maxRecDepth 100000 in
set_option maxHeartbeats 800000 in
theorem sDecodeText_any (A : Option Addr) (n c : Nat) (zs : List Int) (w : World) (h : Ints w A n zs) (hk : CapW w A n c) (hn : n ≤ 2000000) :
    Calls Try.prog 28 #[.slice A n c] w fun e w' => e = .returned (.tuple #[.string (txM zs).1, .bool (txM zs).2]) ∧ Below w.heap.size w w' := by
  have hl := h.len
  subst hl
  have HI := Lib.hid h
  obtain ⟨⟨c1, c2, c3⟩, _⟩ := hk
  clear h
  cases zs with
  | nil =>
    have HN := Lib.hid (show txM [] = (⟨#[]⟩, false) from rfl)
    rw [HN.out]
    simp only [List.length_nil] at c1 HI ⊢
    go_enter Try.func28, Try.ntmps28
    go_wp2
    go_ret2
    exact ⟨rfl, Below.refl _ _⟩
  | cons z t =>
    obtain ⟨g, off, e, hg, hcell⟩ := HI.out.2.2 (by simp)
    subst e
    have hz := hcell 0 (by simp)
    rw [Nat.add_zero, show (z :: t).getD 0 0 = z from rfl] at hz
    simp only [List.length_cons] at c1 hn HI ⊢
    have HX := Lib.hid (show ∀ b, txB (z :: t) = b → txM (z :: t) = if b then (strOfNums t, true) else (⟨#[]⟩, false) from fun b hb => by rw [txM, hb]; rfl)
    have HB := Lib.hid (show txB (z :: t) = (decide (t.length + 1 ≤ 400) && (z == (t.length : Int)) && t.all fun z => inB z 0 255) by
      unfold txB
      simp only [List.length_cons, List.headD_cons, List.tail_cons]
      rw [decide_eq_true (show 0 < t.length + 1 by omega), Bool.true_and]
      congr 2
      congr 1
      omega)
    have HT : Hid (Ints w (if c = 1 then some ⟨g, off, none⟩ else some ⟨g, off + 1, none⟩) t.length t) := Lib.hid (by
      split
      · have ht : t = [] := List.eq_nil_of_length_eq_zero (by omega)
        subst ht
        exact Ints.nil _ _
      · have := HI.out.drop (k := 1) (by simp)
        simpa using this)
    by_cases a1 : t.length + 1 ≤ 400
    · have d1 : decide (t.length + 1 ≤ 400) = true := decide_eq_true a1
      by_cases a2 : z = (t.length : Int)
      · have d2 : (z == (t.length : Int)) = true := by simp [a2]
        cases a3 : (t.all fun z => inB z 0 255)
        · have HN := Lib.hid (HX.out false (by rw [HB.out, a3, Bool.and_false]))
          clear d1 d2
          subst a2
          by_cases hc1 : c = 1
          · subst hc1
            rw [if_pos rfl] at HT
            have ht : t = [] := List.eq_nil_of_length_eq_zero (by omega)
            rw [ht] at a3
            cases a3
          · rw [if_neg hc1] at HT
            have hd0 : (((t.length : Nat) : Int) + 1 == 0) = false := by simp; omega
            have hd4 : decide ((400 : Int) < (t.length : Int) + 1) = false := by simp; omega
            go_enter Try.func28, Try.ntmps28
            go_wp2_with (go_at_call 76; refine (l1All_any _ t.length _ t 0 255 _ HT.out).mono ?_; rintro e w' ⟨rfl, rfl⟩; rw [a3])
            go_ret2
            exact ⟨ret_sb HN.out.symm, Below.refl _ _⟩
        · have HN := Lib.hid (show txM (z :: t) = (strOfNums t, true) from HX.out true (by rw [HB.out, a3, d1, d2]; rfl))
          have HA3 := Lib.hid a3
          clear d1 d2
          subst a2
          obtain ⟨i0, hi, hz0, hz1, hz2⟩ := info_parts byte_info
          have HL := Lib.hid (show ∀ j, j < t.length → 0 ≤ t.getD j 0 ∧ t.getD j 0 ≤ 255 from fun j hj => inB_true (List.all_eq_true.1 a3 _ (getD_mem (d := 0) hj)))
          by_cases hc1 : c = 1
          · subst hc1
            rw [if_pos rfl] at HT
            have ht : t = [] := List.eq_nil_of_length_eq_zero (by omega)
            subst ht
            go_enter Try.func28, Try.ntmps28
            go_wp2_with (first | (go_at_call 76; refine (l1All_any _ 0 _ [] 0 255 _ HT.out).mono ?_; rintro e w' ⟨rfl, rfl⟩; rw [a3]) | (at_make; refine wpList_make_full _ rfl _ _ 32 rfl w.heap.size 5 i0 (.int .u8 0) 1 Try.underlying32 hi hz0 hz1 .i64 .i64 _ _ 0 rfl rfl rfl rfl (by rw [hz2]; omega) (by simp only [maxLen]; omega) (Nat.le_refl _) ?_; intro w1 hown hg))
            have hw0 : Below w.heap.size w w1 := (Below.refl _ _).grown hg (Nat.le_refl _) (by intro k hk; cases hk)
            have hcv := conv_own (l := []) (ownB_zero hown)
            clear hown hg
            go_loopw [35] (fun i wr => i = .int .i64 0 ∧ wr = w1) (fun i _ => 0)
            case atStart => exact ⟨rfl, rfl⟩
            case round =>
              obtain ⟨rfl, rfl⟩ := hrel
              go_wp2
              go_ret2
              exact ⟨ret_sb HN.out.symm, hw0⟩
          · rw [if_neg hc1] at HT
            have hd0 : (((t.length : Nat) : Int) + 1 == 0) = false := by simp; omega
            have hd4 : decide ((400 : Int) < (t.length : Int) + 1) = false := by simp; omega
            go_enter Try.func28, Try.ntmps28
            go_wp2_with (first | (go_at_call 76; refine (l1All_any _ t.length _ t 0 255 _ HT.out).mono ?_; rintro e w' ⟨rfl, rfl⟩; rw [a3]) | (at_make; refine wpList_make_full _ rfl _ _ 32 rfl w.heap.size 5 i0 (.int .u8 0) 1 Try.underlying32 hi hz0 hz1 .i64 .i64 _ _ t.length rfl rfl rfl rfl (by rw [hz2]; omega) (by simp only [maxLen]; omega) (Nat.le_refl _) ?_; intro w1 hown hg))
            have hw0 : Below w.heap.size w w1 := (Below.refl _ _).grown hg (Nat.le_refl _) (by intro k hk; cases hk)
            have H0 := Lib.hid (ownB_zero hown)
            clear hown hg
            go_loopw [35] (fun i wr => ∃ k : Nat, k ≤ t.length ∧ i = .int .i64 k ∧ Hid (wr.ownsRow w.heap.size 5 1 (.slice (some ⟨w.heap.size, 0, none⟩) t.length t.length) t.length ((t.take k ++ List.replicate (t.length - k) 0).map (Value.int .u8))) ∧ Hid (Below w.heap.size w wr)) (fun i _ => t.length - (intOf i).toNat)
            case atStart => exact ⟨0, by omega, rfl, H0, Lib.hid hw0⟩
            case round =>
              clear H0 hw0
              obtain ⟨k, hk, rfl, HO, HBl⟩ := hrel
              by_cases hlt : k < t.length
              · obtain ⟨b', off', e', hb', hc'⟩ := (HT.out.below HBl.out).at_ hlt
                injection e' with e'
                injection e' with e1 e2
                subst e1 e2
                obtain ⟨z0, z1⟩ := HL.out k hlt
                rw [show off + 1 + k = off + (k + 1) from by omega] at hc'
                have hd := ownB_at (k := k) HO.out hlt
                have hfz := HO.out.frozenAt k
                have HP := Lib.hid (ownB_put (k := k) (z := t.getD k 0) HO.out)
                rw [copyL_step rfl hlt] at HP
                generalize t.getD k 0 = y at hc' z0 z1 HP
                generalize (t.take k ++ List.replicate (t.length - k) 0).getD k 0 = x at hd
                have hy : y % 256 = y := Int.emod_eq_of_lt (by omega) (by omega)
                have j1 : (0 : Int) ≤ (k : Int) := by omega
                have j2 : (k : Int) < (t.length : Int) := by omega
                go_wp2
                go_roundw
                case rel => exact ⟨k + 1, by omega, by go_num, HP, Lib.hid (HBl.out.setCell (Nat.le_refl _) _)⟩
                case measure => simp [intOf]; omega
              · have e : k = t.length := by omega
                subst e
                rw [List.take_of_length_le (Nat.le_refl _), Nat.sub_self, List.replicate_zero, List.append_nil] at HO
                have hcv := conv_own HO.out
                go_wp2
                go_ret2
                exact ⟨ret_sb HN.out.symm, HBl.out⟩
      · have HN := Lib.hid (HX.out false (by rw [HB.out, show (z == (t.length : Int)) = false from by simp [a2]]; simp))
        clear d1
        go_enter Try.func28, Try.ntmps28
        go_wp2
        go_ret2
        exact ⟨ret_sb HN.out.symm, Below.refl _ _⟩
    · have HN := Lib.hid (HX.out false (by rw [HB.out, decide_eq_false a1]; rfl))
      go_enter Try.func28, Try.ntmps28
      go_wp2
      go_ret2
      exact ⟨ret_sb HN.out.symm, Below.refl _ _⟩
end Go.Proofs.Yteeggmnkcgpfjaa
