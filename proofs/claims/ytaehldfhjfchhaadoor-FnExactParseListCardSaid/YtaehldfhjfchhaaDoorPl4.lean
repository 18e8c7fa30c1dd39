/- Contracts: the program's ParseList, second part. -/
import Derived.Test.YtaehldfhjfchhaaDoorPl3
namespace Go.Proofs.YtaehldfhjfchhaaDoor
open Go.RowKit
set_option linter.unusedVariables false
set_option linter.unusedSimpArgs false

/-- one number appended, and what else has grown -/
theorem app1g {B : Nat} {W : World} {ops : Array Oper} {rest : List Oper} {o : Oper} {a : Act} {Q : Exit → Act → World → Prop} {v : Value} {n : Nat} {l : List Int} {z : Int} (hgd : o.guard = none) (s x : Operand)
    (ho : o.op = .call { callee := .builtin .append, args := #[s, x], argTypes := #[22, 22] }) (hs : a.eval s = v) (hx : a.eval x = .slice (some ⟨W.heap.size, 0, none⟩) 1 1)
    (hown : W.ownsRow B 3 1 v n (l.map (Value.int .i64))) (hn : n ≤ 1000000000) (hB : B ≤ W.heap.size)
    (h : ∀ v' w', w'.ownsRow B 3 1 v' (n + 1) ((l ++ [z]).map (Value.int .i64)) → Below B W w' → W.grownBy w' v.ownBlock → wpList Tryd.prog ops Q rest (a.put o.dst v') w') :
    wpList Tryd.prog ops Q (o :: rest) a (W.alloc (.cells #[.int .i64 z] 3)) := by
  obtain ⟨i0, hi, hz0, hz1, hz2⟩ := info_parts int_info
  refine wpList_append_own _ hgd s x 22 ho B 3 i0 (.int .i64 0) 1 8 Tryd.underlying22 hi hz0 hz1 hz2 rfl (by decide) v n _ hs (hown.alloc _) ⟨W.heap.size, 0, none⟩ 1 1 [.int .i64 z] hx rfl (cell_one_new _ _ _) (by intro u hu; simp at hu; subst hu; rfl) (by simp only [maxLen]; omega) (by omega) (by simp; omega) ?_
  intro v' w' hown' hg _
  have h0 : Below W.heap.size W (W.alloc (.cells #[.int .i64 z] 3)) := belA (Below.refl _ _)
  refine h v' w' (by rw [List.map_append]; exact hown') ?_ ⟨hg.os.trans h0.os, hg.tape.trans h0.tape, hg.output.trans h0.output, Nat.le_trans h0.size hg.size, fun k hk hne => (hg.block k (Nat.lt_of_lt_of_le hk h0.size) hne).trans (h0.block k hk)⟩
  exact ((Below.refl B W).alloc hB _).grown hg (by simp; omega) fun k hk => (hown.lt k hk).1
theorem bytes_same {x : ByteArray} {l : List UInt8} (h : l = x.data.toList) : ((⟨l.toArray⟩ : ByteArray).toList == x.toList) = true := by
  rw [ByteArray.toList_eq, ByteArray.toList_eq, beq_iff_eq]
  exact h
theorem bytes_diff {x : ByteArray} {l : List UInt8} (h : l ≠ x.data.toList) : ((⟨l.toArray⟩ : ByteArray).toList == x.toList) = false := by
  rw [ByteArray.toList_eq, ByteArray.toList_eq, beq_eq_false_iff_ne]
  exact h

set_option maxRecDepth 100000 in
set_option maxHeartbeats 4000000 in
theorem iParseList_ri (s : ByteArray) (w : World) (hs : s.size ≤ 2000000) (E : Env w) :
    Calls Tryd.prog 6 #[.string s] w (RI w (plM s)) := by
  by_cases he : s = ⟨#[45]⟩
  · subst he
    go_enter Tryd.func6, Tryd.ntmps6
    go_wp2
    go_ret2
    exact RI.yes plM_dash (own_empty _ _ (Nat.le_refl _)) (belA (Below.refl _ _))
  · have hb := ne_dash he
    have HE := Lib.hid E
    have H := Lib.hid (fun W => splitN_any s hs W)
    have HPM := Lib.hid (fun (ws : List ByteArray) h => plM_split (ws := ws) he h)
    have HO0 := Lib.hid (own_empty w w.heap.size (Nat.le_refl _))
    clear E
    go_enter Tryd.func6, Tryd.ntmps6
    go_wp2_with fail
    refine (H.out _ (HE.out.below (belA (Below.refl _ _)))).mono ?_
    rintro e w1 ⟨A, c, ws, rfl, h401, hws, hown, hb1⟩
    have HPL := Lib.hid (HPM.out ws hws)
    have HLE := Lib.hid (fun (k : Nat) (hk : k < ws.length) => wordK_le hws hk)
    have HL1 := Lib.hid (ownDown hown (by simp : w.heap.size ≤ _))
    have HO1 := Lib.hid (ownBelow HO0.out hb1)
    have HB1 := Lib.hid (belT (belA (Below.refl _ _)) hb1 : Below w.heap.size w w1)
    clear hws hown hb1 H HPM HO0
    go_wp2
    go_loopw [4, 16] (fun v i wr => ∃ k : Nat, k ≤ ws.length ∧ i = .int .i64 k ∧ Hid (wr.ownsRow w.heap.size 3 1 v k (((ws.take k).map vB).map (Value.int .i64))) ∧ Hid (wr.ownsRow w.heap.size 9 1 (.slice A ws.length c) ws.length (ws.map Value.string)) ∧ Hid (Below w.heap.size w wr) ∧ Hid (∀ j, j < k → (cv (ws.getD j ⟨#[]⟩).data.toList).isSome = true)) (fun _ i _ => ws.length - (intOf i).toNat)
    case atStart => exact ⟨0, by omega, rfl, HO1, HL1, HB1, Lib.hid fun j hj => absurd hj (by omega)⟩
    case round =>
      clear HO1 HL1
      obtain ⟨k, hk, rfl, HO, HL, HB, HK⟩ := hrel
      by_cases hlt : k < ws.length
      · obtain ⟨b, off, rfl, hbb, hc⟩ := (Strs.of_own HL.out (by omega)).at_ hlt
        have hsz := HLE.out k hlt
        have HST := Lib.hid (map_step (d := (⟨#[]⟩ : ByteArray)) vB hlt)
        have HBAD := Lib.hid (fun h => HPL.out.trans (iL_bad hlt h))
        have HUP := Lib.hid (fun h => upto_succ HK.out (k := k) h)
        have hvB : vB (ws.getD k ⟨#[]⟩) = (cv (ws.getD k ⟨#[]⟩).data.toList).getD 0 := rfl
        generalize ws.getD k ⟨#[]⟩ = x at hc hsz HST HBAD HUP hvB
        have HV := Lib.hid hvB
        have hEr := HE.out.below HB.out
        have i1 : (0 : Int) ≤ (k : Int) := by omega
        have i2 : (k : Int) < (ws.length : Int) := by omega
        clear hvB
        by_cases hA : ∃ v, Lib.atoiAll x.data.toList = .ok v
        · obtain ⟨v, hv⟩ := hA
          obtain ⟨v0, v1⟩ := Lib.atoiAll_bounds hv
          have HC := Lib.hid (atoi_good x (by omega) v hv wr)
          have hcv := cv_ok hv
          clear hv
          by_cases hI : Lib.itoa v = x.data.toList
          · rw [if_pos hI] at hcv
            have HU := Lib.hid (HUP.out (by rw [hcv]; rfl))
            have hxv : vB x = v := by rw [HV.out, hcv]; rfl
            rw [hxv] at HST
            have hy := bytes_same hI
            have HT := Lib.hid fun W E => itoaI_any v v0 v1 W E
            generalize (⟨(Lib.itoa v).toArray⟩ : ByteArray) = y at hy HT
            clear hI hcv hxv
            go_wp2_with fail
            refine HC.out.mono ?_
            rintro e w2 ⟨rfl, hb2⟩
            have HO2 := Lib.hid (ownBelow HO.out hb2)
            have HL2 := Lib.hid (ownBelow HL.out hb2)
            have HB2 := Lib.hid (belT HB.out hb2)
            have HE2 := Lib.hid (hEr.below hb2)
            clear hb2
            go_wp2_with fail
            refine (HT.out _ HE2.out).mono ?_
            rintro e w3 ⟨rfl, hb3⟩
            have HO3 := Lib.hid (ownBelow HO2.out hb3)
            have HL3 := Lib.hid (ownBelow HL2.out hb3)
            have HB3 := Lib.hid (belT HB2.out hb3)
            have hz3 := HB3.out.size
            clear hb3
            go_wp2_with (at_builtin; refine app1g rfl _ _ rfl rfl rfl HO3.out (by omega) hz3 ?_; intro v4 w4 hown4 hbel4 hg4)
            go_roundw
            case rel => exact ⟨k + 1, by omega, by go_num, Lib.hid (by rw [← HST.out]; exact hown4), Lib.hid (HL3.out.kept hg4 (own_apart HL3.out HO3.out (by decide))), Lib.hid (HB3.out.trans hbel4), HU⟩
            case measure => simp [intOf]; omega
          · rw [if_neg hI] at hcv
            have HN := Lib.hid (HBAD.out hcv)
            have hy := bytes_diff hI
            have HT := Lib.hid fun W E => itoaI_any v v0 v1 W E
            generalize (⟨(Lib.itoa v).toArray⟩ : ByteArray) = y at hy HT
            clear hI hcv
            go_wp2_with fail
            refine HC.out.mono ?_
            rintro e w2 ⟨rfl, hb2⟩
            have HB2 := Lib.hid (belT HB.out hb2)
            have HE2 := Lib.hid (hEr.below hb2)
            clear hb2
            go_wp2_with fail
            refine (HT.out _ HE2.out).mono ?_
            rintro e w3 ⟨rfl, hb3⟩
            go_wp2
            go_ret2
            exact RI.no HN.out (belT HB2.out hb3)
        · have hA' : ∀ v, Lib.atoiAll x.data.toList ≠ .ok v := fun v e => hA ⟨v, e⟩
          have HN := Lib.hid (HBAD.out (cv_bad hA'))
          have HC := Lib.hid (atoi_bad x (by omega) hA' wr hEr)
          clear hA hA'
          go_wp2_with fail
          refine HC.out.mono ?_
          rintro e w2 ⟨xv, tp, N, rfl, hb2⟩
          go_wp2
          go_ret2
          exact RI.no HN.out (belT HB.out hb2)
      · have e : k = ws.length := by omega
        subst e
        rw [List.take_of_length_le (Nat.le_refl _)] at HO
        have HG := Lib.hid (HPL.out.trans (iL_good HK.out))
        obtain ⟨A3, c3, rfl⟩ := own_shape HO.out
        go_wp2_with fail
        refine (record_any A3 ws.length c3 (ws.map vB) _ (Ints.of_own HO.out)).mono ?_
        rintro e w2 ⟨rfl, hb2⟩
        go_wp2
        go_ret2
        rw [HG.out]
        exact RI.rec_ (ownBelow HO.out hb2) (belT HB.out hb2)
theorem iParseList_any (s : ByteArray) (w : World) (hs : s.size ≤ 2000000) (E : Env w) :
    Calls Tryd.prog 6 #[.string s] w fun e w' => ∃ B cc, e = .returned (.tuple #[.slice B (plM s).1.length cc, .bool (plM s).2]) ∧ w'.ownsRow w.heap.size 3 1 (.slice B (plM s).1.length cc) (plM s).1.length ((plM s).1.map (Value.int .i64)) ∧ Below w.heap.size w w' :=
  iParseList_ri s w hs E
end Go.Proofs.YtaehldfhjfchhaaDoor
