/- InvertAll: contracts of both sides. -/
import Derived.Test.YtkedcnnbcimffaaSum
import Derived.Test.YtkedcnnbcimffaaInv
import Derived.Test.YtkedcnnbcimffaaAp
namespace Go.Proofs.Ytkedcnnbcimffaa
open Go.RowKit
set_option linter.unusedVariables false

def ivAll (zs : List Int) (m : Int) : List Int × Bool := if termsB zs m && zs.all (fun z => decide (Int.gcd m z = 1)) then (zs.map (fun z => invM z m), true) else ([], false)
theorem ivAll_len (zs : List Int) (m : Int) : (ivAll zs m).1.length ≤ zs.length := by unfold ivAll; split <;> simp
theorem ivAll_bad {zs : List Int} {m : Int} (h : termsB zs m = false) : ivAll zs m = ([], false) := by simp [ivAll, h]
theorem ivAll_no {zs : List Int} {m : Int} {k : Nat} (hk : k < zs.length) (h : ¬ Int.gcd m (zs.getD k 0) = 1) : ivAll zs m = ([], false) := by
  have := all_no (d := 0) (p := fun z => decide (Int.gcd m z = 1)) rfl hk (by simpa using h)
  simp only [ivAll, this, Bool.and_false, Bool.false_eq_true, if_false]
theorem ivAll_yes {zs : List Int} {m : Int} (h : termsB zs m = true) (h2 : ∀ j, j < zs.length → Int.gcd m (zs.getD j 0) = 1) : ivAll zs m = (zs.map (fun z => invM z m), true) := by
  have := all_yes (d := 0) (p := fun z => decide (Int.gcd m z = 1)) (zs := zs) rfl (fun j hj => by simpa using h2 j hj)
  simp only [ivAll, this, h, Bool.and_self, if_true]

set_option maxHeartbeats 800000 in
theorem sInvertAll_any (A : Option Addr) (n c : Nat) (zs : List Int) (m : Int) (w : World) (h : Ints w A n zs) :
    Calls Try.prog 17 #[.slice A n c, .int .i64 m] w fun e w' => ∃ B cc, e = .returned (.tuple #[.slice B (ivAll zs m).1.length cc, .bool (ivAll zs m).2]) ∧ w'.ownsRow w.heap.size 3 1 (.slice B (ivAll zs m).1.length cc) (ivAll zs m).1.length ((ivAll zs m).1.map (Value.int .i64)) ∧ Below w.heap.size w w' := by
  have hl := h.len
  subst hl
  cases h1 : inB m 2 2000000000
  · have HR := Lib.hid (ivAll_bad (zs := zs) (m := m) (by simp [termsB, h1]))
    go_enter Try.func17, Try.ntmps17
    go_wp2_with (first | (go_at_call 43; refine (nModulus_any _ _).mono ?_; rintro e w' ⟨rfl, rfl⟩))
    go_ret2
    rw [HR.out]
    exact ⟨none, 0, rfl, own_nil _ _, Below.refl _ _⟩
  obtain ⟨m1, m2⟩ := inB_true h1
  have HI := Lib.hid h
  have hL := nList_any A zs.length c zs m w h (by omega) (by omega)
  clear h
  cases h2 : (decide (zs.length ≤ 200) && zs.all fun z => inB z 0 (m - 1))
  · have HR := Lib.hid (ivAll_bad (zs := zs) (m := m) (by simp only [termsB, Bool.and_assoc, h2, Bool.and_false]))
    rw [h2] at hL
    have HL := Lib.hid hL
    have H2 := Lib.hid h2
    clear hL h2
    go_enter Try.func17, Try.ntmps17
    go_wp2_with (first | (go_at_call 43; refine (nModulus_any _ _).mono ?_; rintro e w' ⟨rfl, rfl⟩) | (go_at_call 44; refine HL.out.mono ?_; rintro e w' ⟨rfl, rfl⟩))
    go_ret2
    rw [HR.out]
    exact ⟨none, 0, rfl, own_nil _ _, Below.refl _ _⟩
  have HT := Lib.hid (show termsB zs m = true by simp only [termsB, Bool.and_assoc, h2, h1, Bool.and_true])
  have h3 := (Bool.and_eq_true _ _).mp h2
  have hn : zs.length ≤ 200 := of_decide_eq_true h3.1
  have HA := Lib.hid h3.2
  rw [h2] at hL
  have HL := Lib.hid hL
  clear h3 h2 hL
  go_enter Try.func17, Try.ntmps17
  go_wp2_with (first | (go_at_call 43; refine (nModulus_any _ _).mono ?_; rintro e w' ⟨rfl, rfl⟩) | (go_at_call 44; refine HL.out.mono ?_; rintro e w' ⟨rfl, rfl⟩))
  go_loopw [6, 22] (fun o i wr => ∃ k : Nat, k ≤ zs.length ∧ i = .int .i64 k ∧ Hid (wr.ownsRow w.heap.size 3 1 o k (((zs.take k).map (fun z => invM z m)).map (Value.int .i64))) ∧ Hid (Below w.heap.size w wr) ∧ Hid (∀ j, j < k → Int.gcd m (zs.getD j 0) = 1)) (fun _ i _ => zs.length - (intOf i).toNat)
  case atStart => exact ⟨0, by omega, rfl, Lib.hid (own_nil _ _), Lib.hid (Below.refl _ _), Lib.hid fun j hj => absurd hj (by omega)⟩
  case round =>
    clear h1 HL
    obtain ⟨k, hk, rfl, HO, HB, HG⟩ := hrel
    by_cases hlt : k < zs.length
    · obtain ⟨b, off, rfl, hb, hc⟩ := (HI.out.below HB.out).at_ hlt
      obtain ⟨z1, z2⟩ := all_bd rfl HA.out hlt
      have HS := Lib.hid (map_step (d := 0) (fun z => invM z m) hlt)
      by_cases hg : Int.gcd m (zs.getD k 0) = 1
      · have HG' := Lib.hid (upto_succ (P := fun j => Int.gcd m (zs.getD j 0) = 1) HG.out hg)
        have HD := Lib.hid hg
        clear hg HG
        generalize zs.getD k 0 = z at hc z1 z2 HS HD
        go_wp2_with fail
        refine (nInverse_any z m _ z1 z2 (by omega) (by omega)).mono ?_
        rintro e w1 ⟨y, rfl, hy, rfl⟩
        rw [decide_eq_true HD.out]
        have HY := Lib.hid (hy HD.out)
        clear hy
        go_wp2_with (at_builtin; refine app1 rfl _ _ rfl rfl rfl HO.out (by omega) HB.out.size ?_; intro v2 w2 hown2 hbel2; rw [HY.out, HS.out] at hown2)
        go_roundw
        case rel => exact ⟨k + 1, by omega, by go_num, Lib.hid hown2, Lib.hid (belAt HB.out hbel2), HG'⟩
        case measure => simp [intOf]; omega
      · have HR := Lib.hid (ivAll_no hlt hg)
        have HD := Lib.hid hg
        clear hg HS
        generalize zs.getD k 0 = z at hc z1 z2 HD
        go_wp2_with fail
        refine (nInverse_any z m _ z1 z2 (by omega) (by omega)).mono ?_
        rintro e w1 ⟨y, rfl, hy, rfl⟩
        rw [decide_eq_false HD.out]
        clear hy
        go_wp2
        go_ret2
        rw [HR.out]
        exact ⟨none, 0, rfl, own_nil _ _, HB.out⟩
    · have e : k = zs.length := by omega
      subst e
      have HR := Lib.hid (ivAll_yes HT.out HG.out)
      obtain ⟨B, cc, rfl⟩ := own_shape HO.out
      go_wp2
      go_ret2
      rw [HR.out]
      refine ⟨B, cc, by simp, ?_, HB.out⟩
      have := HO.out
      rw [map_all] at this
      simpa using this

set_option maxHeartbeats 800000 in
theorem iInvertAll_any (A : Option Addr) (n c : Nat) (zs : List Int) (m : Int) (w : World) (h : Ints w A n zs) :
    Calls Try.prog 18 #[.slice A n c, .int .i64 m] w fun e w' => ∃ B cc, e = .returned (.tuple #[.slice B (ivAll zs m).1.length cc, .bool (ivAll zs m).2]) ∧ w'.ownsRow w.heap.size 3 1 (.slice B (ivAll zs m).1.length cc) (ivAll zs m).1.length ((ivAll zs m).1.map (Value.int .i64)) ∧ Below w.heap.size w w' := by
  have hl := h.len
  subst hl
  have HI := Lib.hid h
  clear h
  go_enter Try.func18, Try.ntmps18
  go_wp2_with fail
  refine (areTerms_any A zs.length c zs m _ HI.out).mono ?_
  rintro e w1_ ⟨rfl, hb1⟩
  have hW := hb1
  obtain ⟨hc, hf⟩ := bcell hW
  cases hp : termsB zs m
  · have HR := Lib.hid (ivAll_bad hp)
    go_wp2
    go_ret2
    rw [HR.out]
    exact ⟨none, 0, rfl, own_nil _ _, belT (by repeat (first | exact Below.refl _ _ | assumption | refine belA ?_ | refine belD ?_ | refine belN ?_ | refine belS ?_ (by simp) | refine belT ?_ (by assumption))) hW⟩
  have HT := Lib.hid hp
  obtain ⟨⟨⟨m1, m2⟩, hn⟩, h3⟩ : ((2 ≤ m ∧ m ≤ 2000000000) ∧ zs.length ≤ 200) ∧ (zs.all fun z => inB z 0 (m - 1)) = true := by
    have := hp
    simp only [termsB, Bool.and_eq_true, decide_eq_true_eq] at this
    exact ⟨⟨inB_true this.1.1, this.1.2⟩, this.2⟩
  have HA := Lib.hid h3
  have hB1 : Below w.heap.size w w1_ := hW
  have HJ := Lib.hid (HI.out.below hB1)
  have hz2 := hB1.size
  clear hp h3 hW hc hf hb1 HI
  go_wp2
  go_loopw [6, 17] (fun o i wr => ∃ k : Nat, k ≤ zs.length ∧ i = .int .i64 k ∧ Hid (wr.ownsRow w1_.heap.size 3 1 o k (((zs.take k).map (fun z => invM z m)).map (Value.int .i64))) ∧ Hid (Below w1_.heap.size w1_ wr) ∧ Hid (∀ j, j < k → Int.gcd m (zs.getD j 0) = 1)) (fun _ i _ => zs.length - (intOf i).toNat)
  case atStart => exact ⟨0, by omega, rfl, Lib.hid (own_empty _ _ (Nat.le_refl _)), Lib.hid (by repeat (first | exact Below.refl _ _ | assumption | refine belA ?_ | refine belD ?_ | refine belN ?_ | refine belS ?_ (by simp) | refine belT ?_ (by assumption))), Lib.hid fun j hj => absurd hj (by omega)⟩
  case round =>
    obtain ⟨k, hk, rfl, HO, HB, HG⟩ := hrel
    by_cases hlt : k < zs.length
    · obtain ⟨b, off, rfl, hb, hc⟩ := (HJ.out.below HB.out).at_ hlt
      obtain ⟨z1, z2⟩ := all_bd rfl HA.out hlt
      have HS := Lib.hid (map_step (d := 0) (fun z => invM z m) hlt)
      by_cases hg : Int.gcd m (zs.getD k 0) = 1
      · have HG' := Lib.hid (upto_succ (P := fun j => Int.gcd m (zs.getD j 0) = 1) HG.out hg)
        have hz0 : ¬ invM (zs.getD k 0) m = 0 := invM_nz m1 z1 z2 hg
        clear hg HG
        generalize zs.getD k 0 = z at hc z1 z2 HS hz0
        go_wp2_with fail
        refine (inverse_any z m _ z1 z2 (by omega) (by omega)).mono ?_
        rintro e w1 ⟨rfl, rfl⟩
        generalize hy : invM z m = y at hz0
        have HY := Lib.hid hy
        have hz0' : (y == 0) = false := by simpa using hz0
        clear hy
        go_wp2_with (at_builtin; refine app1 rfl _ _ rfl rfl rfl HO.out (by omega) HB.out.size ?_; intro v2 w2 hown2 hbel2; rw [← HY.out, HS.out] at hown2)
        go_roundw
        case rel => exact ⟨k + 1, by omega, by go_num, Lib.hid hown2, Lib.hid (belAt HB.out hbel2), HG'⟩
        case measure => simp [intOf]; omega
      · have HR := Lib.hid (ivAll_no hlt hg)
        have HD := Lib.hid (invM_no hg)
        clear hg HS
        generalize zs.getD k 0 = z at hc z1 z2 HD
        go_wp2_with fail
        refine (inverse_any z m _ z1 z2 (by omega) (by omega)).mono ?_
        rintro e w1 ⟨rfl, rfl⟩
        rw [HD.out]
        go_wp2
        go_ret2
        rw [HR.out]
        exact ⟨none, 0, rfl, own_nil _ _, belT hB1 HB.out⟩
    · have e : k = zs.length := by omega
      subst e
      have HR := Lib.hid (ivAll_yes HT.out HG.out)
      obtain ⟨B, cc, rfl⟩ := own_shape HO.out
      go_wp2
      go_ret2
      rw [HR.out]
      refine ⟨B, cc, by simp, ?_, belT hB1 HB.out⟩
      have := HO.out
      rw [map_all] at this
      exact ownDown (by simpa using this) hz2
end Go.Proofs.Ytkedcnnbcimffaa
