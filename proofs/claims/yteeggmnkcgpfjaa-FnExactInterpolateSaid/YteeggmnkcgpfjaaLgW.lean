/- Contracts of both sides: Lagrange's coefficients. -/
import Derived.Test.YteeggmnkcgpfjaaPts
import Derived.Test.YteeggmnkcgpfjaaRi
namespace Go.Proofs.Yteeggmnkcgpfjaa
open Go.RowKit
set_option linter.unusedVariables false
set_option linter.unusedSimpArgs false

theorem Res.all_ {q : Int} {f : List Int} (h : Res q f) : (f.all fun z => inB z 0 (q - 1)) = true := by
  rw [List.all_eq_true]
  intro z hz
  obtain ⟨j, hj, rfl⟩ := List.getElem_of_mem hz
  have := h j hj
  rw [List.getD_eq_getElem?_getD, List.getElem?_eq_getElem hj] at this
  exact inB_mk this.1 (by have := this.2; simp at this; omega)
theorem Res.erase {q : Int} {xs : List Int} (h : Res q xs) (hq : 0 < q) (i : Nat) : Res q (xs.eraseIdx i) := by
  intro j _
  rw [erase_get]
  split
  · exact h.getD j hq
  · exact h.getD (j + 1) hq
theorem Res.one {q x : Int} (h0 : 0 ≤ x) (h1 : x < q) : Res q [x] := by
  intro j hj
  have e : j = 0 := by simp at hj; omega
  subst e
  exact ⟨h0, h1⟩
/-- what a point's weight asks -/
theorem bak_facts {q : Int} {xs : List Int} {i : Nat} (hp : primeB q = true) (m1 : 2 ≤ q) (hr : Res q xs) (hd : diffB xs) (hi : i < xs.length) :
    (0 ≤ evalP q (othL q xs i) (xs.getD i 0) ∧ evalP q (othL q xs i) (xs.getD i 0) < q) ∧ Int.gcd q (evalP q (othL q xs i) (xs.getD i 0)) = 1 ∧ 0 ≤ bakL q xs i ∧ bakL q xs i < q := by
  have hb := hornK_bd (q := q) (othL q xs i) (xs.getD i 0) (by omega) (othL q xs i).length
  have hb' : 0 ≤ evalP q (othL q xs i) (xs.getD i 0) ∧ evalP q (othL q xs i) (xs.getD i 0) < q := hb
  have hn : ¬ q ∣ evalP q (othL q xs i) (xs.getD i 0) := by
    rw [othL, root_ev _ _ _ m1]
    exact down_nz hp m1 hr hd hi
  have hg := gcd_one hp m1 hn
  obtain ⟨a, b, _, _⟩ := invM_facts hb'.1 hb'.2 m1 hg
  exact ⟨hb', hg, a, b⟩

set_option maxHeartbeats 1600000 in
theorem basisAt_any (q : Int) (A : Option Addr) (n c : Nat) (xs : List Int) (i : Nat) (w : World) (h : Ints w A n xs) (m1 : 2 ≤ q) (m2 : q ≤ 2000000000) (hp : primeB q = true) (hr : Res q xs) (hd : diffB xs) (hn : n ≤ 24) (hi : i < n) :
    Calls Try.prog 101 #[.int .i64 q, .slice A n c, .int .i64 (i : Int)] w fun e w' => ∃ B cc, e = .returned (.slice B n cc) ∧ w'.ownsRow w.heap.size 3 1 (.slice B n cc) n ((basL q xs i).map (Value.int .i64)) ∧ Below w.heap.size w w' := by
  have hl := h.len
  subst hl
  obtain ⟨⟨v0, v1⟩, hg, u0, u1⟩ := bak_facts hp m1 hr hd hi
  have HR := Lib.hid (hr.erase (show 0 < q by omega) i)
  have HF := Lib.hid (show Res q (othL q xs i) from rootK_res m1 _)
  have HBL := Lib.hid (show basL q xs i = mulL q (othL q xs i) [bakL q xs i] from rfl)
  have HBK := Lib.hid (show bakL q xs i = invM (evalP q (othL q xs i) (xs.getD i 0)) q from rfl)
  have HLN := Lib.hid (basL_len (q := q) hi)
  obtain ⟨b, off, rfl, hb, hc⟩ := h.at_ hi
  obtain ⟨hx0, hx1⟩ := hr i hi
  have HI := Lib.hid h
  have HC := Lib.hid hc
  have HO0 := Lib.hid (show othL q xs i = rootK q (xs.eraseIdx i) (xs.length - 1) from rfl)
  clear hr hd h hg hp
  generalize xs.getD i 0 = x at hc hx0 hx1 v0 v1 HBK HC
  clear hc
  go_enter Try.func101, Try.ntmps101
  go_wp2_with fail
  refine (Clone_any _ xs.length c xs _ HI.out (by omega)).mono ?_
  rintro e w1 ⟨A1, c1, rfl, ho1, hb1⟩
  obtain ⟨g, rfl⟩ := own_addr ho1 (by omega)
  have HO1 := Lib.hid ho1
  have HB1 := Lib.hid hb1
  clear ho1 hb1
  go_wp2_with fail
  refine (delete_any w1 w.heap.size g xs.length c1 i xs HO1.out hi).mono ?_
  rintro e w2 ⟨rfl, hI2, hb2⟩
  have HI2 := Lib.hid hI2
  have HB2 := Lib.hid (HB1.out.trans hb2)
  clear hI2 hb2 HO1 HB1
  go_wp2_with fail
  refine (fromRoots_any q _ (xs.length - 1) c1 (xs.eraseIdx i) _ HI2.out m1 m2 HR.out (by omega)).mono ?_
  rintro e w3 ⟨B3, c3, rfl, ho3, hb3⟩
  rw [← HO0.out] at ho3
  have HO3 := Lib.hid ho3
  have HB3 := Lib.hid (belT HB2.out hb3)
  clear ho3 hb3
  have k3 := keepB HB3.out HC.out
  go_wp2_with fail
  refine (evalPoly_any q B3 (xs.length - 1 + 1) c3 (othL q xs i) x _ (Ints.of_own HO3.out) m1 m2 HF.out.all_ hx0 hx1).mono ?_
  rintro e w4 ⟨rfl, hb4⟩
  have HB4 := Lib.hid (belT HB3.out hb4)
  have HO4 := Lib.hid (ownBelow HO3.out hb4)
  clear hb4 k3 HO3
  go_wp2_with fail
  refine (inverse_any _ q _ v0 v1 m1 (by omega)).mono ?_
  rintro e w' ⟨rfl, rfl⟩
  rw [← HBK.out]
  go_wp2_with fail
  refine (mulPolys_any q B3 (xs.length - 1 + 1) c3 (othL q xs i) _ 1 1 [bakL q xs i] _ ((Ints.of_own HO4.out).below (belA (Below.refl _ _))) (Ints.one (by rw [World.cell?_alloc_at _ _ _ _ (by simp)]; rfl)) m1 m2 HF.out (Res.one u0 u1) (by omega) (by omega)).mono ?_
  rintro e w5 ⟨B5, c5, rfl, ho5, hb5⟩
  rw [← HBL.out, HLN.out] at ho5
  rw [← HBL.out, HLN.out]
  have HO5 := Lib.hid ho5
  clear ho5
  go_wp2
  go_ret
  have hlow : w.heap.size ≤ w4.heap.size := HB4.out.size
  exact ⟨B5, c5, rfl, ownDown HO5.out (by simp; omega), belT (belA HB4.out) hb5⟩
set_option maxHeartbeats 1600000 in
theorem lagrange_any (q : Int) (A : Option Addr) (n c : Nat) (xs : List Int) (x : Int) (w : World) (h : Ints w A n xs) (m1 : 2 ≤ q) (m2 : q ≤ 2000000000) (hp : primeB q = true) (hr : Res q xs) (hd : diffB xs) (hn : n ≤ 24) (x0 : 0 ≤ x) (x1 : x < q) :
    Calls Try.prog 99 #[.int .i64 q, .slice A n c, .int .i64 x] w fun e w' => ∃ B cc, e = .returned (.slice B n cc) ∧ w'.ownsRow w.heap.size 3 1 (.slice B n cc) n ((lagL q xs x).map (Value.int .i64)) ∧ Below w.heap.size w w' := by
  have hl := h.len
  subst hl
  have HI := Lib.hid h
  have HH := Lib.hid (And.intro hp (And.intro hr hd))
  clear h hp hr hd
  go_enter Try.func99, Try.ntmps99
  go_wp2
  go_loopw [7, 12] (fun v i wr => ∃ k : Nat, k ≤ xs.length ∧ i = .int .i64 k ∧ Hid (wr.ownsRow w.heap.size 3 1 v k (((List.range k).map (lagC q xs x)).map (Value.int .i64))) ∧ Hid (Below w.heap.size w wr)) (fun _ i _ => xs.length - (intOf i).toNat)
  case atStart => exact ⟨0, by omega, rfl, Lib.hid (own_empty _ _ (Nat.le_refl _)), Lib.hid (belA (Below.refl _ _))⟩
  case round =>
    obtain ⟨k, hk, rfl, HO, HB⟩ := hrel
    by_cases hlt : k < xs.length
    · have HBR := Lib.hid (show Res q (basL q xs k) from mulL_res (by omega))
      have HEV := Lib.hid (basL_ev (xs := xs) m1 hlt x)
      have HLF := Lib.hid (lag_first q xs x k)
      have i1 : (0 : Int) ≤ (k : Int) := by omega
      have i2 : (k : Int) < (xs.length : Int) := by omega
      go_wp2_with fail
      refine (basisAt_any q A xs.length c xs k _ (HI.out.below HB.out) m1 m2 HH.out.1 HH.out.2.1 HH.out.2.2 hn hlt).mono ?_
      rintro e w1 ⟨B1, c1, rfl, ho1, hb1⟩
      have HO1 := Lib.hid ho1
      have HB1 := Lib.hid hb1
      clear ho1 hb1
      go_wp2_with fail
      refine (evalPoly_any q B1 xs.length c1 (basL q xs k) x _ (Ints.of_own HO1.out) m1 m2 HBR.out.all_ x0 x1).mono ?_
      rintro e w2 ⟨rfl, hb2⟩
      rw [HEV.out]
      have HB2 := Lib.hid (belT HB.out (belT HB1.out hb2))
      have HO2 := Lib.hid (ownBelow HO.out (belT HB1.out hb2))
      clear hb2
      go_wp2_with (at_builtin; refine app1 rfl _ _ rfl rfl rfl HO2.out (by omega) HB2.out.size ?_; intro v2 w3 hown3 hbel3; rw [HLF.out] at hown3)
      go_roundw
      case rel => exact ⟨k + 1, by omega, by go_num, Lib.hid hown3, Lib.hid (HB2.out.trans hbel3)⟩
      case measure => simp [intOf]; omega
    · have e : k = xs.length := by omega
      subst e
      obtain ⟨B2, c2, rfl⟩ := own_shape HO.out
      go_wp2
      go_ret
      exact ⟨_, _, rfl, HO.out, HB.out⟩
set_option maxHeartbeats 3200000 in
theorem yLagrange_any (q : Int) (A : Option Addr) (n c : Nat) (xs : List Int) (x : Int) (w : World) (h : Ints w A n xs) (m1 : 2 ≤ q) (m2 : q ≤ 2000000000) (hp : primeB q = true) (hr : Res q xs) (hd : diffB xs) (hn : n ≤ 24) (x0 : 0 ≤ x) (x1 : x < q) :
    Calls Try.prog 95 #[.int .i64 q, .slice A n c, .int .i64 x] w fun e w' => ∃ B cc, e = .returned (.slice B n cc) ∧ w'.ownsRow w.heap.size 3 1 (.slice B n cc) n ((lagL q xs x).map (Value.int .i64)) ∧ Below w.heap.size w w' := by
  have hl := h.len
  subst hl
  have HI := Lib.hid h
  have HH := Lib.hid (And.intro hp (And.intro hr hd))
  clear h hp hr hd
  go_enter Try.func95, Try.ntmps95
  go_wp2
  go_loopw [7, 18] (fun v i wr => ∃ k : Nat, k ≤ xs.length ∧ i = .int .i64 k ∧ Hid (wr.ownsRow w.heap.size 3 1 v k (((List.range k).map (lagC q xs x)).map (Value.int .i64))) ∧ Hid (Below w.heap.size w wr)) (fun _ i _ => xs.length - (intOf i).toNat)
  case atStart => exact ⟨0, by omega, rfl, Lib.hid (own_nil _ _), Lib.hid (Below.refl _ _)⟩
  case round =>
    obtain ⟨k, hk, rfl, HO, HB⟩ := hrel
    by_cases hlt : k < xs.length
    · obtain ⟨b, off, rfl, hb, hc⟩ := (HI.out.below HB.out).at_ hlt
      have HIr := Lib.hid (HI.out.below HB.out)
      obtain ⟨a0, a1⟩ := HH.out.2.1 k hlt
      have HLF := Lib.hid (lag_first q xs x k)
      have hnz := down_nz HH.out.1 m1 HH.out.2.1 HH.out.2.2 hlt
      rw [← upK_all (xs.getD k 0) hlt] at hnz
      have hg := gcd_one HH.out.1 m1 hnz
      have hub := upK_bd xs k (xs.getD k 0) m1 xs.length
      have hux := upK_bd xs k x m1 xs.length
      obtain ⟨iv0, iv1, _, _⟩ := invM_facts hub.1 hub.2 m1 hg
      have hLC : upK q xs k x xs.length * invM (upK q xs k (xs.getD k 0) xs.length) q % q = lagC q xs x k := rfl
      have hmul := mul_bdi hux ⟨iv0, iv1⟩ m2
      generalize ha : xs.getD k 0 = a at hc a0 a1 hnz hg hub iv0 iv1 hLC hmul
      have HG := Lib.hid hg
      have HLC := Lib.hid hLC
      have HNB := Lib.hid (And.intro hux (And.intro hub (And.intro (And.intro iv0 iv1) hmul)))
      have i1 : (0 : Int) ≤ (k : Int) := by omega
      have i2 : (k : Int) < (xs.length : Int) := by omega
      have hq0 : (q == 0) = false := by simp; omega
      clear ha hg hLC hnz hub hux iv0 iv1 hmul
      go_wp2
      go_loop [10, 11, 25] (fun u d i => ∃ j : Nat, j ≤ xs.length ∧ i = .int .i64 j ∧ u = .int .i64 (upK q xs k x j) ∧ d = .int .i64 (upK q xs k a j)) (fun _ _ i => xs.length - (intOf i).toNat)
      case atStart => exact ⟨0, by omega, rfl, rfl, rfl⟩
      case round =>
        obtain ⟨j, hj, rfl, rfl, rfl⟩ := hrel
        by_cases hjt : j < xs.length
        · obtain ⟨b', off', e', hb', hc'⟩ := HIr.out.at_ hjt
          injection e' with e'
          injection e' with e1 e2
          subst e1 e2
          obtain ⟨z0, z1⟩ := HH.out.2.1 j hjt
          have j1 : (0 : Int) ≤ (j : Int) := by omega
          have j2 : (j : Int) < (xs.length : Int) := by omega
          by_cases hjk : j = k
          · have hne : ((j : Int) != (k : Int)) = false := by simp; omega
            have HU := Lib.hid (show ∀ t, upK q xs k t (j + 1) = upK q xs k t j from fun t => by rw [upK, if_pos hjk])
            generalize xs.getD j 0 = z at hc' z0 z1
            clear hjk
            go_wp2
            go_round
            case rel => exact ⟨j + 1, by omega, by go_num, by rw [HU.out], by rw [HU.out]⟩
            case measure => simp [intOf]; omega
          · have hne : ((j : Int) != (k : Int)) = true := by simp; omega
            have hux : upK q xs k x (j + 1) = upK q xs k x j * ((x - xs.getD j 0) % q) % q := by rw [upK, if_neg hjk]
            have hua : upK q xs k a (j + 1) = upK q xs k a j * ((a - xs.getD j 0) % q) % q := by rw [upK, if_neg hjk]
            have hu := upK_bd xs k x m1 j
            have hd := upK_bd xs k a m1 j
            generalize xs.getD j 0 = z at hc' z0 z1 hux hua
            generalize upK q xs k x j = u at hu hux ⊢
            generalize upK q xs k a j = d at hd hua ⊢
            have y1 := Int.emod_nonneg (x - z) (show q ≠ 0 by omega)
            have y2 := Int.emod_lt_of_pos (x - z) (show 0 < q by omega)
            have y3 := Int.emod_nonneg (a - z) (show q ≠ 0 by omega)
            have y4 := Int.emod_lt_of_pos (a - z) (show 0 < q by omega)
            obtain ⟨b1, b2⟩ := mul_bdi hu ⟨y1, y2⟩ m2
            obtain ⟨b3, b4⟩ := mul_bdi hd ⟨y3, y4⟩ m2
            have HUX := Lib.hid hux
            have HUA := Lib.hid hua
            clear hjk hux hua
            go_wp2_with (go_at_call 112; refine (nMod_any _ _ _ (by omega) (by omega)).mono ?_; rintro e w' ⟨rfl, rfl⟩)
            go_round
            case rel => exact ⟨j + 1, by omega, by go_num, by rw [HUX.out], by rw [HUA.out]⟩
            case measure => simp [intOf]; omega
        · have e : j = xs.length := by omega
          subst e
          obtain ⟨⟨n0, n1⟩, ⟨n2, n3⟩, ⟨n4, n5⟩, n6, n7⟩ := HNB.out
          go_wp2_with (first | (go_at_call 134; refine (nInverse_any _ q _ n2 n3 m1 (by omega)).mono ?_; rintro e w' ⟨y, rfl, hy, rfl⟩; (have hy2 := hy HG.out); subst hy2; clear hy) | (at_builtin; refine app1 rfl _ _ rfl rfl rfl HO.out (by omega) HB.out.size ?_; intro v2 w3 hown3 hbel3; rw [HLC.out, HLF.out] at hown3))
          go_roundw
          case rel => exact ⟨k + 1, by omega, by go_num, Lib.hid hown3, Lib.hid (HB.out.trans hbel3)⟩
          case measure => simp [intOf]; omega
    · have e : k = xs.length := by omega
      subst e
      obtain ⟨B2, c2, rfl⟩ := own_shape HO.out
      go_wp2
      go_ret
      exact ⟨_, _, rfl, HO.out, HB.out⟩
theorem lg_no {q x : Int} {xs : List Int} (h : (arP q xs && inB x 0 (q - 1)) = false) : lgM q xs x = ([], false) := by rw [lgM, h]; rfl
theorem lg_yes {q x : Int} {xs : List Int} (h : (arP q xs && inB x 0 (q - 1)) = true) : lgM q xs x = (lagL q xs x, true) := by rw [lgM, h]; rfl
end Go.Proofs.Yteeggmnkcgpfjaa
