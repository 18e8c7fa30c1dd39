/- The plain law of points, of Lagrange's coefficients as a list, of the polynomial through points. -/
import Derived.Test.YteeggmnkcgpfjaaLagN
import Derived.Test.YteeggmnkcgpfjaaDot
namespace Go.Proofs.Yteeggmnkcgpfjaa
open Go.RowKit
set_option linter.unusedVariables false

/-- does a number stand in a list? -/
def hasL (zs : List Int) (x : Int) : Bool := zs.contains x
/-- no number stands twice -/
def ptsB (xs : List Int) : Bool := (List.range xs.length).all fun i => !(hasL (xs.take i) (xs.getD i 0))
theorem ptsB_no {xs : List Int} {i : Nat} (hi : i < xs.length) (h : hasL (xs.take i) (xs.getD i 0) = true) : ptsB xs = false := by
  rw [ptsB, List.all_eq_false]
  exact ⟨i, List.mem_range.2 hi, by rw [h]; simp⟩
theorem ptsB_yes {xs : List Int} (h : ∀ i, i < xs.length → hasL (xs.take i) (xs.getD i 0) = false) : ptsB xs = true := by
  rw [ptsB, List.all_eq_true]
  intro i hi
  rw [h i (List.mem_range.1 hi)]
  rfl
theorem pts_diff {xs : List Int} (h : ptsB xs = true) : diffB xs := by
  have key : ∀ i j, i < j → j < xs.length → xs.getD i 0 ≠ xs.getD j 0 := by
    intro i j hij hj e
    rw [ptsB, List.all_eq_true] at h
    have h1 := h j (List.mem_range.2 hj)
    rw [Bool.not_eq_true'] at h1
    have h2 : xs.getD i 0 ∈ xs.take j := by
      rw [List.getD_eq_getElem?_getD, List.getElem?_eq_getElem (by omega), List.mem_take_iff_getElem]
      exact ⟨i, by omega, rfl⟩
    rw [e] at h2
    have h3 : hasL (xs.take j) (xs.getD j 0) = true := List.contains_iff_mem.2 h2
    rw [h1] at h3
    cases h3
  intro i j hi hj hne
  rcases Nat.lt_or_gt_of_ne hne with c | c
  · exact key i j c hj
  · exact fun e => key j i c hi e.symm

def lagL (q : Int) (xs : List Int) (x : Int) : List Int := (List.range xs.length).map (lagC q xs x)
theorem lagL_len (q : Int) (xs : List Int) (x : Int) : (lagL q xs x).length = xs.length := by simp [lagL]
theorem lagC_bd {q : Int} (xs : List Int) (x : Int) (i : Nat) (h : 2 ≤ q) : 0 ≤ lagC q xs x i ∧ lagC q xs x i < q := ⟨Int.emod_nonneg _ (by omega), Int.emod_lt_of_pos _ (by omega)⟩
theorem lagL_all {q : Int} (xs : List Int) (x : Int) (h : 2 ≤ q) : ((lagL q xs x).all fun z => inB z 0 (q - 1)) = true := by
  rw [List.all_eq_true]
  intro z hz
  obtain ⟨i, _, rfl⟩ := List.mem_map.1 hz
  obtain ⟨a, b⟩ := lagC_bd (q := q) xs x i h
  exact inB_mk a (by omega)
theorem lag_first (q : Int) (xs : List Int) (x : Int) (k : Nat) : (List.range k).map (lagC q xs x) ++ [lagC q xs x k] = (List.range (k + 1)).map (lagC q xs x) := by simp [List.range_succ]
/-- points, at least one -/
def arP (q : Int) (xs : List Int) : Bool := polyB q xs && ptsB xs && decide (0 < xs.length)
theorem arP_of {q : Int} {xs : List Int} (h : arP q xs = true) : polyB q xs = true ∧ ptsB xs = true ∧ 0 < xs.length := by
  simp only [arP, Bool.and_eq_true, decide_eq_true_eq] at h
  exact ⟨h.1.1, h.1.2, h.2⟩
def lgM (q : Int) (xs : List Int) (x : Int) : List Int × Bool := if arP q xs && inB x 0 (q - 1) then (lagL q xs x, true) else ([], false)
theorem lgM_len (q : Int) (xs : List Int) (x : Int) : (lgM q xs x).1.length ≤ xs.length := by
  unfold lgM
  split
  · show (lagL q xs x).length ≤ _
    rw [lagL_len]
    exact Nat.le_refl _
  · simp

/-! ## the polynomial through points -/
theorem mulI_one (q c : Int) (f : List Int) : ∀ i, i ≤ f.length → ∀ j, j < f.length → (mulI q f [c] i).getD j 0 = if j < i then f.getD j 0 * c % q else 0
  | 0, _, j, hj => by
    rw [mulI, List.getD_eq_getElem?_getD, List.getElem?_replicate_of_lt (by simp; omega)]
    rfl
  | i + 1, hi, j, hj => by
    have e0 : mulI q f [c] (i + 1) = (mulI q f [c] i).set i (((mulI q f [c] i).getD i 0 + f.getD i 0 * c) % q) := rfl
    rw [e0]
    by_cases e : i = j
    · subst e
      rw [getD_set_same (by rw [mulI_len]; simp; omega), mulI_one q c f i (by omega) i hj, if_neg (by omega), if_pos (by omega), Int.zero_add]
    · rw [getD_set_ne e, mulI_one q c f i (by omega) j hj]
      by_cases h : j < i
      · rw [if_pos h, if_pos (by omega)]
      · rw [if_neg h, if_neg (by omega)]
theorem mulL_one {q c : Int} {f : List Int} {j : Nat} (hj : j < f.length) : (mulL q f [c]).getD j 0 = f.getD j 0 * c % q := by
  rw [mulL, if_neg (by simp; intro e; rw [e] at hj; simp at hj), mulI_one q c f f.length (Nat.le_refl _) j hj, if_pos hj]
/-- the polynomial of the other points, and what makes it 1 at point i -/
def othL (q : Int) (xs : List Int) (i : Nat) : List Int := rootK q (xs.eraseIdx i) (xs.length - 1)
def bakL (q : Int) (xs : List Int) (i : Nat) : Int := invM (evalP q (othL q xs i) (xs.getD i 0)) q
def wgtL (q : Int) (xs ys : List Int) (i : Nat) : List Int := mulL q (othL q xs i) [ys.getD i 0 * bakL q xs i % q]
def itK (q : Int) (xs ys : List Int) : Nat → List Int
  | 0 => List.replicate xs.length 0
  | i + 1 => addL q (itK q xs ys i) (wgtL q xs ys i)
theorem othL_len {q : Int} {xs : List Int} {i : Nat} (h : 0 < xs.length) : (othL q xs i).length = xs.length := by rw [othL, rootK_len]; omega
theorem wgtL_len {q : Int} {xs ys : List Int} {i : Nat} (h : 0 < xs.length) : (wgtL q xs ys i).length = xs.length := by
  rw [wgtL, mulL_len, othL_len h, if_neg (by simp only [List.length_singleton]; omega)]
  simp
theorem itK_len {q : Int} {xs ys : List Int} (h : 0 < xs.length) : ∀ i, (itK q xs ys i).length = xs.length
  | 0 => by simp [itK]
  | i + 1 => by rw [itK, addL_len, itK_len h i, wgtL_len h]; omega
theorem wgtL_res {q : Int} {xs ys : List Int} {i : Nat} (hq : 0 < q) : Res q (wgtL q xs ys i) := mulL_res hq
theorem itK_res {q : Int} {xs ys : List Int} (hq : 0 < q) (h : 0 < xs.length) : ∀ i, Res q (itK q xs ys i)
  | 0 => Res.zero _ hq
  | i + 1 => by
    rw [itK, addL_long (by rw [itK_len h, wgtL_len h]; exact Nat.le_refl _)]
    exact addK_res hq (itK_res hq h i) _
/-- what the program adds -/
def gL (q : Int) (xs ys : List Int) (i : Nat) : List Int := (basL q xs i).map fun c => c * ys.getD i 0 % q
theorem gL_eq {q : Int} {xs ys : List Int} {i : Nat} (h : i < xs.length) : gL q xs ys i = wgtL q xs ys i := by
  have hl : (basL q xs i).length = xs.length := basL_len h
  have h0 : 0 < xs.length := by omega
  apply ext_getD
  · rw [gL, List.length_map, hl, wgtL_len h0]
  intro j hj
  rw [gL, List.length_map, hl] at hj
  have e1 : (gL q xs ys i).getD j 0 = (basL q xs i).getD j 0 * ys.getD i 0 % q := by
    rw [gL, List.getD_eq_getElem?_getD, List.getElem?_map, List.getElem?_eq_getElem (by rw [hl]; exact hj), List.getD_eq_getElem?_getD (l := basL q xs i), List.getElem?_eq_getElem (by rw [hl]; exact hj)]
    rfl
  have e2 : (basL q xs i).getD j 0 = (othL q xs i).getD j 0 * bakL q xs i % q := mulL_one (by rw [← othL, othL_len h0]; exact hj)
  rw [e1, e2, wgtL, mulL_one (by rw [othL_len h0]; exact hj), mul_mod_l, mul_mod_r]
  congr 1
  rw [Int.mul_assoc, Int.mul_comm (bakL q xs i)]
theorem itK_step {q : Int} {xs ys : List Int} {i : Nat} (h : i < xs.length) : itK q xs ys (i + 1) = addK q (itK q xs ys i) (gL q xs ys i) xs.length := by
  have h0 : 0 < xs.length := by omega
  rw [itK, addL_long (by rw [itK_len h0, wgtL_len h0]; exact Nat.le_refl _), wgtL_len h0, gL_eq h]
def tabB (q : Int) (xs ys : List Int) : Bool := arP q xs && (ys.length == xs.length) && ys.all fun z => inB z 0 (q - 1)
theorem tabB_of {q : Int} {xs ys : List Int} (h : tabB q xs ys = true) : arP q xs = true ∧ ys.length = xs.length ∧ (ys.all fun z => inB z 0 (q - 1)) = true := by
  simp only [tabB, Bool.and_eq_true, beq_iff_eq] at h
  exact ⟨h.1.1, h.1.2, h.2⟩
/-- the reference asks in another order -/
theorem tabB_spec (q : Int) (xs ys : List Int) : (polyB q xs && polyB q ys && ptsB xs && decide (0 < xs.length) && decide (xs.length = ys.length)) = tabB q xs ys := by
  unfold tabB arP polyB shortB
  by_cases e : xs.length = ys.length
  · have e' : (ys.length == xs.length) = true := by simp [e]
    rw [decide_eq_true e, e', e]
    cases fieldB q <;> cases decide (ys.length ≤ 24) <;> cases (xs.all fun z => inB z 0 (q - 1)) <;> cases (ys.all fun z => inB z 0 (q - 1)) <;> cases ptsB xs <;> cases decide (0 < ys.length) <;> rfl
  · have e' : (ys.length == xs.length) = false := by simp; omega
    rw [decide_eq_false e, e']
    simp
def vfM (q : Int) (xs ys : List Int) (x : Int) : Int × Bool := if tabB q xs ys && inB x 0 (q - 1) then (dotK (lagL q xs x) ys q xs.length, true) else (0, false)
def itM (q : Int) (xs ys : List Int) : List Int × Bool := if tabB q xs ys then (itK q xs ys xs.length, true) else ([], false)
theorem itM_len (q : Int) (xs ys : List Int) : (itM q xs ys).1.length ≤ xs.length := by
  unfold itM
  split
  · rename_i h
    obtain ⟨h1, _, _⟩ := tabB_of h
    show (itK q xs ys xs.length).length ≤ _
    rw [itK_len (arP_of h1).2.2]
    exact Nat.le_refl _
  · simp
end Go.Proofs.Yteeggmnkcgpfjaa
