/- The plain law of reading ciphertexts from a record. -/
import Derived.Test.YteeggmnkcgpfjaaEc
import Derived.Test.YteeggmnkcgpfjaaRd
namespace Go.Proofs.Yteeggmnkcgpfjaa
open Go.RowKit
set_option linter.unusedVariables false

def pairK (zs : List Int) (k : Nat) : List (Int × Int) := (List.range k).map fun j => (zs.getD (1 + 2 * j) 0, zs.getD (2 + 2 * j) 0)
theorem pairK_len (zs : List Int) (k : Nat) : (pairK zs k).length = k := by simp [pairK]
theorem pairK_succ (zs : List Int) (k : Nat) : pairK zs (k + 1) = pairK zs k ++ [(zs.getD (1 + 2 * k) 0, zs.getD (2 + 2 * k) 0)] := by simp [pairK, List.range_succ]
theorem pairK_flat {zs : List Int} : ∀ {k : Nat}, 1 + 2 * k ≤ zs.length → flatC (pairK zs k) = (zs.drop 1).take (2 * k)
  | 0, _ => by simp [pairK, flatC]
  | k + 1, h => by
    have h1 : 2 * k < (zs.drop 1).length := by rw [List.length_drop]; omega
    have h2 : 2 * k + 1 < (zs.drop 1).length := by rw [List.length_drop]; omega
    have e1 : (zs.drop 1)[2 * k]'h1 = zs.getD (1 + 2 * k) 0 := by
      rw [List.getElem_drop, List.getD_eq_getElem?_getD, List.getElem?_eq_getElem (by omega)]
      rfl
    have e2 : (zs.drop 1)[2 * k + 1]'h2 = zs.getD (2 + 2 * k) 0 := by
      rw [List.getElem_drop, List.getD_eq_getElem?_getD, List.getElem?_eq_getElem (by omega)]
      simp only [Option.getD_some]
      congr 1
      omega
    have ih := pairK_flat (zs := zs) (k := k) (by omega)
    rw [show 2 * (k + 1) = 2 * k + 1 + 1 from by omega, List.take_succ_eq_append_getElem h2, List.take_succ_eq_append_getElem h1, e1, e2, ← ih, pairK_succ]
    simp [flatC]
theorem pairK_enc {zs : List Int} {m : Nat} (h : 1 + 2 * m = zs.length) (h0 : zs.headD 0 = (m : Int)) : encC (pairK zs m) = zs := by
  cases zs with
  | nil => simp at h
  | cons z t =>
    have h0' : z = (m : Int) := h0
    rw [encC, pairK_len, pairK_flat (by omega), h0']
    simp only [List.drop_one, List.tail_cons]
    rw [List.take_of_length_le (by simp at h; omega)]
def dcB (zs : List Int) : Bool := recB zs && decide ((zs.length : Int) = 1 + 2 * zs.headD 0)
def dcM (zs : List Int) : List (Int × Int) × Bool := if dcB zs then (pairK zs (zs.headD 0).toNat, true) else ([], false)
theorem dcM_len (zs : List Int) : (dcM zs).1.length ≤ zs.length := by
  unfold dcM
  split
  · rename_i h
    simp only [dcB, Bool.and_eq_true, decide_eq_true_eq] at h
    show (pairK zs (zs.headD 0).toNat).length ≤ _
    rw [pairK_len]
    omega
  · simp
theorem rec_head {zs : List Int} (h : recB zs = true) : 0 ≤ zs.headD 0 := by
  cases zs with
  | nil => simp
  | cons n t =>
    have := (recB_cons h).2.1
    exact (inB_true this).1
/-- how many ciphertexts the program reads -/
def dcN (zs : List Int) : Nat := (min (zs.headD 0) (zs.length : Int)).toNat
theorem dc_ends (zs : List Int) : (recB zs && decide (1 + 2 * dcN zs ≤ zs.length) && decide ((zs.drop (1 + 2 * dcN zs)).length = 0)) = dcB zs := by
  rw [dcB]
  cases h : recB zs
  · rfl
  · have h0 := rec_head h
    have e : (decide (1 + 2 * dcN zs ≤ zs.length) && decide ((zs.drop (1 + 2 * dcN zs)).length = 0)) = decide ((zs.length : Int) = 1 + 2 * zs.headD 0) := by
      rw [← Bool.decide_and, decide_eq_decide, List.length_drop]
      unfold dcN
      omega
    rw [Bool.true_and, Bool.true_and, e]
theorem dc_yes {zs : List Int} (h : dcB zs = true) : dcN zs = (zs.headD 0).toNat ∧ 1 + 2 * dcN zs = zs.length ∧ encC (pairK zs (dcN zs)) = zs ∧ recB zs = true := by
  have h1 := h
  simp only [dcB, Bool.and_eq_true, decide_eq_true_eq] at h1
  have h0 := rec_head h1.1
  have e : dcN zs = (zs.headD 0).toNat := by unfold dcN; omega
  have e2 : 1 + 2 * dcN zs = zs.length := by rw [e]; omega
  exact ⟨e, e2, pairK_enc e2 (by rw [e]; omega), h1.1⟩
theorem head_drop (zs : List Int) (i : Nat) : (zs.drop i).headD 0 = zs.getD i 0 := by
  rw [List.getD_eq_getElem?_getD, List.headD_eq_head?_getD, List.head?_drop]
theorem ok_drop (zs : List Int) (ok : Bool) (i : Nat) : (ok && decide (i ≤ zs.length) && decide (0 < (zs.drop i).length)) = (ok && decide (i + 1 ≤ zs.length)) := by
  rw [Bool.and_assoc, ← Bool.decide_and, List.length_drop]
  congr 1
  rw [decide_eq_decide]
  omega
theorem tail_drop' (zs : List Int) (i : Nat) : (zs.drop i).tail = zs.drop (i + 1) := by rw [List.tail_drop]
end Go.Proofs.Yteeggmnkcgpfjaa
