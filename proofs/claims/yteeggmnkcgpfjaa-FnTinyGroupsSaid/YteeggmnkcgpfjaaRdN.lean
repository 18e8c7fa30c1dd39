/- The plain law of reading lists behind their numbers of elements. -/
import Derived.Test.YteeggmnkcgpfjaaRc
import Derived.Laws.BytesArg
namespace Go.Proofs.Yteeggmnkcgpfjaa
open Go.RowKit
set_option linter.unusedVariables false

/-- a list taken from the front: the list, what is left, whether all went well -/
def takeL (zs : List Int) (ok : Bool) : List Int × List Int × Bool :=
  match zs with
  | [] => ([], [], false)
  | n :: t => if 0 ≤ n ∧ n ≤ t.length then (t.take n.toNat, t.drop n.toNat, ok) else ([], t, false)
theorem takeL_nil (ok : Bool) : takeL [] ok = ([], [], false) := rfl
theorem takeL_yes {n : Int} {t : List Int} (ok : Bool) (h1 : 0 ≤ n) (h2 : n ≤ t.length) : takeL (n :: t) ok = (t.take n.toNat, t.drop n.toNat, ok) := by
  show (if 0 ≤ n ∧ n ≤ t.length then (t.take n.toNat, t.drop n.toNat, ok) else ([], t, false)) = _
  rw [if_pos ⟨h1, h2⟩]
theorem takeL_no {n : Int} {t : List Int} (ok : Bool) (h : n < 0 ∨ (t.length : Int) < n) : takeL (n :: t) ok = ([], t, false) := by
  show (if 0 ≤ n ∧ n ≤ t.length then (t.take n.toNat, t.drop n.toNat, ok) else ([], t, false)) = _
  rw [if_neg (by omega)]
theorem takeL_len (zs : List Int) (ok : Bool) : (takeL zs ok).1.length ≤ zs.length ∧ (takeL zs ok).2.1.length ≤ zs.length := by
  cases zs with
  | nil => exact ⟨Nat.le_refl _, Nat.le_refl _⟩
  | cons n t =>
    by_cases h : 0 ≤ n ∧ n ≤ t.length
    · rw [takeL_yes ok h.1 h.2]
      simp
      omega
    · rw [takeL_no ok (by omega)]
      simp

/-! ## texts -/
def txB (zs : List Int) : Bool := decide (0 < zs.length) && decide (zs.length ≤ 400) && (zs.headD 0 == (zs.length : Int) - 1) && zs.tail.all fun z => inB z 0 255
def txM (zs : List Int) : ByteArray × Bool := if txB zs then (strOfNums zs.tail, true) else (⟨#[]⟩, false)
theorem recB_cons {n : Int} {t : List Int} (h : recB (n :: t) = true) : t.length ≤ 399 ∧ digB n = true ∧ ∀ z ∈ t, 0 ≤ z := by
  simp only [recB, Bool.and_eq_true, decide_eq_true_eq, digsB, List.all_cons] at h
  refine ⟨by have := h.1; simp at this; omega, h.2.1, fun z hz => ?_⟩
  exact (inB_true (List.all_eq_true.1 h.2.2 z hz)).1
/-- the program's way -/
theorem txM_big {zs : List Int} {z : Int} (hz : z ∈ (takeL zs (recB zs)).1) (h : 255 < z) : txM zs = (⟨#[]⟩, false) := by
  have e : txB zs = false := by
    rw [Bool.eq_false_iff]
    intro hb
    simp only [txB, Bool.and_eq_true] at hb
    cases zs with
    | nil => cases hz
    | cons n t =>
      have hz' : z ∈ t := by
        by_cases hh : 0 ≤ n ∧ n ≤ t.length
        · rw [takeL_yes _ hh.1 hh.2] at hz
          exact List.mem_of_mem_take hz
        · rw [takeL_no _ (by omega)] at hz
          cases hz
      have := (inB_true (List.all_eq_true.1 hb.2 z hz')).2
      omega
  rw [txM, e]
  rfl
theorem txM_bad {zs : List Int} (h : ((takeL zs (recB zs)).2.2 && decide ((takeL zs (recB zs)).2.1.length = 0)) = false) : txM zs = (⟨#[]⟩, false) := by
  have e : txB zs = false := by
    rw [Bool.eq_false_iff]
    intro hb
    simp only [txB, Bool.and_eq_true, decide_eq_true_eq, beq_iff_eq] at hb
    obtain ⟨⟨⟨h1, h2⟩, h3⟩, h4⟩ := hb
    cases zs with
    | nil => simp at h1
    | cons n t =>
      have hn : n = (t.length : Int) := by simpa using h3
      have hr : recB (n :: t) = true := by
        simp only [recB, Bool.and_eq_true, decide_eq_true_eq, digsB, List.all_cons]
        refine ⟨h2, inB_mk (by omega) (by simp at h2; omega), List.all_eq_true.2 fun z hz => ?_⟩
        have := inB_true (List.all_eq_true.1 h4 z hz)
        exact inB_mk (by omega) (by omega)
      rw [takeL_yes _ (by omega) (by omega), hr] at h
      simp [hn] at h
  rw [txM, e]
  rfl
theorem map_low {l : List Int} (h : ∀ z ∈ l, 0 ≤ z ∧ z ≤ 255) : l.map (fun z => z % 256) = l := by
  have : l.map (fun z => z % 256) = l.map id := List.map_congr_left fun z hz => by
    have := h z hz
    exact Int.emod_eq_of_lt (by omega) (by omega)
  rw [this, List.map_id]
theorem txM_yes {zs : List Int} (h0 : ∀ z ∈ (takeL zs (recB zs)).1, z ≤ 255) (h : ((takeL zs (recB zs)).2.2 && decide ((takeL zs (recB zs)).2.1.length = 0)) = true) :
    txM zs = (strOfNums ((takeL zs (recB zs)).1.map fun z => z % 256), true) := by
  cases zs with
  | nil => simp [takeL_nil] at h
  | cons n t =>
    by_cases hh : 0 ≤ n ∧ n ≤ t.length
    · rw [takeL_yes _ hh.1 hh.2] at h h0 ⊢
      simp only [Bool.and_eq_true, decide_eq_true_eq, List.length_drop] at h
      obtain ⟨h1, h2⟩ := h
      obtain ⟨r1, r2, r3⟩ := recB_cons h1
      have hn : n = (t.length : Int) := by omega
      have ht : t.take n.toNat = t := List.take_of_length_le (by omega)
      rw [ht] at h0 ⊢
      have hl : ∀ z ∈ t, 0 ≤ z ∧ z ≤ 255 := fun z hz => ⟨r3 z hz, h0 z hz⟩
      rw [map_low hl]
      have e : txB (n :: t) = true := by
        simp only [txB, Bool.and_eq_true, decide_eq_true_eq, beq_iff_eq]
        refine ⟨⟨⟨by simp, by simp; omega⟩, by simp; omega⟩, List.all_eq_true.2 fun z hz => inB_mk (hl z hz).1 (hl z hz).2⟩
      rw [txM, e]
      rfl
    · rw [takeL_no _ (by omega)] at h
      simp at h
theorem txM_len (zs : List Int) : True := trivial

/-! ## proofs -/
def prB (zs : List Int) : Bool := (takeL (takeL (takeL zs (recB zs)).2.1 (takeL zs (recB zs)).2.2).2.1 (takeL (takeL zs (recB zs)).2.1 (takeL zs (recB zs)).2.2).2.2).2.2 && decide ((takeL (takeL (takeL zs (recB zs)).2.1 (takeL zs (recB zs)).2.2).2.1 (takeL (takeL zs (recB zs)).2.1 (takeL zs (recB zs)).2.2).2.2).2.1.length = 0)
def prM (zs : List Int) : (List Int × List Int × List Int) × Bool :=
  if prB zs then (((takeL zs (recB zs)).1, (takeL (takeL zs (recB zs)).2.1 (takeL zs (recB zs)).2.2).1, (takeL (takeL (takeL zs (recB zs)).2.1 (takeL zs (recB zs)).2.2).2.1 (takeL (takeL zs (recB zs)).2.1 (takeL zs (recB zs)).2.2).2.2).1), true) else (([], [], []), false)
/-- the reference's way: a list from the front, the rest, whether there is one -/
def takeS (zs : List Int) : List Int × List Int × Bool := if (takeL zs true).2.2 then takeL zs true else ([], [], false)
theorem takeL_ok (zs : List Int) (ok : Bool) : (takeL zs ok).2.2 = (ok && (takeL zs true).2.2) ∧ (takeL zs ok).1 = (takeL zs true).1 ∧ (takeL zs ok).2.1 = (takeL zs true).2.1 := by
  cases zs with
  | nil => simp [takeL_nil]
  | cons n t =>
    by_cases hh : 0 ≤ n ∧ n ≤ t.length
    · rw [takeL_yes ok hh.1 hh.2, takeL_yes true hh.1 hh.2]
      simp
    · rw [takeL_no ok (by omega), takeL_no true (by omega)]
      simp
end Go.Proofs.Yteeggmnkcgpfjaa
