/- The plain law of a group's elements: the powers of the generator, in increasing order. -/
import Derived.Test.YteeggmnkcgpfjaaGr2
namespace Go.Proofs.Yteeggmnkcgpfjaa
open Go.RowKit
set_option linter.unusedVariables false

/-- where a number belongs in an increasing list -/
def cutI (l : List Int) (n : Int) : Nat := (l.takeWhile fun x => decide (x < n)).length
def insI (l : List Int) (n : Int) : List Int := l.take (cutI l n) ++ n :: l.drop (cutI l n)
theorem cutI_le (l : List Int) (n : Int) : cutI l n ≤ l.length := (List.takeWhile_prefix _).length_le
theorem cutI_eq : ∀ {l : List Int} {n : Int} {k : Nat}, k ≤ l.length → (∀ j, j < k → l.getD j 0 < n) → (k < l.length → ¬ l.getD k 0 < n) → cutI l n = k
  | [], n, k, hk, _, _ => by simp at hk; subst hk; rfl
  | x :: t, n, 0, _, _, h => by
    have h0 : ¬ x < n := by simpa using h (by simp)
    simp [cutI, h0]
  | x :: t, n, k + 1, hk, h1, h2 => by
    have h0 : x < n := by simpa using h1 0 (by omega)
    have := cutI_eq (l := t) (n := n) (k := k) (by simpa using hk) (fun j hj => by simpa using h1 (j + 1) (by omega)) (fun hk' => by simpa using h2 (by simpa using hk'))
    have e : cutI (x :: t) n = cutI t n + 1 := by simp [cutI, h0]
    rw [e, this]
theorem insI_len (l : List Int) (n : Int) : (insI l n).length = l.length + 1 := by
  have := cutI_le l n
  simp [insI]
  omega
theorem insI_perm (l : List Int) (n : Int) : (insI l n).Perm (n :: l) := by
  have h : (l.take (cutI l n) ++ n :: l.drop (cutI l n)).Perm (n :: (l.take (cutI l n) ++ l.drop (cutI l n))) := List.perm_middle
  rw [List.take_append_drop] at h
  exact h
theorem insI_cons {x n : Int} {t : List Int} (h : x < n) : insI (x :: t) n = x :: insI t n := by
  have e : cutI (x :: t) n = cutI t n + 1 := by simp [cutI, h]
  simp [insI, e]
theorem insI_head {x n : Int} {t : List Int} (h : ¬ x < n) : insI (x :: t) n = n :: x :: t := by
  have e : cutI (x :: t) n = 0 := by simp [cutI, h]
  simp [insI, e]
theorem insI_sorted : ∀ {l : List Int} {n : Int}, l.Pairwise (· < ·) → n ∉ l → (insI l n).Pairwise (· < ·)
  | [], n, _, _ => by simp [insI, cutI]
  | x :: t, n, h, hn => by
    rw [List.pairwise_cons] at h
    simp only [List.mem_cons, not_or] at hn
    by_cases c : x < n
    · rw [insI_cons c, List.pairwise_cons]
      refine ⟨fun y hy => ?_, insI_sorted h.2 hn.2⟩
      have := (insI_perm t n).mem_iff.1 hy
      rcases List.mem_cons.1 this with e | e
      · omega
      · exact h.1 y e
    · rw [insI_head c, List.pairwise_cons]
      refine ⟨fun y hy => ?_, List.pairwise_cons.2 h⟩
      rcases List.mem_cons.1 hy with e | e
      · omega
      · have := h.1 y e; omega
/-- the powers of the generator, as they come -/
def pwsL (p q g : Int) (k : Nat) : List Int := (List.range k).map fun e : Nat => gpow p q g (e : Int)
theorem pwsL_len (p q g : Int) (k : Nat) : (pwsL p q g k).length = k := by simp [pwsL]
theorem pwsL_succ (p q g : Int) (k : Nat) : pwsL p q g (k + 1) = pwsL p q g k ++ [gpow p q g (k : Int)] := by simp [pwsL, List.range_succ]
/-- the powers of the generator, put in their places one by one -/
def eoK (p q g : Int) : Nat → List Int
  | 0 => []
  | k + 1 => insI (eoK p q g k) (gpow p q g (k : Int))
theorem eoK_perm (p q g : Int) : ∀ k, (eoK p q g k).Perm (pwsL p q g k)
  | 0 => List.Perm.refl _
  | k + 1 => by
    rw [eoK, pwsL_succ]
    refine (insI_perm _ _).trans (((eoK_perm p q g k).cons _).trans ?_)
    exact (List.perm_append_singleton _ _).symm
theorem eoK_len (p q g : Int) (k : Nat) : (eoK p q g k).length = k := by rw [(eoK_perm p q g k).length_eq, pwsL_len]
theorem gpow_small {p q g : Int} {e : Nat} (h : (e : Int) < q) : gpow p q g (e : Int) = pw g (e : Int) p := by
  rw [gpow, Int.emod_eq_of_lt (by omega) h]
theorem good_inj {p q g : Int} (h : goodB p q g = true) {i j : Nat} (hij : i < j) (hj : (j : Int) < q) : gpow p q g (i : Int) ≠ gpow p q g (j : Int) := by
  simp only [goodB, Bool.and_eq_true] at h
  obtain ⟨⟨⟨⟨⟨⟨h1, h2⟩, h3⟩, h4⟩, h5⟩, h6⟩, h7⟩ := h
  have p1 := inB_true h1
  have q1 := inB_true h2
  have g1 := inB_true h4
  rw [gpow_small (by omega), gpow_small hj]
  rw [beq_iff_eq] at h7
  unfold pw at h7 ⊢
  have hq : NT.Pr q.toNat := (primeB_iff q).1 h6
  have e1 : g.toNat ^ q.toNat % p.toNat = 1 := by omega
  have e2 : g.toNat % p.toNat ≠ 1 := by rw [Nat.mod_eq_of_lt (by omega)]; omega
  have := NT.pow_inj (show 2 ≤ p.toNat by omega) hq e1 e2 hij (by omega)
  simp only [Int.toNat_natCast]
  omega
theorem eoK_new {p q g : Int} (h : goodB p q g = true) {k : Nat} (hk : (k : Int) < q) : gpow p q g (k : Int) ∉ eoK p q g k := by
  intro hm
  have := (eoK_perm p q g k).mem_iff.1 hm
  obtain ⟨i, hi, e⟩ := List.mem_map.1 this
  exact good_inj h (List.mem_range.1 hi) hk e
theorem eoK_sorted {p q g : Int} (h : goodB p q g = true) : ∀ k : Nat, (k : Int) ≤ q → (eoK p q g k).Pairwise (· < ·)
  | 0, _ => List.Pairwise.nil
  | k + 1, hk => insI_sorted (eoK_sorted h k (by omega)) (eoK_new h (by omega))
/-- the sorted powers -/
theorem pws_sorted {p q g : Int} (h : goodB p q g = true) {k : Nat} (hk : (k : Int) ≤ q) : ((pwsL p q g k).mergeSort fun x y => decide (x ≤ y)) = eoK p q g k := by
  have hp : ((pwsL p q g k).mergeSort fun x y => decide (x ≤ y)).Perm (eoK p q g k) := (List.mergeSort_perm _ _).trans (eoK_perm p q g k).symm
  have hs : ((pwsL p q g k).mergeSort fun x y => decide (x ≤ y)).Pairwise (· ≤ ·) := by
    have := List.pairwise_mergeSort (le := fun x y : Int => decide (x ≤ y)) (by intro a b c; simp; omega) (by intro a b; simp; omega) (pwsL p q g k)
    exact this.imp (by intro a b h; simpa using h)
  have hs2 : (eoK p q g k).Pairwise (· ≤ ·) := (eoK_sorted h k hk).imp (by intro a b h; omega)
  exact List.Perm.eq_of_pairwise (fun a b _ _ h1 h2 => Int.le_antisymm h1 h2) hs hs2 hp
/-- the program multiplies on -/
theorem pw_next {p g : Int} {k : Nat} (g0 : 0 ≤ g) (p2 : 2 ≤ p) : mulK p [pw g (k : Int) p, g] 2 = pw g ((k + 1 : Nat) : Int) p := by
  have hb := pw_bd (m := p) (a := g) (e := (k : Int)) (by omega)
  rw [mul2 hb.1 hb.2]
  unfold pw
  obtain ⟨a, rfl⟩ := Int.eq_ofNat_of_zero_le g0
  obtain ⟨m, rfl⟩ := Int.eq_ofNat_of_zero_le (show 0 ≤ p by omega)
  simp only [Int.toNat_natCast]
  rw [Nat.pow_succ]
  have e : ((a ^ k % m : Nat) : Int) * (a : Int) % (m : Int) = (((a ^ k % m) * a % m : Nat) : Int) := by simp only [Int.natCast_emod, Int.natCast_mul]
  rw [e, Nat.mod_mul_mod]
def eoB (p q g : Int) : Bool := goodB p q g && decide (q ≤ 2000)
def eoM (p q g : Int) : List Int × Bool := if eoB p q g then (eoK p q g q.toNat, true) else ([], false)
theorem eoM_len (p q g : Int) : (eoM p q g).1.length ≤ 2000 := by
  unfold eoM
  split
  · rename_i h
    simp only [eoB, Bool.and_eq_true, decide_eq_true_eq] at h
    show (eoK p q g q.toNat).length ≤ _
    rw [eoK_len]
    omega
  · simp
end Go.Proofs.Yteeggmnkcgpfjaa
