/- Plain number theory: the modular inverse, and the steps of the extended division algorithm. No program in sight. -/
import Derived.Test.YteeggmnkcgpfjaaNt
namespace Go.Proofs.Yteeggmnkcgpfjaa

/-- the inverse of a residue, 0 if there is none -/
def invM (a m : Int) : Int := if Int.gcd m a = 1 then (((List.range m.toNat).find? fun x : Nat => ((x : Int) * a % m == 1)).getD 0 : Nat) else 0

theorem invM_no {a m : Int} (h : Int.gcd m a ≠ 1) : invM a m = 0 := if_neg h
theorem inv_uniq {a m x y : Int} (hx0 : 0 ≤ x) (hxm : x < m) (hy0 : 0 ≤ y) (hym : y < m) (hx : x * a % m = 1) (hy : y * a % m = 1) : x = y := by
  have h1 : m ∣ x * a - y * a := Int.dvd_of_emod_eq_zero (Int.emod_eq_emod_iff_emod_sub_eq_zero.1 (hx.trans hy.symm))
  have h2 : m ∣ (x * a - y * a) * x := Int.dvd_mul_of_dvd_left h1 
  have e1 : (x * a - y * a) * x = (x - y) * (x * a) := by
    rw [← Int.sub_mul, Int.mul_assoc, Int.mul_comm a x]
  rw [e1] at h2
  have h3 : m ∣ x * a - 1 := by
    have : (x * a) % m = 1 % m := by
      rw [hx]
      exact (Int.emod_eq_of_lt (by omega) (by
        rcases Int.lt_or_le 1 m with h | h
        · exact h
        · exfalso
          have e : m = 1 := by omega
          subst e
          rw [Int.emod_one] at hx
          omega)).symm
    exact Int.dvd_of_emod_eq_zero (Int.emod_eq_emod_iff_emod_sub_eq_zero.1 this)
  have h4 : m ∣ (x - y) * (x * a - 1) := Int.dvd_mul_of_dvd_right h3 
  have h5 : m ∣ (x - y) * (x * a) - (x - y) * (x * a - 1) := Int.dvd_sub h2 h4
  rw [← Int.mul_sub, show x * a - (x * a - 1) = 1 from by omega, Int.mul_one] at h5
  have h6 := Int.emod_eq_zero_of_dvd h5
  rcases Int.lt_or_le (x - y) 0 with h | h
  · have : (x - y + m) % m = 0 := by rw [Int.add_emod_right]; exact h6
    rw [Int.emod_eq_of_lt (by omega) (by omega)] at this
    omega
  · rw [Int.emod_eq_of_lt h (by omega)] at h6
    omega

theorem invM_eq {a m x : Int} (hg : Int.gcd m a = 1) (h0 : 0 ≤ x) (hm : x < m) (hx : x * a % m = 1) : invM a m = x := by
  unfold invM
  rw [if_pos hg]
  obtain ⟨n, rfl⟩ := Int.eq_ofNat_of_zero_le h0
  cases hf : (List.range m.toNat).find? fun x : Nat => ((x : Int) * a % m == 1) with
  | none =>
    have := List.find?_eq_none.1 hf n (List.mem_range.2 (by omega))
    simp [hx] at this
  | some y =>
    have h1 := List.find?_some hf
    have h2 := List.mem_range.1 (List.mem_of_find?_eq_some hf)
    simp only [beq_iff_eq] at h1
    have := inv_uniq (x := (y : Int)) (y := (n : Int)) (by omega) (by omega) h0 hm h1 hx
    simpa using this

/-- what holds at each step of the division algorithm -/
structure EInv (m a r n x o : Int) : Prop where
  r0 : 0 ≤ r
  n0 : 0 ≤ n
  x1 : -m ≤ x
  x2 : x ≤ m
  o1 : -m ≤ o
  o2 : o ≤ m
  r2 : r ≤ m
  n2 : n ≤ m
  sum : (0 ≤ x ∧ o ≤ 0 ∧ x * n - o * r = m) ∨ (x ≤ 0 ∧ 0 ≤ o ∧ o * r - x * n = m)
  cx : m ∣ x * a - r
  co : m ∣ o * a - n
  g : Int.gcd r n = Int.gcd m a

theorem mul_le_self {a b : Int} (ha : 0 ≤ a) (hb : 1 ≤ b) : a ≤ a * b := by
  have := Int.mul_le_mul_of_nonneg_left hb ha
  omega

theorem EInv.step {m a r n x o : Int} (h : EInv m a r n x o) (hn : 0 < n) : EInv m a n (r - r / n * n) o (x - r / n * o) := by
  have hq0 : 0 ≤ r / n := Int.ediv_nonneg h.r0 h.n0
  have hdm := Int.mul_ediv_add_emod r n
  have hmod0 := Int.emod_nonneg r (show n ≠ 0 by omega)
  have hmodlt := Int.emod_lt_of_pos r hn
  rw [Int.mul_comm] at hdm
  have hn' : r - r / n * n = r % n := by omega
  have hkey : (0 ≤ o ∧ x - r / n * o ≤ 0 ∧ o * (r - r / n * n) - (x - r / n * o) * n = m) ∨ (o ≤ 0 ∧ 0 ≤ x - r / n * o ∧ (x - r / n * o) * n - o * (r - r / n * n) = m) := by
    rcases h.sum with ⟨h1, h2, h3⟩ | ⟨h1, h2, h3⟩
    · right
      refine ⟨h2, ?_, ?_⟩
      · have : r / n * o ≤ 0 := Int.mul_nonpos_of_nonneg_of_nonpos hq0 h2
        omega
      · rw [← h3]
        simp only [Int.sub_mul, Int.mul_sub]
        have : r / n * o * n = o * (r / n * n) := by simp only [Int.mul_comm, Int.mul_left_comm]
        omega
    · left
      refine ⟨h2, ?_, ?_⟩
      · have : 0 ≤ r / n * o := Int.mul_nonneg hq0 h2
        omega
      · rw [← h3]
        simp only [Int.sub_mul, Int.mul_sub]
        have : r / n * o * n = o * (r / n * n) := by simp only [Int.mul_comm, Int.mul_left_comm]
        omega
  have hbd : -m ≤ x - r / n * o ∧ x - r / n * o ≤ m := by
    rcases hkey with ⟨h1, h2, h3⟩ | ⟨h1, h2, h3⟩
    · have e1 : 0 ≤ o * (r - r / n * n) := Int.mul_nonneg h1 (by omega)
      have e2 := mul_le_self (a := -(x - r / n * o)) (b := n) (by omega) (by omega)
      rw [Int.neg_mul] at e2
      have := h.r2
      have := h.r0
      omega
    · have e1 : 0 ≤ -o * (r - r / n * n) := Int.mul_nonneg (by omega) (by omega)
      rw [Int.neg_mul] at e1
      have e2 := mul_le_self (a := x - r / n * o) (b := n) (by omega) (by omega)
      have := h.r2
      have := h.r0
      omega
  refine ⟨h.n0, by omega, h.o1, h.o2, hbd.1, hbd.2, h.n2, by have := h.n2; omega, ?_, h.co, ?_, ?_⟩
  · rcases hkey with ⟨h1, h2, h3⟩ | ⟨h1, h2, h3⟩
    · exact .inl ⟨h1, h2, h3⟩
    · exact .inr ⟨h1, h2, h3⟩
  · have h1 := Int.dvd_sub h.cx (Int.dvd_mul_of_dvd_right (b := r / n) h.co)
    have e : (x - r / n * o) * a - (r - r / n * n) = x * a - r - r / n * (o * a - n) := by
      simp only [Int.sub_mul, Int.mul_sub, Int.mul_assoc]
      omega
    rw [e]
    exact h1
  · rw [← h.g, Int.gcd_comm r n]
    exact Int.gcd_sub_mul_right_right n r (r / n)

theorem EInv.prods {m a r n x o : Int} (h : EInv m a r n x o) (hn : 0 < n) :
    0 ≤ r / n * n ∧ r / n * n ≤ m ∧ -(2 * m) ≤ r / n * o ∧ r / n * o ≤ 2 * m := by
  have hs := h.step hn
  have h1 := hs.o1
  have h2 := hs.o2
  have h3 := h.x1
  have h4 := h.x2
  have h5 := hs.n0
  have h6 : 0 ≤ r / n * n := Int.mul_nonneg (Int.ediv_nonneg h.r0 h.n0) h.n0
  have := h.r2
  omega

theorem EInv.done {m a r x o : Int} (h : EInv m a r 0 x o) (hm : 2 ≤ m) : (r = 1 → invM a m = x % m ∧ x % m ≠ 0 ∧ Int.gcd m a = 1) ∧ (r ≠ 1 → Int.gcd m a ≠ 1) := by
  have hg := h.g
  have hr := h.r0
  rw [Int.gcd_zero_right] at hg
  refine ⟨fun h1 => ?_, fun h1 h2 => ?_⟩
  · subst h1
    have hg' : Int.gcd m a = 1 := by rw [← hg]; rfl
    have hx : x % m * a % m = 1 := by
      have h2 : (x * a) % m = 1 % m := Int.emod_eq_emod_iff_emod_sub_eq_zero.2 (Int.emod_eq_zero_of_dvd h.cx)
      rw [Int.mul_emod, Int.emod_emod, ← Int.mul_emod, h2]
      exact Int.emod_eq_of_lt (by omega) (by omega)
    refine ⟨invM_eq hg' (Int.emod_nonneg _ (by omega)) (Int.emod_lt_of_pos _ (by omega)) hx, fun h0 => ?_, hg'⟩
    rw [h0] at hx
    simp at hx
  · rw [h2] at hg
    omega

/-- the algorithm, run to its end -/
theorem EInv.run {m a : Int} : ∀ (k : Nat) (r n x o : Int), n.toNat ≤ k → EInv m a r n x o → ∃ r x o, EInv m a r 0 x o
  | 0, r, n, x, o, hk, h => by
    have := h.n0
    have e : n = 0 := by omega
    subst e
    exact ⟨r, x, o, h⟩
  | k + 1, r, n, x, o, hk, h => by
    rcases Int.lt_or_le 0 n with hn | hn
    · have hs := h.step hn
      have h0 := hs.n0
      have hdm := Int.mul_ediv_add_emod r n
      have hmodlt := Int.emod_lt_of_pos r hn
      rw [Int.mul_comm] at hdm
      exact EInv.run k _ _ _ _ (by omega) hs
    · have := h.n0
      have e : n = 0 := by omega
      subst e
      exact ⟨r, x, o, h⟩

theorem EInv.start {m a : Int} (h0 : 0 ≤ a) (h1 : a < m) : EInv m a m a 0 1 :=
  ⟨by omega, h0, by omega, by omega, by omega, by omega, by omega, by omega, .inr ⟨by omega, by omega, by omega⟩, ⟨-1, by omega⟩, ⟨0, by omega⟩, rfl⟩
theorem EInv.start' {m a : Int} (h0 : 0 ≤ a) (h1 : a < m) : EInv m a a m 1 0 :=
  ⟨h0, by omega, by omega, by omega, by omega, by omega, by omega, by omega, .inl ⟨by omega, by omega, by omega⟩, ⟨0, by omega⟩, ⟨-1, by omega⟩, Int.gcd_comm a m⟩
theorem invM_facts {a m : Int} (h0 : 0 ≤ a) (h1 : a < m) (h2 : 2 ≤ m) (hg : Int.gcd m a = 1) : 0 ≤ invM a m ∧ invM a m < m ∧ invM a m * a % m = 1 ∧ invM a m ≠ 0 := by
  obtain ⟨r, x, o, h⟩ := EInv.run _ _ _ _ _ (Nat.le_refl _) (EInv.start h0 h1)
  have hr : r = 1 := by
    have := h.g
    have := h.r0
    rw [Int.gcd_zero_right, hg] at *
    omega
  obtain ⟨e, hne, _⟩ := (h.done h2).1 hr
  have hx : x % m * a % m = 1 := by
    have hc := h.cx
    rw [hr] at hc
    have h3 : (x * a) % m = 1 % m := Int.emod_eq_emod_iff_emod_sub_eq_zero.2 (Int.emod_eq_zero_of_dvd hc)
    rw [Int.mul_emod, Int.emod_emod, ← Int.mul_emod, h3]
    exact Int.emod_eq_of_lt (by omega) (by omega)
  rw [e]
  exact ⟨Int.emod_nonneg _ (by omega), Int.emod_lt_of_pos _ (by omega), hx, hne⟩
theorem invM_nz {a m : Int} (h2 : 2 ≤ m) (h0 : 0 ≤ a) (h1 : a < m) (hg : Int.gcd m a = 1) : invM a m ≠ 0 := (invM_facts h0 h1 h2 hg).2.2.2
end Go.Proofs.Yteeggmnkcgpfjaa
