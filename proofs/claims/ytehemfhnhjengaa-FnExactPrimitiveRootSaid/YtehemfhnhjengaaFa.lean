/- The plain law of FactorOf: trial division; what is listed are prime divisors. -/
import Derived.Test.YtehemfhnhjengaaPrime
namespace Go.Proofs.Ytehemfhnhjengaa

/-- a divisor taken out as often as it goes: what is left, how often -/
def stripN : Nat → Nat → Nat → Nat → Nat × Nat
  | 0, n, _, e => (n, e)
  | f + 1, n, d, e => if n % d = 0 then stripN f (n / d) d (e + 1) else (n, e)
theorem stripN_stop {f n d e : Nat} (h : n % d ≠ 0) : stripN f n d e = (n, e) := by
  cases f with
  | zero => rfl
  | succ f => rw [stripN, if_neg h]
theorem stripN_next {f n d e : Nat} (h : n % d = 0) : stripN (f + 1) n d e = stripN f (n / d) d (e + 1) := by rw [stripN, if_pos h]
theorem div_less {n d : Nat} (h1 : 1 ≤ n) (h2 : 2 ≤ d) (h : n % d = 0) : 1 ≤ n / d ∧ n / d < n ∧ n / d ∣ n := by
  have hm := Nat.div_add_mod n d
  rw [h, Nat.add_zero] at hm
  have h3 : 1 ≤ n / d := by
    rcases Nat.eq_zero_or_pos (n / d) with e | e
    · rw [e] at hm; omega
    · exact e
  refine ⟨h3, Nat.div_lt_self (by omega) (by omega), ⟨d, ?_⟩⟩
  rw [Nat.mul_comm]
  exact hm.symm
/-- what a strip leaves -/
structure Strip (n d e : Nat) (r : Nat × Nat) : Prop where
  pos : 1 ≤ r.1
  le : r.1 ≤ n
  dvd : r.1 ∣ n
  no : ¬ d ∣ r.1
  up : e ≤ r.2
  hit : e < r.2 → d ∣ n
theorem stripN_facts (d : Nat) (h2 : 2 ≤ d) : ∀ (f n e : Nat), 1 ≤ n → n ≤ f → Strip n d e (stripN f n d e) := by
  intro f
  induction f with
  | zero => intro n e h1 hf; omega
  | succ f ih =>
    intro n e h1 hf
    by_cases h : n % d = 0
    · obtain ⟨a, b, c⟩ := div_less h1 h2 h
      have H := ih (n / d) (e + 1) a (by omega)
      rw [stripN_next h]
      exact ⟨H.pos, Nat.le_trans H.le (by omega), Nat.dvd_trans H.dvd c, H.no, by have := H.up; omega, fun _ => Nat.dvd_of_mod_eq_zero h⟩
    · rw [stripN_stop h]
      exact ⟨h1, Nat.le_refl _, Nat.dvd_refl _, fun c => h (Nat.mod_eq_zero_of_dvd c), Nat.le_refl _, fun c => absurd c (Nat.lt_irrefl _)⟩

/-- what is left when no divisor up to the root is left -/
def tailN (n : Nat) : List (Nat × Nat) := if 1 < n then [(n, 1)] else []
/-- the prime divisors from d on, with their exponents -/
def facN : Nat → Nat → Nat → List (Nat × Nat)
  | 0, n, _ => tailN n
  | f + 1, n, d => if d * d ≤ n then (if 0 < (stripN n n d 0).2 then (d, (stripN n n d 0).2) :: facN f (stripN n n d 0).1 (d + 1) else facN f (stripN n n d 0).1 (d + 1)) else tailN n
theorem facN_out {f n d : Nat} (h : ¬ d * d ≤ n) : facN f n d = tailN n := by
  cases f with
  | zero => rfl
  | succ f => rw [facN, if_neg h]
theorem facN_hit {f n d r e : Nat} (h : d * d ≤ n) (hs : stripN n n d 0 = (r, e)) (he : 0 < e) : facN (f + 1) n d = (d, e) :: facN f r (d + 1) := by
  rw [facN, if_pos h, hs, if_pos he]
theorem facN_skip {f n d r e : Nat} (h : d * d ≤ n) (hs : stripN n n d 0 = (r, e)) (he : ¬ 0 < e) : facN (f + 1) n d = facN f r (d + 1) := by
  rw [facN, if_pos h, hs, if_neg he]
theorem tailN_len (n : Nat) : (tailN n).length ≤ 1 := by unfold tailN; split <;> simp
theorem facN_len : ∀ (f n d : Nat), (facN f n d).length ≤ f + 1 := by
  intro f
  induction f with
  | zero => intro n d; exact tailN_len n
  | succ f ih =>
    intro n d
    rw [facN]
    split
    · split
      · have := ih (stripN n n d 0).1 (d + 1)
        simp only [List.length_cons]
        omega
      · have := ih (stripN n n d 0).1 (d + 1)
        omega
    · have := tailN_len n
      omega
theorem facN_pr : ∀ (f n d : Nat), 1 ≤ n → 2 ≤ d → n + 1 ≤ f + d → (∀ c, 2 ≤ c → c < d → ¬ c ∣ n) → ∀ x ∈ facN f n d, NT.Pr x.1 ∧ x.1 ∣ n := by
  have tl : ∀ (n d : Nat), 1 ≤ n → 2 ≤ d → ¬ d * d ≤ n → (∀ c, 2 ≤ c → c < d → ¬ c ∣ n) → ∀ x ∈ tailN n, NT.Pr x.1 ∧ x.1 ∣ n := by
    intro n d h1 h2 h3 h4 x hx
    unfold tailN at hx
    split at hx
    · rename_i h5
      rw [List.mem_singleton] at hx
      subst hx
      refine ⟨(NT.pr_iff n).2 ⟨h5, fun c hc hcc hm => ?_⟩, Nat.dvd_refl _⟩
      refine h4 c hc ?_ (Nat.dvd_of_mod_eq_zero hm)
      rcases Nat.lt_or_ge c d with h6 | h6
      · exact h6
      · have := Nat.mul_le_mul h6 h6
        omega
    · cases hx
  intro f
  induction f with
  | zero =>
    intro n d h1 h2 h3 h4 x hx
    refine tl n d h1 h2 ?_ h4 x hx
    intro h5
    have : n < d := by omega
    have : d * 1 ≤ d * d := Nat.mul_le_mul_left d (by omega)
    omega
  | succ f ih =>
    intro n d h1 h2 h3 h4 x hx
    by_cases h5 : d * d ≤ n
    · have S := stripN_facts d h2 n n 0 h1 (Nat.le_refl _)
      generalize hs : stripN n n d 0 = re at S
      obtain ⟨r, e⟩ := re
      have h6 : ∀ c, 2 ≤ c → c < d + 1 → ¬ c ∣ r := by
        intro c hc hcd hcr
        rcases Nat.lt_or_ge c d with h7 | h7
        · exact h4 c hc h7 (Nat.dvd_trans hcr S.dvd)
        · have e7 : c = d := by omega
          subst e7
          exact S.no hcr
      have hr := S.le
      simp only at hr
      by_cases h7 : 0 < e
      · rw [facN_hit h5 hs h7] at hx
        rcases List.mem_cons.1 hx with h8 | h8
        · subst h8
          have hd := S.hit h7
          refine ⟨⟨h2, fun c hc hcd hcd2 => h4 c hc hcd (Nat.dvd_trans hcd2 hd)⟩, hd⟩
        · obtain ⟨a, b⟩ := ih r (d + 1) S.pos (by omega) (by omega) h6 x h8
          exact ⟨a, Nat.dvd_trans b S.dvd⟩
      · rw [facN_skip h5 hs h7] at hx
        obtain ⟨a, b⟩ := ih r (d + 1) S.pos (by omega) (by omega) h6 x hx
        exact ⟨a, Nat.dvd_trans b S.dvd⟩
    · rw [facN_out h5] at hx
      exact tl n d h1 h2 h5 h4 x hx

def toZ (l : List (Nat × Nat)) : List (Int × Int) := l.map fun c => ((c.1 : Int), (c.2 : Int))
theorem toZ_app (l l' : List (Nat × Nat)) : toZ (l ++ l') = toZ l ++ toZ l' := by simp [toZ]
theorem toZ_len (l : List (Nat × Nat)) : (toZ l).length = l.length := by simp [toZ]
def facF : Nat := 2000000001
/-- the factorisation of a number -/
def facL (n : Int) : List (Int × Int) := toZ (facN facF n.toNat 2)
def facM (n : Int) : List (Int × Int) × Bool := if inB n 1 2000000000 then (facL n, true) else ([], false)
theorem facM_len (n : Int) : (facM n).1.length ≤ 2000000002 := by
  unfold facM
  split
  · have := facN_len facF n.toNat 2
    show (toZ (facN facF n.toNat 2)).length ≤ 2000000002
    rw [toZ_len]
    exact this
  · simp
theorem facL_pr {n : Int} (h1 : 1 ≤ n) (h2 : n ≤ 2000000000) : ∀ x ∈ facL n, ∃ f : Nat, x.1 = (f : Int) ∧ NT.Pr f ∧ f ∣ n.toNat := by
  intro x hx
  obtain ⟨c, hc, rfl⟩ := List.mem_map.1 hx
  obtain ⟨a, b⟩ := facN_pr facF n.toNat 2 (by omega) (by omega) (by unfold facF; omega) (fun c h3 h4 => by omega) c hc
  exact ⟨c.1, rfl, a, b⟩
end Go.Proofs.Ytehemfhnhjengaa
