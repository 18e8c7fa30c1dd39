/- The plain law of Lagrange's coefficients: values of products, of polynomials of roots; the reference's products; no program in sight. -/
import Derived.Test.YteeggmnkcgpfjaaRoots
import Derived.Test.YteeggmnkcgpfjaaInv
import Derived.Test.YteeggmnkcgpfjaaAdd
namespace Go.Proofs.Yteeggmnkcgpfjaa
open Go.RowKit
set_option linter.unusedVariables false

/-- the value, with no modulus -/
def pev : List Int → Int → Int
  | [], _ => 0
  | a :: t, x => a + x * pev t x
theorem pev_append (x : Int) (b : List Int) : ∀ a : List Int, pev (a ++ b) x = pev a x + x ^ a.length * pev b x
  | [] => by simp [pev]
  | c :: t => by
    rw [List.cons_append, pev, pev_append x b t, pev, List.length_cons, Int.pow_succ]
    grind
theorem pev_set (x z : Int) : ∀ (l : List Int) (k : Nat), k < l.length → pev (l.set k z) x = pev l x + (z - l.getD k 0) * x ^ k
  | [], k, h => by simp at h
  | a :: t, 0, _ => by
    simp [pev]
    grind
  | a :: t, k + 1, h => by
    have ih := pev_set x z t k (by simpa using h)
    rw [List.set_cons_succ, pev, ih, pev, Int.pow_succ]
    rw [List.getD_cons_succ]
    grind
theorem pev_zero (x : Int) : ∀ n, pev (List.replicate n 0) x = 0
  | 0 => rfl
  | n + 1 => by rw [List.replicate_succ, pev, pev_zero x n]; simp
theorem pev_take_succ (x : Int) (l : List Int) (k : Nat) (h : k < l.length) : pev (l.take (k + 1)) x = pev (l.take k) x + l.getD k 0 * x ^ k := by
  rw [List.take_succ_eq_append_getElem h, pev_append, List.length_take, Nat.min_eq_left (by omega), List.getD_eq_getElem?_getD, List.getElem?_eq_getElem h]
  simp only [pev, Option.getD_some]
  grind

/-! ## equal modulo q -/
theorem mul_mod_r (a b q : Int) : a * (b % q) % q = a * b % q := by rw [Int.mul_emod, Int.emod_emod_of_dvd _ (Int.dvd_refl q), ← Int.mul_emod]
theorem mul_mod_l (a b q : Int) : (a % q) * b % q = a * b % q := by rw [Int.mul_emod, Int.emod_emod_of_dvd _ (Int.dvd_refl q), ← Int.mul_emod]
def EqM (q a b : Int) : Prop := a % q = b % q
theorem EqM.rfl' {q a : Int} : EqM q a a := rfl
theorem EqM.trans {q a b c : Int} (h : EqM q a b) (h' : EqM q b c) : EqM q a c := Eq.trans h h'
theorem EqM.symm {q a b : Int} (h : EqM q a b) : EqM q b a := Eq.symm h
theorem EqM.add {q a b c d : Int} (h : EqM q a b) (h' : EqM q c d) : EqM q (a + c) (b + d) := by
  unfold EqM at *
  rw [Int.add_emod, h, h', ← Int.add_emod]
theorem EqM.mul {q a b c d : Int} (h : EqM q a b) (h' : EqM q c d) : EqM q (a * c) (b * d) := by
  unfold EqM at *
  rw [Int.mul_emod, h, h', ← Int.mul_emod]
theorem EqM.sub {q a b c d : Int} (h : EqM q a b) (h' : EqM q c d) : EqM q (a - c) (b - d) := by
  unfold EqM at *
  rw [Int.sub_emod, h, h', ← Int.sub_emod]
theorem EqM.mod {q a : Int} : EqM q (a % q) a := Int.emod_emod_of_dvd a (Int.dvd_refl q)
theorem EqM.of_eq {q a b : Int} (h : a = b) : EqM q a b := congrArg (· % q) h

theorem hornK_pev (q : Int) (f : List Int) (x : Int) : ∀ k, k ≤ f.length → EqM q (hornK q f x k) (pev (f.drop (f.length - k)) x)
  | 0, _ => by
    rw [Nat.sub_zero, List.drop_length]
    exact EqM.rfl'
  | k + 1, h => by
    have ih := hornK_pev q f x k (by omega)
    have e : f.drop (f.length - (k + 1)) = f.getD (f.length - 1 - k) 0 :: f.drop (f.length - k) := by
      have h1 : f.length - (k + 1) < f.length := by omega
      rw [List.drop_eq_getElem_cons h1, show f.length - (k + 1) + 1 = f.length - k from by omega, List.getD_eq_getElem?_getD, show f.length - 1 - k = f.length - (k + 1) from by omega, List.getElem?_eq_getElem h1]
      rfl
    rw [e, pev]
    exact EqM.mod.trans (((ih.mul EqM.rfl').add EqM.rfl').trans (EqM.of_eq (by grind)))
theorem evalP_pev (q : Int) (f : List Int) (x : Int) (hq : 1 ≤ q) : evalP q f x = pev f x % q := by
  have h := hornK_pev q f x f.length (Nat.le_refl _)
  rw [Nat.sub_self, List.drop_zero] at h
  have hb := hornK_bd f x hq f.length
  unfold evalP
  rw [← Int.emod_eq_of_lt hb.1 hb.2]
  exact h

theorem mulJ_pev (q a x : Int) (g row : List Int) (i : Nat) (hrow : i + g.length ≤ row.length) : ∀ j, j ≤ g.length → EqM q (pev (mulJ q a g row i j) x) (pev row x + a * x ^ i * pev (g.take j) x)
  | 0, _ => EqM.of_eq (by simp [mulJ, pev])
  | j + 1, hj => by
    have ih := mulJ_pev q a x g row i hrow j (by omega)
    rw [mulJ, pev_set _ _ _ _ (by rw [mulJ_len]; omega), pev_take_succ x g j (by omega)]
    have h2 : EqM q (((mulJ q a g row i j).getD (i + j) 0 + a * g.getD j 0) % q - (mulJ q a g row i j).getD (i + j) 0) (a * g.getD j 0) :=
      (EqM.mod.sub EqM.rfl').trans (EqM.of_eq (by omega))
    refine ((ih.add (h2.mul EqM.rfl')).trans (EqM.of_eq ?_))
    rw [Int.pow_add]
    grind
theorem mulI_pev (q x : Int) (f g : List Int) (hf : 0 < f.length) (hg : 0 < g.length) : ∀ i, i ≤ f.length → EqM q (pev (mulI q f g i) x) (pev (f.take i) x * pev g x)
  | 0, _ => EqM.of_eq (by simp [mulI, pev, pev_zero])
  | i + 1, hi => by
    have ih := mulI_pev q x f g hf hg i (by omega)
    have h1 := mulJ_pev q (f.getD i 0) x g (mulI q f g i) i (by rw [mulI_len]; omega) g.length (Nat.le_refl _)
    rw [mulI, pev_take_succ x f i (by omega)]
    refine h1.trans ((ih.add EqM.rfl').trans (EqM.of_eq ?_))
    rw [List.take_of_length_le (Nat.le_refl _)]
    grind
theorem mulL_ev (q x : Int) (f g : List Int) (hq : 1 ≤ q) (hf : 0 < f.length) (hg : 0 < g.length) : evalP q (mulL q f g) x = evalP q f x * (pev g x % q) % q := by
  have h := mulI_pev q x f g hf hg f.length (Nat.le_refl _)
  rw [List.take_of_length_le (Nat.le_refl _)] at h
  rw [evalP_pev _ _ _ hq, evalP_pev _ _ _ hq, mulL, if_neg (by omega), ← Int.mul_emod]
  exact h

/-- the product of x - r -/
def linK (q : Int) (rs : List Int) (x : Int) : Nat → Int
  | 0 => 1
  | k + 1 => linK q rs x k * ((x - rs.getD k 0) % q) % q
theorem linK_bd {q : Int} (rs : List Int) (x : Int) (hq : 2 ≤ q) : ∀ k, 0 ≤ linK q rs x k ∧ linK q rs x k < q
  | 0 => by simp [linK]; omega
  | k + 1 => ⟨Int.emod_nonneg _ (by omega), Int.emod_lt_of_pos _ (by omega)⟩
theorem root_ev (q x : Int) (rs : List Int) (hq : 2 ≤ q) : ∀ k, evalP q (rootK q rs k) x = linK q rs x k
  | 0 => by
    rw [evalP_pev _ _ _ (by omega)]
    show (1 + x * 0) % q = 1
    rw [Int.mul_zero, Int.add_zero, Int.emod_eq_of_lt (by omega) (by omega)]
  | k + 1 => by
    rw [rootK, mulL_ev _ _ _ _ (by omega) (by rw [rootK_len]; omega) (by simp), root_ev q x rs hq k, linK]
    have e : pev [(-(rs.getD k 0)) % q, 1] x % q = (x - rs.getD k 0) % q := by
      show ((-(rs.getD k 0)) % q + x * (1 + x * 0)) % q = _
      rw [Int.mul_zero, Int.add_zero, Int.mul_one, Int.emod_add_emod]
      congr 1
      omega
    rw [e]
/-- the reference's product, which leaves out place i -/
def upK (q : Int) (xs : List Int) (i : Nat) (x : Int) : Nat → Int
  | 0 => 1
  | k + 1 => if k = i then upK q xs i x k else upK q xs i x k * ((x - xs.getD k 0) % q) % q
theorem upK_bd {q : Int} (xs : List Int) (i : Nat) (x : Int) (hq : 2 ≤ q) : ∀ k, 0 ≤ upK q xs i x k ∧ upK q xs i x k < q
  | 0 => by simp [upK]; omega
  | k + 1 => by
    unfold upK
    split
    · exact upK_bd xs i x hq k
    · exact ⟨Int.emod_nonneg _ (by omega), Int.emod_lt_of_pos _ (by omega)⟩
theorem erase_get (xs : List Int) (i j : Nat) : (xs.eraseIdx i).getD j 0 = if j < i then xs.getD j 0 else xs.getD (j + 1) 0 := by
  rw [List.getD_eq_getElem?_getD, List.getElem?_eraseIdx]
  split <;> rw [List.getD_eq_getElem?_getD]
theorem upK_low (q : Int) (xs : List Int) (i : Nat) (x : Int) : ∀ k, k ≤ i → upK q xs i x k = linK q (xs.eraseIdx i) x k
  | 0, _ => rfl
  | k + 1, h => by
    rw [upK, if_neg (by omega), linK, upK_low q xs i x k (by omega), erase_get, if_pos (by omega)]
theorem upK_high (q : Int) (xs : List Int) (i : Nat) (x : Int) : ∀ k, i ≤ k → upK q xs i x (k + 1) = linK q (xs.eraseIdx i) x k
  | 0, h => by
    have : i = 0 := by omega
    subst this
    rfl
  | k + 1, h => by
    rcases Nat.lt_or_ge k i with h1 | h1
    · have : i = k + 1 := by omega
      subst this
      rw [upK, if_pos rfl, upK_low q xs (k + 1) x (k + 1) (Nat.le_refl _)]
    · rw [upK, if_neg (by omega), upK_high q xs i x k h1, linK, erase_get, if_neg (by omega)]

theorem linK_nz {q : Int} (hq : primeB q = true) (h2 : 2 ≤ q) (rs : List Int) (a : Int) : ∀ k, (∀ j, j < k → ¬ q ∣ a - rs.getD j 0) → ¬ q ∣ linK q rs a k
  | 0, _ => by
    intro h
    have := Int.le_of_dvd (by simp [linK]) h
    simp [linK] at this
    omega
  | k + 1, h => by
    intro hd
    have hp := (primeB_iff q).1 hq
    have e : ((q.toNat : Nat) : Int) = q := by omega
    have h1 : q ∣ linK q rs a k * ((a - rs.getD k 0) % q) := by
      apply Int.dvd_of_emod_eq_zero
      have := Int.emod_eq_zero_of_dvd hd
      rwa [linK, Int.emod_emod_of_dvd _ (Int.dvd_refl q)] at this
    rw [← e] at h1
    rcases NT.euclid_int hp h1 with h3 | h3
    · rw [e] at h3
      exact linK_nz hq h2 rs a k (fun j hj => h j (by omega)) h3
    · rw [e] at h3
      refine h k (by omega) ?_
      apply Int.dvd_of_emod_eq_zero
      have := Int.emod_eq_zero_of_dvd h3
      rwa [Int.emod_emod_of_dvd _ (Int.dvd_refl q)] at this
theorem gcd_one {q d : Int} (hq : primeB q = true) (h2 : 2 ≤ q) (hd : ¬ q ∣ d) : Int.gcd q d = 1 := by
  have hp := (primeB_iff q).1 hq
  have e : q.natAbs = q.toNat := by omega
  unfold Int.gcd
  rw [e]
  refine NT.pr_coprime hp ?_
  intro h
  apply hd
  rw [← Int.natAbs_dvd_natAbs, e]
  exact h
/-- points -/
def diffB (xs : List Int) : Prop := ∀ i j, i < xs.length → j < xs.length → i ≠ j → xs.getD i 0 ≠ xs.getD j 0
theorem not_dvd_diff {q a b : Int} (ha : 0 ≤ a ∧ a < q) (hb : 0 ≤ b ∧ b < q) (h : a ≠ b) : ¬ q ∣ a - b := by
  intro hd
  have h0 := Int.emod_eq_zero_of_dvd hd
  rcases Int.lt_or_le (a - b) 0 with h1 | h1
  · rw [← Int.add_emod_right, Int.emod_eq_of_lt (by omega) (by omega)] at h0
    omega
  · rw [Int.emod_eq_of_lt h1 (by omega)] at h0
    omega
theorem erase_len (xs : List Int) (i : Nat) (h : i < xs.length) : (xs.eraseIdx i).length = xs.length - 1 := by rw [List.length_eraseIdx, if_pos h]
theorem down_nz {q : Int} {xs : List Int} (hq : primeB q = true) (h2 : 2 ≤ q) (hr : Res q xs) (hd : diffB xs) {i : Nat} (hi : i < xs.length) : ¬ q ∣ linK q (xs.eraseIdx i) (xs.getD i 0) (xs.length - 1) := by
  refine linK_nz hq h2 _ _ _ fun j hj => ?_
  rw [erase_get]
  by_cases h : j < i
  · rw [if_pos h]
    exact not_dvd_diff (hr i hi) (hr j (by omega)) (hd i j hi (by omega) (by omega))
  · rw [if_neg h]
    exact not_dvd_diff (hr i hi) (hr (j + 1) (by omega)) (hd i (j + 1) hi (by omega) (by omega))
/-- the coefficient of point i at x -/
def lagC (q : Int) (xs : List Int) (x : Int) (i : Nat) : Int := upK q xs i x xs.length * invM (upK q xs i (xs.getD i 0) xs.length) q % q
/-- the basis polynomial of point i -/
def basL (q : Int) (xs : List Int) (i : Nat) : List Int :=
  mulL q (rootK q (xs.eraseIdx i) (xs.length - 1)) [invM (evalP q (rootK q (xs.eraseIdx i) (xs.length - 1)) (xs.getD i 0)) q]
theorem upK_all {q : Int} {xs : List Int} {i : Nat} (x : Int) (hi : i < xs.length) : upK q xs i x xs.length = linK q (xs.eraseIdx i) x (xs.length - 1) := by
  have := upK_high q xs i x (xs.length - 1) (by omega)
  rwa [show xs.length - 1 + 1 = xs.length from by omega] at this
theorem basL_ev {q : Int} {xs : List Int} (h2 : 2 ≤ q) {i : Nat} (hi : i < xs.length) (x : Int) : evalP q (basL q xs i) x = lagC q xs x i := by
  unfold basL lagC
  rw [mulL_ev _ _ _ _ (by omega) (by rw [rootK_len]; omega) (by simp), root_ev _ _ _ h2, root_ev _ _ _ h2, upK_all x hi, upK_all _ hi]
  show _ * ((_ + x * 0) % q) % q = _
  rw [Int.mul_zero, Int.add_zero, mul_mod_r]
theorem basL_len {q : Int} {xs : List Int} {i : Nat} (hi : i < xs.length) : (basL q xs i).length = xs.length := by
  unfold basL
  rw [mulL_len, rootK_len]
  simp
  omega
theorem getD_range (n j : Nat) (g : Nat → Int) (h : j < n) : ((List.range n).map g).getD j 0 = g j := by
  rw [List.getD_eq_getElem?_getD, List.getElem?_map, List.getElem?_range h]
  rfl
end Go.Proofs.Yteeggmnkcgpfjaa
