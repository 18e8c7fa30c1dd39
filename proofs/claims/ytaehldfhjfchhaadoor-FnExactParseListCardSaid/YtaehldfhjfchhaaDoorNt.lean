/- Plain number theory: primes by trial division, powers modulo a prime, Fermat's little theorem, the bound on the roots of a polynomial modulo a prime, primitive roots. No program in sight. -/
namespace Go.Proofs.YtaehldfhjfchhaaDoor.NT

/-- a prime -/
def Pr (n : Nat) : Prop := 2 ≤ n ∧ ∀ d, 2 ≤ d → d < n → ¬ d ∣ n

theorem pr_dvd {p d : Nat} (h : Pr p) (hd : d ∣ p) : d = 1 ∨ d = p := by
  obtain ⟨h2, h⟩ := h
  have hle := Nat.le_of_dvd (by omega) hd
  rcases Nat.lt_or_ge d 2 with h1 | h1
  · left
    have : d ≠ 0 := by
      rintro rfl
      have := Nat.eq_zero_of_zero_dvd hd
      omega
    omega
  · right
    rcases Nat.lt_or_ge d p with h3 | h3
    · exact absurd hd (h d h1 h3)
    · omega

theorem pr_coprime {p a : Nat} (h : Pr p) (ha : ¬ p ∣ a) : Nat.Coprime p a := by
  have hg := Nat.gcd_dvd_left p a
  rcases pr_dvd h hg with h1 | h1
  · exact h1
  · exact absurd (h1 ▸ Nat.gcd_dvd_right p a) ha

theorem euclid {p a b : Nat} (h : Pr p) (hab : p ∣ a * b) : p ∣ a ∨ p ∣ b := by
  by_cases ha : p ∣ a
  · exact .inl ha
  · exact .inr ((pr_coprime h ha).dvd_of_dvd_mul_left hab)

theorem euclid_pow {p a : Nat} (h : Pr p) : ∀ {n : Nat}, p ∣ a ^ n → p ∣ a
  | 0, hd => by
    have := Nat.le_of_dvd (by simp) hd
    have := h.1
    simp at *
    omega
  | n + 1, hd => by
    rw [Nat.pow_succ] at hd
    rcases euclid h hd with h1 | h1
    · exact euclid_pow h h1
    · exact h1

theorem euclid_int {p : Nat} {a b : Int} (h : Pr p) (hab : (p : Int) ∣ a * b) : (p : Int) ∣ a ∨ (p : Int) ∣ b := by
  rw [Int.ofNat_dvd_left, Int.natAbs_mul] at hab
  rw [Int.ofNat_dvd_left, Int.ofNat_dvd_left]
  exact euclid h hab

/-- trial division up to the root -/
theorem pr_iff (n : Nat) : Pr n ↔ 2 ≤ n ∧ ∀ d, 2 ≤ d → d * d ≤ n → n % d ≠ 0 := by
  constructor
  · rintro ⟨h2, h⟩
    refine ⟨h2, fun d hd hdd hm => ?_⟩
    have hlt : d < n := by
      have : d * 2 ≤ d * d := Nat.mul_le_mul_left d hd
      omega
    exact h d hd hlt (Nat.dvd_of_mod_eq_zero hm)
  · rintro ⟨h2, h⟩
    refine ⟨h2, fun d hd hlt hdv => ?_⟩
    obtain ⟨c, rfl⟩ := hdv
    have hc2 : 2 ≤ c := by
      rcases Nat.lt_or_ge c 2 with h1 | h1
      · have : c = 0 ∨ c = 1 := by omega
        rcases this with rfl | rfl <;> simp at hlt h2
      · exact h1
    rcases Nat.le_total d c with h1 | h1
    · exact h d hd (Nat.mul_le_mul_left d h1) (Nat.mul_mod_right d c)
    · exact h c hc2 (Nat.mul_le_mul_right c h1) (Nat.mul_mod_left d c)

/-- every number from two on has a prime divisor -/
theorem exists_prime : ∀ (n : Nat), 2 ≤ n → ∃ f, Pr f ∧ f ∣ n := by
  intro n
  induction n using Nat.strongRecOn with
  | ind n ih =>
    intro h2
    by_cases hp : Pr n
    · exact ⟨n, hp, Nat.dvd_refl n⟩
    · have : ∃ d, 2 ≤ d ∧ d < n ∧ d ∣ n := by
        apply Classical.byContradiction
        intro hno
        exact hp ⟨h2, fun d hd hlt hdv => hno ⟨d, hd, hlt, hdv⟩⟩
      obtain ⟨d, hd, hlt, hdv⟩ := this
      obtain ⟨f, hf, hfd⟩ := ih d hlt hd
      exact ⟨f, hf, Nat.dvd_trans hfd hdv⟩

/-- a power of f, and a rest that f does not divide -/
theorem exists_split (f : Nat) (hf : 2 ≤ f) : ∀ (n : Nat), 1 ≤ n → ∃ k m, n = f ^ k * m ∧ ¬ f ∣ m := by
  intro n
  induction n using Nat.strongRecOn with
  | ind n ih =>
    intro h1
    by_cases hd : f ∣ n
    · obtain ⟨c, rfl⟩ := hd
      have hc : 1 ≤ c := by
        rcases Nat.eq_zero_or_pos c with rfl | h
        · simp at h1
        · exact h
      have hlt : c < f * c := by
        have : 2 * c ≤ f * c := Nat.mul_le_mul_right c hf
        omega
      obtain ⟨k, m, e, hm⟩ := ih c hlt hc
      exact ⟨k + 1, m, by rw [Nat.pow_succ, Nat.mul_right_comm, ← e, Nat.mul_comm], hm⟩
    · exact ⟨0, n, by simp, hd⟩

/-! ## powers -/

theorem one_mod {p : Nat} (h : 2 ≤ p) : 1 % p = 1 := Nat.mod_eq_of_lt (by omega)

theorem pow_mul_one {p x m : Nat} (h : 2 ≤ p) (hx : x ^ m % p = 1) (k : Nat) : x ^ (m * k) % p = 1 := by
  rw [Nat.pow_mul, Nat.pow_mod, hx, Nat.one_pow, one_mod h]

theorem pow_mod_one {p x m n : Nat} (h : 2 ≤ p) (hx : x ^ m % p = 1) (hy : x ^ n % p = 1) : x ^ (n % m) % p = 1 := by
  have e : x ^ n = x ^ (m * (n / m)) * x ^ (n % m) := by rw [← Nat.pow_add, Nat.div_add_mod]
  rw [e, Nat.mul_mod, pow_mul_one h hx, Nat.one_mul, Nat.mod_mod] at hy
  exact hy

theorem pow_gcd_one {p x : Nat} (h : 2 ≤ p) (m n : Nat) : x ^ m % p = 1 → x ^ n % p = 1 → x ^ (Nat.gcd m n) % p = 1 := by
  induction m, n using Nat.gcd.induction with
  | H0 n => intro _ hn; simpa using hn
  | H1 m n hm ih =>
    intro h1 h2
    rw [Nat.gcd_rec]
    exact ih (pow_mod_one h h1 h2) h1

theorem dvd_of_mod_one {p x : Nat} (hx : x % p = 1 % p) : (p : Int) ∣ (x : Int) - 1 := by
  have : ((x : Int) - 1) % (p : Int) = 0 := by
    have h1 : (x : Int) % (p : Int) = 1 % (p : Int) := by
      have := congrArg (fun n : Nat => (n : Int)) hx
      simpa using this
    exact Int.emod_eq_emod_iff_emod_sub_eq_zero.1 h1
  exact Int.dvd_of_emod_eq_zero this

/-! ## polynomials: highest coefficient first -/

def H (acc : Int) (l : List Int) (x : Int) : Int := l.foldl (fun s c => s * x + c) acc

def qs (acc : Int) (a : Int) : List Int → List Int
  | [] => []
  | c :: t => acc :: qs (acc * a + c) a t

theorem qs_length (a : Int) : ∀ (t : List Int) (acc : Int), (qs acc a t).length = t.length
  | [], _ => rfl
  | c :: t, acc => by simp [qs, qs_length a t]

theorem H_div (x a : Int) : ∀ (t : List Int) (X A Y : Int), X - A = (x - a) * Y → H X t x - H A t a = (x - a) * H Y (qs A a t) x
  | [], X, A, Y, h => by simpa [H, qs] using h
  | c :: t, X, A, Y, h => by
    have := H_div x a t (X * x + c) (A * a + c) (Y * x + A) (by
      have e : X = A + (x - a) * Y := by omega
      subst e
      simp only [Int.add_mul, Int.mul_add, Int.sub_mul, Int.mul_assoc]
      simp only [Int.mul_comm, Int.mul_left_comm]
      omega)
    simpa [H, qs] using this

theorem roots_le {p : Nat} (hp : Pr p) : ∀ (n : Nat) (t : List Int), t.length = n → ∀ (rs : List Int), rs.Pairwise (fun a b => ¬ (p : Int) ∣ b - a) →
    (∀ r ∈ rs, (p : Int) ∣ H 1 t r) → rs.length ≤ n
  | 0, t, ht, rs, _, hr => by
    have : t = [] := List.eq_nil_of_length_eq_zero ht
    subst this
    rcases rs with _ | ⟨r, rs⟩
    · simp
    · have h1 := hr r (by simp)
      simp [H] at h1
      have h2 := Int.ofNat_dvd_left.1 h1
      have := Nat.le_of_dvd (by simp) h2
      have := hp.1
      simp at *
      omega
  | n + 1, t, ht, rs, hpw, hr => by
    rcases rs with _ | ⟨a, rs⟩
    · simp
    · rcases t with _ | ⟨c, t⟩
      · simp at ht
      · have hlen : (qs (1 * a + c) a t).length = n := by rw [qs_length]; simpa using ht
        have := roots_le hp n (qs (1 * a + c) a t) hlen rs (List.Pairwise.of_cons hpw) (by
          intro r hrm
          have h1 := hr r (by simp [hrm])
          have h0 := hr a (by simp)
          have hd := H_div r a (c :: t) 1 1 0 (by simp)
          have h2 : (p : Int) ∣ (r - a) * H 0 (qs 1 a (c :: t)) r := hd ▸ Int.dvd_sub h1 h0
          have hne : ¬ (p : Int) ∣ r - a := (List.pairwise_cons.1 hpw).1 r hrm
          rcases euclid_int hp h2 with h3 | h3
          · exact absurd h3 hne
          · simpa [H, qs] using h3)
        simp
        exact this

theorem H_zeros (x : Int) : ∀ (k : Nat) (acc : Int), H acc (List.replicate k 0) x = acc * x ^ k
  | 0, acc => by simp [H]
  | k + 1, acc => by
    have := H_zeros x k (acc * x + 0)
    simp only [List.replicate_succ, H, List.foldl_cons] at *
    rw [this, Int.pow_succ, Int.add_zero, Int.mul_assoc, Int.mul_comm x]

theorem H_pow (x : Int) (n : Nat) : H 1 (List.replicate n 0 ++ [-1]) x = x ^ (n + 1) - 1 := by
  have h := H_zeros x n 1
  unfold H at h ⊢
  rw [List.foldl_append, h]
  simp [Int.pow_succ]
  omega

/-- fewer roots of unity than residues -/
theorem exists_not_one {p n : Nat} (hp : Pr p) (hn : 1 ≤ n) (hlt : n < p - 1) : ∃ a, 1 ≤ a ∧ a < p ∧ a ^ n % p ≠ 1 := by
  apply Classical.byContradiction
  intro hno
  have hall : ∀ a, 1 ≤ a → a < p → a ^ n % p = 1 := by
    intro a h1 h2
    apply Classical.byContradiction
    intro h3
    exact hno ⟨a, h1, h2, h3⟩
  have h2 := hp.1
  have := roots_le hp n (List.replicate (n - 1) 0 ++ [-1]) (by simp; omega) ((List.range (p - 1)).map (fun i => ((i + 1 : Nat) : Int))) (by
    rw [List.pairwise_map]
    refine List.Pairwise.imp_of_mem ?_ (List.pairwise_lt_range (n := p - 1))
    intro a b ha hb hab hd
    have hb' := List.mem_range.1 hb
    have : ((b + 1 : Nat) : Int) - ((a + 1 : Nat) : Int) = ((b - a : Nat) : Int) := by omega
    rw [this] at hd
    have := Nat.le_of_dvd (by omega) (Int.ofNat_dvd.1 hd)
    omega) (by
    intro r hr
    obtain ⟨i, hi, rfl⟩ := List.mem_map.1 hr
    have hi' := List.mem_range.1 hi
    rw [H_pow, show n - 1 + 1 = n from by omega]
    have h3 := hall (i + 1) (by omega) (by omega)
    have h4 := dvd_of_mod_one (p := p) (x := (i + 1) ^ n) (by rw [h3, one_mod h2])
    simpa using h4)
  simp at this
  omega

/-! ## Fermat -/

theorem perm_of_sub : ∀ (l1 l2 : List Nat), l1.Nodup → (∀ x ∈ l1, x ∈ l2) → l2.length ≤ l1.length → l1.Perm l2
  | [], l2, _, _, hl => by
    have : l2 = [] := List.eq_nil_of_length_eq_zero (by simpa using hl)
    subst this
    exact List.Perm.refl _
  | a :: t, l2, hn, hs, hl => by
    have ha : a ∈ l2 := hs a (by simp)
    have hp := List.perm_cons_erase ha
    have hnt := List.nodup_cons.1 hn
    have := perm_of_sub t (l2.erase a) hnt.2 (by
      intro x hx
      have hne : x ≠ a := by
        rintro rfl
        exact hnt.1 hx
      exact (List.mem_erase_of_ne hne).2 (hs x (by simp [hx]))) (by
      rw [List.length_erase_of_mem ha]
      simp at hl
      omega)
    exact (List.Perm.cons a this).trans hp.symm

def prodL (l : List Nat) : Nat := l.foldr (· * ·) 1

theorem prodL_perm {l1 l2 : List Nat} (h : l1.Perm l2) : prodL l1 = prodL l2 := by
  induction h with
  | nil => rfl
  | cons a _ ih => simp only [prodL, List.foldr_cons] at *; rw [ih]
  | swap a b l => simp only [prodL, List.foldr_cons]; rw [Nat.mul_left_comm]
  | trans _ _ ih1 ih2 => exact ih1.trans ih2

theorem prodL_map (p a : Nat) : ∀ (l : List Nat), prodL (l.map (fun i => a * i % p)) % p = a ^ l.length * prodL l % p
  | [] => by simp [prodL]
  | i :: l => by
    have ih := prodL_map p a l
    simp only [prodL, List.map_cons, List.foldr_cons, List.length_cons] at *
    rw [Nat.mul_mod, ih, Nat.mod_mod, ← Nat.mul_mod, Nat.pow_succ]
    congr 1
    simp only [Nat.mul_assoc, Nat.mul_comm, Nat.mul_left_comm]

theorem prodL_not_dvd {p : Nat} (hp : Pr p) : ∀ (l : List Nat), (∀ x ∈ l, ¬ p ∣ x) → ¬ p ∣ prodL l
  | [], _ => by
    intro h
    have := Nat.le_of_dvd (by simp [prodL]) h
    have := hp.1
    simp [prodL] at *
    omega
  | a :: l, h => by
    intro hd
    simp only [prodL, List.foldr_cons] at hd
    rcases euclid hp hd with h1 | h1
    · exact h a (by simp) h1
    · exact prodL_not_dvd hp l (fun x hx => h x (by simp [hx])) h1

theorem not_dvd_small {p x : Nat} (h1 : 1 ≤ x) (h2 : x < p) : ¬ p ∣ x := by
  intro h
  have := Nat.le_of_dvd (by omega) h
  omega

theorem sub_dvd_of_mod_eq {p x y : Nat} (h : x % p = y % p) (hle : x ≤ y) : p ∣ y - x := by
  have hx := Nat.div_add_mod x p
  have hy := Nat.div_add_mod y p
  refine ⟨y / p - x / p, ?_⟩
  rw [Nat.mul_sub]
  omega

theorem fermat {p a : Nat} (hp : Pr p) (ha : ¬ p ∣ a) : a ^ (p - 1) % p = 1 := by
  have h2 := hp.1
  let L := (List.range (p - 1)).map (· + 1)
  have hL : ∀ x, x ∈ L ↔ 1 ≤ x ∧ x < p := by
    intro x
    simp only [L, List.mem_map, List.mem_range]
    constructor
    · rintro ⟨i, hi, rfl⟩
      omega
    · rintro ⟨h1, h3⟩
      exact ⟨x - 1, by omega, by omega⟩
  have hlen : L.length = p - 1 := by simp [L]
  have hnd : L.Nodup := by
    simp only [L, List.Nodup, List.pairwise_map]
    exact (List.pairwise_lt_range (n := p - 1)).imp (by intro a b h; omega)
  have hndm : (L.map (fun i => a * i % p)).Nodup := by
    simp only [List.Nodup, List.pairwise_map]
    refine List.Pairwise.imp_of_mem ?_ hnd
    intro x y hx hy hne he
    have hx' := (hL x).1 hx
    have hy' := (hL y).1 hy
    rcases Nat.le_total x y with hle | hle
    · have hd := sub_dvd_of_mod_eq he (Nat.mul_le_mul_left a hle)
      rw [← Nat.mul_sub] at hd
      rcases euclid hp hd with h1 | h1
      · exact ha h1
      · rcases Nat.eq_zero_or_pos (y - x) with h0 | h0
        · exact hne (by omega)
        · have := Nat.le_of_dvd h0 h1
          omega
    · have hd := sub_dvd_of_mod_eq he.symm (Nat.mul_le_mul_left a hle)
      rw [← Nat.mul_sub] at hd
      rcases euclid hp hd with h1 | h1
      · exact ha h1
      · rcases Nat.eq_zero_or_pos (x - y) with h0 | h0
        · exact hne (by omega)
        · have := Nat.le_of_dvd h0 h1
          omega
  have hsub : ∀ x ∈ L.map (fun i => a * i % p), x ∈ L := by
    intro x hx
    obtain ⟨i, hi, rfl⟩ := List.mem_map.1 hx
    have hi' := (hL i).1 hi
    refine (hL _).2 ⟨?_, Nat.mod_lt _ (by omega)⟩
    rcases Nat.eq_zero_or_pos (a * i % p) with h0 | h0
    · rcases euclid hp (Nat.dvd_of_mod_eq_zero h0) with h1 | h1
      · exact absurd h1 ha
      · exact absurd h1 (not_dvd_small hi'.1 hi'.2)
    · exact h0
  have hperm := perm_of_sub _ L hndm hsub (by simp)
  have hprod := prodL_map p a L
  rw [prodL_perm hperm, hlen] at hprod
  have hnp : ¬ p ∣ prodL L := prodL_not_dvd hp L (fun x hx => by
    have := (hL x).1 hx
    exact not_dvd_small this.1 this.2)
  have hpos : 1 ≤ a ^ (p - 1) := by
    refine Nat.pow_pos ?_
    rcases Nat.eq_zero_or_pos a with rfl | h
    · exact absurd (Nat.dvd_zero p) ha
    · exact h
  have hd := sub_dvd_of_mod_eq hprod (by
    have := Nat.mul_le_mul_right (prodL L) hpos
    simpa using this)
  rw [show a ^ (p - 1) * prodL L - prodL L = (a ^ (p - 1) - 1) * prodL L from by rw [Nat.sub_mul, Nat.one_mul]] at hd
  rcases euclid hp hd with h1 | h1
  · obtain ⟨c, hc⟩ := h1
    have : a ^ (p - 1) = 1 + p * c := by omega
    rw [this, Nat.add_mul_mod_self_left, one_mod h2]
  · exact absurd h1 hnp

/-! ## orders, primitive roots -/

def IsOrd (p x m : Nat) : Prop := x ^ m % p = 1 ∧ ∀ j, x ^ j % p = 1 → m ∣ j

theorem ord_mul {p b c m n : Nat} (h : 2 ≤ p) (hb : IsOrd p b m) (hc : IsOrd p c n) (hmn : Nat.Coprime m n) : IsOrd p (b * c) (m * n) := by
  refine ⟨?_, fun j hj => ?_⟩
  · rw [Nat.mul_pow, Nat.mul_mod, pow_mul_one h hb.1, Nat.mul_comm m n, pow_mul_one h hc.1]
    exact one_mod h
  · have h1 : m ∣ j := by
      have : b ^ (j * n) % p = 1 := by
        have h3 := pow_mul_one h hj n
        rw [Nat.mul_pow, Nat.mul_mod, Nat.mul_comm j n, pow_mul_one h hc.1, Nat.mul_one, Nat.mod_mod, Nat.mul_comm n j] at h3
        exact h3
      exact hmn.dvd_of_dvd_mul_right (hb.2 _ this)
    have h2 : n ∣ j := by
      have : c ^ (j * m) % p = 1 := by
        have h3 := pow_mul_one h hj m
        rw [Nat.mul_pow, Nat.mul_mod, Nat.mul_comm j m, pow_mul_one h hb.1, Nat.one_mul, Nat.mod_mod, Nat.mul_comm m j] at h3
        exact h3
      exact hmn.symm.dvd_of_dvd_mul_right (hc.2 _ this)
    exact hmn.mul_dvd_of_dvd_of_dvd h1 h2

/-- a divisor of a prime's power is the whole power, or divides the one below -/
theorem dvd_pow_split {f k d : Nat} (hf : Pr f) (hd : d ∣ f ^ (k + 1)) : d = f ^ (k + 1) ∨ d ∣ f ^ k := by
  obtain ⟨c, hc⟩ := hd
  by_cases hfc : f ∣ c
  · obtain ⟨c', rfl⟩ := hfc
    right
    refine ⟨c', ?_⟩
    have : f * f ^ k = f * (d * c') := by
      rw [Nat.pow_succ] at hc
      rw [Nat.mul_comm f, hc]
      simp only [Nat.mul_left_comm]
    exact Nat.eq_of_mul_eq_mul_left (by have := hf.1; omega) this
  · left
    have hco : Nat.Coprime (f ^ (k + 1)) c := Nat.Coprime.pow_left _ (pr_coprime hf hfc)
    have : c ∣ f ^ (k + 1) := ⟨d, by rw [hc, Nat.mul_comm]⟩
    have h1 : c = 1 := Nat.Coprime.eq_one_of_dvd hco.symm this
    rw [hc, h1, Nat.mul_one]

theorem ord_prime_pow {p f k : Nat} (hp : Pr p) (hf : Pr f) (hd : f ^ (k + 1) ∣ p - 1) : ∃ b, IsOrd p b (f ^ (k + 1)) := by
  have h2 := hp.1
  obtain ⟨c, hc⟩ := hd
  have hf2 := hf.1
  have hcpos : 1 ≤ c := by
    rcases Nat.eq_zero_or_pos c with rfl | h
    · simp at hc; omega
    · exact h
  have hfk : 1 ≤ f ^ k := Nat.pow_pos (by omega)
  -- a with a ^ ((p-1)/f) ≠ 1
  have hn : f ^ k * c < p - 1 := by
    rw [hc, Nat.pow_succ, Nat.mul_right_comm]
    have h3 : 1 ≤ f ^ k * c := Nat.mul_pos hfk hcpos
    have : f ^ k * c * 2 ≤ f ^ k * c * f := Nat.mul_le_mul_left _ hf2
    omega
  obtain ⟨a, ha1, ha2, ha3⟩ := exists_not_one hp (Nat.mul_pos hfk hcpos) hn
  have hfer := fermat hp (not_dvd_small ha1 ha2)
  refine ⟨a ^ c, ?_, fun j hj => ?_⟩
  · rw [← Nat.pow_mul, Nat.mul_comm, ← hc]
    exact hfer
  · have h1 : (a ^ c) ^ (f ^ (k + 1)) % p = 1 := by
      rw [← Nat.pow_mul, Nat.mul_comm, ← hc]
      exact hfer
    have hg := pow_gcd_one h2 j (f ^ (k + 1)) hj h1
    rcases dvd_pow_split hf (Nat.gcd_dvd_right j (f ^ (k + 1))) with h3 | h3
    · rw [← h3]
      exact Nat.gcd_dvd_left _ _
    · obtain ⟨e, he⟩ := h3
      have h4 := pow_mul_one h2 hg e
      rw [← he, ← Nat.pow_mul, Nat.mul_comm] at h4
      exact absurd h4 ha3

theorem exists_ord {p : Nat} (hp : Pr p) : ∀ n, 1 ≤ n → n ∣ p - 1 → ∃ x, IsOrd p x n := by
  have h2 := hp.1
  intro n
  induction n using Nat.strongRecOn with
  | ind n ih =>
    intro h1 hd
    rcases Nat.lt_or_ge n 2 with h3 | h3
    · have : n = 1 := by omega
      subst this
      exact ⟨1, by simp [one_mod h2], fun j _ => Nat.one_dvd j⟩
    · obtain ⟨f, hf, hfn⟩ := exists_prime n h3
      obtain ⟨k, m, e, hm⟩ := exists_split f hf.1 n h1
      rcases k with _ | k
      · simp at e
        subst e
        exact absurd hfn hm
      · have hmpos : 1 ≤ m := by
          rcases Nat.eq_zero_or_pos m with rfl | h
          · exact absurd (Nat.dvd_zero f) hm
          · exact h
        have hlt : m < n := by
          have h4 : 2 ≤ f ^ (k + 1) := by
            rw [Nat.pow_succ]
            have h5 : 1 ≤ f ^ k := Nat.pow_pos (by have := hf.1; omega)
            have := Nat.mul_le_mul h5 hf.1
            omega
          have := Nat.mul_le_mul_right m h4
          omega
        obtain ⟨c, hc⟩ := ih m hlt hmpos (Nat.dvd_trans ⟨f ^ (k + 1), by rw [e, Nat.mul_comm]⟩ hd)
        obtain ⟨b, hb⟩ := ord_prime_pow hp hf (k := k) (Nat.dvd_trans ⟨m, e⟩ hd)
        refine ⟨b * c, ?_⟩
        rw [e]
        exact ord_mul h2 hb hc (Nat.Coprime.pow_left _ (pr_coprime hf hm))

/-- a primitive root -/
theorem exists_root {p : Nat} (hp : Pr p) : ∃ g, 1 ≤ g ∧ g < p ∧ ∀ f, Pr f → f ∣ p - 1 → g ^ ((p - 1) / f) % p ≠ 1 := by
  have h2 := hp.1
  obtain ⟨x, hx⟩ := exists_ord hp (p - 1) (by omega) (Nat.dvd_refl _)
  have hpow : ∀ j, (x % p) ^ j % p = x ^ j % p := fun j => (Nat.pow_mod x j p).symm
  refine ⟨x % p, ?_, Nat.mod_lt _ (by omega), fun f hf hd hone => ?_⟩
  · rcases Nat.eq_zero_or_pos (x % p) with h0 | h0
    · have h1 := hx.1
      rw [← hpow, h0, Nat.zero_pow (by omega)] at h1
      simp at h1
    · exact h0
  · rw [hpow] at hone
    have h3 := hx.2 _ hone
    obtain ⟨c, hc⟩ := hd
    have hf2 := hf.1
    rw [hc, Nat.mul_div_cancel_left _ (by omega)] at h3
    have hcpos : 1 ≤ c := by
      rcases Nat.eq_zero_or_pos c with rfl | h
      · simp at hc; omega
      · exact h
    have := Nat.le_of_dvd hcpos h3
    have := Nat.mul_le_mul_right c hf2
    omega

/-- powers below a prime order are different -/
theorem pow_inj {p q g : Nat} (hp : 2 ≤ p) (hq : Pr q) (h1 : g ^ q % p = 1) (hg : g % p ≠ 1) {i j : Nat} (hij : i < j) (hj : j < q) : g ^ i % p ≠ g ^ j % p := by
  intro he
  have h3 : g ^ (j - i) % p = 1 := by
    have e1 : g ^ (i + (q - i)) % p = 1 := by rw [show i + (q - i) = q from by omega]; exact h1
    have e2 : g ^ (j + (q - i)) % p = 1 := by
      rw [Nat.pow_add, Nat.mul_mod, ← he, ← Nat.mul_mod, ← Nat.pow_add]
      exact e1
    rw [show j + (q - i) = q + (j - i) from by omega, Nat.pow_add, Nat.mul_mod, h1, Nat.one_mul, Nat.mod_mod] at e2
    exact e2
  have h4 := pow_gcd_one hp q (j - i) h1 h3
  have h5 : Nat.gcd q (j - i) = 1 := pr_coprime hq (not_dvd_small (by omega) (by omega))
  rw [h5, Nat.pow_one] at h4
  exact hg h4

end Go.Proofs.YtaehldfhjfchhaaDoor.NT
