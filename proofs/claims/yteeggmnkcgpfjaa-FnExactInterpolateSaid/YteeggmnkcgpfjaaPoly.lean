/- Polynomials over a field of prime order: contracts of both sides. -/
import Derived.Test.YteeggmnkcgpfjaaLm
import Derived.Test.YteeggmnkcgpfjaaPrime
namespace Go.Proofs.Yteeggmnkcgpfjaa
open Go.RowKit
set_option linter.unusedVariables false

theorem ret_ib {a c : Int} {b d : Bool} (h : (a, b) = (c, d)) : Ending.returned (.tuple #[.int .i64 a, .bool b]) = .returned (.tuple #[.int .i64 c, .bool d]) := by
  injection h with h1 h2
  rw [h1, h2]
def fieldB (q : Int) : Bool := inB q 2 2000000000 && primeB q
/-- few enough residues -/
def shortB (q : Int) (f : List Int) : Bool := decide (f.length ≤ 24) && f.all fun z => inB z 0 (q - 1)
/-- a polynomial -/
def polyB (q : Int) (f : List Int) : Bool := fieldB q && shortB q f
theorem field_om {q : Int} (h : fieldB q = true) : 2 ≤ q ∧ q ≤ 2000000000 := by
  simp only [fieldB, Bool.and_eq_true] at h
  exact inB_true h.1
theorem short_all {q : Int} {f : List Int} (h : shortB q f = true) : f.length ≤ 24 ∧ (f.all fun z => inB z 0 (q - 1)) = true := by
  simp only [shortB, Bool.and_eq_true, decide_eq_true_eq] at h
  exact h
theorem all_bd {zs : List Int} {m : Int} {k n : Nat} (hn : zs.length = n) (h : (zs.all fun z => inB z 0 (m - 1)) = true) (hk : k < n) : 0 ≤ zs.getD k 0 ∧ zs.getD k 0 < m := by
  have := inB_true (List.all_eq_true.1 h _ (getD_mem (d := 0) (show k < zs.length by omega)))
  omega
theorem mul_bdi {a b m : Int} (ha : 0 ≤ a ∧ a < m) (hb : 0 ≤ b ∧ b < m) (hm : m ≤ 2000000000) : 0 ≤ a * b ∧ a * b ≤ 4000000000000000000 := by
  have h1 : 0 ≤ a * b := Int.mul_nonneg ha.1 hb.1
  have h2 : a * b ≤ 2000000000 * 2000000000 := Int.mul_le_mul (by omega) (by omega) hb.1 (by omega)
  exact ⟨h1, h2⟩

set_option maxHeartbeats 400000 in
theorem isField_any (q : Int) (w : World) :
    Calls Try.prog 172 #[.int .i64 q] w fun e w' => e = .returned (.bool (fieldB q)) ∧ w = w' := by
  go_enter Try.func172, Try.ntmps172
  go_wp2_with (first | (go_at_call 74; refine (isPrime_any _ _).mono ?_; rintro e w' ⟨rfl, rfl⟩))
  go_ret
  exact ⟨rfl, rfl⟩

set_option maxHeartbeats 400000 in
theorem yModulus_any (q : Int) (w : World) :
    Calls Try.prog 170 #[.int .i64 q] w fun e w' => e = .returned (.bool (fieldB q)) ∧ w = w' := by
  cases h1 : inB q 2 2000000000
  · go_enter Try.func170, Try.ntmps170
    go_wp2_with (first | (go_at_call 189; refine (nModulus_any _ _).mono ?_; rintro e w' ⟨rfl, rfl⟩))
    go_ret
    exact ⟨ret_bool (by simp [fieldB, h1]), rfl⟩
  obtain ⟨h2, h3⟩ := inB_true h1
  go_enter Try.func170, Try.ntmps170
  go_wp2_with (first | (go_at_call 189; refine (nModulus_any _ _).mono ?_; rintro e w' ⟨rfl, rfl⟩) | (go_at_call 111; refine (nPrime_any _ _ (by omega)).mono ?_; rintro e w' ⟨rfl, rfl⟩))
  go_ret
  exact ⟨ret_bool (by simp [fieldB, h1]), rfl⟩

set_option maxHeartbeats 400000 in
theorem isPoly_any (q : Int) (A : Option Addr) (n c : Nat) (f : List Int) (w : World) (h : Ints w A n f) :
    Calls Try.prog 135 #[.int .i64 q, .slice A n c] w fun e w' => e = .returned (.bool (polyB q f)) ∧ Below w.heap.size w w' := by
  have hl := h.len
  subst hl
  cases h1 : fieldB q
  · go_enter Try.func135, Try.ntmps135
    go_wp2_with (go_at_call 172; refine (isField_any _ _).mono ?_; rintro e w' ⟨rfl, rfl⟩)
    go_ret
    exact ⟨ret_bool (by simp [polyB, shortB, h1]), Below.refl _ _⟩
  obtain ⟨m1, m2⟩ := field_om h1
  cases h2 : decide (f.length ≤ 24)
  · have hd1 : 24 < f.length := by have := of_decide_eq_false h2; omega
    go_enter Try.func135, Try.ntmps135
    go_wp2_with (go_at_call 172; refine (isField_any _ _).mono ?_; rintro e w' ⟨rfl, rfl⟩)
    go_ret
    exact ⟨ret_bool (by simp [polyB, shortB, h2]), Below.refl _ _⟩
  have hd1 : f.length ≤ 24 := of_decide_eq_true h2
  have H := Lib.hid (areBelow_any A f.length c f q w h (by omega) (by omega))
  clear h
  go_enter Try.func135, Try.ntmps135
  go_wp2_with (first | (go_at_call 172; refine (isField_any _ _).mono ?_; rintro e w' ⟨rfl, rfl⟩) | (go_at_call 97; refine H.out.mono ?_; rintro e w' ⟨rfl, hb⟩))
  go_ret
  exact ⟨ret_bool (by simp [polyB, shortB, h1, h2]), hb⟩

/-! ## slices of slices that are read -/
/-- the cells of a slice of slices: (address, capacity, numbers) each -/
def Slices (w : World) (A : Option Addr) (n : Nat) (L : List (Option Addr × Nat × List Int)) : Prop :=
  L.length = n ∧ n ≤ 9223372036854775807 ∧ (∀ x ∈ L, Ints w x.1 x.2.2.length x.2.2) ∧ (0 < n → ∃ b off, A = some ⟨b, off, none⟩ ∧ b < w.heap.size ∧ ∀ k, k < n →
    w.cell? ⟨b, off + k, none⟩ = some (.slice (L.getD k (none, 0, [])).1 (L.getD k (none, 0, [])).2.2.length (L.getD k (none, 0, [])).2.1))
section
variable {w w' : World} {A : Option Addr} {n : Nat} {L : List (Option Addr × Nat × List Int)}
theorem Slices.len (h : Slices w A n L) : L.length = n := h.1
theorem Slices.le (h : Slices w A n L) : n ≤ 9223372036854775807 := h.2.1
theorem Slices.at_ {k : Nat} (h : Slices w A n L) (hk : k < n) : ∃ b off, A = some ⟨b, off, none⟩ ∧ b < w.heap.size ∧ w.cell? ⟨b, off + k, none⟩ = some (.slice (L.getD k (none, 0, [])).1 (L.getD k (none, 0, [])).2.2.length (L.getD k (none, 0, [])).2.1) := by
  obtain ⟨b, off, e, hb, hc⟩ := h.2.2.2 (by omega)
  exact ⟨b, off, e, hb, hc k hk⟩
theorem Slices.row {k : Nat} (h : Slices w A n L) (hk : k < n) : Ints w (L.getD k (none, 0, [])).1 (L.getD k (none, 0, [])).2.2.length (L.getD k (none, 0, [])).2.2 :=
  h.2.2.1 _ (getD_mem (by rw [h.1]; exact hk))
theorem Slices.below (h : Slices w A n L) (hb : Below w.heap.size w w') : Slices w' A n L := by
  refine ⟨h.1, h.2.1, fun x hx => (h.2.2.1 x hx).below hb, fun hn => ?_⟩
  obtain ⟨b, off, e, hb', hc⟩ := h.2.2.2 hn
  exact ⟨b, off, e, Nat.lt_of_lt_of_le hb' hb.size, fun k hk => (hb.cell (p := ⟨b, off + k, none⟩) hb').trans (hc k hk)⟩
theorem Slices.one {b c : Nat} {B : Option Addr} {f : List Int} (hc : w.cell? ⟨b, 0, none⟩ = some (.slice B f.length c)) (hf : Ints w B f.length f) : Slices w (some ⟨b, 0, none⟩) 1 [(B, c, f)] :=
  ⟨rfl, by omega, (by
    intro x hx
    rcases List.mem_cons.1 hx with rfl | hx
    · exact hf
    · cases hx), fun _ => ⟨b, 0, rfl, World.block_lt_of_cell? _ _ hc, fun k hk => by
    have e : k = 0 := by omega
    subst e
    exact hc⟩⟩
theorem Slices.two {b c c' : Nat} {B B' : Option Addr} {f g : List Int} (hc : w.cell? ⟨b, 0, none⟩ = some (.slice B f.length c)) (hd : w.cell? ⟨b, 1, none⟩ = some (.slice B' g.length c')) (hf : Ints w B f.length f) (hg : Ints w B' g.length g) : Slices w (some ⟨b, 0, none⟩) 2 [(B, c, f), (B', c', g)] :=
  ⟨rfl, by omega, (by
    intro x hx
    rcases List.mem_cons.1 hx with rfl | hx
    · exact hf
    · rcases List.mem_cons.1 hx with rfl | hx
      · exact hg
      · cases hx), fun _ => ⟨b, 0, rfl, World.block_lt_of_cell? _ _ hc, fun k hk => by
    have e : k = 0 ∨ k = 1 := by omega
    rcases e with rfl | rfl
    · exact hc
    · exact hd⟩⟩
end

set_option maxHeartbeats 800000 in
theorem yGood_any (q : Int) (A : Option Addr) (n c : Nat) (L : List (Option Addr × Nat × List Int)) (w : World) (h : Slices w A n L) :
    Calls Try.prog 132 #[.int .i64 q, .slice A n c] w fun e w' => e = .returned (.bool (fieldB q && L.all fun x => shortB q x.2.2)) ∧ Below w.heap.size w w' := by
  have hn := h.le
  have HI := Lib.hid h
  clear h
  cases hf : fieldB q
  · go_enter Try.func132, Try.ntmps132
    go_wp2_with (go_at_call 170; refine (yModulus_any _ _).mono ?_; rintro e w' ⟨rfl, rfl⟩)
    go_ret
    exact ⟨ret_bool (by simp), Below.refl _ _⟩
  · obtain ⟨m1, m2⟩ := field_om hf
    go_enter Try.func132, Try.ntmps132
    go_wp2_with (go_at_call 170; refine (yModulus_any _ _).mono ?_; rintro e w' ⟨rfl, rfl⟩)
    go_loop [12] (fun i => ∃ k : Nat, k ≤ n ∧ i = .int .i64 k ∧ Hid (∀ j, j < k → shortB q (L.getD j (none, 0, [])).2.2 = true)) (fun i => n - (intOf i).toNat)
    case atStart => exact ⟨0, by omega, rfl, Lib.hid fun j hj => absurd hj (by omega)⟩
    case round =>
      obtain ⟨k, hk, rfl, HK⟩ := hrel
      by_cases hlt : k < n
      · obtain ⟨b, off, rfl, hb, hc⟩ := HI.out.at_ hlt
        have hr := HI.out.row hlt
        generalize hz : L.getD k (none, 0, []) = x at hc hr
        have HZ := Lib.hid hz
        clear hz
        obtain ⟨B, cc, z⟩ := x
        simp only at hc hr
        have H := Lib.hid (l1All_any B z.length cc z 0 (q - 1) w hr)
        clear hr
        by_cases hl : 24 < z.length
        · have hs : shortB q z = false := by
            have : decide (z.length ≤ 24) = false := by simp; omega
            rw [shortB, this]; rfl
          have HS := Lib.hid hs
          clear hs
          go_wp2
          go_ret
          exact ⟨ret_bool (by rw [all_no (d := (none, 0, [])) (p := fun x => shortB q x.2.2) HI.out.len hlt (by rw [HZ.out]; exact HS.out)]), Below.refl _ _⟩
        · have hd : decide (z.length ≤ 24) = true := by simp; omega
          cases ha : (z.all fun z => inB z 0 (q - 1))
          · rw [ha] at H
            have hs : shortB q z = false := by rw [shortB, ha, Bool.and_false]
            have HS := Lib.hid hs
            clear hs ha hd
            go_wp2_with (go_at_call 76; refine H.out.mono ?_; rintro e w' ⟨rfl, rfl⟩)
            go_ret
            exact ⟨ret_bool (by rw [all_no (d := (none, 0, [])) (p := fun x => shortB q x.2.2) HI.out.len hlt (by rw [HZ.out]; exact HS.out)]; rfl), Below.refl _ _⟩
          · rw [ha] at H
            have hs : shortB q z = true := by rw [shortB, ha, hd]; rfl
            have HS := Lib.hid hs
            clear hs ha hd
            go_wp2_with (go_at_call 76; refine H.out.mono ?_; rintro e w' ⟨rfl, rfl⟩)
            go_round
            case rel => exact ⟨k + 1, by omega, by go_num, Lib.hid (upto_succ HK.out (by rw [HZ.out]; exact HS.out))⟩
            case measure => simp [intOf]; omega
      · have e : k = n := by omega
        subst e
        go_wp2
        go_ret
        exact ⟨ret_bool (by rw [all_yes (d := (none, 0, [])) (p := fun x => shortB q x.2.2) HI.out.len HK.out]), Below.refl _ _⟩

/-! ## values -/
/-- Horner, from the highest coefficient on: after k steps -/
def hornK (q : Int) (f : List Int) (x : Int) : Nat → Int
  | 0 => 0
  | k + 1 => (hornK q f x k * x + f.getD (f.length - 1 - k) 0) % q
def evalP (q : Int) (f : List Int) (x : Int) : Int := hornK q f x f.length
theorem hornK_bd {q : Int} (f : List Int) (x : Int) (hq : 1 ≤ q) : ∀ k, 0 ≤ hornK q f x k ∧ hornK q f x k < q
  | 0 => by simp [hornK]; omega
  | k + 1 => ⟨Int.emod_nonneg _ (by omega), Int.emod_lt_of_pos _ (by omega)⟩

set_option maxHeartbeats 800000 in
theorem yEval_any (q : Int) (A : Option Addr) (n c : Nat) (f : List Int) (x : Int) (w : World) (h : Ints w A n f) (q1 : 2 ≤ q) (q2 : q ≤ 2000000000) (hall : (f.all fun z => inB z 0 (q - 1)) = true) (x0 : 0 ≤ x) (x1 : x < q) :
    Calls Try.prog 141 #[.int .i64 q, .slice A n c, .int .i64 x] w fun e w' => e = .returned (.int .i64 (evalP q f x)) ∧ Below w.heap.size w w' := by
  have hn := h.le
  have HI := Lib.hid h
  have HA := Lib.hid hall
  clear h hall
  have hne : (q == 0) = false := by simp; omega
  go_enter Try.func141, Try.ntmps141
  go_wp2
  go_loop [7, 8] (fun o i => ∃ k : Nat, k ≤ n ∧ i = .int .i64 ((n : Int) - 1 - (k : Int)) ∧ o = .int .i64 (hornK q f x k)) (fun _ i => (intOf i + 1).toNat)
  case atStart => exact ⟨0, by omega, by simp, rfl⟩
  case round =>
    obtain ⟨k, hk, rfl, rfl⟩ := hrel
    have hb := hornK_bd f x (show 1 ≤ q by omega) k
    by_cases hlt : k < n
    · obtain ⟨b, off, rfl, hb', hc⟩ := HI.out.at_ (k := n - 1 - k) (by omega)
      have hz := all_bd HI.out.len HA.out (show n - 1 - k < n by omega)
      obtain ⟨p1, p2⟩ := mul_bdi hb ⟨x0, x1⟩ q2
      have hs : hornK q f x (k + 1) = (hornK q f x k * x + f.getD (n - 1 - k) 0) % q := by
        show (hornK q f x k * x + f.getD (f.length - 1 - k) 0) % q = _
        rw [HI.out.len]
      obtain ⟨z1, z2⟩ := hz
      generalize f.getD (n - 1 - k) 0 = z at hc z1 z2 hs
      have HS := Lib.hid hs
      clear hs
      obtain ⟨m, hm⟩ : ∃ m : Nat, n - 1 - k = m := ⟨_, rfl⟩
      have e1 : (n : Int) - 1 - (k : Int) = (m : Int) := by omega
      rw [hm] at hc
      rw [e1]
      have hmn : m < n := by omega
      have HM := Lib.hid hm
      have HE := Lib.hid e1
      clear hm e1
      go_wp2
      go_round
      case rel => exact ⟨k + 1, by omega, by rw [show (n : Int) - 1 - ((k + 1 : Nat) : Int) = (m : Int) - 1 from by have := HE.out; omega], congrArg (Value.int .i64) HS.out.symm⟩
      case measure => have := HE.out; simp [intOf] <;> omega
    · have e : k = n := by omega
      subst e
      go_wp2
      go_ret
      exact ⟨ret_int (by rw [evalP, HI.out.len]), Below.refl _ _⟩
end Go.Proofs.Yteeggmnkcgpfjaa
