/- Logarithms: the plain law, the contracts of both sides. -/
import Derived.Test.YtemhjhaokbgldaaGr4
namespace Go.Proofs.Ytemhjhaokbgldaa
open Go.RowKit
set_option linter.unusedVariables false
attribute [local go_sem ↓] Go.wp_at_zero Go.wp_at_succ

/-- the powers of b, one after another -/
def yS (p b : Int) : Nat → Int
  | 0 => 1
  | k + 1 => yS p b k * b % p
/-- the first place below n where the power is x -/
def firstY (p b x : Int) : Nat → Option Nat
  | 0 => none
  | n + 1 => match firstY p b x n with
    | some e => some e
    | none => if yS p b n == x then some n else none
def logV (p q b x most : Int) : Int × Bool := match firstY p b x ((min most (q - 1)).toNat + 1) with
  | some e => ((e : Int), true)
  | none => (0, false)

theorem yS_pw {p b : Int} (hp : 2 ≤ p) (hb : 0 ≤ b) : ∀ k : Nat, yS p b k = pw b k p
  | 0 => by
    simp only [yS, pw, Int.toNat_natCast, Nat.pow_zero]
    rw [Nat.mod_eq_of_lt (by omega)]
    rfl
  | k + 1 => by
    obtain ⟨m, rfl⟩ := Int.eq_ofNat_of_zero_le (show 0 ≤ p by omega)
    obtain ⟨a, rfl⟩ := Int.eq_ofNat_of_zero_le hb
    have ih := yS_pw hp hb k
    simp only [yS, ih]
    simp only [pw, Int.toNat_natCast]
    have e : a ^ (k + 1) % m = (a ^ k % m) * a % m := by
      rw [Nat.pow_succ, Nat.mul_mod]
      conv => rhs; rw [Nat.mul_mod, Nat.mod_mod]
    rw [e, Int.natCast_emod (a ^ k % m * a), Int.natCast_mul]
theorem yS_bd {p : Int} (b : Int) (hp : 2 ≤ p) : ∀ k, 0 ≤ yS p b k ∧ yS p b k < p
  | 0 => by simp [yS]; omega
  | k + 1 => ⟨Int.emod_nonneg _ (by omega), Int.emod_lt_of_pos _ (by omega)⟩
theorem yS_per {p b : Int} {d : Nat} (hd : yS p b d = 1) : ∀ k, yS p b (d + k) = yS p b k
  | 0 => hd
  | k + 1 => by
    show yS p b (d + k) * b % p = yS p b k * b % p
    rw [yS_per hd k]

theorem firstY_none {p b x : Int} : ∀ n, (∀ j, j < n → yS p b j ≠ x) → firstY p b x n = none
  | 0, _ => rfl
  | n + 1, h => by
    simp only [firstY]
    rw [firstY_none n fun j hj => h j (by omega)]
    have := h n (by omega)
    simp [this]
theorem firstY_some {p b x : Int} {e : Nat} (h1 : yS p b e = x) (h2 : ∀ j, j < e → yS p b j ≠ x) : ∀ n, e < n → firstY p b x n = some e
  | 0, h => absurd h (by omega)
  | n + 1, h => by
    simp only [firstY]
    rcases Nat.lt_or_ge e n with h3 | h3
    · rw [firstY_some h1 h2 n h3]
    · have e' : e = n := by omega
      subst e'
      rw [firstY_none e h2]
      simp [h1]

theorem log_hit {p q b x most : Int} {k : Nat} (hq : 1 ≤ q) (hk : (k : Int) ≤ most) (h1 : yS p b k = x) (h2 : ∀ j, j < k → yS p b j ≠ x) (h3 : ∀ j, 1 ≤ j → j ≤ k → yS p b j ≠ 1) (hy : yS p b q.toNat = 1) :
    logV p q b x most = ((k : Int), true) := by
  have hlt : (k : Int) ≤ q - 1 := by
    rcases Int.lt_or_le (q - 1) k with h | h
    · exact absurd hy (h3 q.toNat (by omega) (by omega))
    · exact h
  unfold logV
  rw [firstY_some h1 h2 _ (by omega)]
theorem log_stop {p q b x most : Int} {k : Nat} (h1 : yS p b (k + 1) = 1) (h2 : ∀ j, j < k + 1 → yS p b j ≠ x) : logV p q b x most = (0, false) := by
  have hall : ∀ j, yS p b j ≠ x := by
    intro j
    induction j using Nat.strongRecOn with
    | ind j ih =>
      rcases Nat.lt_or_ge j (k + 1) with h | h
      · exact h2 j h
      · have := yS_per h1 (j - (k + 1))
        rw [show k + 1 + (j - (k + 1)) = j from by omega] at this
        rw [this]
        exact ih _ (by omega)
  unfold logV
  rw [firstY_none _ fun j _ => hall j]
theorem log_end {p q b x most : Int} {k : Nat} (hk : most < k) (h0 : 0 ≤ most) (hq : 1 ≤ q) (h2 : ∀ j, j < k → yS p b j ≠ x) : logV p q b x most = (0, false) := by
  unfold logV
  rw [firstY_none _ fun j hj => h2 j (by omega)]

set_option maxHeartbeats 800000 in
theorem gLog_any (p q g base x most : Int) (w : World) (p1 : 2 ≤ p) (p2 : p ≤ 2000000000) (q1 : 1 ≤ q) (b0 : 0 ≤ base) (b1 : base < p) (m0 : 0 ≤ most) (m1 : most ≤ 1000000) (hy : yS p base q.toNat = 1) :
    Calls Try.prog 74 #[.agg #[.int .i64 p, .int .i64 q, .int .i64 g], .int .i64 base, .int .i64 x, .int .i64 most] w fun e' w' => e' = .returned (.tuple #[.int .i64 (logV p q base x most).1, .bool (logV p q base x most).2]) ∧ Below w.heap.size w w' := by
  have hne : (p == 0) = false := by simp; omega
  have HY := Lib.hid hy
  clear hy
  go_enter Try.func74, Try.ntmps74
  go_wp2
  go_loop [10, 11] (fun y e => ∃ k : Nat, (k : Int) ≤ most + 1 ∧ e = .int .i64 k ∧ y = .int .i64 (yS p base k) ∧ Hid (∀ j, j < k → yS p base j ≠ x) ∧ Hid (∀ j, 1 ≤ j → j ≤ k → yS p base j ≠ 1)) (fun _ e => (1000002 - intOf e).toNat)
  case atStart => exact ⟨0, by omega, rfl, rfl, Lib.hid (fun j hj => absurd hj (by omega)), Lib.hid (fun j h1 h2 => absurd h1 (by omega))⟩
  case round =>
    obtain ⟨k, hk, rfl, rfl, H1, H2⟩ := hrel
    by_cases hle : (k : Int) ≤ most
    · have hy := yS_bd base p1 k
      obtain ⟨c1, c2⟩ := mul1b hy ⟨b0, b1⟩ (by omega)
      have hs : yS p base (k + 1) = yS p base k * base % p := rfl
      generalize hyk : yS p base k = y at hs hy c1 c2
      have HK := Lib.hid hyk
      clear hyk
      by_cases hx : y = x
      · have hx' : (y == x) = true := by simp [hx]
        have HX := Lib.hid hx
        clear hx hs
        go_wp2
        go_ret2
        exact ⟨ret_ib (by rw [log_hit q1 hle (HK.out.trans HX.out) H1.out H2.out HY.out]), (by repeat (first | exact Below.refl _ _ | assumption | refine belA ?_ | refine belD ?_ | refine belN ?_ | refine belS ?_ (by simp) | refine belT ?_ (by assumption)))⟩
      · have hx' : (y == x) = false := by simp [hx]
        have HX := Lib.hid hx
        clear hx
        have HS := Lib.hid hs
        by_cases ho : y * base % p = 1
        · have ho' : (y * base % p == 1) = true := by simp [ho]
          have HO := Lib.hid ho
          clear ho hs
          go_wp2
          go_ret2
          exact ⟨ret_ib (by rw [log_stop (HS.out.trans HO.out) (upto_succ H1.out (by rw [HK.out]; exact HX.out))]), (by repeat (first | exact Below.refl _ _ | assumption | refine belA ?_ | refine belD ?_ | refine belN ?_ | refine belS ?_ (by simp) | refine belT ?_ (by assumption)))⟩
        · have ho' : (y * base % p == 1) = false := by simp [ho]
          have HO := Lib.hid ho
          clear ho hs
          go_wp2
          go_round
          case rel => exact ⟨k + 1, by omega, by go_num, by rw [HS.out], Lib.hid (upto_succ H1.out (by rw [HK.out]; exact HX.out)), Lib.hid (fun j h1 h2 => by
            rcases Nat.lt_or_ge j (k + 1) with h | h
            · exact H2.out j h1 (by omega)
            · rw [show j = k + 1 from by omega, HS.out]; exact HO.out)⟩
          case measure => simp [intOf]; omega
    · have hz : decide ((k : Int) ≤ most) = false := by simpa using hle
      go_wp2
      go_ret2
      exact ⟨ret_ib (by rw [log_end (k := k) (by omega) m0 q1 H1.out]), (by repeat (first | exact Below.refl _ _ | assumption | refine belA ?_ | refine belD ?_ | refine belN ?_ | refine belS ?_ (by simp) | refine belT ?_ (by assumption)))⟩

def logI (o : Option Nat) : Int := match o with
  | some e => (e : Int)
  | none => -1

set_option maxHeartbeats 800000 in
theorem log_any (p q g base x most : Int) (w : World) (p1 : 2 ≤ p) (p2 : p ≤ 2000000000) (b0 : 0 ≤ base) (b1 : base < p) (m0 : 0 ≤ most) (m1 : most ≤ 1000000) :
    Calls Try.prog 105 #[.agg #[.int .i64 p, .int .i64 q, .int .i64 g], .int .i64 base, .int .i64 x, .int .i64 most] w fun e' w' => e' = .returned (.int .i64 (logI (firstY p base x (most.toNat + 1)))) ∧ Below w.heap.size w w' := by
  have hb0 : Below w.heap.size w (w.alloc (.cells #[.int .i64 p, .int .i64 q, .int .i64 g] 28)) := belA (Below.refl _ _)
  go_enter Try.func105, Try.ntmps105
  go_wp2
  generalize hW0 : w.alloc (.cells #[.int .i64 p, .int .i64 q, .int .i64 g] 28) = W0 at hb0
  have hg : W0.cell? ⟨w.heap.size, 0, none⟩ = some (.int .i64 p) ∧ W0.cell? ⟨w.heap.size, 1, none⟩ = some (.int .i64 q) ∧ W0.cell? ⟨w.heap.size, 2, none⟩ = some (.int .i64 g) ∧ w.heap.size < W0.heap.size := by
    subst hW0
    refine ⟨?_, ?_, ?_, ?_⟩ <;> simp [World.cell?_alloc_at]
  have HG := Lib.hid hg
  clear hg hW0
  go_loopw [9, 13] (fun y e wr => ∃ k : Nat, (k : Int) ≤ most + 1 ∧ e = .int .i64 k ∧ y = .int .i64 (yS p base k) ∧ Hid (∀ j, j < k → yS p base j ≠ x) ∧ Hid (Below W0.heap.size W0 wr)) (fun _ e _ => (1000002 - intOf e).toNat)
  case atStart => exact ⟨0, by omega, rfl, rfl, Lib.hid (fun j hj => absurd hj (by omega)), Lib.hid (Below.refl _ _)⟩
  case round =>
    obtain ⟨k, hk, rfl, rfl, H1, HB⟩ := hrel
    by_cases hle : (k : Int) ≤ most
    · obtain ⟨g1, g2, g3, g4⟩ := HG.out
      have k1 := (HB.out.cell (p := ⟨w.heap.size, 0, none⟩) g4).trans g1
      have k2 := (HB.out.cell (p := ⟨w.heap.size, 1, none⟩) g4).trans g2
      have k3 := (HB.out.cell (p := ⟨w.heap.size, 2, none⟩) g4).trans g3
      clear g1 g2 g3 g4
      have hy := yS_bd base p1 k
      have hs : yS p base (k + 1) = mulK p [yS p base k, base] 2 := (mul2 hy.1 hy.2).symm
      have hsm := small2 hy ⟨b0, b1⟩
      generalize hyk : yS p base k = y at hs hy hsm
      have HK := Lib.hid hyk
      have HS := Lib.hid hs
      have HZ := Lib.hid hsm
      clear hyk hs hsm
      have hlt : (k : Int) < most + 1 := by omega
      have hB := HB.out
      by_cases hx : y = x
      · have hx' : (y == x) = true := by simp [hx]
        have HX := Lib.hid hx
        clear hx
        go_wp2
        go_ret
        exact ⟨ret_int (by rw [firstY_some (HK.out.trans HX.out) H1.out _ (by omega)]; rfl), belT hb0 HB.out⟩
      · have hx' : (y == x) = false := by simp [hx]
        have HX := Lib.hid hx
        clear hx
        go_wp2_with (go_at_call 99; refine (mul_any p q g _ 2 2 [y, base] _ (Ints.two (by rw [World.cell?_alloc_at _ _ _ _ rfl]; rfl) (by rw [World.cell?_alloc_at _ _ _ _ rfl]; rfl)) (by omega) (by omega) HZ.out).mono ?_; rintro e' w1 ⟨rfl, hb1⟩; rw [← HS.out])
        go_roundw
        case rel => exact ⟨k + 1, by omega, by go_num, rfl, Lib.hid (upto_succ H1.out (by rw [HK.out]; exact HX.out)), Lib.hid (by repeat (first | exact Below.refl _ _ | assumption | refine belA ?_ | refine belD ?_ | refine belN ?_ | refine belS ?_ (by simp) | refine belT ?_ (by assumption)))⟩
        case measure => simp [intOf]; omega
    · have hz : decide ((k : Int) < most + 1) = false := by simp; omega
      go_wp2
      go_ret
      exact ⟨ret_int (by rw [firstY_none _ fun j hj => H1.out j (by omega)]; rfl), belT hb0 HB.out⟩

def logM (p q g b x most : Int) : Int × Bool := if goodB p q g && hasB p q b && hasB p q x && inB most 0 1000000 then logV p q b x most else (0, false)
theorem has_yS {p q b : Int} (hp : 2 ≤ p) (hq : 0 ≤ q) (h : hasB p q b = true) : yS p b q.toNat = 1 := by
  have hb := has_small h
  rw [yS_pw hp hb.1, show ((q.toNat : Nat) : Int) = q from by omega]
  simp only [hasB, Bool.and_eq_true, beq_iff_eq] at h
  exact h.2
theorem two_all (f : Int → Bool) (x y : Int) : [x, y].all f = (f x && f y) := by simp


set_option maxHeartbeats 800000 in
theorem iLogOf_any (p q g b x most : Int) (w : World) :
    Calls Try.prog 75 #[.agg #[.int .i64 p, .int .i64 q, .int .i64 g], .int .i64 b, .int .i64 x, .int .i64 most] w fun e' w' => e' = .returned (.tuple #[.int .i64 (logM p q g b x most).1, .bool (logM p q g b x most).2]) ∧ Below w.heap.size w w' := by
  go_enter Try.func75, Try.ntmps75
  go_wp2_with fail
  refine (IsValidGroup_any p q g _).mono ?_
  rintro e w1_ ⟨rfl, hb1⟩
  have hW := hb1
  obtain ⟨hc, hf⟩ := bcell hW
  cases q1 : goodB p q g
  · go_wp2
    go_ret2
    exact ⟨ret_ib (by simp [logM, q1]), belT (by repeat (first | exact Below.refl _ _ | assumption | refine belA ?_ | refine belD ?_ | refine belN ?_ | refine belS ?_ (by simp) | refine belT ?_ (by assumption))) hW⟩
  obtain ⟨g1, g2, g3, g4, g5, g6⟩ := good_om q1
  go_wp2_with fail
  refine (hasAll_any p q g _ 2 2 [b, x] _ (Ints.two (by rw [World.cell?_alloc_at _ _ _ _ rfl]; rfl) (by rw [World.cell?_alloc_at _ _ _ _ rfl]; rfl)) g1 g2 g3 g4).mono ?_
  rintro e w2_ ⟨rfl, hb2⟩
  clear hc hf
  replace hW := belT (belA hW) hb2
  obtain ⟨hc, hf⟩ := bcell hW
  rw [two_all]
  cases q2 : (hasB p q b && hasB p q x)
  · go_wp2
    go_ret2
    exact ⟨ret_ib (by rw [logM, Bool.and_assoc (goodB p q g), q2]; simp), belT (by repeat (first | exact Below.refl _ _ | assumption | refine belA ?_ | refine belD ?_ | refine belN ?_ | refine belS ?_ (by simp) | refine belT ?_ (by assumption))) hW⟩
  have hbx := q2
  simp only [Bool.and_eq_true] at hbx
  obtain ⟨hb', hx'⟩ := hbx
  obtain ⟨x1, x2⟩ := has_small hb'
  have HX := Lib.hid (And.intro hb' hx')
  clear hb' hx'
  go_wp2_with fail
  refine (within_any _ _ _ _).mono ?_
  rintro e w' ⟨rfl, rfl⟩
  cases hq : inB most 0 1000000
  · go_wp2
    go_ret2
    exact ⟨ret_ib (by simp [logM, hq]), belT (by repeat (first | exact Below.refl _ _ | assumption | refine belA ?_ | refine belD ?_ | refine belN ?_ | refine belS ?_ (by simp) | refine belT ?_ (by assumption))) hW⟩
  obtain ⟨m1, m2⟩ := inB_true hq
  go_wp2_with fail
  · have hV : logV p q b x most = match firstY p b x ((q - 1).toNat + 1) with
      | some e => ((e : Int), true)
      | none => (0, false) := by unfold logV; rw [show min most (q - 1) = q - 1 from by omega]
    refine (log_any p q g b x _ _ (by omega) (by omega) x1 x2 (by omega) (by omega)).mono ?_
    rintro e w3_ ⟨rfl, hb3⟩
    replace hW := belT hW hb3
    have HV := Lib.hid hV
    clear hV
    cases hf : firstY p b x ((q - 1).toNat + 1) with
    | none =>
      rw [hf] at HV
      have hi : logI none = -1 := rfl
      rw [hi]
      go_wp2
      go_ret2
      exact ⟨ret_ib (by simp [logM, q1, HX.out.1, HX.out.2, hq, HV.out]), belT (by repeat (first | exact Below.refl _ _ | assumption | refine belA ?_ | refine belD ?_ | refine belN ?_ | refine belS ?_ (by simp) | refine belT ?_ (by assumption))) hW⟩
    | some e =>
      rw [hf] at HV
      have hi : logI (some e) = (e : Int) := rfl
      rw [hi]
      have he : (0 : Int) ≤ (e : Int) := by omega
      go_wp2
      go_ret2
      exact ⟨ret_ib (by simp [logM, q1, HX.out.1, HX.out.2, hq, HV.out]), belT (by repeat (first | exact Below.refl _ _ | assumption | refine belA ?_ | refine belD ?_ | refine belN ?_ | refine belS ?_ (by simp) | refine belT ?_ (by assumption))) hW⟩
  · have hV : logV p q b x most = match firstY p b x (most.toNat + 1) with
      | some e => ((e : Int), true)
      | none => (0, false) := by unfold logV; rw [show min most (q - 1) = most from by omega]
    refine (log_any p q g b x _ _ (by omega) (by omega) x1 x2 (by omega) (by omega)).mono ?_
    rintro e w3_ ⟨rfl, hb3⟩
    replace hW := belT hW hb3
    have HV := Lib.hid hV
    clear hV
    cases hf : firstY p b x (most.toNat + 1) with
    | none =>
      rw [hf] at HV
      have hi : logI none = -1 := rfl
      rw [hi]
      go_wp2
      go_ret2
      exact ⟨ret_ib (by simp [logM, q1, HX.out.1, HX.out.2, hq, HV.out]), belT (by repeat (first | exact Below.refl _ _ | assumption | refine belA ?_ | refine belD ?_ | refine belN ?_ | refine belS ?_ (by simp) | refine belT ?_ (by assumption))) hW⟩
    | some e =>
      rw [hf] at HV
      have hi : logI (some e) = (e : Int) := rfl
      rw [hi]
      have he : (0 : Int) ≤ (e : Int) := by omega
      go_wp2
      go_ret2
      exact ⟨ret_ib (by simp [logM, q1, HX.out.1, HX.out.2, hq, HV.out]), belT (by repeat (first | exact Below.refl _ _ | assumption | refine belA ?_ | refine belD ?_ | refine belN ?_ | refine belS ?_ (by simp) | refine belT ?_ (by assumption))) hW⟩
end Go.Proofs.Ytemhjhaokbgldaa
