/- Contracts: derived elements, on both sides. -/
import Derived.Test.YtggmcbhijbggdaaCh
import Derived.Test.YtggmcbhijbggdaaEl
namespace Go.Proofs.Ytggmcbhijbggdaa
open Go.RowKit
set_option linter.unusedVariables false
attribute [local go_sem ↓] Go.wp_at_zero Go.wp_at_succ

/-! ## the plain law -/
def derX (p q g : Int) (s : ByteArray) (k : Int) (c : Nat) : Int := 1 + hashV (labL s [p, q, g, k, (c : Int)]) % (p - 1)
def derY (p q g : Int) (s : ByteArray) (k : Int) (c : Nat) : Int := pw (derX p q g s k c) ((p - 1) / q) p
/-- the first number below n whose power is not 1: the power -/
def derK (p q g : Int) (s : ByteArray) (k : Int) : Nat → Option Int
  | 0 => none
  | n + 1 => match derK p q g s k n with
    | some y => some y
    | none => if derY p q g s k n = 1 then none else some (derY p q g s k n)
def optI (o : Option Int) : Int := match o with
  | some y => y
  | none => 0
def optB (o : Option Int) : Bool := match o with
  | some _ => true
  | none => false
theorem derK_none {p q g k : Int} {s : ByteArray} : ∀ n, (∀ j, j < n → derY p q g s k j = 1) → derK p q g s k n = none
  | 0, _ => rfl
  | n + 1, h => by
    rw [derK, derK_none n fun j hj => h j (by omega)]
    simp [h n (by omega)]
theorem derK_some {p q g k : Int} {s : ByteArray} {e : Nat} (h1 : derY p q g s k e ≠ 1) (h2 : ∀ j, j < e → derY p q g s k j = 1) : ∀ n, e < n → derK p q g s k n = some (derY p q g s k e)
  | 0, h => absurd h (by omega)
  | n + 1, h => by
    rw [derK]
    rcases Nat.lt_or_ge e n with h3 | h3
    · rw [derK_some h1 h2 n h3]
    · have e' : e = n := by omega
      subst e'
      rw [derK_none e h2]
      simp [h1]
theorem derX_bd {p q g k : Int} {s : ByteArray} {c : Nat} (hp : 3 ≤ p) : 1 ≤ derX p q g s k c ∧ derX p q g s k c < p := by
  have h1 := Int.emod_nonneg (hashV (labL s [p, q, g, k, (c : Int)])) (show p - 1 ≠ 0 by omega)
  have h2 := Int.emod_lt_of_pos (hashV (labL s [p, q, g, k, (c : Int)])) (show 0 < p - 1 by omega)
  unfold derX
  omega
/-- a power of what is not 0 is not 0 -/
theorem pw_pos {a e p : Int} (hp : primeB p = true) (h2 : 2 ≤ p) (h0 : 1 ≤ a) (h1 : a < p) : 0 < pw a e p := by
  have hP := (primeB_iff p).1 hp
  have hb := pw_bd (a := a) (e := e) (m := p) (by omega)
  rcases Int.lt_or_le 0 (pw a e p) with h | h
  · exact h
  · exfalso
    have h0' : pw a e p = 0 := by omega
    unfold pw at h0'
    have hd : p.toNat ∣ a.toNat ^ e.toNat := Nat.dvd_of_mod_eq_zero (by omega)
    have := NT.euclid_pow hP hd
    exact NT.not_dvd_small (by omega) (by omega) this
theorem derK_pos {p q g k : Int} {s : ByteArray} (hg : goodB p q g = true) : ∀ n y, derK p q g s k n = some y → 0 < y
  | 0, y, h => by simp [derK] at h
  | n + 1, y, h => by
    have G := good_of hg
    rw [derK] at h
    cases hd : derK p q g s k n with
    | some z =>
      rw [hd] at h
      injection h with h
      subst h
      exact derK_pos hg n z hd
    | none =>
      rw [hd] at h
      by_cases h1 : derY p q g s k n = 1
      · simp [h1] at h
      · simp only [h1, if_false] at h
        injection h with h
        subst h
        have hx := derX_bd (q := q) (g := g) (s := s) (k := k) (c := n) G.p1
        exact pw_pos G.pp (by have := G.p1; omega) hx.1 hx.2
theorem opt_gt {o : Option Int} (h : ∀ y, o = some y → 0 < y) : decide (0 < optI o) = optB o := by
  cases o with
  | none => rfl
  | some y =>
    have := h y rfl
    simp [optI, optB, this]
theorem der_digs {p q g k : Int} {c : Nat} (h : goodB p q g = true) (hk : digB k = true) (hc : c ≤ 1000) : digsB [p, q, g, k, (c : Int)] = true := by
  have := chL_digs (zs := [k, (c : Int)]) h
  have h1 : digB (c : Int) = true := inB_mk (by omega) (by omega)
  rw [show chL p q g [k, (c : Int)] = [p, q, g, k, (c : Int)] from rfl] at this
  rw [this]
  simp [digsB, hk, h1]
theorem ddiv_bd {p q : Int} (h1 : 3 ≤ p) (h2 : p ≤ 2000000000) (h3 : 2 ≤ q) : 0 ≤ (p - 1) / q ∧ (p - 1) / q ≤ 2000000000 := by
  have a := Int.ediv_nonneg (show 0 ≤ p - 1 by omega) (show 0 ≤ q by omega)
  have b : (p - 1) / q ≤ p - 1 := Int.ediv_le_self _ (by omega)
  omega
theorem ints_lit5 (W : World) (H : Nat) (a b c d e : Int) (hH : W.heap.size = H) : Ints (W.alloc (.cells #[.int .i64 a, .int .i64 b, .int .i64 c, .int .i64 d, .int .i64 e] 3)) (some ⟨H, 0, none⟩) 5 [a, b, c, d, e] := by
  subst hH
  exact Ints.of_own (World.ownsRow_lit (base := 0) (e := 3) (size := 1) W #[.int .i64 a, .int .i64 b, .int .i64 c, .int .i64 d, .int .i64 e] 5 (Nat.zero_le _) (by simp [maxLen]) (by simp))

set_option maxRecDepth 100000 in
set_option maxHeartbeats 1600000 in
theorem hDerived_any (p q g : Int) (s : ByteArray) (k : Int) (w : World) (hg : goodB p q g = true) (hk : digB k = true) (hs : s.size ≤ 100000) :
    Calls Try.prog 70 #[.agg #[.int .i64 p, .int .i64 q, .int .i64 g], .string s, .int .i64 k] w fun e w' => e = .returned (.int .i64 (optI (derK p q g s k 1000))) ∧ Below w.heap.size w w' := by
  obtain ⟨g1, g2, g3, g4, g5, g6⟩ := good_om hg
  obtain ⟨d1, d2⟩ := ddiv_bd g1 g2 g3
  have HG := Lib.hid (And.intro hg hk)
  have hb0 : Below w.heap.size w (w.alloc (.cells #[.int .i64 p, .int .i64 q, .int .i64 g] 33)) := belA (Below.refl _ _)
  clear hg hk
  go_enter Try.func70, Try.ntmps70
  go_wp2
  generalize hW0 : w.alloc (.cells #[.int .i64 p, .int .i64 q, .int .i64 g] 33) = W0 at hb0
  have hgg : W0.cell? ⟨w.heap.size, 0, none⟩ = some (.int .i64 p) ∧ W0.cell? ⟨w.heap.size, 1, none⟩ = some (.int .i64 q) ∧ W0.cell? ⟨w.heap.size, 2, none⟩ = some (.int .i64 g) ∧ w.heap.size < W0.heap.size := by
    subst hW0
    refine ⟨?_, ?_, ?_, ?_⟩ <;> simp [World.cell?_alloc_at]
  have HC := Lib.hid hgg
  clear hgg hW0
  go_loopw [7] (fun i wr => ∃ c : Nat, c ≤ 1000 ∧ i = .int .i64 c ∧ Hid (∀ j, j < c → derY p q g s k j = 1) ∧ Hid (Below W0.heap.size W0 wr)) (fun i _ => 1000 - (intOf i).toNat)
  case atStart => exact ⟨0, by omega, rfl, Lib.hid (fun j hj => absurd hj (by omega)), Lib.hid (Below.refl _ _)⟩
  case round =>
    obtain ⟨c, hc, rfl, H1, H2⟩ := hrel
    by_cases hlt : c < 1000
    · obtain ⟨c1, c2, c3, c4⟩ := HC.out
      have k1 := keepB H2.out c1
      have k2 := keepB H2.out c2
      have k3 := keepB H2.out c3
      have hB := H2.out
      clear c1 c2 c3 c4
      have hxb := derX_bd (q := q) (g := g) (s := s) (k := k) (c := c) g1
      have hds := Lib.hid (der_digs HG.out.1 HG.out.2 (show c ≤ 1000 by omega))
      have hhb := hash_bd (labL s [p, q, g, k, (c : Int)])
      have e1 : derX p q g s k c = 1 + hashV (labL s [p, q, g, k, (c : Int)]) % (p - 1) := rfl
      have e2 : derY p q g s k c = pw (derX p q g s k c) ((p - 1) / q) p := rfl
      generalize hdd : hashV (labL s [p, q, g, k, (c : Int)]) = d at hhb e1
      generalize derX p q g s k c = x at hxb e1 e2
      generalize hyy : derY p q g s k c = y at e2
      obtain ⟨x0, x1⟩ := hxb
      obtain ⟨dd0, dd1⟩ := hhb
      have m1 := Int.emod_nonneg d (show p - 1 ≠ 0 by omega)
      have m2 := Int.emod_lt_of_pos d (show 0 < p - 1 by omega)
      have HD := Lib.hid hdd
      have HX := Lib.hid e1
      have HY := Lib.hid e2
      have HZ := Lib.hid hyy
      have n1 : ¬ p - 1 = 0 := by omega
      have n2 : ¬ p = 1 := by omega
      have n3 : ¬ q = 0 := by omega
      have hw0 : IntKind.i64.wrap (p - 1) = p - 1 := IntWalk.i64_in _ (by omega)
      have hw1 : IntKind.i64.wrap (1 + d % (p - 1)) = 1 + d % (p - 1) := IntWalk.i64_in _ (by omega)
      have hm : d.tmod (p - 1) = d % (p - 1) := Int.tmod_eq_emod_of_nonneg dd0
      clear hdd e1 e2 hyy
      go_wp2
      go_region_held3 (fun W => W.cell? ⟨w.heap.size, 0, none⟩ = some (.int .i64 p) ∧ W.cell? ⟨w.heap.size, 1, none⟩ = some (.int .i64 q) ∧ W.cell? ⟨w.heap.size, 2, none⟩ = some (.int .i64 g)) (first | (go_split_ands; (repeat' apply And.intro) <;> first | assumption | exact keepB hb1 (by assumption) | (refine keepS (by simp <;> omega) (keepS (by simp <;> omega) ?_); assumption) | (refine keepS (by simp <;> omega) ?_; assumption) | (refine keepB (belA (Below.refl _ _)) ?_; assumption) | go_keep) | go_keep) ((go_at_call 59; refine (hLabelled_any s _ 5 5 [p, q, g, k, (c : Int)] _ (Ints.drew (ints_lit5 _ _ p q g k (c : Int) rfl)) (by omega) (by omega) hds.out).mono ?_; rintro e' w1 ⟨rfl, hb1⟩; rw [HD.out]))
      rw [← HX.out]
      clear hw0 hw1 hm m1 m2
      have hX := belT (belD (belA hB)) hb1
      clear k1 k2 k3
      obtain ⟨c1, c2, c3, c4⟩ := HC.out
      have k1 := keepB hX c1
      have k2 := keepB hX c2
      have k3 := keepB hX c3
      have HX2 := Lib.hid hX
      clear hX hb1 c1 c2 c3 c4
      go_wp2
      go_quiet ((first | (go_at_call 98; exact Calls.quiet_of_same (quietL (nPower_any _ _ _ _ (by omega) (by omega) (by omega) (by omega))))))
      rw [← HY.out]
      by_cases hy1 : y = 1
      · have hy2 : (y != 1) = false := by simp [hy1]
        have HN := Lib.hid hy1
        clear hy1
        go_wp2
        go_roundw
        case rel => exact ⟨c + 1, by omega, by go_num, Lib.hid (upto_succ H1.out (HZ.out.trans HN.out)), Lib.hid (belN HX2.out)⟩
        case measure => simp [intOf]; omega
      · have hy2 : (y != 1) = true := by simp [hy1]
        have HN := Lib.hid hy1
        clear hy1
        go_wp2
        go_ret
        exact ⟨ret_int (by rw [derK_some (by rw [HZ.out]; exact HN.out) H1.out 1000 hlt, HZ.out]; rfl), belN (belT hb0 HX2.out)⟩
    · have e : c = 1000 := by omega
      subst e
      go_wp2
      go_ret
      exact ⟨ret_int (by rw [derK_none 1000 H1.out]; rfl), belT hb0 H2.out⟩

theorem hl_der {p q g k : Int} {s : ByteArray} {c : Nat} (h : goodB p q g = true) (hk : digB k = true) (hc : c ≤ 1000) (hs : s.size ≤ 40) : hlM s [p, q, g, k, (c : Int)] = (hashV (labL s [p, q, g, k, (c : Int)]), true) := by
  have e : lbB s [p, q, g, k, (c : Int)] 0 = true := by
    rw [lbB, der_digs h hk hc, decide_eq_true hs]
    simp
    omega
  rw [hlM, e]
  rfl
theorem hl_long {l : List Int} {s : ByteArray} (hs : 40 < s.size) : hlM s l = (0, false) := hl_no (.inl hs)
def dvW (p q g : Int) (s : ByteArray) (k : Int) : Int × Bool := if decide (s.size ≤ 40) then (optI (derK p q g s k 1000), optB (derK p q g s k 1000)) else (0, false)
set_option maxRecDepth 100000 in
set_option maxHeartbeats 1600000 in
theorem derive_any (p q g : Int) (s : ByteArray) (k : Int) (w : World) (hg : goodB p q g = true) (hk : digB k = true) :
    Calls Try.prog 72 #[.agg #[.int .i64 p, .int .i64 q, .int .i64 g], .string s, .int .i64 k] w fun e w' => e = .returned (.tuple #[.int .i64 (dvW p q g s k).1, .bool (dvW p q g s k).2]) ∧ Below w.heap.size w w' := by
  obtain ⟨g1, g2, g3, g4, g5, g6⟩ := good_om hg
  obtain ⟨d1, d2⟩ := ddiv_bd g1 g2 g3
  have HG := Lib.hid (And.intro hg hk)
  have hb0 : Below w.heap.size w (w.alloc (.cells #[.int .i64 p, .int .i64 q, .int .i64 g] 33)) := belA (Below.refl _ _)
  clear hg hk
  by_cases hs : s.size ≤ 40
  · have HW : Hid (dvW p q g s k = (optI (derK p q g s k 1000), optB (derK p q g s k 1000))) := Lib.hid (by rw [dvW, decide_eq_true hs]; rfl)
    go_enter Try.func72, Try.ntmps72
    go_wp2
    generalize hW0 : w.alloc (.cells #[.int .i64 p, .int .i64 q, .int .i64 g] 33) = W0 at hb0
    have hgg : W0.cell? ⟨w.heap.size, 0, none⟩ = some (.int .i64 p) ∧ W0.cell? ⟨w.heap.size, 1, none⟩ = some (.int .i64 q) ∧ W0.cell? ⟨w.heap.size, 2, none⟩ = some (.int .i64 g) ∧ w.heap.size < W0.heap.size := by
      subst hW0
      refine ⟨?_, ?_, ?_, ?_⟩ <;> simp [World.cell?_alloc_at]
    have HC := Lib.hid hgg
    clear hgg hW0
    go_loopw [12] (fun i wr => ∃ c : Nat, c ≤ 1000 ∧ i = .int .i64 c ∧ Hid (∀ j, j < c → derY p q g s k j = 1) ∧ Hid (Below W0.heap.size W0 wr)) (fun i _ => 1000 - (intOf i).toNat)
    case atStart => exact ⟨0, by omega, rfl, Lib.hid (fun j hj => absurd hj (by omega)), Lib.hid (Below.refl _ _)⟩
    case round =>
      obtain ⟨c, hc, rfl, H1, H2⟩ := hrel
      by_cases hlt : c < 1000
      · obtain ⟨c1, c2, c3, c4⟩ := HC.out
        have k1 := keepB H2.out c1
        have k2 := keepB H2.out c2
        have k3 := keepB H2.out c3
        have hB := H2.out
        clear c1 c2 c3 c4
        have hxb := derX_bd (q := q) (g := g) (s := s) (k := k) (c := c) g1
        have hds := Lib.hid (hl_der HG.out.1 HG.out.2 (show c ≤ 1000 by omega) hs)
        have hhb := hash_bd (labL s [p, q, g, k, (c : Int)])
        have e1 : derX p q g s k c = 1 + hashV (labL s [p, q, g, k, (c : Int)]) % (p - 1) := rfl
        have e2 : derY p q g s k c = pw (derX p q g s k c) ((p - 1) / q) p := rfl
        generalize hashV (labL s [p, q, g, k, (c : Int)]) = d at hhb e1 hds
        generalize derX p q g s k c = x at hxb e1 e2
        generalize hyy : derY p q g s k c = y at e2
        obtain ⟨x0, x1⟩ := hxb
        obtain ⟨dd0, dd1⟩ := hhb
        have HX := Lib.hid e1
        have HY := Lib.hid e2
        have HZ := Lib.hid hyy
        clear e1 e2 hyy
        go_wp2_with fail
        refine (iHashLabelled_any s _ 5 5 [p, q, g, k, (c : Int)] _ (ints_lit5 _ _ p q g k (c : Int) rfl) (by omega)).mono ?_
        rintro e' w1 ⟨rfl, hb1⟩
        rw [hds.out]
        have hX := belT (belA hB) hb1
        clear k1 k2 k3
        obtain ⟨c1, c2, c3, c4⟩ := HC.out
        have k1 := keepB hX c1
        have k2 := keepB hX c2
        have k3 := keepB hX c3
        have HX2 := Lib.hid hX
        clear hX hb1 c1 c2 c3 c4
        have m1 := Int.emod_nonneg d (show p - 1 ≠ 0 by omega)
        have m2 := Int.emod_lt_of_pos d (show 0 < p - 1 by omega)
        have n1 : ¬ p - 1 = 0 := by omega
        have n2 : ¬ p = 1 := by omega
        have n3 : ¬ q = 0 := by omega
        have hw0 : IntKind.i64.wrap (p - 1) = p - 1 := IntWalk.i64_in _ (by omega)
        have hw1 : IntKind.i64.wrap (1 + d % (p - 1)) = x := by rw [IntWalk.i64_in _ (by omega), HX.out]
        have hm : d.tmod (p - 1) = d % (p - 1) := Int.tmod_eq_emod_of_nonneg dd0
        go_wp2
        go_quiet ((first | (go_at_call 101; exact Calls.quiet_of_same (quietL (power_any _ _ _ _ (by omega) (by omega) (by omega) (by omega))))))
        clear hw0 hw1 hm m1 m2
        rw [← HY.out]
        by_cases hy1 : y = 1
        · have hy2 : (y != 1) = false := by simp [hy1]
          have HN := Lib.hid hy1
          clear hy1
          go_wp2
          go_roundw
          case rel => exact ⟨c + 1, by omega, by go_num, Lib.hid (upto_succ H1.out (HZ.out.trans HN.out)), Lib.hid (belN HX2.out)⟩
          case measure => simp [intOf]; omega
        · have hy2 : (y != 1) = true := by simp [hy1]
          have HN := Lib.hid hy1
          clear hy1
          go_wp2
          go_ret2
          exact ⟨ret_ib (by rw [HW.out, derK_some (by rw [HZ.out]; exact HN.out) H1.out 1000 hlt, HZ.out]; rfl), belN (belT hb0 HX2.out)⟩
      · have e : c = 1000 := by omega
        subst e
        go_wp2
        go_ret2
        exact ⟨ret_ib (by rw [HW.out, derK_none 1000 H1.out]; rfl), belT hb0 H2.out⟩
  · have HW : Hid (dvW p q g s k = (0, false)) := Lib.hid (by rw [dvW, decide_eq_false hs]; rfl)
    go_enter Try.func72, Try.ntmps72
    go_wp2
    refine wp_loop_rounds 1 ?_
    rw [rounds_succ]
    have HN := Lib.hid (hl_long (l := [p, q, g, k, ((0 : Nat) : Int)]) (s := s) (by omega))
    go_wp2_with fail
    refine (iHashLabelled_any s _ 5 5 [p, q, g, k, ((0 : Nat) : Int)] _ (ints_lit5 _ _ p q g k 0 (by simp)) (by omega)).mono ?_
    rintro e' w1 ⟨rfl, hb1⟩
    rw [HN.out]
    go_wp2
    go_ret2
    exact ⟨ret_ib (by rw [HW.out]), belT (by repeat (first | exact Below.refl _ _ | assumption | refine belA ?_ | refine belD ?_ | refine belN ?_ | refine belS ?_ (by simp) | refine belT ?_ (by assumption))) hb1⟩

def dvM (p q g : Int) (s : ByteArray) (k : Int) : Int × Bool := if goodB p q g && decide (s.size ≤ 40) && digB k then (optI (derK p q g s k 1000), optB (derK p q g s k 1000)) else (0, false)
set_option maxHeartbeats 800000 in
theorem l3Digest_any (z : Int) (w : World) :
    Calls Try.prog 69 #[.int .i64 z] w fun e w' => e = .returned (.bool (digB z)) ∧ w = w' := by
  go_enter Try.func69, Try.ntmps69
  go_wp2_with (first | (go_at_call 65; refine (l1In_any _ _ _ _).mono ?_; rintro e w' ⟨rfl, rfl⟩))
  go_ret
  exact ⟨rfl, rfl⟩
set_option maxHeartbeats 800000 in
theorem sDeriveElement_any (p q g : Int) (s : ByteArray) (k : Int) (w : World) (hs : s.size ≤ 10000000) :
    Calls Try.prog 28 #[.agg #[.int .i64 p, .int .i64 q, .int .i64 g], .string s, .int .i64 k] w fun e w' => e = .returned (.tuple #[.int .i64 (dvM p q g s k).1, .bool (dvM p q g s k).2]) ∧ Below w.heap.size w w' := by
  by_cases h40 : s.size ≤ 40
  · have hd' : decide ((40 : Int) < (s.size : Int)) = false := by simp; omega
    have HD := Lib.hid (decide_eq_true h40)
    go_enter Try.func28, Try.ntmps28
    go_wp2_with fail
    refine (l2Good_any p q g _).mono ?_
    rintro e w1_ ⟨rfl, hb1⟩
    have hW := hb1
    obtain ⟨hc, hf⟩ := bcell hW
    cases q1 : goodB p q g
    · go_wp2
      go_ret2
      exact ⟨ret_ib (by simp [dvM, q1]), belT (by repeat (first | exact Below.refl _ _ | assumption | refine belA ?_ | refine belD ?_ | refine belN ?_ | refine belS ?_ (by simp) | refine belT ?_ (by assumption))) hW⟩
    go_wp2_with fail
    refine (l3Digest_any k _).mono ?_
    rintro e w' ⟨rfl, rfl⟩
    cases hk : digB k
    · go_wp2
      go_ret2
      exact ⟨ret_ib (by simp [dvM, hk]), belT (by repeat (first | exact Below.refl _ _ | assumption | refine belA ?_ | refine belD ?_ | refine belN ?_ | refine belS ?_ (by simp) | refine belT ?_ (by assumption))) hW⟩
    · have HO := Lib.hid (opt_gt (derK_pos (k := k) (s := s) q1 1000))
      go_wp2_with fail
      refine (hDerived_any p q g s k _ q1 hk (by omega)).mono ?_
      rintro e w2_ ⟨rfl, hb2⟩
      clear hc hf
      replace hW := belT hW hb2
      obtain ⟨hc, hf⟩ := bcell hW
      generalize hod : derK p q g s k 1000 = od at HO
      have HOD := Lib.hid hod
      clear hod
      go_wp2
      rw [HO.out]
      go_ret2
      exact ⟨ret_ib (by rw [dvM, q1, HD.out, hk, HOD.out]; rfl), belT (by repeat (first | exact Below.refl _ _ | assumption | refine belA ?_ | refine belD ?_ | refine belN ?_ | refine belS ?_ (by simp) | refine belT ?_ (by assumption))) hW⟩
  · have hd' : decide ((40 : Int) < (s.size : Int)) = true := by simp; omega
    have HD := Lib.hid (decide_eq_false h40)
    go_enter Try.func28, Try.ntmps28
    go_wp2_with fail
    refine (l2Good_any p q g _).mono ?_
    rintro e w1_ ⟨rfl, hb1⟩
    have hW := hb1
    obtain ⟨hc, hf⟩ := bcell hW
    cases q1 : goodB p q g
    · go_wp2
      go_ret2
      exact ⟨ret_ib (by simp [dvM, q1]), belT (by repeat (first | exact Below.refl _ _ | assumption | refine belA ?_ | refine belD ?_ | refine belN ?_ | refine belS ?_ (by simp) | refine belT ?_ (by assumption))) hW⟩
    go_wp2
    go_ret2
    exact ⟨ret_ib (by rw [dvM, q1, HD.out]; rfl), belT (by repeat (first | exact Below.refl _ _ | assumption | refine belA ?_ | refine belD ?_ | refine belN ?_ | refine belS ?_ (by simp) | refine belT ?_ (by assumption))) hW⟩
set_option maxHeartbeats 800000 in
theorem iDeriveElement_any (p q g : Int) (s : ByteArray) (k : Int) (w : World) (hs : s.size ≤ 10000000) :
    Calls Try.prog 29 #[.agg #[.int .i64 p, .int .i64 q, .int .i64 g], .string s, .int .i64 k] w fun e w' => e = .returned (.tuple #[.int .i64 (dvM p q g s k).1, .bool (dvM p q g s k).2]) ∧ Below w.heap.size w w' := by
  go_enter Try.func29, Try.ntmps29
  go_wp2_with fail
  refine (IsValidGroup_any p q g _).mono ?_
  rintro e w1_ ⟨rfl, hb1⟩
  have hW := hb1
  obtain ⟨hc, hf⟩ := bcell hW
  cases q1 : goodB p q g
  · go_wp2
    go_ret2
    exact ⟨ret_ib (by simp [dvM, q1]), belT (by repeat (first | exact Below.refl _ _ | assumption | refine belA ?_ | refine belD ?_ | refine belN ?_ | refine belS ?_ (by simp) | refine belT ?_ (by assumption))) hW⟩
  go_wp2_with fail
  refine (isDigest_any k _).mono ?_
  rintro e w' ⟨rfl, rfl⟩
  cases hk : digB k
  · go_wp2
    go_ret2
    exact ⟨ret_ib (by simp [dvM, hk]), belT (by repeat (first | exact Below.refl _ _ | assumption | refine belA ?_ | refine belD ?_ | refine belN ?_ | refine belS ?_ (by simp) | refine belT ?_ (by assumption))) hW⟩
  ·
    go_wp2_with fail
    refine (derive_any p q g s k _ q1 hk).mono ?_
    rintro e w2_ ⟨rfl, hb2⟩
    clear hc hf
    replace hW := belT hW hb2
    obtain ⟨hc, hf⟩ := bcell hW
    go_wp2
    go_ret2
    exact ⟨ret_ib (by rw [dvM, dvW, q1, hk]; simp), belT (by repeat (first | exact Below.refl _ _ | assumption | refine belA ?_ | refine belD ?_ | refine belN ?_ | refine belS ?_ (by simp) | refine belT ?_ (by assumption))) hW⟩
end Go.Proofs.Ytggmcbhijbggdaa
