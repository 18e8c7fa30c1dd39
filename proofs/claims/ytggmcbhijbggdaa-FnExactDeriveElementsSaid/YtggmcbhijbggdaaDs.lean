/- Contracts: lists of derived elements, texts as records, on both sides. -/
import Derived.Test.YtggmcbhijbggdaaDv
namespace Go.Proofs.Ytggmcbhijbggdaa
open Go.RowKit
set_option linter.unusedVariables false
attribute [local go_sem ↓] Go.wp_at_zero Go.wp_at_succ

/-- a list of the call's own, and a truth value -/
def RI (w : World) (r : List Int × Bool) (e : Ending) (w' : World) : Prop :=
  ∃ B cc, e = .returned (.tuple #[.slice B r.1.length cc, .bool r.2]) ∧ w'.ownsRow w.heap.size 3 1 (.slice B r.1.length cc) r.1.length (r.1.map (Value.int .i64)) ∧ Below w.heap.size w w'
theorem RI.no {w w' : World} {r : List Int × Bool} (hr : r = ([], false)) (hb : Below w.heap.size w w') : RI w r (.returned (.tuple #[.slice none 0 0, .bool false])) w' := by
  subst hr
  exact ⟨none, 0, rfl, own_nil _ _, hb⟩
theorem RI.yes {w w' : World} {r : List Int × Bool} {l : List Int} {B : Option Addr} {n cc : Nat} (hr : r = (l, true)) (ho : w'.ownsRow w.heap.size 3 1 (.slice B n cc) n (l.map (Value.int .i64))) (hb : Below w.heap.size w w') : RI w r (.returned (.tuple #[.slice B n cc, .bool true])) w' := by
  subst hr
  have hl : l.length = n := by have := ho.1; simpa using this
  subst hl
  exact ⟨B, cc, rfl, ho, hb⟩

def dsL (p q g : Int) (s : ByteArray) : Nat → Option (List Int)
  | 0 => some []
  | n + 1 => match dsL p q g s n with
    | none => none
    | some l => match derK p q g s (n : Int) 1000 with
      | none => none
      | some y => some (l ++ [y])
theorem dsL_stop {p q g : Int} {s : ByteArray} {k : Nat} (h : dsL p q g s k = none) : ∀ m, k ≤ m → dsL p q g s m = none
  | 0, hm => by
    have : k = 0 := by omega
    subst this
    exact h
  | m + 1, hm => by
    rcases Nat.lt_or_ge m k with h1 | h1
    · have : k = m + 1 := by omega
      subst this
      exact h
    · rw [dsL, dsL_stop h m h1]
theorem dsL_len {p q g : Int} {s : ByteArray} : ∀ k l, dsL p q g s k = some l → l.length = k
  | 0, l, h => by
    simp [dsL] at h
    subst h
    rfl
  | k + 1, l, h => by
    rw [dsL] at h
    cases h1 : dsL p q g s k with
    | none => rw [h1] at h; cases h
    | some l1 =>
      rw [h1] at h
      cases h2 : derK p q g s (k : Int) 1000 with
      | none => simp [h2] at h
      | some y =>
        simp [h2] at h
        subst h
        simp [dsL_len k l1 h1]
def lstO (o : Option (List Int)) : List Int × Bool := match o with
  | some l => (l, true)
  | none => ([], false)
def dsM (p q g : Int) (s : ByteArray) (n : Int) : List Int × Bool := if goodB p q g && decide (s.size ≤ 40) && inB n 0 100 then lstO (dsL p q g s n.toNat) else ([], false)
theorem dsM_len (p q g : Int) (s : ByteArray) (n : Int) : (dsM p q g s n).1.length ≤ 100 := by
  unfold dsM
  split
  · rename_i h
    simp only [Bool.and_eq_true] at h
    have := inB_true h.2
    cases hd : dsL p q g s n.toNat with
    | none => simp [lstO]
    | some l =>
      have := dsL_len _ _ hd
      simp [lstO]
      omega
  · simp
theorem own_up {w : World} {B B' e s n : Nat} {v : Value} {xs : List Value} (h : w.ownsRow B e s v n xs) (hv : ∀ k, v.ownBlock = some k → B' ≤ k) : w.ownsRow B' e s v n xs := by
  refine ⟨h.1, ?_⟩
  rcases h.2 with h2 | ⟨g, cap, cur, h1, h2, h3⟩
  · exact .inl h2
  · exact .inr ⟨g, cap, cur, h1, hv g (by rw [h1]; rfl), h3⟩

set_option maxRecDepth 100000 in
set_option maxHeartbeats 1600000 in
theorem sDeriveElements_ri (p q g : Int) (s : ByteArray) (n : Int) (w : World) (hs : s.size ≤ 10000000) :
    Calls Try.prog 30 #[.agg #[.int .i64 p, .int .i64 q, .int .i64 g], .string s, .int .i64 n] w (RI w (dsM p q g s n)) := by
  by_cases h40 : s.size ≤ 40
  · have hd' : decide ((40 : Int) < (s.size : Int)) = false := by simp; omega
    have HD := Lib.hid (decide_eq_true h40)
    go_enter Try.func30, Try.ntmps30
    go_wp2_with fail
    refine (l2Good_any p q g _).mono ?_
    rintro e w1_ ⟨rfl, hb1⟩
    have hW := hb1
    obtain ⟨hc, hf⟩ := bcell hW
    cases q1 : goodB p q g
    · go_wp2
      go_ret2
      exact RI.no (by simp [dsM, q1]) (belT (by repeat (first | exact Below.refl _ _ | assumption | refine belA ?_ | refine belD ?_ | refine belN ?_ | refine belS ?_ (by simp) | refine belT ?_ (by assumption))) hW)
    go_wp2_with fail
    refine (l1In_any n 0 100 _).mono ?_
    rintro e w' ⟨rfl, rfl⟩
    cases hn : inB n 0 100
    · go_wp2
      go_ret2
      exact RI.no (by simp [dsM, hn]) (belT (by repeat (first | exact Below.refl _ _ | assumption | refine belA ?_ | refine belD ?_ | refine belN ?_ | refine belS ?_ (by simp) | refine belT ?_ (by assumption))) hW)
    obtain ⟨n0, n1⟩ := inB_true hn
    have HG := Lib.hid q1
    have hM : dsM p q g s n = lstO (dsL p q g s n.toNat) := by rw [dsM, q1, HD.out, hn]; rfl
    obtain ⟨m, rfl⟩ := Int.eq_ofNat_of_zero_le n0
    rw [Int.toNat_natCast] at hM
    have HM := Lib.hid hM
    have hb0 : Below w.heap.size w (w.alloc (.cells #[.int .i64 p, .int .i64 q, .int .i64 g] 33)) := belA (Below.refl _ _)
    generalize hW0 : w.alloc (.cells #[.int .i64 p, .int .i64 q, .int .i64 g] 33) = W0 at hW hb0
    have hgg : W0.cell? ⟨w.heap.size, 0, none⟩ = some (.int .i64 p) ∧ W0.cell? ⟨w.heap.size, 1, none⟩ = some (.int .i64 q) ∧ W0.cell? ⟨w.heap.size, 2, none⟩ = some (.int .i64 g) ∧ w.heap.size < W0.heap.size := by
      subst hW0
      refine ⟨?_, ?_, ?_, ?_⟩ <;> simp [World.cell?_alloc_at]
    have HC := Lib.hid hgg
    have HW1 := Lib.hid hW
    clear hM q1 hn hc hf hW hb1 hgg hW0
    go_wp2
    go_loopw [8, 9] (fun v i wr => ∃ (k : Nat) (L : List Int), k ≤ m ∧ i = .int .i64 k ∧ Hid (dsL p q g s k = some L) ∧ Hid (wr.ownsRow W0.heap.size 3 1 v k (L.map (Value.int .i64))) ∧ Hid (Below W0.heap.size W0 wr)) (fun _ i _ => m - (intOf i).toNat)
    case atStart => exact ⟨0, [], by omega, rfl, Lib.hid rfl, Lib.hid (own_nil _ _), Lib.hid HW1.out⟩
    case round =>
      obtain ⟨k, L, hk, rfl, HL, HO, HB⟩ := hrel
      by_cases hlt : k < m
      · have HK : Hid (digB (k : Int) = true) := Lib.hid (inB_mk (by omega) (by omega))
        have i1 : (0 : Int) ≤ (k : Int) := by omega
        have i2 : (k : Int) < (m : Int) := by omega
        obtain ⟨c1, c2, c3, c4⟩ := HC.out
        have k1 := keepB HB.out c1
        have k2 := keepB HB.out c2
        have k3 := keepB HB.out c3
        clear c1 c2 c3 c4
        go_wp2_with fail
        refine (hDerived_any p q g s (k : Int) _ HG.out HK.out (by omega)).mono ?_
        rintro e w2 ⟨rfl, hb2⟩
        have HB2 := Lib.hid (belT HB.out hb2)
        have HO2 := Lib.hid (ownBelow HO.out hb2)
        clear hb2 k1 k2 k3
        cases hd : derK p q g s (k : Int) 1000 with
        | none =>
          have HS : Hid (dsL p q g s (k + 1) = none) := Lib.hid (by rw [dsL, HL.out]; simp [hd])
          rw [show optI none = 0 from rfl]
          clear hd
          go_wp2
          go_ret2
          exact RI.no (by rw [HM.out, dsL_stop HS.out m (by omega)]; rfl) (belT hb0 HB2.out)
        | some y =>
          have hpos := derK_pos HG.out 1000 y hd
          have HS : Hid (dsL p q g s (k + 1) = some (L ++ [y])) := Lib.hid (by rw [dsL, HL.out]; simp [hd])
          rw [show optI (some y) = y from rfl]
          have hy0 : (y == 0) = false := by simp; omega
          clear hd
          go_wp2_with (at_builtin; refine app1 rfl _ _ rfl rfl rfl HO2.out (by omega) HB2.out.size ?_; intro v3 w3 hown3 hbel3)
          go_roundw
          case rel => exact ⟨k + 1, L ++ [y], by omega, by go_num, HS, Lib.hid hown3, Lib.hid (HB2.out.trans hbel3)⟩
          case measure => simp [intOf]; omega
      · have e : k = m := by omega
        subst e
        obtain ⟨B, cc, rfl⟩ := own_shape HO.out
        go_wp2
        go_ret2
        exact RI.yes (by rw [HM.out, HL.out]; rfl) (ownDown HO.out hb0.size) (belT hb0 HB.out)
  · have hd' : decide ((40 : Int) < (s.size : Int)) = true := by simp; omega
    have HD := Lib.hid (decide_eq_false h40)
    go_enter Try.func30, Try.ntmps30
    go_wp2_with fail
    refine (l2Good_any p q g _).mono ?_
    rintro e w1_ ⟨rfl, hb1⟩
    have hW := hb1
    obtain ⟨hc, hf⟩ := bcell hW
    cases q1 : goodB p q g
    · go_wp2
      go_ret2
      exact RI.no (by simp [dsM, q1]) (belT (by repeat (first | exact Below.refl _ _ | assumption | refine belA ?_ | refine belD ?_ | refine belN ?_ | refine belS ?_ (by simp) | refine belT ?_ (by assumption))) hW)
    skip
    go_wp2
    go_ret2
    exact RI.no (by rw [dsM, q1, HD.out]; rfl) (belT (by repeat (first | exact Below.refl _ _ | assumption | refine belA ?_ | refine belD ?_ | refine belN ?_ | refine belS ?_ (by simp) | refine belT ?_ (by assumption))) hW)
theorem sDeriveElements_any (p q g : Int) (s : ByteArray) (n : Int) (w : World) (hs : s.size ≤ 10000000) :
    Calls Try.prog 30 #[.agg #[.int .i64 p, .int .i64 q, .int .i64 g], .string s, .int .i64 n] w fun e w' => ∃ B cc, e = .returned (.tuple #[.slice B (dsM p q g s n).1.length cc, .bool (dsM p q g s n).2]) ∧ w'.ownsRow w.heap.size 3 1 (.slice B (dsM p q g s n).1.length cc) (dsM p q g s n).1.length ((dsM p q g s n).1.map (Value.int .i64)) ∧ Below w.heap.size w w' :=
  sDeriveElements_ri p q g s n w hs

set_option maxRecDepth 100000 in
set_option maxHeartbeats 1600000 in
theorem iDeriveElements_ri (p q g : Int) (s : ByteArray) (n : Int) (w : World) (hs : s.size ≤ 10000000) :
    Calls Try.prog 31 #[.agg #[.int .i64 p, .int .i64 q, .int .i64 g], .string s, .int .i64 n] w (RI w (dsM p q g s n)) := by
  by_cases h40 : s.size ≤ 40
  · have hd' : decide ((40 : Int) < (s.size : Int)) = false := by simp; omega
    have HD := Lib.hid (decide_eq_true h40)
    go_enter Try.func31, Try.ntmps31
    go_wp2_with fail
    refine (IsValidGroup_any p q g _).mono ?_
    rintro e w1_ ⟨rfl, hb1⟩
    have hW := hb1
    obtain ⟨hc, hf⟩ := bcell hW
    cases q1 : goodB p q g
    · go_wp2
      go_ret2
      exact RI.no (by simp [dsM, q1]) (belT (by repeat (first | exact Below.refl _ _ | assumption | refine belA ?_ | refine belD ?_ | refine belN ?_ | refine belS ?_ (by simp) | refine belT ?_ (by assumption))) hW)
    go_wp2_with fail
    refine (within_any n 0 100 _).mono ?_
    rintro e w' ⟨rfl, rfl⟩
    cases hn : inB n 0 100
    · go_wp2
      go_ret2
      exact RI.no (by simp [dsM, hn]) (belT (by repeat (first | exact Below.refl _ _ | assumption | refine belA ?_ | refine belD ?_ | refine belN ?_ | refine belS ?_ (by simp) | refine belT ?_ (by assumption))) hW)
    obtain ⟨n0, n1⟩ := inB_true hn
    have HG := Lib.hid q1
    have hM : dsM p q g s n = lstO (dsL p q g s n.toNat) := by rw [dsM, q1, HD.out, hn]; rfl
    obtain ⟨m, rfl⟩ := Int.eq_ofNat_of_zero_le n0
    rw [Int.toNat_natCast] at hM
    have HM := Lib.hid hM
    have hb0 : Below w.heap.size w (w.alloc (.cells #[.int .i64 p, .int .i64 q, .int .i64 g] 33)) := belA (Below.refl _ _)
    generalize hW0 : w.alloc (.cells #[.int .i64 p, .int .i64 q, .int .i64 g] 33) = W0 at hW hb0
    have hgg : W0.cell? ⟨w.heap.size, 0, none⟩ = some (.int .i64 p) ∧ W0.cell? ⟨w.heap.size, 1, none⟩ = some (.int .i64 q) ∧ W0.cell? ⟨w.heap.size, 2, none⟩ = some (.int .i64 g) ∧ w.heap.size < W0.heap.size := by
      subst hW0
      refine ⟨?_, ?_, ?_, ?_⟩ <;> simp [World.cell?_alloc_at]
    have HC := Lib.hid hgg
    have HW1 := Lib.hid hW
    clear hM q1 hn hc hf hW hb1 hgg hW0
    go_wp2
    go_loopw [8, 27] (fun v i wr => ∃ (k : Nat) (L : List Int), k ≤ m ∧ i = .int .i64 k ∧ Hid (dsL p q g s k = some L) ∧ Hid (wr.ownsRow W0.heap.size 3 1 v k (L.map (Value.int .i64))) ∧ Hid (Below W0.heap.size W0 wr)) (fun _ i _ => m - (intOf i).toNat)
    case atStart => exact ⟨0, [], by omega, rfl, Lib.hid rfl, Lib.hid (own_empty _ _ HW1.out.size), Lib.hid (belA HW1.out)⟩
    case round =>
      obtain ⟨k, L, hk, rfl, HL, HO, HB⟩ := hrel
      by_cases hlt : k < m
      · have HK : Hid (digB (k : Int) = true) := Lib.hid (inB_mk (by omega) (by omega))
        have i1 : (0 : Int) ≤ (k : Int) := by omega
        have i2 : (k : Int) < (m : Int) := by omega
        obtain ⟨c1, c2, c3, c4⟩ := HC.out
        have k1 := keepB HB.out c1
        have k2 := keepB HB.out c2
        have k3 := keepB HB.out c3
        clear c1 c2 c3 c4
        go_wp2_with fail
        refine (derive_any p q g s (k : Int) _ HG.out HK.out).mono ?_
        rintro e w2 ⟨rfl, hb2⟩
        have HB2 := Lib.hid (belT HB.out hb2)
        have HO2 := Lib.hid (ownBelow HO.out hb2)
        clear hb2 k1 k2 k3
        cases hd : derK p q g s (k : Int) 1000 with
        | none =>
          have HS : Hid (dsL p q g s (k + 1) = none) := Lib.hid (by rw [dsL, HL.out]; simp [hd])
          rw [show dvW p q g s (k : Int) = (0, false) from by rw [dvW, HD.out, hd]; rfl]
          clear hd
          go_wp2
          go_ret2
          exact RI.no (by rw [HM.out, dsL_stop HS.out m (by omega)]; rfl) (belT hb0 HB2.out)
        | some y =>
          have hpos := derK_pos HG.out 1000 y hd
          have HS : Hid (dsL p q g s (k + 1) = some (L ++ [y])) := Lib.hid (by rw [dsL, HL.out]; simp [hd])
          rw [show dvW p q g s (k : Int) = (y, true) from by rw [dvW, HD.out, hd]; rfl]
          have hy0 : (y == 0) = false := by simp; omega
          clear hd
          go_wp2_with (at_builtin; refine app1 rfl _ _ rfl rfl rfl HO2.out (by omega) HB2.out.size ?_; intro v3 w3 hown3 hbel3)
          go_roundw
          case rel => exact ⟨k + 1, L ++ [y], by omega, by go_num, HS, Lib.hid hown3, Lib.hid (HB2.out.trans hbel3)⟩
          case measure => simp [intOf]; omega
      · have e : k = m := by omega
        subst e
        obtain ⟨B, cc, rfl⟩ := own_shape HO.out
        go_wp2
        go_ret2
        exact RI.yes (by rw [HM.out, HL.out]; rfl) (ownDown HO.out hb0.size) (belT hb0 HB.out)
  · have hd' : decide ((40 : Int) < (s.size : Int)) = true := by simp; omega
    have HD := Lib.hid (decide_eq_false h40)
    go_enter Try.func31, Try.ntmps31
    go_wp2_with fail
    refine (IsValidGroup_any p q g _).mono ?_
    rintro e w1_ ⟨rfl, hb1⟩
    have hW := hb1
    obtain ⟨hc, hf⟩ := bcell hW
    cases q1 : goodB p q g
    · go_wp2
      go_ret2
      exact RI.no (by simp [dsM, q1]) (belT (by repeat (first | exact Below.refl _ _ | assumption | refine belA ?_ | refine belD ?_ | refine belN ?_ | refine belS ?_ (by simp) | refine belT ?_ (by assumption))) hW)
    go_wp2_with fail
    refine (within_any n 0 100 _).mono ?_
    rintro e w' ⟨rfl, rfl⟩
    cases hn : inB n 0 100
    · go_wp2
      go_ret2
      exact RI.no (by simp [dsM, hn]) (belT (by repeat (first | exact Below.refl _ _ | assumption | refine belA ?_ | refine belD ?_ | refine belN ?_ | refine belS ?_ (by simp) | refine belT ?_ (by assumption))) hW)
    go_wp2
    go_ret2
    exact RI.no (by rw [dsM, q1, HD.out]; rfl) (belT (by repeat (first | exact Below.refl _ _ | assumption | refine belA ?_ | refine belD ?_ | refine belN ?_ | refine belS ?_ (by simp) | refine belT ?_ (by assumption))) hW)
theorem iDeriveElements_any (p q g : Int) (s : ByteArray) (n : Int) (w : World) (hs : s.size ≤ 10000000) :
    Calls Try.prog 31 #[.agg #[.int .i64 p, .int .i64 q, .int .i64 g], .string s, .int .i64 n] w fun e w' => ∃ B cc, e = .returned (.tuple #[.slice B (dsM p q g s n).1.length cc, .bool (dsM p q g s n).2]) ∧ w'.ownsRow w.heap.size 3 1 (.slice B (dsM p q g s n).1.length cc) (dsM p q g s n).1.length ((dsM p q g s n).1.map (Value.int .i64)) ∧ Below w.heap.size w w' :=
  iDeriveElements_ri p q g s n w hs
end Go.Proofs.Ytggmcbhijbggdaa
