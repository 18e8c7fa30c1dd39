/- Ciphertexts: slices of them, their contracts. -/
import Derived.Test.YtehemfhnhjengaaGr4
namespace Go.Proofs.Ytehemfhnhjengaa
open Go.RowKit
set_option linter.unusedVariables false
attribute [local go_sem ↓] Go.wp_at_zero Go.wp_at_succ
set_option linter.unusedSimpArgs false

/-- a valid ciphertext -/
def hasC (p q : Int) (c : Int × Int) : Bool := hasB p q c.1 && hasB p q c.2

/-! ## a slice of ciphertexts that can be read -/
def Cips (w : World) (A : Option Addr) (n : Nat) (l : List (Int × Int)) : Prop :=
  l.length = n ∧ n ≤ 9223372036854775807 ∧ (0 < n → ∃ b off, A = some ⟨b, off, none⟩ ∧ b < w.heap.size ∧ ∀ k, k < n →
    w.cell? ⟨b, off + k * 2, none⟩ = some (.int .i64 (l.getD k (0, 0)).1) ∧ w.cell? ⟨b, off + k * 2 + 1, none⟩ = some (.int .i64 (l.getD k (0, 0)).2))

section
variable {w w' : World} {A : Option Addr} {n : Nat} {l : List (Int × Int)}
theorem Cips.len (h : Cips w A n l) : l.length = n := h.1
theorem Cips.le (h : Cips w A n l) : n ≤ 9223372036854775807 := h.2.1
theorem Cips.at_ {k : Nat} (h : Cips w A n l) (hk : k < n) : ∃ b off, A = some ⟨b, off, none⟩ ∧ b < w.heap.size ∧ w.cell? ⟨b, off + k * 2, none⟩ = some (.int .i64 (l.getD k (0, 0)).1) ∧ w.cell? ⟨b, off + k * 2 + 1, none⟩ = some (.int .i64 (l.getD k (0, 0)).2) := by
  obtain ⟨b, off, e, hb, hc⟩ := h.2.2 (by omega)
  exact ⟨b, off, e, hb, hc k hk⟩
theorem Cips.below (h : Cips w A n l) (hb : Below w.heap.size w w') : Cips w' A n l := by
  refine ⟨h.1, h.2.1, fun hn => ?_⟩
  obtain ⟨b, off, e, hb', hc⟩ := h.2.2 hn
  exact ⟨b, off, e, Nat.lt_of_lt_of_le hb' hb.size, fun k hk => ⟨(hb.cell (p := ⟨b, off + k * 2, none⟩) hb').trans (hc k hk).1, (hb.cell (p := ⟨b, off + k * 2 + 1, none⟩) hb').trans (hc k hk).2⟩⟩
theorem Cips.one {b : Nat} {x y : Int} (hc : w.cell? ⟨b, 0, none⟩ = some (.int .i64 x)) (hd : w.cell? ⟨b, 1, none⟩ = some (.int .i64 y)) : Cips w (some ⟨b, 0, none⟩) 1 [(x, y)] :=
  ⟨rfl, by omega, fun _ => ⟨b, 0, rfl, World.block_lt_of_cell? _ _ hc, fun k hk => by
    have e : k = 0 := by omega
    subst e
    exact ⟨hc, hd⟩⟩⟩
end

theorem two_all' (f : Int → Bool) (x y : Int) : [x, y].all f = (f x && f y) := by simp

set_option maxHeartbeats 400000 in
theorem hasCipher_any (p q g u v : Int) (w : World) (h1 : 3 ≤ p) (h2 : p ≤ 2000000000) (h3 : 2 ≤ q) (h4 : q ≤ p - 1) :
    Calls Try.prog 69 #[.agg #[.int .i64 p, .int .i64 q, .int .i64 g], .agg #[.int .i64 u, .int .i64 v]] w fun e' w' => e' = .returned (.bool (hasC p q (u, v))) ∧ Below w.heap.size w w' := by
  go_enter Try.func69, Try.ntmps69
  go_wp2_with fail
  refine (has_any p q g u _ h1 h2 h3 h4).mono ?_
  rintro e w1_ ⟨rfl, hb1⟩
  have hW := hb1
  obtain ⟨hc, hf⟩ := bcell hW
  cases q1 : hasB p q u
  · go_wp2
    go_ret
    exact ⟨ret_bool (by simp [hasC, q1]), belT (by repeat (first | exact Below.refl _ _ | assumption | refine belA ?_ | refine belD ?_ | refine belN ?_ | refine belS ?_ (by simp) | refine belT ?_ (by assumption))) hW⟩
  go_wp2_with fail
  refine (has_any p q g v _ h1 h2 h3 h4).mono ?_
  rintro e w2_ ⟨rfl, hb2⟩
  clear hc hf
  replace hW := belT hW hb2
  obtain ⟨hc, hf⟩ := bcell hW
  go_wp2
  go_ret
  exact ⟨ret_bool (by rw [hasC, q1]; rfl), belT (by repeat (first | exact Below.refl _ _ | assumption | refine belA ?_ | refine belD ?_ | refine belN ?_ | refine belS ?_ (by simp) | refine belT ?_ (by assumption))) hW⟩

set_option maxHeartbeats 1000000 in
theorem eGood_any (p q g : Int) (A : Option Addr) (n c : Nat) (l : List (Int × Int)) (w : World) (h : Cips w A n l) (p1 : 3 ≤ p) (p2 : p ≤ 2000000000) (q1 : 2 ≤ q) (q2 : q ≤ p - 1) :
    Calls Try.prog 68 #[.agg #[.int .i64 p, .int .i64 q, .int .i64 g], .slice A n c] w fun e' w' => e' = .returned (.bool (decide (n ≤ 24) && l.all (hasC p q))) ∧ Below w.heap.size w w' := by
  have hn := h.le
  by_cases hl : 24 < n
  · have hd : decide (n ≤ 24) = false := by simp; omega
    have HD := Lib.hid hd
    clear hd h
    go_enter Try.func68, Try.ntmps68
    go_wp2
    go_ret
    exact ⟨ret_bool (by rw [HD.out]; rfl), (by repeat (first | exact Below.refl _ _ | assumption | refine belA ?_ | refine belD ?_ | refine belN ?_ | refine belS ?_ (by simp) | refine belT ?_ (by assumption)))⟩
  · have hd : decide (n ≤ 24) = true := by simp; omega
    have HD := Lib.hid hd
    clear hd
    have hb0 : Below w.heap.size w (w.alloc (.cells #[.int .i64 p, .int .i64 q, .int .i64 g] 29)) := belA (Below.refl _ _)
    have HI := Lib.hid (h.below hb0)
    clear h
    have hl' : decide ((24 : Int) < (n : Int)) = false := by simp; omega
    go_enter Try.func68, Try.ntmps68
    go_wp2
    generalize hW0 : w.alloc (.cells #[.int .i64 p, .int .i64 q, .int .i64 g] 29) = W0 at HI hb0
    have hg : W0.cell? ⟨w.heap.size, 0, none⟩ = some (.int .i64 p) ∧ W0.cell? ⟨w.heap.size, 1, none⟩ = some (.int .i64 q) ∧ W0.cell? ⟨w.heap.size, 2, none⟩ = some (.int .i64 g) ∧ w.heap.size < W0.heap.size := by
      subst hW0
      refine ⟨?_, ?_, ?_, ?_⟩ <;> simp [World.cell?_alloc_at]
    have HG := Lib.hid hg
    clear hg hW0
    go_loopw [12] (fun i wr => ∃ k : Nat, k ≤ n ∧ i = .int .i64 k ∧ Hid (∀ j, j < k → hasC p q (l.getD j (0, 0)) = true) ∧ Hid (Below W0.heap.size W0 wr)) (fun i _ => n - (intOf i).toNat)
    case atStart => exact ⟨0, by omega, rfl, Lib.hid (fun j hj => absurd hj (by omega)), Lib.hid (Below.refl _ _)⟩
    case round =>
      obtain ⟨k, hk, rfl, H1, HB⟩ := hrel
      by_cases hlt : k < n
      · obtain ⟨b, off, rfl, hb, hc, hc'⟩ := (HI.out.below HB.out).at_ hlt
        obtain ⟨g1, g2, g3, g4⟩ := HG.out
        have hsz := HB.out.size
        have k1 := (HB.out.cell (p := ⟨w.heap.size, 0, none⟩) g4).trans g1
        have k2 := (HB.out.cell (p := ⟨w.heap.size, 1, none⟩) g4).trans g2
        have k3 := (HB.out.cell (p := ⟨w.heap.size, 2, none⟩) g4).trans g3
        have k4 : w.heap.size < wr.heap.size := by omega
        clear g1 g2 g3 g4 hsz
        have hB := HB.out
        generalize hcc : l.getD k (0, 0) = cc at hc hc'
        have HC := Lib.hid hcc
        clear hcc
        obtain ⟨u, v⟩ := cc
        simp only at hc hc'
        go_wp2_with fail
        refine (gIs_any p q g _ 2 2 [u, v] _ (Ints.two (by rw [World.cell?_alloc_at _ _ _ _ (by simp)]; rfl) (by rw [World.cell?_alloc_at _ _ _ _ (by simp)]; rfl)) p1 p2 q1 q2).mono ?_
        rintro e w1 ⟨rfl, hb1⟩
        rw [two_all', show (hasB p q u && hasB p q v) = hasC p q (u, v) from rfl]
        cases hh : hasC p q (u, v)
        · go_wp2
          go_ret
          exact ⟨ret_bool (by rw [HD.out, all_no (d := (0, 0)) (p := hasC p q) HI.out.len hlt (by rw [HC.out]; exact hh)]; rfl), belT hb0 (by repeat (first | exact Below.refl _ _ | assumption | refine belA ?_ | refine belD ?_ | refine belN ?_ | refine belS ?_ (by simp) | refine belT ?_ (by assumption)))⟩
        · go_wp2
          go_roundw
          case rel => exact ⟨k + 1, by omega, by go_num, Lib.hid (upto_succ H1.out (by rw [HC.out]; exact hh)), Lib.hid (by repeat (first | exact Below.refl _ _ | assumption | refine belA ?_ | refine belD ?_ | refine belN ?_ | refine belS ?_ (by simp) | refine belT ?_ (by assumption)))⟩
          case measure => simp [intOf]; omega
      · have e : k = n := by omega
        subst e
        go_wp2
        go_ret
        exact ⟨ret_bool (by rw [HD.out, all_yes (d := (0, 0)) (p := hasC p q) HI.out.len H1.out]; rfl), belT hb0 HB.out⟩

set_option maxHeartbeats 400000 in
theorem toCipher_any (u v : Int) (w : World) :
    Calls Try.prog 31 #[.agg #[.int .i64 u, .int .i64 v]] w fun e w' => e = .returned (.agg #[.int .i64 u, .int .i64 v]) ∧ Below w.heap.size w w' := by
  go_enter Try.func31, Try.ntmps31
  go_wp2
  refine bodyPost_ret (v := .agg #[.int .i64 u, .int .i64 v]) (by simp [results, Try.results31, go_sem]) rfl ⟨rfl, ?_⟩
  exact (by repeat (first | exact Below.refl _ _ | assumption | refine belA ?_ | refine belD ?_ | refine belN ?_ | refine belS ?_ (by simp) | refine belT ?_ (by assumption)))

set_option maxHeartbeats 400000 in
theorem toEqualLog_any (a b c d : Int) (w : World) :
    Calls Try.prog 38 #[.agg #[.int .i64 a, .int .i64 b, .int .i64 c, .int .i64 d]] w fun e w' => e = .returned (.agg #[.int .i64 a, .int .i64 b, .int .i64 c, .int .i64 d]) ∧ Below w.heap.size w w' := by
  go_enter Try.func38, Try.ntmps38
  go_wp2
  refine bodyPost_ret (v := .agg #[.int .i64 a, .int .i64 b, .int .i64 c, .int .i64 d]) (by simp [results, Try.results38, go_sem]) rfl ⟨rfl, ?_⟩
  exact (by repeat (first | exact Below.refl _ _ | assumption | refine belA ?_ | refine belD ?_ | refine belN ?_ | refine belS ?_ (by simp) | refine belT ?_ (by assumption)))

set_option maxHeartbeats 400000 in
theorem eqCipher_any (u v : Int) (w : World) :
    Calls Try.prog 42 #[.agg #[.int .i64 u, .int .i64 v], .agg #[.int .i64 u, .int .i64 v]] w fun e w' => e = .returned (.bool true) ∧ Below w.heap.size w w' := by
  go_enter Try.func42, Try.ntmps42
  go_wp2
  go_ret
  exact ⟨rfl, (by repeat (first | exact Below.refl _ _ | assumption | refine belA ?_ | refine belD ?_ | refine belN ?_ | refine belS ?_ (by simp) | refine belT ?_ (by assumption)))⟩

/-- two cells that may be written -/
def Room (W : World) (R : Nat) : Prop := ∃ x y : Value, W.cell? ⟨R, 0, none⟩ = some x ∧ W.cell? ⟨R, 1, none⟩ = some y ∧ W.frozen? ⟨R, 0, none⟩ = false ∧ W.frozen? ⟨R, 1, none⟩ = false
theorem Room.facts {W : World} {R : Nat} (h : Room W R) : ∃ x y : Value, W.cell? ⟨R, 0, none⟩ = some x ∧ W.cell? ⟨R, 1, none⟩ = some y ∧ W.frozen? ⟨R, 0, none⟩ = false ∧ W.frozen? ⟨R, 1, none⟩ = false := h
theorem Room.below {W w1 : World} {R : Nat} (h : Room W R) (hb : Below W.heap.size W w1) : Room w1 R := by
  obtain ⟨x, y, h1, h2, h3, h4⟩ := h
  have hl := World.block_lt_of_cell? _ _ h1
  exact ⟨x, y, keepB hb h1, keepB hb h2, (hb.frozen (p := ⟨R, 0, none⟩) hl).trans h3, (hb.frozen (p := ⟨R, 1, none⟩) hl).trans h4⟩
theorem Room.drew {W : World} {R : Nat} (h : Room W R) : Room W.drew R := h
theorem Room.new (W : World) (x y : Value) (t : TypeId) : Room (W.alloc (.cells #[x, y] t)) W.heap.size :=
  ⟨x, y, (by rw [World.cell?_alloc_at _ _ _ _ (by simp)]; rfl), (by rw [World.cell?_alloc_at _ _ _ _ (by simp)]; rfl), World.frozen?_alloc_at _ _ _ _ rfl, World.frozen?_alloc_at _ _ _ _ rfl⟩

set_option maxRecDepth 100000 in
set_option maxHeartbeats 1000000 in
theorem powCipher_any (p q g u v e : Int) (w : World) (p1 : 1 ≤ p) (p2 : p ≤ 3000000000) (q1 : 1 ≤ q) (q2 : q ≤ 3000000000) (u0 : 0 ≤ u) (u1 : u < p) (v0 : 0 ≤ v) (v1 : v < p) :
    Calls Try.prog 80 #[.agg #[.int .i64 p, .int .i64 q, .int .i64 g], .agg #[.int .i64 u, .int .i64 v], .int .i64 e] w fun e' w' => e' = .returned (.agg #[.int .i64 (gpow p q u e), .int .i64 (gpow p q v e)]) ∧ Below w.heap.size w w' := by
  have HR := Room.new ((w.alloc (.cells #[.int .i64 p, .int .i64 q, .int .i64 g] 29)).alloc (.cells #[.int .i64 u, .int .i64 v] 42)) (.int .i64 0) (.int .i64 0) 42
  have eR : ((w.alloc (.cells #[.int .i64 p, .int .i64 q, .int .i64 g] 29)).alloc (.cells #[.int .i64 u, .int .i64 v] 42)).heap.size = w.heap.size + 1 + 1 := by simp
  rw [eR] at HR
  clear eR
  go_enter Try.func80, Try.ntmps80
  go_wp2
  have hB : Below w.heap.size w (((w.alloc (.cells #[.int .i64 p, .int .i64 q, .int .i64 g] 29)).alloc (.cells #[.int .i64 u, .int .i64 v] 42)).alloc (.cells #[.int .i64 0, .int .i64 0] 42)) := (by repeat (first | exact Below.refl _ _ | assumption | refine belA ?_ | refine belD ?_ | refine belN ?_ | refine belS ?_ (by simp) | refine belT ?_ (by assumption)))
  have hg := @id True trivial
  generalize hW0 : ((w.alloc (.cells #[.int .i64 p, .int .i64 q, .int .i64 g] 29)).alloc (.cells #[.int .i64 u, .int .i64 v] 42)).alloc (.cells #[.int .i64 0, .int .i64 0] 42) = W0 at HR hB
  have k1 : W0.cell? ⟨w.heap.size, 0, none⟩ = some (.int .i64 p) := by subst hW0; rw [World.cell?_alloc_past _ _ _ (by simp <;> omega), World.cell?_alloc_past _ _ _ (by simp <;> omega), World.cell?_alloc_at _ _ _ _ (by simp)]; rfl
  have k2 : W0.cell? ⟨w.heap.size, 1, none⟩ = some (.int .i64 q) := by subst hW0; rw [World.cell?_alloc_past _ _ _ (by simp <;> omega), World.cell?_alloc_past _ _ _ (by simp <;> omega), World.cell?_alloc_at _ _ _ _ (by simp)]; rfl
  have k3 : W0.cell? ⟨w.heap.size, 2, none⟩ = some (.int .i64 g) := by subst hW0; rw [World.cell?_alloc_past _ _ _ (by simp <;> omega), World.cell?_alloc_past _ _ _ (by simp <;> omega), World.cell?_alloc_at _ _ _ _ (by simp)]; rfl
  have k4 : W0.cell? ⟨w.heap.size + 1, 0, none⟩ = some (.int .i64 u) := by subst hW0; rw [World.cell?_alloc_past _ _ _ (by simp <;> omega), World.cell?_alloc_at _ _ _ _ (by simp)]; rfl
  have k5 : W0.cell? ⟨w.heap.size + 1, 1, none⟩ = some (.int .i64 v) := by subst hW0; rw [World.cell?_alloc_past _ _ _ (by simp <;> omega), World.cell?_alloc_at _ _ _ _ (by simp)]; rfl
  clear hW0 hg
  go_region_held3 (fun W => W.cell? ⟨w.heap.size, 0, none⟩ = some (.int .i64 p) ∧ W.cell? ⟨w.heap.size, 1, none⟩ = some (.int .i64 q) ∧ W.cell? ⟨w.heap.size, 2, none⟩ = some (.int .i64 g) ∧ W.cell? ⟨w.heap.size + 1, 0, none⟩ = some (.int .i64 u) ∧ W.cell? ⟨w.heap.size + 1, 1, none⟩ = some (.int .i64 v)) (first | (go_split_ands; (repeat' apply And.intro) <;> first | assumption | exact keepB hb1 (by assumption) | (refine keepS (by simp <;> omega) (keepS (by simp <;> omega) ?_); assumption) | (refine keepS (by simp <;> omega) ?_; assumption) | (refine keepB (belA (Below.refl _ _)) ?_; assumption) | go_keep) | go_keep) ((go_at_call 71; refine (pow_any p q g _ e _ (by omega) (by omega) (by omega) (by omega) (by omega) (by omega)).mono ?_; rintro e' w1 ⟨rfl, hb1⟩; (first | replace HR := Room.below HR hb1 | replace HR := Room.below HR.drew hb1); obtain ⟨rx, ry, rc0, rc1, rf0, rf1⟩ := HR.facts))
  all_goals go_wp2
  all_goals refine bodyPost_ret (v := .agg #[.int .i64 (gpow p q u e), .int .i64 (gpow p q v e)]) (by simp [results, Try.results80, go_sem, rc0, rc1]) rfl ⟨rfl, ?_⟩
  all_goals exact (by repeat (first | exact Below.refl _ _ | assumption | refine belA ?_ | refine belD ?_ | refine belN ?_ | refine belS ?_ (by simp <;> omega) | refine belT ?_ (by assumption)))
end Go.Proofs.Ytehemfhnhjengaa
