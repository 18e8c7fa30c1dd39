/- Contracts: lists of challenges, on both sides. -/
import Derived.Test.YtggmcbhijbggdaaCh
import Derived.Test.YtggmcbhijbggdaaRi
namespace Go.Proofs.Ytggmcbhijbggdaa
open Go.RowKit
set_option linter.unusedVariables false
attribute [local go_sem ↓] Go.wp_at_zero Go.wp_at_succ

def csL (p q g : Int) (s : ByteArray) (zs : List Int) (k : Nat) : List Int := (List.range k).map fun i : Nat => chV p q g s (zs ++ [(i : Int)])
theorem csL_succ (p q g : Int) (s : ByteArray) (zs : List Int) (k : Nat) : csL p q g s zs (k + 1) = csL p q g s zs k ++ [chV p q g s (zs ++ [(k : Int)])] := by
  unfold csL
  rw [List.range_succ, List.map_append]
  rfl
theorem csL_len (p q g : Int) (s : ByteArray) (zs : List Int) (k : Nat) : (csL p q g s zs k).length = k := by simp [csL]
theorem csL_take (p q g : Int) (s : ByteArray) (zs : List Int) {k m : Nat} (h : k ≤ m) : (csL p q g s zs m).take k = csL p q g s zs k := by
  unfold csL
  rw [← List.map_take, List.take_range, Nat.min_eq_left h]
def csM (p q g : Int) (s : ByteArray) (zs : List Int) (n : Int) : List Int × Bool := if goodB p q g && lbB s zs 4 && inB n 0 100 then (csL p q g s zs n.toNat, true) else ([], false)
theorem csM_len (p q g : Int) (s : ByteArray) (zs : List Int) (n : Int) : (csM p q g s zs n).1.length ≤ 100 := by
  unfold csM
  split
  · rename_i h
    simp only [Bool.and_eq_true] at h
    have := inB_true h.2
    show (csL p q g s zs n.toNat).length ≤ 100
    rw [csL_len]
    omega
  · simp
theorem digs_snoc {zs : List Int} {k : Nat} (hk : k ≤ 1000) : digsB (zs ++ [(k : Int)]) = digsB zs := by
  have h1 : digB (k : Int) = true := inB_mk (by omega) (by omega)
  unfold digsB
  rw [List.all_append]
  simp [h1]
theorem lb_snoc {s : ByteArray} {zs : List Int} {k : Nat} (hk : k ≤ 1000) : lbB s (zs ++ [(k : Int)]) 3 = lbB s zs 4 := by
  have e : (1 + (s.size : Int) + ((zs ++ [(k : Int)]).length : Int) + 3 ≤ 400) ↔ (1 + (s.size : Int) + (zs.length : Int) + 4 ≤ 400) := by
    rw [List.length_append, List.length_singleton]
    omega
  rw [lbB, digs_snoc hk, lbB, decide_eq_decide.2 e]
theorem own_prefix {w : World} {B g M c m : Nat} {xs : List Value} (h : w.ownsRow B 3 1 (.slice (some ⟨g, 0, none⟩) M c) M xs) (hm : m ≤ M) : w.ownsRow B 3 1 (.slice (some ⟨g, 0, none⟩) m c) m (xs.take m) := by
  refine ⟨by have := h.1; simp; omega, ?_⟩
  rcases h.2 with ⟨h1, _⟩ | ⟨g', cap, cur, h1, h2, h3, h4, h5, h6, h7⟩
  · cases h1
  · injection h1 with e1 e2 e3
    injection e1 with e1
    injection e1 with e1
    subst e1
    subst e3
    refine .inr ⟨g, c, cur, rfl, h2, h3, by omega, h5, h6, ?_⟩
    rw [← h7, List.take_take, Nat.mul_one, Nat.mul_one, Nat.min_eq_left hm]
theorem own_cap {w : World} {B g M c : Nat} {xs : List Value} (h : w.ownsRow B 3 1 (.slice (some ⟨g, 0, none⟩) M c) M xs) : M ≤ c := by
  rcases h.2 with ⟨h1, _⟩ | ⟨g', cap, cur, h1, h2, h3, h4, h5, h6, h7⟩
  · cases h1
  · injection h1 with e1 e2 e3
    subst e3
    exact h4
theorem own_addr' {w : World} {B n c : Nat} {A : Option Addr} {xs : List Value} (h : w.ownsRow B 3 1 (.slice A n c) n xs) (hn : 0 < n) : ∃ g, A = some ⟨g, 0, none⟩ := by
  rcases h.2 with ⟨h1, h2⟩ | ⟨g, cap, cur, h1, _⟩
  · omega
  · injection h1 with e1
    exact ⟨g, e1⟩
theorem ints_lit1 (W : World) (H : Nat) (a : Int) (hH : W.heap.size = H) : Ints (W.alloc (.cells #[.int .i64 a] 3)) (some ⟨H, 0, none⟩) 1 [a] := by
  subst hH
  exact Ints.of_own (own_lit1 W 0 a (Nat.zero_le _))

set_option maxRecDepth 100000 in
set_option maxHeartbeats 400000 in
theorem l1Own_any (A : Option Addr) (n c : Nat) (zs : List Int) (w : World) (h : Ints w A n zs) (hn : n ≤ 1000000) :
    Calls Try.prog 102 #[.slice A n c] w fun e w' => ∃ A' c', e = .returned (.slice A' n c') ∧ w'.ownsRow w.heap.size 3 1 (.slice A' n c') n (zs.map (Value.int .i64)) ∧ Below w.heap.size w w' := by
  have HI := Lib.hid h
  clear h
  go_enter Try.func102, Try.ntmps102
  go_wp2_with (at_builtin; refine appI rfl _ _ rfl rfl rfl (HI.out.below (belA (Below.refl _ _))) (own_empty w w.heap.size (Nat.le_refl _)) (by omega) (by simp) ?_; intro A' c' w1 hown hg)
  go_ret
  rw [Nat.zero_add, List.nil_append] at hown
  refine ⟨A', c', ?_, hown, own_below (belA (Below.refl _ _)) (by simp) (own_empty w w.heap.size (Nat.le_refl _)) hg⟩
  simp

set_option maxRecDepth 100000 in
set_option maxHeartbeats 4000000 in
theorem hChallenges_any (p q g : Int) (s : ByteArray) (A : Option Addr) (n c : Nat) (zs : List Int) (m : Nat) (w : World) (h : Ints w A n zs) (hn : n ≤ 10000) (hm : m ≤ 100) (hs : s.size ≤ 10000) (hg : goodB p q g = true) (hd : digsB zs = true) :
    Calls Try.prog 66 #[.agg #[.int .i64 p, .int .i64 q, .int .i64 g], .string s, .slice A n c, .int .i64 (m : Int)] w fun e w' => ∃ B cc, e = .returned (.slice B m cc) ∧ w'.ownsRow w.heap.size 3 1 (.slice B m cc) m ((csL p q g s zs m).map (Value.int .i64)) ∧ Below w.heap.size w w' := by
  obtain ⟨g1, g2, g3, g4, g5, g6⟩ := good_om hg
  have hl := h.len
  subst hl
  have HG := Lib.hid (And.intro hg hd)
  have hb0 : Below w.heap.size w (w.alloc (.cells #[.int .i64 p, .int .i64 q, .int .i64 g] 33)) := belA (Below.refl _ _)
  have HI := Lib.hid (h.below hb0)
  clear h hg hd
  go_enter Try.func66, Try.ntmps66
  go_wp2
  generalize hW0 : w.alloc (.cells #[.int .i64 p, .int .i64 q, .int .i64 g] 33) = W0 at hb0 HI
  have hgg : W0.cell? ⟨w.heap.size, 0, none⟩ = some (.int .i64 p) ∧ W0.cell? ⟨w.heap.size, 1, none⟩ = some (.int .i64 q) ∧ W0.cell? ⟨w.heap.size, 2, none⟩ = some (.int .i64 g) ∧ w.heap.size < W0.heap.size := by
    subst hW0
    refine ⟨?_, ?_, ?_, ?_⟩ <;> simp [World.cell?_alloc_at]
  have HC := Lib.hid hgg
  clear hgg hW0
  go_loopw [9, 10] (fun v i wr => ∃ k : Nat, k ≤ m ∧ i = .int .i64 k ∧ Hid (wr.ownsRow W0.heap.size 3 1 v k ((csL p q g s zs k).map (Value.int .i64))) ∧ Hid (Below W0.heap.size W0 wr)) (fun _ i _ => m - (intOf i).toNat)
  case atStart => exact ⟨0, by omega, rfl, Lib.hid (own_nil _ _), Lib.hid (Below.refl _ _)⟩
  case round =>
    obtain ⟨k, hk, rfl, HO, HB⟩ := hrel
    by_cases hlt : k < m
    · obtain ⟨c1, c2, c3, c4⟩ := HC.out
      have k1 := keepB HB.out c1
      have k2 := keepB HB.out c2
      have k3 := keepB HB.out c3
      have hz := Nat.lt_of_lt_of_le c4 HB.out.size
      have HIr := Lib.hid (HI.out.below HB.out)
      have hds := Lib.hid ((chL_digs (zs := zs ++ [(k : Int)]) HG.out.1).trans ((digs_snoc (by omega)).trans HG.out.2))
      have HS := Lib.hid (csL_succ p q g s zs k)
      have hln : (zs ++ [(k : Int)]).length = zs.length + 1 := by simp
      have HLN := Lib.hid hln
      have i1 : (0 : Int) ≤ (k : Int) := by omega
      have i2 : (k : Int) < (m : Int) := by omega
      have hX0 := Below.refl wr.heap.size wr
      clear c4 hln
      go_wp2
      go_region_held3 (fun W => W.cell? ⟨w.heap.size, 0, none⟩ = some (.int .i64 p) ∧ W.cell? ⟨w.heap.size, 1, none⟩ = some (.int .i64 q) ∧ W.cell? ⟨w.heap.size, 2, none⟩ = some (.int .i64 g))
        ((first | (first | (go_split_ands; (repeat' apply And.intro) <;> first | assumption | exact keepB hb1 (by assumption) | (refine keepS (by simp <;> omega) (keepS (by simp <;> omega) ?_); assumption) | (refine keepS (by simp <;> omega) ?_; assumption) | (refine keepB (belA (Below.refl _ _)) ?_; assumption) | go_keep) | go_keep) | (go_split_ands; (repeat' apply And.intro) <;> first | assumption | exact keepB hX (by assumption))))
        ((first
          | (go_at_call 102; refine (l1Own_any A zs.length c zs _ ?_ (by omega)).mono ?_; (focus (first | exact HIr.out.drew | exact (HIr.out.below (belA (Below.refl _ _))).drew)); rintro e' w1 ⟨A1, c1, rfl, hown1, hb1⟩; have hX1 : Below wr.heap.size wr w1 := (by repeat (first | exact Below.refl _ _ | assumption | refine belA ?_ | refine belD ?_ | refine belN ?_ | refine belS ?_ (by simp <;> omega) | refine belT ?_ (by assumption))); have hX : Below wr.heap.size wr w1 := hX1)
          | (go_at_call 62; refine (hChallenge_any p q g s A2 (zs.length + 1) c2 (zs ++ [(k : Int)]) _ (Ints.of_own hown2) (by omega) (by omega) hds.out (by omega) (by omega)).mono ?_; rintro e' w3 ⟨rfl, hb3⟩; have hX3 : Below wr.heap.size wr w3 := belT hX hb3; have hX : Below wr.heap.size wr w3 := hX3)
          | (refine step_appI (by rfl) _ _ (by rfl) (by rfl) (by rfl) (ints_lit1 w3 w3.heap.size _ rfl) ((ownBelow HO.out hX3).alloc _) (by omega) ?_ ?_; (focus (exact Nat.le_trans HB.out.size (Nat.le_trans hX3.size (by simp)))); intro A4 c4 w4 hown4 hg4; have hX4 : Below W0.heap.size W0 w4 := own_below (belA (belT HB.out hX3)) (Nat.le_trans HB.out.size (Nat.le_trans hX3.size (by simp))) ((ownBelow HO.out hX3).alloc _) hg4; have hX : Below W0.heap.size W0 w4 := hX4)
          | (refine step_appI (B := wr.heap.size) (by rfl) _ _ (by rfl) (by rfl) (by rfl) ((Ints.drew (ints_lit1 wr wr.heap.size (k : Int) rfl)).below hb1) (ownDown hown1 (by simp)) (by omega) ?_ ?_; (focus (exact hX1.size)); intro A2 c2 w2 hown2 hg2; have hX : Below wr.heap.size wr w2 := own_below (B := wr.heap.size) hX1 hX1.size (ownDown hown1 (by simp)) hg2)
          | (refine step_appI (B := wr.heap.size) (by rfl) _ _ (by rfl) (by rfl) (by rfl) (ints_lit1 w1 w1.heap.size (k : Int) rfl) ((ownDown hown1 (by simp)).alloc _) (by omega) ?_ ?_; (focus (exact Nat.le_trans hX1.size (by simp))); intro A2 c2 w2 hown2 hg2; have hX : Below wr.heap.size wr w2 := own_below (B := wr.heap.size) (belA hX1) (Nat.le_trans hX1.size (by simp)) ((ownDown hown1 (by simp)).alloc _) hg2)))
      all_goals go_wp2
      all_goals go_roundw
      all_goals first | (simp [intOf]; omega; done) | exact ⟨k + 1, by omega, by go_num, Lib.hid (by rw [HS.out]; exact hown4), Lib.hid hX4⟩
    · have e : k = m := by omega
      subst e
      obtain ⟨B, cc, rfl⟩ := own_shape HO.out
      go_wp2
      go_ret
      exact ⟨B, cc, rfl, ownDown HO.out hb0.size, belT hb0 HB.out⟩
/-- the program's challenges -/
def csW (p q g : Int) (s : ByteArray) (zs : List Int) (m : Nat) : List Int × Bool := if lbB s zs 4 then (csL p q g s zs m, true) else ([], false)
theorem ch_yes {p q g : Int} {s : ByteArray} {zs : List Int} {k : Nat} (h : lbB s zs 4 = true) (hk : k ≤ 1000) : chW p q g s (zs ++ [(k : Int)]) = (chV p q g s (zs ++ [(k : Int)]), true) := by
  rw [chW, lb_snoc hk, h]
  rfl
theorem ch_no {p q g : Int} {s : ByteArray} {zs : List Int} {k : Nat} (h : lbB s zs 4 = false) (hk : k ≤ 1000) : chW p q g s (zs ++ [(k : Int)]) = (0, false) := by
  rw [chW, lb_snoc hk, h]
  rfl
set_option maxRecDepth 100000 in
set_option maxHeartbeats 4000000 in
theorem challenges_ri (p q g : Int) (s : ByteArray) (A : Option Addr) (n c : Nat) (zs : List Int) (m : Nat) (w : World) (h : Ints w A n zs) (hn : n ≤ 9000000) (hm : m ≤ 100) (hg : goodB p q g = true) :
    Calls Try.prog 68 #[.agg #[.int .i64 p, .int .i64 q, .int .i64 g], .string s, .slice A n c, .int .i64 (m : Int)] w (RI w (csW p q g s zs m)) := by
  have hl := h.len
  subst hl
  have HG := Lib.hid hg
  have hb0 : Below w.heap.size w (w.alloc (.cells #[.int .i64 p, .int .i64 q, .int .i64 g] 33)) := belA (Below.refl _ _)
  have HI := Lib.hid (h.below hb0)
  have hmax : (if (m : Int) < 1 then (1 : Int) else (m : Int)) = ((max m 1 : Nat) : Int) := by split <;> omega
  have hmx : m ≤ max m 1 ∧ max m 1 ≤ 100 ∧ 1 ≤ max m 1 := by omega
  generalize max m 1 = M at hmax hmx
  obtain ⟨mx1, mx2, mx3⟩ := hmx
  clear h hg
  cases hlb : lbB s zs 4
  · have HV := Lib.hid (ch_no (p := p) (q := q) (g := g) (k := 0) hlb (by omega))
    have HR : Hid (csW p q g s zs m = ([], false)) := Lib.hid (by rw [csW, hlb]; rfl)
    clear hlb
    go_enter Try.func68, Try.ntmps68
    go_wp2
    generalize hW0 : w.alloc (.cells #[.int .i64 p, .int .i64 q, .int .i64 g] 33) = W0 at hb0 HI
    have hgg : W0.cell? ⟨w.heap.size, 0, none⟩ = some (.int .i64 p) ∧ W0.cell? ⟨w.heap.size, 1, none⟩ = some (.int .i64 q) ∧ W0.cell? ⟨w.heap.size, 2, none⟩ = some (.int .i64 g) ∧ w.heap.size < W0.heap.size := by
      subst hW0
      refine ⟨?_, ?_, ?_, ?_⟩ <;> simp [World.cell?_alloc_at]
    have HC := Lib.hid hgg
    have HB : Hid (Below W0.heap.size W0 (W0.alloc (.cells #[] 3))) := Lib.hid (belA (Below.refl _ _))
    have hS0 : W0.heap.size = w.heap.size + 1 := by subst hW0; simp
    have HS0 := Lib.hid hS0
    clear hgg hW0 hS0
    generalize hW1 : W0.alloc (.cells #[] 3) = wr at HB
    clear hW1
    refine wp_loop_rounds 1 ?_
    rw [rounds_succ]
    obtain ⟨c1, c2, c3, c4⟩ := HC.out
    have k1 := keepB HB.out c1
    have k2 := keepB HB.out c2
    have k3 := keepB HB.out c3
    have hz := Nat.lt_of_lt_of_le c4 HB.out.size
    have HIr := Lib.hid (HI.out.below HB.out)
    clear c4
    have i2 : (0 : Int) < (M : Int) := by omega
    go_wp2
    go_region_held3 (fun W => W.cell? ⟨w.heap.size, 0, none⟩ = some (.int .i64 p) ∧ W.cell? ⟨w.heap.size, 1, none⟩ = some (.int .i64 q) ∧ W.cell? ⟨w.heap.size, 2, none⟩ = some (.int .i64 g))
      ((first | (first | (go_split_ands; (repeat' apply And.intro) <;> first | assumption | exact keepB hb1 (by assumption) | (refine keepS (by simp <;> omega) (keepS (by simp <;> omega) ?_); assumption) | (refine keepS (by simp <;> omega) ?_; assumption) | (refine keepB (belA (Below.refl _ _)) ?_; assumption) | go_keep) | go_keep) | (go_split_ands; (repeat' apply And.intro) <;> first | assumption | exact keepB hX (by assumption))))
      ((first
        | (go_at_call 103; refine (Clone_any A zs.length c zs _ ?_ (by omega)).mono ?_; (focus (first | exact HIr.out.drew | exact (HIr.out.below (belA (Below.refl _ _))).drew)); rintro e' w1 ⟨A1, c1, rfl, hown1, hb1⟩; have hX1 : Below wr.heap.size wr w1 := (by repeat (first | exact Below.refl _ _ | assumption | refine belA ?_ | refine belD ?_ | refine belN ?_ | refine belS ?_ (by simp <;> omega) | refine belT ?_ (by assumption))); have hX : Below wr.heap.size wr w1 := hX1)
        | (go_at_call 64; refine (challenge_any p q g s A2 (zs.length + 1) c2 (zs ++ [(((0 : Nat) : Int))]) _ (Ints.of_own hown2) (by omega) HG.out).mono ?_; rintro e' w3 ⟨rfl, hb3⟩; have hX3 : Below wr.heap.size wr w3 := belT hX hb3; have hX : Below wr.heap.size wr w3 := hX3; rw [HV.out])
        | (refine step_appI (B := wr.heap.size) (by rfl) _ _ (by rfl) (by rfl) (by rfl) (ints_lit1 w1 w1.heap.size (((0 : Nat) : Int)) rfl) ((ownDown hown1 (by simp)).alloc _) (by omega) ?_ ?_; (focus (exact Nat.le_trans hX1.size (by simp))); intro A2 c2 w2 hown2 hg2; have hX : Below wr.heap.size wr w2 := own_below (B := wr.heap.size) (belA hX1) (Nat.le_trans hX1.size (by simp)) ((ownDown hown1 (by simp)).alloc _) hg2)
        | (refine step_appI (B := wr.heap.size) (by rfl) _ _ (by rfl) (by rfl) (by rfl) ((Ints.drew (ints_lit1 wr wr.heap.size (((0 : Nat) : Int)) rfl)).below hb1) (ownDown hown1 (by simp)) (by omega) ?_ ?_; (focus (exact hX1.size)); intro A2 c2 w2 hown2 hg2; have hX : Below wr.heap.size wr w2 := own_below (B := wr.heap.size) hX1 hX1.size (ownDown hown1 (by simp)) hg2)))
    all_goals go_wp2
    all_goals go_ret2
    all_goals exact RI.no HR.out (belT hb0 (belT HB.out hX3))
  · have HR : Hid (csW p q g s zs m = (csL p q g s zs m, true)) := Lib.hid (by rw [csW, hlb]; rfl)
    have HLB := Lib.hid hlb
    clear hlb
    go_enter Try.func68, Try.ntmps68
    go_wp2
    generalize hW0 : w.alloc (.cells #[.int .i64 p, .int .i64 q, .int .i64 g] 33) = W0 at hb0 HI
    have hgg : W0.cell? ⟨w.heap.size, 0, none⟩ = some (.int .i64 p) ∧ W0.cell? ⟨w.heap.size, 1, none⟩ = some (.int .i64 q) ∧ W0.cell? ⟨w.heap.size, 2, none⟩ = some (.int .i64 g) ∧ w.heap.size < W0.heap.size := by
      subst hW0
      refine ⟨?_, ?_, ?_, ?_⟩ <;> simp [World.cell?_alloc_at]
    have HC := Lib.hid hgg
    have hS0 : W0.heap.size = w.heap.size + 1 := by subst hW0; simp
    have HE := own_empty W0 W0.heap.size (Nat.le_refl _)
    rw [hS0] at HE
    have HE0 := Lib.hid HE
    have HS0 := Lib.hid hS0
    clear hgg hW0 hS0 HE
    go_loopw [10, 17] (fun v i wr => ∃ k : Nat, k ≤ M ∧ i = .int .i64 k ∧ Hid (wr.ownsRow (w.heap.size + 1) 3 1 v k ((csL p q g s zs k).map (Value.int .i64))) ∧ Hid (Below W0.heap.size W0 wr)) (fun _ i _ => M - (intOf i).toNat)
    case atStart => exact ⟨0, by omega, rfl, HE0, Lib.hid (belA (Below.refl _ _))⟩
    case round =>
      obtain ⟨k, hk, rfl, HO, HB⟩ := hrel
      by_cases hlt : k < M
      · have HV := Lib.hid (ch_yes (p := p) (q := q) (g := g) (k := k) HLB.out (by omega))
        have HS := Lib.hid (csL_succ p q g s zs k)
        have i1 : (0 : Int) ≤ (k : Int) := by omega
        have i2 : (k : Int) < (M : Int) := by omega
        obtain ⟨c1, c2, c3, c4⟩ := HC.out
        have k1 := keepB HB.out c1
        have k2 := keepB HB.out c2
        have k3 := keepB HB.out c3
        have hz := Nat.lt_of_lt_of_le c4 HB.out.size
        have HIr := Lib.hid (HI.out.below HB.out)
        clear c4
        go_wp2
        go_region_held3 (fun W => W.cell? ⟨w.heap.size, 0, none⟩ = some (.int .i64 p) ∧ W.cell? ⟨w.heap.size, 1, none⟩ = some (.int .i64 q) ∧ W.cell? ⟨w.heap.size, 2, none⟩ = some (.int .i64 g))
          ((first | (first | (go_split_ands; (repeat' apply And.intro) <;> first | assumption | exact keepB hb1 (by assumption) | (refine keepS (by simp <;> omega) (keepS (by simp <;> omega) ?_); assumption) | (refine keepS (by simp <;> omega) ?_; assumption) | (refine keepB (belA (Below.refl _ _)) ?_; assumption) | go_keep) | go_keep) | (go_split_ands; (repeat' apply And.intro) <;> first | assumption | exact keepB hX (by assumption))))
          ((first
            | (go_at_call 103; refine (Clone_any A zs.length c zs _ ?_ (by omega)).mono ?_; (focus (first | exact HIr.out.drew | exact (HIr.out.below (belA (Below.refl _ _))).drew)); rintro e' w1 ⟨A1, c1, rfl, hown1, hb1⟩; have hX1 : Below wr.heap.size wr w1 := (by repeat (first | exact Below.refl _ _ | assumption | refine belA ?_ | refine belD ?_ | refine belN ?_ | refine belS ?_ (by simp <;> omega) | refine belT ?_ (by assumption))); have hX : Below wr.heap.size wr w1 := hX1)
            | (go_at_call 64; refine (challenge_any p q g s A2 (zs.length + 1) c2 (zs ++ [(k : Int)]) _ (Ints.of_own hown2) (by omega) HG.out).mono ?_; rintro e' w3 ⟨rfl, hb3⟩; have hX3 : Below wr.heap.size wr w3 := belT hX hb3; have hX : Below wr.heap.size wr w3 := hX3; rw [HV.out])
            | (refine step_appI (B := wr.heap.size) (by rfl) _ _ (by rfl) (by rfl) (by rfl) (ints_lit1 w1 w1.heap.size (k : Int) rfl) ((ownDown hown1 (by simp)).alloc _) (by omega) ?_ ?_; (focus (exact Nat.le_trans hX1.size (by simp))); intro A2 c2 w2 hown2 hg2; have hX : Below wr.heap.size wr w2 := own_below (B := wr.heap.size) (belA hX1) (Nat.le_trans hX1.size (by simp)) ((ownDown hown1 (by simp)).alloc _) hg2)
            | (refine step_appI (B := wr.heap.size) (by rfl) _ _ (by rfl) (by rfl) (by rfl) ((Ints.drew (ints_lit1 wr wr.heap.size (k : Int) rfl)).below hb1) (ownDown hown1 (by simp)) (by omega) ?_ ?_; (focus (exact hX1.size)); intro A2 c2 w2 hown2 hg2; have hX : Below wr.heap.size wr w2 := own_below (B := wr.heap.size) hX1 hX1.size (ownDown hown1 (by simp)) hg2)))
        all_goals
          go_wp2_with (at_builtin; refine app1 rfl _ _ rfl rfl rfl (ownBelow HO.out hX3) (by omega) (by have := HB.out.size; have := hX3.size; have := HS0.out; omega) ?_; intro v4 w4 hown4 hbel4; rw [← HS.out] at hown4)
        all_goals go_roundw
        all_goals first | (simp [intOf]; omega; done) | exact ⟨k + 1, by omega, by go_num, Lib.hid hown4, Lib.hid ((belT HB.out hX3).trans (by rw [HS0.out]; exact hbel4))⟩
      · have e : k = M := by omega
        subst e
        obtain ⟨B, cc, rfl⟩ := own_shape HO.out
        obtain ⟨gg, rfl⟩ := own_addr' HO.out (by omega)
        have hcap := own_cap HO.out
        have HP := Lib.hid (own_prefix HO.out mx1)
        have j1 : (0 : Int) ≤ (m : Int) := by omega
        have j2 : (m : Int) ≤ (cc : Int) := by omega
        go_wp2
        go_ret2
        refine RI.yes HR.out ?_ (belT hb0 HB.out)
        have := ownDown (B' := w.heap.size) HP.out (by omega)
        rwa [← List.map_take, csL_take _ _ _ _ _ mx1] at this
set_option maxHeartbeats 800000 in
theorem sChallenges_ri (p q g : Int) (s : ByteArray) (A : Option Addr) (n c : Nat) (zs : List Int) (m : Int) (w : World) (h : Ints w A n zs) (hn : n ≤ 9000000) :
    Calls Try.prog 24 #[.agg #[.int .i64 p, .int .i64 q, .int .i64 g], .string s, .slice A n c, .int .i64 m] w (RI w (csM p q g s zs m)) := by
  have hl := h.len
  subst hl
  have HI := Lib.hid h
  clear h
  go_enter Try.func24, Try.ntmps24
  go_wp2_with fail
  refine (l2Good_any p q g _).mono ?_
  rintro e w1_ ⟨rfl, hb1⟩
  have hW := hb1
  obtain ⟨hc, hf⟩ := bcell hW
  cases q1 : goodB p q g
  · go_wp2
    go_ret2
    exact RI.no (by simp [csM, q1]) (belT (by repeat (first | exact Below.refl _ _ | assumption | refine belA ?_ | refine belD ?_ | refine belN ?_ | refine belS ?_ (by simp) | refine belT ?_ (by assumption))) hW)
  go_wp2_with fail
  refine (l3Label_any s A zs.length c zs 4 _ (HI.out.below (belT (by repeat (first | exact Below.refl _ _ | assumption | refine belA ?_ | refine belD ?_ | refine belN ?_ | refine belS ?_ (by simp) | refine belT ?_ (by assumption))) hW)) (by omega) (by omega) (by omega)).mono ?_
  rintro e w2_ ⟨rfl, hb2⟩
  clear hc hf
  replace hW := belT hW hb2
  obtain ⟨hc, hf⟩ := bcell hW
  cases q2 : lbB s zs 4
  · go_wp2
    go_ret2
    exact RI.no (by simp [csM, q2]) (belT (by repeat (first | exact Below.refl _ _ | assumption | refine belA ?_ | refine belD ?_ | refine belN ?_ | refine belS ?_ (by simp) | refine belT ?_ (by assumption))) hW)
  obtain ⟨z1, z2, z3⟩ := lb_of q2
  go_wp2_with fail
  refine (l1In_any m 0 100 _).mono ?_
  rintro e w' ⟨rfl, rfl⟩
  cases hm : inB m 0 100
  · go_wp2
    go_ret2
    exact RI.no (by simp [csM, hm]) (belT (by repeat (first | exact Below.refl _ _ | assumption | refine belA ?_ | refine belD ?_ | refine belN ?_ | refine belS ?_ (by simp) | refine belT ?_ (by assumption))) hW)
  obtain ⟨m0, m1⟩ := inB_true hm
  have hM : csM p q g s zs m = (csL p q g s zs m.toNat, true) := by rw [csM, q1, q2, hm]; rfl
  obtain ⟨m, rfl⟩ := Int.eq_ofNat_of_zero_le m0
  rw [Int.toNat_natCast] at hM
  have HM := Lib.hid hM
  clear hM hm
  go_wp2_with fail
  refine (hChallenges_any p q g s A zs.length c zs m _ (HI.out.below (belT (by repeat (first | exact Below.refl _ _ | assumption | refine belA ?_ | refine belD ?_ | refine belN ?_ | refine belS ?_ (by simp) | refine belT ?_ (by assumption))) hW)) (by omega) (by omega) (by omega) q1 z2).mono ?_
  rintro e w3 ⟨B, cc, rfl, hown, hb3⟩
  have hX : Below w.heap.size w w2_ := belT (by repeat (first | exact Below.refl _ _ | assumption | refine belA ?_ | refine belD ?_ | refine belN ?_ | refine belS ?_ (by simp) | refine belT ?_ (by assumption))) hW
  go_wp2
  go_ret2
  exact RI.yes HM.out (ownDown hown (Below.size hX)) (belT hX hb3)
theorem sChallenges_any (p q g : Int) (s : ByteArray) (A : Option Addr) (n c : Nat) (zs : List Int) (m : Int) (w : World) (h : Ints w A n zs) (hn : n ≤ 9000000) :
    Calls Try.prog 24 #[.agg #[.int .i64 p, .int .i64 q, .int .i64 g], .string s, .slice A n c, .int .i64 m] w fun e w' => ∃ B cc, e = .returned (.tuple #[.slice B (csM p q g s zs m).1.length cc, .bool (csM p q g s zs m).2]) ∧ w'.ownsRow w.heap.size 3 1 (.slice B (csM p q g s zs m).1.length cc) (csM p q g s zs m).1.length ((csM p q g s zs m).1.map (Value.int .i64)) ∧ Below w.heap.size w w' :=
  sChallenges_ri p q g s A n c zs m w h hn
theorem RI.down {W w w' : World} {r : List Int × Bool} {e : Ending} (h : RI W r e w') (hb : Below w.heap.size w W) : RI w r e w' := by
  obtain ⟨B, cc, he, ho, hb'⟩ := h
  exact ⟨B, cc, he, ownDown ho hb.size, belT hb hb'⟩
set_option maxHeartbeats 800000 in
theorem iChallenges_ri (p q g : Int) (s : ByteArray) (A : Option Addr) (n c : Nat) (zs : List Int) (m : Int) (w : World) (h : Ints w A n zs) (hn : n ≤ 9000000) :
    Calls Try.prog 25 #[.agg #[.int .i64 p, .int .i64 q, .int .i64 g], .string s, .slice A n c, .int .i64 m] w (RI w (csM p q g s zs m)) := by
  have hl := h.len
  subst hl
  have HI := Lib.hid h
  clear h
  go_enter Try.func25, Try.ntmps25
  go_wp2_with fail
  refine (IsValidGroup_any p q g _).mono ?_
  rintro e w1_ ⟨rfl, hb1⟩
  have hW := hb1
  obtain ⟨hc, hf⟩ := bcell hW
  cases q1 : goodB p q g
  · go_wp2
    go_ret2
    exact RI.no (by simp [csM, q1]) (belT (by repeat (first | exact Below.refl _ _ | assumption | refine belA ?_ | refine belD ?_ | refine belN ?_ | refine belS ?_ (by simp) | refine belT ?_ (by assumption))) hW)
  go_wp2_with fail
  refine (within_any m 0 100 _).mono ?_
  rintro e w' ⟨rfl, rfl⟩
  cases hm : inB m 0 100
  · go_wp2
    go_ret2
    exact RI.no (by simp [csM, hm]) (belT (by repeat (first | exact Below.refl _ _ | assumption | refine belA ?_ | refine belD ?_ | refine belN ?_ | refine belS ?_ (by simp) | refine belT ?_ (by assumption))) hW)
  obtain ⟨m0, m1⟩ := inB_true hm
  have hM : csM p q g s zs m = csW p q g s zs m.toNat := by rw [csM, q1, hm, csW]; simp
  obtain ⟨m, rfl⟩ := Int.eq_ofNat_of_zero_le m0
  rw [Int.toNat_natCast] at hM
  have HM := Lib.hid hM
  clear hM hm
  go_wp2_with fail
  refine (challenges_ri p q g s A zs.length c zs m _ (HI.out.below (belT (by repeat (first | exact Below.refl _ _ | assumption | refine belA ?_ | refine belD ?_ | refine belN ?_ | refine belS ?_ (by simp) | refine belT ?_ (by assumption))) hW)) (by omega) (by omega) q1).mono ?_
  rintro e w3 hri
  have hX : Below w.heap.size w w1_ := belT (by repeat (first | exact Below.refl _ _ | assumption | refine belA ?_ | refine belD ?_ | refine belN ?_ | refine belS ?_ (by simp) | refine belT ?_ (by assumption))) hW
  obtain ⟨B, cc, rfl, ho, hb3⟩ := hri
  go_wp2
  go_ret2
  rw [HM.out]
  exact ⟨B, cc, rfl, ownDown ho (Below.size hX), belT hX hb3⟩
theorem iChallenges_any (p q g : Int) (s : ByteArray) (A : Option Addr) (n c : Nat) (zs : List Int) (m : Int) (w : World) (h : Ints w A n zs) (hn : n ≤ 9000000) :
    Calls Try.prog 25 #[.agg #[.int .i64 p, .int .i64 q, .int .i64 g], .string s, .slice A n c, .int .i64 m] w fun e w' => ∃ B cc, e = .returned (.tuple #[.slice B (csM p q g s zs m).1.length cc, .bool (csM p q g s zs m).2]) ∧ w'.ownsRow w.heap.size 3 1 (.slice B (csM p q g s zs m).1.length cc) (csM p q g s zs m).1.length ((csM p q g s zs m).1.map (Value.int .i64)) ∧ Below w.heap.size w w' :=
  iChallenges_ri p q g s A n c zs m w h hn
end Go.Proofs.Ytggmcbhijbggdaa
