/- Products of polynomials: contracts of both sides. -/
import Derived.Test.YteeggmnkcgpfjaaPoly2
import Derived.Test.YteeggmnkcgpfjaaRow
import Derived.BigRegion
namespace Go.Proofs.Yteeggmnkcgpfjaa
open Go.RowKit
set_option linter.unusedVariables false

def mulJ (q x : Int) (g row : List Int) (i : Nat) : Nat → List Int
  | 0 => row
  | j + 1 => (mulJ q x g row i j).set (i + j) (((mulJ q x g row i j).getD (i + j) 0 + x * g.getD j 0) % q)
def mulI (q : Int) (f g : List Int) : Nat → List Int
  | 0 => List.replicate (f.length + g.length - 1) 0
  | i + 1 => mulJ q (f.getD i 0) g (mulI q f g i) i g.length
def mulL (q : Int) (f g : List Int) : List Int := if f.length = 0 ∨ g.length = 0 then [] else mulI q f g f.length
theorem mulJ_len (q x : Int) (g row : List Int) (i : Nat) : ∀ j, (mulJ q x g row i j).length = row.length
  | 0 => rfl
  | j + 1 => by rw [mulJ, List.length_set, mulJ_len q x g row i j]
theorem mulI_len (q : Int) (f g : List Int) : ∀ i, (mulI q f g i).length = f.length + g.length - 1
  | 0 => by simp [mulI]
  | i + 1 => by rw [mulI, mulJ_len, mulI_len q f g i]
theorem mulJ_res {q x : Int} {g row : List Int} {i : Nat} (hq : 0 < q) (h : Res q row) : ∀ j, Res q (mulJ q x g row i j)
  | 0 => h
  | j + 1 => (mulJ_res hq h j).set (Int.emod_nonneg _ (by omega)) (Int.emod_lt_of_pos _ hq)
theorem mulI_res {q : Int} {f g : List Int} (hq : 0 < q) : ∀ i, Res q (mulI q f g i)
  | 0 => Res.zero _ hq
  | i + 1 => mulJ_res hq (mulI_res hq i) _
theorem mulL_len (q : Int) (f g : List Int) : (mulL q f g).length = if f.length = 0 ∨ g.length = 0 then 0 else f.length + g.length - 1 := by
  unfold mulL
  split
  · rfl
  · exact mulI_len q f g _
theorem mulL_le (q : Int) (f g : List Int) : (mulL q f g).length ≤ f.length + g.length := by rw [mulL_len]; split <;> omega
theorem mulL_res {q : Int} {f g : List Int} (hq : 0 < q) : Res q (mulL q f g) := by
  unfold mulL
  split
  · intro j hj; exact absurd hj (by simp)
  · exact mulI_res hq _
theorem mod_in {q r t : Int} : (r + t % q) % q = (r + t) % q := by rw [Int.add_emod_emod]

set_option maxHeartbeats 1600000 in
theorem yMul_any (q : Int) (A : Option Addr) (n c : Nat) (f : List Int) (A' : Option Addr) (n' c' : Nat) (g : List Int) (w : World) (h : Ints w A n f) (h' : Ints w A' n' g) (m1 : 2 ≤ q) (m2 : q ≤ 2000000000)
    (hf : Res q f) (hg : Res q g) (hn : n ≤ 1000000) (hn' : n' ≤ 1000000) :
    Calls Try.prog 143 #[.int .i64 q, .slice A n c, .slice A' n' c'] w fun e w' => ∃ B cc, e = .returned (.slice B (mulL q f g).length cc) ∧ w'.ownsRow w.heap.size 3 1 (.slice B (mulL q f g).length cc) (mulL q f g).length ((mulL q f g).map (Value.int .i64)) ∧ Below w.heap.size w w' := by
  have hl := h.len
  subst hl
  have hl := h'.len
  subst hl
  have HI := Lib.hid h
  have HI' := Lib.hid h'
  have HF := Lib.hid hf
  have HG := Lib.hid hg
  clear h h' hf hg
  by_cases h0 : f.length = 0
  · have hb0 : ((f.length : Int) == 0) = true := by rw [beq_iff_eq]; omega
    have HR := Lib.hid (show mulL q f g = [] by unfold mulL; rw [if_pos (.inl h0)])
    go_enter Try.func143, Try.ntmps143
    go_wp2
    go_ret
    rw [HR.out]
    exact ⟨none, 0, rfl, own_nil _ _, Below.refl _ _⟩
  by_cases h1 : g.length = 0
  · have hb0 : ((f.length : Int) == 0) = false := by rw [beq_eq_false_iff_ne]; omega
    have hb1 : ((g.length : Int) == 0) = true := by rw [beq_iff_eq]; omega
    have HR := Lib.hid (show mulL q f g = [] by unfold mulL; rw [if_pos (.inr h1)])
    go_enter Try.func143, Try.ntmps143
    go_wp2
    go_ret
    rw [HR.out]
    exact ⟨none, 0, rfl, own_nil _ _, Below.refl _ _⟩
  have HR := Lib.hid (show mulL q f g = mulI q f g f.length by unfold mulL; rw [if_neg (by omega)])
  have hne : (q == 0) = false := by simp; omega
  have hb0 : ((f.length : Int) == 0) = false := by rw [beq_eq_false_iff_ne]; omega
  have hb1 : ((g.length : Int) == 0) = false := by rw [beq_eq_false_iff_ne]; omega
  obtain ⟨i0, hi, hz0, hz1, hz2⟩ := info_parts int_info
  generalize hN : f.length + g.length - 1 = N
  go_enter Try.func143, Try.ntmps143
  go_wp2_with (at_make; refine wpList_make_full _ rfl _ _ 24 rfl w.heap.size 3 i0 (.int .i64 0) 1 Try.underlying24 hi hz0 hz1 .i64 .i64 _ _ N rfl rfl (by omega) (by omega) (by rw [hz2]; omega) (by simp only [maxLen]; omega) (Nat.le_refl _) ?_; intro w1 hown hg)
  have hw0 : Below w.heap.size w w1 := (Below.refl _ _).grown hg (Nat.le_refl _) (by intro k hk; cases hk)
  have H0 := Lib.hid (own_zero hown)
  clear hown hg
  go_loopw [29] (fun i wr => ∃ k : Nat, k ≤ f.length ∧ i = .int .i64 k ∧ Hid (wr.ownsRow w.heap.size 3 1 (.slice (some ⟨w.heap.size, 0, none⟩) N N) N ((mulI q f g k).map (Value.int .i64))) ∧ Hid (Below w.heap.size w wr)) (fun i _ => f.length - (intOf i).toNat)
  case atStart => exact ⟨0, by omega, rfl, Lib.hid (by rw [mulI, hN]; exact H0.out), Lib.hid hw0⟩
  case round =>
    obtain ⟨k, hk, rfl, HO, HB⟩ := hrel
    by_cases hlt : k < f.length
    · obtain ⟨b, off, rfl, hb, hc⟩ := (HI.out.below HB.out).at_ hlt
      obtain ⟨x1, x2⟩ := HF.out k hlt
      have HS := Lib.hid (show mulI q f g (k + 1) = mulJ q (f.getD k 0) g (mulI q f g k) k g.length from rfl)
      have HRow := Lib.hid (mulI_res (f := f) (g := g) (show 0 < q by omega) k)
      have HLen := Lib.hid ((mulI_len q f g k).trans hN)
      generalize f.getD k 0 = x at hc x1 x2 HS
      generalize mulI q f g k = row at HO HS HRow HLen
      go_wp2
      go_loopw [36] (fun i wr => ∃ j : Nat, j ≤ g.length ∧ i = .int .i64 j ∧ Hid (wr.ownsRow w.heap.size 3 1 (.slice (some ⟨w.heap.size, 0, none⟩) N N) N ((mulJ q x g row k j).map (Value.int .i64))) ∧ Hid (Below w.heap.size w wr)) (fun i _ => g.length - (intOf i).toNat)
      case atStart => exact ⟨0, by omega, rfl, HO, HB⟩
      case round =>
        clear HO HB hc hb
        obtain ⟨j, hj, rfl, HO, HB⟩ := hrel
        by_cases hlt2 : j < g.length
        · obtain ⟨b, off, rfl, hb, hc⟩ := (HI'.out.below HB.out).at_ hlt2
          obtain ⟨y1, y2⟩ := HG.out j hlt2
          have hd := own_at (k := k + j) HO.out (by omega)
          have hfz := HO.out.frozenAt (k + j)
          obtain ⟨r1, r2⟩ := (mulJ_res (x := x) (g := g) (i := k) (show 0 < q by omega) HRow.out j).getD (k + j) (by omega)
          have HT := Lib.hid (show mulJ q x g row k (j + 1) = (mulJ q x g row k j).set (k + j) (((mulJ q x g row k j).getD (k + j) 0 + x * g.getD j 0) % q) from rfl)
          generalize g.getD j 0 = y at hc y1 y2 HT
          generalize (mulJ q x g row k j).getD (k + j) 0 = r at hd r1 r2 HT
          obtain ⟨p1, p2⟩ := mul_bdi ⟨x1, x2⟩ ⟨y1, y2⟩ m2
          have HP := Lib.hid (own_put (k := k + j) (z := (r + x * y) % q) HO.out)
          rw [← HT.out] at HP
          go_wp2
          go_roundw
          case rel => exact ⟨j + 1, by omega, by go_num, HP, Lib.hid (belS HB.out (by simp))⟩
          case measure => simp [intOf]; omega
        · have e : j = g.length := by omega
          subst e
          rw [← HS.out] at HO
          go_wp2
          go_roundw
          case rel => exact ⟨k + 1, by omega, by go_num, HO, HB⟩
          case measure => simp [intOf]; omega
    · have e : k = f.length := by omega
      subst e
      have hle := mulI_len q f g f.length
      rw [hN] at hle
      go_wp2
      go_ret
      rw [HR.out, hle]
      exact ⟨_, _, rfl, HO.out, HB.out⟩
set_option maxHeartbeats 1600000 in
theorem mulPolys_any (q : Int) (A : Option Addr) (n c : Nat) (f : List Int) (A' : Option Addr) (n' c' : Nat) (g : List Int) (w : World) (h : Ints w A n f) (h' : Ints w A' n' g) (m1 : 2 ≤ q) (m2 : q ≤ 2000000000)
    (hf : Res q f) (hg : Res q g) (hn : n ≤ 1000000) (hn' : n' ≤ 1000000) :
    Calls Try.prog 146 #[.int .i64 q, .slice A n c, .slice A' n' c'] w fun e w' => ∃ B cc, e = .returned (.slice B (mulL q f g).length cc) ∧ w'.ownsRow w.heap.size 3 1 (.slice B (mulL q f g).length cc) (mulL q f g).length ((mulL q f g).map (Value.int .i64)) ∧ Below w.heap.size w w' := by
  have hl := h.len
  subst hl
  have hl := h'.len
  subst hl
  have HI := Lib.hid h
  have HI' := Lib.hid h'
  have HF := Lib.hid hf
  have HG := Lib.hid hg
  clear h h' hf hg
  by_cases h0 : f.length = 0
  · have hb0 : ((f.length : Int) == 0) = true := by rw [beq_iff_eq]; omega
    have HR := Lib.hid (show mulL q f g = [] by unfold mulL; rw [if_pos (.inl h0)])
    go_enter Try.func146, Try.ntmps146
    go_wp2
    go_ret
    rw [HR.out]
    exact ⟨none, 0, rfl, own_nil _ _, Below.refl _ _⟩
  by_cases h1 : g.length = 0
  · have hb0 : ((f.length : Int) == 0) = false := by rw [beq_eq_false_iff_ne]; omega
    have hb1 : ((g.length : Int) == 0) = true := by rw [beq_iff_eq]; omega
    have HR := Lib.hid (show mulL q f g = [] by unfold mulL; rw [if_pos (.inr h1)])
    go_enter Try.func146, Try.ntmps146
    go_wp2
    go_ret
    rw [HR.out]
    exact ⟨none, 0, rfl, own_nil _ _, Below.refl _ _⟩
  have HR := Lib.hid (show mulL q f g = mulI q f g f.length by unfold mulL; rw [if_neg (by omega)])
  have hne : (q == 0) = false := by simp; omega
  have hb0 : ((f.length : Int) == 0) = false := by rw [beq_eq_false_iff_ne]; omega
  have hb1 : ((g.length : Int) == 0) = false := by rw [beq_eq_false_iff_ne]; omega
  obtain ⟨i0, hi, hz0, hz1, hz2⟩ := info_parts int_info
  generalize hN : f.length + g.length - 1 = N
  go_enter Try.func146, Try.ntmps146
  go_wp2_with (at_make; refine wpList_make_full _ rfl _ _ 24 rfl w.heap.size 3 i0 (.int .i64 0) 1 Try.underlying24 hi hz0 hz1 .i64 .i64 _ _ N rfl rfl (by omega) (by omega) (by rw [hz2]; omega) (by simp only [maxLen]; omega) (Nat.le_refl _) ?_; intro w1 hown hg)
  have hw0 : Below w.heap.size w w1 := (Below.refl _ _).grown hg (Nat.le_refl _) (by intro k hk; cases hk)
  have H0 := Lib.hid (own_zero hown)
  clear hown hg
  go_loopw [29] (fun i wr => ∃ k : Nat, k ≤ f.length ∧ i = .int .i64 k ∧ Hid (wr.ownsRow w.heap.size 3 1 (.slice (some ⟨w.heap.size, 0, none⟩) N N) N ((mulI q f g k).map (Value.int .i64))) ∧ Hid (Below w.heap.size w wr)) (fun i _ => f.length - (intOf i).toNat)
  case atStart => exact ⟨0, by omega, rfl, Lib.hid (by rw [mulI, hN]; exact H0.out), Lib.hid hw0⟩
  case round =>
    obtain ⟨k, hk, rfl, HO, HB⟩ := hrel
    by_cases hlt : k < f.length
    · obtain ⟨b, off, rfl, hb, hc⟩ := (HI.out.below HB.out).at_ hlt
      obtain ⟨x1, x2⟩ := HF.out k hlt
      have HS := Lib.hid (show mulI q f g (k + 1) = mulJ q (f.getD k 0) g (mulI q f g k) k g.length from rfl)
      have HRow := Lib.hid (mulI_res (f := f) (g := g) (show 0 < q by omega) k)
      have HLen := Lib.hid ((mulI_len q f g k).trans hN)
      generalize f.getD k 0 = x at hc x1 x2 HS
      generalize mulI q f g k = row at HO HS HRow HLen
      go_wp2
      go_loopw [36] (fun i wr => ∃ j : Nat, j ≤ g.length ∧ i = .int .i64 j ∧ Hid (wr.ownsRow w.heap.size 3 1 (.slice (some ⟨w.heap.size, 0, none⟩) N N) N ((mulJ q x g row k j).map (Value.int .i64))) ∧ Hid (Below w.heap.size w wr)) (fun i _ => g.length - (intOf i).toNat)
      case atStart => exact ⟨0, by omega, rfl, HO, HB⟩
      case round =>
        clear HO HB hc hb
        obtain ⟨j, hj, rfl, HO, HB⟩ := hrel
        by_cases hlt2 : j < g.length
        · obtain ⟨b, off, rfl, hb, hc⟩ := (HI'.out.below HB.out).at_ hlt2
          obtain ⟨y1, y2⟩ := HG.out j hlt2
          have hd := own_at (k := k + j) HO.out (by omega)
          have hfz := HO.out.frozenAt (k + j)
          obtain ⟨r1, r2⟩ := (mulJ_res (x := x) (g := g) (i := k) (show 0 < q by omega) HRow.out j).getD (k + j) (by omega)
          have HT := Lib.hid (show mulJ q x g row k (j + 1) = (mulJ q x g row k j).set (k + j) (((mulJ q x g row k j).getD (k + j) 0 + x * g.getD j 0) % q) from rfl)
          generalize g.getD j 0 = y at hc y1 y2 HT
          generalize (mulJ q x g row k j).getD (k + j) 0 = r at hd r1 r2 HT
          obtain ⟨p1, p2⟩ := mul_bdi ⟨x1, x2⟩ ⟨y1, y2⟩ m2
          have p3 := Int.emod_nonneg (x * y) (show q ≠ 0 by omega)
          have p4 := Int.emod_lt_of_pos (x * y) (show 0 < q by omega)
          have p5 := Int.emod_nonneg (r + x * y) (show q ≠ 0 by omega)
          have HP := Lib.hid (own_put (k := k + j) (z := (r + x * y) % q) HO.out)
          rw [← HT.out] at HP
          go_wp2
          go_region
          go_wp2
          go_roundw
          case rel => exact ⟨j + 1, by omega, by go_num, Lib.hid (ownBelow HP.out (belD (Below.refl _ _))), Lib.hid (belD (belS HB.out (by simp)))⟩
          case measure => simp [intOf]; omega
        · have e : j = g.length := by omega
          subst e
          rw [← HS.out] at HO
          go_wp2
          go_roundw
          case rel => exact ⟨k + 1, by omega, by go_num, HO, HB⟩
          case measure => simp [intOf]; omega
    · have e : k = f.length := by omega
      subst e
      have hle := mulI_len q f g f.length
      rw [hN] at hle
      go_wp2
      go_ret
      rw [HR.out, hle]
      exact ⟨_, _, rfl, HO.out, HB.out⟩
end Go.Proofs.Yteeggmnkcgpfjaa
