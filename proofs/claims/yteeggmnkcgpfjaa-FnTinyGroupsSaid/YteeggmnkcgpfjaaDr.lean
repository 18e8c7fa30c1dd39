/- Contracts: draws: a cursor over bytes, numbers and groups that are drawn. -/
import Derived.Test.YteeggmnkcgpfjaaPf
import Derived.Test.YteeggmnkcgpfjaaGr4
import Derived.Test.YteeggmnkcgpfjaaMg
import Derived.Deep.RegionHeld3
import Derived.Deep.DrawnRows
namespace Go.Proofs.Yteeggmnkcgpfjaa
open Go.RowKit
set_option linter.unusedVariables false
attribute [local go_sem ↓] Go.wp_at_zero Go.wp_at_succ
set_option linter.unusedSimpArgs false

/-- bytes that can be read, in a block below B -/
def Bys (W : World) (B : Nat) (A : Option Addr) (n : Nat) (zs : List Int) : Prop :=
  zs.length = n ∧ n ≤ 9223372036854775807 ∧ (∀ j, j < n → 0 ≤ zs.getD j 0 ∧ zs.getD j 0 ≤ 255) ∧ (0 < n → ∃ b off, A = some ⟨b, off, none⟩ ∧ b < B ∧ ∀ k, k < n → W.cell? ⟨b, off + k, none⟩ = some (.int .u8 (zs.getD k 0)))
/-- a cursor's box: its bytes, its place, its state; it has drawn at most k times -/
structure Cur (W : World) (b k : Nat) : Prop where
  c : ∃ A n c zs, ∃ a s : Int, W.cell? ⟨b, 0, none⟩ = some (.slice A n c) ∧ W.cell? ⟨b, 1, none⟩ = some (.int .i64 a) ∧ W.cell? ⟨b, 2, none⟩ = some (.int .u64 s) ∧ Bys W b A n zs ∧ 0 ≤ a ∧ a ≤ (k : Int) ∧ 0 ≤ s ∧ s ≤ 18446744073709551615
  f1 : W.frozen? ⟨b, 1, none⟩ = false
  f2 : W.frozen? ⟨b, 2, none⟩ = false
theorem Cur.lt {W : World} {b k : Nat} (h : Cur W b k) : b < W.heap.size := by
  obtain ⟨A, n, c, zs, a, s, h1, _⟩ := h.c
  exact World.block_lt_of_cell? _ _ h1
theorem Cur.below {W W' : World} {b k : Nat} (h : Cur W b k) (hb : Below W.heap.size W W') : Cur W' b k := by
  have hl := h.lt
  obtain ⟨A, n, c, zs, a, s, h1, h2, h3, ⟨e1, e2, e3, e4⟩, h5⟩ := h.c
  refine ⟨⟨A, n, c, zs, a, s, keepB hb h1, keepB hb h2, keepB hb h3, ⟨e1, e2, e3, fun hn => ?_⟩, h5⟩, ?_, ?_⟩
  · obtain ⟨bb, off, e, hlt, hc⟩ := e4 hn
    exact ⟨bb, off, e, hlt, fun j hj => keepB hb (hc j hj)⟩
  · exact (hb.frozen (p := ⟨b, 1, none⟩) hl).trans h.f1
  · exact (hb.frozen (p := ⟨b, 2, none⟩) hl).trans h.f2
theorem Cur.put {W : World} {b k : Nat} (h : Cur W b k) {A : Option Addr} {n c : Nat} {zs : List Int} {a s : Int} (h1 : W.cell? ⟨b, 0, none⟩ = some (.slice A n c)) (hB : Bys W b A n zs) (a0 : 0 ≤ a) (a1 : a ≤ (k : Int) + 1) (s0 : 0 ≤ s) (s1 : s ≤ 18446744073709551615) :
    Cur ((W.setCell ⟨b, 1, none⟩ (.int .i64 a)).setCell ⟨b, 2, none⟩ (.int .u64 s)) b (k + 1) := by
  obtain ⟨A', n', c', zs', a', s', g1, g2, g3, _⟩ := h.c
  obtain ⟨e1, e2, e3, e4⟩ := hB
  refine ⟨⟨A, n, c, zs, a, s, ?_, ?_, ?_, ⟨e1, e2, e3, fun hn => ?_⟩, a0, by omega, s0, s1⟩, ?_, ?_⟩
  · rw [World.cell?_setCell_other _ _ _ _ (by simp), World.cell?_setCell_other _ _ _ _ (by simp)]; exact h1
  · rw [World.cell?_setCell_other _ _ _ _ (by simp)]; exact World.cell?_setCell_same _ _ _ g2
  · exact World.cell?_setCell_same _ _ _ (by rw [World.cell?_setCell_other _ _ _ _ (by simp)]; exact g3)
  · obtain ⟨bb, off, e, hlt, hc⟩ := e4 hn
    exact ⟨bb, off, e, hlt, fun j hj => keepS (by simp only; omega) (keepS (by simp only; omega) (hc j hj))⟩
  · rw [World.frozen?_setCell, World.frozen?_setCell]; exact h.f1
  · rw [World.frozen?_setCell, World.frozen?_setCell]; exact h.f2
theorem spared_put'' {W : World} {g k : Nat} {v : Value} : Spared g (g + 1) W (W.setCell ⟨g, k, none⟩ v) :=
  ⟨rfl, rfl, rfl, by simp, fun j hj hd => heap_setCell_other W _ j v (by intro e; subst e; omega)⟩
theorem Cur.drewN {W : World} {b k m : Nat} (h : Cur W b k) : Cur (W.drewN m) b k := ⟨h.c, h.f1, h.f2⟩
theorem Spared.drewR {lo hi m : Nat} {w w' : World} (h : Spared lo hi w w') : Spared lo hi w (w'.drewN m) := ⟨h.os, h.tape, h.output, h.size, h.block⟩
theorem Spared.rfl' {lo hi : Nat} {w : World} : Spared lo hi w w := Spared.of_below (Below.refl _ _)
/-- what a draw hands back -/
def Drew (b k : Nat) (P : Int → Prop) (W : World) (e : Ending) (w' : World) : Prop := ∃ x : Int, e = .returned (.int .i64 x) ∧ P x ∧ Cur w' b k ∧ Spared b (b + 1) W w'
theorem u64_bd (x : Int) : 0 ≤ IntKind.u64.wrap x ∧ IntKind.u64.wrap x ≤ 18446744073709551615 := by
  simp [IntKind.wrap, IntKind.bits, IntKind.signed]
  omega
theorem and_u64_255 (a : Int) : 0 ≤ bits .and .u64 a 255 ∧ bits .and .u64 a 255 ≤ 255 := by
  show 0 ≤ IntKind.u64.wrap ((BitVec.ofInt 64 a &&& BitVec.ofInt 64 255).toNat : Int) ∧ IntKind.u64.wrap ((BitVec.ofInt 64 a &&& BitVec.ofInt 64 255).toNat : Int) ≤ 255
  have h : (BitVec.ofInt 64 a &&& BitVec.ofInt 64 255).toNat ≤ 255 := by
    rw [BitVec.toNat_and]
    exact Nat.and_le_right
  generalize (BitVec.ofInt 64 a &&& BitVec.ofInt 64 255).toNat = m at h ⊢
  simp [IntKind.wrap, IntKind.bits, IntKind.signed]
  omega
set_option maxHeartbeats 1600000 in
theorem curNext_any (b k : Nat) (w : World) (h : Cur w b k) (hk : k ≤ 100000) :
    Calls Try.prog 116 #[.pointer (some ⟨b, 0, none⟩)] w (Drew b (k + 1) (fun x => 0 ≤ x ∧ x ≤ 255) w) := by
  have hz := h.lt
  obtain ⟨A, n, c, zs, a, s, h1, h2, h3, hB, a0, a1, s0, s1⟩ := h.c
  have f1 := h.f1
  have f2 := h.f2
  have hn1 := hB.2.1
  have HB := Lib.hid hB
  have HC := Lib.hid h
  clear h hB
  by_cases hlt : a < n
  · obtain ⟨an, rfl⟩ := Int.eq_ofNat_of_zero_le a0
    obtain ⟨bb, off, eA, hbb, hcell⟩ := HB.out.2.2.2 (by omega)
    have hx := HB.out.2.2.1 an (by omega)
    have hc := hcell an (by omega)
    subst eA
    generalize zs.getD an 0 = x at hx hc
    obtain ⟨x0, x1⟩ := hx
    have hle : ((an : Int) + 1 ≤ (n : Int)) := by omega
    clear hcell
    go_enter Try.func116, Try.ntmps116
    go_wp2
    go_quiet (fail)
    go_wp2
    go_quiet (fail)
    go_wp2
    go_quiet (fail)
    go_wp2
    go_ret
    exact ⟨x, rfl, ⟨x0, x1⟩, (HC.out.drewN.put h1 HB.out (by omega) (by omega) (u64_bd _).1 (u64_bd _).2).drewN, ((Spared.rfl'.drewR.trans spared_put'').trans spared_put'').drewR⟩
  · have hgt : ¬ (a + 1 ≤ (n : Int)) := by omega
    go_enter Try.func116, Try.ntmps116
    go_wp2
    go_quiet (fail)
    go_wp2
    go_quiet (fail)
    go_wp2
    have hb5 := and_u64_255 (IntKind.u64.wrap (IntKind.u64.wrap (IntKind.u64.wrap (s * 6364136223846793005)) + 1442695040888963407) / 1099511627776)
    go_ret
    refine ⟨_, rfl, ?_, (HC.out.drewN.put h1 HB.out (by omega) (by omega) (u64_bd _).1 (u64_bd _).2).drewN, ((Spared.rfl'.drewR.trans spared_put'').trans spared_put'').drewR⟩
    generalize bits BinOp.and IntKind.u64 _ 255 = y at hb5 ⊢
    unfold wrap64
    omega
theorem Cur.more {W : World} {b k m : Nat} (h : Cur W b k) (hm : k ≤ m) : Cur W b m := by
  obtain ⟨A, n, c, zs, a, s, h1, h2, h3, hB, a0, a1, h4⟩ := h.c
  exact ⟨⟨A, n, c, zs, a, s, h1, h2, h3, hB, a0, by omega, h4⟩, h.f1, h.f2⟩
set_option maxHeartbeats 800000 in
theorem pick_any (b k : Nat) (n : Int) (w : World) (h : Cur w b k) (hk : k ≤ 1000) (hn : n ≤ 3000000000) :
    Calls Try.prog 68 #[.pointer (some ⟨b, 0, none⟩), .int .i64 n] w (Drew b (k + 2) (fun x => 0 ≤ x ∧ x ≤ 65535 ∧ (1 ≤ n → x < n) ∧ (n < 1 → x = 0)) w) := by
  have HC := Lib.hid h
  clear h
  by_cases h1 : n ≤ 1
  · go_enter Try.func68, Try.ntmps68
    go_wp2
    go_ret
    exact ⟨0, rfl, ⟨by omega, by omega, by omega, by omega⟩, HC.out.more (by omega), Spared.rfl'⟩
  · have hn0 : (n == 0) = false := by rw [beq_eq_false_iff_ne]; omega
    have hn0' : ¬ n = 0 := by omega
    go_enter Try.func68, Try.ntmps68
    go_wp2_with fail
    refine (curNext_any b k _ HC.out (by omega)).mono ?_
    rintro e w1 ⟨x, rfl, ⟨x0, x1⟩, hc1, hs1⟩
    have HC1 := Lib.hid hc1
    have HS1 := Lib.hid hs1
    clear hc1 hs1
    by_cases h2 : 200 < n
    · go_wp2_with fail
      refine (curNext_any b (k + 1) _ HC1.out (by omega)).mono ?_
      rintro e w2 ⟨y, rfl, ⟨y0, y1⟩, hc2, hs2⟩
      have ht : (x * 256 + y).tmod n = (x * 256 + y) % n := Int.tmod_eq_emod_of_nonneg (by omega)
      have r0 := Int.emod_nonneg (x * 256 + y) (show n ≠ 0 by omega)
      have r1 := Int.emod_lt_of_pos (x * 256 + y) (show 0 < n by omega)
      have r2 : (x * 256 + y) % n ≤ x * 256 + y := by have := Int.emod_add_mul_ediv (x * 256 + y) n; have h9 : 0 ≤ n * ((x * 256 + y) / n) := Int.mul_nonneg (by omega) (Int.ediv_nonneg (by omega) (by omega)); omega
      go_wp2
      go_ret
      exact ⟨(x * 256 + y) % n, rfl, ⟨r0, by omega, fun _ => r1, by omega⟩, hc2, HS1.out.trans hs2⟩
    · have ht : x.tmod n = x % n := Int.tmod_eq_emod_of_nonneg x0
      have r0 := Int.emod_nonneg x (show n ≠ 0 by omega)
      have r1 := Int.emod_lt_of_pos x (show 0 < n by omega)
      go_wp2
      go_ret
      exact ⟨x % n, rfl, ⟨r0, by have := Int.emod_add_mul_ediv x n; have h9 : 0 ≤ n * (x / n) := Int.mul_nonneg (by omega) (Int.ediv_nonneg x0 (by omega)); omega, fun _ => r1, by omega⟩, HC1.out.more (by omega), HS1.out⟩
theorem ints_apart {b : Nat} {w w' : World} {A : Option Addr} {n : Nat} {zs : List Int} (hs : Spared b (b + 1) w w') (h : Ints w A n zs) (hA : ∀ bb off, A = some ⟨bb, off, none⟩ → 0 < n → bb ≠ b) : Ints w' A n zs := by
  refine ⟨h.1, h.2.1, fun hn => ?_⟩
  obtain ⟨bb, off, e, hb, hc⟩ := h.2.2 hn
  have hne := hA bb off e hn
  exact ⟨bb, off, e, Nat.lt_of_lt_of_le hb hs.size, fun k hk => hs.cell (hc k hk) (by omega)⟩
set_option maxHeartbeats 800000 in
theorem among_any (g n c b k : Nat) (zs : List Int) (w : World) (h : Cur w b k) (hk : k ≤ 1000) (hI : Ints w (some ⟨g, 0, none⟩) n zs) (hg : g ≠ b) (h1 : 1 ≤ n) (h2 : n ≤ 1000) :
    Calls Try.prog 67 #[.pointer (some ⟨b, 0, none⟩), .slice (some ⟨g, 0, none⟩) n c] w (Drew b (k + 2) (fun x => x ∈ zs) w) := by
  have HC := Lib.hid h
  have HI := Lib.hid hI
  clear h hI
  go_enter Try.func67, Try.ntmps67
  go_wp2_with fail
  refine (pick_any b k n _ HC.out hk (by omega)).mono ?_
  rintro e w1 ⟨x, rfl, ⟨x0, _, x1, _⟩, hc1, hs1⟩
  replace x1 := x1 (by omega)
  have HC1 := Lib.hid hc1
  have HS1 := Lib.hid hs1
  obtain ⟨j, rfl⟩ := Int.eq_ofNat_of_zero_le x0
  have hj : j < n := by omega
  obtain ⟨bb, off, e, hb, hc⟩ := (ints_apart hs1 HI.out (fun bb off e _ => by injection e with e; injection e with e _; omega)).at_ hj
  injection e with e
  injection e with e1 e2
  subst e1 e2
  have hm := getD_mem (d := 0) (show j < zs.length by rw [HI.out.len]; exact hj)
  generalize zs.getD j 0 = z at hc hm
  rw [Nat.zero_add] at hc
  clear hc1 hs1
  go_wp2
  go_ret
  exact ⟨z, rfl, hm, HC1.out, HS1.out⟩
theorem lit_ints (W : World) (t : TypeId) (l : List Int) (cs : Array Value) (H : Nat) (h : cs = (l.map (Value.int .i64)).toArray) (hl : l.length ≤ 1000) (hH : W.heap.size = H) : Ints (W.alloc (.cells cs t)) (some ⟨H, 0, none⟩) l.length l := by
  subst h hH
  refine ⟨rfl, by omega, fun _ => ⟨W.heap.size, 0, rfl, by simp, fun k hk => ?_⟩⟩
  rw [World.cell?_alloc_at _ _ _ _ (by simp), Nat.zero_add]
  simp [List.getD_eq_getElem?_getD, List.getElem?_eq_getElem hk]
end Go.Proofs.Yteeggmnkcgpfjaa
