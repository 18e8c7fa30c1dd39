/- Contracts: the product of many ciphertexts, other ciphertexts of the same messages. -/
import Derived.Test.YtemhjhaokbgldaaMt
import Derived.Test.YtemhjhaokbgldaaEe
namespace Go.Proofs.Ytemhjhaokbgldaa
open Go.RowKit
set_option linter.unusedVariables false
attribute [local go_sem ↓] Go.wp_at_zero Go.wp_at_succ
set_option linter.unusedSimpArgs false

/-- the product of the first ciphertexts -/
def mulCK (p : Int) (l : List (Int × Int)) : Nat → Int × Int
  | 0 => (1, 1)
  | k + 1 => (mulK p [(mulCK p l k).1, (l.getD k (0, 0)).1] 2, mulK p [(mulCK p l k).2, (l.getD k (0, 0)).2] 2)
theorem mulCK_bd {p : Int} (l : List (Int × Int)) (hp : 2 ≤ p) : ∀ k, (0 ≤ (mulCK p l k).1 ∧ (mulCK p l k).1 < p) ∧ 0 ≤ (mulCK p l k).2 ∧ (mulCK p l k).2 < p
  | 0 => by simp [mulCK]; omega
  | k + 1 => ⟨mulK_bd _ hp 2, mulK_bd _ hp 2⟩
def SmallC (p : Int) (l : List (Int × Int)) : Prop := ∀ k, k < l.length → (0 ≤ (l.getD k (0, 0)).1 ∧ (l.getD k (0, 0)).1 < p) ∧ 0 ≤ (l.getD k (0, 0)).2 ∧ (l.getD k (0, 0)).2 < p
theorem smallC_of {p q : Int} {l : List (Int × Int)} (h : l.all (hasC p q) = true) : SmallC p l := by
  intro k hk
  have := List.all_eq_true.1 h _ (getD_mem (d := (0, 0)) hk)
  exact hasC_small (u := (l.getD k (0, 0)).1) (v := (l.getD k (0, 0)).2) this

/-- the boxes of a loop over ciphertexts: the group, the result's, the product so far -/
structure MW (W : World) (b : Nat) (p q g x y : Int) : Prop where
  g0 : W.cell? ⟨b, 0, none⟩ = some (.int .i64 p)
  g1 : W.cell? ⟨b, 1, none⟩ = some (.int .i64 q)
  g2 : W.cell? ⟨b, 2, none⟩ = some (.int .i64 g)
  rr : Room W (b + 1)
  o0 : W.cell? ⟨b + 1 + 1, 0, none⟩ = some (.int .i64 x)
  o1 : W.cell? ⟨b + 1 + 1, 1, none⟩ = some (.int .i64 y)
  f0 : W.frozen? ⟨b + 1 + 1, 0, none⟩ = false
  f1 : W.frozen? ⟨b + 1 + 1, 1, none⟩ = false
theorem HB_size {w W : World} (h : Below w.heap.size w W) : w.heap.size ≤ W.heap.size := h.size
theorem MW.lt {W : World} {b : Nat} {p q g x y : Int} (h : MW W b p q g x y) : b + 1 + 1 < W.heap.size := World.block_lt_of_cell? _ _ h.o0
theorem MW.below {W W' : World} {b : Nat} {p q g x y : Int} (h : MW W b p q g x y) (hb : Below W.heap.size W W') : MW W' b p q g x y :=
  ⟨keepB hb h.g0, keepB hb h.g1, keepB hb h.g2, h.rr.below hb, keepB hb h.o0, keepB hb h.o1, (hb.frozen (p := ⟨b + 1 + 1, 0, none⟩) h.lt).trans h.f0, (hb.frozen (p := ⟨b + 1 + 1, 1, none⟩) h.lt).trans h.f1⟩
theorem Room.setCell {W : World} {R : Nat} (h : Room W R) {p : Addr} (hp : p.block ≠ R) (u : Value) : Room (W.setCell p u) R := by
  obtain ⟨x, y, h1, h2, h3, h4⟩ := h
  exact ⟨x, y, keepS (fun e => hp e.symm) h1, keepS (fun e => hp e.symm) h2, by rw [World.frozen?_setCell]; exact h3, by rw [World.frozen?_setCell]; exact h4⟩
theorem MW.put {W : World} {b : Nat} {p q g x y : Int} (h : MW W b p q g x y) (x' y' : Int) : MW ((W.setCell ⟨b + 1 + 1, 0, none⟩ (.int .i64 x')).setCell ⟨b + 1 + 1, 1, none⟩ (.int .i64 y')) b p q g x' y' := by
  have h0 := World.cell?_setCell_same (w := W) (a := ⟨b + 1 + 1, 0, none⟩) (v := .int .i64 x') h.o0
  have h1 : (W.setCell ⟨b + 1 + 1, 0, none⟩ (.int .i64 x')).cell? ⟨b + 1 + 1, 1, none⟩ = some (.int .i64 y) := (World.cell?_setCell_other W _ _ _ (by simp)).trans h.o1
  refine ⟨keepS (by simp <;> omega) (keepS (by simp <;> omega) h.g0), keepS (by simp <;> omega) (keepS (by simp <;> omega) h.g1), keepS (by simp <;> omega) (keepS (by simp <;> omega) h.g2), (h.rr.setCell (by simp) _).setCell (by simp) _, (World.cell?_setCell_other _ _ _ _ (by simp)).trans h0, World.cell?_setCell_same _ _ _ h1, ?_, ?_⟩
  · rw [World.frozen?_setCell, World.frozen?_setCell]; exact h.f0
  · rw [World.frozen?_setCell, World.frozen?_setCell]; exact h.f1
theorem MW.new (w : World) (p q g : Int) (T C : TypeId) : MW (((w.alloc (.cells #[.int .i64 p, .int .i64 q, .int .i64 g] T)).alloc (.cells #[.int .i64 0, .int .i64 0] C)).alloc (.cells #[.int .i64 1, .int .i64 1] C)) w.heap.size p q g 1 1 := by
  refine ⟨?_, ?_, ?_, ?_, ?_, ?_, ?_, ?_⟩
  · rw [World.cell?_alloc_past _ _ _ (by simp <;> omega), World.cell?_alloc_past _ _ _ (by simp <;> omega), World.cell?_alloc_at _ _ _ _ (by simp)]; rfl
  · rw [World.cell?_alloc_past _ _ _ (by simp <;> omega), World.cell?_alloc_past _ _ _ (by simp <;> omega), World.cell?_alloc_at _ _ _ _ (by simp)]; rfl
  · rw [World.cell?_alloc_past _ _ _ (by simp <;> omega), World.cell?_alloc_past _ _ _ (by simp <;> omega), World.cell?_alloc_at _ _ _ _ (by simp)]; rfl
  · have := Room.new (w.alloc (.cells #[.int .i64 p, .int .i64 q, .int .i64 g] T)) (.int .i64 0) (.int .i64 0) C
    rw [show (w.alloc (.cells #[.int .i64 p, .int .i64 q, .int .i64 g] T)).heap.size = w.heap.size + 1 from by simp] at this
    exact this.alloc _
  · rw [World.cell?_alloc_at _ _ _ _ (by simp)]; rfl
  · rw [World.cell?_alloc_at _ _ _ _ (by simp)]; rfl
  · exact World.frozen?_alloc_at _ _ _ _ (by simp)
  · exact World.frozen?_alloc_at _ _ _ _ (by simp)

set_option maxRecDepth 100000 in
set_option maxHeartbeats 1600000 in
theorem mulCiphers_any (p q g : Int) (A : Option Addr) (n c : Nat) (l : List (Int × Int)) (w : World) (h : Cips w A n l) (p1 : 2 ≤ p) (p2 : p ≤ 3000000000) (hs : SmallC p l) :
    Calls Try.prog 78 #[.agg #[.int .i64 p, .int .i64 q, .int .i64 g], .slice A n c] w fun e w' => e = .returned (.agg #[.int .i64 (mulCK p l n).1, .int .i64 (mulCK p l n).2]) ∧ Below w.heap.size w w' := by
  have hl := h.len
  subst hl
  have HI := Lib.hid h
  have hn := h.le
  have HS := Lib.hid hs
  have HM := Lib.hid (MW.new w p q g 28 30)
  clear h hs
  go_enter Try.func78, Try.ntmps78
  go_wp2
  go_loopw [11] (fun i wr => ∃ k : Nat, k ≤ l.length ∧ i = .int .i64 k ∧ Hid (MW wr w.heap.size p q g (mulCK p l k).1 (mulCK p l k).2) ∧ Hid (Below w.heap.size w wr)) (fun i _ => l.length - (intOf i).toNat)
  case atStart => exact ⟨0, by omega, rfl, HM, Lib.hid (by repeat (first | exact Below.refl _ _ | assumption | refine belA ?_ | refine belD ?_ | refine belN ?_ | refine belS ?_ (by simp) | refine belT ?_ (by assumption)))⟩
  case round =>
    obtain ⟨k, hk, rfl, H1, H2⟩ := hrel
    by_cases hlt : k < l.length
    · obtain ⟨b, off, rfl, hb, hc, hc'⟩ := (HI.out.below H2.out).at_ hlt
      have hsm := HS.out k hlt
      have hbd := mulCK_bd (p := p) l p1 k
      have e1 : mulCK p l (k + 1) = (mulK p [(mulCK p l k).1, (l.getD k (0, 0)).1] 2, mulK p [(mulCK p l k).2, (l.getD k (0, 0)).2] 2) := rfl
      generalize l.getD k (0, 0) = cc at hc hc' hsm e1
      generalize mulCK p l k = st at H1 hbd e1
      obtain ⟨u, v⟩ := cc
      obtain ⟨x, y⟩ := st
      simp only at hc hc'
      obtain ⟨⟨u0, u1⟩, v0, v1⟩ := hsm
      obtain ⟨⟨x0, x1⟩, y0, y1⟩ := hbd
      simp only at u0 u1 v0 v1 x0 x1 y0 y1
      obtain ⟨m1, m2, m3, m4, m5, m6, m7, m8⟩ := H1.out
      have E1 := Lib.hid e1
      have hlt2 := H1.out.lt
      have hlt3 : w.heap.size < wr.heap.size := by omega
      have i1 : (0 : Int) ≤ (k : Int) := by omega
      have i2 : (k : Int) < (l.length : Int) := by omega
      clear e1 m4
      go_wp2_with fail
      refine (mulTwo_any p q g x y u v _ p1 p2 x0 x1 y0 y1 u0 u1 v0 v1).mono ?_
      rintro e w1 ⟨rfl, hb1⟩
      have hX : Below wr.heap.size wr w1 := belT (belA (Below.refl _ _)) hb1
      have HN := Lib.hid (H1.out.below hX)
      have HY := Lib.hid hX
      obtain ⟨m1, m2, m3, m4, m5, m6, m7, m8⟩ := HN.out
      have hsz := HB_size H2.out
      clear m4 hb1 hX
      go_wp2
      go_roundw
      case rel => exact ⟨k + 1, by omega, by go_num, Lib.hid (by rw [E1.out]; exact HN.out.put _ _), Lib.hid (belS (belS (belT H2.out HY.out) (by simp; omega)) (by simp; omega))⟩
      case measure => simp [intOf]; omega
    · have e : k = l.length := by omega
      subst e
      generalize hst : mulCK p l l.length = st at H1
      have HT := Lib.hid hst
      clear hst
      obtain ⟨x, y⟩ := st
      obtain ⟨m1, m2, m3, m4, m5, m6, m7, m8⟩ := H1.out
      simp only at m5 m6
      obtain ⟨rx, ry, rc0, rc1, rf0, rf1⟩ := m4.facts
      go_wp2
      refine bodyPost_ret (v := .agg #[.int .i64 x, .int .i64 y]) (by simp [results, Try.results78, go_sem, rc0, rc1]) rfl ⟨by rw [HT.out], ?_⟩
      exact belS (belS H2.out (by simp)) (by simp)
end Go.Proofs.Ytemhjhaokbgldaa
