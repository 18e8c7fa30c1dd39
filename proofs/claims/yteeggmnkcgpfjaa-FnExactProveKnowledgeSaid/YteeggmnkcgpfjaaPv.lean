/- Contracts: what the proof of a linear statement is kept in; what is spared beside a box; the exponent of a group. -/
import Derived.Test.YteeggmnkcgpfjaaSgN
import Derived.Test.YteeggmnkcgpfjaaPf
import Derived.Test.YteeggmnkcgpfjaaTe
import Derived.Deep.RegionHeld3
import Derived.Deep.DrawnRows
namespace Go.Proofs.Yteeggmnkcgpfjaa
open Go.RowKit
set_option linter.unusedVariables false
attribute [local go_sem ↓] Go.wp_at_zero Go.wp_at_succ
set_option linter.unusedSimpArgs false

theorem Own.low {w : World} {lo lo' hi : Nat} {A : Option Addr} {n c : Nat} {zs : List Int} (h : Own w lo hi A n c zs) (hl : lo' ≤ lo) : Own w lo' hi A n c zs := ⟨ownDown h.own hl, h.lt⟩
theorem Own.top {w : World} {lo hi hi' : Nat} {A : Option Addr} {n c : Nat} {zs : List Int} (h : Own w lo hi A n c zs) (hh : hi ≤ hi') : Own w lo hi' A n c zs := ⟨h.own, fun k hk => Nat.lt_of_lt_of_le (h.lt k hk) hh⟩
/-- nothing below B has turned but block P -/
structure Save (B P : Nat) (a w : World) : Prop where
  os : w.os = a.os
  tape : w.tape = a.tape
  output : w.output = a.output
  size : a.heap.size ≤ w.heap.size
  block : ∀ k, k < B → k ≠ P → w.heap[k]? = a.heap[k]?
theorem Save.refl (B P : Nat) (w : World) : Save B P w w := ⟨rfl, rfl, rfl, Nat.le_refl _, fun _ _ _ => rfl⟩
theorem Save.below {B P : Nat} {a w w' : World} (h : Save B P a w) (hb : Below B w w') : Save B P a w' :=
  ⟨hb.os.trans h.os, hb.tape.trans h.tape, hb.output.trans h.output, Nat.le_trans h.size hb.size, fun k hk hne => (hb.block k hk).trans (h.block k hk hne)⟩
theorem Save.of_below {B P : Nat} {a w : World} (hb : Below B a w) : Save B P a w := (Save.refl B P a).below hb
theorem Save.put {B P i : Nat} {v : Value} {a w : World} (h : Save B P a w) : Save B P a (w.setCell ⟨P, i, none⟩ v) :=
  ⟨h.os, h.tape, h.output, by simpa using h.size, fun k hk hne => (heap_setCell_other w _ k v (by intro e; subst e; exact hne rfl)).trans (h.block k hk hne)⟩
theorem Save.trans {B P : Nat} {a w w' : World} (h : Save B P a w) (k : Save B P w w') : Save B P a w' :=
  ⟨k.os.trans h.os, k.tape.trans h.tape, k.output.trans h.output, Nat.le_trans h.size k.size, fun i hi hne => (k.block i hi hne).trans (h.block i hi hne)⟩
theorem Save.less {B B' P : Nat} {a w : World} (h : Save B P a w) (hB : B' ≤ B) : Save B' P a w := ⟨h.os, h.tape, h.output, h.size, fun k hk hne => h.block k (by omega) hne⟩
theorem Save.cell {B P b o : Nat} {v : Value} {a w : World} (h : Save B P a w) (hc : a.cell? ⟨b, o, none⟩ = some v) (hb : b < B) (hne : b ≠ P) : w.cell? ⟨b, o, none⟩ = some v :=
  (World.cell?_of_block (a := ⟨b, o, none⟩) (h.block b hb hne)).trans hc
theorem Save.ints {B P C : Nat} {a w : World} {A : Option Addr} {n : Nat} {zs : List Int} (h : Save B P a w) (hI : Ints a A n zs) (hA : ∀ b off, A = some ⟨b, off, none⟩ → 0 < n → b < C) (hC : C ≤ B) (hP : C ≤ P) : Ints w A n zs := by
  refine ⟨hI.1, hI.2.1, fun hn => ?_⟩
  obtain ⟨b, off, e, hb, hc⟩ := hI.2.2 hn
  have hlt := hA b off e hn
  exact ⟨b, off, e, Nat.lt_of_lt_of_le hb h.size, fun k hk => h.cell (hc k hk) (by omega) (by omega)⟩
theorem Save.own {B P lo hi : Nat} {a w : World} {A : Option Addr} {n c : Nat} {zs : List Int} (h : Save B P a w) (ho : Own a lo hi A n c zs) (hB : hi ≤ B) (hP : hi ≤ P ∨ P < lo) : Own w lo hi A n c zs := by
  refine ⟨⟨ho.own.1, ?_⟩, ho.lt⟩
  rcases ho.own.2 with h2 | ⟨g, cap, cur, e, h4, h5, rest⟩
  · exact .inl h2
  · refine .inr ⟨g, cap, cur, e, h4, ?_, rest⟩
    have hg := ho.lt g (by rw [e]; rfl)
    rw [h.block g (by omega) (by omega)]
    exact h5
theorem below_of_save {B B' P : Nat} {a w w' : World} (h : Below B' a w) (hs : Save B P w w') (h1 : B' ≤ B) (h2 : B' ≤ P) : Below B' a w' :=
  ⟨hs.os.trans h.os, hs.tape.trans h.tape, hs.output.trans h.output, Nat.le_trans h.size hs.size, fun k hk => (hs.block k (by omega) (by omega)).trans (h.block k hk)⟩
/-- a box of three cells that may be written -/
structure PB (W : World) (b : Nat) (v0 v1 v2 : Value) : Prop where
  c0 : W.cell? ⟨b, 0, none⟩ = some v0
  c1 : W.cell? ⟨b, 1, none⟩ = some v1
  c2 : W.cell? ⟨b, 2, none⟩ = some v2
  f0 : W.frozen? ⟨b, 0, none⟩ = false
  f1 : W.frozen? ⟨b, 1, none⟩ = false
  f2 : W.frozen? ⟨b, 2, none⟩ = false
section
variable {W W' : World} {b : Nat} {v0 v1 v2 : Value}
theorem PB.lt (h : PB W b v0 v1 v2) : b < W.heap.size := World.block_lt_of_cell? _ _ h.c0
theorem PB.keep {B : Nat} (h : PB W b v0 v1 v2) (hb : Below B W W') (hB : b < B) : PB W' b v0 v1 v2 :=
  ⟨(hb.cell (p := ⟨b, 0, none⟩) hB).trans h.c0, (hb.cell (p := ⟨b, 1, none⟩) hB).trans h.c1, (hb.cell (p := ⟨b, 2, none⟩) hB).trans h.c2,
   (hb.frozen (p := ⟨b, 0, none⟩) hB).trans h.f0, (hb.frozen (p := ⟨b, 1, none⟩) hB).trans h.f1, (hb.frozen (p := ⟨b, 2, none⟩) hB).trans h.f2⟩
theorem PB.below (h : PB W b v0 v1 v2) (hb : Below W.heap.size W W') : PB W' b v0 v1 v2 := h.keep hb h.lt
theorem PB.put1 (h : PB W b v0 v1 v2) (v : Value) : PB (W.setCell ⟨b, 1, none⟩ v) b v0 v v2 :=
  ⟨(World.cell?_setCell_other _ _ _ _ (by simp)).trans h.c0, World.cell?_setCell_same _ _ _ h.c1, (World.cell?_setCell_other _ _ _ _ (by simp)).trans h.c2,
   by rw [World.frozen?_setCell]; exact h.f0, by rw [World.frozen?_setCell]; exact h.f1, by rw [World.frozen?_setCell]; exact h.f2⟩
theorem PB.put2 (h : PB W b v0 v1 v2) (v : Value) : PB (W.setCell ⟨b, 2, none⟩ v) b v0 v1 v :=
  ⟨(World.cell?_setCell_other _ _ _ _ (by simp)).trans h.c0, (World.cell?_setCell_other _ _ _ _ (by simp)).trans h.c1, World.cell?_setCell_same _ _ _ h.c2,
   by rw [World.frozen?_setCell]; exact h.f0, by rw [World.frozen?_setCell]; exact h.f1, by rw [World.frozen?_setCell]; exact h.f2⟩
theorem PB.new (w : World) (t : TypeId) (v0 v1 v2 : Value) : PB (w.alloc (.cells #[v0, v1, v2] t)) w.heap.size v0 v1 v2 :=
  ⟨(by rw [World.cell?_alloc_at _ _ _ _ (by simp)]; rfl), (by rw [World.cell?_alloc_at _ _ _ _ (by simp)]; rfl), (by rw [World.cell?_alloc_at _ _ _ _ (by simp)]; rfl), by rw [World.frozen?_alloc_at _ _ _ _ (by simp)], by rw [World.frozen?_alloc_at _ _ _ _ (by simp)], by rw [World.frozen?_alloc_at _ _ _ _ (by simp)]⟩
theorem PB.other {a : Nat} {i : Nat} {v : Value} (h : PB W b v0 v1 v2) (hne : b ≠ a) : PB (W.setCell ⟨a, i, none⟩ v) b v0 v1 v2 :=
  ⟨keepS hne h.c0, keepS hne h.c1, keepS hne h.c2, by rw [World.frozen?_setCell]; exact h.f0, by rw [World.frozen?_setCell]; exact h.f1, by rw [World.frozen?_setCell]; exact h.f2⟩
end
set_option maxHeartbeats 400000 in
theorem exp_any (p q g e : Int) (w : World) (q1 : 1 ≤ q) (q2 : q ≤ 3000000000) :
    Calls Try.prog 180 #[.agg #[.int .i64 p, .int .i64 q, .int .i64 g], .int .i64 e] w fun e' w' => e' = .returned (.int .i64 (e % q)) ∧ Below w.heap.size w w' := by
  go_enter Try.func180, Try.ntmps180
  go_wp2_with (first | (go_at_call 175; refine (mod_any _ _ _ (by omega) (by omega)).mono ?_; rintro e w' ⟨rfl, rfl⟩))
  go_ret
  exact ⟨rfl, (by repeat (first | exact Below.refl _ _ | assumption | refine belA ?_ | refine belD ?_ | refine belN ?_ | refine belS ?_ (by simp) | refine belT ?_ (by assumption)))⟩
/-- the answer's size -/
theorem ans_bd {q c e x : Int} (hq : 2 ≤ q) (hq2 : q ≤ 2000000000) (hc : 0 ≤ c ∧ c < q) (he : 0 ≤ e ∧ e < q) (hx : 0 ≤ x ∧ x < q) : 0 ≤ e * x ∧ e * x ≤ 4000000000000000000 ∧ 0 ≤ c + e * x ∧ c + e * x ≤ 4000000002000000000 := by
  have h1 : 0 ≤ e * x := Int.mul_nonneg he.1 hx.1
  have h2 : e * x ≤ 2000000000 * 2000000000 := Int.mul_le_mul (by omega) (by omega) hx.1 (by omega)
  omega
theorem exps_bd {q : Int} {l : List Int} (h : (l.all fun e => inB e 0 (q - 1)) = true) {k : Nat} (hk : k < l.length) : 0 ≤ l.getD k 0 ∧ l.getD k 0 < q := by
  have := inB_true (List.all_eq_true.1 h _ (getD_mem (d := 0) hk))
  omega
theorem own_alloc_of {B B' : Nat} {a W : World} {o : Obj} {e s n : Nat} {v : Value} {xs : List Value} (h : Below B a (W.alloc o)) (ho : W.ownsRow B' e s v n xs) : (W.alloc o).ownsRow B' e s v n xs := ho.alloc _
theorem lit1_of {B : Nat} {a W : World} {x : Int} {t : TypeId} (h : Below B a (W.alloc (.cells #[.int .i64 x] t))) : Ints (W.alloc (.cells #[.int .i64 x] t)) (some ⟨W.heap.size, 0, none⟩) 1 [x] := Ints.one (by rw [World.cell?_alloc_at _ _ _ _ (by simp)]; rfl)
theorem own_alloc_ofD {B B' : Nat} {a W : World} {o : Obj} {e s n : Nat} {v : Value} {xs : List Value} (h : Below B a (W.alloc o).drew) (ho : W.drew.ownsRow B' e s v n xs) : (W.alloc o).drew.ownsRow B' e s v n xs := own_drew (World.ownsRow.alloc (w := W) ho _)
theorem lit1_ofD {B : Nat} {a W : World} {x : Int} {t : TypeId} (h : Below B a (W.alloc (.cells #[.int .i64 x] t)).drew) : Ints (W.alloc (.cells #[.int .i64 x] t)).drew (some ⟨W.heap.size, 0, none⟩) 1 [x] := Ints.drew (Ints.one (by rw [World.cell?_alloc_at _ _ _ _ (by simp)]; rfl))
/-- a result: a proof -/
def PRp (w : World) (r : List Int × List Int × List Int) (e : Ending) (w' : World) : Prop :=
  ∃ A1 c1 A2 c2 A3 c3, e = .returned (.agg #[.slice A1 r.1.length c1, .slice A2 r.2.1.length c2, .slice A3 r.2.2.length c3]) ∧ PV w' w.heap.size w'.heap.size A1 c1 A2 c2 A3 c3 r ∧ Below w.heap.size w w'
theorem spared_put' {W : World} {g k : Nat} {v : Value} : Spared g (g + 1) W (W.setCell ⟨g, k, none⟩ v) :=
  ⟨rfl, rfl, rfl, by simp, fun j hj hd => heap_setCell_other W _ j v (by intro e; subst e; omega)⟩
theorem prEndP {w wr wf : World} {V0 PA P1 r m k1 oc : Nat} {B1 Cv : Option Addr} {C0 z : List Int} {ev : Int} (hC : C0.length = r) (hz : z.length = m) (o1 : Own wr V0 PA B1 r k1 C0) (o2 : Own wr P1 (P1 + 1) (some ⟨P1, 0, none⟩) 1 1 [ev]) (o3 : Own wr (P1 + 1) wr.heap.size Cv m oc z)
    (hs : Spared (w.heap.size + 1) (w.heap.size + 1 + 1) wr wf) (h1 : w.heap.size + 2 = V0) (h2 : V0 ≤ PA) (h3 : PA < P1) (h4 : P1 + 1 ≤ wr.heap.size) (hb : Below w.heap.size w wr) (hsz : wr.heap.size = wf.heap.size) :
    PRp w (C0, [ev], z) (.returned (.agg #[.slice B1 r k1, .slice (some ⟨P1, 0, none⟩) 1 1, .slice Cv m oc])) wf := by
  subst hC hz
  refine ⟨B1, k1, some ⟨P1, 0, none⟩, 1, Cv, oc, rfl, ⟨P1, P1 + 1, by omega, by omega, by omega, ?_, o2.spared hs (by omega), ?_⟩, hs.below hb (by omega) hb.size⟩
  · exact ((o1.spared hs (by omega)).low (by omega)).top (by omega)
  · have := o3.spared hs (by omega)
    rwa [hsz] at this
theorem prEnd {w wr wf : World} {V0 PA P1 r m k1 oc : Nat} {B1 Cv : Option Addr} {C0 z : List Int} {ev : Int} (hC : C0.length = r) (hz : z.length = m) (o1 : Own wr V0 PA B1 r k1 C0) (o2 : Own wr P1 (P1 + 1) (some ⟨P1, 0, none⟩) 1 1 [ev]) (o3 : Own wr (P1 + 1) wr.heap.size Cv m oc z)
    (hs : Spared (w.heap.size + 1) (w.heap.size + 1 + 1) wr wf) (h1 : w.heap.size + 2 = V0) (h2 : V0 ≤ PA) (h3 : PA < P1) (h4 : P1 + 1 ≤ wr.heap.size) (hb : Below w.heap.size w wr) (hsz : wr.heap.size = wf.heap.size) :
    PR w ((C0, [ev], z), true) (.returned (.tuple #[.agg #[.slice B1 r k1, .slice (some ⟨P1, 0, none⟩) 1 1, .slice Cv m oc], .bool true])) wf := by
  obtain ⟨A1, c1, A2, c2, A3, c3, e, hp, hbb⟩ := prEndP hC hz o1 o2 o3 hs h1 h2 h3 h4 hb hsz
  injection e with e
  exact ⟨A1, c1, A2, c2, A3, c3, congrArg (fun v => Ending.returned (.tuple #[v, .bool true])) e, hp, hbb⟩
end Go.Proofs.Yteeggmnkcgpfjaa
