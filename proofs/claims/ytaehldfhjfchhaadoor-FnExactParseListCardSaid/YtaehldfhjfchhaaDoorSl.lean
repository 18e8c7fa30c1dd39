/- Slices of integers that are read; predicates handed to the library; the world behind a call. -/
import Derived.Test.YtaehldfhjfchhaaDoorFrame
import Derived.Test.YtaehldfhjfchhaaDoorBase
import Derived.Shelf.Abstract
import Derived.BigQuiet
import Derived.Deep.QuietTactic
namespace Go.Proofs.YtaehldfhjfchhaaDoor
open Go.RowKit
set_option linter.unusedVariables false

/-! ## worlds -/
theorem bcell {W w1 : World} (hb : Below W.heap.size W w1) : (∀ b o, b < W.heap.size → w1.cell? ⟨b, o, none⟩ = W.cell? ⟨b, o, none⟩) ∧ (∀ b o, b < W.heap.size → w1.frozen? ⟨b, o, none⟩ = W.frozen? ⟨b, o, none⟩) :=
  ⟨fun b o h => hb.cell (p := ⟨b, o, none⟩) h, fun b o h => hb.frozen (p := ⟨b, o, none⟩) h⟩
theorem belA {w w' : World} {o : Obj} (h : Below w.heap.size w w') : Below w.heap.size w (w'.alloc o) := h.alloc h.size o
theorem belD {B : Nat} {w w' : World} (h : Below B w w') : Below B w w'.drew := h.drew
theorem belN {B : Nat} {w w' : World} {k : Nat} (h : Below B w w') : Below B w (w'.drewN k) := ⟨h.os, h.tape, h.output, h.size, h.block⟩
theorem belS {w w' : World} {p : Addr} {u : Value} (h : Below w.heap.size w w') (hp : w.heap.size ≤ p.block) : Below w.heap.size w (w'.setCell p u) := h.setCell hp u
theorem belT {w W W' : World} (h : Below w.heap.size w W) (h2 : Below W.heap.size W W') : Below w.heap.size w W' := h.trans (h2.mono h.size)

/-- a cell that was there is there behind the call -/
theorem keepB {W w1 : World} (hb : Below W.heap.size W w1) {a : Addr} {v : Value} (h : W.cell? a = some v) : w1.cell? a = some v := (hb.cell (World.block_lt_of_cell? _ _ h)).trans h

theorem keepS {W : World} {p q : Addr} {u v : Value} (h : q.block ≠ p.block) (hc : W.cell? q = some v) : (W.setCell p u).cell? q = some v :=
  (World.cell?_setCell_other W p q u (fun e => h (by rw [e]))).trans hc

/-- for a call inside a region that draws its order -/
theorem quietL {f : Nat} {args : Array Value} {w : World} {v : Value} (h : Calls Tryd.prog f args w fun e w' => e = .returned v ∧ w = w') : Calls Tryd.prog f args w fun e w' => e = .returned v ∧ w' = w :=
  h.mono fun _ _ h => ⟨h.1, h.2.symm⟩

/-! ## lists by their places -/
theorem getD_mem {α : Type} {d : α} {zs : List α} {k : Nat} (h : k < zs.length) : zs.getD k d ∈ zs := by
  rw [List.getD_eq_getElem?_getD, List.getElem?_eq_getElem h]
  exact List.getElem_mem h
theorem all_no {α : Type} {d : α} {p : α → Bool} {zs : List α} {k n : Nat} (hn : zs.length = n) (hk : k < n) (h : p (zs.getD k d) = false) : zs.all p = false := by
  rw [Bool.eq_false_iff]
  intro ha
  have := List.all_eq_true.1 ha _ (getD_mem (d := d) (show k < zs.length by omega))
  rw [h] at this
  cases this
theorem all_yes {α : Type} {d : α} {p : α → Bool} {zs : List α} {n : Nat} (hn : zs.length = n) (h : ∀ j, j < n → p (zs.getD j d) = true) : zs.all p = true := by
  rw [List.all_eq_true]
  intro x hx
  obtain ⟨j, hj, rfl⟩ := List.getElem_of_mem hx
  have := h j (by omega)
  rw [List.getD_eq_getElem?_getD, List.getElem?_eq_getElem hj] at this
  exact this
theorem any_yes {α : Type} {d : α} {p : α → Bool} {zs : List α} {k n : Nat} (hn : zs.length = n) (hk : k < n) (h : p (zs.getD k d) = true) : zs.any p = true :=
  List.any_eq_true.2 ⟨_, getD_mem (d := d) (show k < zs.length by omega), h⟩
theorem any_no {α : Type} {d : α} {p : α → Bool} {zs : List α} {n : Nat} (hn : zs.length = n) (h : ∀ j, j < n → p (zs.getD j d) = false) : zs.any p = false := by
  rw [Bool.eq_false_iff]
  intro ha
  obtain ⟨x, hx, hp⟩ := List.any_eq_true.1 ha
  obtain ⟨j, hj, rfl⟩ := List.getElem_of_mem hx
  have := h j (by omega)
  rw [List.getD_eq_getElem?_getD, List.getElem?_eq_getElem hj] at this
  rw [show zs[j] = (some zs[j]).getD d from rfl, this] at hp
  cases hp
theorem upto_succ {P : Nat → Prop} {k : Nat} (h : ∀ j, j < k → P j) (hk : P k) : ∀ j, j < k + 1 → P j := by
  intro j hj
  rcases Nat.lt_or_ge j k with h1 | h1
  · exact h j h1
  · rw [show j = k from by omega]; exact hk

/-! ## a slice of integers that can be read -/
def Ints (w : World) (A : Option Addr) (n : Nat) (zs : List Int) : Prop :=
  zs.length = n ∧ n ≤ 9223372036854775807 ∧ (0 < n → ∃ b off, A = some ⟨b, off, none⟩ ∧ b < w.heap.size ∧ ∀ k, k < n → w.cell? ⟨b, off + k, none⟩ = some (.int .i64 (zs.getD k 0)))

section
variable {w w' : World} {A : Option Addr} {n : Nat} {zs : List Int}
theorem Ints.len (h : Ints w A n zs) : zs.length = n := h.1
theorem Ints.le (h : Ints w A n zs) : n ≤ 9223372036854775807 := h.2.1
theorem Ints.at_ {k : Nat} (h : Ints w A n zs) (hk : k < n) : ∃ b off, A = some ⟨b, off, none⟩ ∧ b < w.heap.size ∧ w.cell? ⟨b, off + k, none⟩ = some (.int .i64 (zs.getD k 0)) := by
  obtain ⟨b, off, e, hb, hc⟩ := h.2.2 (by omega)
  exact ⟨b, off, e, hb, hc k hk⟩
theorem Ints.below (h : Ints w A n zs) (hb : Below w.heap.size w w') : Ints w' A n zs := by
  refine ⟨h.1, h.2.1, fun hn => ?_⟩
  obtain ⟨b, off, e, hb', hc⟩ := h.2.2 hn
  exact ⟨b, off, e, Nat.lt_of_lt_of_le hb' hb.size, fun k hk => (hb.cell (p := ⟨b, off + k, none⟩) hb').trans (hc k hk)⟩
theorem Ints.nil (w : World) (A : Option Addr) : Ints w A 0 [] := ⟨rfl, by omega, fun h => absurd h (by omega)⟩
theorem Ints.of_own {base e c : Nat} (h : w.ownsRow base e 1 (.slice A n c) n (zs.map (Value.int .i64))) : Ints w A n zs := by
  have hl : zs.length = n := by have := h.1; simpa using this
  rcases h.2 with ⟨h1, h2⟩ | ⟨g, cap, cur, h1, h2, h3, h4, h5, h6, h7⟩
  · subst h2
    exact ⟨hl, by omega, fun hn => absurd hn (by omega)⟩
  · injection h1 with e1 e2 e3
    subst e1
    refine ⟨hl, by unfold maxLen at h5; omega, fun hn => ⟨g, 0, rfl, (Array.getElem?_eq_some_iff.1 h3).1, fun k hk => ?_⟩⟩
    have := h.cells (g := g) rfl k (.int .i64 (zs.getD k 0)) (by
      rw [List.getElem?_map, List.getElem?_eq_getElem (by omega), List.getD_eq_getElem?_getD, List.getElem?_eq_getElem (by omega)]
      rfl)
    have hadd : (⟨g, 0, none⟩ : Addr).add k = ⟨g, 0 + k, none⟩ := by unfold Addr.add; split <;> simp_all
    rw [hadd] at this
    exact this
theorem Ints.of_row {a : Option Addr} {len cap : Nat} (h : IsRow .i64 w a len cap zs) : Ints w a len (zs.take len) := by
  rcases h with ⟨rfl, rfl, rfl, rfl⟩ | ⟨x, rfl, hl, hm, hz, hc, _⟩
  · exact Ints.nil w none
  · refine ⟨by simp; omega, by unfold maxLen at hm; omega, fun hn => ?_⟩
    obtain ⟨b, off, spot⟩ := x
    have h0 := hc 0 (by omega)
    have hspot : spot = none := by simpa [Addr.add] using World.cell?_spot h0
    subst hspot
    refine ⟨b, off, rfl, ?_, fun k hk => ?_⟩
    · have := World.block_lt_of_cell? _ _ h0
      simpa [Addr.add] using this
    · have := hc k (by omega)
      have hadd : (⟨b, off, none⟩ : Addr).add k = ⟨b, off + k, none⟩ := by unfold Addr.add; split <;> simp_all
      rw [hadd] at this
      rw [this, List.getD_eq_getElem?_getD, List.getD_eq_getElem?_getD, List.getElem?_take_of_lt hk]
theorem Ints.one {b : Nat} {x : Int} (hc : w.cell? ⟨b, 0, none⟩ = some (.int .i64 x)) : Ints w (some ⟨b, 0, none⟩) 1 [x] :=
  ⟨rfl, by omega, fun _ => ⟨b, 0, rfl, World.block_lt_of_cell? _ _ hc, fun k hk => by
    have e : k = 0 := by omega
    subst e
    exact hc⟩⟩
end

/-! ## predicates as function values -/
def Pays (g : Nat) (fi lb : Array Value) (p : Int → Bool) (S : Int → Prop) (w : World) : Prop :=
  ∀ (W : World) (x : Int), Below w.heap.size w W → S x → Calls Tryd.prog g (fi ++ #[.int .i64 x] ++ lb) W fun e W' => e = .returned (.bool (p x)) ∧ Below W.heap.size W W'
def IdxPost (q : Bool) (w : World) (e : Ending) (w' : World) : Prop := ∃ r : Int, e = .returned (.int .i64 r) ∧ decide (0 ≤ r) = q ∧ Below w.heap.size w w'

set_option maxHeartbeats 400000 in
theorem l1All_any (A : Option Addr) (n c : Nat) (zs : List Int) (lo hi : Int) (w : World) (h : Ints w A n zs) :
    Calls Tryd.prog 29 #[.slice A n c, .int .i64 lo, .int .i64 hi] w fun e w' => e = .returned (.bool (zs.all fun z => inB z lo hi)) ∧ w = w' := by
  have hn := h.le
  have HI := Lib.hid h
  clear h
  go_enter Tryd.func29, Tryd.ntmps29
  go_wp2
  go_loop [11] (fun i => ∃ k : Nat, k ≤ n ∧ i = .int .i64 k ∧ Hid (∀ j, j < k → inB (zs.getD j 0) lo hi = true)) (fun i => n - (intOf i).toNat)
  case atStart => exact ⟨0, by omega, rfl, Lib.hid fun j hj => absurd hj (by omega)⟩
  case round =>
    obtain ⟨k, hk, rfl, HK⟩ := hrel
    by_cases hlt : k < n
    · obtain ⟨b, off, rfl, hb, hc⟩ := HI.out.at_ hlt
      generalize hz : zs.getD k 0 = z at hc
      have HZ := Lib.hid hz
      clear hz
      cases hin : inB z lo hi
      · go_wp2_with (first | (go_at_call 36; refine (l1In_any _ _ _ _).mono ?_; rintro e w' ⟨rfl, rfl⟩))
        go_ret
        exact ⟨ret_bool (all_no (p := fun z => inB z lo hi) HI.out.len hlt (by rw [HZ.out]; exact hin)).symm, rfl⟩
      · go_wp2_with (first | (go_at_call 36; refine (l1In_any _ _ _ _).mono ?_; rintro e w' ⟨rfl, rfl⟩))
        go_round
        case rel => exact ⟨k + 1, by omega, by go_num, Lib.hid (upto_succ HK.out (by rw [HZ.out]; exact hin))⟩
        case measure => simp [intOf]; omega
    · have e : k = n := by omega
      subst e
      go_wp2
      go_ret
      exact ⟨ret_bool (all_yes (p := fun z => inB z lo hi) HI.out.len HK.out).symm, rfl⟩

set_option maxHeartbeats 400000 in
theorem IndexFunc_any (g : Nat) (fi lb : Array Value) (eg : ∀ args w, (callFunc g args).run Tryd.prog w = .ok (.enter g args) w) (p : Int → Bool) (S : Int → Prop)
    (A : Option Addr) (n c : Nat) (zs : List Int) (w : World) (h : Ints w A n zs) (hS : ∀ z ∈ zs, S z) (hp : Pays g fi lb p S w) :
    Calls Tryd.prog 62 #[.slice A n c, .func (.func g) fi lb] w (IdxPost (zs.any p) w) := by
  have hn := h.le
  have HI := Lib.hid h
  have HP := Lib.hid hp
  have HS := Lib.hid hS
  clear h hp hS
  go_enter Tryd.func62, Tryd.ntmps62
  go_wp2
  go_loopw [8] (fun i wr => ∃ k : Nat, k ≤ n ∧ i = .int .i64 k ∧ Hid (Below w.heap.size w wr) ∧ Hid (∀ j, j < k → p (zs.getD j 0) = false)) (fun i _ => n - (intOf i).toNat)
  case atStart => exact ⟨0, by omega, rfl, Lib.hid (Below.refl _ _), Lib.hid fun j hj => absurd hj (by omega)⟩
  case round =>
    obtain ⟨k, hk, rfl, HB, HK⟩ := hrel
    by_cases hlt : k < n
    · obtain ⟨b, off, rfl, hb, hc⟩ := (HI.out.below HB.out).at_ hlt
      have hcall := HP.out wr (zs.getD k 0) HB.out (HS.out _ (getD_mem (by rw [HI.out.len]; exact hlt)))
      generalize hz : zs.getD k 0 = z at hc hcall
      have HZ := Lib.hid hz
      clear hz
      have HC := Lib.hid hcall
      clear hcall
      cases hin : p z
      · go_wp2_with (go_at_fn g; refine HC.out.mono ?_; rintro e w' ⟨rfl, hb'⟩)
        go_roundw
        case rel => exact ⟨k + 1, by omega, by go_num, Lib.hid (belT HB.out hb'), Lib.hid (upto_succ HK.out (by rw [HZ.out]; exact hin))⟩
        case measure => simp [intOf]; omega
      · go_wp2_with (go_at_fn g; refine HC.out.mono ?_; rintro e w' ⟨rfl, hb'⟩)
        go_ret
        exact ⟨k, rfl, by rw [any_yes (d := 0) (p := p) HI.out.len hlt (by rw [HZ.out]; exact hin)]; simp, belT HB.out hb'⟩
    · have e : k = n := by omega
      subst e
      go_wp2
      go_ret
      exact ⟨-1, rfl, by rw [any_no (d := 0) (p := p) HI.out.len HK.out]; rfl, HB.out⟩

set_option maxHeartbeats 400000 in
theorem ContainsFunc_any (g : Nat) (fi lb : Array Value) (eg : ∀ args w, (callFunc g args).run Tryd.prog w = .ok (.enter g args) w) (p : Int → Bool) (S : Int → Prop)
    (A : Option Addr) (n c : Nat) (zs : List Int) (w : World) (h : Ints w A n zs) (hS : ∀ z ∈ zs, S z) (hp : Pays g fi lb p S w) :
    Calls Tryd.prog 46 #[.slice A n c, .func (.func g) fi lb] w fun e w' => e = .returned (.bool (zs.any p)) ∧ Below w.heap.size w w' := by
  have H := Lib.hid (IndexFunc_any g fi lb eg p S A n c zs w h hS hp)
  clear h hp hS eg
  go_enter Tryd.func46, Tryd.ntmps46
  go_wp2_with (go_at_call 62; refine H.out.mono ?_; rintro e w' ⟨r, rfl, hr, hb⟩; have HR := Lib.hid hr; clear hr)
  go_ret
  exact ⟨ret_bool HR.out, hb⟩

set_option maxHeartbeats 400000 in
theorem notIs_any (g : Nat) (fi lb : Array Value) (eg : ∀ args w, (callFunc g args).run Tryd.prog w = .ok (.enter g args) w) (q : Bool) (x : Int) (B : Nat) (W : World)
    (hc : W.cell? ⟨B, 0, none⟩ = some (.func (.func g) fi lb))
    (hcall : Calls Tryd.prog g (fi ++ #[.int .i64 x] ++ lb) W fun e W' => e = .returned (.bool q) ∧ Below W.heap.size W W') :
    Calls Tryd.prog 47 #[.int .i64 x, .pointer (some ⟨B, 0, none⟩)] W fun e W' => e = .returned (.bool (!q)) ∧ Below W.heap.size W W' := by
  have H := Lib.hid hcall
  clear hcall
  go_enter Tryd.func47, Tryd.ntmps47
  go_wp2_with (go_at_fn g; refine H.out.mono ?_; rintro e w' ⟨rfl, hb'⟩)
  go_ret
  exact ⟨rfl, hb'⟩

theorem enters_areAll1 : ∀ args w, (callFunc 47 args).run Tryd.prog w = .ok (.enter 47 args) w := enters_of Tryd.func47 (by kernel_rfl) rfl

set_option maxHeartbeats 400000 in
theorem areAll_any (g : Nat) (fi lb : Array Value) (eg : ∀ args w, (callFunc g args).run Tryd.prog w = .ok (.enter g args) w) (p : Int → Bool) (S : Int → Prop)
    (A : Option Addr) (n c : Nat) (zs : List Int) (w : World) (h : Ints w A n zs) (hS : ∀ z ∈ zs, S z) (hp : Pays g fi lb p S w) :
    Calls Tryd.prog 31 #[.slice A n c, .func (.func g) fi lb] w fun e w' => e = .returned (.bool (zs.all p)) ∧ Below w.heap.size w w' := by
  have hmf : ∀ (fn : Fn) (first cap : Array Value) (w : World), (Instr.makeFunc fn first cap).run Tryd.prog w = .ok (.func fn first cap) w := fun _ _ _ _ => rfl
  have hb0 : Below w.heap.size w (w.alloc (.cells #[.func (.func g) fi lb] 48)) := belA (Below.refl _ _)
  have hp2 : Pays 47 #[] #[.pointer (some ⟨w.heap.size, 0, none⟩)] (fun z => !p z) S (w.alloc (.cells #[.func (.func g) fi lb] 48)) := by
    intro W x hb hx
    have hc : W.cell? ⟨w.heap.size, 0, none⟩ = some (.func (.func g) fi lb) := by
      rw [hb.cell (p := ⟨w.heap.size, 0, none⟩) (by simp), World.cell?_alloc_at _ _ _ _ rfl]
      rfl
    exact notIs_any g fi lb eg (p x) x _ W hc (hp W x (belT hb0 hb) hx)
  have H := Lib.hid (ContainsFunc_any 47 #[] _ enters_areAll1 _ S A n c zs _ (h.below hb0) hS hp2)
  clear hp2 hp h hS eg
  go_enter Tryd.func31, Tryd.ntmps31
  go_wp2_with (go_at_call 46; refine H.out.mono ?_; rintro e w' ⟨rfl, hb⟩)
  go_ret
  exact ⟨ret_bool (by rw [← List.not_all_eq_any_not, Bool.not_not]), belT hb0 hb⟩

end Go.Proofs.YtaehldfhjfchhaaDoor
