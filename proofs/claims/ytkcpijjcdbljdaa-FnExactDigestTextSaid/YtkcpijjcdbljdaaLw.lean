/- Contracts of the laws' own helpers: copies, comparisons, marks. -/
import Derived.Test.YtkcpijjcdbljdaaSl
import Derived.BigQuiet
import Derived.Deep.QuietTactic
namespace Go.Proofs.Ytkcpijjcdbljdaa
open Go.RowKit
set_option linter.unusedVariables false

theorem int_info : (Try.prog.info? 3).map (fun i => (i.zero, i.size, i.bytes)) = some (some (.int .i64 0), 1, 8) := by kernel_rfl

/-- a slice of integers of the call's own, in a block from lo on and below hi -/
structure Own (w : World) (lo hi : Nat) (A : Option Addr) (n c : Nat) (zs : List Int) : Prop where
  own : w.ownsRow lo 3 1 (.slice A n c) n (zs.map (Value.int .i64))
  lt : ∀ k, (Value.slice A n c).ownBlock = some k → k < hi
theorem Own.mk' {w : World} {lo : Nat} {A : Option Addr} {n c : Nat} {zs : List Int} (h : w.ownsRow lo 3 1 (.slice A n c) n (zs.map (Value.int .i64))) : Own w lo w.heap.size A n c zs :=
  ⟨h, fun k hk => (h.lt k hk).2⟩
theorem grown_of_below {w w' : World} (h : Below w.heap.size w w') : w.grownBy w' none := ⟨h.os, h.tape, h.output, h.size, fun k hk _ => h.block k hk⟩
theorem Own.below {w w' : World} {lo hi : Nat} {A : Option Addr} {n c : Nat} {zs : List Int} (h : Own w lo hi A n c zs) (hb : Below w.heap.size w w') : Own w' lo hi A n c zs :=
  ⟨h.own.kept (grown_of_below hb) (by cases hv : (Value.slice A n c).ownBlock <;> simp), h.lt⟩
theorem Own.cap {w : World} {lo hi : Nat} {A : Option Addr} {n c : Nat} {zs : List Int} (h : Own w lo hi A n c zs) : n ≤ c := by
  rcases h.own.2 with ⟨h1, h2⟩ | ⟨g, cap, cur, h1, h2, h3, h4, h5⟩
  · omega
  · injection h1 with e1 e2 e3
    omega
theorem Own.ints {w : World} {lo hi : Nat} {A : Option Addr} {n c : Nat} {zs : List Int} (h : Own w lo hi A n c zs) : Ints w A n zs := Ints.of_own h.own

theorem copy_step {zs : List Int} {n k : Nat} (hl : zs.length = n) (hk : k < n) :
    ((zs.take k ++ List.replicate (n - k) 0).map (Value.int .i64)).set k (.int .i64 (zs.getD k 0)) = (zs.take (k + 1) ++ List.replicate (n - (k + 1)) 0).map (Value.int .i64) := by
  rw [← List.map_set]
  congr 1
  rw [List.take_succ_eq_append_getElem (by omega), List.getD_eq_getElem?_getD, List.getElem?_eq_getElem (by omega), show n - k = (n - (k + 1)) + 1 from by omega, List.replicate_succ,
    List.set_append_right _ _ (by simp; omega)]
  simp only [List.length_take, show k - min k zs.length = 0 from by omega, List.set_cons_zero, List.append_assoc, List.singleton_append]
  rfl

set_option maxHeartbeats 800000 in
theorem toIntS_any (A : Option Addr) (n c : Nat) (zs : List Int) (w : World) (h : Ints w A n zs) (hn : n ≤ 1048576) :
    Calls Try.prog 33 #[.slice A n c] w fun e w' => ∃ A' c', e = .returned (.slice A' n c') ∧ w'.ownsRow w.heap.size 3 1 (.slice A' n c') n (zs.map (Value.int .i64)) ∧ Below w.heap.size w w' := by
  obtain ⟨i0, hi, hz0, hz1, hz2⟩ := info_parts int_info
  have HI := Lib.hid h
  clear h
  go_enter Try.func33, Try.ntmps33
  go_wp2_with (at_make; refine wpList_make_full _ rfl _ _ 43 rfl w.heap.size 3 i0 (.int .i64 0) 1 Try.underlying43 hi hz0 hz1 .i64 .i64 _ _ n rfl rfl rfl rfl (by rw [hz2]; omega) (by simp only [maxLen]; omega) (Nat.le_refl _) ?_; intro w1 hown hg)
  have hw0 : Below w.heap.size w w1 := (Below.refl _ _).grown hg (Nat.le_refl _) (by intro k hk; cases hk)
  have H0 := Lib.hid hown
  clear hown hg
  go_loopw [4] (fun i wr => ∃ k : Nat, k ≤ n ∧ i = .int .i64 k ∧ Hid (wr.ownsRow w.heap.size 3 1 (.slice (some ⟨w.heap.size, 0, none⟩) n n) n ((zs.take k ++ List.replicate (n - k) 0).map (Value.int .i64))) ∧ Hid (Below w.heap.size w wr)) (fun i _ => n - (intOf i).toNat)
  case atStart => exact ⟨0, by omega, rfl, Lib.hid (by have := H0.out; rw [Nat.mul_one, show (Value.int .i64 0).cells = #[.int .i64 0] from rfl, toList_madeCells_one] at this; simpa using this), Lib.hid hw0⟩
  case round =>
    obtain ⟨k, hk, rfl, HO, HB⟩ := hrel
    by_cases hlt : k < n
    · obtain ⟨b, off, rfl, hb, hc⟩ := (HI.out.below HB.out).at_ hlt
      have hd := HO.out.cellAt k (by omega)
      have hlen := HI.out.len
      rw [List.getElem?_eq_getElem (by simp; omega)] at hd
      have hf := HO.out.frozenAt k
      have hst := HO.out.stored k (.int .i64 (zs.getD k 0))
      rw [copy_step hlen hlt] at hst
      have HS := Lib.hid hst.1
      clear hst
      generalize zs.getD k 0 = z at hc HS
      generalize ((List.take k zs ++ List.replicate (n - k) 0).map (Value.int .i64))[k]'_ = y at hd
      clear hlen
      go_wp2
      go_roundw
      case rel => exact ⟨k + 1, by omega, by go_num, HS, Lib.hid (HB.out.setCell (Nat.le_refl _) _)⟩
      case measure => simp [intOf]; omega
    · have e : k = n := by omega
      subst e
      go_wp2
      go_ret
      refine ⟨_, _, rfl, ?_, HB.out⟩
      have := HO.out
      rwa [Nat.sub_self, List.replicate_zero, List.append_nil, List.take_of_length_le (by rw [HI.out.len]; exact Nat.le_refl _)] at this

theorem eq_lists {zs ys : List Int} {n : Nat} (h1 : zs.length = n) (h2 : ys.length = n) (h : ∀ j, j < n → zs.getD j 0 = ys.getD j 0) : zs = ys := by
  apply List.ext_getElem (by omega)
  intro j hj hj'
  have := h j (by omega)
  simpa [List.getD_eq_getElem?_getD, List.getElem?_eq_getElem hj, List.getElem?_eq_getElem hj'] using this

set_option maxHeartbeats 800000 in
theorem eqIntS_any (A A' : Option Addr) (n n' c c' : Nat) (zs ys : List Int) (w : World) (h : Ints w A n zs) (h' : Ints w A' n' ys) :
    Calls Try.prog 35 #[.slice A n c, .slice A' n' c'] w fun e w' => e = .returned (.bool (decide (zs = ys))) ∧ Below w.heap.size w w' := by
  have hn := h.le
  have hn' := h'.le
  have HI := Lib.hid h
  have HI' := Lib.hid h'
  clear h h'
  by_cases e : n = n'
  · subst e
    go_enter Try.func35, Try.ntmps35
    go_wp2
    go_loopw [5] (fun i wr => ∃ k : Nat, k ≤ n ∧ i = .int .i64 k ∧ Hid (Below w.heap.size w wr) ∧ Hid (∀ j, j < k → zs.getD j 0 = ys.getD j 0)) (fun i _ => n - (intOf i).toNat)
    case atStart => exact ⟨0, by omega, rfl, Lib.hid (Below.refl _ _), Lib.hid fun j hj => absurd hj (by omega)⟩
    case round =>
      obtain ⟨k, hk, rfl, HB, HK⟩ := hrel
      by_cases hlt : k < n
      · obtain ⟨b, off, rfl, hb, hc⟩ := (HI.out.below HB.out).at_ hlt
        obtain ⟨b', off', rfl, hb', hc'⟩ := (HI'.out.below HB.out).at_ hlt
        generalize hz : zs.getD k 0 = z at hc
        generalize hy : ys.getD k 0 = y at hc'
        have HZ := Lib.hid hz
        have HY := Lib.hid hy
        clear hz hy
        have k1 : (0 : Int) ≤ (k : Int) := by omega
        have k2 : (k : Int) < (n : Int) := by omega
        by_cases hzy : z = y
        · have hne : (z != y) = false := by simp [hzy]
          have HE := Lib.hid hzy
          clear hzy
          go_wp2
          go_quiet (fail)
          go_wp2
          go_roundw
          case rel => exact ⟨k + 1, by omega, by go_num, Lib.hid (belN HB.out), Lib.hid (upto_succ HK.out (by rw [HZ.out, HY.out]; exact HE.out))⟩
          case measure => simp [intOf]; omega
        · have hne : (z != y) = true := by simp [hzy]
          have HE := Lib.hid hzy
          clear hzy
          go_wp2
          go_quiet (fail)
          go_wp2
          go_ret
          exact ⟨ret_bool (by
            rw [eq_comm, decide_eq_false_iff_not]
            rintro rfl
            exact HE.out (HZ.out.symm.trans HY.out)), belN HB.out⟩
      · have e : k = n := by omega
        subst e
        go_wp2
        go_ret
        exact ⟨ret_bool (by rw [decide_eq_true (eq_lists HI.out.len HI'.out.len HK.out)]), HB.out⟩
  · have e' : ((n : Int) != (n' : Int)) = true := by simp; omega
    have HE := Lib.hid e
    clear e
    go_enter Try.func35, Try.ntmps35
    go_wp2
    go_ret
    exact ⟨ret_bool (by
      rw [eq_comm, decide_eq_false_iff_not]
      rintro rfl
      exact HE.out (HI.out.len.symm.trans HI'.out.len)), Below.refl _ _⟩
end Go.Proofs.Ytkcpijjcdbljdaa
