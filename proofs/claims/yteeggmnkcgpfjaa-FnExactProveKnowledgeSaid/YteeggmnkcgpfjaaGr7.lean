/- Contracts: slices put one behind the other by the library. -/
import Derived.Test.YteeggmnkcgpfjaaGr6
import Derived.Lib.AppendZerosOnto
import Derived.Lib.SliceRun
namespace Go.Proofs.Yteeggmnkcgpfjaa
open Go.RowKit
set_option linter.unusedVariables false
set_option linter.unusedSimpArgs false

/-- a row of the call's own with no element yet -/
theorem own_room {w : World} {B cap : Nat} {cur : Array Value} (hB : B ≤ w.heap.size) (h1 : cap ≤ maxLen) (h2 : cur.size = cap) :
    (w.alloc (.cells cur 3)).ownsRow B 3 1 (.slice (some ⟨w.heap.size, 0, none⟩) 0 cap) 0 (([] : List Int).map (Value.int .i64)) :=
  ⟨rfl, .inr ⟨w.heap.size, cap, cur, rfl, hB, heap_alloc_new w _, Nat.zero_le _, h1, by rw [h2, Nat.mul_one], by simp⟩⟩

set_option maxRecDepth 100000 in
set_option maxHeartbeats 400000 in
theorem growNil_any (n : Nat) (w : World) (hn : n ≤ 1000000) :
    Calls Try.prog 193 #[.slice none 0 0, .int .i64 (n : Int)] w fun e w' => ∃ B cc, e = .returned (.slice B 0 cc) ∧ w'.ownsRow w.heap.size 3 1 (.slice B 0 cc) 0 (([] : List Int).map (Value.int .i64)) ∧ Below w.heap.size w w' := by
  by_cases h0 : n = 0
  · subst h0
    go_enter Try.func193, Try.ntmps193
    go_wp2
    go_ret
    exact ⟨none, 0, rfl, own_nil _ _, Below.refl _ _⟩
  · obtain ⟨i0, hi, hz0, hz1, hz2⟩ := info_parts int_info
    have hold : (Builtin.firstCells i0.size 0 (.slice none 0 0)).run Try.prog w.drew = .ok ([] : List Value).toArray w.drew := run_firstCells_none w.drew i0.size 0 0 0
    have hrz : ∀ ty, (Builtin.append_ #[24, 3] ty #[.slice none 0 0, .int .i64 (n : Int)]).run Try.prog w = .ok (.slice (some ⟨w.heap.size, 0, none⟩) n (grownCap w n 0 3)) (w.drew.alloc (.cells (([] : List Value).toArray ++ Builtin.zeroCells (Value.int .i64 0).cells n ++ Builtin.zeroCells (Value.int .i64 0).cells (grownCap w n 0 3 - n)) 3)) := fun ty => by
      have h := Go.Lib.run_append_grow_zeros w 24 3 ty 3 i0 (.int .i64 0) .i64 .i64 Try.underlying24 Try.underlying3 hi hz0 none 0 0 [] hold n (by omega) (by rw [hz1]; decide) (by omega) (by omega) (by rw [hz2]; omega) (by rw [Nat.zero_add]; exact growslice_fits (by omega) (by rw [hz2]; omega))
      rw [Nat.zero_add] at h
      exact h
    have hge := grownCap_ge w n 0 3
    have hle := grownCap_le_maxLen w n 0 3 (by simp only [maxLen]; omega)
    generalize grownCap w n 0 3 = G at hrz hge hle
    have hl2 : G ≤ 9223372036854775807 := by unfold maxLen at hle; omega
    have HG := Lib.hid hle
    have hn0 : ¬ (n : Int) < 0 := by omega
    have hn1 : (0 : Int) < (n : Int) := by omega
    clear hold hle
    go_enter Try.func193, Try.ntmps193
    go_wp2_with (at_builtin; refine Go.Lib.wpList_append_run _ rfl _ _ _ _ rfl _ _ rfl rfl _ _ (hrz _) ?_)
    go_wp2
    go_ret
    refine ⟨_, _, rfl, own_room (w := w.drew) (Nat.le_refl _) HG.out ?_, (belD (Below.refl w.heap.size w)).alloc (Nat.le_refl _) _⟩
    simp [Builtin.zeroCells]
    omega
set_option maxHeartbeats 1600000 in
theorem Concat_any (R : Option Addr) (r rc : Nat) (bs : List (Option Addr × Nat × List Int)) (w : World) (h : Grid w R r bs) (hf : (flatG bs).length ≤ 100000) :
    Calls Try.prog 179 #[.slice R r rc] w fun e w' => ∃ B cc, e = .returned (.slice B (flatG bs).length cc) ∧ w'.ownsRow w.heap.size 3 1 (.slice B (flatG bs).length cc) (flatG bs).length ((flatG bs).map (Value.int .i64)) ∧ Below w.heap.size w w' := by
  have hl := h.len
  subst hl
  have HI := Lib.hid h
  have hle := h.le
  clear h
  go_enter Try.func179, Try.ntmps179
  go_wp2
  go_loop [3, 11] (fun v i => ∃ k : Nat, k ≤ bs.length ∧ i = .int .i64 k ∧ v = .int .i64 ((flatK bs k).length : Int)) (fun _ i => bs.length - (intOf i).toNat)
  case atStart => exact ⟨0, by omega, rfl, rfl⟩
  case round =>
    obtain ⟨k, hk, rfl, rfl⟩ := hrel
    by_cases hlt : k < bs.length
    · obtain ⟨b, off, eR, hb, hc, hrow⟩ := HI.out.at_ hlt
      subst eR
      have hs : flatK bs (k + 1) = flatK bs k ++ (bs.getD k dRow).2.2 := flatK_succ hlt
      have hb1 := flatK_le bs (k + 1)
      rw [hs, List.length_append] at hb1
      have HL := Lib.hid (show (flatK bs (k + 1)).length = (flatK bs k).length + (bs.getD k dRow).2.2.length by rw [hs, List.length_append])
      generalize bs.getD k dRow = row at hc hb1 HL
      obtain ⟨rA, rC, rz⟩ := row
      simp only at hc hb1 HL
      clear hrow hs
      generalize (flatK bs k).length = fk at hb1 HL
      have hw : wrap64 ((fk : Int) + (rz.length : Int)) = (fk : Int) + (rz.length : Int) := by unfold wrap64; omega
      go_wp2
      go_round
      case rel => exact ⟨k + 1, by omega, by go_num, by rw [HL.out]; go_num⟩
      case measure => simp [intOf]; omega
    · have e : k = bs.length := by omega
      subst e
      have hfl := flatK_le bs bs.length
      have HFA := Lib.hid (flatK_all bs)
      generalize hm : (flatK bs bs.length).length = m at hfl
      clear hm
      go_wp2_with fail
      refine (growNil_any m _ (by omega)).mono ?_
      rintro e w1 ⟨B1, c1, rfl, ho1, hb1⟩
      have HO1 := Lib.hid ho1
      have HB1 := Lib.hid hb1
      clear ho1 hb1
      go_wp2
      go_loopw [6, 27] (fun v i wr => ∃ k : Nat, k ≤ bs.length ∧ i = .int .i64 k ∧ Hid (wr.ownsRow w.heap.size 3 1 v (flatK bs k).length ((flatK bs k).map (Value.int .i64))) ∧ Hid (Below w.heap.size w wr)) (fun _ i _ => bs.length - (intOf i).toNat)
      case atStart => exact ⟨0, by omega, rfl, HO1, HB1⟩
      case round =>
        clear HO1 HB1
        obtain ⟨k, hk, rfl, HO, HB⟩ := hrel
        obtain ⟨C, oc, rfl⟩ := own_shape HO.out
        by_cases hlt : k < bs.length
        · obtain ⟨b, off, eR, hb, hc, hrow⟩ := (HI.out.below HB.out).at_ hlt
          subst eR
          have HR := Lib.hid hrow
          have hs : flatK bs (k + 1) = flatK bs k ++ (bs.getD k dRow).2.2 := flatK_succ hlt
          have hb1 := flatK_le bs (k + 1)
          rw [hs, List.length_append] at hb1
          have HS := Lib.hid hs
          have HL := Lib.hid (show (flatK bs (k + 1)).length = (flatK bs k).length + (bs.getD k dRow).2.2.length by rw [hs, List.length_append])
          generalize bs.getD k dRow = row at hc HR hb1 HS HL
          obtain ⟨rA, rC, rz⟩ := row
          simp only at hc HR hb1 HS HL
          clear hrow hs
          generalize flatK bs k = fk at HO hb1 HS HL
          go_wp2_with (at_builtin; refine appI rfl _ _ rfl rfl rfl HR.out HO.out (by omega) HB.out.size ?_; intro A3 c3 w3 hown3 hg3; have HB3 := Lib.hid (own_below HB.out HB.out.size HO.out hg3))
          go_roundw
          case rel => exact ⟨k + 1, by omega, by go_num, Lib.hid (by rw [HL.out, HS.out]; exact hown3), HB3⟩
          case measure => simp [intOf]; omega
        · have e : k = bs.length := by omega
          subst e
          go_wp2
          go_ret
          refine ⟨C, oc, ret_sl5 (by rw [HFA.out]), ?_, HB.out⟩
          have := HO.out
          rwa [HFA.out] at this
end Go.Proofs.Yteeggmnkcgpfjaa
