/- Contracts of both sides: products of powers, logarithms. -/
import Derived.Test.YteeggmnkcgpfjaaGr3
namespace Go.Proofs.Yteeggmnkcgpfjaa
open Go.RowKit
set_option linter.unusedVariables false
attribute [local go_sem ↓] Go.wp_at_zero Go.wp_at_succ

theorem Ints.two {w : World} {b : Nat} {x y : Int} (hc : w.cell? ⟨b, 0, none⟩ = some (.int .i64 x)) (hd : w.cell? ⟨b, 1, none⟩ = some (.int .i64 y)) : Ints w (some ⟨b, 0, none⟩) 2 [x, y] :=
  ⟨rfl, by omega, fun _ => ⟨b, 0, rfl, World.block_lt_of_cell? _ _ hc, fun k hk => by
    have e : k = 0 ∨ k = 1 := by omega
    rcases e with rfl | rfl
    · exact hc
    · exact hd⟩⟩
theorem small2 {p x y : Int} (hx : 0 ≤ x ∧ x < p) (hy : 0 ≤ y ∧ y < p) : ∀ z ∈ [x, y], Small p z := by
  intro z hz
  rcases List.mem_cons.1 hz with rfl | hz
  · exact hx
  · rcases List.mem_cons.1 hz with rfl | hz
    · exact hy
    · cases hz

set_option maxHeartbeats 1000000 in
theorem powers_any (p q g : Int) (A : Option Addr) (n c : Nat) (zs : List Int) (A' : Option Addr) (n' c' : Nat) (es : List Int) (w : World) (h : Ints w A n zs) (h' : Ints w A' n' es) (hnn : n ≤ n')
    (p1 : 2 ≤ p) (p2 : p ≤ 3000000000) (q1 : 1 ≤ q) (q2 : q ≤ 3000000000) (hs : ∀ z ∈ zs, Small p z) :
    Calls Try.prog 131 #[.agg #[.int .i64 p, .int .i64 q, .int .i64 g], .slice A n c, .slice A' n' c'] w fun e' w' => e' = .returned (.int .i64 (prodK p q zs es n)) ∧ Below w.heap.size w w' := by
  have hn := h.le
  have hn' := h'.le
  have hb0 : Below w.heap.size w (w.alloc (.cells #[.int .i64 p, .int .i64 q, .int .i64 g] 27)) := belA (Below.refl _ _)
  have HI := Lib.hid (h.below hb0)
  have HI' := Lib.hid (h'.below hb0)
  have HS := Lib.hid hs
  clear h hs h'
  go_enter Try.func131, Try.ntmps131
  go_wp2
  generalize hW0 : w.alloc (.cells #[.int .i64 p, .int .i64 q, .int .i64 g] 27) = W0 at HI HI' hb0
  have hg : W0.cell? ⟨w.heap.size, 0, none⟩ = some (.int .i64 p) ∧ W0.cell? ⟨w.heap.size, 1, none⟩ = some (.int .i64 q) ∧ W0.cell? ⟨w.heap.size, 2, none⟩ = some (.int .i64 g) ∧ w.heap.size < W0.heap.size := by
    subst hW0
    refine ⟨?_, ?_, ?_, ?_⟩ <;> simp [World.cell?_alloc_at]
  have HG := Lib.hid hg
  clear hg hW0
  go_loopw [7, 12] (fun o i wr => ∃ k : Nat, k ≤ n ∧ i = .int .i64 k ∧ o = .int .i64 (prodK p q zs es k) ∧ Hid (Below W0.heap.size W0 wr)) (fun _ i _ => n - (intOf i).toNat)
  case atStart => exact ⟨0, by omega, rfl, rfl, Lib.hid (Below.refl _ _)⟩
  case round =>
    obtain ⟨k, hk, rfl, rfl, HB⟩ := hrel
    by_cases hlt : k < n
    · obtain ⟨b, off, rfl, hb, hc⟩ := (HI.out.below HB.out).at_ hlt
      obtain ⟨b', off', rfl, hb', hc'⟩ := (HI'.out.below HB.out).at_ (k := k) (by omega)
      obtain ⟨g1, g2, g3, g4⟩ := HG.out
      have hsz := HB.out.size
      have k1 := (HB.out.cell (p := ⟨w.heap.size, 0, none⟩) g4).trans g1
      have k2 := (HB.out.cell (p := ⟨w.heap.size, 1, none⟩) g4).trans g2
      have k3 := (HB.out.cell (p := ⟨w.heap.size, 2, none⟩) g4).trans g3
      have k4 : w.heap.size < wr.heap.size := by omega
      clear g1 g2 g3 g4 hsz
      have hz := HS.out _ (getD_mem (d := 0) (show k < zs.length by rw [HI.out.len]; exact hlt))
      have hpw := gpow_bd (p := p) (q := q) (x := zs.getD k 0) (e := es.getD k 0) (by omega)
      have hpk := prodK_bd (q := q) zs es p1 k
      have hs : prodK p q zs es (k + 1) = mulK p [prodK p q zs es k, gpow p q (zs.getD k 0) (es.getD k 0)] 2 := (mul2 hpk.1 hpk.2).symm
      have hsm := small2 hpk hpw
      obtain ⟨z1, z2⟩ := hz
      generalize zs.getD k 0 = z at hc z1 z2 hs hpw hsm
      generalize es.getD k 0 = e at hc' hs hpw hsm
      generalize hgp : gpow p q z e = gp at hs hpw hsm
      generalize prodK p q zs es k = pk at hs hpk hsm
      have HP := Lib.hid hgp
      have HM := Lib.hid hs
      have HZ := Lib.hid hsm
      clear hs hgp hpw hpk hsm
      have i1 : (0 : Int) ≤ (k : Int) := by omega
      have i2 : (k : Int) < (n : Int) := by omega
      have i3 : (k : Int) < (n' : Int) := by omega
      have hB := HB.out
      go_wp2
      go_region_held3 (fun W => W.cell? ⟨w.heap.size, 0, none⟩ = some (.int .i64 p) ∧ W.cell? ⟨w.heap.size, 1, none⟩ = some (.int .i64 q) ∧ W.cell? ⟨w.heap.size, 2, none⟩ = some (.int .i64 g) ∧ W.cell? ⟨b', off' + k, none⟩ = some (.int .i64 e)) (first | (go_split_ands; (repeat' apply And.intro) <;> first | assumption | exact keepB hb1 (by assumption) | (refine keepS (by simp <;> omega) (keepS (by simp <;> omega) ?_); assumption) | (refine keepS (by simp <;> omega) ?_; assumption) | (refine keepB (belA (Below.refl _ _)) ?_; assumption) | go_keep) | go_keep) ((first | (go_at_call 169; refine (pow_any p q g z e _ (by omega) (by omega) (by omega) (by omega) (by omega) (by omega)).mono ?_; rintro e' w1 ⟨rfl, hb1⟩; rw [HP.out]) | (go_at_call 63; refine (mul_any p q g _ 2 2 [pk, gp] _ (Ints.two (by rw [World.cell?_alloc_at _ _ _ _ rfl]; rfl) (by rw [World.cell?_alloc_at _ _ _ _ rfl]; rfl)) (by omega) (by omega) HZ.out).mono ?_; rintro e' w1 ⟨rfl, hb1⟩; rw [← HM.out])))
      all_goals go_wp2
      all_goals go_roundw
      all_goals first | exact ⟨k + 1, by omega, by go_num, rfl, Lib.hid (by repeat (first | exact Below.refl _ _ | assumption | refine belA ?_ | refine belD ?_ | refine belN ?_ | refine belS ?_ (by simp) | refine belT ?_ (by assumption)))⟩ | (simp [intOf]; omega)
    · have e : k = n := by omega
      subst e
      go_wp2
      go_ret
      exact ⟨rfl, belT hb0 HB.out⟩

def prodM (p q g : Int) (zs es : List Int) : Int × Bool :=
  if goodB p q g && decide (zs.length ≤ 24) && zs.all (hasB p q) && decide (es.length = zs.length) && (es.all fun e => inB e 0 (q - 1)) then (prodK p q zs es zs.length, true) else (0, false)

end Go.Proofs.Yteeggmnkcgpfjaa
