/- Contracts of the statements' helpers for a slice of ciphertexts: it is copied, measured, compared. -/
import Derived.Test.YteeggmnkcgpfjaaCi2
import Derived.Test.YteeggmnkcgpfjaaLw
namespace Go.Proofs.Yteeggmnkcgpfjaa
open Go.RowKit
set_option linter.unusedVariables false
attribute [local go_sem ↓] Go.wp_at_zero Go.wp_at_succ
set_option linter.unusedSimpArgs false

theorem cip_info : (Try.prog.info? 104).map (fun i => (i.zero, i.size, i.bytes)) = some (some (.agg #[.int .i64 0, .int .i64 0]), 2, 16) := by kernel_rfl
theorem parts_of {t : TypeId} {z : Value} {s b : Nat} (h : (Try.prog.info? t).map (fun i => (i.zero, i.size, i.bytes)) = some (some z, s, b)) : ∃ i, Try.prog.info? t = some i ∧ i.zero = some z ∧ i.size = s ∧ i.bytes = b := by
  cases hi : Try.prog.info? t with
  | none => rw [hi] at h; cases h
  | some i =>
    rw [hi] at h
    simp only [Option.map_some, Option.some.injEq, Prod.mk.injEq] at h
    exact ⟨i, rfl, h.1, h.2.1, h.2.2⟩

/-- a row of ciphertexts of the call's own, of which the first k are laid -/
def RowC (W : World) (B n : Nat) (l : List (Int × Int)) (k : Nat) : Prop :=
  ∃ vs : List Value, W.ownsRow B 104 2 (.slice (some ⟨B, 0, none⟩) n n) n vs ∧ ∀ j, j < k → vs[j * 2]? = some (.int .i64 (l.getD j (0, 0)).1) ∧ vs[j * 2 + 1]? = some (.int .i64 (l.getD j (0, 0)).2)
theorem RowC.below {W W' : World} {B n k : Nat} {l : List (Int × Int)} (h : RowC W B n l k) (hb : Below W.heap.size W W') : RowC W' B n l k := by
  obtain ⟨vs, h1, h2⟩ := h
  refine ⟨vs, h1.kept (row := none) ⟨hb.os, hb.tape, hb.output, hb.size, fun k hk _ => hb.block k hk⟩ ?_, h2⟩
  cases hv : (Value.slice (some ⟨B, 0, none⟩) n n).ownBlock <;> simp
theorem RowC.at_ {W : World} {B n k : Nat} {l : List (Int × Int)} (h : RowC W B n l k) (hk : k < n) : (∃ y0 y1, W.cell? ⟨B, k * 2, none⟩ = some y0 ∧ W.cell? ⟨B, k * 2 + 1, none⟩ = some y1) ∧ W.frozen? ⟨B, k * 2, none⟩ = false ∧ W.frozen? ⟨B, k * 2 + 1, none⟩ = false := by
  obtain ⟨vs, h1, h2⟩ := h
  have hl := h1.1
  refine ⟨⟨vs[k * 2]'(by omega), vs[k * 2 + 1]'(by omega), ?_, ?_⟩, h1.frozenAt _, h1.frozenAt _⟩
  · rw [h1.cellAt (k * 2) (by omega), List.getElem?_eq_getElem (by omega)]
  · rw [h1.cellAt (k * 2 + 1) (by omega), List.getElem?_eq_getElem (by omega)]
theorem RowC.put {W : World} {B n k : Nat} {l : List (Int × Int)} (h : RowC W B n l k) (hk : k < n) {x y : Int} (hx : l.getD k (0, 0) = (x, y)) :
    RowC ((W.setCell ⟨B, k * 2, none⟩ (.int .i64 x)).setCell ⟨B, k * 2 + 1, none⟩ (.int .i64 y)) B n l (k + 1) := by
  obtain ⟨vs, h1, h2⟩ := h
  have hl := h1.1
  refine ⟨(vs.set (k * 2) (.int .i64 x)).set (k * 2 + 1) (.int .i64 y), ((h1.stored (k * 2) _).1.stored (k * 2 + 1) _).1, fun j hj => ?_⟩
  rcases Nat.lt_or_ge j k with d | d
  · obtain ⟨a, b⟩ := h2 j d
    refine ⟨?_, ?_⟩
    · rw [List.getElem?_set_ne (by omega), List.getElem?_set_ne (by omega)]; exact a
    · rw [List.getElem?_set_ne (by omega), List.getElem?_set_ne (by omega)]; exact b
  · have e : j = k := by omega
    subst e
    rw [hx]
    refine ⟨?_, ?_⟩
    · rw [List.getElem?_set_ne (by omega), List.getElem?_set_self (by omega)]
    · rw [List.getElem?_set_self (by simp; omega)]
theorem RowC.cips {W : World} {B n : Nat} {l : List (Int × Int)} (h : RowC W B n l n) (hl : l.length = n) (hn : n ≤ 9223372036854775807) : Cips W (some ⟨B, 0, none⟩) n l := by
  obtain ⟨vs, h1, h2⟩ := h
  refine ⟨hl, hn, fun _ => ⟨B, 0, rfl, (h1.lt B rfl).2, fun k hk => ?_⟩⟩
  obtain ⟨a, b⟩ := h2 k hk
  rw [Nat.zero_add, h1.cellAt (k * 2) (by omega), h1.cellAt (k * 2 + 1) (by omega)]
  exact ⟨a, b⟩

set_option maxHeartbeats 1600000 in
theorem eqCipherS_any (A A' : Option Addr) (n c c' : Nat) (l : List (Int × Int)) (w : World) (h : Cips w A n l) (h' : Cips w A' n l) :
    Calls Try.prog 33 #[.slice A n c, .slice A' n c'] w fun e w' => e = .returned (.bool true) ∧ Below w.heap.size w w' := by
  have hn := h.le
  have HI := Lib.hid h
  have HI' := Lib.hid h'
  clear h h'
  go_enter Try.func33, Try.ntmps33
  go_wp2
  go_loopw [5] (fun i wr => ∃ k : Nat, k ≤ n ∧ i = .int .i64 k ∧ Hid (Below w.heap.size w wr)) (fun i _ => n - (intOf i).toNat)
  case atStart => exact ⟨0, by omega, rfl, Lib.hid (Below.refl _ _)⟩
  case round =>
    obtain ⟨k, hk, rfl, HB⟩ := hrel
    by_cases hlt : k < n
    · obtain ⟨b, off, rfl, hb, hc, hd⟩ := (HI.out.below HB.out).at_ hlt
      obtain ⟨b', off', rfl, hb', hc', hd'⟩ := (HI'.out.below HB.out).at_ hlt
      generalize (l.getD k (0, 0)).1 = x at hc hc'
      generalize (l.getD k (0, 0)).2 = y at hd hd'
      have i1 : (0 : Int) ≤ (k : Int) := by omega
      have i2 : (k : Int) < (n : Int) := by omega
      go_wp2_with fail
      go_region_held3 (fun W => W.cell? ⟨b, off + k * 2, none⟩ = some (.int .i64 x) ∧ W.cell? ⟨b, off + k * 2 + 1, none⟩ = some (.int .i64 y) ∧ W.cell? ⟨b', off' + k * 2, none⟩ = some (.int .i64 x) ∧ W.cell? ⟨b', off' + k * 2 + 1, none⟩ = some (.int .i64 y)) (first | (go_split_ands; (repeat' apply And.intro) <;> first | assumption | exact keepB hb1 (by assumption) | (refine keepS (by simp <;> omega) (keepS (by simp <;> omega) ?_); assumption) | (refine keepS (by simp <;> omega) ?_; assumption) | (refine keepB (belA (Below.refl _ _)) ?_; assumption) | go_keep) | go_keep) ((go_at_call 84; refine (eqCipher_any x y _).mono ?_; rintro e' w1 ⟨rfl, hb1⟩))
      all_goals go_wp2
      all_goals go_roundw
      all_goals first | (simp [intOf]; omega; done) | exact ⟨k + 1, by omega, by go_num, Lib.hid (belT (belD HB.out) hb1)⟩
    · have e : k = n := by omega
      subst e
      go_wp2
      go_ret
      exact ⟨rfl, HB.out⟩
end Go.Proofs.Yteeggmnkcgpfjaa
