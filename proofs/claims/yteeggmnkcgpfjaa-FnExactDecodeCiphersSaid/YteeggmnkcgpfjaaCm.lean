/- Contracts of the statements' helpers for a slice of ciphertexts of the call's own: it is copied, marked. -/
import Derived.Test.YteeggmnkcgpfjaaCl
import Derived.Test.YteeggmnkcgpfjaaLm
namespace Go.Proofs.Yteeggmnkcgpfjaa
open Go.RowKit
set_option linter.unusedVariables false
attribute [local go_sem ↓] Go.wp_at_zero Go.wp_at_succ
set_option linter.unusedSimpArgs false

theorem Cips.base {w : World} {A : Option Addr} {n : Nat} {l : List (Int × Int)} (h : Cips w A n l) : ∀ b off, A = some ⟨b, off, none⟩ → 0 < n → b < w.heap.size := by
  intro b off e hn
  obtain ⟨b', off', e', hb, _⟩ := h.2.2 hn
  rw [e] at e'
  injection e' with e'
  injection e' with e1 e2
  subst e1
  exact hb
theorem Cips.grown {w w' : World} {A : Option Addr} {n : Nat} {l : List (Int × Int)} {row : Option Nat} {B : Nat} (h : Cips w A n l) (hA : ∀ b off, A = some ⟨b, off, none⟩ → 0 < n → b < B) (hg : w.grownBy w' row) (hne : ∀ k, row = some k → B ≤ k) : Cips w' A n l := by
  refine ⟨h.1, h.2.1, fun hn => ?_⟩
  obtain ⟨b, off, e, hb, hc⟩ := h.2.2 hn
  have hlt := hA b off e hn
  have hne' : some b ≠ row := fun e' => by have := hne b e'.symm; omega
  exact ⟨b, off, e, Nat.lt_of_lt_of_le hb hg.size, fun k hk => ⟨hg.cell (hc k hk).1 hne', hg.cell (hc k hk).2 hne'⟩⟩

/-- a row of ciphertexts of the call's own, in block B from lo on and below hi -/
structure OwnC (W : World) (lo hi B n : Nat) (l : List (Int × Int)) : Prop where
  row : RowC W B n l n
  ge : lo ≤ B
  lt : B < hi
  len : l.length = n
  le : n ≤ 9223372036854775807
theorem OwnC.cips {W : World} {lo hi B n : Nat} {l : List (Int × Int)} (h : OwnC W lo hi B n l) : Cips W (some ⟨B, 0, none⟩) n l := h.row.cips h.len h.le
theorem OwnC.below {W W' : World} {lo hi B n : Nat} {l : List (Int × Int)} (h : OwnC W lo hi B n l) (hb : Below W.heap.size W W') : OwnC W' lo hi B n l := ⟨h.row.below hb, h.ge, h.lt, h.len, h.le⟩

theorem OwnC.rowk {W : World} {lo hi B n : Nat} {l : List (Int × Int)} (h : OwnC W lo hi B n l) : ∀ k, some B = some k → lo ≤ k ∧ k < hi := by
  intro k e
  injection e with e
  subst e
  exact ⟨h.ge, h.lt⟩

/-- a row of ciphertexts that is being marked -/
def RowM (W : World) (B n : Nat) : Prop := ∃ vs : List Value, W.ownsRow B 104 2 (.slice (some ⟨B, 0, none⟩) n n) n vs
theorem RowM.at_ {W : World} {B n k : Nat} (h : RowM W B n) (hk : k < n) : (∃ y0 y1, W.cell? ⟨B, k * 2, none⟩ = some y0 ∧ W.cell? ⟨B, k * 2 + 1, none⟩ = some y1) ∧ W.frozen? ⟨B, k * 2, none⟩ = false ∧ W.frozen? ⟨B, k * 2 + 1, none⟩ = false := by
  obtain ⟨vs, h1⟩ := h
  have hl := h1.1
  refine ⟨⟨vs[k * 2]'(by omega), vs[k * 2 + 1]'(by omega), ?_, ?_⟩, h1.frozenAt _, h1.frozenAt _⟩
  · rw [h1.cellAt (k * 2) (by omega), List.getElem?_eq_getElem (by omega)]
  · rw [h1.cellAt (k * 2 + 1) (by omega), List.getElem?_eq_getElem (by omega)]
theorem RowM.put {W : World} {B n : Nat} (h : RowM W B n) (j : Nat) (u : Value) : RowM (W.setCell ⟨B, j, none⟩ u) B n ∧ W.grownBy (W.setCell ⟨B, j, none⟩ u) (some B) := by
  obtain ⟨vs, h1⟩ := h
  have := h1.stored j u
  exact ⟨⟨_, this.1⟩, this.2⟩
set_option maxHeartbeats 800000 in
theorem markCipherS_any (B n : Nat) (l : List (Int × Int)) (k : Int) (w : World) (h : RowC w B n l n) (k0 : 0 ≤ k) (k1 : k ≤ 1000000000000000000) (hn : n ≤ 1000000000000000000) :
    Calls Try.prog 34 #[.slice (some ⟨B, 0, none⟩) n n, .int .i64 k] w fun e w' => e = .returned (.int .i64 (k + 2 * (n : Int))) ∧ w.grownBy w' (some B) := by
  have H0 : Hid (RowM w B n) := Lib.hid (by obtain ⟨vs, h1, _⟩ := h; exact ⟨vs, h1⟩)
  clear h
  go_enter Try.func34, Try.ntmps34
  go_wp2
  go_loopw [5, 1] (fun i q wr => ∃ j : Nat, j ≤ n ∧ i = .int .i64 j ∧ q = .int .i64 (k + 2 * (j : Int)) ∧ Hid (RowM wr B n) ∧ Hid (w.grownBy wr (some B))) (fun i _ _ => n - (intOf i).toNat)
  case atStart => exact ⟨0, by omega, rfl, by simp, H0, Lib.hid (World.grownBy.refl _ _)⟩
  case round =>
    obtain ⟨j, hj, rfl, rfl, H1, H2⟩ := hrel
    by_cases hlt : j < n
    · obtain ⟨⟨y0, y1, f1, f2⟩, f3, f4⟩ := H1.out.at_ hlt
      have s1 := H1.out.put (j * 2) (.int .i64 (k + 2 * (j : Int)))
      have s2 := s1.1.put (j * 2 + 1) (.int .i64 (k + 2 * (j : Int) + 1))
      have HS := Lib.hid s2.1
      have HG := Lib.hid (s1.2.trans s2.2)
      have i1 : (0 : Int) ≤ (j : Int) := by omega
      have i2 : (j : Int) < (n : Int) := by omega
      clear s1 s2
      go_wp2
      go_roundw
      case rel => exact ⟨j + 1, by omega, by go_num, by first | (congr 1; omega) | go_num, HS, Lib.hid (H2.out.trans HG.out)⟩
      case measure => simp [intOf]; omega
    · have e : j = n := by omega
      subst e
      go_wp2
      go_ret
      exact ⟨rfl, H2.out⟩
end Go.Proofs.Yteeggmnkcgpfjaa
