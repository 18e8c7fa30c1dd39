/- Ciphertexts of the call's own as a result: they stand, are marked, are looked at. -/
import Derived.Test.YteeggmnkcgpfjaaCm
import Derived.Test.YteeggmnkcgpfjaaAc
namespace Go.Proofs.Yteeggmnkcgpfjaa
open Go.RowKit
set_option linter.unusedVariables false
attribute [local go_sem ↓] Go.wp_at_zero Go.wp_at_succ
set_option linter.unusedSimpArgs false

/-- a row of ciphertexts of the call's own, of which the first k are laid -/
def RowD (W : World) (lo g n c : Nat) (l : List (Int × Int)) (k : Nat) : Prop :=
  ∃ vs : List Value, W.ownsRow lo 104 2 (.slice (some ⟨g, 0, none⟩) n c) n vs ∧ ∀ j, j < k → vs[j * 2]? = some (.int .i64 (l.getD j (0, 0)).1) ∧ vs[j * 2 + 1]? = some (.int .i64 (l.getD j (0, 0)).2)
theorem RowD.below {W W' : World} {lo g n c k : Nat} {l : List (Int × Int)} (h : RowD W lo g n c l k) (hb : Below W.heap.size W W') : RowD W' lo g n c l k := by
  obtain ⟨vs, h1, h2⟩ := h
  refine ⟨vs, h1.kept (row := none) ⟨hb.os, hb.tape, hb.output, hb.size, fun k hk _ => hb.block k hk⟩ ?_, h2⟩
  cases hv : (Value.slice (some ⟨g, 0, none⟩) n c).ownBlock <;> simp
theorem RowD.grown {W W' : World} {lo g n c k : Nat} {l : List (Int × Int)} {row : Option Nat} (h : RowD W lo g n c l k) (hg : W.grownBy W' row) (hne : some g ≠ row) : RowD W' lo g n c l k := by
  obtain ⟨vs, h1, h2⟩ := h
  exact ⟨vs, h1.kept hg (.inr hne), h2⟩
theorem RowD.at_ {W : World} {lo g n c k i : Nat} {l : List (Int × Int)} (h : RowD W lo g n c l i) (hk : k < n) : (∃ y0 y1, W.cell? ⟨g, k * 2, none⟩ = some y0 ∧ W.cell? ⟨g, k * 2 + 1, none⟩ = some y1) ∧ W.frozen? ⟨g, k * 2, none⟩ = false ∧ W.frozen? ⟨g, k * 2 + 1, none⟩ = false := by
  obtain ⟨vs, h1, h2⟩ := h
  have hl := h1.1
  refine ⟨⟨vs[k * 2]'(by omega), vs[k * 2 + 1]'(by omega), ?_, ?_⟩, h1.frozenAt _, h1.frozenAt _⟩
  · rw [h1.cellAt (k * 2) (by omega), List.getElem?_eq_getElem (by omega)]
  · rw [h1.cellAt (k * 2 + 1) (by omega), List.getElem?_eq_getElem (by omega)]
theorem RowD.put {W : World} {lo g n c k : Nat} {l : List (Int × Int)} (h : RowD W lo g n c l k) (hk : k < n) {x y : Int} (hx : l.getD k (0, 0) = (x, y)) :
    RowD ((W.setCell ⟨g, k * 2, none⟩ (.int .i64 x)).setCell ⟨g, k * 2 + 1, none⟩ (.int .i64 y)) lo g n c l (k + 1) ∧ W.grownBy ((W.setCell ⟨g, k * 2, none⟩ (.int .i64 x)).setCell ⟨g, k * 2 + 1, none⟩ (.int .i64 y)) (some g) := by
  obtain ⟨vs, h1, h2⟩ := h
  have hl := h1.1
  have s1 := h1.stored (k * 2) (.int .i64 x)
  have s2 := s1.1.stored (k * 2 + 1) (.int .i64 y)
  refine ⟨⟨(vs.set (k * 2) (.int .i64 x)).set (k * 2 + 1) (.int .i64 y), s2.1, fun j hj => ?_⟩, s1.2.trans s2.2⟩
  rcases Nat.lt_or_ge j k with d | d
  · obtain ⟨a, b⟩ := h2 j d
    refine ⟨?_, ?_⟩
    · rw [List.getElem?_set_ne (by omega), List.getElem?_set_ne (by omega)]; exact a
    · rw [List.getElem?_set_ne (by omega), List.getElem?_set_ne (by omega)]; exact b
  · have e : j = k := by omega
    subst e
    rw [hx]
    refine ⟨?_, ?_⟩
    · rw [List.getElem?_set_ne (by omega), List.getElem?_set_self (by omega)]
    · rw [List.getElem?_set_self (by simp; omega)]
theorem RowD.cips {W : World} {lo g n c : Nat} {l : List (Int × Int)} (h : RowD W lo g n c l n) (hl : l.length = n) (hn : n ≤ 9223372036854775807) : Cips W (some ⟨g, 0, none⟩) n l := by
  obtain ⟨vs, h1, h2⟩ := h
  refine ⟨hl, hn, fun _ => ⟨g, 0, rfl, (h1.lt g rfl).2, fun k hk => ?_⟩⟩
  obtain ⟨a, b⟩ := h2 k hk
  rw [Nat.zero_add, h1.cellAt (k * 2) (by omega), h1.cellAt (k * 2 + 1) (by omega)]
  exact ⟨a, b⟩

/-- ciphertexts of the call's own, in a block from lo on and below hi -/
structure OwnD (W : World) (lo hi : Nat) (A : Option Addr) (n c : Nat) (l : List (Int × Int)) : Prop where
  row : (A = none ∧ n = 0 ∧ c = 0) ∨ ∃ g, A = some ⟨g, 0, none⟩ ∧ lo ≤ g ∧ g < hi ∧ RowD W lo g n c l n
  len : l.length = n
  le : n ≤ 9223372036854775807
theorem cellsL_get (l : List (Int × Int)) : ∀ j, j < l.length → (cellsL l)[j * 2]? = some (.int .i64 (l.getD j (0, 0)).1) ∧ (cellsL l)[j * 2 + 1]? = some (.int .i64 (l.getD j (0, 0)).2) := by
  induction l with
  | nil => intro j hj; exact absurd hj (by simp)
  | cons a t ih =>
    intro j hj
    have e : cellsL (a :: t) = Value.int .i64 a.1 :: Value.int .i64 a.2 :: cellsL t := rfl
    rw [e]
    cases j with
    | zero => exact ⟨rfl, rfl⟩
    | succ j =>
      have := ih j (by simpa using hj)
      rw [show (j + 1) * 2 = j * 2 + 1 + 1 from by omega]
      simpa using this
theorem OwnD.of_own {W : World} {lo : Nat} {A : Option Addr} {n c : Nat} {l : List (Int × Int)} (h : W.ownsRow lo 104 2 (.slice A n c) n (cellsL l)) : OwnD W lo W.heap.size A n c l := by
  have hl : l.length = n := by have := h.1; rw [cellsL_len] at this; omega
  have h0 := h
  rcases h.2 with ⟨h1, h2⟩ | ⟨g, cap, cur, h1, h2, h3, h4, h5, h6, h7⟩
  · injection h1 with e1 e2 e3
    exact ⟨.inl ⟨e1, e2, e3⟩, hl, by omega⟩
  · injection h1 with e1 e2 e3
    subst e1
    exact ⟨.inr ⟨g, rfl, h2, (h0.lt g rfl).2, cellsL l, h0, fun j hj => cellsL_get l j (by omega)⟩, hl, by unfold maxLen at h5; omega⟩
section
variable {W W' : World} {lo hi : Nat} {A : Option Addr} {n c : Nat} {l : List (Int × Int)}
theorem OwnD.below (h : OwnD W lo hi A n c l) (hb : Below W.heap.size W W') : OwnD W' lo hi A n c l := by
  refine ⟨?_, h.len, h.le⟩
  rcases h.row with h1 | ⟨g, h1, h2, h3, h4⟩
  · exact .inl h1
  · exact .inr ⟨g, h1, h2, h3, h4.below hb⟩
theorem OwnD.cips (h : OwnD W lo hi A n c l) : Cips W A n l := by
  rcases h.row with ⟨h1, h2, _⟩ | ⟨g, h1, h2, h3, h4⟩
  · exact ⟨h.len, h.le, fun hn => absurd hn (by omega)⟩
  · subst h1
    exact h4.cips h.len h.le
theorem OwnD.grown {row : Option Nat} (h : OwnD W lo hi A n c l) (hg : W.grownBy W' row) (hne : ∀ k, row = some k → k < lo ∨ hi ≤ k) : OwnD W' lo hi A n c l := by
  refine ⟨?_, h.len, h.le⟩
  rcases h.row with h1 | ⟨g, h1, h2, h3, h4⟩
  · exact .inl h1
  · exact .inr ⟨g, h1, h2, h3, h4.grown hg fun e => by rcases hne g e.symm with h5 | h5 <;> omega⟩
theorem OwnD.blk (h : OwnD W lo hi A n c l) : ∀ k, (Value.slice A n c).ownBlock = some k → lo ≤ k ∧ k < hi := by
  intro k e
  rcases h.row with ⟨h1, _, _⟩ | ⟨g, h1, h2, h3, h4⟩
  · subst h1; cases e
  · subst h1
    have e' : some g = some k := e
    injection e' with e'
    subst e'
    exact ⟨h2, h3⟩
end

/-- k, k + 1, .. two in each ciphertext -/
def marksC (k : Int) (n : Nat) : List (Int × Int) := (List.range n).map fun j : Nat => (k + 2 * (j : Int), k + 2 * (j : Int) + 1)
theorem marksC_len (k : Int) (n : Nat) : (marksC k n).length = n := by simp [marksC]
theorem marksC_get (k : Int) (n j : Nat) (h : j < n) : (marksC k n).getD j (0, 0) = (k + 2 * (j : Int), k + 2 * (j : Int) + 1) := by
  simp [marksC, List.getD_eq_getElem?_getD, h]

set_option maxHeartbeats 800000 in
theorem markCipherD_any (A : Option Addr) (n c : Nat) (l : List (Int × Int)) (k : Int) (lo hi : Nat) (w : World) (h : OwnD w lo hi A n c l) (k0 : 0 ≤ k) (k1 : k ≤ 1000000000000000000) (hn : n ≤ 1000000000000000000) :
    Calls Try.prog 34 #[.slice A n c, .int .i64 k] w fun e w' => e = .returned (.int .i64 (k + 2 * (n : Int))) ∧ OwnD w' lo hi A n c (marksC k n) ∧ w.grownBy w' (Value.slice A n c).ownBlock := by
  rcases h.row with ⟨e1, e2, e3⟩ | ⟨g, h1, h2, h3, h4⟩
  · subst e1 e2 e3
    have HH : Hid (OwnD w lo hi none 0 0 (marksC k 0)) := Lib.hid ⟨.inl ⟨rfl, rfl, rfl⟩, rfl, by omega⟩
    clear h
    go_enter Try.func34, Try.ntmps34
    go_wp2
    go_loop [5, 1] (fun i q => i = .int .i64 0 ∧ q = .int .i64 k) (fun _ _ => 0)
    case atStart => exact ⟨rfl, rfl⟩
    case round =>
      obtain ⟨rfl, rfl⟩ := hrel
      go_wp2
      go_ret
      exact ⟨ret_int (by simp), HH.out, World.grownBy.refl _ _⟩
  · subst h1
    have H0 : Hid (RowD w lo g n c (marksC k n) 0) := Lib.hid (by obtain ⟨vs, h5, _⟩ := h4; exact ⟨vs, h5, fun j hj => absurd hj (by omega)⟩)
    have HB : Hid (lo ≤ g ∧ g < hi) := Lib.hid ⟨h2, h3⟩
    have hle := h.le
    clear h h2 h3 h4
    go_enter Try.func34, Try.ntmps34
    go_wp2
    go_loopw [5, 1] (fun i q wr => ∃ j : Nat, j ≤ n ∧ i = .int .i64 j ∧ q = .int .i64 (k + 2 * (j : Int)) ∧ Hid (RowD wr lo g n c (marksC k n) j) ∧ Hid (w.grownBy wr (some g))) (fun i _ _ => n - (intOf i).toNat)
    case atStart => exact ⟨0, by omega, rfl, by simp, H0, Lib.hid (World.grownBy.refl _ _)⟩
    case round =>
      obtain ⟨j, hj, rfl, rfl, H1, H2⟩ := hrel
      by_cases hlt : j < n
      · obtain ⟨⟨y0, y1, f1, f2⟩, f3, f4⟩ := H1.out.at_ hlt
        have s := H1.out.put hlt (marksC_get k n j hlt)
        have HS := Lib.hid s.1
        have HG := Lib.hid s.2
        have i1 : (0 : Int) ≤ (j : Int) := by omega
        have i2 : (j : Int) < (n : Int) := by omega
        clear s
        go_wp2
        go_roundw
        case rel => exact ⟨j + 1, by omega, by go_num, by first | (congr 1; omega) | go_num, HS, Lib.hid (H2.out.trans HG.out)⟩
        case measure => simp [intOf]; omega
      · have e : j = n := by omega
        subst e
        go_wp2
        go_ret
        exact ⟨rfl, ⟨.inr ⟨g, rfl, HB.out.1, HB.out.2, H1.out⟩, marksC_len _ _, hle⟩, H2.out⟩
set_option maxHeartbeats 800000 in
theorem heldCipherS_any (A : Option Addr) (n c : Nat) (k : Int) (w : World) (h : Cips w A n (marksC k n)) (k0 : 0 ≤ k) (k1 : k ≤ 1000000000000000000) (hn : n ≤ 1000000000000000000) :
    Calls Try.prog 35 #[.slice A n c, .int .i64 k] w fun e w' => e = .returned (.int .i64 (k + 2 * (n : Int))) ∧ Below w.heap.size w w' := by
  have HI := Lib.hid h
  clear h
  go_enter Try.func35, Try.ntmps35
  go_wp2
  go_loop [5, 1] (fun i q => ∃ j : Nat, j ≤ n ∧ i = .int .i64 j ∧ q = .int .i64 (k + 2 * (j : Int))) (fun i _ => n - (intOf i).toNat)
  case atStart => exact ⟨0, by omega, rfl, by simp⟩
  case round =>
    obtain ⟨j, hj, rfl, rfl⟩ := hrel
    by_cases hlt : j < n
    · obtain ⟨b, off, rfl, hb, hc, hd⟩ := HI.out.at_ hlt
      rw [marksC_get k n j hlt] at hc hd
      simp only at hc hd
      have i1 : (0 : Int) ≤ (j : Int) := by omega
      have i2 : (j : Int) < (n : Int) := by omega
      go_wp2
      go_round
      case rel => exact ⟨j + 1, by omega, by go_num, by first | (congr 1; omega) | go_num⟩
      case measure => simp [intOf]; omega
    · have e : j = n := by omega
      subst e
      go_wp2
      go_ret
      exact ⟨rfl, Below.refl _ _⟩
end Go.Proofs.Yteeggmnkcgpfjaa
