/- Contracts of the laws' helpers that write: marks in a slice of the call's own, and the look at them. -/
import Derived.Test.YtaehldfhjfchhaaDoorLw
namespace Go.Proofs.YtaehldfhjfchhaaDoor
open Go.RowKit
set_option linter.unusedVariables false

theorem Own.len {w : World} {lo hi : Nat} {A : Option Addr} {n c : Nat} {zs : List Int} (h : Own w lo hi A n c zs) : zs.length = n := h.ints.len
theorem Own.grown {w w' : World} {lo hi : Nat} {A : Option Addr} {n c : Nat} {zs : List Int} {row : Option Nat} (h : Own w lo hi A n c zs) (hg : w.grownBy w' row) (hne : ∀ k, row = some k → k < lo ∨ hi ≤ k) : Own w' lo hi A n c zs := by
  refine ⟨h.own.kept hg ?_, h.lt⟩
  cases hv : (Value.slice A n c).ownBlock with
  | none => exact .inl rfl
  | some b =>
    right
    intro e
    have h1 := h.own.lt b hv
    have h2 := h.lt b hv
    rcases hne b e.symm with h3 | h3 <;> omega
theorem Ints.base {w : World} {A : Option Addr} {n : Nat} {zs : List Int} (h : Ints w A n zs) : ∀ b off, A = some ⟨b, off, none⟩ → 0 < n → b < w.heap.size := by
  intro b off e hn
  obtain ⟨b', off', e', hb, _⟩ := h.2.2 hn
  rw [e] at e'
  injection e' with e'
  injection e' with e1 e2
  subst e1
  exact hb
/-- an argument's slice stands while one of the call's own blocks is written -/
theorem Ints.grown {w w' : World} {A : Option Addr} {n : Nat} {zs : List Int} {row : Option Nat} {B : Nat} (h : Ints w A n zs) (hA : ∀ b off, A = some ⟨b, off, none⟩ → 0 < n → b < B) (hg : w.grownBy w' row) (hne : ∀ k, row = some k → B ≤ k) : Ints w' A n zs := by
  refine ⟨h.1, h.2.1, fun hn => ?_⟩
  obtain ⟨b, off, e, hb, hc⟩ := h.2.2 hn
  have hlt := hA b off e hn
  have hne' : some b ≠ row := fun e' => by have := hne b e'.symm; omega
  exact ⟨b, off, e, Nat.lt_of_lt_of_le hb hg.size, fun k hk => hg.cell (hc k hk) hne'⟩
theorem below_of_grown {a w w' : World} {row : Option Nat} {B : Nat} (h : Below B a w) (hg : w.grownBy w' row) (hB : B ≤ w.heap.size) (hr : ∀ k, row = some k → B ≤ k) : Below B a w' := h.grown hg hB hr

/-- k, k + 1, .. -/
def marks (k : Int) (n : Nat) : List Int := (List.range n).map fun j : Nat => k + (j : Int)
theorem marks_len (k : Int) (n : Nat) : (marks k n).length = n := by simp [marks]
theorem marks_get (k : Int) (n j : Nat) (h : j < n) : (marks k n).getD j 0 = k + (j : Int) := by
  simp [marks, List.getD_eq_getElem?_getD, h]
theorem marks_step {zs : List Int} {k : Int} {n j : Nat} (hl : zs.length = n) (hj : j < n) :
    ((marks k j ++ zs.drop j).map (Value.int .i64)).set j (.int .i64 (k + (j : Int))) = (marks k (j + 1) ++ zs.drop (j + 1)).map (Value.int .i64) := by
  rw [← List.map_set]
  have e : zs.drop j = zs[j] :: zs.drop (j + 1) := List.drop_eq_getElem_cons (by omega)
  rw [e, List.set_append_right _ _ (by rw [marks_len]; exact Nat.le_refl _), marks_len, Nat.sub_self, List.set_cons_zero]
  simp [marks, List.range_succ]

set_option maxHeartbeats 800000 in
theorem markIntS_any (A : Option Addr) (n c : Nat) (zs : List Int) (k : Int) (lo hi : Nat) (w : World) (h : Own w lo hi A n c zs) (k0 : 0 ≤ k) (k1 : k ≤ 4000000000000000000) (hn : n ≤ 4000000000000000000) :
    Calls Tryd.prog 8 #[.slice A n c, .int .i64 k] w fun e w' => e = .returned (.int .i64 (k + (n : Int))) ∧ Own w' lo hi A n c (marks k n) ∧ w.grownBy w' (Value.slice A n c).ownBlock := by
  have hl := h.len
  rcases h.own.2 with ⟨h1, h2⟩ | ⟨g, cap, cur, h1, h2, h3, h4, h5, h6, h7⟩
  · injection h1 with e1 e2 e3
    subst e1 e2 e3
    have hz : zs = [] := List.eq_nil_of_length_eq_zero hl
    subst hz
    have HH := Lib.hid h
    clear h h2 hl
    go_enter Tryd.func8, Tryd.ntmps8
    go_wp2
    go_loop [5, 1] (fun i q => i = .int .i64 0 ∧ q = .int .i64 k) (fun _ _ => 0)
    case atStart => exact ⟨rfl, rfl⟩
    case round =>
      obtain ⟨rfl, rfl⟩ := hrel
      go_wp2
      go_ret
      exact ⟨ret_int (by simp), HH.out, World.grownBy.refl _ _⟩
  · injection h1 with e1 e2 e3
    subst e1
    subst e3
    have hlt := h.lt
    have HL := Lib.hid hlt
    have HO := Lib.hid h.own
    have HN := Lib.hid hl
    clear h h2 h3 h4 h5 h6 h7 hl hlt
    go_enter Tryd.func8, Tryd.ntmps8
    go_wp2
    go_loopw [5, 1] (fun i q wr => ∃ j : Nat, j ≤ n ∧ i = .int .i64 j ∧ q = .int .i64 (k + (j : Int)) ∧ Hid (wr.ownsRow lo 3 1 (.slice (some ⟨g, 0, none⟩) n c) n ((marks k j ++ zs.drop j).map (Value.int .i64))) ∧ Hid (w.grownBy wr (some g))) (fun i _ _ => n - (intOf i).toNat)
    case atStart => exact ⟨0, by omega, rfl, by simp, Lib.hid (by simpa [marks] using HO.out), Lib.hid (World.grownBy.refl _ _)⟩
    case round =>
      obtain ⟨j, hj, rfl, rfl, H1, H2⟩ := hrel
      by_cases hlt : j < n
      · have hd := H1.out.cellAt j (by omega)
        have hlen := HN.out
        rw [List.getElem?_eq_getElem (by simp [marks_len]; omega)] at hd
        have hf := H1.out.frozenAt j
        have hst := H1.out.stored j (.int .i64 (k + (j : Int)))
        rw [marks_step hlen hlt] at hst
        have HS := Lib.hid hst.1
        have HG := Lib.hid hst.2
        clear hst
        generalize ((marks k j ++ zs.drop j).map (Value.int .i64))[j]'_ = y at hd
        clear hlen
        go_wp2
        go_roundw
        case rel => exact ⟨j + 1, by omega, by go_num, by first | (congr 1; omega) | go_num, HS, Lib.hid (H2.out.trans HG.out)⟩
        case measure => simp [intOf]; omega
      · have e : j = n := by omega
        subst e
        go_wp2
        go_ret
        refine ⟨rfl, ⟨?_, HL.out⟩, H2.out⟩
        have := H1.out
        rwa [List.drop_of_length_le (by rw [HN.out]; exact Nat.le_refl _), List.append_nil] at this

set_option maxHeartbeats 800000 in
theorem heldIntS_any (A : Option Addr) (n c : Nat) (k : Int) (w : World) (h : Ints w A n (marks k n)) (k0 : 0 ≤ k) (k1 : k ≤ 4000000000000000000) (hn : n ≤ 4000000000000000000) :
    Calls Tryd.prog 9 #[.slice A n c, .int .i64 k] w fun e w' => e = .returned (.int .i64 (k + (n : Int))) ∧ Below w.heap.size w w' := by
  have HI := Lib.hid h
  clear h
  go_enter Tryd.func9, Tryd.ntmps9
  go_wp2
  go_loop [5, 1] (fun i q => ∃ j : Nat, j ≤ n ∧ i = .int .i64 j ∧ q = .int .i64 (k + (j : Int))) (fun i _ => n - (intOf i).toNat)
  case atStart => exact ⟨0, by omega, rfl, by simp⟩
  case round =>
    obtain ⟨j, hj, rfl, rfl⟩ := hrel
    by_cases hlt : j < n
    · obtain ⟨b, off, rfl, hb, hc⟩ := HI.out.at_ hlt
      rw [marks_get k n j hlt] at hc
      go_wp2
      go_round
      case rel => exact ⟨j + 1, by omega, by go_num, by first | (congr 1; omega) | go_num⟩
      case measure => simp [intOf]; omega
    · have e : j = n := by omega
      subst e
      go_wp2
      go_ret
      exact ⟨rfl, Below.refl _ _⟩
end Go.Proofs.YtaehldfhjfchhaaDoor
