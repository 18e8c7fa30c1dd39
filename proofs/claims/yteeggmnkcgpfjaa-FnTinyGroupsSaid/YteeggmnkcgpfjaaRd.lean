/- Contracts of the reader of lists. -/
import Derived.Test.YteeggmnkcgpfjaaRdN
import Derived.Test.YteeggmnkcgpfjaaBy
namespace Go.Proofs.Yteeggmnkcgpfjaa
open Go.RowKit
set_option linter.unusedVariables false
set_option linter.unusedSimpArgs false

/-- what a slice's capacity is -/
def Caps (A : Option Addr) (n c : Nat) : Prop := n ≤ c ∧ c ≤ 9223372036854775807 ∧ ((A = none ∧ c = 0) ∨ ∃ g off, A = some ⟨g, off, none⟩)
theorem Own.caps {w : World} {lo hi : Nat} {A : Option Addr} {n c : Nat} {zs : List Int} (h : Own w lo hi A n c zs) : Caps A n c := by
  rcases h.own.2 with ⟨h1, h2⟩ | ⟨g, cap, cur, h1, h2, h3, h4, h5, _⟩
  · injection h1 with e1 e2 e3
    exact ⟨by omega, by omega, .inl ⟨e1, e3⟩⟩
  · injection h1 with e1 e2 e3
    subst e3
    exact ⟨h4, by unfold maxLen at h5; omega, .inr ⟨g, 0, e1⟩⟩
/-- .. and that it stands -/
def CapW (w : World) (A : Option Addr) (n c : Nat) : Prop := Caps A n c ∧ ∀ a, A = some a → a.block < w.heap.size
theorem Own.capw {w : World} {lo hi : Nat} {A : Option Addr} {n c : Nat} {zs : List Int} (h : Own w lo hi A n c zs) : CapW w A n c := by
  refine ⟨h.caps, fun a e => ?_⟩
  rcases h.own.2 with ⟨h1, h2⟩ | ⟨g, cap, cur, h1, h2, h3, _⟩
  · injection h1 with e1 e2 e3
    rw [e1] at e
    cases e
  · injection h1 with e1 e2 e3
    rw [e1] at e
    injection e with e
    subst e
    exact (Array.getElem?_eq_some_iff.1 h3).1
/-- a reader's box: a slice that stands in older memory, a truth value -/
def RD (W : World) (b : Nat) (zs : List Int) (ok : Bool) : Prop :=
  ∃ A c, W.cell? ⟨b, 0, none⟩ = some (.slice A zs.length c) ∧ W.cell? ⟨b, 1, none⟩ = some (.bool ok) ∧ W.frozen? ⟨b, 0, none⟩ = false ∧ W.frozen? ⟨b, 1, none⟩ = false ∧ Ints W A zs.length zs ∧ Caps A zs.length c ∧ ∀ a, A = some a → a.block < b
theorem RD.lt {W : World} {b : Nat} {zs : List Int} {ok : Bool} (h : RD W b zs ok) : b < W.heap.size := by
  obtain ⟨A, c, h1, _⟩ := h
  exact World.block_lt_of_cell? _ _ h1
theorem RD.keep {B : Nat} {W W' : World} {b : Nat} {zs : List Int} {ok : Bool} (h : RD W b zs ok) (hb : Below B W W') (hB : b < B) : RD W' b zs ok := by
  have hlt := h.lt
  obtain ⟨A, c, h1, h2, h3, h4, h5, h6, h7⟩ := h
  refine ⟨A, c, (hb.cell (p := ⟨b, 0, none⟩) hB).trans h1, (hb.cell (p := ⟨b, 1, none⟩) hB).trans h2, (hb.frozen (p := ⟨b, 0, none⟩) hB).trans h3, (hb.frozen (p := ⟨b, 1, none⟩) hB).trans h4, ?_, h6, h7⟩
  refine ⟨h5.1, h5.2.1, fun hn => ?_⟩
  obtain ⟨g, off, e, hg, hc⟩ := h5.2.2 hn
  have hgb := h7 _ e
  exact ⟨g, off, e, Nat.lt_of_lt_of_le hg hb.size, fun k hk => (hb.cell (p := ⟨g, off + k, none⟩) (Nat.lt_trans hgb hB)).trans (hc k hk)⟩
theorem RD.below {W W' : World} {b : Nat} {zs : List Int} {ok : Bool} (h : RD W b zs ok) (hb : Below W.heap.size W W') : RD W' b zs ok := h.keep hb h.lt
/-- an older slice stays behind a store into the box -/
theorem Ints.box {W : World} {A : Option Addr} {n b i : Nat} {zs : List Int} {v : Value} (h : Ints W A n zs) (hA : ∀ a, A = some a → a.block < b) : Ints (W.setCell ⟨b, i, none⟩ v) A n zs := by
  refine ⟨h.1, h.2.1, fun hn => ?_⟩
  obtain ⟨g, off, e, hg, hc⟩ := h.2.2 hn
  have := hA _ e
  exact ⟨g, off, e, by simpa using hg, fun k hk => keepS (by simp at this ⊢; omega) (hc k hk)⟩
theorem RD.put {W : World} {b : Nat} {zs zs' : List Int} {ok : Bool} {A : Option Addr} {n c : Nat} (h : RD W b zs ok) (hI : Ints W A n zs') (hc : Caps A n c) (hA : ∀ a, A = some a → a.block < b) :
    RD (W.setCell ⟨b, 0, none⟩ (.slice A n c)) b zs' ok := by
  have hl := hI.len
  subst hl
  obtain ⟨A0, c0, h1, h2, h3, h4, _⟩ := h
  exact ⟨A, c, World.cell?_setCell_same _ _ _ h1, (World.cell?_setCell_other _ _ _ _ (by simp)).trans h2, by rw [World.frozen?_setCell]; exact h3, by rw [World.frozen?_setCell]; exact h4, hI.box hA, hc, hA⟩
theorem RD.mark {W : World} {b : Nat} {zs : List Int} {ok : Bool} (h : RD W b zs ok) (ok' : Bool) : RD (W.setCell ⟨b, 1, none⟩ (.bool ok')) b zs ok' := by
  obtain ⟨A, c, h1, h2, h3, h4, h5, h6, h7⟩ := h
  exact ⟨A, c, (World.cell?_setCell_other _ _ _ _ (by simp)).trans h1, World.cell?_setCell_same _ _ _ h2, by rw [World.frozen?_setCell]; exact h3, by rw [World.frozen?_setCell]; exact h4, h5.box h7, h6, h7⟩
theorem RD.new {W : World} {A : Option Addr} {n c : Nat} {zs : List Int} {ok : Bool} {T : TypeId} (hI : Ints W A n zs) (hc : Caps A n c) (hA : ∀ a, A = some a → a.block < W.heap.size) : RD (W.alloc (.cells #[.slice A n c, .bool ok] T)) W.heap.size zs ok := by
  have hl := hI.len
  subst hl
  refine ⟨A, c, ?_, ?_, ?_, ?_, hI.below (belA (Below.refl _ _)), hc, hA⟩
  · rw [World.cell?_alloc_at _ _ _ _ (by simp)]; rfl
  · rw [World.cell?_alloc_at _ _ _ _ (by simp)]; rfl
  · simp
  · simp
theorem Ints.take {w : World} {A : Option Addr} {n k : Nat} {zs : List Int} (h : Ints w A n zs) (hk : k ≤ n) : Ints w A k (zs.take k) := by
  refine ⟨by rw [List.length_take, h.len]; omega, by have := h.le; omega, fun h0 => ?_⟩
  obtain ⟨b, off, e, hb, hc⟩ := h.2.2 (by omega)
  refine ⟨b, off, e, hb, fun j hj => ?_⟩
  rw [List.getD_eq_getElem?_getD, List.getElem?_take_of_lt hj, ← List.getD_eq_getElem?_getD]
  exact hc j (by omega)
theorem Ints.drop {w : World} {b off n k : Nat} {zs : List Int} (h : Ints w (some ⟨b, off, none⟩) n zs) (hk : k ≤ n) : Ints w (some ⟨b, off + k, none⟩) (n - k) (zs.drop k) := by
  refine ⟨by rw [List.length_drop, h.len], by have := h.le; omega, fun h0 => ?_⟩
  obtain ⟨b', off', e, hb, hc⟩ := h.2.2 (by omega)
  injection e with e
  injection e with e1 e2
  subst e1 e2
  refine ⟨b, off + k, rfl, hb, fun j hj => ?_⟩
  rw [List.getD_eq_getElem?_getD, List.getElem?_drop, ← List.getD_eq_getElem?_getD, show off + k + j = off + (k + j) from by omega]
  exact hc (k + j) (by omega)

theorem grown_set (W : World) (b i : Nat) (v : Value) : W.grownBy (W.setCell ⟨b, i, none⟩ v) (some b) :=
  ⟨rfl, rfl, rfl, by simp, fun k hk hne => heap_setCell_other W _ k v (by intro e; subst e; exact hne rfl)⟩
theorem grown_any {W W' : World} {row : Option Nat} (h : W.grownBy W' none) : W.grownBy W' row := ⟨h.os, h.tape, h.output, h.size, fun k hk _ => h.block k hk (by simp)⟩
theorem grown_bel {W W' : World} {row : Option Nat} (h : Below W.heap.size W W') : W.grownBy W' row := grown_any (grown_of_below h)
theorem bel_of_grown {a W W' : World} {B b : Nat} (h : Below B a W) (hg : W.grownBy W' (some b)) (hB : B ≤ b) (hb : b ≤ W.heap.size) : Below B a W' :=
  h.grown hg (by omega) (fun k hk => by injection hk with hk; omega)
theorem own_set {w : World} {B e s n b i : Nat} {v u : Value} {xs : List Value} (h : w.ownsRow B e s v n xs) (hb : b < B) : (w.setCell ⟨b, i, none⟩ u).ownsRow B e s v n xs :=
  h.kept (grown_set w b i u) (by
    cases hv : v.ownBlock with
    | none => exact .inl rfl
    | some k => exact .inr (by intro e; injection e with e; have := (h.lt k hv).1; omega))
set_option maxHeartbeats 800000 in
theorem next_any (b : Nat) (zs : List Int) (ok : Bool) (W : World) (h : RD W b zs ok) :
    Calls Try.prog 81 #[.pointer (some ⟨b, 0, none⟩)] W fun e W' => e = .returned (.int .i64 (zs.headD 0)) ∧ RD W' b zs.tail (ok && decide (0 < zs.length)) ∧ W.grownBy W' (some b) := by
  have hlt := h.lt
  have HR := Lib.hid h
  obtain ⟨A, c, h1, h2, h3, h4, h5, h6, h7⟩ := h
  have H5 := Lib.hid h5
  have H67 := Lib.hid (And.intro h6 h7)
  clear h5 h6 h7
  cases zs with
  | nil =>
    simp only [List.length_nil] at h1 H5 H67
    go_enter Try.func81, Try.ntmps81
    go_wp2
    go_ret
    refine ⟨rfl, ?_, grown_set _ _ _ _⟩
    have := HR.out.mark false
    simpa using this
  | cons z t =>
    obtain ⟨g, off, e, hg, hc⟩ := H5.out.2.2 (by simp)
    subst e
    have hz := hc 0 (by simp)
    rw [Nat.add_zero, show (z :: t).getD 0 0 = z from rfl] at hz
    obtain ⟨⟨c1, c2, c3⟩, hA⟩ := H67.out
    have hgb := hA _ rfl
    simp only [List.length_cons] at h1 c1 hgb
    have hn9 := H5.out.le
    simp only [List.length_cons] at hn9
    have HD := Lib.hid (H5.out.drop (k := 1) (by simp))
    by_cases hc1 : c = 1
    · subst hc1
      go_enter Try.func81, Try.ntmps81
      go_wp2
      go_ret
      refine ⟨rfl, ?_, grown_set _ _ _ _⟩
      have ht : t = [] := List.eq_nil_of_length_eq_zero (by omega)
      subst ht
      have := HR.out.put (Ints.nil W (some ⟨g, off, none⟩)) (c := 0) ⟨by omega, by omega, .inr ⟨_, _, rfl⟩⟩ hA
      simpa using this
    · go_enter Try.func81, Try.ntmps81
      go_wp2
      go_ret
      refine ⟨rfl, ?_, grown_set _ _ _ _⟩
      have hI2 : Ints W (some ⟨g, off + 1, none⟩) t.length t := by simpa using HD.out
      have := HR.out.put hI2 (c := c - 1) ⟨by omega, by omega, .inr ⟨_, _, rfl⟩⟩ (fun a e => by injection e with e; subst e; exact hgb)
      simpa using this
theorem takeL_next (zs : List Int) (ok : Bool) (m : Nat) (h : zs.headD 0 = (m : Int)) (hm : m ≤ zs.tail.length) : takeL zs ok = (zs.tail.take m, zs.tail.drop m, ok && decide (0 < zs.length)) := by
  cases zs with
  | nil => simp [takeL_nil]
  | cons n t =>
    have hn : n = (m : Int) := h
    subst hn
    rw [takeL_yes ok (by omega) (by simp at hm; omega)]
    simp
theorem takeL_stop (zs : List Int) (ok : Bool) (h : zs.headD 0 < 0 ∨ (zs.tail.length : Int) < zs.headD 0) : takeL zs ok = ([], zs.tail, false) := by
  cases zs with
  | nil => simp at h
  | cons n t => exact takeL_no ok h
set_option maxHeartbeats 1600000 in
theorem list_any (b : Nat) (zs : List Int) (ok : Bool) (W : World) (h : RD W b zs ok) (hn : zs.length ≤ 1000000000) :
    Calls Try.prog 78 #[.pointer (some ⟨b, 0, none⟩)] W fun e W' => (∃ A' c', e = .returned (.slice A' (takeL zs ok).1.length c') ∧ W'.ownsRow W.heap.size 3 1 (.slice A' (takeL zs ok).1.length c') (takeL zs ok).1.length ((takeL zs ok).1.map (Value.int .i64))) ∧ RD W' b (takeL zs ok).2.1 (takeL zs ok).2.2 ∧ W.grownBy W' (some b) := by
  have hlt := h.lt
  have HN := Lib.hid (next_any b zs ok W h)
  have htl : zs.tail.length ≤ zs.length := by simp
  clear h
  by_cases hh : 0 ≤ zs.headD 0 ∧ zs.headD 0 ≤ (zs.tail.length : Int)
  · obtain ⟨m, hm⟩ := Int.eq_ofNat_of_zero_le hh.1
    have hmt : m ≤ zs.tail.length := by omega
    have HT := Lib.hid (takeL_next zs ok m hm hmt)
    rw [HT.out]
    have hin : inB (m : Int) 0 (zs.tail.length : Int) = true := inB_mk (by omega) (by omega)
    have hlm : (zs.tail.take m).length = m := by rw [List.length_take]; omega
    rw [hlm]
    have HN2 := HN.out
    rw [hm] at HN2
    generalize (ok && decide (0 < zs.length)) = ok1 at HN2 ⊢
    generalize zs.tail = t at HN2 hmt hin htl ⊢
    have HNX := Lib.hid HN2
    clear HN2 HN hh HT hm hlm
    go_enter Try.func78, Try.ntmps78
    go_wp2_with fail
    refine HNX.out.mono ?_
    rintro e w1 ⟨rfl, hr, hb1⟩
    have HR := Lib.hid hr
    have HB1 := Lib.hid hb1
    have hlt1 := hr.lt
    obtain ⟨A, c, h1, h2, h3, h4, h5, ⟨c1, c2, c3⟩, h7⟩ := hr
    have H5 := Lib.hid h5
    have H7 := Lib.hid h7
    clear hb1 h5 h7
    have i1 : (m : Int) ≤ (t.length : Int) := by omega
    have i2 : (t.length : Int) ≤ (c : Int) := by omega
    have i3 : (m : Int) ≤ (c : Int) := by omega
    have i4 : (c : Int) ≤ 9223372036854775807 := by omega
    rcases c3 with ⟨rfl, rfl⟩ | ⟨g, off, rfl⟩
    · have ht : t = [] := List.eq_nil_of_length_eq_zero (by omega)
      subst ht
      have hm0 : m = 0 := by simpa using hmt
      subst hm0
      have hin0 : inB 0 0 0 = true := by decide
      go_wp2_with (first | (go_at_call 70; refine (within_any _ _ _ _).mono ?_; rintro e w' ⟨rfl, rfl⟩; rw [hin0]) | (go_at_call 121; refine (Clone_any _ _ _ [] _ (Ints.nil w1 none) (by omega)).mono ?_; rintro e w2 ⟨A2, c2, rfl, ho2, hb2⟩; have HO2 := Lib.hid ho2; have HB2 := Lib.hid hb2; replace h1 := keepB hb2 h1; replace h2 := keepB hb2 h2; replace h3 := (hb2.frozen (p := ⟨b, 0, none⟩) hlt1).trans h3; replace h4 := (hb2.frozen (p := ⟨b, 1, none⟩) hlt1).trans h4; have HR2 := Lib.hid (HR.out.below hb2); have hlt2 : b < w2.heap.size := Nat.lt_of_lt_of_le hlt1 hb2.size; clear ho2 hb2))
      go_ret
      refine ⟨⟨A2, c2, rfl, ownDown (own_set HO2.out hlt1) (HB1.out.size)⟩, ?_, (HB1.out.trans (grown_bel HB2.out)).trans (grown_set _ _ _ _)⟩
      have := HR2.out.put (Ints.nil w2 none) (c := 0) ⟨by omega, by omega, .inl ⟨rfl, rfl⟩⟩ (by simp)
      simpa using this
    · have HT1 := Lib.hid (H5.out.take hmt)
      have HT2 := Lib.hid (H5.out.drop hmt)
      have hgb := H7.out _ rfl
      simp only at hgb
      by_cases hcm : c = m
      · subst hcm
        have hd : t.drop c = [] := List.drop_of_length_le (by omega)
        go_wp2_with (first | (go_at_call 70; refine (within_any _ _ _ _).mono ?_; rintro e w' ⟨rfl, rfl⟩; rw [hin]) | (go_at_call 121; refine (Clone_any _ _ _ (t.take c) _ HT1.out (by omega)).mono ?_; rintro e w2 ⟨A2, c2, rfl, ho2, hb2⟩; have HO2 := Lib.hid ho2; have HB2 := Lib.hid hb2; replace h1 := keepB hb2 h1; replace h2 := keepB hb2 h2; replace h3 := (hb2.frozen (p := ⟨b, 0, none⟩) hlt1).trans h3; replace h4 := (hb2.frozen (p := ⟨b, 1, none⟩) hlt1).trans h4; have HR2 := Lib.hid (HR.out.below hb2); have hlt2 : b < w2.heap.size := Nat.lt_of_lt_of_le hlt1 hb2.size; clear ho2 hb2))
        go_ret
        refine ⟨⟨A2, c2, rfl, ownDown (own_set HO2.out hlt1) (HB1.out.size)⟩, ?_, (HB1.out.trans (grown_bel HB2.out)).trans (grown_set _ _ _ _)⟩
        rw [hd]
        have ht0 : t.length - c = 0 := by omega
        try rw [ht0]
        exact HR2.out.put (Ints.nil w2 (some ⟨g, off, none⟩)) (c := 0) ⟨by omega, by omega, .inr ⟨_, _, rfl⟩⟩ (fun a e => by injection e with e; subst e; exact hgb)
      · go_wp2_with (first | (go_at_call 70; refine (within_any _ _ _ _).mono ?_; rintro e w' ⟨rfl, rfl⟩; rw [hin]) | (go_at_call 121; refine (Clone_any _ _ _ (t.take m) _ HT1.out (by omega)).mono ?_; rintro e w2 ⟨A2, c2, rfl, ho2, hb2⟩; have HO2 := Lib.hid ho2; have HB2 := Lib.hid hb2; replace h1 := keepB hb2 h1; replace h2 := keepB hb2 h2; replace h3 := (hb2.frozen (p := ⟨b, 0, none⟩) hlt1).trans h3; replace h4 := (hb2.frozen (p := ⟨b, 1, none⟩) hlt1).trans h4; have HR2 := Lib.hid (HR.out.below hb2); have hlt2 : b < w2.heap.size := Nat.lt_of_lt_of_le hlt1 hb2.size; clear ho2 hb2))
        go_ret
        refine ⟨⟨A2, c2, rfl, ownDown (own_set HO2.out hlt1) (HB1.out.size)⟩, ?_, (HB1.out.trans (grown_bel HB2.out)).trans (grown_set _ _ _ _)⟩
        exact HR2.out.put (HT2.out.below HB2.out) (c := c - m) ⟨by omega, by omega, .inr ⟨_, _, rfl⟩⟩ (fun a e => by injection e with e; subst e; exact hgb)
  · have hh' : zs.headD 0 < 0 ∨ (zs.tail.length : Int) < zs.headD 0 := by omega
    have hin : inB (zs.headD 0) 0 (zs.tail.length : Int) = false := inB_no hh'
    have HT := Lib.hid (takeL_stop zs ok hh')
    rw [HT.out]
    generalize (ok && decide (0 < zs.length)) = ok1 at HN
    generalize zs.tail = t at HN hin htl ⊢
    generalize zs.headD 0 = n at HN hin
    clear hh hh' HT
    go_enter Try.func78, Try.ntmps78
    go_wp2_with fail
    refine HN.out.mono ?_
    rintro e w1 ⟨rfl, hr, hb1⟩
    have HR := Lib.hid hr
    have HB1 := Lib.hid hb1
    have hlt1 := hr.lt
    obtain ⟨A, c, h1, h2, h3, h4, h5, _, _⟩ := hr
    have hle := h5.le
    clear hb1 h5
    go_wp2_with (go_at_call 70; refine (within_any _ _ _ _).mono ?_; rintro e w' ⟨rfl, rfl⟩; rw [hin])
    go_ret
    exact ⟨⟨none, 0, rfl, own_nil _ _⟩, HR.out.mark false, HB1.out.trans (grown_set _ _ _ _)⟩
set_option maxHeartbeats 800000 in
theorem ends_any (b : Nat) (zs : List Int) (ok : Bool) (W : World) (h : RD W b zs ok) :
    Calls Try.prog 79 #[.pointer (some ⟨b, 0, none⟩)] W fun e W' => e = .returned (.bool (ok && decide (zs.length = 0))) ∧ W = W' := by
  have hlt := h.lt
  obtain ⟨A, c, h1, h2, h3, h4, h5, h6, h7⟩ := h
  have hle := h5.le
  clear h5 h6 h7
  generalize zs.length = n at h1 hle ⊢
  cases ok
  · go_enter Try.func79, Try.ntmps79
    go_wp2
    go_ret
    exact ⟨rfl, rfl⟩
  · by_cases hn : n = 0
    · subst hn
      go_enter Try.func79, Try.ntmps79
      go_wp2
      go_ret
      exact ⟨rfl, rfl⟩
    · have hd : ((n : Int) == 0) = false := by simp; omega
      have HN := Lib.hid hn
      clear hn
      go_enter Try.func79, Try.ntmps79
      go_wp2
      go_ret
      exact ⟨ret_bool (by rw [decide_eq_false HN.out]; rfl), rfl⟩
end Go.Proofs.Yteeggmnkcgpfjaa
