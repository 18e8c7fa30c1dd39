/- Contracts of the statements' helpers for a slice of slices: it is copied, measured, compared, marked. -/
import Derived.Test.YteeggmnkcgpfjaaGrid
import Derived.Test.YteeggmnkcgpfjaaPf
import Derived.Deep.RegionHeld3
import Derived.Deep.DrawnRows
namespace Go.Proofs.Yteeggmnkcgpfjaa
open Go.RowKit
set_option linter.unusedVariables false
attribute [local go_sem ↓] Go.wp_at_zero Go.wp_at_succ
set_option linter.unusedSimpArgs false

theorem sl_info : (Try.prog.info? 24).map (fun i => (i.zero, i.size, i.bytes)) = some (some (.slice none 0 0), 1, 24) := by kernel_rfl
theorem parts_ofS {t : TypeId} {z : Value} {s b : Nat} (h : (Try.prog.info? t).map (fun i => (i.zero, i.size, i.bytes)) = some (some z, s, b)) : ∃ i, Try.prog.info? t = some i ∧ i.zero = some z ∧ i.size = s ∧ i.bytes = b := by
  cases hi : Try.prog.info? t with
  | none => rw [hi] at h; cases h
  | some i =>
    rw [hi] at h
    simp only [Option.map_some, Option.some.injEq, Prod.mk.injEq] at h
    exact ⟨i, rfl, h.1, h.2.1, h.2.2⟩

/-- the heads of rows -/
def headV (x : Option Addr × Nat × List Int) : Value := .slice x.1 x.2.2.length x.2.1
/-- rows of the call's own: their heads lie in one block, each row in blocks of its own; the first k are made -/
def RowS (W : World) (g n : Nat) (bs : List (Option Addr × Nat × List Int)) : Prop :=
  ∃ vs : List Value, W.ownsRow g 24 1 (.slice (some ⟨g, 0, none⟩) n n) n vs ∧ bs.length ≤ n ∧ (∀ j, j < bs.length → vs[j]? = some (headV (bs.getD j dRow)))
/-- each row in blocks of its own, from B on, one behind the other -/
def Chain (W : World) : Nat → List (Option Addr × Nat × List Int) → Nat → Prop
  | lo, [], hi => lo ≤ hi
  | lo, x :: t, hi => ∃ B, lo ≤ B ∧ Own W lo B x.1 x.2.2.length x.2.1 x.2.2 ∧ Chain W B t hi
theorem Chain.le {W : World} : ∀ {bs : List (Option Addr × Nat × List Int)} {lo hi : Nat}, Chain W lo bs hi → lo ≤ hi
  | [], _, _, h => h
  | _ :: t, _, _, ⟨B, h1, _, h3⟩ => Nat.le_trans h1 (Chain.le h3)
theorem Chain.below {W W' : World} (hb : Below W.heap.size W W') : ∀ {bs : List (Option Addr × Nat × List Int)} {lo hi : Nat}, Chain W lo bs hi → Chain W' lo bs hi
  | [], _, _, h => h
  | _ :: t, _, _, ⟨B, h1, h2, h3⟩ => ⟨B, h1, h2.below hb, h3.below hb⟩
theorem Chain.spared {W W' : World} {l h : Nat} (hs : Spared l h W W') : ∀ {bs : List (Option Addr × Nat × List Int)} {lo hi : Nat}, Chain W lo bs hi → hi ≤ l ∨ h ≤ lo → Chain W' lo bs hi
  | [], _, _, hc, _ => hc
  | _ :: t, _, _, ⟨B, h1, h2, h3⟩, hd => ⟨B, h1, h2.spared hs (by have := h3.le; omega), h3.spared hs (by omega)⟩
theorem Chain.snoc {W : World} {x : Option Addr × Nat × List Int} {B hi : Nat} : ∀ {bs : List (Option Addr × Nat × List Int)} {lo : Nat}, Chain W lo bs B → (hx : Own W B hi x.1 x.2.2.length x.2.1 x.2.2) → B ≤ hi → Chain W lo (bs ++ [x]) hi
  | [], lo, h, hx, hle => ⟨hi, Nat.le_trans h hle, ⟨by
      refine ⟨hx.own.1, ?_⟩
      rcases hx.own.2 with h2 | ⟨g, cap, cur, e1, e2, e3⟩
      · exact .inl h2
      · exact .inr ⟨g, cap, cur, e1, Nat.le_trans h e2, e3⟩, hx.lt⟩, Nat.le_refl _⟩
  | _ :: t, lo, ⟨B1, h1, h2, h3⟩, hx, hle => ⟨B1, h1, h2, Chain.snoc h3 hx hle⟩
theorem Chain.ints {W : World} : ∀ {bs : List (Option Addr × Nat × List Int)} {lo hi : Nat}, Chain W lo bs hi → ∀ k, k < bs.length → Ints W (bs.getD k dRow).1 (bs.getD k dRow).2.2.length (bs.getD k dRow).2.2
  | [], _, _, _, k, hk => absurd hk (by simp)
  | x :: t, _, _, ⟨B, h1, h2, h3⟩, 0, _ => by simpa using h2.ints
  | x :: t, _, _, ⟨B, h1, h2, h3⟩, k + 1, hk => by simpa using Chain.ints h3 k (by simpa using hk)
theorem Chain.wide {W : World} : ∀ {bs : List (Option Addr × Nat × List Int)} {lo hi hi' : Nat}, Chain W lo bs hi → hi ≤ hi' → Chain W lo bs hi'
  | [], _, _, _, h, hle => Nat.le_trans h hle
  | _ :: t, _, _, _, ⟨B, h1, h2, h3⟩, hle => ⟨B, h1, h2, h3.wide hle⟩
/-- the rows from k on stand in blocks behind those of the first k -/
theorem Chain.split {W : World} : ∀ {bs : List (Option Addr × Nat × List Int)} {lo hi : Nat} (k : Nat), Chain W lo bs hi → k < bs.length → ∃ B B', lo ≤ B ∧ B ≤ B' ∧ Chain W lo (bs.take k) B ∧ Own W B B' (bs.getD k dRow).1 (bs.getD k dRow).2.2.length (bs.getD k dRow).2.1 (bs.getD k dRow).2.2 ∧ Chain W B' (bs.drop (k + 1)) hi
  | [], _, _, k, _, hk => absurd hk (by simp)
  | x :: t, lo, _, 0, ⟨B, h1, h2, h3⟩, _ => ⟨lo, B, Nat.le_refl _, h1, Nat.le_refl _, by simpa using h2, by simpa using h3⟩
  | x :: t, lo, _, k + 1, ⟨B, h1, h2, h3⟩, hk => by
    obtain ⟨B1, B2, e1, e2, e3, e4, e5⟩ := Chain.split k h3 (by simpa using hk)
    exact ⟨B1, B2, by omega, e2, ⟨B, h1, h2, by simpa using e3⟩, by simpa using e4, by simpa using e5⟩

/-- rows of the call's own: their heads in block g from lo on, the rows behind it, below hi -/
structure OwnG (W : World) (lo hi : Nat) (R : Option Addr) (r rc : Nat) (bs : List (Option Addr × Nat × List Int)) : Prop where
  row : ∃ g, R = some ⟨g, 0, none⟩ ∧ lo ≤ g ∧ W.ownsRow lo 24 1 (.slice R r rc) r (bs.map headV) ∧ Chain W (g + 1) bs hi
  le : r ≤ 9223372036854775807
theorem own_spared {w w' : World} {lo hi B e s n : Nat} {v : Value} {xs : List Value} (h : w.ownsRow B e s v n xs) (hs : Spared lo hi w w') (hd : ∀ k, v.ownBlock = some k → k < lo ∨ hi ≤ k) : w'.ownsRow B e s v n xs := by
  refine ⟨h.1, ?_⟩
  rcases h.2 with h2 | ⟨g, cap, cur, e1, h4, h5, rest⟩
  · exact .inl h2
  · refine .inr ⟨g, cap, cur, e1, h4, ?_, rest⟩
    have hl := (h.lt g (by subst e1; rfl)).2
    rw [hs.block g hl (hd g (by subst e1; rfl))]
    exact h5
section
variable {W W' : World} {lo hi : Nat} {R : Option Addr} {r rc : Nat} {bs : List (Option Addr × Nat × List Int)}
theorem OwnG.len (h : OwnG W lo hi R r rc bs) : bs.length = r := by
  obtain ⟨g, _, _, h3, _⟩ := h.row
  have := h3.1
  simpa using this
theorem OwnG.below (h : OwnG W lo hi R r rc bs) (hb : Below W.heap.size W W') : OwnG W' lo hi R r rc bs := by
  obtain ⟨g, h1, h2, h3, h4⟩ := h.row
  exact ⟨⟨g, h1, h2, h3.kept (grown_of_below hb) (by cases hv : (Value.slice R r rc).ownBlock <;> simp), h4.below hb⟩, h.le⟩
theorem OwnG.spared {l1 h1 : Nat} (h : OwnG W lo hi R r rc bs) (hs : Spared l1 h1 W W') (hd : hi ≤ l1 ∨ h1 ≤ lo) : OwnG W' lo hi R r rc bs := by
  obtain ⟨g, e1, e2, e3, e4⟩ := h.row
  have := e4.le
  refine ⟨⟨g, e1, e2, own_spared e3 hs ?_, e4.spared hs (by omega)⟩, h.le⟩
  intro k hk
  subst e1
  have e : some g = some k := hk
  injection e with e
  omega
theorem headG (h : W.ownsRow lo 24 1 (.slice R r rc) r (bs.map headV)) {g : Nat} (hR : R = some ⟨g, 0, none⟩) : ∀ k, k < r → W.cell? ⟨g, k, none⟩ = some (headV (bs.getD k dRow)) := by
  intro k hk
  subst hR
  have hl := h.1
  simp only [List.length_map, Nat.mul_one] at hl
  have := h.cellAt k (by omega)
  rw [this, List.getElem?_map, List.getElem?_eq_getElem (by omega), List.getD_eq_getElem?_getD, List.getElem?_eq_getElem (by omega)]
  rfl
theorem OwnG.grid (h : OwnG W lo hi R r rc bs) : Grid W R r bs := by
  have hl := h.len
  obtain ⟨g, e1, e2, e3, e4⟩ := h.row
  refine ⟨hl, h.le, fun hr => ⟨g, 0, e1, ?_, fun k hk => ⟨?_, e4.ints k (by omega)⟩⟩⟩
  · exact (e3.lt g (by subst e1; rfl)).2
  · have := headG e3 e1 k hk
    rw [Nat.zero_add]
    exact this
end

/-- what a slice of slices measures -/
def totR (rs : List (List Int)) : Nat := (rs.map List.length).foldr (· + ·) 0
theorem totR_flat (rs : List (List Int)) : rs.flatten.length = totR rs := by
  induction rs with
  | nil => rfl
  | cons x t ih => simp [totR] at ih ⊢; omega
def totK (bs : List (Option Addr × Nat × List Int)) (k : Nat) : Nat := (flatK bs k).length
set_option maxHeartbeats 1600000 in
theorem szIntSS_any (R : Option Addr) (r rc : Nat) (bs : List (Option Addr × Nat × List Int)) (left : Int) (w : World) (h : Grid w R r bs) (l0 : 0 ≤ left) (l1 : left ≤ 1048576) :
    Calls Try.prog 41 #[.slice R r rc, .int .i64 left] w fun e w' => (∃ m : Int, e = .returned (.int .i64 m) ∧ (m < 0 ∨ (0 ≤ m ∧ (r : Int) + ((flatG bs).length : Int) ≤ left))) ∧ w = w' := by
  have hl := h.len
  subst hl
  have hle := h.le
  have HI := Lib.hid h
  clear h
  by_cases hb : (bs.length : Int) ≤ left
  · go_enter Try.func41, Try.ntmps41
    go_wp2
    go_loop [1, 5] (fun q i => ∃ k : Nat, ∃ m : Int, k ≤ bs.length ∧ i = .int .i64 k ∧ q = .int .i64 m ∧ 0 ≤ m ∧ m + (bs.length : Int) + ((flatK bs k).length : Int) = left) (fun _ i => bs.length - (intOf i).toNat)
    case atStart => exact ⟨0, left - bs.length, by omega, rfl, by go_num, by omega, by rw [flatK_zero]; simp⟩
    case round =>
      obtain ⟨k, m, hk, rfl, rfl, hm, hs⟩ := hrel
      have HS := Lib.hid hs
      have hm2 : m ≤ 1048576 := by omega
      by_cases hlt : k < bs.length
      · obtain ⟨b, off, eR, hb', hc, hrow⟩ := HI.out.at_ hlt
        subst eR
        have hsu : (flatK bs (k + 1)).length = (flatK bs k).length + (bs.getD k dRow).2.2.length := by rw [flatK_succ hlt, List.length_append]
        have hln := hrow.le
        generalize bs.getD k dRow = row at hc hsu hln
        obtain ⟨rA, rC, rz⟩ := row
        simp only at hc hsu hln
        have HU := Lib.hid hsu
        have i1 : (0 : Int) ≤ (k : Int) := by omega
        have i2 : (k : Int) < (bs.length : Int) := by omega
        clear hrow hsu hs
        by_cases hf : (rz.length : Int) ≤ m
        · go_wp2_with (go_at_call 86; refine (szIntS_any _ _ _ _ _ (by omega) (by omega) (by omega)).mono ?_; rintro e w' ⟨rfl, rfl⟩; rw [if_pos (by omega)])
          go_round
          case rel => exact ⟨k + 1, m - rz.length, by omega, by go_num, by go_num, by omega, by have := HS.out; have := HU.out; omega⟩
          case measure => simp [intOf]; omega
        · go_wp2_with (go_at_call 86; refine (szIntS_any _ _ _ _ _ (by omega) (by omega) (by omega)).mono ?_; rintro e w' ⟨rfl, rfl⟩; rw [if_neg (by omega)])
          go_ret
          exact ⟨⟨-1, rfl, .inl (by omega)⟩, rfl⟩
      · have e : k = bs.length := by omega
        subst e
        rw [flatK_all] at hs
        go_wp2
        go_ret
        exact ⟨⟨m, rfl, .inr ⟨hm, by omega⟩⟩, rfl⟩
  · go_enter Try.func41, Try.ntmps41
    go_wp2
    go_ret
    exact ⟨⟨-1, rfl, .inl (by omega)⟩, rfl⟩

set_option maxHeartbeats 1600000 in
theorem eqIntSS_any (R R' : Option Addr) (r rc rc' : Nat) (bs bs' : List (Option Addr × Nat × List Int)) (w : World) (h : Grid w R r bs) (h' : Grid w R' r bs') (he : rowsG bs = rowsG bs') :
    Calls Try.prog 45 #[.slice R r rc, .slice R' r rc'] w fun e w' => e = .returned (.bool true) ∧ Below w.heap.size w w' := by
  have hn := h.le
  have hrow : ∀ k, k < r → (bs.getD k dRow).2.2 = (bs'.getD k dRow).2.2 := fun k _ => by rw [← rowsG_get, ← rowsG_get, he]
  have HE := Lib.hid hrow
  have HI := Lib.hid h
  have HI' := Lib.hid h'
  clear h h' he hrow
  go_enter Try.func45, Try.ntmps45
  go_wp2
  go_loopw [5] (fun i wr => ∃ k : Nat, k ≤ r ∧ i = .int .i64 k ∧ Hid (Below w.heap.size w wr)) (fun i _ => r - (intOf i).toNat)
  case atStart => exact ⟨0, by omega, rfl, Lib.hid (Below.refl _ _)⟩
  case round =>
    obtain ⟨k, hk, rfl, HB⟩ := hrel
    by_cases hlt : k < r
    · obtain ⟨b, off, rfl, hb, hc, h1⟩ := (HI.out.below HB.out).at_ hlt
      obtain ⟨b', off', rfl, hb', hc', h2⟩ := (HI'.out.below HB.out).at_ hlt
      have hl := HE.out k hlt
      generalize bs.getD k dRow = x at hc h1 hl
      generalize bs'.getD k dRow = y at hc' h2 hl
      obtain ⟨xA, xC, xz⟩ := x
      obtain ⟨yA, yC, yz⟩ := y
      simp only at hl
      subst hl
      simp only at hc hc' h1 h2
      have H1 := Lib.hid h1
      have H2 := Lib.hid h2
      have i1 : (0 : Int) ≤ (k : Int) := by omega
      have i2 : (k : Int) < (r : Int) := by omega
      clear h1 h2
      go_wp2_with fail
      go_region_held3 (fun W => W.cell? ⟨b, off + k, none⟩ = some (.slice xA xz.length xC) ∧ W.cell? ⟨b', off' + k, none⟩ = some (.slice yA xz.length yC)) (first | (go_split_ands; (repeat' apply And.intro) <;> first | assumption | exact keepB hb1 (by assumption) | (refine keepS (by simp <;> omega) (keepS (by simp <;> omega) ?_); assumption) | (refine keepS (by simp <;> omega) ?_; assumption) | (refine keepB (belA (Below.refl _ _)) ?_; assumption) | go_keep) | go_keep) ((go_at_call 17; refine (eqIntS_any xA yA xz.length xz.length xC yC xz xz _ (Ints.drew H1.out) (Ints.drew H2.out)).mono ?_; rintro e' w1 ⟨rfl, hb1⟩; rw [decide_eq_true (rfl : xz = xz)]))
      all_goals go_wp2
      all_goals go_roundw
      all_goals first | (simp [intOf]; omega; done) | exact ⟨k + 1, by omega, by go_num, Lib.hid (belT (belD HB.out) hb1)⟩
    · have e : k = r := by omega
      subst e
      go_wp2
      go_ret
      exact ⟨rfl, HB.out⟩

theorem spared_put {W : World} {g k : Nat} {v : Value} : Spared g (g + 1) W (W.setCell ⟨g, k, none⟩ v) :=
  ⟨rfl, rfl, rfl, by simp, fun j hj hd => heap_setCell_other W _ j v (by intro e; subst e; omega)⟩
/-- rows that are being copied: the first k are made -/
structure Copy (W : World) (lo r k : Nat) (bs0 bs : List (Option Addr × Nat × List Int)) : Prop where
  vs : ∃ vs : List Value, W.ownsRow lo 24 1 (.slice (some ⟨lo, 0, none⟩) r r) r vs ∧ ∀ j, j < k → vs[j]? = some (headV (bs.getD j dRow))
  len : bs.length = k
  row : ∀ j, j < k → (bs.getD j dRow).2.2 = (bs0.getD j dRow).2.2
  ch : Chain W (lo + 1) bs W.heap.size
theorem getD_snoc_lt {bs : List (Option Addr × Nat × List Int)} {x : Option Addr × Nat × List Int} {j : Nat} (h : j < bs.length) : (bs ++ [x]).getD j dRow = bs.getD j dRow := by
  rw [List.getD_eq_getElem?_getD, List.getD_eq_getElem?_getD, List.getElem?_append_left h]
theorem getD_snoc_eq {bs : List (Option Addr × Nat × List Int)} {x : Option Addr × Nat × List Int} : (bs ++ [x]).getD bs.length dRow = x := by
  rw [List.getD_eq_getElem?_getD, List.getElem?_concat_length]
  rfl
theorem Copy.at_ {W : World} {lo r k : Nat} {bs0 bs : List (Option Addr × Nat × List Int)} (h : Copy W lo r k bs0 bs) (hk : k < r) : (∃ y, W.cell? ⟨lo, k, none⟩ = some y) ∧ W.frozen? ⟨lo, k, none⟩ = false := by
  obtain ⟨vs, h1, h2⟩ := h.vs
  have hl := h1.1
  refine ⟨⟨vs[k]'(by omega), ?_⟩, h1.frozenAt _⟩
  rw [h1.cellAt k (by omega), List.getElem?_eq_getElem (by omega)]
theorem Copy.step {W W1 : World} {lo r k : Nat} {bs0 bs : List (Option Addr × Nat × List Int)} {x : Option Addr × Nat × List Int} (h : Copy W lo r k bs0 bs) (hb : Below W.heap.size W W1) (hlo : lo < W.heap.size) (hk : k < r)
    (hx : Own W1 W.heap.size W1.heap.size x.1 x.2.2.length x.2.1 x.2.2) (hr : x.2.2 = (bs0.getD k dRow).2.2) :
    Copy (W1.setCell ⟨lo, k, none⟩ (headV x)) lo r (k + 1) bs0 (bs ++ [x]) := by
  obtain ⟨vs, h1, h2⟩ := h.vs
  have hl := h.len
  have h1' : W1.ownsRow lo 24 1 (.slice (some ⟨lo, 0, none⟩) r r) r vs := h1.kept (grown_of_below hb) (by cases hv : (Value.slice (some ⟨lo, 0, none⟩) r r).ownBlock <;> simp)
  have hst := (h1'.stored k (headV x)).1
  have hvl := h1.1
  have hc1 : Chain W1 (lo + 1) (bs ++ [x]) W1.heap.size := Chain.snoc (h.ch.below hb) hx hb.size
  refine ⟨⟨_, hst, fun j hj => ?_⟩, by simp [hl], fun j hj => ?_, ?_⟩
  · rcases Nat.lt_or_ge j k with d | d
    · rw [List.getElem?_set_ne (by omega), getD_snoc_lt (by omega)]
      exact h2 j d
    · have e : j = bs.length := by omega
      rw [show k = bs.length from hl.symm, e, List.getElem?_set_self (by omega), getD_snoc_eq]
  · rcases Nat.lt_or_ge j k with d | d
    · rw [getD_snoc_lt (by omega)]
      exact h.row j d
    · have e : j = bs.length := by omega
      rw [e, getD_snoc_eq, hr, hl]
  · have := hc1.spared (spared_put (g := lo) (k := k) (v := headV x)) (.inr (Nat.le_refl _))
    rwa [show (W1.setCell ⟨lo, k, none⟩ (headV x)).heap.size = W1.heap.size from by simp]
theorem Copy.done {W : World} {lo r : Nat} {bs0 bs : List (Option Addr × Nat × List Int)} (h : Copy W lo r r bs0 bs) (h0 : bs0.length = r) (hr : r ≤ 9223372036854775807) : OwnG W lo W.heap.size (some ⟨lo, 0, none⟩) r r bs ∧ rowsG bs = rowsG bs0 := by
  obtain ⟨vs, h1, h2⟩ := h.vs
  have hvl := h1.1
  have hl := h.len
  refine ⟨⟨⟨lo, rfl, Nat.le_refl _, ?_, h.ch⟩, hr⟩, ?_⟩
  · have e : vs = bs.map headV := by
      apply List.ext_getElem (by simp; omega)
      intro j hj hj'
      have := h2 j (by omega)
      rw [List.getElem?_eq_getElem hj] at this
      injection this with this
      rw [this, List.getElem_map, List.getD_eq_getElem?_getD, List.getElem?_eq_getElem (by omega)]
      rfl
    rw [← e]
    exact h1
  · apply List.ext_getElem (by simp [rowsG]; omega)
    intro j hj hj'
    have := h.row j (by simp [rowsG] at hj; omega)
    rw [← rowsG_get, ← rowsG_get] at this
    simpa [List.getD_eq_getElem?_getD, List.getElem?_eq_getElem hj, List.getElem?_eq_getElem hj'] using this

set_option maxHeartbeats 1600000 in
theorem toIntSS_any (R : Option Addr) (r rc : Nat) (bs : List (Option Addr × Nat × List Int)) (w : World) (h : Grid w R r bs) (hr : r ≤ 1048576) (hf : (flatG bs).length ≤ 1048576) :
    Calls Try.prog 43 #[.slice R r rc] w fun e w' => ∃ bs', e = .returned (.slice (some ⟨w.heap.size, 0, none⟩) r r) ∧ rowsG bs' = rowsG bs ∧ OwnG w' w.heap.size w'.heap.size (some ⟨w.heap.size, 0, none⟩) r r bs' ∧ Below w.heap.size w w' := by
  obtain ⟨i0, hi, hz0, hz1, hz2⟩ := parts_ofS sl_info
  have hl := h.len
  have HL := Lib.hid hl
  have HI := Lib.hid h
  have HF : Hid (∀ k, k < r → (bs.getD k dRow).2.2.length ≤ 1048576) := Lib.hid fun k hk => by
    have h1 := flatK_le bs (k + 1)
    rw [flatK_succ (by omega), List.length_append] at h1
    omega
  clear h hl
  go_enter Try.func43, Try.ntmps43
  go_wp2_with (at_make; refine wpList_make_full _ rfl _ _ 57 rfl w.heap.size 24 i0 (.slice none 0 0) 1 Try.underlying57 hi hz0 hz1 .i64 .i64 _ _ r rfl rfl rfl rfl (by rw [hz2]; omega) (by simp only [maxLen]; omega) (Nat.le_refl _) ?_; intro w1 hown hg)
  have hw0 : Below w.heap.size w w1 := (Below.refl _ _).grown hg (Nat.le_refl _) (by intro k hk; cases hk)
  have hsz : w.heap.size < w1.heap.size := (hown.lt w.heap.size rfl).2
  have H0 : Hid (Copy w1 w.heap.size r 0 bs []) := Lib.hid ⟨⟨_, hown, fun j hj => absurd hj (by omega)⟩, rfl, fun j hj => absurd hj (by omega), by show _ ≤ _; omega⟩
  have HZ := Lib.hid hsz
  clear hown hg hsz
  go_loopw [4] (fun i wr => ∃ (k : Nat) (xs : List (Option Addr × Nat × List Int)), k ≤ r ∧ i = .int .i64 k ∧ Hid (Copy wr w.heap.size r k bs xs) ∧ Hid (Below w.heap.size w wr) ∧ w.heap.size < wr.heap.size) (fun i _ => r - (intOf i).toNat)
  case atStart => exact ⟨0, [], by omega, rfl, H0, Lib.hid hw0, HZ.out⟩
  case round =>
    obtain ⟨k, xs, hk, rfl, HO, HB, hzr⟩ := hrel
    by_cases hlt : k < r
    · obtain ⟨b, off, eR, hb, hc, hrow⟩ := (HI.out.below HB.out).at_ hlt
      subst eR
      have hln := HF.out k hlt
      have HEQ := Lib.hid (rfl : (bs.getD k dRow).2.2 = (bs.getD k dRow).2.2)
      generalize hx : bs.getD k dRow = row at hc hrow hln
      have HX := Lib.hid hx
      obtain ⟨rA, rC, rz⟩ := row
      simp only at hc hrow hln
      have HR := Lib.hid hrow
      have i1 : (0 : Int) ≤ (k : Int) := by omega
      have i2 : (k : Int) < (r : Int) := by omega
      clear hrow hx HEQ
      go_wp2_with fail
      refine (toIntS_any rA rz.length rC rz _ HR.out (by omega)).mono ?_
      rintro e w2 ⟨A2, c2, rfl, ho2, hb2⟩
      have hz2' := hb2.size
      have HST := Lib.hid (HO.out.step (x := (A2, c2, rz)) hb2 hzr hlt (Own.mk' ho2) (by rw [HX.out]))
      obtain ⟨⟨y, f1⟩, f2⟩ := (HO.out.at_ hlt)
      replace f1 := keepB hb2 f1
      have f2' : w2.frozen? ⟨w.heap.size, k, none⟩ = false := (hb2.frozen (p := ⟨w.heap.size, k, none⟩) (by simpa using hzr)).trans f2
      have HB2 := Lib.hid (belT HB.out hb2)
      clear ho2 hb2 f2 hc
      simp only [headV] at HST
      go_wp2
      go_roundw
      case rel => exact ⟨k + 1, _, by omega, by go_num, HST, Lib.hid (belS HB2.out (by simp)), by simp; omega⟩
      case measure => simp [intOf]; omega
    · have e : k = r := by omega
      subst e
      have hd := HO.out.done HL.out (by omega)
      go_wp2
      go_ret
      exact ⟨xs, rfl, hd.2, hd.1, HB.out⟩

set_option maxHeartbeats 1600000 in
theorem markIntSS_any (g r rc : Nat) (bs : List (Option Addr × Nat × List Int)) (k0 : Int) (lo hi : Nat) (w : World) (h : OwnG w lo hi (some ⟨g, 0, none⟩) r rc bs) (hf : (flatG bs).length ≤ 1048576) (hk0 : 0 ≤ k0) (hk1 : k0 ≤ 1000000000000000000) :
    Calls Try.prog 46 #[.slice (some ⟨g, 0, none⟩) r rc, .int .i64 k0] w fun e w' => e = .returned (.int .i64 (k0 + ((flatG bs).length : Int))) ∧ Spared lo hi w w' := by
  have hl := h.len
  subst hl
  have hle := h.le
  obtain ⟨g', e1, e2, e3, e4⟩ := h.row
  injection e1 with e1
  injection e1 with e1 _
  subst e1
  have HH := Lib.hid (headG e3 rfl)
  have HC := Lib.hid e4
  have HE := Lib.hid e3
  clear h e3 e4
  go_enter Try.func46, Try.ntmps46
  go_wp2
  go_loopw [5, 1] (fun i q wr => ∃ k : Nat, k ≤ bs.length ∧ i = .int .i64 k ∧ q = .int .i64 (k0 + ((flatK bs k).length : Int)) ∧ Hid (Spared (g + 1) hi w wr) ∧ Hid (∃ B, g + 1 ≤ B ∧ Chain wr B (bs.drop k) hi)) (fun i _ _ => bs.length - (intOf i).toNat)
  case atStart => exact ⟨0, by omega, rfl, by simp [flatK_zero], Lib.hid (Spared.of_below (Below.refl _ _)), Lib.hid ⟨g + 1, Nat.le_refl _, HC.out⟩⟩
  case round =>
    obtain ⟨k, hk, rfl, rfl, HS, HD⟩ := hrel
    by_cases hlt : k < bs.length
    · obtain ⟨B, hB, hch⟩ := HD.out
      have hc : wr.cell? ⟨g, k, none⟩ = some (headV (bs.getD k dRow)) := HS.out.cell (HH.out k hlt) (.inl (Nat.lt_succ_self _))
      have ed : bs.drop k = bs.getD k dRow :: bs.drop (k + 1) := by rw [List.getD_eq_getElem?_getD, List.getElem?_eq_getElem hlt]; exact List.drop_eq_getElem_cons hlt
      rw [ed] at hch
      obtain ⟨B', hB', ho, hch'⟩ := hch
      have hsu : (flatK bs (k + 1)).length = (flatK bs k).length + (bs.getD k dRow).2.2.length := by rw [flatK_succ hlt, List.length_append]
      have hfl := flatK_le bs (k + 1)
      have hle2 := hch'.le
      rw [hsu] at hfl
      have HCH := Lib.hid hch'
      generalize bs.getD k dRow = row at hc ho hsu hfl
      obtain ⟨rA, rC, rz⟩ := row
      simp only [headV] at hc ho hsu hfl
      have HO := Lib.hid ho
      have HU := Lib.hid hsu
      have i1 : (0 : Int) ≤ (k : Int) := by omega
      have i2 : (k : Int) < (bs.length : Int) := by omega
      generalize (flatK bs k).length = fk at hfl HU
      clear ho hsu hch' ed
      go_wp2_with fail
      refine (markIntS_any rA rz.length rC rz (k0 + (fk : Int)) B B' _ HO.out (by omega) (by omega) (by omega)).mono ?_
      rintro e w2 ⟨rfl, ho2, hg2⟩
      have s2 : Spared B B' wr w2 := Spared.of_grown hg2 (fun b hb => ⟨(ho2.own.lt b hb).1, ho2.lt b hb⟩)
      have HS2 := Lib.hid (HS.out.trans (s2.wide (by omega) (by omega)))
      have HD2 := Lib.hid (show ∃ B, g + 1 ≤ B ∧ Chain w2 B (bs.drop (k + 1)) hi from ⟨B', by omega, HCH.out.spared s2 (.inr (Nat.le_refl _))⟩)
      clear ho2 hg2 s2 hc
      go_wp2
      go_roundw
      case rel => exact ⟨k + 1, by omega, by go_num, by rw [HU.out]; first | (congr 1; omega) | go_num, HS2, HD2⟩
      case measure => simp [intOf]; omega
    · have e : k = bs.length := by omega
      subst e
      have HFA := Lib.hid (flatK_all bs)
      go_wp2
      go_ret
      exact ⟨ret_int (by rw [HFA.out]), HS.out.wide (by omega) (Nat.le_refl _)⟩
/-- the blocks of an argument's rows lie below B -/
def LowG (B : Nat) (R : Option Addr) (r : Nat) (bs : List (Option Addr × Nat × List Int)) : Prop :=
  (∀ b off, R = some ⟨b, off, none⟩ → 0 < r → b < B) ∧ ∀ k, k < r → ∀ b off, (bs.getD k dRow).1 = some ⟨b, off, none⟩ → 0 < (bs.getD k dRow).2.2.length → b < B
theorem Grid.low {w : World} {R : Option Addr} {r : Nat} {bs : List (Option Addr × Nat × List Int)} (h : Grid w R r bs) : LowG w.heap.size R r bs := by
  refine ⟨fun b off e hr => ?_, fun k hk => Ints.base (h.row hk)⟩
  obtain ⟨b', off', e', hb, _⟩ := h.2.2 hr
  rw [e] at e'
  injection e' with e'
  injection e' with e1 e2
  subst e1
  exact hb
theorem Spared.grid {lo hi B : Nat} {w w' : World} {R : Option Addr} {r : Nat} {bs : List (Option Addr × Nat × List Int)} (hs : Spared lo hi w w') (h : Grid w R r bs) (hl : LowG B R r bs) (hB : B ≤ lo) : Grid w' R r bs := by
  refine ⟨h.1, h.2.1, fun hr => ?_⟩
  obtain ⟨b, off, e, hb, hc⟩ := h.2.2 hr
  have hlt := hl.1 b off e hr
  refine ⟨b, off, e, Nat.lt_of_lt_of_le hb hs.size, fun k hk => ⟨hs.cell (hc k hk).1 (.inl (by omega)), hs.ints (hc k hk).2 (fun b' off' e' h0 => by have := hl.2 k hk b' off' e' h0; omega)⟩⟩
end Go.Proofs.Yteeggmnkcgpfjaa
