/- Contracts of both sides: DecodeProof. -/
import Derived.Test.YteeggmnkcgpfjaaRd
import Derived.Test.YteeggmnkcgpfjaaPf
import Derived.Deep.RegionHeld3
import Derived.Deep.DrawnRows
namespace Go.Proofs.Yteeggmnkcgpfjaa
open Go.RowKit
set_option linter.unusedVariables false
attribute [local go_sem ↓] Go.wp_at_zero Go.wp_at_succ
set_option linter.unusedSimpArgs false

theorem Own.moved {w w' : World} {lo hi b : Nat} {A : Option Addr} {n c : Nat} {zs : List Int} (h : Own w lo hi A n c zs) (hg : w.grownBy w' (some b)) (hb : b < lo) : Own w' lo hi A n c zs :=
  h.grown hg (fun k hk => by injection hk with hk; omega)
theorem Own.low {w : World} {lo lo' hi : Nat} {A : Option Addr} {n c : Nat} {zs : List Int} (h : Own w lo hi A n c zs) (hl : lo' ≤ lo) : Own w lo' hi A n c zs := ⟨ownDown h.own hl, h.lt⟩
theorem Own.top {w : World} {lo hi hi' : Nat} {A : Option Addr} {n c : Nat} {zs : List Int} (h : Own w lo hi A n c zs) (hh : hi ≤ hi') : Own w lo hi' A n c zs := ⟨h.own, fun k hk => Nat.lt_of_lt_of_le (h.lt k hk) hh⟩
/-- a box of three cells that may be written -/
structure Room3 (W : World) (b : Nat) : Prop where
  c : ∃ x y z : Value, W.cell? ⟨b, 0, none⟩ = some x ∧ W.cell? ⟨b, 1, none⟩ = some y ∧ W.cell? ⟨b, 2, none⟩ = some z
  f : W.frozen? ⟨b, 0, none⟩ = false ∧ W.frozen? ⟨b, 1, none⟩ = false ∧ W.frozen? ⟨b, 2, none⟩ = false
theorem Room3.lt {W : World} {b : Nat} (h : Room3 W b) : b < W.heap.size := by
  obtain ⟨⟨x, y, z, h1, _⟩, _⟩ := h
  exact World.block_lt_of_cell? _ _ h1
theorem Room3.keep {W W' : World} {b B : Nat} (h : Room3 W b) (hb : Below B W W') (hB : b < B) : Room3 W' b := by
  obtain ⟨⟨x, y, z, h1, h2, h3⟩, f1, f2, f3⟩ := h
  exact ⟨⟨x, y, z, (hb.cell (p := ⟨b, 0, none⟩) hB).trans h1, (hb.cell (p := ⟨b, 1, none⟩) hB).trans h2, (hb.cell (p := ⟨b, 2, none⟩) hB).trans h3⟩, (hb.frozen (p := ⟨b, 0, none⟩) hB).trans f1, (hb.frozen (p := ⟨b, 1, none⟩) hB).trans f2, (hb.frozen (p := ⟨b, 2, none⟩) hB).trans f3⟩
theorem Room3.below {W W' : World} {b : Nat} (h : Room3 W b) (hb : Below W.heap.size W W') : Room3 W' b := h.keep hb h.lt
theorem Room3.new (w : World) (t : TypeId) : Room3 (w.alloc (.cells #[.slice none 0 0, .slice none 0 0, .slice none 0 0] t)) w.heap.size :=
  ⟨⟨_, _, _, (by rw [World.cell?_alloc_at _ _ _ _ (by simp)]; rfl), (by rw [World.cell?_alloc_at _ _ _ _ (by simp)]; rfl), (by rw [World.cell?_alloc_at _ _ _ _ (by simp)]; rfl)⟩, by rw [World.frozen?_alloc_at _ _ _ _ (by simp)], by rw [World.frozen?_alloc_at _ _ _ _ (by simp)], by rw [World.frozen?_alloc_at _ _ _ _ (by simp)]⟩
/-! ## the plain law: the reference takes list by list -/
def tk1 (zs : List Int) : List Int × List Int × Bool := takeL zs (recB zs)
def tk2 (zs : List Int) : List Int × List Int × Bool := takeL (tk1 zs).2.1 (tk1 zs).2.2
def tk3 (zs : List Int) : List Int × List Int × Bool := takeL (tk2 zs).2.1 (tk2 zs).2.2
theorem prM_eq (zs : List Int) : prM zs = if (tk3 zs).2.2 && decide ((tk3 zs).2.1.length = 0) then (((tk1 zs).1, (tk2 zs).1, (tk3 zs).1), true) else (([], [], []), false) := rfl
theorem takeS_yes {zs : List Int} (h : (takeS zs).2.2 = true) : takeL zs true = takeS zs := by
  unfold takeS at h ⊢
  split
  · rfl
  · rename_i hn
    rw [if_neg hn] at h
    cases h
theorem takeS_no {zs : List Int} (h : (takeS zs).2.2 = false) : (takeL zs true).2.2 = false := by
  unfold takeS at h
  split at h
  · exact h
  · rename_i hn
    simpa using hn
theorem takeL_bad {zs : List Int} : (takeL zs false).2.2 = false := by rw [(takeL_ok zs false).1]; rfl
theorem prM_rec {zs : List Int} (h : recB zs = false) : prM zs = (([], [], []), false) := by
  have e1 : (tk1 zs).2.2 = false := by rw [tk1, h]; exact takeL_bad
  have e2 : (tk2 zs).2.2 = false := by rw [tk2, e1]; exact takeL_bad
  have e3 : (tk3 zs).2.2 = false := by rw [tk3, e2]; exact takeL_bad
  rw [prM_eq, e3]
  rfl
theorem prM_spec {zs : List Int} (h : recB zs = true) :
    prM zs = if (takeS zs).2.2 && (takeS (takeS zs).2.1).2.2 && (takeS (takeS (takeS zs).2.1).2.1).2.2 && decide ((takeS (takeS (takeS zs).2.1).2.1).2.1.length = 0)
      then (((takeS zs).1, (takeS (takeS zs).2.1).1, (takeS (takeS (takeS zs).2.1).2.1).1), true) else (([], [], []), false) := by
  rw [prM_eq]
  have d1 : tk1 zs = takeL zs true := by rw [tk1, h]
  cases a1 : (takeS zs).2.2
  · have e1 : (tk1 zs).2.2 = false := by rw [d1]; exact takeS_no a1
    have e2 : (tk2 zs).2.2 = false := by rw [tk2, e1]; exact takeL_bad
    have e3 : (tk3 zs).2.2 = false := by rw [tk3, e2]; exact takeL_bad
    rw [e3]
    rfl
  · have e1 := d1.trans (takeS_yes a1)
    have d2 : tk2 zs = takeL (takeS zs).2.1 true := by rw [tk2, e1, a1]
    cases a2 : (takeS (takeS zs).2.1).2.2
    · have e2 : (tk2 zs).2.2 = false := by rw [d2]; exact takeS_no a2
      have e3 : (tk3 zs).2.2 = false := by rw [tk3, e2]; exact takeL_bad
      rw [e3]
      rfl
    · have e2 := d2.trans (takeS_yes a2)
      have d3 : tk3 zs = takeL (takeS (takeS zs).2.1).2.1 true := by rw [tk3, e2, a2]
      cases a3 : (takeS (takeS (takeS zs).2.1).2.1).2.2
      · have e3 : (tk3 zs).2.2 = false := by rw [d3]; exact takeS_no a3
        rw [e3]
        rfl
      · have e3 := d3.trans (takeS_yes a3)
        rw [e1, e2, e3, a3]
        rfl
theorem prM_len (zs : List Int) : plen (prM zs).1 ≤ 3 * (zs.length : Int) := by
  have h1 := takeL_len zs (recB zs)
  have h2 := takeL_len (tk1 zs).2.1 (tk1 zs).2.2
  have h3 := takeL_len (tk2 zs).2.1 (tk2 zs).2.2
  have h1' : (tk1 zs).1.length ≤ zs.length ∧ (tk1 zs).2.1.length ≤ zs.length := h1
  have h2' : (tk2 zs).1.length ≤ (tk1 zs).2.1.length ∧ (tk2 zs).2.1.length ≤ (tk1 zs).2.1.length := h2
  have h3' : (tk3 zs).1.length ≤ (tk2 zs).2.1.length ∧ (tk3 zs).2.1.length ≤ (tk2 zs).2.1.length := h3
  rw [prM_eq]
  split
  · simp only [plen]
    omega
  · simp [plen]
    omega
theorem takeS_cons {z : Int} {t : List Int} {m : Nat} (h : z = (m : Int)) (hm : m ≤ t.length) : takeS (z :: t) = (t.take m, t.drop m, true) := by
  subst h
  have := takeL_yes (t := t) true (show (0 : Int) ≤ (m : Int) by omega) (by omega)
  rw [takeS, this]
  simp
theorem takeS_bad {z : Int} {t : List Int} (h : z < 0 ∨ (t.length : Int) < z) : takeS (z :: t) = ([], [], false) := by
  rw [takeS, takeL_no true h]
  rfl

theorem heldTake {P : Program} {md : Region.Mode} {ops : Array Oper} {Q : Exit → Act → World → Prop} {S : World → Prop} {i k : Nat} {oi : Oper} {v : Value} {l : Array Bool} {a : Act} {w : World} (d : Option Tmp) (hi : ops[i]? = some oi) (hd : oi.dst = d)
    (hs : Region.noSelect ops = true) (hf : Region.free md ops l i = true) (hr : (Region.ready md ops l).contains i = true) (hQ : ∀ c a w, Q (.panic c) (a.put d v) w → Q (.panic c) a w)
    (hy : YieldsIf P ops S oi v a) (hS : S w) (h : wpAnyH P md ops Q S k (l.setIfInBounds i true) (a.put d v) w) : wpAnyH P md ops Q S (k + 1) l a w := by
  subst hd
  exact wpAnyH_take hi hs hf hr hQ hy hS h
theorem takeS_len (zs : List Int) : (takeS zs).1.length ≤ zs.length ∧ (takeS zs).2.1.length ≤ zs.length := by
  unfold takeS
  split
  · exact takeL_len zs true
  · simp
set_option maxHeartbeats 400000 in
theorem l1Own_any (A : Option Addr) (n c : Nat) (zs : List Int) (w : World) (h : Ints w A n zs) (hn : n ≤ 1000000000) :
    Calls Try.prog 139 #[.slice A n c] w fun e w' => ∃ A' c', e = .returned (.slice A' n c') ∧ w'.ownsRow w.heap.size 3 1 (.slice A' n c') n (zs.map (Value.int .i64)) ∧ Below w.heap.size w w' := by
  have HI := Lib.hid h
  clear h
  go_enter Try.func139, Try.ntmps139
  go_wp2_with (at_builtin; refine appI rfl _ _ rfl rfl rfl (HI.out.below (belA (Below.refl _ _))) (own_empty w w.heap.size (Nat.le_refl _)) (by omega) (by simp) ?_; intro A' c' w1 hown hg)
  rw [Nat.zero_add, List.nil_append] at hown
  go_wp2
  go_ret
  refine ⟨A', c', by simp, hown, ?_⟩
  exact (own_below (belA (Below.refl _ _)) (by simp) (own_empty w w.heap.size (Nat.le_refl _)) hg)
def TakePost (w : World) (r : List Int × List Int × Bool) (e : Ending) (w' : World) : Prop :=
  ∃ A1 c1 A2 c2, e = .returned (.tuple #[.slice A1 r.1.length c1, .slice A2 r.2.1.length c2, .bool r.2.2]) ∧ w'.ownsRow w.heap.size 3 1 (.slice A1 r.1.length c1) r.1.length (r.1.map (Value.int .i64)) ∧ Ints w' A2 r.2.1.length r.2.1 ∧ Caps A2 r.2.1.length c2 ∧ Below w.heap.size w w'
theorem TakePost.no {w : World} {r : List Int × List Int × Bool} (hr : r = ([], [], false)) : TakePost w r (.returned (.tuple #[.slice none 0 0, .slice none 0 0, .bool false])) w := by
  subst hr
  exact ⟨none, 0, none, 0, rfl, own_nil _ _, Ints.nil _ _, ⟨by simp, by simp, .inl ⟨rfl, rfl⟩⟩, Below.refl _ _⟩
set_option maxRecDepth 100000 in
set_option maxHeartbeats 400000 in
theorem l4Take_any (A : Option Addr) (n c : Nat) (zs : List Int) (w : World) (h : Ints w A n zs) (hc : Caps A n c) (hn : n ≤ 2000000) :
    Calls Try.prog 124 #[.slice A n c] w (TakePost w (takeS zs)) := by
  have hl := h.len
  subst hl
  have HI := Lib.hid h
  obtain ⟨c1, c2, c3⟩ := hc
  clear h
  cases zs with
  | nil =>
    simp only [List.length_nil] at c1 HI ⊢
    go_enter Try.func124, Try.ntmps124
    go_wp2
    refine bodyPost_ret (v := .tuple #[.slice none 0 0, .slice none 0 0, .bool false]) (by simp [results, Try.results124, go_sem]) rfl ?_
    exact TakePost.no rfl
  | cons z t =>
    obtain ⟨g, off, e, hg, hcell⟩ := HI.out.2.2 (by simp)
    subst e
    have hz := hcell 0 (by simp)
    rw [Nat.add_zero, show (z :: t).getD 0 0 = z from rfl] at hz
    have HD := Lib.hid (HI.out.drop (k := 1) (by simp))
    simp only [List.length_cons] at c1 hn HI ⊢
    clear hcell c3
    by_cases hz0 : z < 0
    · have HN := Lib.hid (takeS_bad (z := z) (t := t) (.inl hz0))
      go_enter Try.func124, Try.ntmps124
      go_wp2
      refine bodyPost_ret (v := .tuple #[.slice none 0 0, .slice none 0 0, .bool false]) (by simp [results, Try.results124, go_sem]) rfl ?_
      exact TakePost.no HN.out
    · by_cases hz1 : (t.length : Int) < z
      · have HN := Lib.hid (takeS_bad (z := z) (t := t) (.inr hz1))
        have hz2 : (t.length : Int) + 1 ≤ z := by omega
        go_enter Try.func124, Try.ntmps124
        go_wp2
        refine bodyPost_ret (v := .tuple #[.slice none 0 0, .slice none 0 0, .bool false]) (by simp [results, Try.results124, go_sem]) rfl ?_
        exact TakePost.no HN.out
      · obtain ⟨m, rfl⟩ := Int.eq_ofNat_of_zero_le (show 0 ≤ z by omega)
        have hm : m ≤ t.length := by omega
        have HN := Lib.hid (takeS_cons (z := (m : Int)) (t := t) rfl hm)
        have hd0 : (((t.length : Nat) : Int) + 1 == 0) = false := by simp; omega
        have hd1 : decide ((t.length : Int) + 1 ≤ (m : Int)) = false := by simp; omega
        by_cases hc1 : c = 1
        · have ht : t = [] := List.eq_nil_of_length_eq_zero (by omega)
          subst ht
          have hm0 : m = 0 := by simpa using hm
          subst hm0
          subst hc1
          have HT1 : Hid (Ints w (some ⟨g, off, none⟩) 0 []) := Lib.hid (Ints.nil _ _)
          go_enter Try.func124, Try.ntmps124
          go_wp2
          refine wp_region_held_drew (S := fun _ => True) (by kernel_rfl) trivial (fun hHeld => ?_)
          refine heldTake (i := 0) (v := ?_) (some 27) rfl rfl (by kernel_rfl) (by kernel_rfl) (by kernel_rfl) (fun _ _ _ h => h) (Or.inl ⟨by rfl, ?_⟩) (by assumption) ?_
          rotate_left
          · (intro W hSw; (try dsimp only at hSw); go_simp; all_goals first | with_reducible rfl | (simp [*]; done))
          try simp only [Act.put, List.setIfInBounds_toArray, List.set_cons_zero, List.set_cons_succ]
          refine heldTake (i := 1) (v := ?_) (some 28) rfl rfl (by kernel_rfl) (by kernel_rfl) (by kernel_rfl) (fun _ _ _ h => h) (Or.inl ⟨by rfl, ?_⟩) (by assumption) ?_
          rotate_left
          · (intro W hSw; (try dsimp only at hSw); go_simp; all_goals first | with_reducible rfl | (simp [*]; done))
          try simp only [Act.put, List.setIfInBounds_toArray, List.set_cons_zero, List.set_cons_succ]
          refine heldTake (i := 2) (v := .slice (some ⟨g, off, none⟩) 0 0) (some 29) rfl rfl (by kernel_rfl) (by kernel_rfl) (by kernel_rfl) (fun _ _ _ h => h) (Or.inl ⟨by rfl, ?_⟩) (by assumption) ?_
          · (intro W hSw; (try dsimp only at hSw); go_simp; all_goals first | with_reducible rfl | (simp [*]; done))
          try simp only [Act.put, List.setIfInBounds_toArray, List.set_cons_zero, List.set_cons_succ]
          refine heldTake (i := 4) (v := ?_) (some 31) rfl rfl (by kernel_rfl) (by kernel_rfl) (by kernel_rfl) (fun _ _ _ h => h) (Or.inl ⟨by rfl, ?_⟩) (by assumption) ?_
          rotate_left
          · (intro W hSw; (try dsimp only at hSw); go_simp; all_goals first | with_reducible rfl | (simp [*]; done))
          try simp only [Act.put, List.setIfInBounds_toArray, List.set_cons_zero, List.set_cons_succ]
          refine heldTake (i := 5) (v := ?_) (some 32) rfl rfl (by kernel_rfl) (by kernel_rfl) (by kernel_rfl) (fun _ _ _ h => h) (Or.inl ⟨by rfl, ?_⟩) (by assumption) ?_
          rotate_left
          · (intro W hSw; (try dsimp only at hSw); go_simp; all_goals first | with_reducible rfl | (simp [*]; done))
          try simp only [Act.put, List.setIfInBounds_toArray, List.set_cons_zero, List.set_cons_succ]
          refine heldTake (i := 6) (v := .slice (some ⟨g, off, none⟩) 0 0) (some 33) rfl rfl (by kernel_rfl) (by kernel_rfl) (by kernel_rfl) (fun _ _ _ h => h) (Or.inl ⟨by rfl, ?_⟩) (by assumption) ?_
          · (intro W hSw; (try dsimp only at hSw); go_simp; all_goals first | with_reducible rfl | (simp [*]; done))
          try simp only [Act.put, List.setIfInBounds_toArray, List.set_cons_zero, List.set_cons_succ]
          refine wpAnyH_ready (rs := [3]) (by kernel_rfl) (by simp) ?_
          refine AllReadyH.cons rfl (fun K hK => ?_) AllReadyH.nil
          go_simp
          (go_at_call 139; refine (l1Own_any _ 0 _ [] _ (Ints.drew HT1.out) (by omega)).mono ?_; rintro e w1 ⟨A1, c1', rfl, ho1, hb1⟩)
          refine hK.out _ _ trivial (fun hNew => ?_)
          clear hK K hHeld
          have hHeld := hNew; clear hNew
          try simp only [Act.put, List.setIfInBounds_toArray, List.set_cons_zero, List.set_cons_succ]
          refine heldTake (i := 7) (v := ?_) (some 2) rfl rfl (by kernel_rfl) (by kernel_rfl) (by kernel_rfl) (fun _ _ _ h => h) (Or.inl ⟨by rfl, ?_⟩) (by assumption) ?_
          rotate_left
          · (intro W hSw; (try dsimp only at hSw); go_simp; all_goals first | with_reducible rfl | (simp [*]; done))
          try simp only [Act.put, List.setIfInBounds_toArray, List.set_cons_zero, List.set_cons_succ]
          refine heldTake (i := 8) (v := ?_) (some 3) rfl rfl (by kernel_rfl) (by kernel_rfl) (by kernel_rfl) (fun _ _ _ h => h) (Or.inl ⟨by rfl, ?_⟩) (by assumption) ?_
          rotate_left
          · (intro W hSw; (try dsimp only at hSw); go_simp; all_goals first | with_reducible rfl | (simp [*]; done))
          try simp only [Act.put, List.setIfInBounds_toArray, List.set_cons_zero, List.set_cons_succ]
          refine heldTake (i := 9) (v := ?_) (some 4) rfl rfl (by kernel_rfl) (by kernel_rfl) (by kernel_rfl) (fun _ _ _ h => h) (Or.inl ⟨by rfl, ?_⟩) (by assumption) ?_
          rotate_left
          · (intro W hSw; (try dsimp only at hSw); go_simp; all_goals first | with_reducible rfl | (simp [*]; done))
          try simp only [Act.put, List.setIfInBounds_toArray, List.set_cons_zero, List.set_cons_succ]
          refine wpAnyH_done (by kernel_rfl) ?_ _
          go_wp2
          refine bodyPost_ret (v := .tuple #[.slice A1 0 c1', .slice (some ⟨g, off, none⟩) 0 0, .bool true]) (by simp [results, Try.results124, go_sem]) rfl ?_
          rw [HN.out]
          exact ⟨A1, c1', some ⟨g, off, none⟩, 0, rfl, ho1, Ints.nil _ _, ⟨by simp, by simp, .inr ⟨g, off, rfl⟩⟩, (belD (Below.refl _ _)).trans hb1⟩
        · by_cases hcm : c = m + 1
          · have e : m = t.length := by omega
            subst e
            subst hcm
            have HT1 : Hid (Ints w (some ⟨g, off + 1, none⟩) t.length t) := Lib.hid (by simpa using HD.out)
            have i4 : (1 : Int) ≤ (t.length : Int) + 1 := by omega
            have i5 : (0 : Int) ≤ (t.length : Int) + 1 := by omega
            have i6 : ¬ t.length = 0 := by omega
            go_enter Try.func124, Try.ntmps124
            go_wp2
            refine wp_region_held_drew (S := fun _ => True) (by kernel_rfl) trivial (fun hHeld => ?_)
            refine heldTake (i := 0) (v := ?_) (some 27) rfl rfl (by kernel_rfl) (by kernel_rfl) (by kernel_rfl) (fun _ _ _ h => h) (Or.inl ⟨by rfl, ?_⟩) (by assumption) ?_
            rotate_left
            · (intro W hSw; (try dsimp only at hSw); go_simp; all_goals first | with_reducible rfl | (simp [*]; done))
            try simp only [Act.put, List.setIfInBounds_toArray, List.set_cons_zero, List.set_cons_succ]
            refine heldTake (i := 1) (v := ?_) (some 28) rfl rfl (by kernel_rfl) (by kernel_rfl) (by kernel_rfl) (fun _ _ _ h => h) (Or.inl ⟨by rfl, ?_⟩) (by assumption) ?_
            rotate_left
            · (intro W hSw; (try dsimp only at hSw); go_simp; all_goals first | with_reducible rfl | (simp [*]; done))
            try simp only [Act.put, List.setIfInBounds_toArray, List.set_cons_zero, List.set_cons_succ]
            refine heldTake (i := 2) (v := .slice (some ⟨g, off + 1, none⟩) t.length t.length) (some 29) rfl rfl (by kernel_rfl) (by kernel_rfl) (by kernel_rfl) (fun _ _ _ h => h) (Or.inl ⟨by rfl, ?_⟩) (by assumption) ?_
            · (intro W hSw; (try dsimp only at hSw); go_simp; all_goals first | with_reducible rfl | (simp [*]; done))
            try simp only [Act.put, List.setIfInBounds_toArray, List.set_cons_zero, List.set_cons_succ]
            refine heldTake (i := 4) (v := ?_) (some 31) rfl rfl (by kernel_rfl) (by kernel_rfl) (by kernel_rfl) (fun _ _ _ h => h) (Or.inl ⟨by rfl, ?_⟩) (by assumption) ?_
            rotate_left
            · (intro W hSw; (try dsimp only at hSw); go_simp; all_goals first | with_reducible rfl | (simp [*]; done))
            try simp only [Act.put, List.setIfInBounds_toArray, List.set_cons_zero, List.set_cons_succ]
            refine heldTake (i := 5) (v := ?_) (some 32) rfl rfl (by kernel_rfl) (by kernel_rfl) (by kernel_rfl) (fun _ _ _ h => h) (Or.inl ⟨by rfl, ?_⟩) (by assumption) ?_
            rotate_left
            · (intro W hSw; (try dsimp only at hSw); go_simp; all_goals first | with_reducible rfl | (simp [*]; done))
            try simp only [Act.put, List.setIfInBounds_toArray, List.set_cons_zero, List.set_cons_succ]
            refine heldTake (i := 6) (v := .slice (some ⟨g, off, none⟩) 0 0) (some 33) rfl rfl (by kernel_rfl) (by kernel_rfl) (by kernel_rfl) (fun _ _ _ h => h) (Or.inl ⟨by rfl, ?_⟩) (by assumption) ?_
            · (intro W hSw; (try dsimp only at hSw); go_simp; all_goals first | with_reducible rfl | (simp [*]; done))
            try simp only [Act.put, List.setIfInBounds_toArray, List.set_cons_zero, List.set_cons_succ]
            refine wpAnyH_ready (rs := [3]) (by kernel_rfl) (by simp) ?_
            refine AllReadyH.cons rfl (fun K hK => ?_) AllReadyH.nil
            go_simp
            (go_at_call 139; refine (l1Own_any _ t.length _ t _ (Ints.drew HT1.out) (by omega)).mono ?_; rintro e w1 ⟨A1, c1', rfl, ho1, hb1⟩)
            refine hK.out _ _ trivial (fun hNew => ?_)
            clear hK K hHeld
            have hHeld := hNew; clear hNew
            try simp only [Act.put, List.setIfInBounds_toArray, List.set_cons_zero, List.set_cons_succ]
            refine heldTake (i := 7) (v := ?_) (some 2) rfl rfl (by kernel_rfl) (by kernel_rfl) (by kernel_rfl) (fun _ _ _ h => h) (Or.inl ⟨by rfl, ?_⟩) (by assumption) ?_
            rotate_left
            · (intro W hSw; (try dsimp only at hSw); go_simp; all_goals first | with_reducible rfl | (simp [*]; done))
            try simp only [Act.put, List.setIfInBounds_toArray, List.set_cons_zero, List.set_cons_succ]
            refine heldTake (i := 8) (v := ?_) (some 3) rfl rfl (by kernel_rfl) (by kernel_rfl) (by kernel_rfl) (fun _ _ _ h => h) (Or.inl ⟨by rfl, ?_⟩) (by assumption) ?_
            rotate_left
            · (intro W hSw; (try dsimp only at hSw); go_simp; all_goals first | with_reducible rfl | (simp [*]; done))
            try simp only [Act.put, List.setIfInBounds_toArray, List.set_cons_zero, List.set_cons_succ]
            refine heldTake (i := 9) (v := ?_) (some 4) rfl rfl (by kernel_rfl) (by kernel_rfl) (by kernel_rfl) (fun _ _ _ h => h) (Or.inl ⟨by rfl, ?_⟩) (by assumption) ?_
            rotate_left
            · (intro W hSw; (try dsimp only at hSw); go_simp; all_goals first | with_reducible rfl | (simp [*]; done))
            try simp only [Act.put, List.setIfInBounds_toArray, List.set_cons_zero, List.set_cons_succ]
            refine wpAnyH_done (by kernel_rfl) ?_ _
            go_wp2
            refine bodyPost_ret (v := .tuple #[.slice A1 t.length c1', .slice (some ⟨g, off, none⟩) 0 0, .bool true]) (by simp [results, Try.results124, go_sem]) rfl ?_
            rw [HN.out, List.take_of_length_le (Nat.le_refl _), List.drop_of_length_le (Nat.le_refl _)]
            exact ⟨A1, c1', some ⟨g, off, none⟩, 0, rfl, ho1, Ints.nil _ _, ⟨by simp, by simp, .inr ⟨g, off, rfl⟩⟩, (belD (Below.refl _ _)).trans hb1⟩
          · have HT1 : Hid (Ints w (some ⟨g, off + 1, none⟩) m (t.take m)) := Lib.hid (by
              have h1 : Ints w (some ⟨g, off + 1, none⟩) t.length t := by simpa using HD.out
              exact h1.take hm)
            have i1 : (m : Int) + 1 ≤ (t.length : Int) + 1 := by omega
            have i2 : (m : Int) + 1 ≤ (c : Int) := by omega
            have i3 : (t.length : Int) + 1 ≤ (c : Int) := by omega
            have i4 : (1 : Int) ≤ (m : Int) + 1 := by omega
            have i5 : (0 : Int) ≤ (m : Int) + 1 := by omega
            go_enter Try.func124, Try.ntmps124
            go_wp2
            refine wp_region_held_drew (S := fun _ => True) (by kernel_rfl) trivial (fun hHeld => ?_)
            refine heldTake (i := 0) (v := ?_) (some 27) rfl rfl (by kernel_rfl) (by kernel_rfl) (by kernel_rfl) (fun _ _ _ h => h) (Or.inl ⟨by rfl, ?_⟩) (by assumption) ?_
            rotate_left
            · (intro W hSw; (try dsimp only at hSw); go_simp; all_goals first | with_reducible rfl | (simp [*]; done))
            try simp only [Act.put, List.setIfInBounds_toArray, List.set_cons_zero, List.set_cons_succ]
            refine heldTake (i := 1) (v := ?_) (some 28) rfl rfl (by kernel_rfl) (by kernel_rfl) (by kernel_rfl) (fun _ _ _ h => h) (Or.inl ⟨by rfl, ?_⟩) (by assumption) ?_
            rotate_left
            · (intro W hSw; (try dsimp only at hSw); go_simp; all_goals first | with_reducible rfl | (simp [*]; done))
            try simp only [Act.put, List.setIfInBounds_toArray, List.set_cons_zero, List.set_cons_succ]
            refine heldTake (i := 2) (v := .slice (some ⟨g, off + 1, none⟩) m (c - 1)) (some 29) rfl rfl (by kernel_rfl) (by kernel_rfl) (by kernel_rfl) (fun _ _ _ h => h) (Or.inl ⟨by rfl, ?_⟩) (by assumption) ?_
            · (intro W hSw; (try dsimp only at hSw); go_simp; all_goals first | with_reducible rfl | (simp [*]; done))
            try simp only [Act.put, List.setIfInBounds_toArray, List.set_cons_zero, List.set_cons_succ]
            refine heldTake (i := 4) (v := ?_) (some 31) rfl rfl (by kernel_rfl) (by kernel_rfl) (by kernel_rfl) (fun _ _ _ h => h) (Or.inl ⟨by rfl, ?_⟩) (by assumption) ?_
            rotate_left
            · (intro W hSw; (try dsimp only at hSw); go_simp; all_goals first | with_reducible rfl | (simp [*]; done))
            try simp only [Act.put, List.setIfInBounds_toArray, List.set_cons_zero, List.set_cons_succ]
            refine heldTake (i := 5) (v := ?_) (some 32) rfl rfl (by kernel_rfl) (by kernel_rfl) (by kernel_rfl) (fun _ _ _ h => h) (Or.inl ⟨by rfl, ?_⟩) (by assumption) ?_
            rotate_left
            · (intro W hSw; (try dsimp only at hSw); go_simp; all_goals first | with_reducible rfl | (simp [*]; done))
            try simp only [Act.put, List.setIfInBounds_toArray, List.set_cons_zero, List.set_cons_succ]
            refine heldTake (i := 6) (v := .slice (some ⟨g, off + (m + 1), none⟩) (t.length - m) (c - (m + 1))) (some 33) rfl rfl (by kernel_rfl) (by kernel_rfl) (by kernel_rfl) (fun _ _ _ h => h) (Or.inl ⟨by rfl, ?_⟩) (by assumption) ?_
            · (intro W hSw; (try dsimp only at hSw); go_simp; all_goals first | with_reducible rfl | (simp [*]; done))
            try simp only [Act.put, List.setIfInBounds_toArray, List.set_cons_zero, List.set_cons_succ]
            refine wpAnyH_ready (rs := [3]) (by kernel_rfl) (by simp) ?_
            refine AllReadyH.cons rfl (fun K hK => ?_) AllReadyH.nil
            go_simp
            (go_at_call 139; refine (l1Own_any _ m _ (t.take m) _ (Ints.drew HT1.out) (by omega)).mono ?_; rintro e w1 ⟨A1, c1', rfl, ho1, hb1⟩)
            refine hK.out _ _ trivial (fun hNew => ?_)
            clear hK K hHeld
            have hHeld := hNew; clear hNew
            try simp only [Act.put, List.setIfInBounds_toArray, List.set_cons_zero, List.set_cons_succ]
            refine heldTake (i := 7) (v := ?_) (some 2) rfl rfl (by kernel_rfl) (by kernel_rfl) (by kernel_rfl) (fun _ _ _ h => h) (Or.inl ⟨by rfl, ?_⟩) (by assumption) ?_
            rotate_left
            · (intro W hSw; (try dsimp only at hSw); go_simp; all_goals first | with_reducible rfl | (simp [*]; done))
            try simp only [Act.put, List.setIfInBounds_toArray, List.set_cons_zero, List.set_cons_succ]
            refine heldTake (i := 8) (v := ?_) (some 3) rfl rfl (by kernel_rfl) (by kernel_rfl) (by kernel_rfl) (fun _ _ _ h => h) (Or.inl ⟨by rfl, ?_⟩) (by assumption) ?_
            rotate_left
            · (intro W hSw; (try dsimp only at hSw); go_simp; all_goals first | with_reducible rfl | (simp [*]; done))
            try simp only [Act.put, List.setIfInBounds_toArray, List.set_cons_zero, List.set_cons_succ]
            refine heldTake (i := 9) (v := ?_) (some 4) rfl rfl (by kernel_rfl) (by kernel_rfl) (by kernel_rfl) (fun _ _ _ h => h) (Or.inl ⟨by rfl, ?_⟩) (by assumption) ?_
            rotate_left
            · (intro W hSw; (try dsimp only at hSw); go_simp; all_goals first | with_reducible rfl | (simp [*]; done))
            try simp only [Act.put, List.setIfInBounds_toArray, List.set_cons_zero, List.set_cons_succ]
            refine wpAnyH_done (by kernel_rfl) ?_ _
            go_wp2
            refine bodyPost_ret (v := .tuple #[.slice A1 m c1', .slice (some ⟨g, off + (m + 1), none⟩) (t.length - m) (c - (m + 1)), .bool true]) (by simp [results, Try.results124, go_sem]) rfl ?_
            have hI2 : Ints w (some ⟨g, off + (m + 1), none⟩) (t.length - m) (t.drop m) := by
              have h1 := HI.out.drop (k := m + 1) (by omega)
              simpa using h1
            have hl2 : (t.take m).length = m := by rw [List.length_take]; omega
            have hl3 : (t.drop m).length = t.length - m := by rw [List.length_drop]
            rw [HN.out]
            refine ⟨A1, c1', some ⟨g, off + (m + 1), none⟩, c - (m + 1), by rw [hl2, hl3], by rw [hl2]; exact ho1, by rw [hl3]; exact hI2.below ((belD (Below.refl _ _)).trans hb1), ⟨by rw [hl3]; omega, by omega, .inr ⟨g, off + (m + 1), rfl⟩⟩, (belD (Below.refl _ _)).trans hb1⟩
set_option maxHeartbeats 1600000 in
theorem cReadProof_any (A : Option Addr) (n c : Nat) (zs : List Int) (w : World) (h : Ints w A n zs) (hk : CapW w A n c) (hn : n ≤ 2000000) :
    Calls Try.prog 85 #[.slice A n c] w (PR w (prM zs)) := by
  have hl := h.len
  subst hl
  have HI := Lib.hid h
  have HC := Lib.hid hk.1
  clear h hk
  cases hr : recB zs
  · have HN := Lib.hid (prM_rec hr)
    go_enter Try.func85, Try.ntmps85
    go_wp2_with fail
    refine (l4Record_any A zs.length c zs _ (HI.out.below (by repeat (first | exact Below.refl _ _ | assumption | refine belA ?_ | refine belD ?_ | refine belN ?_ | refine belS ?_ (by simp) | refine belT ?_ (by assumption))))).mono ?_
    rintro e w1_ ⟨rfl, hb1⟩
    have hW := hb1
    obtain ⟨hc, hf⟩ := bcell hW
    rw [hr]
    go_wp2
    refine bodyPost_ret (v := .tuple #[.agg #[.slice none 0 0, .slice none 0 0, .slice none 0 0], .bool false]) (by simp [results, Try.results85, go_sem, hc]) rfl ?_
    exact PR.no HN.out (by repeat (first | refine belS ?_ (by simp) | exact belT (by repeat (first | exact Below.refl _ _ | assumption | refine belA ?_ | refine belD ?_ | refine belN ?_ | refine belS ?_ (by simp) | refine belT ?_ (by assumption))) hW))
  · have HN := Lib.hid (prM_spec hr)
    go_enter Try.func85, Try.ntmps85
    go_wp2_with fail
    refine (l4Record_any A zs.length c zs _ (HI.out.below (by repeat (first | exact Below.refl _ _ | assumption | refine belA ?_ | refine belD ?_ | refine belN ?_ | refine belS ?_ (by simp) | refine belT ?_ (by assumption))))).mono ?_
    rintro e w1_ ⟨rfl, hb1⟩
    have hW := hb1
    obtain ⟨hc, hf⟩ := bcell hW
    rw [hr]
    have l1 := (takeS_len zs).2
    have l2 := (takeS_len (takeS zs).2.1).2
    have H1 := fun (W : World) (hI : Ints W A zs.length zs) => l4Take_any A zs.length c zs W hI HC.out hn
    have H2 := fun (D : Option Addr) (d : Nat) (W : World) (hI : Ints W D (takeS zs).2.1.length (takeS zs).2.1) (hq : Caps D (takeS zs).2.1.length d) => l4Take_any D _ d (takeS zs).2.1 W hI hq (by omega)
    have H3 := fun (D : Option Addr) (d : Nat) (W : World) (hI : Ints W D (takeS (takeS zs).2.1).2.1.length (takeS (takeS zs).2.1).2.1) (hq : Caps D (takeS (takeS zs).2.1).2.1.length d) => l4Take_any D _ d (takeS (takeS zs).2.1).2.1 W hI hq (by omega)
    clear l1 l2
    generalize takeS (takeS (takeS zs).2.1).2.1 = t3 at HN H3
    generalize takeS (takeS zs).2.1 = t2 at HN H2 H3
    generalize takeS zs = t1 at HN H1 H2 H3
    obtain ⟨x1, y1, k1⟩ := t1
    obtain ⟨x2, y2, k2⟩ := t2
    obtain ⟨x3, y3, k3⟩ := t3
    simp only at HN H2 H3
    have G1 := Lib.hid H1
    have G2 := Lib.hid H2
    have G3 := Lib.hid H3
    clear H1 H2 H3
    have hlo := hW.size
    have hlow : w.heap.size + 1 ≤ w1_.heap.size := by simpa using hlo
    go_wp2_with fail
    refine (G1.out _ (HI.out.below (belT (by repeat (first | exact Below.refl _ _ | assumption | refine belA ?_ | refine belD ?_ | refine belN ?_ | refine belS ?_ (by simp) | refine belT ?_ (by assumption))) hW))).mono ?_
    rintro e w2_ ⟨A1, c1, R1, d1, rfl, ho1, hi1, hk1, hb2⟩
    simp only at ho1 hi1 hk1
    simp only
    have O1 := Lib.hid (Own.mk' ho1)
    have J1 := Lib.hid hi1
    have K1 := Lib.hid hk1
    have HB2 := Lib.hid hb2
    clear hc hf ho1 hi1 hk1
    replace hW := belT hW hb2
    obtain ⟨hc, hf⟩ := bcell hW
    have hs1 := hb2.size
    clear hb2
    go_wp2_with fail
    refine (G2.out _ _ _ J1.out K1.out).mono ?_
    rintro e w3_ ⟨A2, c2, R2, d2, rfl, ho2, hi2, hk2, hb3⟩
    simp only at ho2 hi2 hk2
    simp only
    have O2 := Lib.hid (Own.mk' ho2)
    have J2 := Lib.hid hi2
    have K2 := Lib.hid hk2
    have HB3 := Lib.hid hb3
    replace O1 := Lib.hid (O1.out.below hb3)
    clear hc hf ho2 hi2 hk2
    replace hW := belT hW hb3
    obtain ⟨hc, hf⟩ := bcell hW
    have hs2 := hb3.size
    clear hb3
    go_wp2_with fail
    refine (G3.out _ _ _ J2.out K2.out).mono ?_
    rintro e w4_ ⟨A3, c3, R3, d3, rfl, ho3, hi3, hk3, hb4⟩
    simp only at ho3 hi3 hk3
    simp only
    have O3 := Lib.hid (Own.mk' ho3)
    have J3 := Lib.hid hi3
    have K3 := Lib.hid hk3
    have HB4 := Lib.hid hb4
    replace O1 := Lib.hid (O1.out.below hb4)
    replace O2 := Lib.hid (O2.out.below hb4)
    clear hc hf ho3 hi3 hk3
    replace hW := belT hW hb4
    obtain ⟨hc, hf⟩ := bcell hW
    have hs3 := hb4.size
    clear hb4
    cases k1
    · go_wp2
      refine bodyPost_ret (v := .tuple #[.agg #[.slice none 0 0, .slice none 0 0, .slice none 0 0], .bool false]) (by simp [results, Try.results85, go_sem, hc]) rfl ?_
      exact PR.no (HN.out.trans (by simp)) (by repeat (first | refine belS ?_ (by simp) | exact belT (by repeat (first | exact Below.refl _ _ | assumption | refine belA ?_ | refine belD ?_ | refine belN ?_ | refine belS ?_ (by simp) | refine belT ?_ (by assumption))) hW))
    cases k2
    · go_wp2
      refine bodyPost_ret (v := .tuple #[.agg #[.slice none 0 0, .slice none 0 0, .slice none 0 0], .bool false]) (by simp [results, Try.results85, go_sem, hc]) rfl ?_
      exact PR.no (HN.out.trans (by simp)) (by repeat (first | refine belS ?_ (by simp) | exact belT (by repeat (first | exact Below.refl _ _ | assumption | refine belA ?_ | refine belD ?_ | refine belN ?_ | refine belS ?_ (by simp) | refine belT ?_ (by assumption))) hW))
    cases k3
    · go_wp2
      refine bodyPost_ret (v := .tuple #[.agg #[.slice none 0 0, .slice none 0 0, .slice none 0 0], .bool false]) (by simp [results, Try.results85, go_sem, hc]) rfl ?_
      exact PR.no (HN.out.trans (by simp)) (by repeat (first | refine belS ?_ (by simp) | exact belT (by repeat (first | exact Below.refl _ _ | assumption | refine belA ?_ | refine belD ?_ | refine belN ?_ | refine belS ?_ (by simp) | refine belT ?_ (by assumption))) hW))
    by_cases hy : y3.length = 0
    · have hd0 : decide (0 < y3.length) = false := by simp [hy]
      have HY := Lib.hid hy
      clear hy
      go_wp2
      refine bodyPost_ret (v := .tuple #[.agg #[.slice A1 x1.length c1, .slice A2 x2.length c2, .slice A3 x3.length c3], .bool true]) (by simp [results, Try.results85, go_sem, hc]) rfl ?_
      refine PR.yes (l1 := x1) (l2 := x2) (l3 := x3) (B1 := w2_.heap.size) (B2 := w3_.heap.size) (HN.out.trans (by simp [HY.out])) (by omega) hs2 (by simpa using hs3) ?_ ?_ ?_ ?_
      · exact (((O1.out.moved (grown_set _ _ _ _) (by omega)).moved (grown_set _ _ _ _) (by omega)).moved (grown_set _ _ _ _) (by omega)).low (by omega)
      · exact ((O2.out.moved (grown_set _ _ _ _) (by omega)).moved (grown_set _ _ _ _) (by omega)).moved (grown_set _ _ _ _) (by omega)
      · exact Own.top (((O3.out.moved (grown_set _ _ _ _) (by omega)).moved (grown_set _ _ _ _) (by omega)).moved (grown_set _ _ _ _) (by omega)) (by simp)
      · exact (by repeat (first | refine belS ?_ (by simp) | exact belT (by repeat (first | exact Below.refl _ _ | assumption | refine belA ?_ | refine belD ?_ | refine belN ?_ | refine belS ?_ (by simp) | refine belT ?_ (by assumption))) hW))
    · have hd0 : decide (0 < y3.length) = true := by simp; omega
      have HY := Lib.hid hy
      clear hy
      go_wp2
      refine bodyPost_ret (v := .tuple #[.agg #[.slice none 0 0, .slice none 0 0, .slice none 0 0], .bool false]) (by simp [results, Try.results85, go_sem, hc]) rfl ?_
      exact PR.no (HN.out.trans (by simp [HY.out])) (by repeat (first | refine belS ?_ (by simp) | exact belT (by repeat (first | exact Below.refl _ _ | assumption | refine belA ?_ | refine belD ?_ | refine belN ?_ | refine belS ?_ (by simp) | refine belT ?_ (by assumption))) hW))
set_option maxHeartbeats 1600000 in
theorem iDecodeProof_any (A : Option Addr) (n c : Nat) (zs : List Int) (w : World) (h : Ints w A n zs) (hk : CapW w A n c) (hn : n ≤ 2000000) :
    Calls Try.prog 37 #[.slice A n c] w (PR w (prM zs)) := by
  have hl := h.len
  subst hl
  have HI := Lib.hid h
  have HC := Lib.hid hk
  clear h hk
  have HN := Lib.hid (prM_eq zs)
  have HLS := Lib.hid fun (b : Nat) (ys : List Int) (ok : Bool) (W : World) (hr : RD W b ys ok) (hy : ys.length ≤ 2000000) => list_any b ys ok W hr (by omega)
  have htl1 := takeL_len zs (recB zs)
  have htl2 := takeL_len (tk1 zs).2.1 (tk1 zs).2.2
  have htl3 := takeL_len (tk2 zs).2.1 (tk2 zs).2.2
  go_enter Try.func37, Try.ntmps37
  go_wp2_with fail
  have hr0 : Room3 (w.alloc (.cells #[.slice none 0 0, .slice none 0 0, .slice none 0 0] 52)) w.heap.size := Room3.new w 52
  refine (isRecord_any A zs.length c zs _ (HI.out.below (by repeat (first | exact Below.refl _ _ | assumption | refine belA ?_ | refine belD ?_ | refine belN ?_ | refine belS ?_ (by simp) | refine belT ?_ (by assumption))))).mono ?_
  rintro e w1 ⟨rfl, hb1⟩
  have HB1 : Hid (Below w.heap.size w w1) := Lib.hid (belT (by repeat (first | exact Below.refl _ _ | assumption | refine belA ?_ | refine belD ?_ | refine belN ?_ | refine belS ?_ (by simp) | refine belT ?_ (by assumption))) hb1)
  have hs1 := hb1.size
  have hlow : w.heap.size + 1 ≤ w1.heap.size := by simp at hs1; omega
  have HR1 : Hid (RD (w1.alloc (.cells #[.slice A zs.length c, .bool (recB zs)] 99)) w1.heap.size zs (recB zs)) := Lib.hid (RD.new (HI.out.below HB1.out) HC.out.1 (fun a e => by have := HC.out.2 a e; omega))
  replace hr0 : Room3 (w1.alloc (.cells #[.slice A zs.length c, .bool (recB zs)] 99)) w.heap.size := (hr0.below hb1).below (belA (Below.refl _ _))
  have HB1' : Hid (Below w.heap.size w (w1.alloc (.cells #[.slice A zs.length c, .bool (recB zs)] 99))) := Lib.hid (belA HB1.out)
  clear hb1 HB1
  have L1 := HLS.out w1.heap.size zs (recB zs)
  have L2 := HLS.out w1.heap.size (tk1 zs).2.1 (tk1 zs).2.2
  have L3 := HLS.out w1.heap.size (tk2 zs).2.1 (tk2 zs).2.2
  have e1 : takeL zs (recB zs) = tk1 zs := rfl
  have e2 : takeL (tk1 zs).2.1 (tk1 zs).2.2 = tk2 zs := rfl
  have e3 : takeL (tk2 zs).2.1 (tk2 zs).2.2 = tk3 zs := rfl
  rw [e1] at L1 htl1
  rw [e2] at L2 htl2
  rw [e3] at L3 htl3
  clear e1 e2 e3 HLS
  generalize recB zs = ok at *
  generalize tk3 zs = t3 at *
  generalize tk2 zs = t2 at *
  generalize tk1 zs = t1 at *
  obtain ⟨x1, y1, k1⟩ := t1
  obtain ⟨x2, y2, k2⟩ := t2
  obtain ⟨x3, y3, k3⟩ := t3
  simp only at HN L1 L2 L3 htl1 htl2 htl3
  have G1 := Lib.hid L1
  have G2 := Lib.hid L2
  have G3 := Lib.hid L3
  clear L1 L2 L3
  obtain ⟨l1, l2⟩ := htl1
  obtain ⟨l3, l4⟩ := htl2
  obtain ⟨l5, l6⟩ := htl3
  have HR0 := Lib.hid hr0
  clear hr0
  go_wp2_with fail
  refine (G1.out _ HR1.out (by omega)).mono ?_
  rintro e w2 ⟨⟨A1, c1, rfl, ho1⟩, hr2, hb2⟩
  have hz2 : w1.heap.size + 1 ≤ w2.heap.size := by simpa using hb2.size
  have O1 := Lib.hid (Own.mk' ho1)
  have HR2 := Lib.hid hr2
  have HB2' := Lib.hid (bel_of_grown HB1'.out hb2 (by omega) (by first | omega | (simp; omega) | simp))
  replace HR0 := Lib.hid (HR0.out.keep (bel_of_grown (Below.refl _ _) hb2 (Nat.le_refl _) (by first | omega | (simp; omega) | simp)) (by omega))
  have hs2 := hb2.size
  clear ho1 hr2 hb2
  go_wp2_with fail
  refine (G2.out _ HR2.out (by omega)).mono ?_
  rintro e w3 ⟨⟨A2, c2, rfl, ho2⟩, hr3, hb3⟩
  have hz3 := hb3.size
  have O2 := Lib.hid (Own.mk' ho2)
  replace O1 := Lib.hid (O1.out.moved hb3 (by first | omega | (simp; omega) | simp))
  have HR3 := Lib.hid hr3
  have HB3' := Lib.hid (bel_of_grown HB2'.out hb3 (by omega) (by first | omega | (simp; omega) | simp))
  replace HR0 := Lib.hid (HR0.out.keep (bel_of_grown (Below.refl _ _) hb3 (Nat.le_refl _) (by first | omega | (simp; omega) | simp)) (by omega))
  have hs3 := hb3.size
  clear ho2 hr3 hb3
  go_wp2_with fail
  refine (G3.out _ HR3.out (by omega)).mono ?_
  rintro e w4 ⟨⟨A3, c3, rfl, ho3⟩, hr4, hb4⟩
  have hz4 := hb4.size
  have O3 := Lib.hid (Own.mk' ho3)
  replace O1 := Lib.hid (O1.out.moved hb4 (by first | omega | (simp; omega) | simp))
  replace O2 := Lib.hid (O2.out.moved hb4 (by omega))
  have HR4 := Lib.hid hr4
  have HB4' := Lib.hid (bel_of_grown HB3'.out hb4 (by omega) (by first | omega | (simp; omega) | simp))
  replace HR0 := Lib.hid (HR0.out.keep (bel_of_grown (Below.refl _ _) hb4 (Nat.le_refl _) (by first | omega | (simp; omega) | simp)) (by omega))
  have hs4 := hb4.size
  clear ho3 hr4 hb4
  go_wp2_with fail
  have HR5 := HR0.out.below (belA (o := .cells #[.slice A1 x1.length c1, .slice A2 x2.length c2, .slice A3 x3.length c3] 52) (Below.refl _ _))
  obtain ⟨⟨v0, v1, v2, q0, q1, q2⟩, g0, g1, g2⟩ := HR5
  have HBF : Hid (Below w.heap.size w (w4.alloc (.cells #[.slice A1 x1.length c1, .slice A2 x2.length c2, .slice A3 x3.length c3] 52))) := Lib.hid (belA HB4'.out)
  refine (ends_any _ y3 k3 _ (HR4.out.below (belA (Below.refl _ _)))).mono ?_
  rintro e w' ⟨rfl, rfl⟩
  cases he : (k3 && decide (y3.length = 0))
  · have HN2 := Lib.hid (HN.out.trans (by rw [he]; rfl) : prM zs = (([], [], []), false))
    go_wp2
    refine bodyPost_ret (v := .tuple #[.agg #[.slice none 0 0, .slice none 0 0, .slice none 0 0], .bool false]) (by simp [results, Try.results37, go_sem, q0, q1, q2]) rfl ?_
    exact PR.no HN2.out (by repeat (first | refine belS ?_ (by simp) | exact HBF.out))
  · have HN2 := Lib.hid (HN.out.trans (by rw [he]; rfl) : prM zs = ((x1, x2, x3), true))
    go_wp2
    refine bodyPost_ret (v := .tuple #[.agg #[.slice A1 x1.length c1, .slice A2 x2.length c2, .slice A3 x3.length c3], .bool true]) (by simp [results, Try.results37, go_sem, q0, q1, q2]) rfl ?_
    refine PR.yes (l1 := x1) (l2 := x2) (l3 := x3) (B1 := w2.heap.size) (B2 := w3.heap.size) HN2.out (by omega) hz3 (by simp; omega) ?_ ?_ ?_ ?_
    · exact ((((O1.out.below (belA (Below.refl _ _))).moved (grown_set _ _ _ _) (by simp; omega)).moved (grown_set _ _ _ _) (by simp; omega)).moved (grown_set _ _ _ _) (by simp; omega)).low (by simp; omega)
    · exact (((O2.out.below (belA (Below.refl _ _))).moved (grown_set _ _ _ _) (by omega)).moved (grown_set _ _ _ _) (by omega)).moved (grown_set _ _ _ _) (by omega)
    · exact Own.top ((((O3.out.below (belA (Below.refl _ _))).moved (grown_set _ _ _ _) (by omega)).moved (grown_set _ _ _ _) (by omega)).moved (grown_set _ _ _ _) (by omega)) (by simp)
    · exact (by repeat (first | refine belS ?_ (by simp) | exact HBF.out))
set_option maxHeartbeats 800000 in
theorem sDecodeProof_any (A : Option Addr) (n c : Nat) (zs : List Int) (w : World) (h : Ints w A n zs) (hk : CapW w A n c) (hn : n ≤ 2000000) :
    Calls Try.prog 36 #[.slice A n c] w (PR w (prM zs)) := by
  have hb0 : Below w.heap.size w (w.alloc (.cells #[.slice none 0 0, .slice none 0 0, .slice none 0 0] 52)) := (by repeat (first | exact Below.refl _ _ | assumption | refine belA ?_ | refine belD ?_ | refine belN ?_ | refine belS ?_ (by simp) | refine belT ?_ (by assumption)))
  have H := Lib.hid (cReadProof_any A n c zs _ (h.below hb0) ⟨hk.1, fun a e => Nat.lt_of_lt_of_le (hk.2 a e) hb0.size⟩ hn)
  clear h hk
  generalize prM zs = r at H ⊢
  obtain ⟨⟨x1, x2, x3⟩, ok⟩ := r
  go_enter Try.func36, Try.ntmps36
  go_wp2_with fail
  refine H.out.mono ?_
  rintro e w1 ⟨A1, c1, A2, c2, A3, c3, rfl, hpv, hb⟩
  obtain ⟨hc, hf⟩ := bcell hb
  simp only at hpv
  have HP := Lib.hid hpv
  have hs := hb.size
  have hlow : w.heap.size + 1 ≤ w1.heap.size := by simpa using hs
  simp only
  go_wp2
  refine bodyPost_ret (v := .tuple #[.agg #[.slice A1 x1.length c1, .slice A2 x2.length c2, .slice A3 x3.length c3], .bool ok]) (by simp [results, Try.results36, go_sem, hc]) rfl ?_
  obtain ⟨B1, B2, l1, l2, l3, o1, o2, o3⟩ := HP.out
  simp only [World.size_alloc] at l1 o1
  refine ⟨A1, c1, A2, c2, A3, c3, rfl, ⟨B1, B2, by omega, l2, by simpa using l3, ?_, ?_, ?_⟩, ?_⟩
  · exact (((o1.moved (grown_set _ _ _ _) (by omega)).moved (grown_set _ _ _ _) (by omega)).moved (grown_set _ _ _ _) (by omega)).low (by omega)
  · exact ((o2.moved (grown_set _ _ _ _) (by omega)).moved (grown_set _ _ _ _) (by omega)).moved (grown_set _ _ _ _) (by omega)
  · exact Own.top (((o3.moved (grown_set _ _ _ _) (by omega)).moved (grown_set _ _ _ _) (by omega)).moved (grown_set _ _ _ _) (by omega)) (by simp)
  · exact (by repeat (first | refine belS ?_ (by simp) | exact belT (by repeat (first | exact Below.refl _ _ | assumption | refine belA ?_ | refine belD ?_ | refine belN ?_ | refine belS ?_ (by simp) | refine belT ?_ (by assumption))) hb))
end Go.Proofs.Yteeggmnkcgpfjaa
