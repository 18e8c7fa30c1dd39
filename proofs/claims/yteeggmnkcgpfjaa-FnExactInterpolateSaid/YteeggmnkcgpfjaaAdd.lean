/- AddPolys: contracts of both sides. -/
import Derived.Test.YteeggmnkcgpfjaaMul2
import Derived.Test.YteeggmnkcgpfjaaApI
import Derived.Laws.CopyOwn
namespace Go.Proofs.Yteeggmnkcgpfjaa
open Go.RowKit
set_option linter.unusedVariables false

def addK (q : Int) (L G : List Int) : Nat → List Int
  | 0 => L
  | k + 1 => (addK q L G k).set k (((addK q L G k).getD k 0 + G.getD k 0) % q)
theorem addK_len (q : Int) (L G : List Int) : ∀ k, (addK q L G k).length = L.length
  | 0 => rfl
  | k + 1 => by rw [addK, List.length_set, addK_len q L G k]
theorem addK_res {q : Int} {L G : List Int} (hq : 0 < q) (h : Res q L) : ∀ k, Res q (addK q L G k)
  | 0 => h
  | k + 1 => (addK_res hq h k).set (Int.emod_nonneg _ (by omega)) (Int.emod_lt_of_pos _ hq)
theorem addK_get {q : Int} {L G : List Int} : ∀ k j, k ≤ L.length → j < L.length → (addK q L G k).getD j 0 = if j < k then (L.getD j 0 + G.getD j 0) % q else L.getD j 0
  | 0, j, _, _ => by simp [addK]
  | k + 1, j, hk, hj => by
    rw [addK]
    by_cases e : k = j
    · subst e
      rw [getD_set_same (by rw [addK_len]; exact hj), addK_get k k (by omega) hj, if_neg (by omega), if_pos (by omega)]
    · rw [getD_set_ne e, addK_get k j (by omega) hj]
      by_cases h : j < k
      · rw [if_pos h, if_pos (by omega)]
      · rw [if_neg h, if_neg (by omega)]
def padL (f : List Int) (n : Nat) : List Int := f ++ List.replicate (n - f.length) 0
theorem padL_len {f : List Int} {n : Nat} (h : f.length ≤ n) : (padL f n).length = n := by simp [padL]; omega
theorem padL_get {f : List Int} {n j : Nat} : (padL f n).getD j 0 = f.getD j 0 := by
  unfold padL
  by_cases h : j < f.length
  · rw [List.getD_eq_getElem?_getD, List.getD_eq_getElem?_getD, List.getElem?_append_left h]
  · rw [List.getD_eq_getElem?_getD, List.getD_eq_getElem?_getD, List.getElem?_append_right (by omega), List.getElem?_eq_none (l := f) (by omega), List.getElem?_replicate]
    split <;> rfl
theorem padL_res {q : Int} {f : List Int} {n : Nat} (hq : 0 < q) (h : Res q f) : Res q (padL f n) := fun j _ => by rw [padL_get]; exact h.getD j hq
def addL (q : Int) (f g : List Int) : List Int := addK q (padL f (max f.length g.length)) g g.length
theorem addL_len (q : Int) (f g : List Int) : (addL q f g).length = max f.length g.length := by rw [addL, addK_len, padL_len (by omega)]
theorem ext_getD {l m : List Int} (h : l.length = m.length) (hj : ∀ j, j < l.length → l.getD j 0 = m.getD j 0) : l = m := eq_lists rfl h.symm hj
/-- the longer one is the base -/
theorem addL_long {q : Int} {f g : List Int} (h : g.length ≤ f.length) : addL q f g = addK q f g g.length := by
  have e : padL f (max f.length g.length) = f := by
    unfold padL
    rw [show max f.length g.length - f.length = 0 by omega]
    simp
  rw [addL, e]
theorem addL_short {q : Int} {f g : List Int} (h : f.length ≤ g.length) (hq : 0 < q) (hg : Res q g) : addL q f g = addK q g f f.length := by
  apply ext_getD
  · rw [addL_len, addK_len]; omega
  intro j hj
  rw [addL_len] at hj
  have hj' : j < g.length := by omega
  rw [addL, addK_get _ _ (by rw [padL_len (by omega)]; omega) (by rw [padL_len (by omega)]; omega), if_pos hj', padL_get, addK_get _ _ (by omega) hj']
  by_cases e : j < f.length
  · rw [if_pos e, Int.add_comm]
  · rw [if_neg e]
    have : f.getD j 0 = 0 := by rw [List.getD_eq_getElem?_getD, List.getElem?_eq_none (by omega)]; rfl
    rw [this, Int.zero_add, Int.emod_eq_of_lt (hg.getD j hq).1 (hg.getD j hq).2]
def adM (q : Int) (f g : List Int) : List Int × Bool := if polyB q f && polyB q g then (addL q f g, true) else ([], false)
theorem adM_len (q : Int) (f g : List Int) : (adM q f g).1.length ≤ max f.length g.length := by
  unfold adM
  split
  · show (addL q f g).length ≤ _
    rw [addL_len]
    exact Nat.le_refl _
  · simp


set_option maxRecDepth 100000 in
set_option maxHeartbeats 400000 in
theorem l1Most_any (a b : Nat) (w : World) : Calls Try.prog 174 #[.int .i64 (a : Int), .int .i64 (b : Int)] w fun e w' => e = .returned (.int .i64 ((max a b : Nat) : Int)) ∧ w = w' := by
  by_cases h : b < a
  · have e : ((max a b : Nat) : Int) = (a : Int) := by omega
    have h' : (b : Int) < (a : Int) := by omega
    have HE := Lib.hid e
    clear e h
    go_enter Try.func174, Try.ntmps174
    go_wp2
    go_ret
    exact ⟨ret_int HE.out.symm, rfl⟩
  · have e : ((max a b : Nat) : Int) = (b : Int) := by omega
    have h' : ¬ (b : Int) < (a : Int) := by omega
    have HE := Lib.hid e
    clear e h
    go_enter Try.func174, Try.ntmps174
    go_wp2
    go_ret
    exact ⟨ret_int HE.out.symm, rfl⟩

theorem own_row {w : World} {B g n : Nat} {xs : List Value} (h : w.ownsRow B 3 1 (.slice (some ⟨g, 0, none⟩) n n) n xs) : w.heap[g]? = some (.cells xs.toArray 3 (0, 0)) := by
  rcases h.2 with ⟨h1, _⟩ | ⟨g', cap, cur, h1, _, hg, _, _, hs, ht⟩
  · cases h1
  · simp only [Value.slice.injEq, Option.some.injEq, Addr.mk.injEq, and_true, true_and] at h1
    obtain ⟨rfl, rfl⟩ := h1
    rw [hg]
    have : xs.toArray = cur := by
      rw [← ht, List.take_of_length_le (by rw [Array.length_toList, hs]; exact Nat.le_refl _)]
    rw [this]
theorem row_own {w : World} {B g n : Nat} {xs : List Value} (h : w.heap[g]? = some (.cells xs.toArray 3 (0, 0))) (hl : xs.length = n) (hB : B ≤ g) (hn : n ≤ maxLen) : w.ownsRow B 3 1 (.slice (some ⟨g, 0, none⟩) n n) n xs :=
  ⟨by rw [hl, Nat.mul_one], .inr ⟨g, n, xs.toArray, rfl, hB, h, Nat.le_refl _, hn, by simp [hl], by rw [List.toList_toArray, List.take_of_length_le (by rw [hl, Nat.mul_one]; exact Nat.le_refl _)]⟩⟩
theorem splice_pad (f : List Int) (n : Nat) (h : f.length ≤ n) : splice ((List.replicate n (0 : Int)).map (Value.int .i64)) 0 (f.map (Value.int .i64)) = (padL f n).map (Value.int .i64) := by
  simp [splice, padL, List.drop_replicate]

theorem copyPad {w : World} {ops : Array Oper} {rest : List Oper} {o : Oper} {a : Act} {Q : Exit → Act → World → Prop} {A : Option Addr} {c N g : Nat} {f : List Int} (hgd : o.guard = none) (d s : Operand)
    (ho : o.op = .call { callee := .builtin .copy, args := #[d, s], argTypes := #[24, 24] }) (hd : a.eval d = .slice (some ⟨g, 0, none⟩) N N) (hs : a.eval s = .slice A f.length c) (B : Nat) (w0 : World)
    (hown : w.ownsRow B 3 1 (.slice (some ⟨g, 0, none⟩) N N) N ((List.replicate N (0 : Int)).map (Value.int .i64))) (hI : Ints w A f.length f) (hle : f.length ≤ N) (hN : N ≤ 1000000000) (hb : Below B w0 w)
    (h : ∀ w', Hid (w'.ownsRow B 3 1 (.slice (some ⟨g, 0, none⟩) N N) N ((padL f N).map (Value.int .i64))) → Below B w0 w' → wpList Try.prog ops Q rest (a.put o.dst (goInt f.length)) w') :
    wpList Try.prog ops Q (o :: rest) a w := by
  obtain ⟨i0, hi, hz0, hz1, hz2⟩ := info_parts int_info
  refine wpList_copy_splice hgd d s _ _ ho 3 Try.underlying24 (by rw [hi]; simp [hz1]) _ _ _ _ _ _ hd hs g 0 _ 3 (own_row hown) (f.map (Value.int .i64)) (by rw [List.length_map]; exact (Nat.min_eq_left hle).symm) (fun hp => ⟨rfl, hI.src hp⟩) (by rw [List.length_map, List.length_map, List.length_replicate]; omega) (one_cells f) B w0 hb (own_base hown) ?_
  intro w' hg' hb'
  rw [List.length_map]
  refine h w' (Lib.hid ?_) hb'
  have := hg'.out
  rw [splice_pad f N hle] at this
  exact row_own this (by rw [List.length_map, padL_len hle]) (own_base hown) (by simp only [maxLen]; omega)

set_option maxRecDepth 100000 in
set_option maxHeartbeats 1600000 in
theorem yAdd_any (q : Int) (A : Option Addr) (n c : Nat) (f : List Int) (A' : Option Addr) (n' c' : Nat) (g : List Int) (w : World) (h : Ints w A n f) (h' : Ints w A' n' g) (m1 : 2 ≤ q) (m2 : q ≤ 2000000000)
    (hf : Res q f) (hg : Res q g) (hn : n ≤ 1000000) (hn' : n' ≤ 1000000) :
    Calls Try.prog 142 #[.int .i64 q, .slice A n c, .slice A' n' c'] w fun e w' => ∃ B cc, e = .returned (.slice B (addL q f g).length cc) ∧ w'.ownsRow w.heap.size 3 1 (.slice B (addL q f g).length cc) (addL q f g).length ((addL q f g).map (Value.int .i64)) ∧ Below w.heap.size w w' := by
  have hl := h.len
  subst hl
  have hl := h'.len
  subst hl
  have HI := Lib.hid h
  have HI' := Lib.hid h'
  have HG := Lib.hid hg
  have HR := Lib.hid (show addL q f g = addK q (padL f (max f.length g.length)) g g.length from rfl)
  have HLen := Lib.hid (addL_len q f g)
  have HRes := Lib.hid (padL_res (n := max f.length g.length) (show 0 < q by omega) hf)
  have HSp := Lib.hid (splice_pad f (max f.length g.length) (by omega))
  have HPl := Lib.hid (padL_len (f := f) (n := max f.length g.length) (by omega))
  clear h h' hf hg
  have hmx1 : f.length ≤ max f.length g.length := by omega
  have hmx2 : g.length ≤ max f.length g.length := by omega
  have hmx3 : max f.length g.length ≤ 1000000 := by omega
  have HM := Lib.hid (l1Most_any f.length g.length)
  generalize max f.length g.length = N at HR HLen HRes HSp HPl HM hmx1 hmx2 hmx3
  have hne : (q == 0) = false := by simp; omega
  obtain ⟨i0, hi, hz0, hz1, hz2⟩ := info_parts int_info
  go_enter Try.func142, Try.ntmps142
  go_wp2_with (first | (go_at_call 174; refine (HM.out _).mono ?_; rintro e w' ⟨rfl, rfl⟩) | (at_make; refine wpList_make_full _ rfl _ _ 24 rfl w.heap.size 3 i0 (.int .i64 0) 1 Try.underlying24 hi hz0 hz1 .i64 .i64 _ _ N rfl rfl rfl rfl (by rw [hz2]; omega) (by simp only [maxLen]; omega) (Nat.le_refl _) ?_; intro w1 hown hg; have hw0 : Below w.heap.size w w1 := (Below.refl _ _).grown hg (Nat.le_refl _) (by intro k hk; cases hk); have H0 := Lib.hid (own_zero hown); clear hown hg) | (refine copyPad (o := ⟨some 18, _, _, _, _, _⟩) rfl (.tmp 16) (.tmp 17) rfl rfl rfl w.heap.size w H0.out (HI.out.below hw0) hmx1 (by omega) hw0 ?_; intro w2 hg2 hb2))
  go_loopw [21] (fun i wr => ∃ k : Nat, k ≤ g.length ∧ i = .int .i64 k ∧ Hid (wr.ownsRow w.heap.size 3 1 (.slice (some ⟨w.heap.size, 0, none⟩) N N) N ((addK q (padL f N) g k).map (Value.int .i64))) ∧ Hid (Below w.heap.size w wr)) (fun i _ => g.length - (intOf i).toNat)
  case atStart => exact ⟨0, by omega, rfl, hg2, Lib.hid hb2⟩
  case round =>
    obtain ⟨k, hk, rfl, HO, HB⟩ := hrel
    by_cases hlt : k < g.length
    · obtain ⟨b, off, rfl, hb, hc⟩ := (HI'.out.below HB.out).at_ hlt
      obtain ⟨x1, x2⟩ := HG.out k hlt
      have hd := own_at (k := k) HO.out (by omega)
      have hfz := HO.out.frozenAt k
      obtain ⟨r1, r2⟩ := (addK_res (G := g) (show 0 < q by omega) HRes.out k).getD k (by omega)
      have HT := Lib.hid (show addK q (padL f N) g (k + 1) = (addK q (padL f N) g k).set k (((addK q (padL f N) g k).getD k 0 + g.getD k 0) % q) from rfl)
      generalize g.getD k 0 = y at hc x1 x2 HT
      generalize (addK q (padL f N) g k).getD k 0 = r at hd r1 r2 HT
      have HP := Lib.hid (own_put (k := k) (z := (r + y) % q) HO.out)
      rw [← HT.out] at HP
      go_wp2
      go_roundw
      case rel => exact ⟨k + 1, by omega, by go_num, HP, Lib.hid (belS HB.out (by simp))⟩
      case measure => simp [intOf]; omega
    · have e : k = g.length := by omega
      subst e
      go_wp2
      go_ret
      rw [HLen.out, HR.out]
      exact ⟨_, _, rfl, HO.out, HB.out⟩

theorem own_addr {w : World} {B n c : Nat} {A : Option Addr} {xs : List Value} (h : w.ownsRow B 3 1 (.slice A n c) n xs) (hn : 0 < n) : ∃ g, A = some ⟨g, 0, none⟩ := by
  rcases h.2 with ⟨h1, h2⟩ | ⟨g, cap, cur, h1, _⟩
  · omega
  · injection h1 with h1
    exact ⟨g, h1⟩

end Go.Proofs.Yteeggmnkcgpfjaa
