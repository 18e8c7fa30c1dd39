/- Slices of prime powers: appended to, compared, marked, looked at, searched. -/
import Derived.Test.YtehemfhnhjengaaCi2
import Derived.Test.YtehemfhnhjengaaLw
import Derived.Test.YtehemfhnhjengaaApI
namespace Go.Proofs.Ytehemfhnhjengaa
open Go.RowKit
set_option linter.unusedVariables false
attribute [local go_sem ↓] Go.wp_at_zero Go.wp_at_succ
set_option linter.unusedSimpArgs false
theorem cip_info : (Try.prog.info? 71).map (fun i => (i.zero, i.size, i.bytes)) = some (some (.agg #[.int .i64 0, .int .i64 0]), 2, 16) := by kernel_rfl
theorem parts_of {t : TypeId} {z : Value} {s b : Nat} (h : (Try.prog.info? t).map (fun i => (i.zero, i.size, i.bytes)) = some (some z, s, b)) : ∃ i, Try.prog.info? t = some i ∧ i.zero = some z ∧ i.size = s ∧ i.bytes = b := by
  cases hi : Try.prog.info? t with
  | none => rw [hi] at h; cases h
  | some i =>
    rw [hi] at h
    simp only [Option.map_some, Option.some.injEq, Prod.mk.injEq] at h
    exact ⟨i, rfl, h.1, h.2.1, h.2.2⟩



def cellsL (l : List (Int × Int)) : List Value := l.flatMap fun c => [Value.int .i64 c.1, Value.int .i64 c.2]
theorem cellsL_app (l : List (Int × Int)) (x y : Int) : cellsL (l ++ [(x, y)]) = cellsL l ++ [Value.int .i64 x, Value.int .i64 y] := by simp [cellsL]
theorem cellsL_len (l : List (Int × Int)) : (cellsL l).length = l.length * 2 := by
  induction l with
  | nil => rfl
  | cons a t ih => rw [show cellsL (a :: t) = [Value.int .i64 a.1, Value.int .i64 a.2] ++ cellsL t from rfl, List.length_append, ih]; simp; omega
theorem own_shapeC {w : World} {B e s n : Nat} {v : Value} {xs : List Value} (h : w.ownsRow B e s v n xs) : ∃ A c, v = .slice A n c := by
  rcases h.2 with ⟨rfl, rfl⟩ | ⟨g, cap, cur, rfl, _⟩
  · exact ⟨_, _, rfl⟩
  · exact ⟨_, _, rfl⟩
set_option maxRecDepth 100000 in
theorem step_appC {B : Nat} {W : World} {ops : Array Oper} {o : Oper} {a : Act} {K : Act → World → Prop} {Q : Exit → Act → World → Prop} {E : Prop} {v : Value} {m g : Nat} {l : List (Int × Int)} {x y : Int} (hgd : o.guard = none) (s z : Operand)
    (ho : o.op = .call { callee := .builtin .append, args := #[s, z], argTypes := #[22, 22] }) (hs : a.eval s = v) (hx : a.eval z = .slice (some ⟨g, 0, none⟩) 1 1)
    (h0 : W.cell? ⟨g, 0, none⟩ = some (.int .i64 x)) (h1 : W.cell? ⟨g, 1, none⟩ = some (.int .i64 y)) (hown : W.ownsRow B 71 2 v m (cellsL l)) (hn : m ≤ 1000000000) (hB : B ≤ W.heap.size)
    (h : ∀ A' c' w', w'.ownsRow B 71 2 (.slice A' (m + 1) c') (m + 1) (cellsL (l ++ [(x, y)])) → W.grownBy w' v.ownBlock → K (a.put o.dst (.slice A' (m + 1) c')) w') :
    if Region.wanted o (yielded ops a.tmps) = true then Oper.wp Try.prog o a W K Q else E := by
  have hw : Region.wanted o (yielded ops a.tmps) = true := by simp [Region.wanted, hgd]
  rw [if_pos hw]
  obtain ⟨i0, hi, hz0, hz1, hz2⟩ := parts_of cip_info
  have hcell : ∀ (j : Nat) (u : Value), [Value.int .i64 x, Value.int .i64 y][j]? = some u → W.cell? ((⟨g, 0, none⟩ : Addr).add j) = some u := by
    intro j u hj
    have hadd : (⟨g, 0, none⟩ : Addr).add j = ⟨g, 0 + j, none⟩ := by unfold Addr.add; split <;> simp_all
    rw [hadd, Nat.zero_add]
    rcases j with _ | _ | j
    · simp at hj; subst hj; exact h0
    · simp at hj; subst hj; exact h1
    · simp at hj
  refine wp_append_own _ s z 22 ho B 71 i0 (.agg #[.int .i64 0, .int .i64 0]) 2 16 Try.underlying22 hi hz0 hz1 hz2 rfl (by decide) v m _ hs hown ⟨g, 0, none⟩ 1 1 [.int .i64 x, .int .i64 y] hx rfl hcell (by intro u hu; simp at hu; rcases hu with rfl | rfl <;> rfl) (by simp only [maxLen]; omega) (by omega) hB ?_
  intro v' w' hown' hg _
  obtain ⟨A', c', rfl⟩ := own_shapeC hown'
  exact h A' c' w' (by rw [cellsL_app]; exact hown') hg
theorem ownC_nil (W : World) (B : Nat) : W.ownsRow B 71 2 (.slice none 0 0) 0 (cellsL []) := World.ownsRow_nil _ _ _ _
theorem ownC_empty (W : World) (B : Nat) (hB : B ≤ W.heap.size) : (W.alloc (.cells #[] 71)).ownsRow B 71 2 (.slice (some ⟨W.heap.size, 0, none⟩) 0 0) 0 (cellsL []) :=
  World.ownsRow_made W #[] 0 hB (by simp [maxLen]) (by simp)

set_option maxHeartbeats 400000 in
theorem eqPP_any (u v : Int) (w : World) :
    Calls Try.prog 53 #[.agg #[.int .i64 u, .int .i64 v], .agg #[.int .i64 u, .int .i64 v]] w fun e w' => e = .returned (.bool true) ∧ Below w.heap.size w w' := by
  go_enter Try.func53, Try.ntmps53
  go_wp2
  go_ret
  exact ⟨rfl, (by repeat (first | exact Below.refl _ _ | assumption | refine belA ?_ | refine belD ?_ | refine belN ?_ | refine belS ?_ (by simp) | refine belT ?_ (by assumption)))⟩

set_option maxHeartbeats 1600000 in
theorem eqCipherS_any (A A' : Option Addr) (n c c' : Nat) (l : List (Int × Int)) (w : World) (h : Cips w A n l) (h' : Cips w A' n l) :
    Calls Try.prog 17 #[.slice A n c, .slice A' n c'] w fun e w' => e = .returned (.bool true) ∧ Below w.heap.size w w' := by
  have hn := h.le
  have HI := Lib.hid h
  have HI' := Lib.hid h'
  clear h h'
  go_enter Try.func17, Try.ntmps17
  go_wp2
  go_loopw [5] (fun i wr => ∃ k : Nat, k ≤ n ∧ i = .int .i64 k ∧ Hid (Below w.heap.size w wr)) (fun i _ => n - (intOf i).toNat)
  case atStart => exact ⟨0, by omega, rfl, Lib.hid (Below.refl _ _)⟩
  case round =>
    obtain ⟨k, hk, rfl, HB⟩ := hrel
    by_cases hlt : k < n
    · obtain ⟨b, off, rfl, hb, hc, hd⟩ := (HI.out.below HB.out).at_ hlt
      obtain ⟨b', off', rfl, hb', hc', hd'⟩ := (HI'.out.below HB.out).at_ hlt
      generalize (l.getD k (0, 0)).1 = x at hc hc'
      generalize (l.getD k (0, 0)).2 = y at hd hd'
      have i1 : (0 : Int) ≤ (k : Int) := by omega
      have i2 : (k : Int) < (n : Int) := by omega
      go_wp2_with fail
      go_region_held3 (fun W => W.cell? ⟨b, off + k * 2, none⟩ = some (.int .i64 x) ∧ W.cell? ⟨b, off + k * 2 + 1, none⟩ = some (.int .i64 y) ∧ W.cell? ⟨b', off' + k * 2, none⟩ = some (.int .i64 x) ∧ W.cell? ⟨b', off' + k * 2 + 1, none⟩ = some (.int .i64 y)) (first | (go_split_ands; (repeat' apply And.intro) <;> first | assumption | exact keepB hb1 (by assumption) | (refine keepS (by simp <;> omega) (keepS (by simp <;> omega) ?_); assumption) | (refine keepS (by simp <;> omega) ?_; assumption) | (refine keepB (belA (Below.refl _ _)) ?_; assumption) | go_keep) | go_keep) ((go_at_call 53; refine (eqPP_any x y _).mono ?_; rintro e' w1 ⟨rfl, hb1⟩))
      all_goals go_wp2
      all_goals go_roundw
      all_goals first | (simp [intOf]; omega; done) | exact ⟨k + 1, by omega, by go_num, Lib.hid (belT (belD HB.out) hb1)⟩
    · have e : k = n := by omega
      subst e
      go_wp2
      go_ret
      exact ⟨rfl, HB.out⟩


/-- a row of ciphertexts of the call's own, of which the first k are laid -/
def RowD (W : World) (lo g n c : Nat) (l : List (Int × Int)) (k : Nat) : Prop :=
  ∃ vs : List Value, W.ownsRow lo 71 2 (.slice (some ⟨g, 0, none⟩) n c) n vs ∧ ∀ j, j < k → vs[j * 2]? = some (.int .i64 (l.getD j (0, 0)).1) ∧ vs[j * 2 + 1]? = some (.int .i64 (l.getD j (0, 0)).2)
theorem RowD.below {W W' : World} {lo g n c k : Nat} {l : List (Int × Int)} (h : RowD W lo g n c l k) (hb : Below W.heap.size W W') : RowD W' lo g n c l k := by
  obtain ⟨vs, h1, h2⟩ := h
  refine ⟨vs, h1.kept (row := none) ⟨hb.os, hb.tape, hb.output, hb.size, fun k hk _ => hb.block k hk⟩ ?_, h2⟩
  cases hv : (Value.slice (some ⟨g, 0, none⟩) n c).ownBlock <;> simp
theorem RowD.grown {W W' : World} {lo g n c k : Nat} {l : List (Int × Int)} {row : Option Nat} (h : RowD W lo g n c l k) (hg : W.grownBy W' row) (hne : some g ≠ row) : RowD W' lo g n c l k := by
  obtain ⟨vs, h1, h2⟩ := h
  exact ⟨vs, h1.kept hg (.inr hne), h2⟩
theorem RowD.at_ {W : World} {lo g n c k i : Nat} {l : List (Int × Int)} (h : RowD W lo g n c l i) (hk : k < n) : (∃ y0 y1, W.cell? ⟨g, k * 2, none⟩ = some y0 ∧ W.cell? ⟨g, k * 2 + 1, none⟩ = some y1) ∧ W.frozen? ⟨g, k * 2, none⟩ = false ∧ W.frozen? ⟨g, k * 2 + 1, none⟩ = false := by
  obtain ⟨vs, h1, h2⟩ := h
  have hl := h1.1
  refine ⟨⟨vs[k * 2]'(by omega), vs[k * 2 + 1]'(by omega), ?_, ?_⟩, h1.frozenAt _, h1.frozenAt _⟩
  · rw [h1.cellAt (k * 2) (by omega), List.getElem?_eq_getElem (by omega)]
  · rw [h1.cellAt (k * 2 + 1) (by omega), List.getElem?_eq_getElem (by omega)]
theorem RowD.put {W : World} {lo g n c k : Nat} {l : List (Int × Int)} (h : RowD W lo g n c l k) (hk : k < n) {x y : Int} (hx : l.getD k (0, 0) = (x, y)) :
    RowD ((W.setCell ⟨g, k * 2, none⟩ (.int .i64 x)).setCell ⟨g, k * 2 + 1, none⟩ (.int .i64 y)) lo g n c l (k + 1) ∧ W.grownBy ((W.setCell ⟨g, k * 2, none⟩ (.int .i64 x)).setCell ⟨g, k * 2 + 1, none⟩ (.int .i64 y)) (some g) := by
  obtain ⟨vs, h1, h2⟩ := h
  have hl := h1.1
  have s1 := h1.stored (k * 2) (.int .i64 x)
  have s2 := s1.1.stored (k * 2 + 1) (.int .i64 y)
  refine ⟨⟨(vs.set (k * 2) (.int .i64 x)).set (k * 2 + 1) (.int .i64 y), s2.1, fun j hj => ?_⟩, s1.2.trans s2.2⟩
  rcases Nat.lt_or_ge j k with d | d
  · obtain ⟨a, b⟩ := h2 j d
    refine ⟨?_, ?_⟩
    · rw [List.getElem?_set_ne (by omega), List.getElem?_set_ne (by omega)]; exact a
    · rw [List.getElem?_set_ne (by omega), List.getElem?_set_ne (by omega)]; exact b
  · have e : j = k := by omega
    subst e
    rw [hx]
    refine ⟨?_, ?_⟩
    · rw [List.getElem?_set_ne (by omega), List.getElem?_set_self (by omega)]
    · rw [List.getElem?_set_self (by simp; omega)]
theorem RowD.cips {W : World} {lo g n c : Nat} {l : List (Int × Int)} (h : RowD W lo g n c l n) (hl : l.length = n) (hn : n ≤ 9223372036854775807) : Cips W (some ⟨g, 0, none⟩) n l := by
  obtain ⟨vs, h1, h2⟩ := h
  refine ⟨hl, hn, fun _ => ⟨g, 0, rfl, (h1.lt g rfl).2, fun k hk => ?_⟩⟩
  obtain ⟨a, b⟩ := h2 k hk
  rw [Nat.zero_add, h1.cellAt (k * 2) (by omega), h1.cellAt (k * 2 + 1) (by omega)]
  exact ⟨a, b⟩

/-- ciphertexts of the call's own, in a block from lo on and below hi -/
structure OwnD (W : World) (lo hi : Nat) (A : Option Addr) (n c : Nat) (l : List (Int × Int)) : Prop where
  row : (A = none ∧ n = 0 ∧ c = 0) ∨ ∃ g, A = some ⟨g, 0, none⟩ ∧ lo ≤ g ∧ g < hi ∧ RowD W lo g n c l n
  len : l.length = n
  le : n ≤ 9223372036854775807
theorem cellsL_get (l : List (Int × Int)) : ∀ j, j < l.length → (cellsL l)[j * 2]? = some (.int .i64 (l.getD j (0, 0)).1) ∧ (cellsL l)[j * 2 + 1]? = some (.int .i64 (l.getD j (0, 0)).2) := by
  induction l with
  | nil => intro j hj; exact absurd hj (by simp)
  | cons a t ih =>
    intro j hj
    have e : cellsL (a :: t) = Value.int .i64 a.1 :: Value.int .i64 a.2 :: cellsL t := rfl
    rw [e]
    cases j with
    | zero => exact ⟨rfl, rfl⟩
    | succ j =>
      have := ih j (by simpa using hj)
      rw [show (j + 1) * 2 = j * 2 + 1 + 1 from by omega]
      simpa using this
theorem OwnD.of_own {W : World} {lo : Nat} {A : Option Addr} {n c : Nat} {l : List (Int × Int)} (h : W.ownsRow lo 71 2 (.slice A n c) n (cellsL l)) : OwnD W lo W.heap.size A n c l := by
  have hl : l.length = n := by have := h.1; rw [cellsL_len] at this; omega
  have h0 := h
  rcases h.2 with ⟨h1, h2⟩ | ⟨g, cap, cur, h1, h2, h3, h4, h5, h6, h7⟩
  · injection h1 with e1 e2 e3
    exact ⟨.inl ⟨e1, e2, e3⟩, hl, by omega⟩
  · injection h1 with e1 e2 e3
    subst e1
    exact ⟨.inr ⟨g, rfl, h2, (h0.lt g rfl).2, cellsL l, h0, fun j hj => cellsL_get l j (by omega)⟩, hl, by unfold maxLen at h5; omega⟩
section
variable {W W' : World} {lo hi : Nat} {A : Option Addr} {n c : Nat} {l : List (Int × Int)}
theorem OwnD.below (h : OwnD W lo hi A n c l) (hb : Below W.heap.size W W') : OwnD W' lo hi A n c l := by
  refine ⟨?_, h.len, h.le⟩
  rcases h.row with h1 | ⟨g, h1, h2, h3, h4⟩
  · exact .inl h1
  · exact .inr ⟨g, h1, h2, h3, h4.below hb⟩
theorem OwnD.cips (h : OwnD W lo hi A n c l) : Cips W A n l := by
  rcases h.row with ⟨h1, h2, _⟩ | ⟨g, h1, h2, h3, h4⟩
  · exact ⟨h.len, h.le, fun hn => absurd hn (by omega)⟩
  · subst h1
    exact h4.cips h.len h.le
theorem OwnD.grown {row : Option Nat} (h : OwnD W lo hi A n c l) (hg : W.grownBy W' row) (hne : ∀ k, row = some k → k < lo ∨ hi ≤ k) : OwnD W' lo hi A n c l := by
  refine ⟨?_, h.len, h.le⟩
  rcases h.row with h1 | ⟨g, h1, h2, h3, h4⟩
  · exact .inl h1
  · exact .inr ⟨g, h1, h2, h3, h4.grown hg fun e => by rcases hne g e.symm with h5 | h5 <;> omega⟩
theorem OwnD.blk (h : OwnD W lo hi A n c l) : ∀ k, (Value.slice A n c).ownBlock = some k → lo ≤ k ∧ k < hi := by
  intro k e
  rcases h.row with ⟨h1, _, _⟩ | ⟨g, h1, h2, h3, h4⟩
  · subst h1; cases e
  · subst h1
    have e' : some g = some k := e
    injection e' with e'
    subst e'
    exact ⟨h2, h3⟩
end

/-- k, k + 1, .. two in each ciphertext -/
def marksC (k : Int) (n : Nat) : List (Int × Int) := (List.range n).map fun j : Nat => (k + 2 * (j : Int), k + 2 * (j : Int) + 1)
theorem marksC_len (k : Int) (n : Nat) : (marksC k n).length = n := by simp [marksC]
theorem marksC_get (k : Int) (n j : Nat) (h : j < n) : (marksC k n).getD j (0, 0) = (k + 2 * (j : Int), k + 2 * (j : Int) + 1) := by
  simp [marksC, List.getD_eq_getElem?_getD, h]

set_option maxHeartbeats 800000 in
theorem markCipherD_any (A : Option Addr) (n c : Nat) (l : List (Int × Int)) (k : Int) (lo hi : Nat) (w : World) (h : OwnD w lo hi A n c l) (k0 : 0 ≤ k) (k1 : k ≤ 1000000000000000000) (hn : n ≤ 1000000000000000000) :
    Calls Try.prog 18 #[.slice A n c, .int .i64 k] w fun e w' => e = .returned (.int .i64 (k + 2 * (n : Int))) ∧ OwnD w' lo hi A n c (marksC k n) ∧ w.grownBy w' (Value.slice A n c).ownBlock := by
  rcases h.row with ⟨e1, e2, e3⟩ | ⟨g, h1, h2, h3, h4⟩
  · subst e1 e2 e3
    have HH : Hid (OwnD w lo hi none 0 0 (marksC k 0)) := Lib.hid ⟨.inl ⟨rfl, rfl, rfl⟩, rfl, by omega⟩
    clear h
    go_enter Try.func18, Try.ntmps18
    go_wp2
    go_loop [5, 1] (fun i q => i = .int .i64 0 ∧ q = .int .i64 k) (fun _ _ => 0)
    case atStart => exact ⟨rfl, rfl⟩
    case round =>
      obtain ⟨rfl, rfl⟩ := hrel
      go_wp2
      go_ret
      exact ⟨ret_int (by simp), HH.out, World.grownBy.refl _ _⟩
  · subst h1
    have H0 : Hid (RowD w lo g n c (marksC k n) 0) := Lib.hid (by obtain ⟨vs, h5, _⟩ := h4; exact ⟨vs, h5, fun j hj => absurd hj (by omega)⟩)
    have HB : Hid (lo ≤ g ∧ g < hi) := Lib.hid ⟨h2, h3⟩
    have hle := h.le
    clear h h2 h3 h4
    go_enter Try.func18, Try.ntmps18
    go_wp2
    go_loopw [5, 1] (fun i q wr => ∃ j : Nat, j ≤ n ∧ i = .int .i64 j ∧ q = .int .i64 (k + 2 * (j : Int)) ∧ Hid (RowD wr lo g n c (marksC k n) j) ∧ Hid (w.grownBy wr (some g))) (fun i _ _ => n - (intOf i).toNat)
    case atStart => exact ⟨0, by omega, rfl, by simp, H0, Lib.hid (World.grownBy.refl _ _)⟩
    case round =>
      obtain ⟨j, hj, rfl, rfl, H1, H2⟩ := hrel
      by_cases hlt : j < n
      · obtain ⟨⟨y0, y1, f1, f2⟩, f3, f4⟩ := H1.out.at_ hlt
        have s := H1.out.put hlt (marksC_get k n j hlt)
        have HS := Lib.hid s.1
        have HG := Lib.hid s.2
        have i1 : (0 : Int) ≤ (j : Int) := by omega
        have i2 : (j : Int) < (n : Int) := by omega
        clear s
        go_wp2
        go_roundw
        case rel => exact ⟨j + 1, by omega, by go_num, by first | (congr 1; omega) | go_num, HS, Lib.hid (H2.out.trans HG.out)⟩
        case measure => simp [intOf]; omega
      · have e : j = n := by omega
        subst e
        go_wp2
        go_ret
        exact ⟨rfl, ⟨.inr ⟨g, rfl, HB.out.1, HB.out.2, H1.out⟩, marksC_len _ _, hle⟩, H2.out⟩
set_option maxHeartbeats 800000 in
theorem heldCipherS_any (A : Option Addr) (n c : Nat) (k : Int) (w : World) (h : Cips w A n (marksC k n)) (k0 : 0 ≤ k) (k1 : k ≤ 1000000000000000000) (hn : n ≤ 1000000000000000000) :
    Calls Try.prog 19 #[.slice A n c, .int .i64 k] w fun e w' => e = .returned (.int .i64 (k + 2 * (n : Int))) ∧ Below w.heap.size w w' := by
  have HI := Lib.hid h
  clear h
  go_enter Try.func19, Try.ntmps19
  go_wp2
  go_loop [5, 1] (fun i q => ∃ j : Nat, j ≤ n ∧ i = .int .i64 j ∧ q = .int .i64 (k + 2 * (j : Int))) (fun i _ => n - (intOf i).toNat)
  case atStart => exact ⟨0, by omega, rfl, by simp⟩
  case round =>
    obtain ⟨j, hj, rfl, rfl⟩ := hrel
    by_cases hlt : j < n
    · obtain ⟨b, off, rfl, hb, hc, hd⟩ := HI.out.at_ hlt
      rw [marksC_get k n j hlt] at hc hd
      simp only at hc hd
      have i1 : (0 : Int) ≤ (j : Int) := by omega
      have i2 : (j : Int) < (n : Int) := by omega
      go_wp2
      go_round
      case rel => exact ⟨j + 1, by omega, by go_num, by first | (congr 1; omega) | go_num⟩
      case measure => simp [intOf]; omega
    · have e : j = n := by omega
      subst e
      go_wp2
      go_ret
      exact ⟨rfl, Below.refl _ _⟩

/-- ciphertexts of the call's own, and a truth value, as a result -/
def RCi (w : World) (r : List (Int × Int) × Bool) (e : Ending) (w' : World) : Prop :=
  ∃ B cc, e = .returned (.tuple #[.slice B r.1.length cc, .bool r.2]) ∧ w'.ownsRow w.heap.size 71 2 (.slice B r.1.length cc) r.1.length (cellsL r.1) ∧ Below w.heap.size w w'
theorem RCi.no {w w' : World} {r : List (Int × Int) × Bool} (hr : r = ([], false)) (hb : Below w.heap.size w w') : RCi w r (.returned (.tuple #[.slice none 0 0, .bool false])) w' := by
  subst hr
  exact ⟨none, 0, rfl, ownC_nil _ _, hb⟩
theorem RCi.yes {w w' : World} {r : List (Int × Int) × Bool} {l : List (Int × Int)} {B : Option Addr} {n cc : Nat} (hr : r = (l, true)) (hl : l.length = n) (ho : w'.ownsRow w.heap.size 71 2 (.slice B n cc) n (cellsL l)) (hb : Below w.heap.size w w') : RCi w r (.returned (.tuple #[.slice B n cc, .bool true])) w' := by
  subst hr
  subst hl
  exact ⟨B, cc, rfl, ho, hb⟩
theorem belLess {B B' : Nat} {w w' : World} (h : Below B w w') (hB : B' ≤ B) : Below B' w w' := ⟨h.os, h.tape, h.output, h.size, fun k hk => h.block k (by omega)⟩


def PaysC (g : Nat) (fi lb : Array Value) (p : Int × Int → Bool) (S : Int × Int → Prop) (w : World) : Prop :=
  ∀ (W : World) (u v : Int), Below w.heap.size w W → S (u, v) → Calls Try.prog g (fi ++ #[.agg #[.int .i64 u, .int .i64 v]] ++ lb) W fun e W' => e = .returned (.bool (p (u, v))) ∧ Below W.heap.size W W'


set_option maxHeartbeats 400000 in
theorem IndexFuncC_any (g : Nat) (fi lb : Array Value) (eg : ∀ args w, (callFunc g args).run Try.prog w = .ok (.enter g args) w) (p : Int × Int → Bool) (S : Int × Int → Prop)
    (A : Option Addr) (n c : Nat) (l : List (Int × Int)) (w : World) (h : Cips w A n l) (hS : ∀ z ∈ l, S z) (hp : PaysC g fi lb p S w) :
    Calls Try.prog 87 #[.slice A n c, .func (.func g) fi lb] w (IdxPost (l.any p) w) := by
  have hn := h.le
  have HI := Lib.hid h
  have HP := Lib.hid hp
  have HS := Lib.hid hS
  clear h hp hS
  go_enter Try.func87, Try.ntmps87
  go_wp2
  go_loopw [8] (fun i wr => ∃ k : Nat, k ≤ n ∧ i = .int .i64 k ∧ Hid (Below w.heap.size w wr) ∧ Hid (∀ j, j < k → p (l.getD j (0, 0)) = false)) (fun i _ => n - (intOf i).toNat)
  case atStart => exact ⟨0, by omega, rfl, Lib.hid (Below.refl _ _), Lib.hid fun j hj => absurd hj (by omega)⟩
  case round =>
    obtain ⟨k, hk, rfl, HB, HK⟩ := hrel
    by_cases hlt : k < n
    · obtain ⟨b, off, rfl, hb, hc, hc'⟩ := (HI.out.below HB.out).at_ hlt
      have hcall := HP.out wr (l.getD k (0, 0)).1 (l.getD k (0, 0)).2 HB.out (HS.out _ (getD_mem (by rw [HI.out.len]; exact hlt)))
      generalize hz : l.getD k (0, 0) = z at hc hc' hcall
      have HZ := Lib.hid hz
      clear hz
      obtain ⟨u, v⟩ := z
      simp only at hc hc' hcall
      have HC := Lib.hid hcall
      have i1 : (0 : Int) ≤ (k : Int) := by omega
      have i2 : (k : Int) < (n : Int) := by omega
      clear hcall
      cases hin : p (u, v)
      · go_wp2_with (go_at_fn g; refine HC.out.mono ?_; rintro e w' ⟨rfl, hb'⟩)
        go_roundw
        case rel => exact ⟨k + 1, by omega, by go_num, Lib.hid (belT HB.out hb'), Lib.hid (upto_succ HK.out (by rw [HZ.out]; exact hin))⟩
        case measure => simp [intOf]; omega
      · go_wp2_with (go_at_fn g; refine HC.out.mono ?_; rintro e w' ⟨rfl, hb'⟩)
        go_ret
        exact ⟨k, rfl, by rw [any_yes (d := (0, 0)) (p := p) HI.out.len hlt (by rw [HZ.out]; exact hin)]; simp, belT HB.out hb'⟩
    · have e : k = n := by omega
      subst e
      go_wp2
      go_ret
      exact ⟨-1, rfl, by rw [any_no (d := (0, 0)) (p := p) HI.out.len HK.out]; rfl, HB.out⟩

set_option maxHeartbeats 400000 in
theorem ContainsFuncC_any (g : Nat) (fi lb : Array Value) (eg : ∀ args w, (callFunc g args).run Try.prog w = .ok (.enter g args) w) (p : Int × Int → Bool) (S : Int × Int → Prop)
    (A : Option Addr) (n c : Nat) (l : List (Int × Int)) (w : World) (h : Cips w A n l) (hS : ∀ z ∈ l, S z) (hp : PaysC g fi lb p S w) :
    Calls Try.prog 58 #[.slice A n c, .func (.func g) fi lb] w fun e w' => e = .returned (.bool (l.any p)) ∧ Below w.heap.size w w' := by
  have H := Lib.hid (IndexFuncC_any g fi lb eg p S A n c l w h hS hp)
  clear h hS hp eg
  go_enter Try.func58, Try.ntmps58
  go_wp2_with (go_at_call 87; refine H.out.mono ?_; rintro e w' ⟨r, rfl, hr, hb⟩; have HR := Lib.hid hr; clear hr)
  go_ret
  exact ⟨ret_bool HR.out, hb⟩


theorem appC1 {B : Nat} {W : World} {ops : Array Oper} {rest : List Oper} {o : Oper} {a : Act} {Q : Exit → Act → World → Prop} {v : Value} {n g : Nat} {l : List (Int × Int)} {x y : Int} (hgd : o.guard = none) (s z : Operand)
    (ho : o.op = .call { callee := .builtin .append, args := #[s, z], argTypes := #[22, 22] }) (hs : a.eval s = v) (hx : a.eval z = .slice (some ⟨g, 0, none⟩) 1 1) (hgW : g = W.heap.size)
    (hown : W.ownsRow B 71 2 v n (cellsL l)) (hn : n ≤ 1000000000) (hB : B ≤ W.heap.size)
    (h : ∀ A' c' w', w'.ownsRow B 71 2 (.slice A' (n + 1) c') (n + 1) (cellsL (l ++ [(x, y)])) → Below B W w' → wpList Try.prog ops Q rest (a.put o.dst (.slice A' (n + 1) c')) w') :
    wpList Try.prog ops Q (o :: rest) a (W.alloc (.cells #[.int .i64 x, .int .i64 y] 71)) := by
  subst hgW
  obtain ⟨i0, hi, hz0, hz1, hz2⟩ := parts_of cip_info
  have hcell : ∀ (j : Nat) (u : Value), [Value.int .i64 x, Value.int .i64 y][j]? = some u → (W.alloc (.cells #[.int .i64 x, .int .i64 y] 71)).cell? ((⟨W.heap.size, 0, none⟩ : Addr).add j) = some u := by
    intro j u hj
    have hadd : (⟨W.heap.size, 0, none⟩ : Addr).add j = ⟨W.heap.size, 0 + j, none⟩ := by unfold Addr.add; split <;> simp_all
    rw [hadd, Nat.zero_add, cell_of_row _ W.heap.size j _ _ _ (heap_alloc_new W _)]
    simpa using hj
  refine wpList_append_own _ hgd s z 22 ho B 71 i0 (.agg #[.int .i64 0, .int .i64 0]) 2 16 Try.underlying22 hi hz0 hz1 hz2 rfl (by decide) v n _ hs (hown.alloc _) ⟨W.heap.size, 0, none⟩ 1 1 [.int .i64 x, .int .i64 y] hx rfl hcell (by intro u hu; simp at hu; rcases hu with rfl | rfl <;> rfl) (by simp only [maxLen]; omega) (by omega) (by simp; omega) ?_
  intro v' w' hown' hg _
  obtain ⟨A', c', rfl⟩ := own_shapeC hown'
  refine h A' c' w' (by rw [cellsL_app]; exact hown') ?_
  exact ((Below.refl B W).alloc hB _).grown hg (by simp; omega) fun k hk => (hown.lt k hk).1

end Go.Proofs.Ytehemfhnhjengaa
