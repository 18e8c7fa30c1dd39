/- A slice of integers appended to a slice of the call's own; a clone. -/
import Derived.Test.YtaehldfhjfchhaaDoorAp
import Derived.Laws.AppendOwnNone
import Derived.RegionTactic
namespace Go.Proofs.YtaehldfhjfchhaaDoor
open Go.RowKit
set_option linter.unusedVariables false

theorem Ints.cellsAt {w : World} {ad : Addr} {n : Nat} {zs : List Int} (h : Ints w (some ad) n zs) : ∀ j u, (zs.map (Value.int .i64))[j]? = some u → w.cell? (ad.add j) = some u := by
  intro j u hj
  have hjl : j < zs.length := by
    have := (List.getElem?_eq_some_iff.1 hj).1
    simpa using this
  obtain ⟨b, off, e, _, hc⟩ := h.at_ (k := j) (by rw [← h.len]; exact hjl)
  injection e with e
  subst e
  rw [Addr.add_lit, hc]
  rw [List.getElem?_map, List.getElem?_eq_getElem hjl] at hj
  rw [List.getD_eq_getElem?_getD, List.getElem?_eq_getElem hjl]
  exact hj
theorem Ints.src {w : World} {A : Option Addr} {n : Nat} {zs : List Int} (h : Ints w A n zs) (hp : 0 < (zs.map (Value.int .i64)).length) : ∃ ad, A = some ad ∧ ∀ j u, (zs.map (Value.int .i64))[j]? = some u → w.cell? (ad.add j) = some u := by
  obtain ⟨b, off, e, _, _⟩ := h.2.2 (by rw [← h.len]; simpa using hp)
  subst e
  exact ⟨_, rfl, h.cellsAt⟩
theorem one_cells (zs : List Int) : ∀ u ∈ zs.map (Value.int .i64), u.oneCell' = true := by intro u hu; simp at hu; obtain ⟨z, _, rfl⟩ := hu; rfl


theorem Ints.none_len {w : World} {n : Nat} {zs : List Int} (h : Ints w none n zs) : n = 0 := by
  rcases Nat.eq_zero_or_pos n with e | e
  · exact e
  · obtain ⟨b, off, h1, _⟩ := h.2.2 e
    cases h1
set_option maxRecDepth 100000 in
theorem wp_appI {B : Nat} {W : World} {o : Oper} {a : Act} {K : Act → World → Prop} {Q : Exit → Act → World → Prop} {v : Value} {m n c : Nat} {A : Option Addr} {l zs : List Int} (s x : Operand)
    (ho : o.op = .call { callee := .builtin .append, args := #[s, x], argTypes := #[22, 22] }) (hs : a.eval s = v) (hx : a.eval x = .slice A n c)
    (hI : Ints W A n zs) (hown : W.ownsRow B 3 1 v m (l.map (Value.int .i64))) (hn : m + n ≤ 1000000000) (hB : B ≤ W.heap.size)
    (h : ∀ A' c' w', w'.ownsRow B 3 1 (.slice A' (m + n) c') (m + n) ((l ++ zs).map (Value.int .i64)) → W.grownBy w' v.ownBlock → K (a.put o.dst (.slice A' (m + n) c')) w') :
    Oper.wp Tryd.prog o a W K Q := by
  obtain ⟨i0, hi, hz0, hz1, hz2⟩ := info_parts int_info
  cases A with
  | none =>
    have hn0 := hI.none_len
    subst hn0
    have hz : zs = [] := List.eq_nil_of_length_eq_zero hI.len
    subst hz
    obtain ⟨A', c', rfl⟩ := own_shape hown
    have hrun : (Builtin.append_ #[22, 22] o.type #[.slice A' m c', .slice none 0 c]).run Tryd.prog W = .ok (.slice A' m c') W := by
      rcases hown.2 with ⟨h1, h2⟩ | ⟨g, cap, cur, h1, _, _, hnc, _⟩
      · injection h1 with e1 e2 e3
        subst e1 e2 e3
        simp [Builtin.append_, run_underlying Tryd.underlying22, sizeOf, typeInfo, hi, Builtin.lenOf, Builtin.firstCells]
      · injection h1 with e1 e2 e3
        subst e1 e3
        simp [Builtin.append_, run_underlying Tryd.underlying22, sizeOf, typeInfo, hi, Builtin.lenOf, Builtin.firstCells, hnc, storeCells]
    have h' := h A' c' W (by simpa using hown) (World.grownBy.refl _ _)
    unfold Oper.wp
    simp [execOp, ho, resolve, invoke, builtin, hs, hx, hrun, Result.andThen]
    exact h'
  | some ad =>
    refine wp_append_own _ s x 22 ho B 3 i0 (.int .i64 0) 1 8 Tryd.underlying22 hi hz0 hz1 hz2 rfl (by decide) v m _ hs hown ad n c (zs.map (Value.int .i64)) hx (by rw [List.length_map, hI.len]; omega) hI.cellsAt (one_cells zs) (by simp only [maxLen]; omega) (by omega) hB ?_
    intro v' w' hown' hg _
    obtain ⟨A', c', rfl⟩ := own_shape hown'
    exact h A' c' w' (by rw [List.map_append]; exact hown') hg
theorem appI {B : Nat} {W : World} {ops : Array Oper} {rest : List Oper} {o : Oper} {a : Act} {Q : Exit → Act → World → Prop} {v : Value} {m n c : Nat} {A : Option Addr} {l zs : List Int} (hgd : o.guard = none) (s x : Operand)
    (ho : o.op = .call { callee := .builtin .append, args := #[s, x], argTypes := #[22, 22] }) (hs : a.eval s = v) (hx : a.eval x = .slice A n c)
    (hI : Ints W A n zs) (hown : W.ownsRow B 3 1 v m (l.map (Value.int .i64))) (hn : m + n ≤ 1000000000) (hB : B ≤ W.heap.size)
    (h : ∀ A' c' w', w'.ownsRow B 3 1 (.slice A' (m + n) c') (m + n) ((l ++ zs).map (Value.int .i64)) → W.grownBy w' v.ownBlock → wpList Tryd.prog ops Q rest (a.put o.dst (.slice A' (m + n) c')) w') :
    wpList Tryd.prog ops Q (o :: rest) a W :=
  wpList_plain hgd fun K hK => wp_appI s x ho hs hx hI hown hn hB fun A' c' w' h1 h2 => hK _ _ (h A' c' w' h1 h2)
/-- the same at a step of a region that draws its order -/
theorem step_appI {B : Nat} {W : World} {ops : Array Oper} {o : Oper} {a : Act} {K : Act → World → Prop} {Q : Exit → Act → World → Prop} {E : Prop} {v : Value} {m n c : Nat} {A : Option Addr} {l zs : List Int} (hgd : o.guard = none) (s x : Operand)
    (ho : o.op = .call { callee := .builtin .append, args := #[s, x], argTypes := #[22, 22] }) (hs : a.eval s = v) (hx : a.eval x = .slice A n c)
    (hI : Ints W A n zs) (hown : W.ownsRow B 3 1 v m (l.map (Value.int .i64))) (hn : m + n ≤ 1000000000) (hB : B ≤ W.heap.size)
    (h : ∀ A' c' w', w'.ownsRow B 3 1 (.slice A' (m + n) c') (m + n) ((l ++ zs).map (Value.int .i64)) → W.grownBy w' v.ownBlock → K (a.put o.dst (.slice A' (m + n) c')) w') :
    if Region.wanted o (yielded ops a.tmps) = true then Oper.wp Tryd.prog o a W K Q else E := by
  have hw : Region.wanted o (yielded ops a.tmps) = true := by simp [Region.wanted, hgd]
  rw [if_pos hw]
  exact wp_appI s x ho hs hx hI hown hn hB h
theorem keepL {W w1 : World} {B : Nat} (hb : Below B W w1) {b i : Nat} {v : Value} (hlt : b < B) (h : W.cell? ⟨b, i, none⟩ = some v) : w1.cell? ⟨b, i, none⟩ = some v := (hb.cell (p := ⟨b, i, none⟩) hlt).trans h
theorem own_below {B : Nat} {a W w' : World} {e s n : Nat} {v : Value} {xs : List Value} (h : Below B a W) (hB : B ≤ W.heap.size) (hown : W.ownsRow B e s v n xs) (hg : W.grownBy w' v.ownBlock) : Below B a w' :=
  h.grown hg hB fun k hk => (hown.lt k hk).1
theorem own_lit1 (W : World) (B : Nat) (x : Int) (hB : B ≤ W.heap.size) : (W.alloc (.cells #[.int .i64 x] 3)).ownsRow B 3 1 (.slice (some ⟨W.heap.size, 0, none⟩) 1 1) 1 ([x].map (Value.int .i64)) :=
  World.ownsRow_lit W #[.int .i64 x] 1 hB (by simp [maxLen]) (by simp)
theorem own_lit3 (W : World) (B : Nat) (x y z : Int) (hB : B ≤ W.heap.size) : (W.alloc (.cells #[.int .i64 x, .int .i64 y, .int .i64 z] 3)).ownsRow B 3 1 (.slice (some ⟨W.heap.size, 0, none⟩) 3 3) 3 ([x, y, z].map (Value.int .i64)) :=
  World.ownsRow_lit W #[.int .i64 x, .int .i64 y, .int .i64 z] 3 hB (by simp [maxLen]) (by simp)
theorem own_lit3' (W : World) (B H : Nat) (x y z : Int) (hH : W.heap.size = H) (hB : B ≤ H) : (W.alloc (.cells #[.int .i64 x, .int .i64 y, .int .i64 z] 3)).ownsRow B 3 1 (.slice (some ⟨H, 0, none⟩) 3 3) 3 ([x, y, z].map (Value.int .i64)) := by
  subst hH
  exact own_lit3 W B x y z hB
theorem Ints.drew {w : World} {A : Option Addr} {n : Nat} {zs : List Int} (h : Ints w A n zs) : Ints w.drew A n zs := h
theorem own_drew {w : World} {B e s n : Nat} {v : Value} {xs : List Value} (h : w.ownsRow B e s v n xs) : w.drew.ownsRow B e s v n xs := h
end Go.Proofs.YtaehldfhjfchhaaDoor
