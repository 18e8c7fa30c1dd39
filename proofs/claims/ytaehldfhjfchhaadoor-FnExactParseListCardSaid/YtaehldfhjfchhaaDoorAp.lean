/- One number appended to a slice of the call's own. -/
import Derived.Test.YtaehldfhjfchhaaDoorLw
namespace Go.Proofs.YtaehldfhjfchhaaDoor
open Go.RowKit
set_option linter.unusedVariables false

theorem app1 {B : Nat} {W : World} {ops : Array Oper} {rest : List Oper} {o : Oper} {a : Act} {Q : Exit → Act → World → Prop} {v : Value} {n : Nat} {l : List Int} {z : Int} (hgd : o.guard = none) (s x : Operand)
    (ho : o.op = .call { callee := .builtin .append, args := #[s, x], argTypes := #[22, 22] }) (hs : a.eval s = v) (hx : a.eval x = .slice (some ⟨W.heap.size, 0, none⟩) 1 1)
    (hown : W.ownsRow B 3 1 v n (l.map (Value.int .i64))) (hn : n ≤ 1000000000) (hB : B ≤ W.heap.size)
    (h : ∀ v' w', w'.ownsRow B 3 1 v' (n + 1) ((l ++ [z]).map (Value.int .i64)) → Below B W w' → wpList Tryd.prog ops Q rest (a.put o.dst v') w') :
    wpList Tryd.prog ops Q (o :: rest) a (W.alloc (.cells #[.int .i64 z] 3)) := by
  obtain ⟨i0, hi, hz0, hz1, hz2⟩ := info_parts int_info
  refine wpList_append_own _ hgd s x 22 ho B 3 i0 (.int .i64 0) 1 8 Tryd.underlying22 hi hz0 hz1 hz2 rfl (by decide) v n _ hs (hown.alloc _) ⟨W.heap.size, 0, none⟩ 1 1 [.int .i64 z] hx rfl (cell_one_new _ _ _) (by intro u hu; simp at hu; subst hu; rfl) (by simp only [maxLen]; omega) (by omega) (by simp; omega) ?_
  intro v' w' hown' hg _
  refine h v' w' (by rw [List.map_append]; exact hown') ?_
  exact ((Below.refl B W).alloc hB _).grown hg (by simp; omega) fun k hk => (hown.lt k hk).1

theorem own_shape {w : World} {B e s n : Nat} {v : Value} {xs : List Value} (h : w.ownsRow B e s v n xs) : ∃ A c, v = .slice A n c := by
  rcases h.2 with ⟨rfl, rfl⟩ | ⟨g, cap, cur, rfl, _⟩
  · exact ⟨_, _, rfl⟩
  · exact ⟨_, _, rfl⟩
theorem ownBelow {w w' : World} {B e s n : Nat} {v : Value} {xs : List Value} (h : w.ownsRow B e s v n xs) (hb : Below w.heap.size w w') : w'.ownsRow B e s v n xs :=
  h.kept (grown_of_below hb) (by cases hv : v.ownBlock <;> simp)
theorem own_empty (W : World) (B : Nat) (hB : B ≤ W.heap.size) : (W.alloc (.cells #[] 3)).ownsRow B 3 1 (.slice (some ⟨W.heap.size, 0, none⟩) 0 0) 0 (([] : List Int).map (Value.int .i64)) :=
  World.ownsRow_made W #[] 0 hB (by simp [maxLen]) (by simp)
theorem own_nil (W : World) (B : Nat) : W.ownsRow B 3 1 (.slice none 0 0) 0 (([] : List Int).map (Value.int .i64)) := World.ownsRow_nil _ _ _ _
theorem map_step {α : Type} {d : α} (g : α → Int) {zs : List α} {k : Nat} (hk : k < zs.length) : (zs.take k).map g ++ [g (zs.getD k d)] = (zs.take (k + 1)).map g := by
  rw [List.take_succ_eq_append_getElem hk, List.map_append, List.getD_eq_getElem?_getD, List.getElem?_eq_getElem hk]
  rfl
theorem map_all {α : Type} (g : α → Int) {zs : List α} : (zs.take zs.length).map g = zs.map g := by rw [List.take_of_length_le (Nat.le_refl _)]
theorem belAt {w W W' : World} (h : Below w.heap.size w W) (h2 : Below w.heap.size W W') : Below w.heap.size w W' := h.trans h2
theorem ownDown {w : World} {B B' e s n : Nat} {v : Value} {xs : List Value} (h : w.ownsRow B e s v n xs) (hB : B' ≤ B) : w.ownsRow B' e s v n xs := by
  refine ⟨h.1, ?_⟩
  rcases h.2 with h2 | ⟨g, cap, cur, h1, h2, h3⟩
  · exact .inl h2
  · exact .inr ⟨g, cap, cur, h1, Nat.le_trans hB h2, h3⟩
end Go.Proofs.YtaehldfhjfchhaaDoor
