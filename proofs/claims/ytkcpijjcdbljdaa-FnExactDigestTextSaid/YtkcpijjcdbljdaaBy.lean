/- Bytes: a byte appended to a slice of the call's own; bytes that become a text. -/
import Derived.Test.YtkcpijjcdbljdaaAp
import Derived.Laws.BytesArg
namespace Go.Proofs.Ytkcpijjcdbljdaa
open Go.RowKit
set_option linter.unusedVariables false

theorem byte_info : (Try.prog.info? 5).map (fun i => (i.zero, i.size, i.bytes)) = some (some (.int .u8 0), 1, 1) := by kernel_rfl
theorem byte_new (W : World) (z : Int) : ∀ (j : Nat) (u : Value), [Value.int .u8 z][j]? = some u → (W.alloc (.cells #[.int .u8 z] 5)).cell? ((⟨W.heap.size, 0, none⟩ : Addr).add j) = some u := by
  intro j u hj
  have hadd : (⟨W.heap.size, 0, none⟩ : Addr).add j = ⟨W.heap.size, 0 + j, none⟩ := by unfold Addr.add; split <;> simp_all
  rw [hadd, Nat.zero_add, cell_of_row _ W.heap.size j _ _ _ (heap_alloc_new W _)]
  simpa using hj
/-- one byte appended -/
theorem appB {B : Nat} {W : World} {ops : Array Oper} {rest : List Oper} {o : Oper} {a : Act} {Q : Exit → Act → World → Prop} {v : Value} {n : Nat} {l : List Int} {z : Int} (hgd : o.guard = none) (s x : Operand)
    (ho : o.op = .call { callee := .builtin .append, args := #[s, x], argTypes := #[51, 51] }) (hs : a.eval s = v) (hx : a.eval x = .slice (some ⟨W.heap.size, 0, none⟩) 1 1)
    (hown : W.ownsRow B 5 1 v n (l.map (Value.int .u8))) (hn : n ≤ 1000000000) (hB : B ≤ W.heap.size)
    (h : ∀ v' w', w'.ownsRow B 5 1 v' (n + 1) ((l ++ [z]).map (Value.int .u8)) → Below B W w' → wpList Try.prog ops Q rest (a.put o.dst v') w') :
    wpList Try.prog ops Q (o :: rest) a (W.alloc (.cells #[.int .u8 z] 5)) := by
  obtain ⟨i0, hi, hz0, hz1, hz2⟩ := info_parts byte_info
  refine wpList_append_own _ hgd s x 51 ho B 5 i0 (.int .u8 0) 1 1 Try.underlying51 hi hz0 hz1 hz2 rfl (by decide) v n _ hs (hown.alloc _) ⟨W.heap.size, 0, none⟩ 1 1 [.int .u8 z] hx rfl (byte_new W z) (by intro u hu; simp at hu; subst hu; rfl) (by simp only [maxLen]; omega) (by omega) (by simp; omega) ?_
  intro v' w' hown' hg _
  refine h v' w' (by rw [List.map_append]; exact hown') ?_
  exact ((Below.refl B W).alloc hB _).grown hg (by simp; omega) fun k hk => (hown.lt k hk).1
/-- the same, and what else has grown -/
theorem appBg {B : Nat} {W : World} {ops : Array Oper} {rest : List Oper} {o : Oper} {a : Act} {Q : Exit → Act → World → Prop} {v : Value} {n : Nat} {l : List Int} {z : Int} (hgd : o.guard = none) (s x : Operand)
    (ho : o.op = .call { callee := .builtin .append, args := #[s, x], argTypes := #[51, 51] }) (hs : a.eval s = v) (hx : a.eval x = .slice (some ⟨W.heap.size, 0, none⟩) 1 1)
    (hown : W.ownsRow B 5 1 v n (l.map (Value.int .u8))) (hn : n ≤ 1000000000) (hB : B ≤ W.heap.size)
    (h : ∀ v' w', w'.ownsRow B 5 1 v' (n + 1) ((l ++ [z]).map (Value.int .u8)) → Below B W w' → W.grownBy w' v.ownBlock → wpList Try.prog ops Q rest (a.put o.dst v') w') :
    wpList Try.prog ops Q (o :: rest) a (W.alloc (.cells #[.int .u8 z] 5)) := by
  obtain ⟨i0, hi, hz0, hz1, hz2⟩ := info_parts byte_info
  refine wpList_append_own _ hgd s x 51 ho B 5 i0 (.int .u8 0) 1 1 Try.underlying51 hi hz0 hz1 hz2 rfl (by decide) v n _ hs (hown.alloc _) ⟨W.heap.size, 0, none⟩ 1 1 [.int .u8 z] hx rfl (byte_new W z) (by intro u hu; simp at hu; subst hu; rfl) (by simp only [maxLen]; omega) (by omega) (by simp; omega) ?_
  intro v' w' hown' hg _
  have h0 : Below W.heap.size W (W.alloc (.cells #[.int .u8 z] 5)) := belA (Below.refl _ _)
  refine h v' w' (by rw [List.map_append]; exact hown') ?_ ⟨hg.os.trans h0.os, hg.tape.trans h0.tape, hg.output.trans h0.output, Nat.le_trans h0.size hg.size, fun k hk hne => (hg.block k (Nat.lt_of_lt_of_le hk h0.size) hne).trans (h0.block k hk)⟩
  exact ((Below.refl B W).alloc hB _).grown hg (by simp; omega) fun k hk => (hown.lt k hk).1
/-- rows of elements of different types lie in different blocks -/
theorem own_apart {W : World} {B B' e e' s s' n n' : Nat} {v v' : Value} {xs xs' : List Value} (h : W.ownsRow B e s v n xs) (h' : W.ownsRow B' e' s' v' n' xs') (he : e ≠ e') : v.ownBlock = none ∨ v.ownBlock ≠ v'.ownBlock := by
  rcases h.2 with ⟨rfl, _⟩ | ⟨g, cap, cur, rfl, _, h3, _⟩
  · exact .inl rfl
  · right
    rcases h'.2 with ⟨rfl, _⟩ | ⟨g', cap', cur', rfl, _, h3', _⟩
    · intro c; cases c
    · intro c
      have c' : some g = some g' := c
      injection c' with c'
      subst c'
      rw [h3] at h3'
      injection h3' with q
      injection q with q1 q2 q3
      exact he q2
theorem ownB_empty (W : World) (B : Nat) (hB : B ≤ W.heap.size) : (W.alloc (.cells #[] 5)).ownsRow B 5 1 (.slice (some ⟨W.heap.size, 0, none⟩) 0 0) 0 (([] : List Int).map (Value.int .u8)) :=
  World.ownsRow_made W #[] 0 hB (by simp [maxLen]) (by simp)
theorem ownB_put {w : World} {B g n c k : Nat} {zs : List Int} {z : Int} (h : w.ownsRow B 5 1 (.slice (some ⟨g, 0, none⟩) n c) n (zs.map (Value.int .u8))) :
    (w.setCell ⟨g, k, none⟩ (.int .u8 z)).ownsRow B 5 1 (.slice (some ⟨g, 0, none⟩) n c) n ((zs.set k z).map (Value.int .u8)) := by
  have := (h.stored k (.int .u8 z)).1
  rwa [← List.map_set] at this
theorem ownB_at {w : World} {B g n c k : Nat} {zs : List Int} (h : w.ownsRow B 5 1 (.slice (some ⟨g, 0, none⟩) n c) n (zs.map (Value.int .u8))) (hk : k < n) :
    w.cell? ⟨g, k, none⟩ = some (.int .u8 (zs.getD k 0)) := by
  have hl : zs.length = n := by have := h.1; simpa using this
  rw [h.cellAt k (by omega), List.getElem?_map, List.getD_eq_getElem?_getD, List.getElem?_eq_getElem (by omega)]
  rfl
theorem ownB_zero {w : World} {B g n c : Nat} (h : w.ownsRow B 5 1 (.slice (some ⟨g, 0, none⟩) n c) n (madeCells (Value.int .u8 0).cells (n * 1)).toList) :
    w.ownsRow B 5 1 (.slice (some ⟨g, 0, none⟩) n c) n ((List.replicate n (0 : Int)).map (Value.int .u8)) := by
  rw [Nat.mul_one, show (Value.int .u8 0).cells = #[.int .u8 0] from rfl, toList_madeCells_one] at h
  simpa using h
set_option maxRecDepth 100000 in
/-- bytes of the call's own become a text -/
theorem conv_own {W : World} {B n c : Nat} {A : Option Addr} {l : List Int} (h : W.ownsRow B 5 1 (.slice A n c) n (l.map (Value.int .u8))) :
    (convert 51 9 (.slice A n c)).run Try.prog W = .ok (.string (strOfNums l)) W := by
  have hl : l.length = n := by have := h.1; simpa using this
  have h0 := h
  rcases h.2 with ⟨h1, h2⟩ | ⟨g, cap, cur, h1, h2, h3, h4, h5, h6, h7⟩
  · injection h1 with e1 e2 e3
    subst e1 e2 e3
    have : l = [] := List.eq_nil_of_length_eq_zero hl
    subst this
    exact run_convert_bytes_nil W 51 5 Try.underlying51 Try.underlying5 0 0 9 Try.underlying9
  · injection h1 with e1 e2 e3
    subst e1
    exact run_convert_bytes_arg W 51 5 Try.underlying51 Try.underlying5 g 0 n c l hl (fun i hi => by rw [Nat.zero_add]; exact ownB_at h0 hi) 9 Try.underlying9
end Go.Proofs.Ytkcpijjcdbljdaa
