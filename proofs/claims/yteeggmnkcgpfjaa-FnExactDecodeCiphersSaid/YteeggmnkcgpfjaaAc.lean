/- One ciphertext appended to a slice of the call's own. -/
import Derived.Test.YteeggmnkcgpfjaaCl
import Derived.Test.YteeggmnkcgpfjaaRc
namespace Go.Proofs.Yteeggmnkcgpfjaa
open Go.RowKit
set_option linter.unusedVariables false

def cellsL (l : List (Int × Int)) : List Value := l.flatMap fun c => [Value.int .i64 c.1, Value.int .i64 c.2]
theorem cellsL_app (l : List (Int × Int)) (x y : Int) : cellsL (l ++ [(x, y)]) = cellsL l ++ [Value.int .i64 x, Value.int .i64 y] := by simp [cellsL]
theorem cellsL_len (l : List (Int × Int)) : (cellsL l).length = l.length * 2 := by
  induction l with
  | nil => rfl
  | cons a t ih => rw [show cellsL (a :: t) = [Value.int .i64 a.1, Value.int .i64 a.2] ++ cellsL t from rfl, List.length_append, ih]; simp; omega
theorem own_shapeC {w : World} {B e s n : Nat} {v : Value} {xs : List Value} (h : w.ownsRow B e s v n xs) : ∃ A c, v = .slice A n c := by
  rcases h.2 with ⟨rfl, rfl⟩ | ⟨g, cap, cur, rfl, _⟩
  · exact ⟨_, _, rfl⟩
  · exact ⟨_, _, rfl⟩
set_option maxRecDepth 100000 in
theorem step_appC {B : Nat} {W : World} {ops : Array Oper} {o : Oper} {a : Act} {K : Act → World → Prop} {Q : Exit → Act → World → Prop} {E : Prop} {v : Value} {m g : Nat} {l : List (Int × Int)} {x y : Int} (hgd : o.guard = none) (s z : Operand)
    (ho : o.op = .call { callee := .builtin .append, args := #[s, z], argTypes := #[46, 46] }) (hs : a.eval s = v) (hx : a.eval z = .slice (some ⟨g, 0, none⟩) 1 1)
    (h0 : W.cell? ⟨g, 0, none⟩ = some (.int .i64 x)) (h1 : W.cell? ⟨g, 1, none⟩ = some (.int .i64 y)) (hown : W.ownsRow B 104 2 v m (cellsL l)) (hn : m ≤ 1000000000) (hB : B ≤ W.heap.size)
    (h : ∀ A' c' w', w'.ownsRow B 104 2 (.slice A' (m + 1) c') (m + 1) (cellsL (l ++ [(x, y)])) → W.grownBy w' v.ownBlock → K (a.put o.dst (.slice A' (m + 1) c')) w') :
    if Region.wanted o (yielded ops a.tmps) = true then Oper.wp Try.prog o a W K Q else E := by
  have hw : Region.wanted o (yielded ops a.tmps) = true := by simp [Region.wanted, hgd]
  rw [if_pos hw]
  obtain ⟨i0, hi, hz0, hz1, hz2⟩ := parts_of cip_info
  have hcell : ∀ (j : Nat) (u : Value), [Value.int .i64 x, Value.int .i64 y][j]? = some u → W.cell? ((⟨g, 0, none⟩ : Addr).add j) = some u := by
    intro j u hj
    have hadd : (⟨g, 0, none⟩ : Addr).add j = ⟨g, 0 + j, none⟩ := by unfold Addr.add; split <;> simp_all
    rw [hadd, Nat.zero_add]
    rcases j with _ | _ | j
    · simp at hj; subst hj; exact h0
    · simp at hj; subst hj; exact h1
    · simp at hj
  refine wp_append_own _ s z 46 ho B 104 i0 (.agg #[.int .i64 0, .int .i64 0]) 2 16 Try.underlying46 hi hz0 hz1 hz2 rfl (by decide) v m _ hs hown ⟨g, 0, none⟩ 1 1 [.int .i64 x, .int .i64 y] hx rfl hcell (by intro u hu; simp at hu; rcases hu with rfl | rfl <;> rfl) (by simp only [maxLen]; omega) (by omega) hB ?_
  intro v' w' hown' hg _
  obtain ⟨A', c', rfl⟩ := own_shapeC hown'
  exact h A' c' w' (by rw [cellsL_app]; exact hown') hg
theorem ownC_nil (W : World) (B : Nat) : W.ownsRow B 104 2 (.slice none 0 0) 0 (cellsL []) := World.ownsRow_nil _ _ _ _
theorem ownC_empty (W : World) (B : Nat) (hB : B ≤ W.heap.size) : (W.alloc (.cells #[] 104)).ownsRow B 104 2 (.slice (some ⟨W.heap.size, 0, none⟩) 0 0) 0 (cellsL []) :=
  World.ownsRow_made W #[] 0 hB (by simp [maxLen]) (by simp)
end Go.Proofs.Yteeggmnkcgpfjaa
