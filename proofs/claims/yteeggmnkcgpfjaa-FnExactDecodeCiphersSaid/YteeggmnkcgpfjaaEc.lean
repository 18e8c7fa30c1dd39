/- Contracts: ciphertexts as a record, on both sides. -/
import Derived.Test.YteeggmnkcgpfjaaCi
import Derived.Test.YteeggmnkcgpfjaaRc
namespace Go.Proofs.Yteeggmnkcgpfjaa
open Go.RowKit
set_option linter.unusedVariables false
attribute [local go_sem ↓] Go.wp_at_zero Go.wp_at_succ
set_option linter.unusedSimpArgs false

theorem app2 {B : Nat} {W : World} {ops : Array Oper} {rest : List Oper} {o : Oper} {a : Act} {Q : Exit → Act → World → Prop} {v : Value} {n : Nat} {l : List Int} {z y : Int} (hgd : o.guard = none) (s x : Operand)
    (ho : o.op = .call { callee := .builtin .append, args := #[s, x], argTypes := #[24, 24] }) {g : Nat} (hs : a.eval s = v) (hx : a.eval x = .slice (some ⟨g, 0, none⟩) 2 2) (hgW : g = W.heap.size)
    (hown : W.ownsRow B 3 1 v n (l.map (Value.int .i64))) (hn : n ≤ 1000000000) (hB : B ≤ W.heap.size)
    (h : ∀ v' w', w'.ownsRow B 3 1 v' (n + 2) ((l ++ [z, y]).map (Value.int .i64)) → Below B W w' → wpList Try.prog ops Q rest (a.put o.dst v') w') :
    wpList Try.prog ops Q (o :: rest) a (W.alloc (.cells #[.int .i64 z, .int .i64 y] 3)) := by
  subst hgW
  obtain ⟨i0, hi, hz0, hz1, hz2⟩ := info_parts int_info
  have hcell : ∀ (j : Nat) (u : Value), [Value.int .i64 z, Value.int .i64 y][j]? = some u → (W.alloc (.cells #[.int .i64 z, .int .i64 y] 3)).cell? ((⟨W.heap.size, 0, none⟩ : Addr).add j) = some u := by
    intro j u hj
    have hadd : (⟨W.heap.size, 0, none⟩ : Addr).add j = ⟨W.heap.size, 0 + j, none⟩ := by unfold Addr.add; split <;> simp_all
    rw [hadd, Nat.zero_add, cell_of_row _ W.heap.size j _ _ _ (heap_alloc_new W _)]
    simpa using hj
  refine wpList_append_own _ hgd s x 24 ho B 3 i0 (.int .i64 0) 1 8 Try.underlying24 hi hz0 hz1 hz2 rfl (by decide) v n _ hs (hown.alloc _) ⟨W.heap.size, 0, none⟩ 2 2 [.int .i64 z, .int .i64 y] hx rfl hcell (by intro u hu; simp at hu; rcases hu with rfl | rfl <;> rfl) (by simp only [maxLen]; omega) (by omega) (by simp; omega) ?_
  intro v' w' hown' hg _
  refine h v' w' (by rw [List.map_append]; exact hown') ?_
  exact ((Below.refl B W).alloc hB _).grown hg (by simp; omega) fun k hk => (hown.lt k hk).1

/-- the numbers of ciphertexts, one behind the other -/
def flatC (l : List (Int × Int)) : List Int := l.flatMap fun c => [c.1, c.2]
theorem flatC_step {l : List (Int × Int)} {k : Nat} {x y : Int} (hk : k < l.length) (hx : l.getD k (0, 0) = (x, y)) : flatC (l.take k) ++ [x, y] = flatC (l.take (k + 1)) := by
  have e : l[k]'hk = (x, y) := by rw [← hx, List.getD_eq_getElem?_getD, List.getElem?_eq_getElem hk]; rfl
  rw [List.take_succ_eq_append_getElem hk, e]
  simp [flatC]
def encC (l : List (Int × Int)) : List Int := (l.length : Int) :: flatC l

set_option maxRecDepth 100000 in
set_option maxHeartbeats 1600000 in
theorem iEncodeCiphers_ri (A : Option Addr) (n c : Nat) (l : List (Int × Int)) (w : World) (h : Cips w A n l) (hn : n ≤ 2000000) :
    Calls Try.prog 82 #[.slice A n c] w (RI w (recM (encC l))) := by
  have hl := h.len
  subst hl
  have HI := Lib.hid h
  clear h
  go_enter Try.func82, Try.ntmps82
  go_wp2
  go_loopw [4, 12] (fun v i wr => ∃ k : Nat, k ≤ l.length ∧ i = .int .i64 k ∧ Hid (wr.ownsRow w.heap.size 3 1 v (1 + 2 * k) (((l.length : Int) :: flatC (l.take k)).map (Value.int .i64))) ∧ Hid (Below w.heap.size w wr)) (fun _ i _ => l.length - (intOf i).toNat)
  case atStart => exact ⟨0, by omega, rfl, Lib.hid (own_lit1 w w.heap.size _ (Nat.le_refl _)), Lib.hid (belA (Below.refl _ _))⟩
  case round =>
    obtain ⟨k, hk, rfl, HO, HB⟩ := hrel
    by_cases hlt : k < l.length
    · obtain ⟨b, off, rfl, hb, hc, hd⟩ := (HI.out.below HB.out).at_ hlt
      have hx : l.getD k (0, 0) = ((l.getD k (0, 0)).1, (l.getD k (0, 0)).2) := rfl
      generalize hx1 : (l.getD k (0, 0)).1 = x at hc hx
      generalize hy1 : (l.getD k (0, 0)).2 = y at hd hx
      have ht := Lib.hid (flatC_step hlt hx)
      have hsz := HB.out.size
      have i1 : (0 : Int) ≤ (k : Int) := by omega
      have i2 : (k : Int) < (l.length : Int) := by omega
      clear hx hx1 hy1
      go_wp2_with (at_builtin; refine app2 rfl _ _ rfl rfl rfl (by simp) (HO.out.alloc _) (by omega) (by simp; omega) ?_; intro v2 w2 hown2 hbel2; rw [List.cons_append, ht.out] at hown2)
      go_roundw
      case rel => exact ⟨k + 1, by omega, by go_num, Lib.hid (by rw [show 1 + 2 * (k + 1) = 1 + 2 * k + 2 from by omega]; exact hown2), Lib.hid ((belA HB.out).trans hbel2)⟩
      case measure => simp [intOf]; omega
    · have e : k = l.length := by omega
      subst e
      rw [List.take_of_length_le (Nat.le_refl _)] at HO
      obtain ⟨A', c', rfl⟩ := own_shape HO.out
      have h0 := HB.out
      go_wp2_with fail
      refine (record_any A' (1 + 2 * l.length) c' (encC l) _ (Ints.of_own HO.out)).mono ?_
      rintro e w1_ ⟨rfl, hb1⟩
      have hW := hb1
      obtain ⟨hc, hf⟩ := bcell hW
      go_wp2
      go_ret2
      exact RI.rec_ (ownBelow HO.out hW) (belT h0 hW)
theorem iEncodeCiphers_any (A : Option Addr) (n c : Nat) (l : List (Int × Int)) (w : World) (h : Cips w A n l) (hn : n ≤ 2000000) :
    Calls Try.prog 82 #[.slice A n c] w fun e w' => ∃ B cc, e = .returned (.tuple #[.slice B (recM (encC l)).1.length cc, .bool (recM (encC l)).2]) ∧ w'.ownsRow w.heap.size 3 1 (.slice B (recM (encC l)).1.length cc) (recM (encC l)).1.length ((recM (encC l)).1.map (Value.int .i64)) ∧ Below w.heap.size w w' :=
  iEncodeCiphers_ri A n c l w h hn
end Go.Proofs.Yteeggmnkcgpfjaa
