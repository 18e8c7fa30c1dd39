/- The plain law of linear statements: what their checks, images, proofs and verifications come to, by the rows' elements alone. -/
import Derived.Test.YteeggmnkcgpfjaaGr7
import Derived.Test.YteeggmnkcgpfjaaCh
namespace Go.Proofs.Yteeggmnkcgpfjaa
open Go.RowKit
set_option linter.unusedVariables false

/-! ## by the rows' elements alone -/
def sbR (p q : Int) (rs : List (List Int)) : Bool := inB (rs.length : Int) 1 8 && inB ((rs.getD 0 []).length : Int) 1 8 && (rs.all fun x => decide (x.length = (rs.getD 0 []).length) && x.all (hasB p q))
def imgR (p q : Int) (rs : List (List Int)) (es : List Int) : List Int := (List.range rs.length).map fun j => prodK p q (rs.getD j []) es (rs.getD j []).length
theorem rowK_rows (bs : List (Option Addr × Nat × List Int)) (k : Nat) : rowK bs k = (rowsG bs).getD k [] := (rowsG_get bs k).symm
theorem sb_rows (p q : Int) (bs : List (Option Addr × Nat × List Int)) : sbB p q bs = sbR p q (rowsG bs) := by
  unfold sbB sbR
  rw [rowsG_len, rowK_rows, rowsG, List.all_map]
  rfl
theorem img_rows (p q : Int) (bs : List (Option Addr × Nat × List Int)) (es : List Int) {n : Nat} (h : n = bs.length) : imgK p q bs es n = imgR p q (rowsG bs) es := by
  subst h
  unfold imgK imgR
  rw [rowsG_len]
  simp only [rowK_rows]
theorem imgR_len (p q : Int) (rs : List (List Int)) (es : List Int) : (imgR p q rs es).length = rs.length := by simp [imgR]
def imM (p q g : Int) (rs : List (List Int)) (es : List Int) : List Int × Bool :=
  if goodB p q g && sbR p q rs && decide (es.length = (rs.getD 0 []).length) && (es.all fun e => inB e 0 (q - 1)) then (imgR p q rs es, true) else ([], false)
theorem imM_len (p q g : Int) (rs : List (List Int)) (es : List Int) : (imM p q g rs es).1.length ≤ rs.length := by
  unfold imM
  split
  · rw [imgR_len]; exact Nat.le_refl _
  · simp
/-! ## the proof of a linear statement -/
/-- the answers -/
def ansK (q e : Int) (ss cs : List Int) (k : Nat) : List Int := (List.range k).map fun j => (cs.getD j 0 + e * ss.getD j 0) % q
theorem ansK_len (q e : Int) (ss cs : List Int) (k : Nat) : (ansK q e ss cs k).length = k := by simp [ansK]
theorem ansK_succ (q e : Int) (ss cs : List Int) (k : Nat) : ansK q e ss cs k ++ [(cs.getD k 0 + e * ss.getD k 0) % q] = ansK q e ss cs (k + 1) := by simp [ansK, List.range_succ]
/-- the list that is hashed -/
def stL (rs : List (List Int)) (im C : List Int) : List Int := rs.flatten ++ im ++ C
def pvV (p q g : Int) (s : ByteArray) (rs : List (List Int)) (ss cs : List Int) : List Int × List Int × List Int :=
  (imgR p q rs cs, [chV p q g s (stL rs (imgR p q rs ss) (imgR p q rs cs))], ansK q (chV p q g s (stL rs (imgR p q rs ss) (imgR p q rs cs))) ss cs ss.length)
def plB (p q g : Int) (s : ByteArray) (rs : List (List Int)) (ss cs : List Int) : Bool :=
  goodB p q g && decide (s.size ≤ 40) && sbR p q rs && decide (ss.length = (rs.getD 0 []).length) && decide (cs.length = ss.length) && (ss.all fun e => inB e 0 (q - 1)) && (cs.all fun e => inB e 0 (q - 1))
def plM (p q g : Int) (s : ByteArray) (rs : List (List Int)) (ss cs : List Int) : (List Int × List Int × List Int) × Bool :=
  if plB p q g s rs ss cs then (pvV p q g s rs ss cs, true) else (([], [], []), false)
/-! ## its verification -/
/-- the form of a proof -/
def vfF (p q : Int) (rs : List (List Int)) (C H Z : List Int) : Bool := decide (C.length = rs.length) && decide (H.length = 1) && decide (Z.length = (rs.getD 0 []).length) && C.all (hasB p q) && Z.all (fun z => inB z 0 (q - 1))
/-- its equations -/
def vfE (p q : Int) (rs : List (List Int)) (im C Z : List Int) (e : Int) (k : Nat) : Bool := prodK p q (rs.getD k []) Z (rs.getD k []).length == mulK p [C.getD k 0, gpow p q (im.getD k 0) e] 2
def vfB (p q g : Int) (s : ByteArray) (rs : List (List Int)) (im C H Z : List Int) : Bool :=
  vfF p q rs C H Z && (H.getD 0 0 == chV p q g s (stL rs im C)) && (List.range rs.length).all fun k => vfE p q rs im C Z (H.getD 0 0) k
def vlB (p q g : Int) (s : ByteArray) (rs : List (List Int)) (im : List Int) : Bool := goodB p q g && decide (s.size ≤ 40) && sbR p q rs && decide (im.length = rs.length) && im.all (hasB p q)
def vlM (p q g : Int) (s : ByteArray) (rs : List (List Int)) (im C H Z : List Int) : Bool × Bool :=
  if vlB p q g s rs im then (vfB p q g s rs im C H Z, true) else (false, false)
/-! ## the list that is hashed may be hashed -/
theorem has_dig {p q g x : Int} (hg : goodB p q g = true) (h : hasB p q x = true) : digB x = true := by
  obtain ⟨g1, g2, g3, g4, g5, g6⟩ := good_om hg
  have := has_small h
  exact inB_mk (by omega) (by omega)
theorem all_dig {p q g : Int} {l : List Int} (hg : goodB p q g = true) (h : l.all (hasB p q) = true) : digsB l = true := by
  unfold digsB
  rw [List.all_eq_true] at h ⊢
  exact fun x hx => has_dig hg (h x hx)
theorem small_dig {p q g : Int} {l : List Int} (hg : goodB p q g = true) (h : ∀ z ∈ l, Small p z) : digsB l = true := by
  obtain ⟨g1, g2, g3, g4, g5, g6⟩ := good_om hg
  unfold digsB
  rw [List.all_eq_true]
  intro x hx
  have := h x hx
  exact inB_mk this.1 (by have := this.2; omega)
theorem digs_app {a b : List Int} (h1 : digsB a = true) (h2 : digsB b = true) : digsB (a ++ b) = true := by
  unfold digsB at *
  rw [List.all_append, h1, h2]
  rfl
theorem flat_digs {p q g : Int} {bs : List (Option Addr × Nat × List Int)} (hg : goodB p q g = true) (h : sbB p q bs = true) : digsB (flatG bs) = true := by
  have hs := SB.of h
  unfold digsB
  rw [List.all_eq_true]
  intro x hx
  obtain ⟨l, hl, hxl⟩ := List.mem_flatten.1 hx
  obtain ⟨r, hr, rfl⟩ := List.mem_map.1 hl
  obtain ⟨k, hk, rfl⟩ := List.getElem_of_mem hr
  have := (hs.all k hk).2
  unfold rowK at this
  rw [List.getD_eq_getElem?_getD, List.getElem?_eq_getElem hk] at this
  exact has_dig hg (List.all_eq_true.1 this x hxl)
theorem img_small {p q g : Int} (hg : goodB p q g = true) (bs : List (Option Addr × Nat × List Int)) (es : List Int) (n : Nat) : ∀ z ∈ imgK p q bs es n, Small p z := by
  obtain ⟨g1, g2, g3, g4, g5, g6⟩ := good_om hg
  intro z hz
  obtain ⟨j, _, rfl⟩ := List.mem_map.1 hz
  exact prodK_bd _ _ (by omega) _
theorem st_lb {p q g : Int} {s : ByteArray} {a b c : List Int} (hs : s.size ≤ 40) (h1 : digsB a = true) (h2 : digsB b = true) (h3 : digsB c = true) (l1 : a.length ≤ 64) (l2 : b.length ≤ 8) (l3 : c.length ≤ 8) : lbB s (a ++ b ++ c) 3 = true := by
  unfold lbB
  rw [digs_app (digs_app h1 h2) h3, decide_eq_true hs, decide_eq_true (by simp only [List.length_append]; omega)]
  rfl
end Go.Proofs.Yteeggmnkcgpfjaa
