/- Contracts: groups that are drawn. -/
import Derived.Test.YteeggmnkcgpfjaaDr
import Derived.Test.YteeggmnkcgpfjaaTe
import Derived.Test.YteeggmnkcgpfjaaEo
namespace Go.Proofs.Yteeggmnkcgpfjaa
open Go.RowKit
set_option linter.unusedVariables false
attribute [local go_sem ↓] Go.wp_at_zero Go.wp_at_succ
set_option linter.unusedSimpArgs false

theorem Cur.above {W : World} {b k a i : Nat} {v : Value} (h : Cur W b k) (ha : b < a) : Cur (W.setCell ⟨a, i, none⟩ v) b k := by
  obtain ⟨A, n, c, zs, x, s, h1, h2, h3, ⟨e1, e2, e3, e4⟩, h5⟩ := h.c
  refine ⟨⟨A, n, c, zs, x, s, keepS (by first | omega | (simp only; omega) | (simp; omega)) h1, keepS (by first | omega | (simp only; omega) | (simp; omega)) h2, keepS (by first | omega | (simp only; omega) | (simp; omega)) h3, ⟨e1, e2, e3, fun hn => ?_⟩, h5⟩, ?_, ?_⟩
  · obtain ⟨bb, off, e, hlt, hc⟩ := e4 hn
    exact ⟨bb, off, e, hlt, fun j hj => keepS (by first | omega | (simp only; omega) | (simp; omega)) (hc j hj)⟩
  · rw [World.frozen?_setCell]; exact h.f1
  · rw [World.frozen?_setCell]; exact h.f2
theorem Spared.setAbove {lo hi a i : Nat} {v : Value} {w w' : World} (h : Spared lo hi w w') (ha : w.heap.size ≤ a) : Spared lo hi w (w'.setCell ⟨a, i, none⟩ v) :=
  ⟨h.os, h.tape, h.output, by simpa using h.size, fun k hk hd => (heap_setCell_other w' _ k v (by intro e; subst e; omega)).trans (h.block k hk hd)⟩
theorem Spared.allocR {lo hi : Nat} {o : Obj} {w w' : World} (h : Spared lo hi w w') : Spared lo hi w (w'.alloc o) := h.trans (Spared.of_below (belA (Below.refl _ _)))
/-- a box of three cells that may be written -/
structure RB (W : World) (b : Nat) (v0 v1 v2 : Value) : Prop where
  c0 : W.cell? ⟨b, 0, none⟩ = some v0
  c1 : W.cell? ⟨b, 1, none⟩ = some v1
  c2 : W.cell? ⟨b, 2, none⟩ = some v2
  f0 : W.frozen? ⟨b, 0, none⟩ = false
  f1 : W.frozen? ⟨b, 1, none⟩ = false
  f2 : W.frozen? ⟨b, 2, none⟩ = false
section
variable {W W' : World} {b : Nat} {v0 v1 v2 : Value}
theorem RB.lt (h : RB W b v0 v1 v2) : b < W.heap.size := World.block_lt_of_cell? _ _ h.c0
theorem RB.spared {lo hi : Nat} (h : RB W b v0 v1 v2) (hs : Spared lo hi W W') (hd : b < lo ∨ hi ≤ b) : RB W' b v0 v1 v2 := by
  have hbl := hs.block b h.lt hd
  exact ⟨hs.cell h.c0 hd, hs.cell h.c1 hd, hs.cell h.c2 hd, (World.frozen?_of_block (a := ⟨b, 0, none⟩) hbl).trans h.f0, (World.frozen?_of_block (a := ⟨b, 1, none⟩) hbl).trans h.f1, (World.frozen?_of_block (a := ⟨b, 2, none⟩) hbl).trans h.f2⟩
theorem RB.below (h : RB W b v0 v1 v2) (hb : Below W.heap.size W W') : RB W' b v0 v1 v2 := h.spared (lo := W.heap.size) (hi := W.heap.size) (Spared.of_below hb) (by have := h.lt; omega)
theorem RB.new (w : World) (t : TypeId) (v0 v1 v2 : Value) (H : Nat) (hH : w.heap.size = H) : RB (w.alloc (.cells #[v0, v1, v2] t)) H v0 v1 v2 := by
  subst hH
  exact ⟨(by rw [World.cell?_alloc_at _ _ _ _ (by simp)]; rfl), (by rw [World.cell?_alloc_at _ _ _ _ (by simp)]; rfl), (by rw [World.cell?_alloc_at _ _ _ _ (by simp)]; rfl), by rw [World.frozen?_alloc_at _ _ _ _ (by simp)], by rw [World.frozen?_alloc_at _ _ _ _ (by simp)], by rw [World.frozen?_alloc_at _ _ _ _ (by simp)]⟩
end
/-- what a group's draw hands back -/
def DrewG (b k : Nat) (P : Int → Int → Int → Prop) (W : World) (e : Ending) (w' : World) : Prop := ∃ p q g : Int, e = .returned (.agg #[.int .i64 p, .int .i64 q, .int .i64 g]) ∧ P p q g ∧ Cur w' b k ∧ Spared b (b + 1) W w'
/-- a group's numbers -/
def TinyP (p q g : Int) : Prop := 3 ≤ p ∧ p ≤ 100 ∧ 2 ≤ q ∧ q ≤ 100 ∧ 0 ≤ g ∧ g < p
def GrB (p q g : Int) : Prop := 0 ≤ p ∧ p ≤ 2000000000 ∧ 0 ≤ q ∧ q ≤ 2000000000 ∧ 0 ≤ g ∧ g ≤ 2000000000
def GrA (p q g : Int) : Prop := -10 ≤ p ∧ p ≤ 2000000010 ∧ -10 ≤ q ∧ q ≤ 2000000010 ∧ -10 ≤ g ∧ g ≤ 2000000010
theorem mgP_le {q p : Int} : ∀ {f : Nat} {x : Int}, mgP q f x = some p → p ≤ 2000000000
  | 0, x, h => by simp [mgP] at h
  | f + 1, x, h => by
    rw [mgP] at h
    split at h
    · split at h
      · injection h with h; omega
      · exact mgP_le h
    · cases h
theorem mgP_ge {q p : Int} (hq : 0 ≤ q) : ∀ {f : Nat} {x : Int}, mgP q f x = some p → x ≤ p
  | 0, x, h => by simp [mgP] at h
  | f + 1, x, h => by
    rw [mgP] at h
    split at h
    · split at h
      · injection h with h; omega
      · have := mgP_ge hq h; omega
    · cases h
theorem mgM_bd (q : Int) : GrB (mgM q).1.1 (mgM q).1.2.1 (mgM q).1.2.2 := by
  cases h : (inB q 2 1000000 && primeB q)
  · rw [mgM_no h]; exact (show GrB 0 0 0 from ⟨by omega, by omega, by omega, by omega, by omega, by omega⟩)
  · have hq := inB_true (by simpa using (Bool.and_eq_true _ _ ▸ h).1 : inB q 2 1000000 = true)
    cases hp : mgP q mgF (q + 1) with
    | none => rw [mgM_none h hp]; exact (show GrB 0 0 0 from ⟨by omega, by omega, by omega, by omega, by omega, by omega⟩)
    | some p =>
      rw [mgM_some h hp]
      have h1 := mgP_le hp
      have h2 := mgP_ge (by omega) hp
      have h3 := pw_bd (a := mgH ((p - 1) / q) p mgF 2) (e := (p - 1) / q) (m := p) (by omega)
      exact (show GrB p q _ from ⟨by omega, h1, by omega, by omega, h3.1, Int.le_trans (Int.le_of_lt h3.2) h1⟩)
theorem tiny_at {q p : Int} (hq : (inB q 2 1000000 && primeB q) = true) (hp : mgP q mgF (q + 1) = some p) (h1 : 3 ≤ p) (h2 : p ≤ 100) (h3 : 2 ≤ q) (h4 : q ≤ 100) : TinyP (mgM q).1.1 (mgM q).1.2.1 (mgM q).1.2.2 := by
  rw [mgM_some hq hp]
  have h3' := pw_bd (a := mgH ((p - 1) / q) p mgF 2) (e := (p - 1) / q) (m := p) (by omega)
  exact (show TinyP p q _ from ⟨h1, h2, h3, h4, h3'.1, h3'.2⟩)
theorem tiny_ok {x : Int} (h : x ∈ ([3, 5, 5, 7, 11, 11, 13, 23] : List Int)) : TinyP (mgM x).1.1 (mgM x).1.2.1 (mgM x).1.2.2 := by
  simp only [List.mem_cons, List.mem_nil_iff, or_false] at h
  rcases h with rfl | rfl | rfl | rfl | rfl | rfl | rfl | rfl
  · exact tiny_at (p := 7) (by decide +kernel) (by kernel_rfl) (by omega) (by omega) (by omega) (by omega)
  · exact tiny_at (p := 11) (by decide +kernel) (by kernel_rfl) (by omega) (by omega) (by omega) (by omega)
  · exact tiny_at (p := 11) (by decide +kernel) (by kernel_rfl) (by omega) (by omega) (by omega) (by omega)
  · exact tiny_at (p := 29) (by decide +kernel) (by kernel_rfl) (by omega) (by omega) (by omega) (by omega)
  · exact tiny_at (p := 23) (by decide +kernel) (by kernel_rfl) (by omega) (by omega) (by omega) (by omega)
  · exact tiny_at (p := 23) (by decide +kernel) (by kernel_rfl) (by omega) (by omega) (by omega) (by omega)
  · exact tiny_at (p := 53) (by decide +kernel) (by kernel_rfl) (by omega) (by omega) (by omega) (by omega)
  · exact tiny_at (p := 47) (by decide +kernel) (by kernel_rfl) (by omega) (by omega) (by omega) (by omega)
set_option maxHeartbeats 1600000 in
theorem tiny_any (b k : Nat) (w : World) (h : Cur w b k) (hk : k ≤ 500) :
    Calls Try.prog 165 #[.pointer (some ⟨b, 0, none⟩)] w (DrewG b (k + 2) TinyP w) := by
  have hlt := h.lt
  have hrb := RB.new w 27 (.int .i64 0) (.int .i64 0) (.int .i64 0) w.heap.size rfl
  have HC := Lib.hid (h.below (belA (o := .cells #[.int .i64 0, .int .i64 0, .int .i64 0] 27) (Below.refl _ _)))
  have HS0 : Hid (Spared b (b + 1) w (w.alloc (.cells #[.int .i64 0, .int .i64 0, .int .i64 0] 27))) := Lib.hid (Spared.of_below (belA (Below.refl _ _)))
  have HR := Lib.hid hrb
  clear h hrb
  go_enter Try.func165, Try.ntmps165
  go_wp2_with fail
  refine (among_any (w.heap.size + 1) 8 8 b k [3, 5, 5, 7, 11, 11, 13, 23] _ (HC.out.below (belA (Below.refl _ _))) (by omega) (lit_ints _ _ _ _ _ rfl (by simp) (by simp)) (by omega) (by omega) (by omega)).mono ?_
  rintro e w1 ⟨x, rfl, hx, hc1, hs1⟩
  have ht := tiny_ok hx
  have HR1 := Lib.hid ((HR.out.below (belA (Below.refl _ _))).spared hs1 (by omega))
  have HS1 := Lib.hid (HS0.out.allocR.trans hs1)
  have HC1 := Lib.hid hc1
  clear hc1 hs1 hx
  go_wp2_with fail
  refine (sMakeGroup_any x _).mono ?_
  rintro e w2 ⟨rfl, hb2⟩
  generalize mgM x = m at ht ⊢
  obtain ⟨⟨p, q, g⟩, ok⟩ := m
  simp only at ht
  have hzz : w.heap.size < w2.heap.size := (HR1.out.below hb2).lt
  obtain ⟨y0, y1, y2, z0, z1, z2⟩ := HR1.out.below hb2
  have HSP := Lib.hid (HS1.out.trans (Spared.of_below hb2))
  have HCU := Lib.hid (HC1.out.below hb2)
  have HT := Lib.hid ht
  clear ht hb2
  simp only
  go_wp2
  refine bodyPost_ret (v := .agg #[.int .i64 p, .int .i64 q, .int .i64 g]) (by simp [results, Try.results165, go_sem, y0, y1, y2, hzz]) rfl ⟨p, q, g, rfl, HT.out, (by repeat (first | assumption | exact HCU.out | refine Cur.above ?_ (by first | omega | (simp; omega)) | refine Cur.below ?_ (belA (Below.refl _ _)))), (by repeat (first | assumption | exact HSP.out | refine Spared.setAbove ?_ (by first | omega | (simp; omega)) | refine Spared.allocR ?_))⟩
set_option maxRecDepth 100000 in
set_option maxHeartbeats 4000000 in
theorem group_any (b k : Nat) (w : World) (h : Cur w b k) (hk : k ≤ 300) :
    Calls Try.prog 115 #[.pointer (some ⟨b, 0, none⟩)] w (DrewG b (k + 10) GrB w) := by
  have hlt := h.lt
  have hrb := RB.new w 27 (.int .i64 0) (.int .i64 0) (.int .i64 0) w.heap.size rfl
  have HC := Lib.hid (h.below (belA (o := .cells #[.int .i64 0, .int .i64 0, .int .i64 0] 27) (Below.refl _ _)))
  have HS0 : Hid (Spared b (b + 1) w (w.alloc (.cells #[.int .i64 0, .int .i64 0, .int .i64 0] 27))) := Lib.hid (Spared.of_below (belA (Below.refl _ _)))
  have HR := Lib.hid hrb
  clear h hrb
  go_enter Try.func115, Try.ntmps115
  go_wp2_with fail
  refine (pick_any b k 6 _ HC.out (by omega) (by omega)).mono ?_
  rintro e w1 ⟨x, rfl, ⟨x0, _, x1, _⟩, hc1, hs1⟩
  replace x1 := x1 (by omega)
  have HR1 := Lib.hid (HR.out.spared hs1 (by omega))
  have HS1 := Lib.hid (HS0.out.trans hs1)
  have HC1 := Lib.hid hc1
  have hz1 : w.heap.size < w1.heap.size := by have := hs1.size; simp at this; omega
  clear hc1 hs1
  by_cases h0 : x = 0
  · subst h0
    obtain ⟨y0, y1, y2, z0, z1, z2⟩ := HR1.out
    have hzz := hz1
    have HSP := Lib.hid HS1.out
    have HCU := Lib.hid (HC1.out.more (show k + 2 ≤ k + 10 by omega))
    go_wp2
    refine bodyPost_ret (v := .agg #[.int .i64 1000000007, .int .i64 500000003, .int .i64 4]) (by simp [results, Try.results115, go_sem, y0, y1, y2, hzz]) rfl ⟨_, _, _, rfl, ⟨by omega, by omega, by omega, by omega, by omega, by omega⟩, (by repeat (first | assumption | exact HCU.out | refine Cur.above ?_ (by first | omega | (simp; omega)) | refine Cur.below ?_ (belA (Below.refl _ _)))), (by repeat (first | assumption | exact HSP.out | refine Spared.setAbove ?_ (by first | omega | (simp; omega)) | refine Spared.allocR ?_))⟩
  by_cases h1 : x = 1
  · subst h1
    go_wp2_with fail
    refine (among_any w1.heap.size 5 5 b (k + 2) [101, 1009, 1019, 65537, 999983] _ (HC1.out.below (belA (Below.refl _ _))) (by omega) (lit_ints _ _ _ _ _ rfl (by simp) (by simp)) (by omega) (by omega) (by omega)).mono ?_
    rintro e w2 ⟨x, rfl, hx, hc2, hs2⟩
    have ht := mgM_bd x
    have HR2 := Lib.hid ((HR1.out.below (belA (Below.refl _ _))).spared hs2 (by omega))
    have HS2 := Lib.hid (HS1.out.allocR.trans hs2)
    have HC2 := Lib.hid hc2
    have hz2 : w.heap.size < w2.heap.size := by have := hs2.size; simp at this; omega
    clear hc2 hs2 hx
    go_wp2_with fail
    refine (sMakeGroup_any x _).mono ?_
    rintro e w3 ⟨rfl, hb3⟩
    have hz3 : w.heap.size < w3.heap.size := by have := hb3.size; omega
    generalize mgM x = m at ht ⊢
    obtain ⟨⟨p, q, g⟩, ok⟩ := m
    simp only at ht
    obtain ⟨y0, y1, y2, z0, z1, z2⟩ := HR2.out.below hb3
    have hzz := hz3
    have HSP := Lib.hid (HS2.out.trans (Spared.of_below hb3))
    have HCU := Lib.hid ((HC2.out.below hb3).more (show k + 2 + 2 ≤ k + 10 by omega))
    have HT := Lib.hid ht
    clear ht hb3
    simp only
    go_wp2
    refine bodyPost_ret (v := .agg #[.int .i64 p, .int .i64 q, .int .i64 g]) (by simp [results, Try.results115, go_sem, y0, y1, y2, hzz]) rfl ⟨_, _, _, rfl, HT.out, (by repeat (first | assumption | exact HCU.out | refine Cur.above ?_ (by first | omega | (simp; omega)) | refine Cur.below ?_ (belA (Below.refl _ _)))), (by repeat (first | assumption | exact HSP.out | refine Spared.setAbove ?_ (by first | omega | (simp; omega)) | refine Spared.allocR ?_))⟩
  · have g0 : (x == 0) = false := by rw [beq_eq_false_iff_ne]; exact h0
    have g1 : (x == 1) = false := by rw [beq_eq_false_iff_ne]; exact h1
    go_wp2_with fail
    refine (tiny_any b (k + 2) _ HC1.out (by omega)).mono ?_
    rintro e w3 ⟨p, q, g, rfl, ⟨t1, t2, t3, t4, t5, t6⟩, hc3, hs3⟩
    have hz3 : w.heap.size < w3.heap.size := by have := hs3.size; omega
    have hb3 : b < w3.heap.size := hc3.lt
    have HR0 := Lib.hid ((HR1.out.spared hs3 (by omega)).below (belA (o := .cells #[.int .i64 p, .int .i64 q, .int .i64 g] 27) (Below.refl _ _)))
    have HG0 := Lib.hid (RB.new w3 27 (.int .i64 p) (.int .i64 q) (.int .i64 g) w3.heap.size rfl)
    have HSQ := Lib.hid ((HS1.out.trans hs3).allocR (o := .cells #[.int .i64 p, .int .i64 q, .int .i64 g] 27))
    have HC0 := Lib.hid (hc3.below (belA (o := .cells #[.int .i64 p, .int .i64 q, .int .i64 g] 27) (Below.refl _ _)))
    clear hc3 hs3
    go_wp2_with fail
    generalize hW0 : w3.alloc (.cells #[.int .i64 p, .int .i64 q, .int .i64 g] 27) = W0 at HR0 HG0 HSQ HC0
    clear hW0
    obtain ⟨c0, c1, c2, _, _, _⟩ := HG0.out
    have hwq : IntKind.i64.wrap (q - 1) = q - 1 := by rw [IntKind.wrap_i64]; omega
    refine region_end 11 (S := fun W => Spared b (b + 1) W0 W) (by kernel_rfl) (by kernel_rfl) (Spared.rfl'.drewR (m := 1)) (fun hE hHeld => ?_)
    refine EndW.take (i := 0) (v := ?_) (some 23) hE rfl rfl (by kernel_rfl) (by kernel_rfl) (by omega) (fun _ _ _ h => h) (Or.inl ⟨by rfl, ?_⟩) (by assumption) ?_
    rotate_left
    · (intro W hSw; have t0 := hSw.cell c0 (by omega); have t1 := hSw.cell c1 (by omega); have t2 := hSw.cell c2 (by omega); clear hSw; go_simp; all_goals first | with_reducible rfl | (simp [*]; done) | (intro hh; exfalso; omega) | fail)
    try simp only [Act.put, List.setIfInBounds_toArray, List.set_cons_zero, List.set_cons_succ]
    refine EndW.take (i := 1) (v := ?_) (some 24) hE rfl rfl (by kernel_rfl) (by kernel_rfl) (by omega) (fun _ _ _ h => h) (Or.inl ⟨by rfl, ?_⟩) (by assumption) ?_
    rotate_left
    · (intro W hSw; have t0 := hSw.cell c0 (by omega); have t1 := hSw.cell c1 (by omega); have t2 := hSw.cell c2 (by omega); clear hSw; go_simp; all_goals first | with_reducible rfl | (simp [*]; done) | (intro hh; exfalso; omega) | fail)
    try simp only [Act.put, List.setIfInBounds_toArray, List.set_cons_zero, List.set_cons_succ]
    refine EndW.take (i := 2) (v := ?_) (some 25) hE rfl rfl (by kernel_rfl) (by kernel_rfl) (by omega) (fun _ _ _ h => h) (Or.inl ⟨by rfl, ?_⟩) (by assumption) ?_
    rotate_left
    · (intro W hSw; have t0 := hSw.cell c0 (by omega); have t1 := hSw.cell c1 (by omega); have t2 := hSw.cell c2 (by omega); clear hSw; go_simp; all_goals first | with_reducible rfl | (simp [*]; done) | (intro hh; exfalso; omega) | fail)
    try simp only [Act.put, List.setIfInBounds_toArray, List.set_cons_zero, List.set_cons_succ]
    refine EndW.take (i := 3) (v := ?_) (some 26) hE rfl rfl (by kernel_rfl) (by kernel_rfl) (by omega) (fun _ _ _ h => h) (Or.inl ⟨by rfl, ?_⟩) (by assumption) ?_
    rotate_left
    · (intro W hSw; have t0 := hSw.cell c0 (by omega); have t1 := hSw.cell c1 (by omega); have t2 := hSw.cell c2 (by omega); clear hSw; go_simp; all_goals first | with_reducible rfl | (simp [*]; done) | (intro hh; exfalso; omega) | fail)
    try simp only [Act.put, List.setIfInBounds_toArray, List.set_cons_zero, List.set_cons_succ]
    refine EndW.take (i := 4) (v := ?_) (some 27) hE rfl rfl (by kernel_rfl) (by kernel_rfl) (by omega) (fun _ _ _ h => h) (Or.inl ⟨by rfl, ?_⟩) (by assumption) ?_
    rotate_left
    · (intro W hSw; have t0 := hSw.cell c0 (by omega); have t1 := hSw.cell c1 (by omega); have t2 := hSw.cell c2 (by omega); clear hSw; go_simp; all_goals first | with_reducible rfl | (simp [*]; done) | (intro hh; exfalso; omega) | fail)
    try simp only [Act.put, List.setIfInBounds_toArray, List.set_cons_zero, List.set_cons_succ]
    refine EndW.take (i := 5) (v := ?_) (some 28) hE rfl rfl (by kernel_rfl) (by kernel_rfl) (by omega) (fun _ _ _ h => h) (Or.inl ⟨by rfl, ?_⟩) (by assumption) ?_
    rotate_left
    · (intro W hSw; have t0 := hSw.cell c0 (by omega); have t1 := hSw.cell c1 (by omega); have t2 := hSw.cell c2 (by omega); clear hSw; go_simp; all_goals first | with_reducible rfl | (simp [*]; done) | (intro hh; exfalso; omega) | fail)
    try simp only [Act.put, List.setIfInBounds_toArray, List.set_cons_zero, List.set_cons_succ]
    refine EndW.take (i := 6) (v := .int .i64 (q - 1)) (some 29) hE rfl rfl (by kernel_rfl) (by kernel_rfl) (by omega) (fun _ _ _ h => h) (Or.inl ⟨by rfl, ?_⟩) (by assumption) ?_
    · (intro W hSw; have t0 := hSw.cell c0 (by omega); have t1 := hSw.cell c1 (by omega); have t2 := hSw.cell c2 (by omega); clear hSw; go_simp; all_goals first | with_reducible rfl | (simp [*]; done) | (intro hh; exfalso; omega) | fail)
    try simp only [Act.put, List.setIfInBounds_toArray, List.set_cons_zero, List.set_cons_succ]
    refine EndW.one (i := 7) (by kernel_rfl) (by omega) ⟨_, rfl, fun K hK => ?_⟩
    go_simp
    (go_at_call 68; refine (pick_any b (k + 4) (q - 1) _ HC0.out.drewN (by omega) (by omega)).mono ?_; rintro e w5 ⟨y, rfl, ⟨v0, v1, _, _⟩, hc5, hs5⟩)
    have hNx := hHeld.trans hs5
    refine hK.out _ _ hNx (fun hNew => ?_)
    have HC5 := Lib.hid hc5
    clear hK K hHeld hNx hc5 hs5
    have hHeld := hNew; clear hNew
    try simp only [Act.put, List.setIfInBounds_toArray, List.set_cons_zero, List.set_cons_succ]
    have hwy : IntKind.i64.wrap (1 + y) = 1 + y := by rw [IntKind.wrap_i64]; omega
    refine EndW.take (i := 8) (v := .int .i64 (1 + y)) (some 31) hE rfl rfl (by kernel_rfl) (by kernel_rfl) (by omega) (fun _ _ _ h => h) (Or.inl ⟨by rfl, ?_⟩) (by assumption) ?_
    · (intro W hSw; have t0 := hSw.cell c0 (by omega); have t1 := hSw.cell c1 (by omega); have t2 := hSw.cell c2 (by omega); clear hSw; go_simp; all_goals first | with_reducible rfl | (simp [*]; done) | (intro hh; exfalso; omega) | fail)
    try simp only [Act.put, List.setIfInBounds_toArray, List.set_cons_zero, List.set_cons_succ]
    refine EndW.one (i := 9) (by kernel_rfl) (by omega) ⟨_, rfl, fun K hK => ?_⟩
    go_simp
    (go_at_call 62; refine (gExp_any p q g g (1 + y) _ (by omega) (by omega) (by omega) (by omega) (by omega) (by omega)).mono ?_; rintro e w6 ⟨rfl, hb6⟩)
    have hgp := gpow_bd (p := p) (q := q) (x := g) (e := 1 + y) (by omega)
    generalize gpow p q g (1 + y) = gg at hgp ⊢
    have hNx := hHeld.trans (Spared.of_below hb6)
    refine hK.out _ _ hNx (fun hNew => ?_)
    have HC6 := Lib.hid (HC5.out.below hb6)
    clear hK K hHeld hNx hb6
    have hHeld := hNew; clear hNew
    try simp only [Act.put, List.setIfInBounds_toArray, List.set_cons_zero, List.set_cons_succ]
    refine EndW.take (i := 10) (v := ?_) (some 33) hE rfl rfl (by kernel_rfl) (by kernel_rfl) (by omega) (fun _ _ _ h => h) (Or.inl ⟨by rfl, ?_⟩) (by assumption) ?_
    rotate_left
    · (intro W hSw; have t0 := hSw.cell c0 (by omega); have t1 := hSw.cell c1 (by omega); have t2 := hSw.cell c2 (by omega); clear hSw; go_simp; all_goals first | with_reducible rfl | (simp [*]; done) | (intro hh; exfalso; omega) | fail)
    try simp only [Act.put, List.setIfInBounds_toArray, List.set_cons_zero, List.set_cons_succ]
    obtain ⟨x0, x1, x2, xf0, xf1, xf2⟩ := HG0.out.spared hHeld (by omega)
    have HR6 := Lib.hid ((HR0.out.spared hHeld (by omega)).spared (spared_put'' (g := w3.heap.size) (k := 2) (v := .int .i64 gg)) (by omega))
    have HG6 := Lib.hid (show RB (w6.setCell ⟨w3.heap.size, 2, none⟩ (.int .i64 gg)) w3.heap.size (.int .i64 p) (.int .i64 q) (.int .i64 gg) from ⟨(World.cell?_setCell_other _ _ _ _ (by simp)).trans x0, (World.cell?_setCell_other _ _ _ _ (by simp)).trans x1, World.cell?_setCell_same _ _ _ x2, by rw [World.frozen?_setCell]; exact xf0, by rw [World.frozen?_setCell]; exact xf1, by rw [World.frozen?_setCell]; exact xf2⟩)
    have HSP := Lib.hid ((HSQ.out.trans hHeld).setAbove (a := w3.heap.size) (i := 2) (v := .int .i64 gg) (by omega))
    have HCU := Lib.hid ((HC6.out.above (a := w3.heap.size) (i := 2) (v := .int .i64 gg) (by omega)).more (show k + 4 + 2 ≤ k + 10 by omega))
    refine EndW.last (by kernel_rfl) rfl (by kernel_rfl) (fun K hK => ?_)
    go_simp
    refine hK.out _ _ ?_
    clear hK K hHeld x0 x1 x2 xf0 xf1 xf2 c0 c1 c2
    generalize hW7 : w6.setCell ⟨w3.heap.size, 2, none⟩ (.int .i64 gg) = W7 at HR6 HG6 HSP HCU
    clear hW7
    have hzz := HR6.out.lt
    obtain ⟨x0, x1, x2, _, _, _⟩ := HG6.out
    obtain ⟨y0, y1, y2, z0, z1, z2⟩ := HR6.out
    go_wp2
    refine bodyPost_ret (v := .agg #[.int .i64 p, .int .i64 q, .int .i64 gg]) (by simp [results, Try.results115, go_sem, y0, y1, y2, hzz]) rfl ⟨_, _, _, rfl, ⟨by omega, by omega, by omega, by omega, by omega, by omega⟩, (by repeat (first | assumption | exact HCU.out | refine Cur.above ?_ (by first | omega | (simp; omega)) | refine Cur.below ?_ (belA (Below.refl _ _)))), (by repeat (first | assumption | exact HSP.out | refine Spared.setAbove ?_ (by first | omega | (simp; omega)) | refine Spared.allocR ?_))⟩
end Go.Proofs.Yteeggmnkcgpfjaa
