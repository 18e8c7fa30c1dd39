/- Proofs as values: three slices of the call's own; what the laws do with them. -/
import Derived.Test.YteeggmnkcgpfjaaLm
import Derived.Test.YteeggmnkcgpfjaaApI
namespace Go.Proofs.Yteeggmnkcgpfjaa
open Go.RowKit
set_option linter.unusedVariables false
set_option linter.unusedSimpArgs false

/-- nothing has turned but blocks from lo on and below hi, and new ones -/
structure Spared (lo hi : Nat) (w w' : World) : Prop where
  os : w'.os = w.os
  tape : w'.tape = w.tape
  output : w'.output = w.output
  size : w.heap.size ≤ w'.heap.size
  block : ∀ k, k < w.heap.size → (k < lo ∨ hi ≤ k) → w'.heap[k]? = w.heap[k]?
theorem Spared.of_grown {lo hi : Nat} {w w' : World} {row : Option Nat} (h : w.grownBy w' row) (hr : ∀ k, row = some k → lo ≤ k ∧ k < hi) : Spared lo hi w w' :=
  ⟨h.os, h.tape, h.output, h.size, fun k hk hne => h.block k hk (by intro e; have := hr k e.symm; omega)⟩
theorem Spared.of_below {lo hi : Nat} {w w' : World} (h : Below w.heap.size w w') : Spared lo hi w w' := ⟨h.os, h.tape, h.output, h.size, fun k hk _ => h.block k hk⟩
theorem Spared.trans {lo hi : Nat} {a b c : World} (h : Spared lo hi a b) (k : Spared lo hi b c) : Spared lo hi a c :=
  ⟨k.os.trans h.os, k.tape.trans h.tape, k.output.trans h.output, Nat.le_trans h.size k.size, fun i hi hne => (k.block i (Nat.lt_of_lt_of_le hi h.size) hne).trans (h.block i hi hne)⟩
theorem Spared.wide {lo hi lo' hi' : Nat} {a b : World} (h : Spared lo hi a b) (h1 : lo' ≤ lo) (h2 : hi ≤ hi') : Spared lo' hi' a b :=
  ⟨h.os, h.tape, h.output, h.size, fun k hk hne => h.block k hk (by omega)⟩
theorem Spared.cell {lo hi : Nat} {w w' : World} {b o : Nat} {v : Value} (h : Spared lo hi w w') (hc : w.cell? ⟨b, o, none⟩ = some v) (hb : b < lo ∨ hi ≤ b) : w'.cell? ⟨b, o, none⟩ = some v :=
  (World.cell?_of_block (a := ⟨b, o, none⟩) (h.block b (World.block_lt_of_cell? _ _ hc) hb)).trans hc
theorem Spared.below {lo hi B : Nat} {a w w' : World} (hb : Below B a w) (h : Spared lo hi w w') (hB : B ≤ lo) (hw : B ≤ w.heap.size) : Below B a w' :=
  ⟨h.os.trans hb.os, h.tape.trans hb.tape, h.output.trans hb.output, Nat.le_trans hb.size h.size, fun k hk => (h.block k (by omega) (by omega)).trans (hb.block k hk)⟩
theorem Spared.ints {lo hi : Nat} {w w' : World} {A : Option Addr} {n : Nat} {zs : List Int} (hs : Spared lo hi w w') (h : Ints w A n zs) (hA : ∀ b off, A = some ⟨b, off, none⟩ → 0 < n → b < lo) : Ints w' A n zs := by
  refine ⟨h.1, h.2.1, fun hn => ?_⟩
  obtain ⟨b, off, e, hb, hc⟩ := h.2.2 hn
  have hlt := hA b off e hn
  exact ⟨b, off, e, Nat.lt_of_lt_of_le hb hs.size, fun k hk => hs.cell (hc k hk) (.inl hlt)⟩
theorem Own.spared {w w' : World} {lo hi l1 h1 : Nat} {A : Option Addr} {n c : Nat} {zs : List Int} (h : Own w l1 h1 A n c zs) (hs : Spared lo hi w w') (ha : h1 ≤ lo ∨ hi ≤ l1) : Own w' l1 h1 A n c zs := by
  refine ⟨?_, h.lt⟩
  cases hv : (Value.slice A n c).ownBlock with
  | none =>
    refine ⟨h.own.1, ?_⟩
    rcases h.own.2 with h2 | ⟨g, cap, cur, e, _⟩
    · exact .inl h2
    · injection e with e1 e2 e3
      subst e1
      cases hv
  | some b =>
    have b1 := h.own.lt b hv
    have b2 := h.lt b hv
    refine ⟨h.own.1, ?_⟩
    rcases h.own.2 with h2 | ⟨g, cap, cur, e, h4, h5, rest⟩
    · exact .inl h2
    · refine .inr ⟨g, cap, cur, e, h4, ?_, rest⟩
      injection e with e1 e2 e3
      subst e1
      have hbg : g = b := by injection hv
      subst hbg
      rw [hs.block g b1.2 (by omega)]
      exact h5

/-- three slices of the call's own, each in blocks of its own -/
def PV (w : World) (lo hi : Nat) (A1 : Option Addr) (c1 : Nat) (A2 : Option Addr) (c2 : Nat) (A3 : Option Addr) (c3 : Nat) (r : List Int × List Int × List Int) : Prop :=
  ∃ B1 B2, lo ≤ B1 ∧ B1 ≤ B2 ∧ B2 ≤ hi ∧ Own w lo B1 A1 r.1.length c1 r.1 ∧ Own w B1 B2 A2 r.2.1.length c2 r.2.1 ∧ Own w B2 hi A3 r.2.2.length c3 r.2.2
section
variable {w w' : World} {lo hi : Nat} {A1 A2 A3 : Option Addr} {c1 c2 c3 : Nat} {r : List Int × List Int × List Int}
theorem PV.below (h : PV w lo hi A1 c1 A2 c2 A3 c3 r) (hb : Below w.heap.size w w') : PV w' lo hi A1 c1 A2 c2 A3 c3 r := by
  obtain ⟨B1, B2, e1, e2, e3, o1, o2, o3⟩ := h
  exact ⟨B1, B2, e1, e2, e3, o1.below hb, o2.below hb, o3.below hb⟩
theorem PV.spared {l1 h1 : Nat} (h : PV w lo hi A1 c1 A2 c2 A3 c3 r) (hs : Spared l1 h1 w w') (ha : hi ≤ l1 ∨ h1 ≤ lo) : PV w' lo hi A1 c1 A2 c2 A3 c3 r := by
  obtain ⟨B1, B2, e1, e2, e3, o1, o2, o3⟩ := h
  exact ⟨B1, B2, e1, e2, e3, o1.spared hs (by omega), o2.spared hs (by omega), o3.spared hs (by omega)⟩
theorem PV.i1 (h : PV w lo hi A1 c1 A2 c2 A3 c3 r) : Ints w A1 r.1.length r.1 := by
  obtain ⟨B1, B2, e1, e2, e3, o1, o2, o3⟩ := h
  exact o1.ints
theorem PV.i2 (h : PV w lo hi A1 c1 A2 c2 A3 c3 r) : Ints w A2 r.2.1.length r.2.1 := by
  obtain ⟨B1, B2, e1, e2, e3, o1, o2, o3⟩ := h
  exact o2.ints
theorem PV.i3 (h : PV w lo hi A1 c1 A2 c2 A3 c3 r) : Ints w A3 r.2.2.length r.2.2 := by
  obtain ⟨B1, B2, e1, e2, e3, o1, o2, o3⟩ := h
  exact o3.ints
theorem PV.le (h : PV w lo hi A1 c1 A2 c2 A3 c3 r) : lo ≤ hi := by
  obtain ⟨B1, B2, e1, e2, e3, _⟩ := h
  omega
end
theorem own_none (w : World) (lo hi : Nat) : Own w lo hi none 0 0 [] := ⟨own_nil _ _, fun k hk => by cases hk⟩
/-- a result: a proof and a truth value -/
def PR (w : World) (r : (List Int × List Int × List Int) × Bool) (e : Ending) (w' : World) : Prop :=
  ∃ A1 c1 A2 c2 A3 c3, e = .returned (.tuple #[.agg #[.slice A1 r.1.1.length c1, .slice A2 r.1.2.1.length c2, .slice A3 r.1.2.2.length c3], .bool r.2]) ∧ PV w' w.heap.size w'.heap.size A1 c1 A2 c2 A3 c3 r.1 ∧ Below w.heap.size w w'
theorem PR.no {w w' : World} {r : (List Int × List Int × List Int) × Bool} (hr : r = (([], [], []), false)) (hb : Below w.heap.size w w') :
    PR w r (.returned (.tuple #[.agg #[.slice none 0 0, .slice none 0 0, .slice none 0 0], .bool false])) w' := by
  subst hr
  exact ⟨none, 0, none, 0, none, 0, rfl, ⟨w'.heap.size, w'.heap.size, hb.size, Nat.le_refl _, Nat.le_refl _, own_none _ _ _, own_none _ _ _, own_none _ _ _⟩, hb⟩
theorem PR.yes {w w' : World} {r : (List Int × List Int × List Int) × Bool} {l1 l2 l3 : List Int} {A1 A2 A3 : Option Addr} {n1 n2 n3 c1 c2 c3 B1 B2 : Nat} (hr : r = ((l1, l2, l3), true)) (h1 : w.heap.size ≤ B1) (h2 : B1 ≤ B2) (h3 : B2 ≤ w'.heap.size)
    (o1 : Own w' w.heap.size B1 A1 n1 c1 l1) (o2 : Own w' B1 B2 A2 n2 c2 l2) (o3 : Own w' B2 w'.heap.size A3 n3 c3 l3) (hb : Below w.heap.size w w') :
    PR w r (.returned (.tuple #[.agg #[.slice A1 n1 c1, .slice A2 n2 c2, .slice A3 n3 c3], .bool true])) w' := by
  subst hr
  have e1 := o1.len
  have e2 := o2.len
  have e3 := o3.len
  subst e1 e2 e3
  exact ⟨A1, c1, A2, c2, A3, c3, rfl, ⟨B1, B2, h1, h2, h3, o1, o2, o3⟩, hb⟩

set_option maxHeartbeats 800000 in
theorem eqProof_any (A1 A2 A3 D1 D2 D3 : Option Addr) (n1 n2 n3 c1 c2 c3 d1 d2 d3 : Nat) (z1 z2 z3 : List Int) (w : World) (h1 : Ints w A1 n1 z1) (h2 : Ints w A2 n2 z2) (h3 : Ints w A3 n3 z3) (g1 : Ints w D1 n1 z1) (g2 : Ints w D2 n2 z2) (g3 : Ints w D3 n3 z3) :
    Calls Try.prog 38 #[.agg #[.slice A1 n1 c1, .slice A2 n2 c2, .slice A3 n3 c3], .agg #[.slice D1 n1 d1, .slice D2 n2 d2, .slice D3 n3 d3]] w fun e w' => e = .returned (.bool true) ∧ Below w.heap.size w w' := by
  have H1 := Lib.hid h1
  have H2 := Lib.hid h2
  have H3 := Lib.hid h3
  have G1 := Lib.hid g1
  have G2 := Lib.hid g2
  have G3 := Lib.hid g3
  clear h1 h2 h3 g1 g2 g3
  go_enter Try.func38, Try.ntmps38
  go_wp2_with fail
  refine (eqIntS_any A1 D1 n1 n1 c1 d1 z1 z1 _ (H1.out.below (by repeat (first | exact Below.refl _ _ | assumption | refine belA ?_ | refine belD ?_ | refine belN ?_ | refine belS ?_ (by simp) | refine belT ?_ (by assumption)))) (G1.out.below (by repeat (first | exact Below.refl _ _ | assumption | refine belA ?_ | refine belD ?_ | refine belN ?_ | refine belS ?_ (by simp) | refine belT ?_ (by assumption))))).mono ?_
  rintro e w1_ ⟨rfl, hb1⟩
  have hW := hb1
  obtain ⟨hc, hf⟩ := bcell hW
  rw [decide_eq_true (rfl : z1 = z1)]
  go_wp2_with fail
  refine (eqIntS_any A2 D2 n2 n2 c2 d2 z2 z2 _ (H2.out.below (belT (by repeat (first | exact Below.refl _ _ | assumption | refine belA ?_ | refine belD ?_ | refine belN ?_ | refine belS ?_ (by simp) | refine belT ?_ (by assumption))) hW)) (G2.out.below (belT (by repeat (first | exact Below.refl _ _ | assumption | refine belA ?_ | refine belD ?_ | refine belN ?_ | refine belS ?_ (by simp) | refine belT ?_ (by assumption))) hW))).mono ?_
  rintro e w2_ ⟨rfl, hb2⟩
  clear hc hf
  replace hW := belT hW hb2
  obtain ⟨hc, hf⟩ := bcell hW
  rw [decide_eq_true (rfl : z2 = z2)]
  go_wp2_with fail
  refine (eqIntS_any A3 D3 n3 n3 c3 d3 z3 z3 _ (H3.out.below (belT (by repeat (first | exact Below.refl _ _ | assumption | refine belA ?_ | refine belD ?_ | refine belN ?_ | refine belS ?_ (by simp) | refine belT ?_ (by assumption))) hW)) (G3.out.below (belT (by repeat (first | exact Below.refl _ _ | assumption | refine belA ?_ | refine belD ?_ | refine belN ?_ | refine belS ?_ (by simp) | refine belT ?_ (by assumption))) hW))).mono ?_
  rintro e w3_ ⟨rfl, hb3⟩
  clear hc hf
  replace hW := belT hW hb3
  obtain ⟨hc, hf⟩ := bcell hW
  rw [decide_eq_true (rfl : z3 = z3)]
  go_wp2
  go_ret
  exact ⟨rfl, belT (by repeat (first | exact Below.refl _ _ | assumption | refine belA ?_ | refine belD ?_ | refine belN ?_ | refine belS ?_ (by simp) | refine belT ?_ (by assumption))) hW⟩
/-- the marks of a proof -/
def pmarks (k : Int) (r : List Int × List Int × List Int) : List Int × List Int × List Int := (marks k r.1.length, marks (k + (r.1.length : Int)) r.2.1.length, marks (k + (r.1.length : Int) + (r.2.1.length : Int)) r.2.2.length)
def plen (r : List Int × List Int × List Int) : Int := (r.1.length : Int) + (r.2.1.length : Int) + (r.2.2.length : Int)
set_option maxHeartbeats 1600000 in
theorem markProof_any (A1 A2 A3 : Option Addr) (c1 c2 c3 : Nat) (r : List Int × List Int × List Int) (k : Int) (lo hi : Nat) (w : World) (h : PV w lo hi A1 c1 A2 c2 A3 c3 r) (hhi : hi ≤ w.heap.size) (k0 : 0 ≤ k) (k1 : k ≤ 1000000000000000000) (hn : plen r ≤ 1000000000000000000) :
    Calls Try.prog 39 #[.agg #[.slice A1 r.1.length c1, .slice A2 r.2.1.length c2, .slice A3 r.2.2.length c3], .int .i64 k] w fun e w' => e = .returned (.int .i64 (k + plen r)) ∧
      Ints w' A1 r.1.length (pmarks k r).1 ∧ Ints w' A2 r.2.1.length (pmarks k r).2.1 ∧ Ints w' A3 r.2.2.length (pmarks k r).2.2 ∧ Spared lo hi w w' := by
  obtain ⟨z1, z2, z3⟩ := r
  obtain ⟨B1, B2, e1, e2, e3, o1, o2, o3⟩ := h
  simp only [plen] at hn
  simp only at o1 o2 o3
  have HO1 := Lib.hid o1
  have HO2 := Lib.hid o2
  have HO3 := Lib.hid o3
  clear o1 o2 o3
  simp only [plen, pmarks]
  generalize z1.length = n1 at *
  generalize z2.length = n2 at *
  generalize z3.length = n3 at *
  go_enter Try.func39, Try.ntmps39
  go_wp2_with fail
  refine (markIntS_any A1 n1 c1 z1 k lo B1 _ (HO1.out.below (by repeat (first | exact Below.refl _ _ | assumption | refine belA ?_ | refine belD ?_ | refine belN ?_ | refine belS ?_ (by simp) | refine belT ?_ (by assumption)))) k0 (by omega) (by omega)).mono ?_
  rintro e w1 ⟨rfl, o1, g1⟩
  have s1 : Spared lo B1 _ w1 := Spared.of_grown g1 (fun b hb => ⟨(o1.own.lt b hb).1, o1.lt b hb⟩)
  have kb1 := s1.cell (b := w.heap.size) (o := 1) (by rw [World.cell?_alloc_at _ _ _ _ (by simp)]; rfl) (by omega)
  have kb2 := s1.cell (b := w.heap.size) (o := 2) (by rw [World.cell?_alloc_at _ _ _ _ (by simp)]; rfl) (by omega)
  have P1 := Lib.hid o1
  have S1 := Lib.hid s1
  have Q2 := Lib.hid ((HO2.out.below (belA (Below.refl _ _))).spared s1 (by omega))
  have Q3 := Lib.hid ((HO3.out.below (belA (Below.refl _ _))).spared s1 (by omega))
  clear o1 g1 s1 HO1 HO2 HO3
  go_wp2_with fail
  refine (markIntS_any A2 n2 c2 z2 (k + (n1 : Int)) B1 B2 _ Q2.out (by omega) (by omega) (by omega)).mono ?_
  rintro e w2 ⟨rfl, o2, g2⟩
  have s2 : Spared B1 B2 _ w2 := Spared.of_grown g2 (fun b hb => ⟨(o2.own.lt b hb).1, o2.lt b hb⟩)
  replace kb2 := s2.cell kb2 (by omega)
  have P2 := Lib.hid o2
  have S2 := Lib.hid s2
  have P1' := Lib.hid (P1.out.spared s2 (by omega))
  have Q3' := Lib.hid (Q3.out.spared s2 (by omega))
  clear o2 g2 s2 kb1 P1 Q2 Q3
  go_wp2_with fail
  refine (markIntS_any A3 n3 c3 z3 (k + (n1 : Int) + (n2 : Int)) B2 hi _ Q3'.out (by omega) (by omega) (by omega)).mono ?_
  rintro e w3 ⟨rfl, o3, g3⟩
  have s3 : Spared B2 hi _ w3 := Spared.of_grown g3 (fun b hb => ⟨(o3.own.lt b hb).1, o3.lt b hb⟩)
  have P3 := Lib.hid o3
  have S3 := Lib.hid s3
  have P1'' := Lib.hid (P1'.out.spared s3 (by omega))
  have P2' := Lib.hid (P2.out.spared s3 (by omega))
  clear o3 g3 s3 kb2
  go_wp2
  go_ret
  refine ⟨ret_int (by omega), P1''.out.ints, P2'.out.ints, P3.out.ints, ?_⟩
  exact (Spared.of_below (belA (Below.refl _ _))).trans ((S1.out.wide (Nat.le_refl _) (by omega)).trans ((S2.out.wide (by omega) (by omega)).trans (S3.out.wide (by omega) (Nat.le_refl _))))
set_option maxHeartbeats 800000 in
theorem heldProof_any (A1 A2 A3 : Option Addr) (c1 c2 c3 : Nat) (r : List Int × List Int × List Int) (k : Int) (w : World) (h1 : Ints w A1 r.1.length (pmarks k r).1) (h2 : Ints w A2 r.2.1.length (pmarks k r).2.1) (h3 : Ints w A3 r.2.2.length (pmarks k r).2.2) (k0 : 0 ≤ k) (k1 : k ≤ 1000000000000000000) (hn : plen r ≤ 1000000000000000000) :
    Calls Try.prog 40 #[.agg #[.slice A1 r.1.length c1, .slice A2 r.2.1.length c2, .slice A3 r.2.2.length c3], .int .i64 k] w fun e w' => e = .returned (.int .i64 (k + plen r)) ∧ Below w.heap.size w w' := by
  obtain ⟨z1, z2, z3⟩ := r
  simp only [plen] at hn
  simp only [pmarks] at h1 h2 h3
  simp only [plen]
  generalize z1.length = n1 at *
  generalize z2.length = n2 at *
  generalize z3.length = n3 at *
  have H1 := Lib.hid h1
  have H2 := Lib.hid h2
  have H3 := Lib.hid h3
  clear h1 h2 h3
  go_enter Try.func40, Try.ntmps40
  go_wp2_with fail
  refine (heldIntS_any A1 n1 c1 k _ (H1.out.below (by repeat (first | exact Below.refl _ _ | assumption | refine belA ?_ | refine belD ?_ | refine belN ?_ | refine belS ?_ (by simp) | refine belT ?_ (by assumption)))) k0 (by omega) (by omega)).mono ?_
  rintro e w1_ ⟨rfl, hb1⟩
  have hW := hb1
  obtain ⟨hc, hf⟩ := bcell hW
  go_wp2_with fail
  refine (heldIntS_any A2 n2 c2 (k + (n1 : Int)) _ (H2.out.below (belT (by repeat (first | exact Below.refl _ _ | assumption | refine belA ?_ | refine belD ?_ | refine belN ?_ | refine belS ?_ (by simp) | refine belT ?_ (by assumption))) hW)) (by omega) (by omega) (by omega)).mono ?_
  rintro e w2_ ⟨rfl, hb2⟩
  clear hc hf
  replace hW := belT hW hb2
  obtain ⟨hc, hf⟩ := bcell hW
  go_wp2_with fail
  refine (heldIntS_any A3 n3 c3 (k + (n1 : Int) + (n2 : Int)) _ (H3.out.below (belT (by repeat (first | exact Below.refl _ _ | assumption | refine belA ?_ | refine belD ?_ | refine belN ?_ | refine belS ?_ (by simp) | refine belT ?_ (by assumption))) hW)) (by omega) (by omega) (by omega)).mono ?_
  rintro e w3_ ⟨rfl, hb3⟩
  clear hc hf
  replace hW := belT hW hb3
  obtain ⟨hc, hf⟩ := bcell hW
  go_wp2
  go_ret
  exact ⟨ret_int (by omega), belT (by repeat (first | exact Below.refl _ _ | assumption | refine belA ?_ | refine belD ?_ | refine belN ?_ | refine belS ?_ (by simp) | refine belT ?_ (by assumption))) hW⟩
/-- the boxes of toProof: what came, the result's, the new one -/
structure TB (W : World) (b : Nat) (s0 s1 s2 d0 d1 d2 : Value) : Prop where
  lt : b + 2 < W.heap.size
  x0 : W.cell? ⟨b, 0, none⟩ = some s0
  x1 : W.cell? ⟨b, 1, none⟩ = some s1
  x2 : W.cell? ⟨b, 2, none⟩ = some s2
  r0 : W.cell? ⟨b + 1, 0, none⟩ = some (.slice none 0 0)
  r1 : W.cell? ⟨b + 1, 1, none⟩ = some (.slice none 0 0)
  r2 : W.cell? ⟨b + 1, 2, none⟩ = some (.slice none 0 0)
  y0 : W.cell? ⟨b + 1 + 1, 0, none⟩ = some d0
  y1 : W.cell? ⟨b + 1 + 1, 1, none⟩ = some d1
  y2 : W.cell? ⟨b + 1 + 1, 2, none⟩ = some d2
  f0 : W.frozen? ⟨b + 1, 0, none⟩ = false
  f1 : W.frozen? ⟨b + 1, 1, none⟩ = false
  f2 : W.frozen? ⟨b + 1, 2, none⟩ = false
  e0 : W.frozen? ⟨b + 1 + 1, 0, none⟩ = false
  e1 : W.frozen? ⟨b + 1 + 1, 1, none⟩ = false
  e2 : W.frozen? ⟨b + 1 + 1, 2, none⟩ = false
theorem TB.below {W W' : World} {b : Nat} {s0 s1 s2 d0 d1 d2 : Value} (h : TB W b s0 s1 s2 d0 d1 d2) (hb : Below W.heap.size W W') : TB W' b s0 s1 s2 d0 d1 d2 := by
  have hl := h.lt
  exact ⟨Nat.lt_of_lt_of_le h.lt hb.size, keepB hb h.x0, keepB hb h.x1, keepB hb h.x2, keepB hb h.r0, keepB hb h.r1, keepB hb h.r2, keepB hb h.y0, keepB hb h.y1, keepB hb h.y2,
    (hb.frozen (p := ⟨b + 1, 0, none⟩) (show b + 1 < W.heap.size by omega)).trans h.f0,
    (hb.frozen (p := ⟨b + 1, 1, none⟩) (show b + 1 < W.heap.size by omega)).trans h.f1,
    (hb.frozen (p := ⟨b + 1, 2, none⟩) (show b + 1 < W.heap.size by omega)).trans h.f2,
    (hb.frozen (p := ⟨b + 1 + 1, 0, none⟩) (show b + 1 + 1 < W.heap.size by omega)).trans h.e0,
    (hb.frozen (p := ⟨b + 1 + 1, 1, none⟩) (show b + 1 + 1 < W.heap.size by omega)).trans h.e1,
    (hb.frozen (p := ⟨b + 1 + 1, 2, none⟩) (show b + 1 + 1 < W.heap.size by omega)).trans h.e2⟩
theorem TB.put0 {W : World} {b : Nat} {s0 s1 s2 d0 d1 d2 : Value} (h : TB W b s0 s1 s2 d0 d1 d2) (v : Value) : TB (W.setCell ⟨b + 1 + 1, 0, none⟩ v) b s0 s1 s2 v d1 d2 := by
  refine ⟨by simpa using h.lt, keepS (by simp <;> omega) h.x0, keepS (by simp <;> omega) h.x1, keepS (by simp <;> omega) h.x2, keepS (by simp) h.r0, keepS (by simp) h.r1, keepS (by simp) h.r2, World.cell?_setCell_same _ _ _ h.y0, (World.cell?_setCell_other _ _ _ _ (by simp)).trans h.y1, (World.cell?_setCell_other _ _ _ _ (by simp)).trans h.y2, by rw [World.frozen?_setCell]; exact h.f0, by rw [World.frozen?_setCell]; exact h.f1, by rw [World.frozen?_setCell]; exact h.f2, by rw [World.frozen?_setCell]; exact h.e0, by rw [World.frozen?_setCell]; exact h.e1, by rw [World.frozen?_setCell]; exact h.e2⟩
theorem TB.put1 {W : World} {b : Nat} {s0 s1 s2 d0 d1 d2 : Value} (h : TB W b s0 s1 s2 d0 d1 d2) (v : Value) : TB (W.setCell ⟨b + 1 + 1, 1, none⟩ v) b s0 s1 s2 d0 v d2 := by
  refine ⟨by simpa using h.lt, keepS (by simp <;> omega) h.x0, keepS (by simp <;> omega) h.x1, keepS (by simp <;> omega) h.x2, keepS (by simp) h.r0, keepS (by simp) h.r1, keepS (by simp) h.r2, (World.cell?_setCell_other _ _ _ _ (by simp)).trans h.y0, World.cell?_setCell_same _ _ _ h.y1, (World.cell?_setCell_other _ _ _ _ (by simp)).trans h.y2, by rw [World.frozen?_setCell]; exact h.f0, by rw [World.frozen?_setCell]; exact h.f1, by rw [World.frozen?_setCell]; exact h.f2, by rw [World.frozen?_setCell]; exact h.e0, by rw [World.frozen?_setCell]; exact h.e1, by rw [World.frozen?_setCell]; exact h.e2⟩
theorem TB.put2 {W : World} {b : Nat} {s0 s1 s2 d0 d1 d2 : Value} (h : TB W b s0 s1 s2 d0 d1 d2) (v : Value) : TB (W.setCell ⟨b + 1 + 1, 2, none⟩ v) b s0 s1 s2 d0 d1 v := by
  refine ⟨by simpa using h.lt, keepS (by simp <;> omega) h.x0, keepS (by simp <;> omega) h.x1, keepS (by simp <;> omega) h.x2, keepS (by simp) h.r0, keepS (by simp) h.r1, keepS (by simp) h.r2, (World.cell?_setCell_other _ _ _ _ (by simp)).trans h.y0, (World.cell?_setCell_other _ _ _ _ (by simp)).trans h.y1, World.cell?_setCell_same _ _ _ h.y2, by rw [World.frozen?_setCell]; exact h.f0, by rw [World.frozen?_setCell]; exact h.f1, by rw [World.frozen?_setCell]; exact h.f2, by rw [World.frozen?_setCell]; exact h.e0, by rw [World.frozen?_setCell]; exact h.e1, by rw [World.frozen?_setCell]; exact h.e2⟩
theorem TB.new (w : World) (s0 s1 s2 : Value) (t u : TypeId) : TB (((w.alloc (.cells #[s0, s1, s2] t)).alloc (.cells #[.slice none 0 0, .slice none 0 0, .slice none 0 0] u)).alloc (.cells #[.slice none 0 0, .slice none 0 0, .slice none 0 0] u)) w.heap.size s0 s1 s2 (.slice none 0 0) (.slice none 0 0) (.slice none 0 0) := by
  refine ⟨by simp, by rw [World.cell?_alloc_past _ _ _ (by simp <;> omega), World.cell?_alloc_past _ _ _ (by simp <;> omega), World.cell?_alloc_at _ _ _ _ (by simp)]; rfl, by rw [World.cell?_alloc_past _ _ _ (by simp <;> omega), World.cell?_alloc_past _ _ _ (by simp <;> omega), World.cell?_alloc_at _ _ _ _ (by simp)]; rfl, by rw [World.cell?_alloc_past _ _ _ (by simp <;> omega), World.cell?_alloc_past _ _ _ (by simp <;> omega), World.cell?_alloc_at _ _ _ _ (by simp)]; rfl, by rw [World.cell?_alloc_past _ _ _ (by simp <;> omega), World.cell?_alloc_at _ _ _ _ (by simp)]; rfl, by rw [World.cell?_alloc_past _ _ _ (by simp <;> omega), World.cell?_alloc_at _ _ _ _ (by simp)]; rfl, by rw [World.cell?_alloc_past _ _ _ (by simp <;> omega), World.cell?_alloc_at _ _ _ _ (by simp)]; rfl, by rw [World.cell?_alloc_at _ _ _ _ (by simp)]; rfl, by rw [World.cell?_alloc_at _ _ _ _ (by simp)]; rfl, by rw [World.cell?_alloc_at _ _ _ _ (by simp)]; rfl,
    by rw [World.frozen?_alloc_past _ _ _ (by simp), World.frozen?_alloc_at _ _ _ _ (by simp)],
    by rw [World.frozen?_alloc_past _ _ _ (by simp), World.frozen?_alloc_at _ _ _ _ (by simp)],
    by rw [World.frozen?_alloc_past _ _ _ (by simp), World.frozen?_alloc_at _ _ _ _ (by simp)],
    by rw [World.frozen?_alloc_at _ _ _ _ (by simp)],
    by rw [World.frozen?_alloc_at _ _ _ _ (by simp)],
    by rw [World.frozen?_alloc_at _ _ _ _ (by simp)]⟩
theorem own_put' {w : World} {B e s n b i : Nat} {v u : Value} {xs : List Value} (h : w.ownsRow B e s v n xs) (hb : b < B) : (w.setCell ⟨b, i, none⟩ u).ownsRow B e s v n xs :=
  h.kept (row := some b) ⟨rfl, rfl, rfl, by simp, fun k hk hne => heap_setCell_other w _ k u (by intro e; subst e; exact hne rfl)⟩ (by
    cases hv : v.ownBlock with
    | none => exact .inl rfl
    | some k => exact .inr (by intro e; injection e with e; have := (h.lt k hv).1; omega))
set_option maxHeartbeats 1600000 in
theorem toProof_any (A1 A2 A3 : Option Addr) (n1 n2 n3 c1 c2 c3 : Nat) (z1 z2 z3 : List Int) (w : World) (h1 : Ints w A1 n1 z1) (h2 : Ints w A2 n2 z2) (h3 : Ints w A3 n3 z3) (m1 : n1 ≤ 1048576) (m2 : n2 ≤ 1048576) (m3 : n3 ≤ 1048576) :
    Calls Try.prog 56 #[.agg #[.slice A1 n1 c1, .slice A2 n2 c2, .slice A3 n3 c3]] w fun e w' => ∃ D1 d1 D2 d2 D3 d3, e = .returned (.agg #[.slice D1 n1 d1, .slice D2 n2 d2, .slice D3 n3 d3]) ∧ Ints w' D1 n1 z1 ∧ Ints w' D2 n2 z2 ∧ Ints w' D3 n3 z3 ∧ Below w.heap.size w w' := by
  have H1 := Lib.hid h1
  have H2 := Lib.hid h2
  have H3 := Lib.hid h3
  clear h1 h2 h3
  go_enter Try.func56, Try.ntmps56
  go_wp2_with fail
  have ht := TB.new w (.slice A1 n1 c1) (.slice A2 n2 c2) (.slice A3 n3 c3) 71 52
  generalize hW0 : ((w.alloc (.cells #[.slice A1 n1 c1, .slice A2 n2 c2, .slice A3 n3 c3] 71)).alloc (.cells #[.slice none 0 0, .slice none 0 0, .slice none 0 0] 52)).alloc (.cells #[.slice none 0 0, .slice none 0 0, .slice none 0 0] 52) = W0 at ht
  have hB : Below w.heap.size w W0 := by subst hW0; exact (by repeat (first | exact Below.refl _ _ | assumption | refine belA ?_ | refine belD ?_ | refine belN ?_ | refine belS ?_ (by simp) | refine belT ?_ (by assumption)))
  clear hW0
  refine (toIntS_any A1 n1 c1 z1 _ (H1.out.below hB) (by omega)).mono ?_
  rintro e w1 ⟨D1, d1, rfl, ho1, hb1⟩
  have HO1 := Lib.hid (own_put' (b := w.heap.size + 1 + 1) (i := 0) (u := .slice D1 n1 d1) ho1 (by have := ht.lt; omega))
  have ht1 := (ht.below hb1).put0 (.slice D1 n1 d1)
  have hB1 : Below w.heap.size w (w1.setCell ⟨w.heap.size + 1 + 1, 0, none⟩ (.slice D1 n1 d1)) := belS (belT hB hb1) (by simp; omega)
  have HL1 := Lib.hid ht.lt
  obtain ⟨l, x0, x1, x2, r0, r1, r2, y0, y1, y2, f0, f1, f2, e0, e1, e2⟩ := ht.below hb1
  clear ho1 ht hB
  go_wp2_with fail
  generalize hV : w1.setCell ⟨w.heap.size + 1 + 1, 0, none⟩ (.slice D1 n1 d1) = V1 at ht1 hB1 HO1
  clear hV l x0 x1 x2 r0 r1 r2 y0 y1 y2 f0 f1 f2 e0 e1 e2 hb1
  have ht := ht1
  have hB := hB1
  clear ht1 hB1
  refine (toIntS_any A2 n2 c2 z2 _ (H2.out.below hB) (by omega)).mono ?_
  rintro e w2 ⟨D2, d2, rfl, ho2, hb2⟩
  have HL2 := Lib.hid ht.lt
  have HO2 := Lib.hid (own_put' (b := w.heap.size + 1 + 1) (i := 1) (u := .slice D2 n2 d2) ho2 (by have := ht.lt; omega))
  replace HO1 := Lib.hid (own_put' (b := w.heap.size + 1 + 1) (i := 1) (u := .slice D2 n2 d2) (ownBelow HO1.out hb2) (by have := HL1.out; omega))
  have ht2 := (ht.below hb2).put1 (.slice D2 n2 d2)
  have hB2 : Below w.heap.size w (w2.setCell ⟨w.heap.size + 1 + 1, 1, none⟩ (.slice D2 n2 d2)) := belS (belT hB hb2) (by simp; omega)
  obtain ⟨l, x0, x1, x2, r0, r1, r2, y0, y1, y2, f0, f1, f2, e0, e1, e2⟩ := ht.below hb2
  clear ho2 ht hB
  go_wp2_with fail
  generalize hV : w2.setCell ⟨w.heap.size + 1 + 1, 1, none⟩ (.slice D2 n2 d2) = V2 at ht2 hB2 HO1 HO2
  clear hV l x0 x1 x2 r0 r1 r2 y0 y1 y2 f0 f1 f2 e0 e1 e2 hb2
  have ht := ht2
  have hB := hB2
  clear ht2 hB2
  refine (toIntS_any A3 n3 c3 z3 _ (H3.out.below hB) (by omega)).mono ?_
  rintro e w3 ⟨D3, d3, rfl, ho3, hb3⟩
  have HL3 := Lib.hid ht.lt
  have HO3 := Lib.hid (own_put' (b := w.heap.size + 1 + 1) (i := 2) (u := .slice D3 n3 d3) ho3 (by have := ht.lt; omega))
  replace HO1 := Lib.hid (own_put' (b := w.heap.size + 1 + 1) (i := 2) (u := .slice D3 n3 d3) (ownBelow HO1.out hb3) (by have := HL1.out; omega))
  replace HO2 := Lib.hid (own_put' (b := w.heap.size + 1 + 1) (i := 2) (u := .slice D3 n3 d3) (ownBelow HO2.out hb3) (by have := HL2.out; omega))
  have ht3 := (ht.below hb3).put2 (.slice D3 n3 d3)
  have hB3 : Below w.heap.size w (w3.setCell ⟨w.heap.size + 1 + 1, 2, none⟩ (.slice D3 n3 d3)) := belS (belT hB hb3) (by simp; omega)
  obtain ⟨l, x0, x1, x2, r0, r1, r2, y0, y1, y2, f0, f1, f2, e0, e1, e2⟩ := ht.below hb3
  clear ho3 ht hB
  go_wp2_with fail
  refine bodyPost_ret (v := .agg #[.slice D1 n1 d1, .slice D2 n2 d2, .slice D3 n3 d3]) (by simp [results, Try.results56, go_sem, r0, r1, r2]) rfl ⟨D1, d1, D2, d2, D3, d3, rfl, ?_, ?_, ?_, ?_⟩
  · exact Ints.of_own (own_put' (own_put' (own_put' HO1.out (by have := HL1.out; omega)) (by have := HL1.out; omega)) (by have := HL1.out; omega))
  · exact Ints.of_own (own_put' (own_put' (own_put' HO2.out (by have := HL2.out; omega)) (by have := HL2.out; omega)) (by have := HL2.out; omega))
  · exact Ints.of_own (own_put' (own_put' (own_put' HO3.out (by have := HL3.out; omega)) (by have := HL3.out; omega)) (by have := HL3.out; omega))
  · exact belS (belS (belS hB3 (by simp)) (by simp)) (by simp)
set_option maxHeartbeats 800000 in
theorem szIntS_any (A : Option Addr) (n c : Nat) (left : Int) (w : World) (hn : n ≤ 9223372036854775807) (l0 : 0 ≤ left) (l1 : left ≤ 9223372036854775807) :
    Calls Try.prog 86 #[.slice A n c, .int .i64 left] w fun e w' => e = .returned (.int .i64 (if (n : Int) ≤ left then left - n else -1)) ∧ w = w' := by
  by_cases hl : (n : Int) ≤ left
  · rw [if_pos hl]
    go_enter Try.func86, Try.ntmps86
    go_wp2
    go_ret
    exact ⟨rfl, rfl⟩
  · rw [if_neg hl]
    go_enter Try.func86, Try.ntmps86
    go_wp2
    go_ret
    exact ⟨rfl, rfl⟩
set_option maxHeartbeats 800000 in
theorem szProof_any (A1 A2 A3 : Option Addr) (n1 n2 n3 c1 c2 c3 : Nat) (left : Int) (w : World) (h1 : n1 ≤ 9223372036854775807) (h2 : n2 ≤ 9223372036854775807) (h3 : n3 ≤ 9223372036854775807) (l0 : 0 ≤ left) (l1 : left ≤ 9223372036854775807) :
    Calls Try.prog 53 #[.agg #[.slice A1 n1 c1, .slice A2 n2 c2, .slice A3 n3 c3], .int .i64 left] w fun e w' => e = .returned (.int .i64 (if (n1 : Int) + n2 + n3 ≤ left then left - n1 - n2 - n3 else -1)) ∧ Below w.heap.size w w' := by
  by_cases e1 : (n1 : Int) ≤ left
  · by_cases e2 : (n2 : Int) ≤ left - n1
    · by_cases e3 : (n3 : Int) ≤ left - n1 - n2
      · go_enter Try.func53, Try.ntmps53
        go_wp2_with (go_at_call 86; refine (szIntS_any _ _ _ _ _ (by omega) (by omega) (by omega)).mono ?_; rintro e w' ⟨rfl, rfl⟩; rw [if_pos (by omega)])
        go_ret
        exact ⟨ret_int (by first | rfl | rw [if_pos (by omega)]), (by repeat (first | exact Below.refl _ _ | assumption | refine belA ?_ | refine belD ?_ | refine belN ?_ | refine belS ?_ (by simp) | refine belT ?_ (by assumption)))⟩
      · go_enter Try.func53, Try.ntmps53
        go_wp2_with (go_at_call 86; refine (szIntS_any _ _ _ _ _ (by omega) (by omega) (by omega)).mono ?_; rintro e w' ⟨rfl, rfl⟩; first | rw [if_pos (by omega)] | rw [if_neg (by omega)])
        go_ret
        exact ⟨ret_int (by first | rfl | rw [if_neg (by omega)]), (by repeat (first | exact Below.refl _ _ | assumption | refine belA ?_ | refine belD ?_ | refine belN ?_ | refine belS ?_ (by simp) | refine belT ?_ (by assumption)))⟩
    · go_enter Try.func53, Try.ntmps53
      go_wp2_with (go_at_call 86; refine (szIntS_any _ _ _ _ _ (by omega) (by omega) (by omega)).mono ?_; rintro e w' ⟨rfl, rfl⟩; first | rw [if_pos (by omega)] | rw [if_neg (by omega)])
      go_ret
      exact ⟨ret_int (by first | rfl | rw [if_neg (by omega)]), (by repeat (first | exact Below.refl _ _ | assumption | refine belA ?_ | refine belD ?_ | refine belN ?_ | refine belS ?_ (by simp) | refine belT ?_ (by assumption)))⟩
  · go_enter Try.func53, Try.ntmps53
    go_wp2_with (go_at_call 86; refine (szIntS_any _ _ _ _ _ (by omega) (by omega) (by omega)).mono ?_; rintro e w' ⟨rfl, rfl⟩; rw [if_neg (by omega)])
    go_ret
    exact ⟨ret_int (by first | rfl | rw [if_neg (by omega)]), (by repeat (first | exact Below.refl _ _ | assumption | refine belA ?_ | refine belD ?_ | refine belN ?_ | refine belS ?_ (by simp) | refine belT ?_ (by assumption)))⟩
end Go.Proofs.Yteeggmnkcgpfjaa
