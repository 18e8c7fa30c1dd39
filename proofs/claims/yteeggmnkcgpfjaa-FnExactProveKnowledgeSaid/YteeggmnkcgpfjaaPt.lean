/- Contracts of both sides: a linear statement, knowledge of an exponent, proved. -/
import Derived.Test.YteeggmnkcgpfjaaPs
import Derived.Test.YteeggmnkcgpfjaaPi
namespace Go.Proofs.Yteeggmnkcgpfjaa
open Go.RowKit
set_option linter.unusedVariables false
attribute [local go_sem ↓] Go.wp_at_zero Go.wp_at_succ
set_option linter.unusedSimpArgs false

set_option maxHeartbeats 400000 in
theorem sLabel_any (p q g : Int) (s : ByteArray) (w : World) (hm : s.size ≤ 9223372036854775807) :
    Calls Try.prog 104 #[.agg #[.int .i64 p, .int .i64 q, .int .i64 g], .string s] w fun e w' => e = .returned (.bool (goodB p q g && decide (s.size ≤ 40))) ∧ Below w.heap.size w w' := by
  have hd : decide ((s.size : Int) ≤ 40) = decide (s.size ≤ 40) := by rw [decide_eq_decide]; omega
  have HD := Lib.hid hd
  clear hd
  go_enter Try.func104, Try.ntmps104
  go_wp2_with fail
  refine (l2Good_any p q g _).mono ?_
  rintro e w1_ ⟨rfl, hb1⟩
  have hW := hb1
  obtain ⟨hc, hf⟩ := bcell hW
  cases hg : goodB p q g
  · have HGD := Lib.hid hg
    go_wp2
    go_ret
    exact ⟨ret_bool (by rw [HGD.out]; rfl), belT (by repeat (first | exact Below.refl _ _ | assumption | refine belA ?_ | refine belD ?_ | refine belN ?_ | refine belS ?_ (by simp) | refine belT ?_ (by assumption))) hW⟩
  · have HGD := Lib.hid hg
    go_wp2
    go_ret
    exact ⟨ret_bool (by rw [HGD.out, Bool.true_and]; exact HD.out), belT (by repeat (first | exact Below.refl _ _ | assumption | refine belA ?_ | refine belD ?_ | refine belN ?_ | refine belS ?_ (by simp) | refine belT ?_ (by assumption))) hW⟩
set_option maxHeartbeats 400000 in
theorem isLabel_any (s : ByteArray) (w : World) (hm : s.size ≤ 9223372036854775807) :
    Calls Try.prog 149 #[.string s] w fun e w' => e = .returned (.bool (decide (s.size ≤ 40))) ∧ Below w.heap.size w w' := by
  have hd : decide ((s.size : Int) ≤ 40) = decide (s.size ≤ 40) := by rw [decide_eq_decide]; omega
  have HD := Lib.hid hd
  clear hd
  go_enter Try.func149, Try.ntmps149
  go_wp2
  go_ret
  exact ⟨ret_bool HD.out, Below.refl _ _⟩
theorem grid1 {W : World} {g : Nat} {A : Option Addr} {n c : Nat} {x : List Int} (hc : W.cell? ⟨g, 0, none⟩ = some (.slice A n c)) (hx : Ints W A n x) : Grid W (some ⟨g, 0, none⟩) 1 [(A, c, x)] := by
  have e := hx.len
  subst e
  refine ⟨rfl, by omega, fun _ => ⟨g, 0, rfl, World.block_lt_of_cell? _ _ hc, fun k hk => ?_⟩⟩
  have e : k = 0 := by omega
  subst e
  exact ⟨hc, hx⟩
theorem plM_no {p q g : Int} {s : ByteArray} {rs : List (List Int)} {ss cs : List Int} (h : plB p q g s rs ss cs = false) : plM p q g s rs ss cs = (([], [], []), false) := by rw [plM, h]; rfl
theorem plM_yes {p q g : Int} {s : ByteArray} {rs : List (List Int)} {ss cs : List Int} (h : plB p q g s rs ss cs = true) : plM p q g s rs ss cs = (pvV p q g s rs ss cs, true) := by rw [plM, h]; rfl
theorem plM_len (p q g : Int) (s : ByteArray) (b x y : Int) : plen (plM p q g s [[b]] [x] [y]).1 ≤ 100000000000000 := by
  unfold plM
  split
  · simp [plen, pvV, imgR, ansK]
  · simp [plen]
/-- a refused proof is handed back -/
theorem pr_back {w w0 w1 wf : World} {r : (List Int × List Int × List Int) × Bool} {A1 A2 A3 : Option Addr} {c1 c2 c3 : Nat} (hp : PV w1 w0.heap.size w1.heap.size A1 c1 A2 c2 A3 c3 r.1) (hs : Spared (w.heap.size + 1) (w.heap.size + 1 + 1) w1 wf) (h0 : w.heap.size + 1 + 1 ≤ w0.heap.size) (hb : Below w.heap.size w w1) (hsz : w1.heap.size = wf.heap.size) :
    PR w r (.returned (.tuple #[.agg #[.slice A1 r.1.1.length c1, .slice A2 r.1.2.1.length c2, .slice A3 r.1.2.2.length c3], .bool r.2])) wf := by
  obtain ⟨B1, B2, l1, l2, l3, o1, o2, o3⟩ := hp
  refine ⟨A1, c1, A2, c2, A3, c3, rfl, ⟨B1, B2, by omega, l2, by omega, ?_, o2.spared hs (by omega), ?_⟩, hs.below hb (by omega) hb.size⟩
  · exact (o1.spared hs (by omega)).low (by omega)
  · exact (o3.spared hs (by omega)).top (by omega)
set_option maxHeartbeats 4000000 in
theorem sProveLinear_any (p q g : Int) (s : ByteArray) (R : Option Addr) (r rc : Nat) (bs : List (Option Addr × Nat × List Int)) (A : Option Addr) (n c : Nat) (ss : List Int) (A' : Option Addr) (n' c' : Nat) (cs : List Int) (w : World) (hm : s.size ≤ 9223372036854775807) (h : Grid w R r bs) (h1 : Ints w A n ss) (h2 : Ints w A' n' cs) :
    Calls Try.prog 102 #[.agg #[.int .i64 p, .int .i64 q, .int .i64 g], .string s, .slice R r rc, .slice A n c, .slice A' n' c'] w (PR w (plM p q g s (rowsG bs) ss cs)) := by
  have hl := h.len
  subst hl
  have hl := h1.len
  subst hl
  have hl := h2.len
  subst hl
  have hle := h.le
  have hle1 := h1.le
  have hle2 := h2.le
  have HI := Lib.hid h
  have H1 := Lib.hid h1
  have H2 := Lib.hid h2
  have HS := Lib.hid (sb_rows p q bs)
  have HR0 := Lib.hid (rowK_rows bs 0)
  have hrb : PB ((w.alloc (.cells #[.int .i64 p, .int .i64 q, .int .i64 g] 27)).alloc (.cells #[.slice none 0 0, .slice none 0 0, .slice none 0 0] 52)) (w.heap.size + 1) (.slice none 0 0) (.slice none 0 0) (.slice none 0 0) := by
    have := PB.new (w.alloc (.cells #[.int .i64 p, .int .i64 q, .int .i64 g] 27)) 52 (.slice none 0 0) (.slice none 0 0) (.slice none 0 0)
    simpa using this
  have HRB := Lib.hid hrb
  have HF := Lib.hid (And.intro (show ((w.alloc (.cells #[.int .i64 p, .int .i64 q, .int .i64 g] 27)).alloc (.cells #[.slice none 0 0, .slice none 0 0, .slice none 0 0] 52)).cell? ⟨w.heap.size, 0, none⟩ = some (.int .i64 p) by rw [World.cell?_alloc_past _ _ _ (by simp <;> omega), World.cell?_alloc_at _ _ _ _ (by simp)]; rfl) (And.intro (show ((w.alloc (.cells #[.int .i64 p, .int .i64 q, .int .i64 g] 27)).alloc (.cells #[.slice none 0 0, .slice none 0 0, .slice none 0 0] 52)).cell? ⟨w.heap.size, 1, none⟩ = some (.int .i64 q) by rw [World.cell?_alloc_past _ _ _ (by simp <;> omega), World.cell?_alloc_at _ _ _ _ (by simp)]; rfl) (show ((w.alloc (.cells #[.int .i64 p, .int .i64 q, .int .i64 g] 27)).alloc (.cells #[.slice none 0 0, .slice none 0 0, .slice none 0 0] 52)).cell? ⟨w.heap.size, 2, none⟩ = some (.int .i64 g) by rw [World.cell?_alloc_past _ _ _ (by simp <;> omega), World.cell?_alloc_at _ _ _ _ (by simp)]; rfl)))
  clear h h1 h2 hrb
  go_enter Try.func102, Try.ntmps102
  go_wp2_with fail
  refine (sLabel_any p q g s _ hm).mono ?_
  rintro e w1_ ⟨rfl, hb1⟩
  have hW := hb1
  obtain ⟨hc, hf⟩ := bcell hW
  obtain ⟨y0, y1, y2, z0, z1, z2⟩ := HRB.out.below hW
  cases q1 : goodB p q g
  · rw [Bool.false_and]
    go_wp2
    refine bodyPost_ret (v := .tuple #[.agg #[.slice none 0 0, .slice none 0 0, .slice none 0 0], .bool false]) (by simp [results, Try.results102, go_sem, y0, y1, y2]) rfl ?_
    exact PR.no (plM_no (by simp only [plB, q1]; simp)) (by repeat (first | refine belS ?_ (by simp) | exact belT (by repeat (first | exact Below.refl _ _ | assumption | refine belA ?_ | refine belD ?_ | refine belN ?_ | refine belS ?_ (by simp) | refine belT ?_ (by assumption))) hW))
  rw [Bool.true_and]
  cases q2 : decide (s.size ≤ 40)
  · go_wp2
    refine bodyPost_ret (v := .tuple #[.agg #[.slice none 0 0, .slice none 0 0, .slice none 0 0], .bool false]) (by simp [results, Try.results102, go_sem, y0, y1, y2]) rfl ?_
    exact PR.no (plM_no (by simp only [plB, q1, q2]; simp)) (by repeat (first | refine belS ?_ (by simp) | exact belT (by repeat (first | exact Below.refl _ _ | assumption | refine belA ?_ | refine belD ?_ | refine belN ?_ | refine belS ?_ (by simp) | refine belT ?_ (by assumption))) hW))
  clear y0 y1 y2 z0 z1 z2
  have HSZ := Lib.hid (show s.size ≤ 40 by simpa using q2)
  have HQ2 := Lib.hid q2
  clear q2
  obtain ⟨g1, g2, g3, g4, g5, g6⟩ := good_om q1
  go_wp2_with fail
  refine (sBases_any p q g R bs.length rc bs _ (HI.out.below (belT (by repeat (first | exact Below.refl _ _ | assumption | refine belA ?_ | refine belD ?_ | refine belN ?_ | refine belS ?_ (by simp) | refine belT ?_ (by assumption))) hW)) g1 g2 g3 g4).mono ?_
  rintro e w2_ ⟨rfl, hb2⟩
  clear hc hf
  replace hW := belT hW hb2
  obtain ⟨hc, hf⟩ := bcell hW
  obtain ⟨y0, y1, y2, z0, z1, z2⟩ := HRB.out.below hW
  rw [HS.out]
  cases q3 : sbR p q (rowsG bs)
  · go_wp2
    refine bodyPost_ret (v := .tuple #[.agg #[.slice none 0 0, .slice none 0 0, .slice none 0 0], .bool false]) (by simp [results, Try.results102, go_sem, y0, y1, y2]) rfl ?_
    exact PR.no (plM_no (by simp only [plB, q1, HQ2.out, q3]; simp)) (by repeat (first | refine belS ?_ (by simp) | exact belT (by repeat (first | exact Below.refl _ _ | assumption | refine belA ?_ | refine belD ?_ | refine belN ?_ | refine belS ?_ (by simp) | refine belT ?_ (by assumption))) hW))
  clear y0 y1 y2 z0 z1 z2
  have HSB := Lib.hid (HS.out.trans q3)
  obtain ⟨b, off, eR, hgb, hr0, hrow0⟩ := HI.out.at_ (show 0 < bs.length by have := (SB.of HSB.out).r1; omega)
  rw [Nat.add_zero] at hr0
  have e0 : (bs.getD 0 dRow).2.2 = rowK bs 0 := rfl
  have hlr := hrow0.le
  rw [e0] at hr0 hlr
  have HM : Hid ((rowK bs 0).length = ((rowsG bs).getD 0 []).length) := Lib.hid (by rw [HR0.out])
  subst eR
  have HM0 : Hid (∃ m, m = (rowK bs 0).length) := Lib.hid ⟨_, rfl⟩
  generalize hm0 : (rowK bs 0).length = m0 at hr0 hlr HM
  have HK := Lib.hid hm0
  clear e0 hrow0 HM0 hm0
  have hpos : (0 : Int) < (bs.length : Int) := by have := (SB.of HSB.out).r1; omega
  have hrc := keepB hW (keepB (belA (belA (Below.refl _ _))) hr0)
  obtain ⟨f0, f1, f2⟩ := HF.out
  replace f0 := keepB hW f0
  replace f1 := keepB hW f1
  replace f2 := keepB hW f2
  clear hc hf hr0
  have hc := True.intro
  have hf := True.intro
  by_cases hne : ss.length = m0
  · have hd : ((ss.length : Int) != (m0 : Int)) = false := by simp [hne]
    have HQ4 := Lib.hid (show decide (ss.length = ((rowsG bs).getD 0 []).length) = true by rw [← HM.out, hne]; simp)
    have HN := Lib.hid hne
    clear hne
    by_cases hnc : cs.length = ss.length
    · have hd2 : ((cs.length : Int) != (ss.length : Int)) = false := by simp [hnc]
      have HQ5 := Lib.hid (show decide (cs.length = ss.length) = true by simp [hnc])
      have HN2 := Lib.hid hnc
      clear hnc
      go_wp2_with fail
      refine (gExps_any p q g A ss.length c ss _ (H1.out.below (belT (by repeat (first | exact Below.refl _ _ | assumption | refine belA ?_ | refine belD ?_ | refine belN ?_ | refine belS ?_ (by simp) | refine belT ?_ (by assumption))) hW)) (by omega) (by omega)).mono ?_
      rintro e w3_ ⟨rfl, hb3⟩
      clear hc hf
      replace hW := belT hW hb3
      obtain ⟨hc, hf⟩ := bcell hW
      obtain ⟨y0, y1, y2, z0, z1, z2⟩ := HRB.out.below hW
      cases q6 : (ss.all fun e ↦ inB e 0 (q - 1))
      · go_wp2
        refine bodyPost_ret (v := .tuple #[.agg #[.slice none 0 0, .slice none 0 0, .slice none 0 0], .bool false]) (by simp [results, Try.results102, go_sem, y0, y1, y2]) rfl ?_
        exact PR.no (plM_no (by simp only [plB, q1, HQ2.out, q3, HQ4.out, HQ5.out, q6]; simp)) (by repeat (first | refine belS ?_ (by simp) | exact belT (by repeat (first | exact Below.refl _ _ | assumption | refine belA ?_ | refine belD ?_ | refine belN ?_ | refine belS ?_ (by simp) | refine belT ?_ (by assumption))) hW))
      clear y0 y1 y2 z0 z1 z2
      go_wp2_with fail
      refine (gExps_any p q g A' cs.length c' cs _ (H2.out.below (belT (by repeat (first | exact Below.refl _ _ | assumption | refine belA ?_ | refine belD ?_ | refine belN ?_ | refine belS ?_ (by simp) | refine belT ?_ (by assumption))) hW)) (by omega) (by omega)).mono ?_
      rintro e w4_ ⟨rfl, hb4⟩
      clear hc hf
      replace hW := belT hW hb4
      obtain ⟨hc, hf⟩ := bcell hW
      obtain ⟨y0, y1, y2, z0, z1, z2⟩ := HRB.out.below hW
      cases q7 : (cs.all fun e ↦ inB e 0 (q - 1))
      · go_wp2
        refine bodyPost_ret (v := .tuple #[.agg #[.slice none 0 0, .slice none 0 0, .slice none 0 0], .bool false]) (by simp [results, Try.results102, go_sem, y0, y1, y2]) rfl ?_
        exact PR.no (plM_no (by simp only [plB, q1, HQ2.out, q3, HQ4.out, HQ5.out, q6, q7]; simp)) (by repeat (first | refine belS ?_ (by simp) | exact belT (by repeat (first | exact Below.refl _ _ | assumption | refine belA ?_ | refine belD ?_ | refine belN ?_ | refine belS ?_ (by simp) | refine belT ?_ (by assumption))) hW))
      clear y0 y1 y2 z0 z1 z2
      have HP := Lib.hid (plM_yes (s := s) (rs := rowsG bs) (ss := ss) (cs := cs) (show plB p q g s (rowsG bs) ss cs = true by simp only [plB, q1, HQ2.out, q3, HQ4.out, HQ5.out, q6, q7]; rfl))
      have HZZ := Lib.hid hW.size
      go_wp2_with fail
      refine (sProve_any p q g s (some ⟨b, off, none⟩) bs.length rc bs A ss.length c ss A' cs.length c' cs _ q1 HSZ.out (HI.out.below (belT (by repeat (first | exact Below.refl _ _ | assumption | refine belA ?_ | refine belD ?_ | refine belN ?_ | refine belS ?_ (by simp) | refine belT ?_ (by assumption))) hW)) HSB.out (H1.out.below (belT (by repeat (first | exact Below.refl _ _ | assumption | refine belA ?_ | refine belD ?_ | refine belN ?_ | refine belS ?_ (by simp) | refine belT ?_ (by assumption))) hW)) (H2.out.below (belT (by repeat (first | exact Below.refl _ _ | assumption | refine belA ?_ | refine belD ?_ | refine belN ?_ | refine belS ?_ (by simp) | refine belT ?_ (by assumption))) hW)) (HN.out.trans HK.out.symm) HN2.out q6 q7).mono ?_
      rintro e w9 ⟨A1, k1, A2, k2, A3, k3, rfl, hpv, hb9⟩
      have hW9 := belT hW hb9
      obtain ⟨hc, hf⟩ := bcell hW9
      obtain ⟨y0, y1, y2, z0, z1, z2⟩ := HRB.out.below hW9
      have HPV := Lib.hid hpv
      have HWW := Lib.hid (show Below w.heap.size w w9 from belT (by repeat (first | exact Below.refl _ _ | assumption | refine belA ?_ | refine belD ?_ | refine belN ?_ | refine belS ?_ (by simp) | refine belT ?_ (by assumption))) hW9)
      have HZ9 := Lib.hid HZZ.out
      clear hpv hb9
      try simp only
      generalize hpvv : pvV p q g s (rowsG bs) ss cs = pv at HP HPV
      obtain ⟨x1, x2, x3⟩ := pv
      try simp only at HPV
      try simp only
      go_wp2
      refine bodyPost_ret (v := .tuple #[.agg #[.slice A1 x1.length k1, .slice A2 x2.length k2, .slice A3 x3.length k3], .bool true]) (by simp [results, Try.results102, go_sem, y0, y1, y2]) rfl ?_
      rw [HP.out]
      exact pr_back (r := ((x1, x2, x3), true)) HPV.out ((spared_put'.trans spared_put').trans spared_put') (by have := HZ9.out; simp at this; omega) HWW.out (by simp)
    · have hd2 : ((cs.length : Int) != (ss.length : Int)) = true := by simp; omega
      have HQ5 := Lib.hid (show decide (cs.length = ss.length) = false by simp [hnc])
      clear hnc
      obtain ⟨y0, y1, y2, z0, z1, z2⟩ := HRB.out.below hW
      go_wp2
      refine bodyPost_ret (v := .tuple #[.agg #[.slice none 0 0, .slice none 0 0, .slice none 0 0], .bool false]) (by simp [results, Try.results102, go_sem, y0, y1, y2]) rfl ?_
      exact PR.no (plM_no (by simp only [plB, q1, HQ2.out, q3, HQ4.out, HQ5.out]; simp)) (by repeat (first | refine belS ?_ (by simp) | exact belT (by repeat (first | exact Below.refl _ _ | assumption | refine belA ?_ | refine belD ?_ | refine belN ?_ | refine belS ?_ (by simp) | refine belT ?_ (by assumption))) hW))
  · have hd : ((ss.length : Int) != (m0 : Int)) = true := by simp; omega
    have HQ4 := Lib.hid (show decide (ss.length = ((rowsG bs).getD 0 []).length) = false by rw [← HM.out]; simp [hne])
    clear hne
    obtain ⟨y0, y1, y2, z0, z1, z2⟩ := HRB.out.below hW
    go_wp2
    refine bodyPost_ret (v := .tuple #[.agg #[.slice none 0 0, .slice none 0 0, .slice none 0 0], .bool false]) (by simp [results, Try.results102, go_sem, y0, y1, y2]) rfl ?_
    exact PR.no (plM_no (by simp only [plB, q1, HQ2.out, q3, HQ4.out]; simp)) (by repeat (first | refine belS ?_ (by simp) | exact belT (by repeat (first | exact Below.refl _ _ | assumption | refine belA ?_ | refine belD ?_ | refine belN ?_ | refine belS ?_ (by simp) | refine belT ?_ (by assumption))) hW))
set_option maxHeartbeats 4000000 in
theorem iProveLinear_any (p q g : Int) (s : ByteArray) (R : Option Addr) (r rc : Nat) (bs : List (Option Addr × Nat × List Int)) (A : Option Addr) (n c : Nat) (ss : List Int) (A' : Option Addr) (n' c' : Nat) (cs : List Int) (w : World) (hm : s.size ≤ 9223372036854775807) (h : Grid w R r bs) (h1 : Ints w A n ss) (h2 : Ints w A' n' cs) :
    Calls Try.prog 103 #[.agg #[.int .i64 p, .int .i64 q, .int .i64 g], .string s, .slice R r rc, .slice A n c, .slice A' n' c'] w (PR w (plM p q g s (rowsG bs) ss cs)) := by
  have hl := h.len
  subst hl
  have hl := h1.len
  subst hl
  have hl := h2.len
  subst hl
  have hle := h.le
  have hle1 := h1.le
  have hle2 := h2.le
  have HI := Lib.hid h
  have H1 := Lib.hid h1
  have H2 := Lib.hid h2
  have HS := Lib.hid (sb_rows p q bs)
  have HR0 := Lib.hid (rowK_rows bs 0)
  have hrb : PB ((w.alloc (.cells #[.int .i64 p, .int .i64 q, .int .i64 g] 27)).alloc (.cells #[.slice none 0 0, .slice none 0 0, .slice none 0 0] 52)) (w.heap.size + 1) (.slice none 0 0) (.slice none 0 0) (.slice none 0 0) := by
    have := PB.new (w.alloc (.cells #[.int .i64 p, .int .i64 q, .int .i64 g] 27)) 52 (.slice none 0 0) (.slice none 0 0) (.slice none 0 0)
    simpa using this
  have HRB := Lib.hid hrb
  have HF := Lib.hid (And.intro (show ((w.alloc (.cells #[.int .i64 p, .int .i64 q, .int .i64 g] 27)).alloc (.cells #[.slice none 0 0, .slice none 0 0, .slice none 0 0] 52)).cell? ⟨w.heap.size, 0, none⟩ = some (.int .i64 p) by rw [World.cell?_alloc_past _ _ _ (by simp <;> omega), World.cell?_alloc_at _ _ _ _ (by simp)]; rfl) (And.intro (show ((w.alloc (.cells #[.int .i64 p, .int .i64 q, .int .i64 g] 27)).alloc (.cells #[.slice none 0 0, .slice none 0 0, .slice none 0 0] 52)).cell? ⟨w.heap.size, 1, none⟩ = some (.int .i64 q) by rw [World.cell?_alloc_past _ _ _ (by simp <;> omega), World.cell?_alloc_at _ _ _ _ (by simp)]; rfl) (show ((w.alloc (.cells #[.int .i64 p, .int .i64 q, .int .i64 g] 27)).alloc (.cells #[.slice none 0 0, .slice none 0 0, .slice none 0 0] 52)).cell? ⟨w.heap.size, 2, none⟩ = some (.int .i64 g) by rw [World.cell?_alloc_past _ _ _ (by simp <;> omega), World.cell?_alloc_at _ _ _ _ (by simp)]; rfl)))
  clear h h1 h2 hrb
  go_enter Try.func103, Try.ntmps103
  go_wp2_with fail
  refine (IsValidGroup_any p q g _).mono ?_
  rintro e w1_ ⟨rfl, hb1⟩
  have hW := hb1
  obtain ⟨hc, hf⟩ := bcell hW
  obtain ⟨y0, y1, y2, z0, z1, z2⟩ := HRB.out.below hW
  cases q1 : goodB p q g
  · go_wp2
    refine bodyPost_ret (v := .tuple #[.agg #[.slice none 0 0, .slice none 0 0, .slice none 0 0], .bool false]) (by simp [results, Try.results103, go_sem, y0, y1, y2]) rfl ?_
    exact PR.no (plM_no (by simp only [plB, q1]; simp)) (by repeat (first | refine belS ?_ (by simp) | exact belT (by repeat (first | exact Below.refl _ _ | assumption | refine belA ?_ | refine belD ?_ | refine belN ?_ | refine belS ?_ (by simp) | refine belT ?_ (by assumption))) hW))
  clear y0 y1 y2 z0 z1 z2
  go_wp2_with fail
  refine (isLabel_any s _ hm).mono ?_
  rintro e w2_ ⟨rfl, hb2⟩
  clear hc hf
  replace hW := belT hW hb2
  obtain ⟨hc, hf⟩ := bcell hW
  obtain ⟨y0, y1, y2, z0, z1, z2⟩ := HRB.out.below hW
  cases q2 : decide (s.size ≤ 40)
  · go_wp2
    refine bodyPost_ret (v := .tuple #[.agg #[.slice none 0 0, .slice none 0 0, .slice none 0 0], .bool false]) (by simp [results, Try.results103, go_sem, y0, y1, y2]) rfl ?_
    exact PR.no (plM_no (by simp only [plB, q1, q2]; simp)) (by repeat (first | refine belS ?_ (by simp) | exact belT (by repeat (first | exact Below.refl _ _ | assumption | refine belA ?_ | refine belD ?_ | refine belN ?_ | refine belS ?_ (by simp) | refine belT ?_ (by assumption))) hW))
  clear y0 y1 y2 z0 z1 z2
  have HSZ := Lib.hid (show s.size ≤ 40 by simpa using q2)
  have HQ2 := Lib.hid q2
  clear q2
  obtain ⟨g1, g2, g3, g4, g5, g6⟩ := good_om q1
  go_wp2_with fail
  refine (areRows_any p q g R bs.length rc bs _ (HI.out.below (belT (by repeat (first | exact Below.refl _ _ | assumption | refine belA ?_ | refine belD ?_ | refine belN ?_ | refine belS ?_ (by simp) | refine belT ?_ (by assumption))) hW)) g1 g2 g3 g4).mono ?_
  rintro e w3_ ⟨rfl, hb3⟩
  clear hc hf
  replace hW := belT hW hb3
  obtain ⟨hc, hf⟩ := bcell hW
  obtain ⟨y0, y1, y2, z0, z1, z2⟩ := HRB.out.below hW
  rw [HS.out]
  cases q3 : sbR p q (rowsG bs)
  · go_wp2
    refine bodyPost_ret (v := .tuple #[.agg #[.slice none 0 0, .slice none 0 0, .slice none 0 0], .bool false]) (by simp [results, Try.results103, go_sem, y0, y1, y2]) rfl ?_
    exact PR.no (plM_no (by simp only [plB, q1, HQ2.out, q3]; simp)) (by repeat (first | refine belS ?_ (by simp) | exact belT (by repeat (first | exact Below.refl _ _ | assumption | refine belA ?_ | refine belD ?_ | refine belN ?_ | refine belS ?_ (by simp) | refine belT ?_ (by assumption))) hW))
  clear y0 y1 y2 z0 z1 z2
  have HSB := Lib.hid (HS.out.trans q3)
  obtain ⟨b, off, eR, hgb, hr0, hrow0⟩ := HI.out.at_ (show 0 < bs.length by have := (SB.of HSB.out).r1; omega)
  rw [Nat.add_zero] at hr0
  have e0 : (bs.getD 0 dRow).2.2 = rowK bs 0 := rfl
  have hlr := hrow0.le
  rw [e0] at hr0 hlr
  have HM : Hid ((rowK bs 0).length = ((rowsG bs).getD 0 []).length) := Lib.hid (by rw [HR0.out])
  subst eR
  have HM0 : Hid (∃ m, m = (rowK bs 0).length) := Lib.hid ⟨_, rfl⟩
  generalize hm0 : (rowK bs 0).length = m0 at hr0 hlr HM
  have HK := Lib.hid hm0
  clear e0 hrow0 HM0 hm0
  have hpos : (0 : Int) < (bs.length : Int) := by have := (SB.of HSB.out).r1; omega
  have hrc := keepB hW (keepB (belA (belA (Below.refl _ _))) hr0)
  obtain ⟨f0, f1, f2⟩ := HF.out
  replace f0 := keepB hW f0
  replace f1 := keepB hW f1
  replace f2 := keepB hW f2
  clear hc hf hr0
  have hc := True.intro
  have hf := True.intro
  by_cases hne : ss.length = m0
  · have hd : ((ss.length : Int) != (m0 : Int)) = false := by simp [hne]
    have HQ4 := Lib.hid (show decide (ss.length = ((rowsG bs).getD 0 []).length) = true by rw [← HM.out, hne]; simp)
    have HN := Lib.hid hne
    clear hne
    by_cases hnc : cs.length = ss.length
    · have hd2 : ((cs.length : Int) != (ss.length : Int)) = false := by simp [hnc]
      have HQ5 := Lib.hid (show decide (cs.length = ss.length) = true by simp [hnc])
      have HN2 := Lib.hid hnc
      clear hnc
      go_wp2_with fail
      refine (areExps_any p q g A ss.length c ss _ (H1.out.below (belT (by repeat (first | exact Below.refl _ _ | assumption | refine belA ?_ | refine belD ?_ | refine belN ?_ | refine belS ?_ (by simp) | refine belT ?_ (by assumption))) hW)) (by omega) (by omega)).mono ?_
      rintro e w4_ ⟨rfl, hb4⟩
      clear hc hf
      replace hW := belT hW hb4
      obtain ⟨hc, hf⟩ := bcell hW
      obtain ⟨y0, y1, y2, z0, z1, z2⟩ := HRB.out.below hW
      cases q6 : (ss.all fun e ↦ inB e 0 (q - 1))
      · go_wp2
        refine bodyPost_ret (v := .tuple #[.agg #[.slice none 0 0, .slice none 0 0, .slice none 0 0], .bool false]) (by simp [results, Try.results103, go_sem, y0, y1, y2]) rfl ?_
        exact PR.no (plM_no (by simp only [plB, q1, HQ2.out, q3, HQ4.out, HQ5.out, q6]; simp)) (by repeat (first | refine belS ?_ (by simp) | exact belT (by repeat (first | exact Below.refl _ _ | assumption | refine belA ?_ | refine belD ?_ | refine belN ?_ | refine belS ?_ (by simp) | refine belT ?_ (by assumption))) hW))
      clear y0 y1 y2 z0 z1 z2
      go_wp2_with fail
      refine (areExps_any p q g A' cs.length c' cs _ (H2.out.below (belT (by repeat (first | exact Below.refl _ _ | assumption | refine belA ?_ | refine belD ?_ | refine belN ?_ | refine belS ?_ (by simp) | refine belT ?_ (by assumption))) hW)) (by omega) (by omega)).mono ?_
      rintro e w5_ ⟨rfl, hb5⟩
      clear hc hf
      replace hW := belT hW hb5
      obtain ⟨hc, hf⟩ := bcell hW
      obtain ⟨y0, y1, y2, z0, z1, z2⟩ := HRB.out.below hW
      cases q7 : (cs.all fun e ↦ inB e 0 (q - 1))
      · go_wp2
        refine bodyPost_ret (v := .tuple #[.agg #[.slice none 0 0, .slice none 0 0, .slice none 0 0], .bool false]) (by simp [results, Try.results103, go_sem, y0, y1, y2]) rfl ?_
        exact PR.no (plM_no (by simp only [plB, q1, HQ2.out, q3, HQ4.out, HQ5.out, q6, q7]; simp)) (by repeat (first | refine belS ?_ (by simp) | exact belT (by repeat (first | exact Below.refl _ _ | assumption | refine belA ?_ | refine belD ?_ | refine belN ?_ | refine belS ?_ (by simp) | refine belT ?_ (by assumption))) hW))
      clear y0 y1 y2 z0 z1 z2
      have HP := Lib.hid (plM_yes (s := s) (rs := rowsG bs) (ss := ss) (cs := cs) (show plB p q g s (rowsG bs) ss cs = true by simp only [plB, q1, HQ2.out, q3, HQ4.out, HQ5.out, q6, q7]; rfl))
      have HZZ := Lib.hid hW.size
      go_wp2_with fail
      refine (proveLinear_any p q g s (some ⟨b, off, none⟩) bs.length rc bs A ss.length c ss A' cs.length c' cs _ q1 HSZ.out (HI.out.below (belT (by repeat (first | exact Below.refl _ _ | assumption | refine belA ?_ | refine belD ?_ | refine belN ?_ | refine belS ?_ (by simp) | refine belT ?_ (by assumption))) hW)) HSB.out (H1.out.below (belT (by repeat (first | exact Below.refl _ _ | assumption | refine belA ?_ | refine belD ?_ | refine belN ?_ | refine belS ?_ (by simp) | refine belT ?_ (by assumption))) hW)) (H2.out.below (belT (by repeat (first | exact Below.refl _ _ | assumption | refine belA ?_ | refine belD ?_ | refine belN ?_ | refine belS ?_ (by simp) | refine belT ?_ (by assumption))) hW)) (HN.out.trans HK.out.symm) HN2.out q6 q7).mono ?_
      rintro e w9 ⟨A1, k1, A2, k2, A3, k3, rfl, hpv, hb9⟩
      have hW9 := belT hW hb9
      obtain ⟨hc, hf⟩ := bcell hW9
      obtain ⟨y0, y1, y2, z0, z1, z2⟩ := HRB.out.below hW9
      have HPV := Lib.hid hpv
      have HWW := Lib.hid (show Below w.heap.size w w9 from belT (by repeat (first | exact Below.refl _ _ | assumption | refine belA ?_ | refine belD ?_ | refine belN ?_ | refine belS ?_ (by simp) | refine belT ?_ (by assumption))) hW9)
      have HZ9 := Lib.hid HZZ.out
      clear hpv hb9
      try simp only
      generalize hpvv : pvV p q g s (rowsG bs) ss cs = pv at HP HPV
      obtain ⟨x1, x2, x3⟩ := pv
      try simp only at HPV
      try simp only
      go_wp2
      refine bodyPost_ret (v := .tuple #[.agg #[.slice A1 x1.length k1, .slice A2 x2.length k2, .slice A3 x3.length k3], .bool true]) (by simp [results, Try.results103, go_sem, y0, y1, y2]) rfl ?_
      rw [HP.out]
      exact pr_back (r := ((x1, x2, x3), true)) HPV.out ((spared_put'.trans spared_put').trans spared_put') (by have := HZ9.out; simp at this; omega) HWW.out (by simp)
    · have hd2 : ((cs.length : Int) != (ss.length : Int)) = true := by simp; omega
      have HQ5 := Lib.hid (show decide (cs.length = ss.length) = false by simp [hnc])
      clear hnc
      obtain ⟨y0, y1, y2, z0, z1, z2⟩ := HRB.out.below hW
      go_wp2
      refine bodyPost_ret (v := .tuple #[.agg #[.slice none 0 0, .slice none 0 0, .slice none 0 0], .bool false]) (by simp [results, Try.results103, go_sem, y0, y1, y2]) rfl ?_
      exact PR.no (plM_no (by simp only [plB, q1, HQ2.out, q3, HQ4.out, HQ5.out]; simp)) (by repeat (first | refine belS ?_ (by simp) | exact belT (by repeat (first | exact Below.refl _ _ | assumption | refine belA ?_ | refine belD ?_ | refine belN ?_ | refine belS ?_ (by simp) | refine belT ?_ (by assumption))) hW))
  · have hd : ((ss.length : Int) != (m0 : Int)) = true := by simp; omega
    have HQ4 := Lib.hid (show decide (ss.length = ((rowsG bs).getD 0 []).length) = false by rw [← HM.out]; simp [hne])
    clear hne
    obtain ⟨y0, y1, y2, z0, z1, z2⟩ := HRB.out.below hW
    go_wp2
    refine bodyPost_ret (v := .tuple #[.agg #[.slice none 0 0, .slice none 0 0, .slice none 0 0], .bool false]) (by simp [results, Try.results103, go_sem, y0, y1, y2]) rfl ?_
    exact PR.no (plM_no (by simp only [plB, q1, HQ2.out, q3, HQ4.out]; simp)) (by repeat (first | refine belS ?_ (by simp) | exact belT (by repeat (first | exact Below.refl _ _ | assumption | refine belA ?_ | refine belD ?_ | refine belN ?_ | refine belS ?_ (by simp) | refine belT ?_ (by assumption))) hW))
set_option maxRecDepth 100000 in
set_option maxHeartbeats 1600000 in
theorem sProveKnowledge_any (p q g : Int) (s : ByteArray) (b x y : Int) (w : World) (hm : s.size ≤ 9223372036854775807) :
    Calls Try.prog 51 #[.agg #[.int .i64 p, .int .i64 q, .int .i64 g], .string s, .int .i64 b, .int .i64 x, .int .i64 y] w (PR w (plM p q g s [[b]] [x] [y])) := by
  have hB : Below w.heap.size w ((((((w.alloc (.cells #[.int .i64 p, .int .i64 q, .int .i64 g] 27)).alloc (.cells #[.slice none 0 0, .slice none 0 0, .slice none 0 0] 52)).alloc (.cells #[.int .i64 b] 3)).alloc (.cells #[.slice (some ⟨w.heap.size + 2, 0, none⟩) 1 1] 24)).alloc (.cells #[.int .i64 x] 3)).alloc (.cells #[.int .i64 y] 3)) := (by repeat (first | exact Below.refl _ _ | assumption | refine belA ?_ | refine belD ?_ | refine belN ?_ | refine belS ?_ (by simp) | refine belT ?_ (by assumption)))
  have k0 : ((((((w.alloc (.cells #[.int .i64 p, .int .i64 q, .int .i64 g] 27)).alloc (.cells #[.slice none 0 0, .slice none 0 0, .slice none 0 0] 52)).alloc (.cells #[.int .i64 b] 3)).alloc (.cells #[.slice (some ⟨w.heap.size + 2, 0, none⟩) 1 1] 24)).alloc (.cells #[.int .i64 x] 3)).alloc (.cells #[.int .i64 y] 3)).cell? ⟨w.heap.size + 2, 0, none⟩ = some (.int .i64 b) := by rw [World.cell?_alloc_past _ _ _ (by simp <;> omega), World.cell?_alloc_past _ _ _ (by simp <;> omega), World.cell?_alloc_past _ _ _ (by simp <;> omega), World.cell?_alloc_at _ _ _ _ (by simp)]; rfl
  have k1 : ((((((w.alloc (.cells #[.int .i64 p, .int .i64 q, .int .i64 g] 27)).alloc (.cells #[.slice none 0 0, .slice none 0 0, .slice none 0 0] 52)).alloc (.cells #[.int .i64 b] 3)).alloc (.cells #[.slice (some ⟨w.heap.size + 2, 0, none⟩) 1 1] 24)).alloc (.cells #[.int .i64 x] 3)).alloc (.cells #[.int .i64 y] 3)).cell? ⟨w.heap.size + 3, 0, none⟩ = some (.slice (some ⟨w.heap.size + 2, 0, none⟩) 1 1) := by rw [World.cell?_alloc_past _ _ _ (by simp <;> omega), World.cell?_alloc_past _ _ _ (by simp <;> omega), World.cell?_alloc_at _ _ _ _ (by simp)]; rfl
  have k2 : ((((((w.alloc (.cells #[.int .i64 p, .int .i64 q, .int .i64 g] 27)).alloc (.cells #[.slice none 0 0, .slice none 0 0, .slice none 0 0] 52)).alloc (.cells #[.int .i64 b] 3)).alloc (.cells #[.slice (some ⟨w.heap.size + 2, 0, none⟩) 1 1] 24)).alloc (.cells #[.int .i64 x] 3)).alloc (.cells #[.int .i64 y] 3)).cell? ⟨w.heap.size + 4, 0, none⟩ = some (.int .i64 x) := by rw [World.cell?_alloc_past _ _ _ (by simp <;> omega), World.cell?_alloc_at _ _ _ _ (by simp)]; rfl
  have k3 : ((((((w.alloc (.cells #[.int .i64 p, .int .i64 q, .int .i64 g] 27)).alloc (.cells #[.slice none 0 0, .slice none 0 0, .slice none 0 0] 52)).alloc (.cells #[.int .i64 b] 3)).alloc (.cells #[.slice (some ⟨w.heap.size + 2, 0, none⟩) 1 1] 24)).alloc (.cells #[.int .i64 x] 3)).alloc (.cells #[.int .i64 y] 3)).cell? ⟨w.heap.size + 5, 0, none⟩ = some (.int .i64 y) := by rw [World.cell?_alloc_at _ _ _ _ (by simp)]; rfl
  have hrb : PB ((((((w.alloc (.cells #[.int .i64 p, .int .i64 q, .int .i64 g] 27)).alloc (.cells #[.slice none 0 0, .slice none 0 0, .slice none 0 0] 52)).alloc (.cells #[.int .i64 b] 3)).alloc (.cells #[.slice (some ⟨w.heap.size + 2, 0, none⟩) 1 1] 24)).alloc (.cells #[.int .i64 x] 3)).alloc (.cells #[.int .i64 y] 3)) (w.heap.size + 1) (.slice none 0 0) (.slice none 0 0) (.slice none 0 0) := by
    have h0 := PB.new (w.alloc (.cells #[.int .i64 p, .int .i64 q, .int .i64 g] 27)) 52 (.slice none 0 0) (.slice none 0 0) (.slice none 0 0)
    have h1 : PB ((w.alloc (.cells #[.int .i64 p, .int .i64 q, .int .i64 g] 27)).alloc (.cells #[.slice none 0 0, .slice none 0 0, .slice none 0 0] 52)) (w.heap.size + 1) (.slice none 0 0) (.slice none 0 0) (.slice none 0 0) := by simpa using h0
    exact (((h1.below (belA (Below.refl _ _))).below (belA (Below.refl _ _))).below (belA (Below.refl _ _))).below (belA (Below.refl _ _))
  have hsz : w.heap.size + 6 = ((((((w.alloc (.cells #[.int .i64 p, .int .i64 q, .int .i64 g] 27)).alloc (.cells #[.slice none 0 0, .slice none 0 0, .slice none 0 0] 52)).alloc (.cells #[.int .i64 b] 3)).alloc (.cells #[.slice (some ⟨w.heap.size + 2, 0, none⟩) 1 1] 24)).alloc (.cells #[.int .i64 x] 3)).alloc (.cells #[.int .i64 y] 3)).heap.size := by simp
  have HSZ := Lib.hid hsz
  have H0 := Lib.hid (sProveLinear_any p q g s (some ⟨w.heap.size + 3, 0, none⟩) 1 1 [(some ⟨w.heap.size + 2, 0, none⟩, 1, [b])] (some ⟨w.heap.size + 4, 0, none⟩) 1 1 [x] (some ⟨w.heap.size + 5, 0, none⟩) 1 1 [y] ((((((w.alloc (.cells #[.int .i64 p, .int .i64 q, .int .i64 g] 27)).alloc (.cells #[.slice none 0 0, .slice none 0 0, .slice none 0 0] 52)).alloc (.cells #[.int .i64 b] 3)).alloc (.cells #[.slice (some ⟨w.heap.size + 2, 0, none⟩) 1 1] 24)).alloc (.cells #[.int .i64 x] 3)).alloc (.cells #[.int .i64 y] 3)) hm (grid1 k1 (Ints.one k0)) (Ints.one k2) (Ints.one k3))
  have HB := Lib.hid hB
  have HRB := Lib.hid hrb
  clear k0 k1 k2 k3 hB hrb hsz
  go_enter Try.func51, Try.ntmps51
  go_wp2_with fail
  refine H0.out.mono ?_
  rintro e w9 ⟨A1, k1, A2, k2, A3, k3, rfl, hpv, hb9⟩
  obtain ⟨y0, y1, y2, z0, z1, z2⟩ := HRB.out.below hb9
  have HPV := Lib.hid hpv
  have HWW := Lib.hid (belT HB.out hb9)
  have hrw : rowsG [((some ⟨w.heap.size + 2, 0, none⟩ : Option Addr), (1 : Nat), [b])] = [[b]] := rfl
  rw [hrw] at HPV ⊢
  generalize hrr : plM p q g s [[b]] [x] [y] = r at HPV ⊢
  obtain ⟨⟨x1, x2, x3⟩, ok⟩ := r
  have HRR := Lib.hid hrr
  clear hrr
  simp only at HPV
  have HS9 := Lib.hid HSZ.out
  clear hpv HSZ hrw hb9
  simp only
  go_wp2
  refine bodyPost_ret (v := .tuple #[.agg #[.slice A1 x1.length k1, .slice A2 x2.length k2, .slice A3 x3.length k3], .bool ok]) (by simp [results, Try.results51, go_sem, y0, y1, y2]) rfl ?_
  rw [HRR.out]
  exact pr_back (r := ((x1, x2, x3), ok)) HPV.out ((spared_put'.trans spared_put').trans spared_put') (by have := HS9.out; omega) HWW.out (by simp)
set_option maxRecDepth 100000 in
set_option maxHeartbeats 1600000 in
theorem iProveKnowledge_any (p q g : Int) (s : ByteArray) (b x y : Int) (w : World) (hm : s.size ≤ 9223372036854775807) :
    Calls Try.prog 52 #[.agg #[.int .i64 p, .int .i64 q, .int .i64 g], .string s, .int .i64 b, .int .i64 x, .int .i64 y] w (PR w (plM p q g s [[b]] [x] [y])) := by
  have hB : Below w.heap.size w ((((((w.alloc (.cells #[.int .i64 p, .int .i64 q, .int .i64 g] 27)).alloc (.cells #[.slice none 0 0, .slice none 0 0, .slice none 0 0] 52)).alloc (.cells #[.int .i64 b] 3)).alloc (.cells #[.slice (some ⟨w.heap.size + 2, 0, none⟩) 1 1] 24)).alloc (.cells #[.int .i64 x] 3)).alloc (.cells #[.int .i64 y] 3)) := (by repeat (first | exact Below.refl _ _ | assumption | refine belA ?_ | refine belD ?_ | refine belN ?_ | refine belS ?_ (by simp) | refine belT ?_ (by assumption)))
  have k0 : ((((((w.alloc (.cells #[.int .i64 p, .int .i64 q, .int .i64 g] 27)).alloc (.cells #[.slice none 0 0, .slice none 0 0, .slice none 0 0] 52)).alloc (.cells #[.int .i64 b] 3)).alloc (.cells #[.slice (some ⟨w.heap.size + 2, 0, none⟩) 1 1] 24)).alloc (.cells #[.int .i64 x] 3)).alloc (.cells #[.int .i64 y] 3)).cell? ⟨w.heap.size + 2, 0, none⟩ = some (.int .i64 b) := by rw [World.cell?_alloc_past _ _ _ (by simp <;> omega), World.cell?_alloc_past _ _ _ (by simp <;> omega), World.cell?_alloc_past _ _ _ (by simp <;> omega), World.cell?_alloc_at _ _ _ _ (by simp)]; rfl
  have k1 : ((((((w.alloc (.cells #[.int .i64 p, .int .i64 q, .int .i64 g] 27)).alloc (.cells #[.slice none 0 0, .slice none 0 0, .slice none 0 0] 52)).alloc (.cells #[.int .i64 b] 3)).alloc (.cells #[.slice (some ⟨w.heap.size + 2, 0, none⟩) 1 1] 24)).alloc (.cells #[.int .i64 x] 3)).alloc (.cells #[.int .i64 y] 3)).cell? ⟨w.heap.size + 3, 0, none⟩ = some (.slice (some ⟨w.heap.size + 2, 0, none⟩) 1 1) := by rw [World.cell?_alloc_past _ _ _ (by simp <;> omega), World.cell?_alloc_past _ _ _ (by simp <;> omega), World.cell?_alloc_at _ _ _ _ (by simp)]; rfl
  have k2 : ((((((w.alloc (.cells #[.int .i64 p, .int .i64 q, .int .i64 g] 27)).alloc (.cells #[.slice none 0 0, .slice none 0 0, .slice none 0 0] 52)).alloc (.cells #[.int .i64 b] 3)).alloc (.cells #[.slice (some ⟨w.heap.size + 2, 0, none⟩) 1 1] 24)).alloc (.cells #[.int .i64 x] 3)).alloc (.cells #[.int .i64 y] 3)).cell? ⟨w.heap.size + 4, 0, none⟩ = some (.int .i64 x) := by rw [World.cell?_alloc_past _ _ _ (by simp <;> omega), World.cell?_alloc_at _ _ _ _ (by simp)]; rfl
  have k3 : ((((((w.alloc (.cells #[.int .i64 p, .int .i64 q, .int .i64 g] 27)).alloc (.cells #[.slice none 0 0, .slice none 0 0, .slice none 0 0] 52)).alloc (.cells #[.int .i64 b] 3)).alloc (.cells #[.slice (some ⟨w.heap.size + 2, 0, none⟩) 1 1] 24)).alloc (.cells #[.int .i64 x] 3)).alloc (.cells #[.int .i64 y] 3)).cell? ⟨w.heap.size + 5, 0, none⟩ = some (.int .i64 y) := by rw [World.cell?_alloc_at _ _ _ _ (by simp)]; rfl
  have hrb : PB ((((((w.alloc (.cells #[.int .i64 p, .int .i64 q, .int .i64 g] 27)).alloc (.cells #[.slice none 0 0, .slice none 0 0, .slice none 0 0] 52)).alloc (.cells #[.int .i64 b] 3)).alloc (.cells #[.slice (some ⟨w.heap.size + 2, 0, none⟩) 1 1] 24)).alloc (.cells #[.int .i64 x] 3)).alloc (.cells #[.int .i64 y] 3)) (w.heap.size + 1) (.slice none 0 0) (.slice none 0 0) (.slice none 0 0) := by
    have h0 := PB.new (w.alloc (.cells #[.int .i64 p, .int .i64 q, .int .i64 g] 27)) 52 (.slice none 0 0) (.slice none 0 0) (.slice none 0 0)
    have h1 : PB ((w.alloc (.cells #[.int .i64 p, .int .i64 q, .int .i64 g] 27)).alloc (.cells #[.slice none 0 0, .slice none 0 0, .slice none 0 0] 52)) (w.heap.size + 1) (.slice none 0 0) (.slice none 0 0) (.slice none 0 0) := by simpa using h0
    exact (((h1.below (belA (Below.refl _ _))).below (belA (Below.refl _ _))).below (belA (Below.refl _ _))).below (belA (Below.refl _ _))
  have hsz : w.heap.size + 6 = ((((((w.alloc (.cells #[.int .i64 p, .int .i64 q, .int .i64 g] 27)).alloc (.cells #[.slice none 0 0, .slice none 0 0, .slice none 0 0] 52)).alloc (.cells #[.int .i64 b] 3)).alloc (.cells #[.slice (some ⟨w.heap.size + 2, 0, none⟩) 1 1] 24)).alloc (.cells #[.int .i64 x] 3)).alloc (.cells #[.int .i64 y] 3)).heap.size := by simp
  have HSZ := Lib.hid hsz
  have H0 := Lib.hid (iProveLinear_any p q g s (some ⟨w.heap.size + 3, 0, none⟩) 1 1 [(some ⟨w.heap.size + 2, 0, none⟩, 1, [b])] (some ⟨w.heap.size + 4, 0, none⟩) 1 1 [x] (some ⟨w.heap.size + 5, 0, none⟩) 1 1 [y] ((((((w.alloc (.cells #[.int .i64 p, .int .i64 q, .int .i64 g] 27)).alloc (.cells #[.slice none 0 0, .slice none 0 0, .slice none 0 0] 52)).alloc (.cells #[.int .i64 b] 3)).alloc (.cells #[.slice (some ⟨w.heap.size + 2, 0, none⟩) 1 1] 24)).alloc (.cells #[.int .i64 x] 3)).alloc (.cells #[.int .i64 y] 3)) hm (grid1 k1 (Ints.one k0)) (Ints.one k2) (Ints.one k3))
  have HB := Lib.hid hB
  have HRB := Lib.hid hrb
  clear k0 k1 k2 k3 hB hrb hsz
  go_enter Try.func52, Try.ntmps52
  go_wp2_with fail
  refine H0.out.mono ?_
  rintro e w9 ⟨A1, k1, A2, k2, A3, k3, rfl, hpv, hb9⟩
  obtain ⟨y0, y1, y2, z0, z1, z2⟩ := HRB.out.below hb9
  have HPV := Lib.hid hpv
  have HWW := Lib.hid (belT HB.out hb9)
  have hrw : rowsG [((some ⟨w.heap.size + 2, 0, none⟩ : Option Addr), (1 : Nat), [b])] = [[b]] := rfl
  rw [hrw] at HPV ⊢
  generalize hrr : plM p q g s [[b]] [x] [y] = r at HPV ⊢
  obtain ⟨⟨x1, x2, x3⟩, ok⟩ := r
  have HRR := Lib.hid hrr
  clear hrr
  simp only at HPV
  have HS9 := Lib.hid HSZ.out
  clear hpv HSZ hrw hb9
  simp only
  go_wp2
  refine bodyPost_ret (v := .tuple #[.agg #[.slice A1 x1.length k1, .slice A2 x2.length k2, .slice A3 x3.length k3], .bool ok]) (by simp [results, Try.results52, go_sem, y0, y1, y2]) rfl ?_
  rw [HRR.out]
  exact pr_back (r := ((x1, x2, x3), ok)) HPV.out ((spared_put'.trans spared_put').trans spared_put') (by have := HS9.out; omega) HWW.out (by simp)
end Go.Proofs.Yteeggmnkcgpfjaa
