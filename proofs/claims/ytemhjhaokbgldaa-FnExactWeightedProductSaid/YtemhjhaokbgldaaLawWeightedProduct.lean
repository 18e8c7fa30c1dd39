/- The program's WeightedProduct returns what the reference's WeightedProduct returns, for all arguments: proved with no condition. -/
import Derived.Test.YtemhjhaokbgldaaWp
import Derived.Test.YtemhjhaokbgldaaClF
import Derived.Test.YtemhjhaokbgldaaLw
namespace Go.Proofs.Ytemhjhaokbgldaa
open Go.ChangeShapes Go.WideShapes Go.ChangeAt Go.RowKit Go.Joins
open Go.ChangeMaps (open_string shut_string)
set_option linter.unusedVariables false
set_option maxHeartbeats 800000 in
theorem walk_FnExactWeightedProduct (w : World) (p0 q0 g0 : Int) (w0a : (Lit.int .i64 p0).wf = true) (w0b : (Lit.int .i64 q0).wf = true) (w0c : (Lit.int .i64 g0).wf = true) (A1 : Option Addr) (n1 c1 : Nat) (z1 : List (Int × Int)) (I1 : Cips w A1 n1 z1) (A2 : Option Addr) (n2 c2 : Nat) (zs2 : List Int) (w2 : IsRow .i64 w A2 n2 c2 zs2) :
    Calls Try.prog 10 #[.agg #[.int .i64 p0, .int .i64 q0, .int .i64 g0], .slice A1 n1 c1, .slice A2 n2 c2] w fun e w' => e = .returned (.bool true) ∧ Below w.heap.size w w' := by
  clear w0a w0b w0c
  have hle1 := I1.le
  have I2 := Ints.of_row w2
  clear w2
  generalize zs2.take n2 = z2 at I2
  by_cases big0 : 1048576 < n2
  · go_enter Try.func10, Try.ntmps10
    go_wp2
    go_ret
    exact ⟨rfl, (by repeat (first | exact Below.refl _ _ | assumption | refine belA ?_ | refine belD ?_ | refine belN ?_ | refine belS ?_ (by simp) | refine belT ?_ (by assumption)))⟩
  by_cases big1 : 1048576 < n1
  · go_enter Try.func10, Try.ntmps10
    go_wp2_with fail
    refine (szCipherS_any A1 n1 c1 1048576 _ hle1 (by omega) (by omega)).mono ?_
    rintro e w' ⟨rfl, rfl⟩
    rw [if_neg (by omega)]
    go_wp2
    go_ret
    exact ⟨rfl, (by repeat (first | exact Below.refl _ _ | assumption | refine belA ?_ | refine belD ?_ | refine belN ?_ | refine belS ?_ (by simp) | refine belT ?_ (by assumption)))⟩
  have hs := fun (A1 : Option Addr) (c1 : Nat) (A2 : Option Addr) (c2 : Nat) (W : World) (h1 : Cips W A1 n1 z1) (h2 : Ints W A2 n2 z2) => sWeightedProduct_any p0 q0 g0 A1 n1 c1 z1 A2 n2 c2 z2 W h1 h2 
  have hi := fun (A1 : Option Addr) (c1 : Nat) (A2 : Option Addr) (c2 : Nat) (W : World) (h1 : Cips W A1 n1 z1) (h2 : Ints W A2 n2 z2) => iWeightedProduct_any p0 q0 g0 A1 n1 c1 z1 A2 n2 c2 z2 W h1 h2 
  generalize (wtM p0 q0 g0 n1 n2 z1 z2).1.1 = r0 at hs hi
  generalize (wtM p0 q0 g0 n1 n2 z1 z2).1.2 = r1 at hs hi
  generalize (wtM p0 q0 g0 n1 n2 z1 z2).2 = r2 at hs hi
  have Hs := Lib.hid hs
  have Hi := Lib.hid hi
  clear hs hi
  go_enter Try.func10, Try.ntmps10
  go_wp2_with fail
  refine (szCipherS_any A1 n1 c1 1048576 _ hle1 (by omega) (by omega)).mono ?_
  rintro e w' ⟨rfl, rfl⟩
  rw [if_pos (by omega)]
  go_wp2_with fail
  refine (toGroup_any _ _ _ _).mono ?_
  rintro e w1_ ⟨rfl, hb1⟩
  replace I1 := I1.below (belT (by repeat (first | exact Below.refl _ _ | assumption | refine belA ?_ | refine belD ?_ | refine belN ?_ | refine belS ?_ (by simp) | refine belT ?_ (by assumption))) hb1)
  replace I2 := I2.below (belT (by repeat (first | exact Below.refl _ _ | assumption | refine belA ?_ | refine belD ?_ | refine belN ?_ | refine belS ?_ (by simp) | refine belT ?_ (by assumption))) hb1)
  have hW := hb1
  obtain ⟨hc, hf⟩ := bcell hW
  have zz : w.heap.size < w1_.heap.size := by have := hW.size; simp at this; omega
  go_wp2_with fail
  refine (toCipherS_any A1 n1 c1 z1 _ (I1.below (by repeat (first | exact Below.refl _ _ | assumption | refine belA ?_ | refine belD ?_ | refine belN ?_ | refine belS ?_ (by simp) | refine belT ?_ (by assumption)))) (by omega)).mono ?_
  rintro e w2_ ⟨As1, cs1, rfl, s1, hb2⟩
  have hn2 : Below w1_.heap.size w1_ w2_ := (by first | exact hb2 | exact belT (belA (Below.refl _ _)) hb2)
  replace I1 := I1.below hn2
  replace I2 := I2.below hn2
  replace hW := belT hW hn2
  clear hc hf
  obtain ⟨hc, hf⟩ := bcell hW
  clear zz
  have zz : w.heap.size < w2_.heap.size := by have := hW.size; simp at this; omega
  go_wp2_with fail
  refine (toIntS_any A2 n2 c2 z2 _ I2 (by omega)).mono ?_
  rintro e w3_ ⟨As2, cs2, rfl, Os2, hb3⟩
  have hn3 : Below w2_.heap.size w2_ w3_ := (by first | exact hb3 | exact belT (belA (Below.refl _ _)) hb3)
  replace I1 := I1.below hn3
  replace I2 := I2.below hn3
  replace s1 := s1.below hn3
  replace hW := belT hW hn3
  clear hc hf
  obtain ⟨hc, hf⟩ := bcell hW
  clear zz
  have zz : w.heap.size < w3_.heap.size := by have := hW.size; simp at this; omega
  have s2 := Own.mk' Os2
  clear Os2
  go_wp2_with fail
  refine (Hs.out As1 cs1 As2 cs2 _ s1 s2.ints).mono ?_
  rintro e w4_ ⟨rfl, hb4⟩
  have hn4 : Below w3_.heap.size w3_ w4_ := (by first | exact hb4 | exact belT (belA (Below.refl _ _)) hb4)
  replace I1 := I1.below hn4
  replace I2 := I2.below hn4
  replace s1 := s1.below hn4
  replace s2 := s2.below hn4
  replace hW := belT hW hn4
  clear hc hf
  obtain ⟨hc, hf⟩ := bcell hW
  clear zz
  have zz : w.heap.size < w4_.heap.size := by have := hW.size; simp at this; omega
  clear s1
  clear s2
  go_wp2_with fail
  refine (toCipherS_any A1 n1 c1 z1 _ (I1.below (by repeat (first | exact Below.refl _ _ | assumption | refine belA ?_ | refine belD ?_ | refine belN ?_ | refine belS ?_ (by simp) | refine belT ?_ (by assumption)))) (by omega)).mono ?_
  rintro e w5_ ⟨Ax1_, cx1_, rfl, x1_, hb5⟩
  have hn5 : Below w4_.heap.size w4_ w5_ := (by first | exact hb5 | exact belT (belA (Below.refl _ _)) hb5)
  replace I1 := I1.below hn5
  replace I2 := I2.below hn5
  replace hW := belT hW hn5
  have c00 : w5_.cell? ⟨w4_.heap.size, 0, none⟩ = some (.int .i64 r0) := keepB hb5 (by rw [World.cell?_alloc_at _ _ _ _ (by simp)]; rfl)
  have c01 : w5_.cell? ⟨w4_.heap.size, 1, none⟩ = some (.int .i64 r1) := keepB hb5 (by rw [World.cell?_alloc_at _ _ _ _ (by simp)]; rfl)
  have z00 := World.block_lt_of_cell? _ _ c00
  simp only at z00
  clear hc hf
  obtain ⟨hc, hf⟩ := bcell hW
  clear zz
  have zz : w.heap.size < w5_.heap.size := by have := hW.size; simp at this; omega
  go_wp2_with fail
  refine (toIntS_any A2 n2 c2 z2 _ I2 (by omega)).mono ?_
  rintro e w6_ ⟨Ax2_, cx2_, rfl, Ox2_, hb6⟩
  have hn6 : Below w5_.heap.size w5_ w6_ := (by first | exact hb6 | exact belT (belA (Below.refl _ _)) hb6)
  replace I1 := I1.below hn6
  replace I2 := I2.below hn6
  replace x1_ := x1_.below hn6
  replace hW := belT hW hn6
  replace c00 := (by first | exact keepB hb6 c00 | exact keepB hb6 (keepB (belA (Below.refl _ _)) c00))
  replace c01 := (by first | exact keepB hb6 c01 | exact keepB hb6 (keepB (belA (Below.refl _ _)) c01))
  clear z00
  have z00 := World.block_lt_of_cell? _ _ c00
  simp only at z00
  clear hc hf
  obtain ⟨hc, hf⟩ := bcell hW
  clear zz
  have zz : w.heap.size < w6_.heap.size := by have := hW.size; simp at this; omega
  have x2_ := Own.mk' Ox2_
  clear Ox2_
  go_wp2_with fail
  refine (toGroup_any _ _ _ _).mono ?_
  rintro e w7_ ⟨rfl, hb7⟩
  have hn7 : Below w6_.heap.size w6_ w7_ := (by first | exact hb7 | exact belT (belA (Below.refl _ _)) hb7)
  replace I1 := I1.below hn7
  replace I2 := I2.below hn7
  replace x1_ := x1_.below hn7
  replace x2_ := x2_.below hn7
  replace hW := belT hW hn7
  replace c00 := (by first | exact keepB hb7 c00 | exact keepB hb7 (keepB (belA (Below.refl _ _)) c00))
  replace c01 := (by first | exact keepB hb7 c01 | exact keepB hb7 (keepB (belA (Below.refl _ _)) c01))
  clear z00
  have z00 := World.block_lt_of_cell? _ _ c00
  simp only at z00
  clear hc hf
  obtain ⟨hc, hf⟩ := bcell hW
  clear zz
  have zz : w.heap.size < w7_.heap.size := by have := hW.size; simp at this; omega
  go_wp2_with fail
  refine (Hi.out Ax1_ cx1_ Ax2_ cx2_ _ x1_ x2_.ints).mono ?_
  rintro e w8_ ⟨rfl, hb8⟩
  have hn8 : Below w7_.heap.size w7_ w8_ := (by first | exact hb8 | exact belT (belA (Below.refl _ _)) hb8)
  replace I1 := I1.below hn8
  replace I2 := I2.below hn8
  replace x1_ := x1_.below hn8
  replace x2_ := x2_.below hn8
  replace hW := belT hW hn8
  replace c00 := (by first | exact keepB hb8 c00 | exact keepB hb8 (keepB (belA (Below.refl _ _)) c00))
  replace c01 := (by first | exact keepB hb8 c01 | exact keepB hb8 (keepB (belA (Below.refl _ _)) c01))
  clear z00
  have z00 := World.block_lt_of_cell? _ _ c00
  simp only at z00
  clear hc hf
  obtain ⟨hc, hf⟩ := bcell hW
  clear zz
  have zz : w.heap.size < w8_.heap.size := by have := hW.size; simp at this; omega
  go_wp2_with fail
  refine (eqCipher_any r0 r1 _).mono ?_
  rintro e w9_ ⟨rfl, hb9⟩
  have hn9 : Below w8_.heap.size w8_ w9_ := (by first | exact hb9 | exact belT (belA (Below.refl _ _)) hb9)
  replace I1 := I1.below hn9
  replace I2 := I2.below hn9
  replace x1_ := x1_.below hn9
  replace x2_ := x2_.below hn9
  replace hW := belT hW hn9
  replace c00 := (by first | exact keepB hb9 c00 | exact keepB hb9 (keepB (belA (Below.refl _ _)) c00))
  replace c01 := (by first | exact keepB hb9 c01 | exact keepB hb9 (keepB (belA (Below.refl _ _)) c01))
  clear z00
  have z00 := World.block_lt_of_cell? _ _ c00
  simp only at z00
  clear hc hf
  obtain ⟨hc, hf⟩ := bcell hW
  clear zz
  have zz : w.heap.size < w9_.heap.size := by have := hW.size; simp at this; omega
  go_wp2_with fail
  refine (toCipherS_any A1 n1 c1 z1 _ (I1.below (by repeat (first | exact Below.refl _ _ | assumption | refine belA ?_ | refine belD ?_ | refine belN ?_ | refine belS ?_ (by simp) | refine belT ?_ (by assumption)))) (by omega)).mono ?_
  rintro e w10_ ⟨Ay1_, cy1_, rfl, y1_, hb10⟩
  have hn10 : Below w9_.heap.size w9_ w10_ := (by first | exact hb10 | exact belT (belA (Below.refl _ _)) hb10)
  replace I1 := I1.below hn10
  replace I2 := I2.below hn10
  replace x1_ := x1_.below hn10
  replace x2_ := x2_.below hn10
  replace hW := belT hW hn10
  replace c00 := (by first | exact keepB hb10 c00 | exact keepB hb10 (keepB (belA (Below.refl _ _)) c00))
  replace c01 := (by first | exact keepB hb10 c01 | exact keepB hb10 (keepB (belA (Below.refl _ _)) c01))
  clear z00
  have z00 := World.block_lt_of_cell? _ _ c00
  simp only at z00
  clear hc hf
  obtain ⟨hc, hf⟩ := bcell hW
  clear zz
  have zz : w.heap.size < w10_.heap.size := by have := hW.size; simp at this; omega
  go_wp2_with fail
  refine (eqCipherS_any Ax1_ Ay1_ n1 cx1_ cy1_ z1 _ x1_ y1_).mono ?_
  rintro e w11_ ⟨rfl, hb11⟩
  have hn11 : Below w10_.heap.size w10_ w11_ := (by first | exact hb11 | exact belT (belA (Below.refl _ _)) hb11)
  replace I1 := I1.below hn11
  replace I2 := I2.below hn11
  replace x1_ := x1_.below hn11
  replace x2_ := x2_.below hn11
  replace y1_ := y1_.below hn11
  replace hW := belT hW hn11
  replace c00 := (by first | exact keepB hb11 c00 | exact keepB hb11 (keepB (belA (Below.refl _ _)) c00))
  replace c01 := (by first | exact keepB hb11 c01 | exact keepB hb11 (keepB (belA (Below.refl _ _)) c01))
  clear z00
  have z00 := World.block_lt_of_cell? _ _ c00
  simp only at z00
  clear hc hf
  obtain ⟨hc, hf⟩ := bcell hW
  clear zz
  have zz : w.heap.size < w11_.heap.size := by have := hW.size; simp at this; omega
  clear y1_
  go_wp2_with fail
  refine (toIntS_any A2 n2 c2 z2 _ I2 (by omega)).mono ?_
  rintro e w12_ ⟨Ay2_, cy2_, rfl, Oy2_, hb12⟩
  have hn12 : Below w11_.heap.size w11_ w12_ := (by first | exact hb12 | exact belT (belA (Below.refl _ _)) hb12)
  replace I1 := I1.below hn12
  replace I2 := I2.below hn12
  replace x1_ := x1_.below hn12
  replace x2_ := x2_.below hn12
  replace hW := belT hW hn12
  replace c00 := (by first | exact keepB hb12 c00 | exact keepB hb12 (keepB (belA (Below.refl _ _)) c00))
  replace c01 := (by first | exact keepB hb12 c01 | exact keepB hb12 (keepB (belA (Below.refl _ _)) c01))
  clear z00
  have z00 := World.block_lt_of_cell? _ _ c00
  simp only at z00
  clear hc hf
  obtain ⟨hc, hf⟩ := bcell hW
  clear zz
  have zz : w.heap.size < w12_.heap.size := by have := hW.size; simp at this; omega
  have y2_ := Own.mk' Oy2_
  clear Oy2_
  go_wp2_with fail
  refine (eqIntS_any Ax2_ Ay2_ n2 n2 cx2_ cy2_ z2 z2 _ x2_.ints y2_.ints).mono ?_
  rintro e w13_ ⟨rfl, hb13⟩
  have hn13 : Below w12_.heap.size w12_ w13_ := (by first | exact hb13 | exact belT (belA (Below.refl _ _)) hb13)
  replace I1 := I1.below hn13
  replace I2 := I2.below hn13
  replace x1_ := x1_.below hn13
  replace x2_ := x2_.below hn13
  replace y2_ := y2_.below hn13
  replace hW := belT hW hn13
  replace c00 := (by first | exact keepB hb13 c00 | exact keepB hb13 (keepB (belA (Below.refl _ _)) c00))
  replace c01 := (by first | exact keepB hb13 c01 | exact keepB hb13 (keepB (belA (Below.refl _ _)) c01))
  clear z00
  have z00 := World.block_lt_of_cell? _ _ c00
  simp only at z00
  clear hc hf
  obtain ⟨hc, hf⟩ := bcell hW
  clear zz
  have zz : w.heap.size < w13_.heap.size := by have := hW.size; simp at this; omega
  clear y2_
  go_wp2
  go_ret
  exact ⟨rfl, belT (by repeat (first | exact Below.refl _ _ | assumption | refine belA ?_ | refine belD ?_ | refine belN ?_ | refine belS ?_ (by simp) | refine belT ?_ (by assumption))) hW⟩

set_option maxRecDepth 100000 in
theorem lifted_FnExactWeightedProduct (os : Os) (started : os.Started) (H : Type) (enc : TypeId × Value → H) :
    ReturnsInHanded {} Try.checked os 10 .any (Rows.fnExactWeightedProductSpec.pre6 enc Try.prog Try.f10 Rows.fnExactWeightedProductRow.domain false) (Rows.fnExactWeightedProductSpec.post enc Try.prog Try.f10 false true false false) := by
  refine returnsInHanded_of_change (C := Try.checked) own started (by kernel_rfl) Try.func10
    (ChangeSpec.witness6 (enc := enc) (C := Try.checked) false ⟨#[], #[.agg #[.int .i64 0, .int .i64 0, .int .i64 0], .slice none 0 0, .slice none 0 0], []⟩ 8 (by kernel_rfl) (by kernel_rfl) (by kernel_rfl) (by kernel_rfl)) ?_
  intro W base args ds gs before hval0 hW hcnd _
  have hval : ∀ (j : Nat) t v, Try.f10.params[j]? = some t → args[j]? = some v → Value.okWide Try.prog W .any base t v := hval0
  have hW' := hW
  obtain ⟨p, q, hA0, hV, rfl, hfz, hnd⟩ := hW
  have hA : DataW.TrodAll enc Try.prog W 0 (fun _ => true) true Try.f10.params.toList args.toList ds p := hA0
  rw [Try.params10] at hA hval
  obtain ⟨v0, vs0, d0, ds0, p0, q0, hargs, rfl, rfl, h0, r0⟩ := trodAll_cons hA
  obtain ⟨v1, vs1, d1, ds1, p1, q1, rfl, rfl, rfl, h1, r1⟩ := trodAll_cons r0
  obtain ⟨v2, vs2, d2, ds2, p2, q2, rfl, rfl, rfl, h2, r2⟩ := trodAll_cons r1
  obtain ⟨rfl, rfl, rfl⟩ := trodAll_nil r2
  obtain rfl : args = #[v0, v1, v2] := by cases args; simp_all
  obtain ⟨rfl, rfl⟩ := trodVars_none hV
  have k0 := h0
  have lt0 : ∀ x ∈ p0, x.block < W.heap.size := by obtain ⟨m, hm⟩ := k0; exact DataW.trod_lt m _ _ _ hm
  obtain ⟨c0_0, c0_1, c0_2, y0_0, y0_1, y0_2, m0, rfl, rfl, rfl, u0_0, u0_1, u0_2⟩ := open_agg3 Try.underlying23 (by kernel_rfl) (by kernel_rfl) (hval 0 23 v0 rfl rfl) h0
  obtain ⟨b0_0, e0_0, hb0_0, x0_0⟩ := DataW.trod_int Try.underlying3 u0_0
  simp only [List.cons.injEq, and_true] at e0_0
  subst e0_0
  obtain ⟨b0_1, e0_1, hb0_1, x0_1⟩ := DataW.trod_int Try.underlying3 u0_1
  simp only [List.cons.injEq, and_true] at e0_1
  subst e0_1
  obtain ⟨b0_2, e0_2, hb0_2, x0_2⟩ := DataW.trod_int Try.underlying3 u0_2
  simp only [List.cons.injEq, and_true] at e0_2
  subst e0_2
  have k1 := h1
  have lt1 : ∀ x ∈ p1, x.block < W.heap.size := by obtain ⟨m, hm⟩ := k1; exact DataW.trod_lt m _ _ _ hm
  obtain ⟨a1, len1, cap1, rfl⟩ := okWide_slice Try.underlying40 (hval 1 40 v1 rfl rfl)
  obtain ⟨z1, w1⟩ : ∃ l, Cips W a1 len1 l := by
    obtain ⟨fuel, hf⟩ := h1
    exact cips_open hf
  have k2 := h2
  have lt2 : ∀ x ∈ p2, x.block < W.heap.size := by obtain ⟨m, hm⟩ := k2; exact DataW.trod_lt m _ _ _ hm
  obtain ⟨a2, len2, cap2, rfl⟩ := okWide_slice Try.underlying47 (hval 2 47 v2 rfl rfl)
  obtain ⟨z2, w2⟩ : ∃ zs, IsRow .i64 W a2 len2 cap2 zs := by
    obtain ⟨fuel, hf⟩ := h2
    rcases open_ints Try.underlying47 Try.underlying3 (by kernel_rfl) hf with ⟨hcs, _⟩ | ⟨x, l, c, zs, hcs, _, hl, hm, hz, _, hcell, hwz⟩
    · simp [Value.cells] at hcs
      obtain ⟨rfl, rfl, rfl⟩ := hcs
      exact ⟨[], .inl ⟨rfl, rfl, rfl, rfl⟩⟩
    · simp [Value.cells] at hcs
      obtain ⟨rfl, rfl, rfl⟩ := hcs
      exact ⟨zs, .inr ⟨_, rfl, hl, hm, by simpa using hz, hcell, hwz⟩⟩
  clear hA0 hval0
  refine (walk_FnExactWeightedProduct (w := W) b0_0 b0_1 b0_2 x0_0 x0_1 x0_2 a1 len1 cap1 z1 w1 a2 len2 cap2 z2 w2).mono fun e W' ⟨he, bel⟩ => ?_
  subst he
  exact ⟨_, rfl, _, _, _, [], _, [], hW', trodAll_mk1 (shut_bool Try.underlying4 _), (trodAll_cons_mk (Below.trod laidOut (by kernel_rfl) (of_decide_eq_true (by kernel_rfl)) k0 bel lt0) (trodAll_cons_mk (Below.trod laidOut (by kernel_rfl) (of_decide_eq_true (by kernel_rfl)) k1 bel lt1) (trodAll_cons_mk (Below.trod laidOut (by kernel_rfl) (of_decide_eq_true (by kernel_rfl)) k2 bel lt2) trodAll_mk0))), rfl, bel.frame _, fun h => by cases h⟩

theorem over_FnExactWeightedProduct : Rows.fnExactWeightedProductRow.holds Try.pinned (OpenSpec.ofChange Rows.fnExactWeightedProductSpec) :=
  OpenClaim.holds_of_wide 10 Try.f10 rfl rfl rfl rfl rfl rfl rfl ⟨rfl, rfl, rfl, rfl, rfl⟩ rfl rfl rfl rfl rfl (by kernel_rfl) Try.func10 (by kernel_rfl)
    (of_decide_eq_true (by kernel_rfl)) (by unfold Func.isWrapper; first | (rw [if_pos (by decide +kernel)]; kernel_rfl) | (rw [if_neg (by decide +kernel)]; exact ⟨rfl, rfl⟩))
    (fun os started H enc _ => lifted_FnExactWeightedProduct os started H enc)

theorem proved_FnExactWeightedProduct : Rows.FnExactWeightedProductSaid := over_FnExactWeightedProduct
#print axioms proved_FnExactWeightedProduct
end Go.Proofs.Ytemhjhaokbgldaa
