/- The program's MulOf returns what the reference's MulOf returns, for all arguments: proved with no condition. -/
import Derived.Test.YtehemfhnhjengaaGr3
import Derived.Test.YtehemfhnhjengaaLw
namespace Go.Proofs.Ytehemfhnhjengaa
open Go.ChangeShapes Go.WideShapes Go.ChangeAt Go.RowKit Go.Joins
open Go.ChangeMaps (open_string shut_string)
set_option linter.unusedVariables false
set_option maxHeartbeats 800000 in
theorem walk_FnExactMulOf (w : World) (p0 q0 g0 : Int) (w0a : (Lit.int .i64 p0).wf = true) (w0b : (Lit.int .i64 q0).wf = true) (w0c : (Lit.int .i64 g0).wf = true) (A1 : Option Addr) (n1 c1 : Nat) (zs1 : List Int) (w1 : IsRow .i64 w A1 n1 c1 zs1) :
    Calls Try.prog 13 #[.agg #[.int .i64 p0, .int .i64 q0, .int .i64 g0], .slice A1 n1 c1] w fun e w' => e = .returned (.bool true) ∧ Below w.heap.size w w' := by
  clear w0a w0b w0c
  have I1 := Ints.of_row w1
  clear w1
  generalize zs1.take n1 = z1 at I1
  by_cases big0 : 1048576 < n1
  · go_enter Try.func13, Try.ntmps13
    go_wp2
    go_ret
    exact ⟨rfl, (by repeat (first | exact Below.refl _ _ | assumption | refine belA ?_ | refine belD ?_ | refine belN ?_ | refine belS ?_ (by simp) | refine belT ?_ (by assumption)))⟩
  have hs := fun (A1 : Option Addr) (c1 : Nat) (W : World) (h1 : Ints W A1 n1 z1) => sMulOf_any p0 q0 g0 A1 n1 c1 z1 W h1 
  have hi := fun (A1 : Option Addr) (c1 : Nat) (W : World) (h1 : Ints W A1 n1 z1) => iMulOf_any p0 q0 g0 A1 n1 c1 z1 W h1 
  generalize (mulM p0 q0 g0 z1).1 = r0 at hs hi
  generalize (mulM p0 q0 g0 z1).2 = r1 at hs hi
  have Hs := Lib.hid hs
  have Hi := Lib.hid hi
  clear hs hi
  go_enter Try.func13, Try.ntmps13
  go_wp2_with fail
  refine (toGroup_any _ _ _ _).mono ?_
  rintro e w1_ ⟨rfl, hb1⟩
  replace I1 := I1.below (belT (by repeat (first | exact Below.refl _ _ | assumption | refine belA ?_ | refine belD ?_ | refine belN ?_ | refine belS ?_ (by simp) | refine belT ?_ (by assumption))) hb1)
  have hW := hb1
  obtain ⟨hc, hf⟩ := bcell hW
  go_wp2_with fail
  refine (toIntS_any A1 n1 c1 z1 _ I1 (by omega)).mono ?_
  rintro e w2_ ⟨As1, cs1, rfl, Os1, hb2⟩
  replace I1 := I1.below hb2
  replace hW := belT hW hb2
  clear hc hf
  obtain ⟨hc, hf⟩ := bcell hW
  have s1 := Own.mk' Os1
  clear Os1
  go_wp2_with fail
  refine (Hs.out As1 cs1 _ s1.ints).mono ?_
  rintro e w3_ ⟨rfl, hb3⟩
  replace I1 := I1.below hb3
  replace s1 := s1.below hb3
  replace hW := belT hW hb3
  clear hc hf
  obtain ⟨hc, hf⟩ := bcell hW
  clear s1
  go_wp2_with fail
  refine (toIntS_any A1 n1 c1 z1 _ I1 (by omega)).mono ?_
  rintro e w4_ ⟨Ax1_, cx1_, rfl, Ox1_, hb4⟩
  replace I1 := I1.below hb4
  replace hW := belT hW hb4
  clear hc hf
  obtain ⟨hc, hf⟩ := bcell hW
  have x1_ := Own.mk' Ox1_
  clear Ox1_
  go_wp2_with fail
  refine (toGroup_any _ _ _ _).mono ?_
  rintro e w5_ ⟨rfl, hb5⟩
  replace I1 := I1.below hb5
  replace x1_ := x1_.below hb5
  replace hW := belT hW hb5
  clear hc hf
  obtain ⟨hc, hf⟩ := bcell hW
  go_wp2_with fail
  refine (Hi.out Ax1_ cx1_ _ x1_.ints).mono ?_
  rintro e w6_ ⟨rfl, hb6⟩
  replace I1 := I1.below hb6
  replace x1_ := x1_.below hb6
  replace hW := belT hW hb6
  clear hc hf
  obtain ⟨hc, hf⟩ := bcell hW
  go_wp2_with fail
  refine (toIntS_any A1 n1 c1 z1 _ I1 (by omega)).mono ?_
  rintro e w7_ ⟨Ay1_, cy1_, rfl, Oy1_, hb7⟩
  replace I1 := I1.below hb7
  replace x1_ := x1_.below hb7
  replace hW := belT hW hb7
  clear hc hf
  obtain ⟨hc, hf⟩ := bcell hW
  have y1_ := Own.mk' Oy1_
  clear Oy1_
  go_wp2_with fail
  refine (eqIntS_any Ax1_ Ay1_ n1 n1 cx1_ cy1_ z1 z1 _ x1_.ints y1_.ints).mono ?_
  rintro e w8_ ⟨rfl, hb8⟩
  replace I1 := I1.below hb8
  replace x1_ := x1_.below hb8
  replace y1_ := y1_.below hb8
  replace hW := belT hW hb8
  clear hc hf
  obtain ⟨hc, hf⟩ := bcell hW
  clear y1_
  go_wp2
  go_ret
  exact ⟨rfl, belT (by repeat (first | exact Below.refl _ _ | assumption | refine belA ?_ | refine belD ?_ | refine belN ?_ | refine belS ?_ (by simp) | refine belT ?_ (by assumption))) hW⟩

set_option maxRecDepth 100000 in
theorem lifted_FnExactMulOf (os : Os) (started : os.Started) (H : Type) (enc : TypeId × Value → H) :
    ReturnsInHanded {} Try.checked os 13 .any (Rows.fnExactMulOfSpec.pre6 enc Try.prog Try.f13 Rows.fnExactMulOfRow.domain false) (Rows.fnExactMulOfSpec.post enc Try.prog Try.f13 false true false false) := by
  refine returnsInHanded_of_change (C := Try.checked) own started (by kernel_rfl) Try.func13
    (ChangeSpec.witness6 (enc := enc) (C := Try.checked) false ⟨#[], #[.agg #[.int .i64 0, .int .i64 0, .int .i64 0], .slice none 0 0], []⟩ 8 (by kernel_rfl) (by kernel_rfl) (by kernel_rfl) (by kernel_rfl)) ?_
  intro W base args ds gs before hval0 hW hcnd _
  have hval : ∀ (j : Nat) t v, Try.f13.params[j]? = some t → args[j]? = some v → Value.okWide Try.prog W .any base t v := hval0
  have hW' := hW
  obtain ⟨p, q, hA0, hV, rfl, hfz, hnd⟩ := hW
  have hA : DataW.TrodAll enc Try.prog W 0 (fun _ => true) true Try.f13.params.toList args.toList ds p := hA0
  rw [Try.params13] at hA hval
  obtain ⟨v0, vs0, d0, ds0, p0, q0, hargs, rfl, rfl, h0, r0⟩ := trodAll_cons hA
  obtain ⟨v1, vs1, d1, ds1, p1, q1, rfl, rfl, rfl, h1, r1⟩ := trodAll_cons r0
  obtain ⟨rfl, rfl, rfl⟩ := trodAll_nil r1
  obtain rfl : args = #[v0, v1] := by cases args; simp_all
  obtain ⟨rfl, rfl⟩ := trodVars_none hV
  have k0 := h0
  have lt0 : ∀ x ∈ p0, x.block < W.heap.size := by obtain ⟨m, hm⟩ := k0; exact DataW.trod_lt m _ _ _ hm
  obtain ⟨c0_0, c0_1, c0_2, y0_0, y0_1, y0_2, m0, rfl, rfl, rfl, u0_0, u0_1, u0_2⟩ := open_agg3 Try.underlying35 (by kernel_rfl) (by kernel_rfl) (hval 0 35 v0 rfl rfl) h0
  obtain ⟨b0_0, e0_0, hb0_0, x0_0⟩ := DataW.trod_int Try.underlying3 u0_0
  simp only [List.cons.injEq, and_true] at e0_0
  subst e0_0
  obtain ⟨b0_1, e0_1, hb0_1, x0_1⟩ := DataW.trod_int Try.underlying3 u0_1
  simp only [List.cons.injEq, and_true] at e0_1
  subst e0_1
  obtain ⟨b0_2, e0_2, hb0_2, x0_2⟩ := DataW.trod_int Try.underlying3 u0_2
  simp only [List.cons.injEq, and_true] at e0_2
  subst e0_2
  have k1 := h1
  have lt1 : ∀ x ∈ p1, x.block < W.heap.size := by obtain ⟨m, hm⟩ := k1; exact DataW.trod_lt m _ _ _ hm
  obtain ⟨a1, len1, cap1, rfl⟩ := okWide_slice Try.underlying60 (hval 1 60 v1 rfl rfl)
  obtain ⟨z1, w1⟩ : ∃ zs, IsRow .i64 W a1 len1 cap1 zs := by
    obtain ⟨fuel, hf⟩ := h1
    rcases open_ints Try.underlying60 Try.underlying3 (by kernel_rfl) hf with ⟨hcs, _⟩ | ⟨x, l, c, zs, hcs, _, hl, hm, hz, _, hcell, hwz⟩
    · simp [Value.cells] at hcs
      obtain ⟨rfl, rfl, rfl⟩ := hcs
      exact ⟨[], .inl ⟨rfl, rfl, rfl, rfl⟩⟩
    · simp [Value.cells] at hcs
      obtain ⟨rfl, rfl, rfl⟩ := hcs
      exact ⟨zs, .inr ⟨_, rfl, hl, hm, by simpa using hz, hcell, hwz⟩⟩
  clear hA0 hval0
  refine (walk_FnExactMulOf (w := W) b0_0 b0_1 b0_2 x0_0 x0_1 x0_2 a1 len1 cap1 z1 w1).mono fun e W' ⟨he, bel⟩ => ?_
  subst he
  exact ⟨_, rfl, _, _, _, [], _, [], hW', trodAll_mk1 (shut_bool Try.underlying4 _), (trodAll_cons_mk (Below.trod laidOut (by kernel_rfl) (of_decide_eq_true (by kernel_rfl)) k0 bel lt0) (trodAll_cons_mk (Below.trod laidOut (by kernel_rfl) (of_decide_eq_true (by kernel_rfl)) k1 bel lt1) trodAll_mk0)), rfl, bel.frame _, fun h => by cases h⟩

theorem over_FnExactMulOf : Rows.fnExactMulOfRow.holds Try.pinned (OpenSpec.ofChange Rows.fnExactMulOfSpec) :=
  OpenClaim.holds_of_wide 13 Try.f13 rfl rfl rfl rfl rfl rfl rfl ⟨rfl, rfl, rfl, rfl, rfl⟩ rfl rfl rfl rfl rfl (by kernel_rfl) Try.func13 (by kernel_rfl)
    (of_decide_eq_true (by kernel_rfl)) (by unfold Func.isWrapper; first | (rw [if_pos (by decide +kernel)]; kernel_rfl) | (rw [if_neg (by decide +kernel)]; exact ⟨rfl, rfl⟩))
    (fun os started H enc _ => lifted_FnExactMulOf os started H enc)

theorem proved_FnExactMulOf : Rows.FnExactMulOfSaid := over_FnExactMulOf
#print axioms proved_FnExactMulOf
end Go.Proofs.Ytehemfhnhjengaa
