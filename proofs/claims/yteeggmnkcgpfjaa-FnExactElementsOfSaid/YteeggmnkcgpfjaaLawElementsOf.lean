/- The program's ElementsOf returns what the reference's ElementsOf returns, for all arguments: proved with no condition. -/
import Derived.Test.YteeggmnkcgpfjaaEo
import Derived.Test.YteeggmnkcgpfjaaLw
import Derived.Test.YteeggmnkcgpfjaaLm
namespace Go.Proofs.Yteeggmnkcgpfjaa
open Go.ChangeShapes Go.WideShapes Go.ChangeAt Go.RowKit Go.Joins
open Go.ChangeMaps (open_string shut_string)
set_option linter.unusedVariables false
set_option maxHeartbeats 800000 in
theorem walk_FnExactElementsOf (w : World) (p0 q0 g0 : Int) (w0a : (Lit.int .i64 p0).wf = true) (w0b : (Lit.int .i64 q0).wf = true) (w0c : (Lit.int .i64 g0).wf = true) :
    Calls Try.prog 3 #[.agg #[.int .i64 p0, .int .i64 q0, .int .i64 g0]] w fun e w' => e = .returned (.bool true) ∧ Below w.heap.size w w' := by
  clear w0a w0b w0c
  have hs := fun  (W : World)  => sElementsOf_any p0 q0 g0 W  
  have hi := fun  (W : World)  => iElementsOf_any p0 q0 g0 W  
  have L0 : (eoM p0 q0 g0).1.length ≤ 4000000000000000000 := by (have := eoM_len p0 q0 g0; omega)
  generalize (eoM p0 q0 g0).1 = r0 at hs hi L0
  generalize (eoM p0 q0 g0).2 = r1 at hs hi L0
  have Hs := Lib.hid hs
  have Hi := Lib.hid hi
  clear hs hi
  go_enter Try.func3, Try.ntmps3
  go_wp2_with fail
  refine (toGroup_any _ _ _ _).mono ?_
  rintro e w1_ ⟨rfl, hb1⟩
  have hW := hb1
  have hsz0 := Lib.hid (show w.heap.size ≤ w1_.heap.size from by have := hb1.size; simp at this; omega)
  have hsz1 := Lib.hid hb1.size
  obtain ⟨hc, hf⟩ := bcell hW
  go_wp2_with fail
  refine (Hs.out  _ ).mono ?_
  rintro e w2_ ⟨Arw, crw, rfl, Orw, hb2⟩
  replace hW := belT hW hb2
  have hsz2 := Lib.hid hb2.size
  clear hc hf
  obtain ⟨hc, hf⟩ := bcell hW
  have rw := Own.mk' Orw
  clear Orw
  go_wp2_with fail
  refine (toGroup_any _ _ _ _).mono ?_
  rintro e w3_ ⟨rfl, hb3⟩
  replace rw := rw.below hb3
  replace hW := belT hW hb3
  have hsz3 := Lib.hid hb3.size
  clear hc hf
  obtain ⟨hc, hf⟩ := bcell hW
  go_wp2_with fail
  refine (Hi.out  _ ).mono ?_
  rintro e w4_ ⟨Arg, crg, rfl, Org, hb4⟩
  replace rw := rw.below hb4
  replace hW := belT hW hb4
  have hsz4 := Lib.hid hb4.size
  clear hc hf
  obtain ⟨hc, hf⟩ := bcell hW
  have rg := Own.mk' Org
  clear Org
  go_wp2_with fail
  refine (eqIntS_any Arg Arw _ _ crg crw r0 r0 _ rg.ints rw.ints).mono ?_
  rintro e w5_ ⟨rfl, hb5⟩
  replace rw := rw.below hb5
  replace rg := rg.below hb5
  replace hW := belT hW hb5
  have hsz5 := Lib.hid hb5.size
  clear hc hf
  obtain ⟨hc, hf⟩ := bcell hW
  go_wp2_with fail
  refine (markIntS_any Arg r0.length crg _ _ _ _ _ rg (by omega) (by omega) (by omega)).mono ?_
  rintro e w6_ ⟨rfl, Mrg, hg6⟩
  have hr6 := Lib.hid fun k (hk : (Value.slice Arg r0.length crg).ownBlock = some k) => And.intro (rg.own.lt k hk).1 (rg.lt k hk)
  replace rw := rw.grown hg6 (fun k hk => by have := hr6.out k hk; have := hsz0.out; have := hsz1.out; have := hsz2.out; have := hsz3.out; have := hsz4.out; have := hsz5.out; omega)
  replace hW := below_of_grown hW hg6 hW.size (fun k hk => by have := hr6.out k hk; have := hsz0.out; have := hsz1.out; have := hsz2.out; have := hsz3.out; have := hsz4.out; have := hsz5.out; omega)
  replace rg := Mrg
  clear Mrg
  have hsz6 := Lib.hid hg6.size
  clear hg6 hr6
  clear hc hf
  obtain ⟨hc, hf⟩ := bcell hW
  go_wp2_with fail
  refine (heldIntS_any Arg r0.length crg _ _ rg.ints (by omega) (by omega) (by omega)).mono ?_
  rintro e w7_ ⟨rfl, hb7⟩
  replace rw := rw.below hb7
  replace rg := rg.below hb7
  replace hW := belT hW hb7
  have hsz7 := Lib.hid hb7.size
  clear hc hf
  obtain ⟨hc, hf⟩ := bcell hW
  go_wp2_with fail
  refine (toGroup_any _ _ _ _).mono ?_
  rintro e w8_ ⟨rfl, hb8⟩
  replace rw := rw.below hb8
  replace rg := rg.below hb8
  replace hW := belT hW hb8
  have hsz8 := Lib.hid hb8.size
  clear hc hf
  obtain ⟨hc, hf⟩ := bcell hW
  go_wp2_with fail
  refine (Hi.out  _ ).mono ?_
  rintro e w9_ ⟨Arh, crh, rfl, Orh, hb9⟩
  replace rw := rw.below hb9
  replace rg := rg.below hb9
  replace hW := belT hW hb9
  have hsz9 := Lib.hid hb9.size
  clear hc hf
  obtain ⟨hc, hf⟩ := bcell hW
  have rh := Own.mk' Orh
  clear Orh
  go_wp2_with fail
  refine (eqIntS_any Arh Arw _ _ crh crw r0 r0 _ rh.ints rw.ints).mono ?_
  rintro e w10_ ⟨rfl, hb10⟩
  replace rw := rw.below hb10
  replace rg := rg.below hb10
  replace rh := rh.below hb10
  replace hW := belT hW hb10
  have hsz10 := Lib.hid hb10.size
  clear hc hf
  obtain ⟨hc, hf⟩ := bcell hW
  clear rh
  clear rw
  go_wp2_with fail
  refine (heldIntS_any Arg r0.length crg _ _ rg.ints (by omega) (by omega) (by omega)).mono ?_
  rintro e w11_ ⟨rfl, hb11⟩
  replace rg := rg.below hb11
  replace hW := belT hW hb11
  have hsz11 := Lib.hid hb11.size
  clear hc hf
  obtain ⟨hc, hf⟩ := bcell hW
  go_wp2
  go_ret
  exact ⟨rfl, belT (by repeat (first | exact Below.refl _ _ | assumption | refine belA ?_ | refine belD ?_ | refine belN ?_ | refine belS ?_ (by simp) | refine belT ?_ (by assumption))) hW⟩

set_option maxRecDepth 100000 in
theorem lifted_FnExactElementsOf (os : Os) (started : os.Started) (H : Type) (enc : TypeId × Value → H) :
    ReturnsInHanded {} Try.checked os 3 .any (Rows.fnExactElementsOfSpec.pre6 enc Try.prog Try.f3 Rows.fnExactElementsOfRow.domain false) (Rows.fnExactElementsOfSpec.post enc Try.prog Try.f3 false true false false) := by
  refine returnsInHanded_of_change (C := Try.checked) own started (by kernel_rfl) Try.func3
    (ChangeSpec.witness6 (enc := enc) (C := Try.checked) false ⟨#[], #[.agg #[.int .i64 0, .int .i64 0, .int .i64 0]], []⟩ 8 (by kernel_rfl) (by kernel_rfl) (by kernel_rfl) (by kernel_rfl)) ?_
  intro W base args ds gs before hval0 hW hcnd _
  have hval : ∀ (j : Nat) t v, Try.f3.params[j]? = some t → args[j]? = some v → Value.okWide Try.prog W .any base t v := hval0
  have hW' := hW
  obtain ⟨p, q, hA0, hV, rfl, hfz, hnd⟩ := hW
  have hA : DataW.TrodAll enc Try.prog W 0 (fun _ => true) true Try.f3.params.toList args.toList ds p := hA0
  rw [Try.params3] at hA hval
  obtain ⟨v0, vs0, d0, ds0, p0, q0, hargs, rfl, rfl, h0, r0⟩ := trodAll_cons hA
  obtain ⟨rfl, rfl, rfl⟩ := trodAll_nil r0
  obtain rfl : args = #[v0] := by cases args; simp_all
  obtain ⟨rfl, rfl⟩ := trodVars_none hV
  have k0 := h0
  have lt0 : ∀ x ∈ p0, x.block < W.heap.size := by obtain ⟨m, hm⟩ := k0; exact DataW.trod_lt m _ _ _ hm
  obtain ⟨c0_0, c0_1, c0_2, y0_0, y0_1, y0_2, m0, rfl, rfl, rfl, u0_0, u0_1, u0_2⟩ := open_agg3 Try.underlying23 (by kernel_rfl) (by kernel_rfl) (hval 0 23 v0 rfl rfl) h0
  obtain ⟨b0_0, e0_0, hb0_0, x0_0⟩ := DataW.trod_int Try.underlying3 u0_0
  simp only [List.cons.injEq, and_true] at e0_0
  subst e0_0
  obtain ⟨b0_1, e0_1, hb0_1, x0_1⟩ := DataW.trod_int Try.underlying3 u0_1
  simp only [List.cons.injEq, and_true] at e0_1
  subst e0_1
  obtain ⟨b0_2, e0_2, hb0_2, x0_2⟩ := DataW.trod_int Try.underlying3 u0_2
  simp only [List.cons.injEq, and_true] at e0_2
  subst e0_2
  clear hA0 hval0
  refine (walk_FnExactElementsOf (w := W) b0_0 b0_1 b0_2 x0_0 x0_1 x0_2).mono fun e W' ⟨he, bel⟩ => ?_
  subst he
  exact ⟨_, rfl, _, _, _, [], _, [], hW', trodAll_mk1 (shut_bool Try.underlying4 _), (trodAll_cons_mk (Below.trod laidOut (by kernel_rfl) (of_decide_eq_true (by kernel_rfl)) k0 bel lt0) trodAll_mk0), rfl, bel.frame _, fun h => by cases h⟩

theorem over_FnExactElementsOf : Rows.fnExactElementsOfRow.holds Try.pinned (OpenSpec.ofChange Rows.fnExactElementsOfSpec) :=
  OpenClaim.holds_of_wide 3 Try.f3 rfl rfl rfl rfl rfl rfl rfl ⟨rfl, rfl, rfl, rfl, rfl⟩ rfl rfl rfl rfl rfl (by kernel_rfl) Try.func3 (by kernel_rfl)
    (of_decide_eq_true (by kernel_rfl)) (by unfold Func.isWrapper; first | (rw [if_pos (by decide +kernel)]; kernel_rfl) | (rw [if_neg (by decide +kernel)]; exact ⟨rfl, rfl⟩))
    (fun os started H enc _ => lifted_FnExactElementsOf os started H enc)

theorem proved_FnExactElementsOf : Rows.FnExactElementsOfSaid := over_FnExactElementsOf
#print axioms proved_FnExactElementsOf
end Go.Proofs.Yteeggmnkcgpfjaa
