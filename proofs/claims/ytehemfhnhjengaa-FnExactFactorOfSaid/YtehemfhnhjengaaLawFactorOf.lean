/- The program's FactorOf returns what the reference's FactorOf returns, for all arguments: proved with no condition. -/
import Derived.Test.YtehemfhnhjengaaFb
import Derived.Test.YtehemfhnhjengaaLw
import Derived.Test.YtehemfhnhjengaaLm
namespace Go.Proofs.Ytehemfhnhjengaa
open Go.ChangeShapes Go.WideShapes Go.ChangeAt Go.RowKit Go.Joins
open Go.ChangeMaps (open_string shut_string)
set_option linter.unusedVariables false
set_option maxHeartbeats 800000 in
theorem walk_FnExactFactorOf (w : World) (x0 : Int) (w0 : (Lit.int .i64 x0).wf = true) :
    Calls Try.prog 3 #[.int .i64 x0] w fun e w' => e = .returned (.bool true) ∧ Below w.heap.size w w' := by
  clear w0
  have hs := fun  (W : World)  => sFactorOf_any x0 W  
  have hi := fun  (W : World)  => iFactorOf_any x0 W  
  have L0 : (facM x0).1.length ≤ 1000000000000000000 := by (have := facM_len x0; omega)
  generalize (facM x0).1 = r0 at hs hi L0
  generalize (facM x0).2 = r1 at hs hi L0
  have Hs := Lib.hid hs
  have Hi := Lib.hid hi
  clear hs hi
  go_enter Try.func3, Try.ntmps3
  go_wp2_with fail
  refine (Hs.out  _ ).mono ?_
  rintro e w1_ ⟨Arw, crw, rfl, Orw, hb1⟩
  have hW := hb1
  have hsz1 := Lib.hid hb1.size
  have rw := OwnD.of_own Orw
  clear Orw
  go_wp2_with fail
  refine (Hi.out  _ ).mono ?_
  rintro e w2_ ⟨Arg, crg, rfl, Org, hb2⟩
  replace rw := rw.below hb2
  replace hW := belT hW hb2
  have hsz2 := Lib.hid hb2.size
  have rg := OwnD.of_own Org
  clear Org
  go_wp2_with fail
  refine (eqCipherS_any Arg Arw r0.length crg crw r0 _ rg.cips rw.cips).mono ?_
  rintro e w3_ ⟨rfl, hb3⟩
  replace rw := rw.below hb3
  replace rg := rg.below hb3
  replace hW := belT hW hb3
  have hsz3 := Lib.hid hb3.size
  go_wp2_with fail
  refine (markCipherD_any Arg r0.length crg _ _ _ _ _ rg (by omega) (by omega) (by omega)).mono ?_
  rintro e w4_ ⟨rfl, Mrg, hg4⟩
  have hr4 := Lib.hid rg.blk
  replace rw := rw.grown hg4 (fun k hk => by have := hr4.out k hk; have := hsz1.out; have := hsz2.out; have := hsz3.out; omega)
  replace hW := below_of_grown hW hg4 hW.size (fun k hk => by have := hr4.out k hk; have := hsz1.out; have := hsz2.out; have := hsz3.out; omega)
  replace rg := Mrg
  clear Mrg
  have hsz4 := Lib.hid hg4.size
  clear hg4 hr4
  go_wp2_with fail
  refine (heldCipherS_any Arg r0.length crg _ _ rg.cips (by omega) (by omega) (by omega)).mono ?_
  rintro e w5_ ⟨rfl, hb5⟩
  replace rw := rw.below hb5
  replace rg := rg.below hb5
  replace hW := belT hW hb5
  have hsz5 := Lib.hid hb5.size
  go_wp2_with fail
  refine (Hi.out  _ ).mono ?_
  rintro e w6_ ⟨Arh, crh, rfl, Orh, hb6⟩
  replace rw := rw.below hb6
  replace rg := rg.below hb6
  replace hW := belT hW hb6
  have hsz6 := Lib.hid hb6.size
  have rh := OwnD.of_own Orh
  clear Orh
  go_wp2_with fail
  refine (eqCipherS_any Arh Arw r0.length crh crw r0 _ rh.cips rw.cips).mono ?_
  rintro e w7_ ⟨rfl, hb7⟩
  replace rw := rw.below hb7
  replace rg := rg.below hb7
  replace rh := rh.below hb7
  replace hW := belT hW hb7
  have hsz7 := Lib.hid hb7.size
  clear rh
  clear rw
  go_wp2_with fail
  refine (heldCipherS_any Arg r0.length crg _ _ rg.cips (by omega) (by omega) (by omega)).mono ?_
  rintro e w8_ ⟨rfl, hb8⟩
  replace rg := rg.below hb8
  replace hW := belT hW hb8
  have hsz8 := Lib.hid hb8.size
  go_wp2
  go_ret
  exact ⟨rfl, belT (by repeat (first | exact Below.refl _ _ | assumption | refine belA ?_ | refine belD ?_ | refine belN ?_ | refine belS ?_ (by simp) | refine belT ?_ (by assumption))) hW⟩

set_option maxRecDepth 100000 in
theorem lifted_FnExactFactorOf (os : Os) (started : os.Started) (H : Type) (enc : TypeId × Value → H) :
    ReturnsInHanded {} Try.checked os 3 .any (Rows.fnExactFactorOfSpec.pre6 enc Try.prog Try.f3 Rows.fnExactFactorOfRow.domain false) (Rows.fnExactFactorOfSpec.post enc Try.prog Try.f3 false true false false) := by
  refine returnsInHanded_of_change (C := Try.checked) own started (by kernel_rfl) Try.func3
    (ChangeSpec.witness6 (enc := enc) (C := Try.checked) false ⟨#[], #[.int .i64 0], []⟩ 8 (by kernel_rfl) (by kernel_rfl) (by kernel_rfl) (by kernel_rfl)) ?_
  intro W base args ds gs before hval0 hW hcnd _
  have hval : ∀ (j : Nat) t v, Try.f3.params[j]? = some t → args[j]? = some v → Value.okWide Try.prog W .any base t v := hval0
  have hW' := hW
  obtain ⟨p, q, hA0, hV, rfl, hfz, hnd⟩ := hW
  have hA : DataW.TrodAll enc Try.prog W 0 (fun _ => true) true Try.f3.params.toList args.toList ds p := hA0
  rw [Try.params3] at hA hval
  obtain ⟨v0, vs0, d0, ds0, p0, q0, hargs, rfl, rfl, h0, r0⟩ := trodAll_cons hA
  obtain ⟨rfl, rfl, rfl⟩ := trodAll_nil r0
  obtain rfl : args = #[v0] := by cases args; simp_all
  obtain ⟨rfl, rfl⟩ := trodVars_none hV
  have k0 := h0
  have lt0 : ∀ x ∈ p0, x.block < W.heap.size := by obtain ⟨m, hm⟩ := k0; exact DataW.trod_lt m _ _ _ hm
  obtain ⟨a0, rfl, rfl, rfl, w0⟩ := open_int Try.underlying3 (hval 0 3 v0 rfl rfl) h0
  clear hA0 hval0
  refine (walk_FnExactFactorOf (w := W) a0 w0).mono fun e W' ⟨he, bel⟩ => ?_
  subst he
  exact ⟨_, rfl, _, _, _, [], _, [], hW', trodAll_mk1 (shut_bool Try.underlying4 _), (trodAll_cons_mk (Below.trod laidOut (by kernel_rfl) (of_decide_eq_true (by kernel_rfl)) k0 bel lt0) trodAll_mk0), rfl, bel.frame _, fun h => by cases h⟩

theorem over_FnExactFactorOf : Rows.fnExactFactorOfRow.holds Try.pinned (OpenSpec.ofChange Rows.fnExactFactorOfSpec) :=
  OpenClaim.holds_of_wide 3 Try.f3 rfl rfl rfl rfl rfl rfl rfl ⟨rfl, rfl, rfl, rfl, rfl⟩ rfl rfl rfl rfl rfl (by kernel_rfl) Try.func3 (by kernel_rfl)
    (of_decide_eq_true (by kernel_rfl)) (by unfold Func.isWrapper; first | (rw [if_pos (by decide +kernel)]; kernel_rfl) | (rw [if_neg (by decide +kernel)]; exact ⟨rfl, rfl⟩))
    (fun os started H enc _ => lifted_FnExactFactorOf os started H enc)

theorem proved_FnExactFactorOf : Rows.FnExactFactorOfSaid := over_FnExactFactorOf
#print axioms proved_FnExactFactorOf
end Go.Proofs.Ytehemfhnhjengaa
