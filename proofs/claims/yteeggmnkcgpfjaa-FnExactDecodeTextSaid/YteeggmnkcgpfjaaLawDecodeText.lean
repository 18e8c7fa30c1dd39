/- The program's DecodeText returns what the reference's DecodeText returns, for all arguments: proved with no condition. -/
import Derived.Test.YteeggmnkcgpfjaaDx
import Derived.Test.YteeggmnkcgpfjaaLw
namespace Go.Proofs.Yteeggmnkcgpfjaa
open Go.ChangeShapes Go.WideShapes Go.ChangeAt Go.RowKit Go.Joins
open Go.ChangeMaps (open_string shut_string)
set_option linter.unusedVariables false
set_option maxHeartbeats 800000 in
theorem walk_FnExactDecodeText (w : World) (A0 : Option Addr) (n0 c0 : Nat) (zs0 : List Int) (w0 : IsRow .i64 w A0 n0 c0 zs0) :
    Calls Try.prog 5 #[.slice A0 n0 c0] w fun e w' => e = .returned (.bool true) ∧ Below w.heap.size w w' := by
  have I0 := Ints.of_row w0
  clear w0
  generalize zs0.take n0 = z0 at I0
  by_cases big0 : 1048576 < n0
  · go_enter Try.func5, Try.ntmps5
    go_wp2
    go_ret
    exact ⟨rfl, (by repeat (first | exact Below.refl _ _ | assumption | refine belA ?_ | refine belD ?_ | refine belN ?_ | refine belS ?_ (by simp) | refine belT ?_ (by assumption)))⟩
  have hs := fun (A0 : Option Addr) (c0 : Nat) (W : World) (h0 : Ints W A0 n0 z0) (k0 : CapW W A0 n0 c0) => sDecodeText_any A0 n0 c0 z0 W h0 k0 (by omega)
  have hi := fun (A0 : Option Addr) (c0 : Nat) (W : World) (h0 : Ints W A0 n0 z0) (k0 : CapW W A0 n0 c0) => iDecodeText_any A0 n0 c0 z0 W h0 k0 (by omega)
  generalize (txM z0).1 = r0 at hs hi
  generalize (txM z0).2 = r1 at hs hi
  have Hs := Lib.hid hs
  have Hi := Lib.hid hi
  clear hs hi
  go_enter Try.func5, Try.ntmps5
  go_wp2_with fail
  refine (toIntS_any A0 n0 c0 z0 _ I0 (by omega)).mono ?_
  rintro e w1_ ⟨As0, cs0, rfl, Os0, hb1⟩
  replace I0 := I0.below hb1
  have hW := hb1
  have s0 := Own.mk' Os0
  clear Os0
  go_wp2_with fail
  refine (Hs.out As0 cs0 _ s0.ints s0.capw).mono ?_
  rintro e w2_ ⟨rfl, hb2⟩
  replace I0 := I0.below hb2
  replace s0 := s0.below hb2
  replace hW := belT hW hb2
  clear s0
  go_wp2_with fail
  refine (toIntS_any A0 n0 c0 z0 _ I0 (by omega)).mono ?_
  rintro e w3_ ⟨Ax0_, cx0_, rfl, Ox0_, hb3⟩
  replace I0 := I0.below hb3
  replace hW := belT hW hb3
  have x0_ := Own.mk' Ox0_
  clear Ox0_
  go_wp2_with fail
  refine (Hi.out Ax0_ cx0_ _ x0_.ints x0_.capw).mono ?_
  rintro e w4_ ⟨rfl, hb4⟩
  replace I0 := I0.below hb4
  replace x0_ := x0_.below hb4
  replace hW := belT hW hb4
  go_wp2_with fail
  refine (toIntS_any A0 n0 c0 z0 _ I0 (by omega)).mono ?_
  rintro e w5_ ⟨Ay0_, cy0_, rfl, Oy0_, hb5⟩
  replace I0 := I0.below hb5
  replace x0_ := x0_.below hb5
  replace hW := belT hW hb5
  have y0_ := Own.mk' Oy0_
  clear Oy0_
  go_wp2_with fail
  refine (eqIntS_any Ax0_ Ay0_ n0 n0 cx0_ cy0_ z0 z0 _ x0_.ints y0_.ints).mono ?_
  rintro e w6_ ⟨rfl, hb6⟩
  replace I0 := I0.below hb6
  replace x0_ := x0_.below hb6
  replace y0_ := y0_.below hb6
  replace hW := belT hW hb6
  clear y0_
  go_wp2
  go_ret
  exact ⟨rfl, belT (by repeat (first | exact Below.refl _ _ | assumption | refine belA ?_ | refine belD ?_ | refine belN ?_ | refine belS ?_ (by simp) | refine belT ?_ (by assumption))) hW⟩

set_option maxRecDepth 100000 in
theorem lifted_FnExactDecodeText (os : Os) (started : os.Started) (H : Type) (enc : TypeId × Value → H) :
    ReturnsInHanded {} Try.checked os 5 .any (Rows.fnExactDecodeTextSpec.pre6 enc Try.prog Try.f5 Rows.fnExactDecodeTextRow.domain false) (Rows.fnExactDecodeTextSpec.post enc Try.prog Try.f5 false true false false) := by
  refine returnsInHanded_of_change (C := Try.checked) own started (by kernel_rfl) Try.func5
    (ChangeSpec.witness6 (enc := enc) (C := Try.checked) false ⟨#[], #[.slice none 0 0], []⟩ 8 (by kernel_rfl) (by kernel_rfl) (by kernel_rfl) (by kernel_rfl)) ?_
  intro W base args ds gs before hval0 hW hcnd _
  have hval : ∀ (j : Nat) t v, Try.f5.params[j]? = some t → args[j]? = some v → Value.okWide Try.prog W .any base t v := hval0
  have hW' := hW
  obtain ⟨p, q, hA0, hV, rfl, hfz, hnd⟩ := hW
  have hA : DataW.TrodAll enc Try.prog W 0 (fun _ => true) true Try.f5.params.toList args.toList ds p := hA0
  rw [Try.params5] at hA hval
  obtain ⟨v0, vs0, d0, ds0, p0, q0, hargs, rfl, rfl, h0, r0⟩ := trodAll_cons hA
  obtain ⟨rfl, rfl, rfl⟩ := trodAll_nil r0
  obtain rfl : args = #[v0] := by cases args; simp_all
  obtain ⟨rfl, rfl⟩ := trodVars_none hV
  have k0 := h0
  have lt0 : ∀ x ∈ p0, x.block < W.heap.size := by obtain ⟨m, hm⟩ := k0; exact DataW.trod_lt m _ _ _ hm
  obtain ⟨a0, len0, cap0, rfl⟩ := okWide_slice Try.underlying24 (hval 0 24 v0 rfl rfl)
  obtain ⟨z0, w0⟩ : ∃ zs, IsRow .i64 W a0 len0 cap0 zs := by
    obtain ⟨fuel, hf⟩ := h0
    rcases open_ints Try.underlying24 Try.underlying3 (by kernel_rfl) hf with ⟨hcs, _⟩ | ⟨x, l, c, zs, hcs, _, hl, hm, hz, _, hcell, hwz⟩
    · simp [Value.cells] at hcs
      obtain ⟨rfl, rfl, rfl⟩ := hcs
      exact ⟨[], .inl ⟨rfl, rfl, rfl, rfl⟩⟩
    · simp [Value.cells] at hcs
      obtain ⟨rfl, rfl, rfl⟩ := hcs
      exact ⟨zs, .inr ⟨_, rfl, hl, hm, by simpa using hz, hcell, hwz⟩⟩
  clear hA0 hval0
  refine (walk_FnExactDecodeText (w := W) a0 len0 cap0 z0 w0).mono fun e W' ⟨he, bel⟩ => ?_
  subst he
  exact ⟨_, rfl, _, _, _, [], _, [], hW', trodAll_mk1 (shut_bool Try.underlying4 _), (trodAll_cons_mk (Below.trod laidOut (by kernel_rfl) (of_decide_eq_true (by kernel_rfl)) k0 bel lt0) trodAll_mk0), rfl, bel.frame _, fun h => by cases h⟩

theorem over_FnExactDecodeText : Rows.fnExactDecodeTextRow.holds Try.pinned (OpenSpec.ofChange Rows.fnExactDecodeTextSpec) :=
  OpenClaim.holds_of_wide 5 Try.f5 rfl rfl rfl rfl rfl rfl rfl ⟨rfl, rfl, rfl, rfl, rfl⟩ rfl rfl rfl rfl rfl (by kernel_rfl) Try.func5 (by kernel_rfl)
    (of_decide_eq_true (by kernel_rfl)) (by unfold Func.isWrapper; first | (rw [if_pos (by decide +kernel)]; kernel_rfl) | (rw [if_neg (by decide +kernel)]; exact ⟨rfl, rfl⟩))
    (fun os started H enc _ => lifted_FnExactDecodeText os started H enc)

theorem proved_FnExactDecodeText : Rows.FnExactDecodeTextSaid := over_FnExactDecodeText
#print axioms proved_FnExactDecodeText
end Go.Proofs.Yteeggmnkcgpfjaa
