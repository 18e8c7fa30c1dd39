/- The program's DecodeCiphers returns what the reference's DecodeCiphers returns, for all arguments: proved with no condition. -/
import Derived.Test.YteeggmnkcgpfjaaDc
import Derived.Test.YteeggmnkcgpfjaaLw
import Derived.Test.YteeggmnkcgpfjaaLm
import Derived.Test.YteeggmnkcgpfjaaCm
import Derived.Test.YteeggmnkcgpfjaaCn
namespace Go.Proofs.Yteeggmnkcgpfjaa
open Go.ChangeShapes Go.WideShapes Go.ChangeAt Go.RowKit Go.Joins
open Go.ChangeMaps (open_string shut_string)
set_option linter.unusedVariables false
set_option maxHeartbeats 800000 in
theorem walk_FnExactDecodeCiphers (w : World) (A0 : Option Addr) (n0 c0 : Nat) (zs0 : List Int) (w0 : IsRow .i64 w A0 n0 c0 zs0) :
    Calls Try.prog 6 #[.slice A0 n0 c0] w fun e w' => e = .returned (.bool true) ∧ Below w.heap.size w w' := by
  have I0 := Ints.of_row w0
  clear w0
  generalize zs0.take n0 = z0 at I0
  by_cases big0 : 1048576 < n0
  · go_enter Try.func6, Try.ntmps6
    go_wp2
    go_ret
    exact ⟨rfl, (by repeat (first | exact Below.refl _ _ | assumption | refine belA ?_ | refine belD ?_ | refine belN ?_ | refine belS ?_ (by simp) | refine belT ?_ (by assumption)))⟩
  have hs := fun (A0 : Option Addr) (c0 : Nat) (W : World) (h0 : Ints W A0 n0 z0) (k0 : CapW W A0 n0 c0) => sDecodeCiphers_any A0 n0 c0 z0 W h0 k0 (by omega)
  have hi := fun (A0 : Option Addr) (c0 : Nat) (W : World) (h0 : Ints W A0 n0 z0) (k0 : CapW W A0 n0 c0) => iDecodeCiphers_any A0 n0 c0 z0 W h0 k0 (by omega)
  have L0 : (dcM z0).1.length ≤ 1000000000000000000 := by (have := dcM_len z0; have := I0.len; omega)
  generalize (dcM z0).1 = r0 at hs hi L0
  generalize (dcM z0).2 = r1 at hs hi L0
  have Hs := Lib.hid hs
  have Hi := Lib.hid hi
  clear hs hi
  go_enter Try.func6, Try.ntmps6
  have J0 := Lib.hid (Ints.base I0)
  go_wp2_with fail
  refine (toIntS_any A0 n0 c0 z0 _ I0 (by omega)).mono ?_
  rintro e w1_ ⟨As0, cs0, rfl, Os0, hb1⟩
  replace I0 := I0.below hb1
  have hW := hb1
  have hsz1 := Lib.hid hb1.size
  have s0 := Own.mk' Os0
  clear Os0
  go_wp2_with fail
  refine (Hs.out As0 cs0 _ s0.ints s0.capw).mono ?_
  rintro e w2_ ⟨Arw, crw, rfl, Orw, hb2⟩
  replace I0 := I0.below hb2
  replace s0 := s0.below hb2
  replace hW := belT hW hb2
  have hsz2 := Lib.hid hb2.size
  have rw := OwnD.of_own Orw
  clear Orw
  clear s0
  go_wp2_with fail
  refine (toIntS_any A0 n0 c0 z0 _ I0 (by omega)).mono ?_
  rintro e w3_ ⟨Ax0_, cx0_, rfl, Ox0_, hb3⟩
  replace I0 := I0.below hb3
  replace rw := rw.below hb3
  replace hW := belT hW hb3
  have hsz3 := Lib.hid hb3.size
  have x0_ := Own.mk' Ox0_
  clear Ox0_
  go_wp2_with fail
  refine (Hi.out Ax0_ cx0_ _ x0_.ints x0_.capw).mono ?_
  rintro e w4_ ⟨Arg, crg, rfl, Org, hb4⟩
  replace I0 := I0.below hb4
  replace rw := rw.below hb4
  replace x0_ := x0_.below hb4
  replace hW := belT hW hb4
  have hsz4 := Lib.hid hb4.size
  have rg := OwnD.of_own Org
  clear Org
  go_wp2_with fail
  refine (eqCipherS_any Arg Arw r0.length crg crw r0 _ rg.cips rw.cips).mono ?_
  rintro e w5_ ⟨rfl, hb5⟩
  replace I0 := I0.below hb5
  replace rw := rw.below hb5
  replace x0_ := x0_.below hb5
  replace rg := rg.below hb5
  replace hW := belT hW hb5
  have hsz5 := Lib.hid hb5.size
  go_wp2_with fail
  refine (toIntS_any A0 n0 c0 z0 _ I0 (by omega)).mono ?_
  rintro e w6_ ⟨Ay0_, cy0_, rfl, Oy0_, hb6⟩
  replace I0 := I0.below hb6
  replace rw := rw.below hb6
  replace x0_ := x0_.below hb6
  replace rg := rg.below hb6
  replace hW := belT hW hb6
  have hsz6 := Lib.hid hb6.size
  have y0_ := Own.mk' Oy0_
  clear Oy0_
  go_wp2_with fail
  refine (eqIntS_any Ax0_ Ay0_ n0 n0 cx0_ cy0_ z0 z0 _ x0_.ints y0_.ints).mono ?_
  rintro e w7_ ⟨rfl, hb7⟩
  replace I0 := I0.below hb7
  replace rw := rw.below hb7
  replace x0_ := x0_.below hb7
  replace rg := rg.below hb7
  replace y0_ := y0_.below hb7
  replace hW := belT hW hb7
  have hsz7 := Lib.hid hb7.size
  clear y0_
  go_wp2_with fail
  refine (markIntS_any Ax0_ n0 cx0_ _ _ _ _ _ x0_ (by omega) (by omega) (by omega)).mono ?_
  rintro e w8_ ⟨rfl, Mx0_, hg8⟩
  have hr8 := Lib.hid fun k (hk : (Value.slice Ax0_ n0 cx0_).ownBlock = some k) => And.intro (x0_.own.lt k hk).1 (x0_.lt k hk)
  replace I0 := I0.grown J0.out hg8 (fun k hk => by have := hr8.out k hk; have := hsz1.out; have := hsz2.out; have := hsz3.out; have := hsz4.out; have := hsz5.out; have := hsz6.out; have := hsz7.out; omega)
  replace rw := rw.grown hg8 (fun k hk => by have := hr8.out k hk; have := hsz1.out; have := hsz2.out; have := hsz3.out; have := hsz4.out; have := hsz5.out; have := hsz6.out; have := hsz7.out; omega)
  replace rg := rg.grown hg8 (fun k hk => by have := hr8.out k hk; have := hsz1.out; have := hsz2.out; have := hsz3.out; have := hsz4.out; have := hsz5.out; have := hsz6.out; have := hsz7.out; omega)
  replace hW := below_of_grown hW hg8 hW.size (fun k hk => by have := hr8.out k hk; have := hsz1.out; have := hsz2.out; have := hsz3.out; have := hsz4.out; have := hsz5.out; have := hsz6.out; have := hsz7.out; omega)
  replace x0_ := Mx0_
  clear Mx0_
  have hsz8 := Lib.hid hg8.size
  clear hg8 hr8
  clear x0_
  go_wp2_with fail
  refine (eqCipherS_any Arg Arw r0.length crg crw r0 _ rg.cips rw.cips).mono ?_
  rintro e w9_ ⟨rfl, hb9⟩
  replace I0 := I0.below hb9
  replace rw := rw.below hb9
  replace rg := rg.below hb9
  replace hW := belT hW hb9
  have hsz9 := Lib.hid hb9.size
  go_wp2_with fail
  refine (markCipherD_any Arg r0.length crg _ _ _ _ _ rg (by omega) (by omega) (by omega)).mono ?_
  rintro e w10_ ⟨rfl, Mrg, hg10⟩
  have hr10 := Lib.hid rg.blk
  replace I0 := I0.grown J0.out hg10 (fun k hk => by have := hr10.out k hk; have := hsz1.out; have := hsz2.out; have := hsz3.out; have := hsz4.out; have := hsz5.out; have := hsz6.out; have := hsz7.out; have := hsz8.out; have := hsz9.out; omega)
  replace rw := rw.grown hg10 (fun k hk => by have := hr10.out k hk; have := hsz1.out; have := hsz2.out; have := hsz3.out; have := hsz4.out; have := hsz5.out; have := hsz6.out; have := hsz7.out; have := hsz8.out; have := hsz9.out; omega)
  replace hW := below_of_grown hW hg10 hW.size (fun k hk => by have := hr10.out k hk; have := hsz1.out; have := hsz2.out; have := hsz3.out; have := hsz4.out; have := hsz5.out; have := hsz6.out; have := hsz7.out; have := hsz8.out; have := hsz9.out; omega)
  replace rg := Mrg
  clear Mrg
  have hsz10 := Lib.hid hg10.size
  clear hg10 hr10
  go_wp2_with fail
  refine (heldCipherS_any Arg r0.length crg _ _ rg.cips (by omega) (by omega) (by omega)).mono ?_
  rintro e w11_ ⟨rfl, hb11⟩
  replace I0 := I0.below hb11
  replace rw := rw.below hb11
  replace rg := rg.below hb11
  replace hW := belT hW hb11
  have hsz11 := Lib.hid hb11.size
  go_wp2_with fail
  refine (toIntS_any A0 n0 c0 z0 _ I0 (by omega)).mono ?_
  rintro e w12_ ⟨At0, ct0, rfl, Ot0, hb12⟩
  replace I0 := I0.below hb12
  replace rw := rw.below hb12
  replace rg := rg.below hb12
  replace hW := belT hW hb12
  have hsz12 := Lib.hid hb12.size
  have t0 := Own.mk' Ot0
  clear Ot0
  go_wp2_with fail
  refine (Hi.out At0 ct0 _ t0.ints t0.capw).mono ?_
  rintro e w13_ ⟨Arh, crh, rfl, Orh, hb13⟩
  replace I0 := I0.below hb13
  replace rw := rw.below hb13
  replace rg := rg.below hb13
  replace t0 := t0.below hb13
  replace hW := belT hW hb13
  have hsz13 := Lib.hid hb13.size
  have rh := OwnD.of_own Orh
  clear Orh
  clear t0
  go_wp2_with fail
  refine (eqCipherS_any Arh Arw r0.length crh crw r0 _ rh.cips rw.cips).mono ?_
  rintro e w14_ ⟨rfl, hb14⟩
  replace I0 := I0.below hb14
  replace rw := rw.below hb14
  replace rg := rg.below hb14
  replace rh := rh.below hb14
  replace hW := belT hW hb14
  have hsz14 := Lib.hid hb14.size
  clear rh
  clear rw
  go_wp2_with fail
  refine (heldCipherS_any Arg r0.length crg _ _ rg.cips (by omega) (by omega) (by omega)).mono ?_
  rintro e w15_ ⟨rfl, hb15⟩
  replace I0 := I0.below hb15
  replace rg := rg.below hb15
  replace hW := belT hW hb15
  have hsz15 := Lib.hid hb15.size
  go_wp2
  go_ret
  exact ⟨rfl, belT (by repeat (first | exact Below.refl _ _ | assumption | refine belA ?_ | refine belD ?_ | refine belN ?_ | refine belS ?_ (by simp) | refine belT ?_ (by assumption))) hW⟩

set_option maxRecDepth 100000 in
theorem lifted_FnExactDecodeCiphers (os : Os) (started : os.Started) (H : Type) (enc : TypeId × Value → H) :
    ReturnsInHanded {} Try.checked os 6 .any (Rows.fnExactDecodeCiphersSpec.pre6 enc Try.prog Try.f6 Rows.fnExactDecodeCiphersRow.domain false) (Rows.fnExactDecodeCiphersSpec.post enc Try.prog Try.f6 false true false false) := by
  refine returnsInHanded_of_change (C := Try.checked) own started (by kernel_rfl) Try.func6
    (ChangeSpec.witness6 (enc := enc) (C := Try.checked) false ⟨#[], #[.slice none 0 0], []⟩ 8 (by kernel_rfl) (by kernel_rfl) (by kernel_rfl) (by kernel_rfl)) ?_
  intro W base args ds gs before hval0 hW hcnd _
  have hval : ∀ (j : Nat) t v, Try.f6.params[j]? = some t → args[j]? = some v → Value.okWide Try.prog W .any base t v := hval0
  have hW' := hW
  obtain ⟨p, q, hA0, hV, rfl, hfz, hnd⟩ := hW
  have hA : DataW.TrodAll enc Try.prog W 0 (fun _ => true) true Try.f6.params.toList args.toList ds p := hA0
  rw [Try.params6] at hA hval
  obtain ⟨v0, vs0, d0, ds0, p0, q0, hargs, rfl, rfl, h0, r0⟩ := trodAll_cons hA
  obtain ⟨rfl, rfl, rfl⟩ := trodAll_nil r0
  obtain rfl : args = #[v0] := by cases args; simp_all
  obtain ⟨rfl, rfl⟩ := trodVars_none hV
  have k0 := h0
  have lt0 : ∀ x ∈ p0, x.block < W.heap.size := by obtain ⟨m, hm⟩ := k0; exact DataW.trod_lt m _ _ _ hm
  obtain ⟨a0, len0, cap0, rfl⟩ := okWide_slice Try.underlying24 (hval 0 24 v0 rfl rfl)
  obtain ⟨z0, w0⟩ : ∃ zs, IsRow .i64 W a0 len0 cap0 zs := by
    obtain ⟨fuel, hf⟩ := h0
    rcases open_ints Try.underlying24 Try.underlying3 (by kernel_rfl) hf with ⟨hcs, _⟩ | ⟨x, l, c, zs, hcs, _, hl, hm, hz, _, hcell, hwz⟩
    · simp [Value.cells] at hcs
      obtain ⟨rfl, rfl, rfl⟩ := hcs
      exact ⟨[], .inl ⟨rfl, rfl, rfl, rfl⟩⟩
    · simp [Value.cells] at hcs
      obtain ⟨rfl, rfl, rfl⟩ := hcs
      exact ⟨zs, .inr ⟨_, rfl, hl, hm, by simpa using hz, hcell, hwz⟩⟩
  clear hA0 hval0
  refine (walk_FnExactDecodeCiphers (w := W) a0 len0 cap0 z0 w0).mono fun e W' ⟨he, bel⟩ => ?_
  subst he
  exact ⟨_, rfl, _, _, _, [], _, [], hW', trodAll_mk1 (shut_bool Try.underlying4 _), (trodAll_cons_mk (Below.trod laidOut (by kernel_rfl) (of_decide_eq_true (by kernel_rfl)) k0 bel lt0) trodAll_mk0), rfl, bel.frame _, fun h => by cases h⟩

theorem over_FnExactDecodeCiphers : Rows.fnExactDecodeCiphersRow.holds Try.pinned (OpenSpec.ofChange Rows.fnExactDecodeCiphersSpec) :=
  OpenClaim.holds_of_wide 6 Try.f6 rfl rfl rfl rfl rfl rfl rfl ⟨rfl, rfl, rfl, rfl, rfl⟩ rfl rfl rfl rfl rfl (by kernel_rfl) Try.func6 (by kernel_rfl)
    (of_decide_eq_true (by kernel_rfl)) (by unfold Func.isWrapper; first | (rw [if_pos (by decide +kernel)]; kernel_rfl) | (rw [if_neg (by decide +kernel)]; exact ⟨rfl, rfl⟩))
    (fun os started H enc _ => lifted_FnExactDecodeCiphers os started H enc)

theorem proved_FnExactDecodeCiphers : Rows.FnExactDecodeCiphersSaid := over_FnExactDecodeCiphers
#print axioms proved_FnExactDecodeCiphers
end Go.Proofs.Yteeggmnkcgpfjaa
