/- The program's Interpolate returns what the reference's Interpolate returns, for all arguments: proved with no condition. -/
import Derived.Test.YteeggmnkcgpfjaaIt
import Derived.Test.YteeggmnkcgpfjaaLw
import Derived.Test.YteeggmnkcgpfjaaLm
namespace Go.Proofs.Yteeggmnkcgpfjaa
open Go.ChangeShapes Go.WideShapes Go.ChangeAt Go.RowKit Go.Joins
open Go.ChangeMaps (open_string shut_string)
set_option linter.unusedVariables false
set_option maxHeartbeats 800000 in
theorem walk_FnExactInterpolate (w : World) (x0 : Int) (w0 : (Lit.int .i64 x0).wf = true) (A1 : Option Addr) (n1 c1 : Nat) (zs1 : List Int) (w1 : IsRow .i64 w A1 n1 c1 zs1) (A2 : Option Addr) (n2 c2 : Nat) (zs2 : List Int) (w2 : IsRow .i64 w A2 n2 c2 zs2) :
    Calls Try.prog 10 #[.int .i64 x0, .slice A1 n1 c1, .slice A2 n2 c2] w fun e w' => e = .returned (.bool true) ∧ Below w.heap.size w w' := by
  clear w0
  have I1 := Ints.of_row w1
  clear w1
  generalize zs1.take n1 = z1 at I1
  have I2 := Ints.of_row w2
  clear w2
  generalize zs2.take n2 = z2 at I2
  by_cases big0 : 1048576 < n1
  · go_enter Try.func10, Try.ntmps10
    go_wp2
    go_ret
    exact ⟨rfl, (by repeat (first | exact Below.refl _ _ | assumption | refine belA ?_ | refine belD ?_ | refine belN ?_ | refine belS ?_ (by simp) | refine belT ?_ (by assumption)))⟩
  by_cases big1 : 1048576 < n2
  · go_enter Try.func10, Try.ntmps10
    go_wp2
    go_ret
    exact ⟨rfl, (by repeat (first | exact Below.refl _ _ | assumption | refine belA ?_ | refine belD ?_ | refine belN ?_ | refine belS ?_ (by simp) | refine belT ?_ (by assumption)))⟩
  have hs := fun (A1 : Option Addr) (c1 : Nat) (A2 : Option Addr) (c2 : Nat) (W : World) (h1 : Ints W A1 n1 z1) (h2 : Ints W A2 n2 z2) (k1 : n1 ≤ c1) (k2 : n2 ≤ c2) => sInterpolate_any x0 A1 n1 c1 z1 A2 n2 c2 z2 W h1 h2 k1 k2 
  have hi := fun (A1 : Option Addr) (c1 : Nat) (A2 : Option Addr) (c2 : Nat) (W : World) (h1 : Ints W A1 n1 z1) (h2 : Ints W A2 n2 z2) (k1 : n1 ≤ c1) (k2 : n2 ≤ c2) => iInterpolate_any x0 A1 n1 c1 z1 A2 n2 c2 z2 W h1 h2 k1 k2 
  have L0 : (itM x0 z1 z2).1.length ≤ 4000000000000000000 := by (have := itM_len x0 z1 z2; have := I1.len; omega)
  generalize (itM x0 z1 z2).1 = r0 at hs hi L0
  generalize (itM x0 z1 z2).2 = r1 at hs hi L0
  have Hs := Lib.hid hs
  have Hi := Lib.hid hi
  clear hs hi
  go_enter Try.func10, Try.ntmps10
  have J1 := Lib.hid (Ints.base I1)
  have J2 := Lib.hid (Ints.base I2)
  go_wp2_with fail
  refine (toIntS_any A1 n1 c1 z1 _ I1 (by omega)).mono ?_
  rintro e w1_ ⟨As1, cs1, rfl, Os1, hb1⟩
  replace I1 := I1.below hb1
  replace I2 := I2.below hb1
  have hW := hb1
  have hsz1 := Lib.hid hb1.size
  have s1 := Own.mk' Os1
  clear Os1
  go_wp2_with fail
  refine (toIntS_any A2 n2 c2 z2 _ I2 (by omega)).mono ?_
  rintro e w2_ ⟨As2, cs2, rfl, Os2, hb2⟩
  replace I1 := I1.below hb2
  replace I2 := I2.below hb2
  replace s1 := s1.below hb2
  replace hW := belT hW hb2
  have hsz2 := Lib.hid hb2.size
  have s2 := Own.mk' Os2
  clear Os2
  go_wp2_with fail
  refine (Hs.out As1 cs1 As2 cs2 _ s1.ints s2.ints s1.cap s2.cap).mono ?_
  rintro e w3_ ⟨Arw, crw, rfl, Orw, hb3⟩
  replace I1 := I1.below hb3
  replace I2 := I2.below hb3
  replace s1 := s1.below hb3
  replace s2 := s2.below hb3
  replace hW := belT hW hb3
  have hsz3 := Lib.hid hb3.size
  have rw := Own.mk' Orw
  clear Orw
  clear s1
  clear s2
  go_wp2_with fail
  refine (toIntS_any A1 n1 c1 z1 _ I1 (by omega)).mono ?_
  rintro e w4_ ⟨Ax1_, cx1_, rfl, Ox1_, hb4⟩
  replace I1 := I1.below hb4
  replace I2 := I2.below hb4
  replace rw := rw.below hb4
  replace hW := belT hW hb4
  have hsz4 := Lib.hid hb4.size
  have x1_ := Own.mk' Ox1_
  clear Ox1_
  go_wp2_with fail
  refine (toIntS_any A2 n2 c2 z2 _ I2 (by omega)).mono ?_
  rintro e w5_ ⟨Ax2_, cx2_, rfl, Ox2_, hb5⟩
  replace I1 := I1.below hb5
  replace I2 := I2.below hb5
  replace rw := rw.below hb5
  replace x1_ := x1_.below hb5
  replace hW := belT hW hb5
  have hsz5 := Lib.hid hb5.size
  have x2_ := Own.mk' Ox2_
  clear Ox2_
  go_wp2_with fail
  refine (Hi.out Ax1_ cx1_ Ax2_ cx2_ _ x1_.ints x2_.ints x1_.cap x2_.cap).mono ?_
  rintro e w6_ ⟨Arg, crg, rfl, Org, hb6⟩
  replace I1 := I1.below hb6
  replace I2 := I2.below hb6
  replace rw := rw.below hb6
  replace x1_ := x1_.below hb6
  replace x2_ := x2_.below hb6
  replace hW := belT hW hb6
  have hsz6 := Lib.hid hb6.size
  have rg := Own.mk' Org
  clear Org
  go_wp2_with fail
  refine (eqIntS_any Arg Arw _ _ crg crw r0 r0 _ rg.ints rw.ints).mono ?_
  rintro e w7_ ⟨rfl, hb7⟩
  replace I1 := I1.below hb7
  replace I2 := I2.below hb7
  replace rw := rw.below hb7
  replace x1_ := x1_.below hb7
  replace x2_ := x2_.below hb7
  replace rg := rg.below hb7
  replace hW := belT hW hb7
  have hsz7 := Lib.hid hb7.size
  go_wp2_with fail
  refine (toIntS_any A1 n1 c1 z1 _ I1 (by omega)).mono ?_
  rintro e w8_ ⟨Ay1_, cy1_, rfl, Oy1_, hb8⟩
  replace I1 := I1.below hb8
  replace I2 := I2.below hb8
  replace rw := rw.below hb8
  replace x1_ := x1_.below hb8
  replace x2_ := x2_.below hb8
  replace rg := rg.below hb8
  replace hW := belT hW hb8
  have hsz8 := Lib.hid hb8.size
  have y1_ := Own.mk' Oy1_
  clear Oy1_
  go_wp2_with fail
  refine (eqIntS_any Ax1_ Ay1_ n1 n1 cx1_ cy1_ z1 z1 _ x1_.ints y1_.ints).mono ?_
  rintro e w9_ ⟨rfl, hb9⟩
  replace I1 := I1.below hb9
  replace I2 := I2.below hb9
  replace rw := rw.below hb9
  replace x1_ := x1_.below hb9
  replace x2_ := x2_.below hb9
  replace rg := rg.below hb9
  replace y1_ := y1_.below hb9
  replace hW := belT hW hb9
  have hsz9 := Lib.hid hb9.size
  clear y1_
  go_wp2_with fail
  refine (toIntS_any A2 n2 c2 z2 _ I2 (by omega)).mono ?_
  rintro e w10_ ⟨Ay2_, cy2_, rfl, Oy2_, hb10⟩
  replace I1 := I1.below hb10
  replace I2 := I2.below hb10
  replace rw := rw.below hb10
  replace x1_ := x1_.below hb10
  replace x2_ := x2_.below hb10
  replace rg := rg.below hb10
  replace hW := belT hW hb10
  have hsz10 := Lib.hid hb10.size
  have y2_ := Own.mk' Oy2_
  clear Oy2_
  go_wp2_with fail
  refine (eqIntS_any Ax2_ Ay2_ n2 n2 cx2_ cy2_ z2 z2 _ x2_.ints y2_.ints).mono ?_
  rintro e w11_ ⟨rfl, hb11⟩
  replace I1 := I1.below hb11
  replace I2 := I2.below hb11
  replace rw := rw.below hb11
  replace x1_ := x1_.below hb11
  replace x2_ := x2_.below hb11
  replace rg := rg.below hb11
  replace y2_ := y2_.below hb11
  replace hW := belT hW hb11
  have hsz11 := Lib.hid hb11.size
  clear y2_
  go_wp2_with fail
  refine (markIntS_any Ax1_ n1 cx1_ _ _ _ _ _ x1_ (by omega) (by omega) (by omega)).mono ?_
  rintro e w12_ ⟨rfl, Mx1_, hg12⟩
  have hr12 := Lib.hid fun k (hk : (Value.slice Ax1_ n1 cx1_).ownBlock = some k) => And.intro (x1_.own.lt k hk).1 (x1_.lt k hk)
  replace I1 := I1.grown J1.out hg12 (fun k hk => by have := hr12.out k hk; have := hsz1.out; have := hsz2.out; have := hsz3.out; have := hsz4.out; have := hsz5.out; have := hsz6.out; have := hsz7.out; have := hsz8.out; have := hsz9.out; have := hsz10.out; have := hsz11.out; omega)
  replace I2 := I2.grown J2.out hg12 (fun k hk => by have := hr12.out k hk; have := hsz1.out; have := hsz2.out; have := hsz3.out; have := hsz4.out; have := hsz5.out; have := hsz6.out; have := hsz7.out; have := hsz8.out; have := hsz9.out; have := hsz10.out; have := hsz11.out; omega)
  replace rw := rw.grown hg12 (fun k hk => by have := hr12.out k hk; have := hsz1.out; have := hsz2.out; have := hsz3.out; have := hsz4.out; have := hsz5.out; have := hsz6.out; have := hsz7.out; have := hsz8.out; have := hsz9.out; have := hsz10.out; have := hsz11.out; omega)
  replace x2_ := x2_.grown hg12 (fun k hk => by have := hr12.out k hk; have := hsz1.out; have := hsz2.out; have := hsz3.out; have := hsz4.out; have := hsz5.out; have := hsz6.out; have := hsz7.out; have := hsz8.out; have := hsz9.out; have := hsz10.out; have := hsz11.out; omega)
  replace rg := rg.grown hg12 (fun k hk => by have := hr12.out k hk; have := hsz1.out; have := hsz2.out; have := hsz3.out; have := hsz4.out; have := hsz5.out; have := hsz6.out; have := hsz7.out; have := hsz8.out; have := hsz9.out; have := hsz10.out; have := hsz11.out; omega)
  replace hW := below_of_grown hW hg12 hW.size (fun k hk => by have := hr12.out k hk; have := hsz1.out; have := hsz2.out; have := hsz3.out; have := hsz4.out; have := hsz5.out; have := hsz6.out; have := hsz7.out; have := hsz8.out; have := hsz9.out; have := hsz10.out; have := hsz11.out; omega)
  replace x1_ := Mx1_
  clear Mx1_
  have hsz12 := Lib.hid hg12.size
  clear hg12 hr12
  clear x1_
  go_wp2_with fail
  refine (markIntS_any Ax2_ n2 cx2_ _ _ _ _ _ x2_ (by omega) (by omega) (by omega)).mono ?_
  rintro e w13_ ⟨rfl, Mx2_, hg13⟩
  have hr13 := Lib.hid fun k (hk : (Value.slice Ax2_ n2 cx2_).ownBlock = some k) => And.intro (x2_.own.lt k hk).1 (x2_.lt k hk)
  replace I1 := I1.grown J1.out hg13 (fun k hk => by have := hr13.out k hk; have := hsz1.out; have := hsz2.out; have := hsz3.out; have := hsz4.out; have := hsz5.out; have := hsz6.out; have := hsz7.out; have := hsz8.out; have := hsz9.out; have := hsz10.out; have := hsz11.out; have := hsz12.out; omega)
  replace I2 := I2.grown J2.out hg13 (fun k hk => by have := hr13.out k hk; have := hsz1.out; have := hsz2.out; have := hsz3.out; have := hsz4.out; have := hsz5.out; have := hsz6.out; have := hsz7.out; have := hsz8.out; have := hsz9.out; have := hsz10.out; have := hsz11.out; have := hsz12.out; omega)
  replace rw := rw.grown hg13 (fun k hk => by have := hr13.out k hk; have := hsz1.out; have := hsz2.out; have := hsz3.out; have := hsz4.out; have := hsz5.out; have := hsz6.out; have := hsz7.out; have := hsz8.out; have := hsz9.out; have := hsz10.out; have := hsz11.out; have := hsz12.out; omega)
  replace rg := rg.grown hg13 (fun k hk => by have := hr13.out k hk; have := hsz1.out; have := hsz2.out; have := hsz3.out; have := hsz4.out; have := hsz5.out; have := hsz6.out; have := hsz7.out; have := hsz8.out; have := hsz9.out; have := hsz10.out; have := hsz11.out; have := hsz12.out; omega)
  replace hW := below_of_grown hW hg13 hW.size (fun k hk => by have := hr13.out k hk; have := hsz1.out; have := hsz2.out; have := hsz3.out; have := hsz4.out; have := hsz5.out; have := hsz6.out; have := hsz7.out; have := hsz8.out; have := hsz9.out; have := hsz10.out; have := hsz11.out; have := hsz12.out; omega)
  replace x2_ := Mx2_
  clear Mx2_
  have hsz13 := Lib.hid hg13.size
  clear hg13 hr13
  clear x2_
  go_wp2_with fail
  refine (eqIntS_any Arg Arw _ _ crg crw r0 r0 _ rg.ints rw.ints).mono ?_
  rintro e w14_ ⟨rfl, hb14⟩
  replace I1 := I1.below hb14
  replace I2 := I2.below hb14
  replace rw := rw.below hb14
  replace rg := rg.below hb14
  replace hW := belT hW hb14
  have hsz14 := Lib.hid hb14.size
  go_wp2_with fail
  refine (markIntS_any Arg r0.length crg _ _ _ _ _ rg (by omega) (by omega) (by omega)).mono ?_
  rintro e w15_ ⟨rfl, Mrg, hg15⟩
  have hr15 := Lib.hid fun k (hk : (Value.slice Arg r0.length crg).ownBlock = some k) => And.intro (rg.own.lt k hk).1 (rg.lt k hk)
  replace I1 := I1.grown J1.out hg15 (fun k hk => by have := hr15.out k hk; have := hsz1.out; have := hsz2.out; have := hsz3.out; have := hsz4.out; have := hsz5.out; have := hsz6.out; have := hsz7.out; have := hsz8.out; have := hsz9.out; have := hsz10.out; have := hsz11.out; have := hsz12.out; have := hsz13.out; have := hsz14.out; omega)
  replace I2 := I2.grown J2.out hg15 (fun k hk => by have := hr15.out k hk; have := hsz1.out; have := hsz2.out; have := hsz3.out; have := hsz4.out; have := hsz5.out; have := hsz6.out; have := hsz7.out; have := hsz8.out; have := hsz9.out; have := hsz10.out; have := hsz11.out; have := hsz12.out; have := hsz13.out; have := hsz14.out; omega)
  replace rw := rw.grown hg15 (fun k hk => by have := hr15.out k hk; have := hsz1.out; have := hsz2.out; have := hsz3.out; have := hsz4.out; have := hsz5.out; have := hsz6.out; have := hsz7.out; have := hsz8.out; have := hsz9.out; have := hsz10.out; have := hsz11.out; have := hsz12.out; have := hsz13.out; have := hsz14.out; omega)
  replace hW := below_of_grown hW hg15 hW.size (fun k hk => by have := hr15.out k hk; have := hsz1.out; have := hsz2.out; have := hsz3.out; have := hsz4.out; have := hsz5.out; have := hsz6.out; have := hsz7.out; have := hsz8.out; have := hsz9.out; have := hsz10.out; have := hsz11.out; have := hsz12.out; have := hsz13.out; have := hsz14.out; omega)
  replace rg := Mrg
  clear Mrg
  have hsz15 := Lib.hid hg15.size
  clear hg15 hr15
  go_wp2_with fail
  refine (heldIntS_any Arg r0.length crg _ _ rg.ints (by omega) (by omega) (by omega)).mono ?_
  rintro e w16_ ⟨rfl, hb16⟩
  replace I1 := I1.below hb16
  replace I2 := I2.below hb16
  replace rw := rw.below hb16
  replace rg := rg.below hb16
  replace hW := belT hW hb16
  have hsz16 := Lib.hid hb16.size
  go_wp2_with fail
  refine (toIntS_any A1 n1 c1 z1 _ I1 (by omega)).mono ?_
  rintro e w17_ ⟨At1, ct1, rfl, Ot1, hb17⟩
  replace I1 := I1.below hb17
  replace I2 := I2.below hb17
  replace rw := rw.below hb17
  replace rg := rg.below hb17
  replace hW := belT hW hb17
  have hsz17 := Lib.hid hb17.size
  have t1 := Own.mk' Ot1
  clear Ot1
  go_wp2_with fail
  refine (toIntS_any A2 n2 c2 z2 _ I2 (by omega)).mono ?_
  rintro e w18_ ⟨At2, ct2, rfl, Ot2, hb18⟩
  replace I1 := I1.below hb18
  replace I2 := I2.below hb18
  replace rw := rw.below hb18
  replace rg := rg.below hb18
  replace t1 := t1.below hb18
  replace hW := belT hW hb18
  have hsz18 := Lib.hid hb18.size
  have t2 := Own.mk' Ot2
  clear Ot2
  go_wp2_with fail
  refine (Hi.out At1 ct1 At2 ct2 _ t1.ints t2.ints t1.cap t2.cap).mono ?_
  rintro e w19_ ⟨Arh, crh, rfl, Orh, hb19⟩
  replace I1 := I1.below hb19
  replace I2 := I2.below hb19
  replace rw := rw.below hb19
  replace rg := rg.below hb19
  replace t1 := t1.below hb19
  replace t2 := t2.below hb19
  replace hW := belT hW hb19
  have hsz19 := Lib.hid hb19.size
  have rh := Own.mk' Orh
  clear Orh
  clear t1
  clear t2
  go_wp2_with fail
  refine (eqIntS_any Arh Arw _ _ crh crw r0 r0 _ rh.ints rw.ints).mono ?_
  rintro e w20_ ⟨rfl, hb20⟩
  replace I1 := I1.below hb20
  replace I2 := I2.below hb20
  replace rw := rw.below hb20
  replace rg := rg.below hb20
  replace rh := rh.below hb20
  replace hW := belT hW hb20
  have hsz20 := Lib.hid hb20.size
  clear rh
  clear rw
  go_wp2_with fail
  refine (heldIntS_any Arg r0.length crg _ _ rg.ints (by omega) (by omega) (by omega)).mono ?_
  rintro e w21_ ⟨rfl, hb21⟩
  replace I1 := I1.below hb21
  replace I2 := I2.below hb21
  replace rg := rg.below hb21
  replace hW := belT hW hb21
  have hsz21 := Lib.hid hb21.size
  go_wp2
  go_ret
  exact ⟨rfl, belT (by repeat (first | exact Below.refl _ _ | assumption | refine belA ?_ | refine belD ?_ | refine belN ?_ | refine belS ?_ (by simp) | refine belT ?_ (by assumption))) hW⟩

set_option maxRecDepth 100000 in
theorem lifted_FnExactInterpolate (os : Os) (started : os.Started) (H : Type) (enc : TypeId × Value → H) :
    ReturnsInHanded {} Try.checked os 10 .any (Rows.fnExactInterpolateSpec.pre6 enc Try.prog Try.f10 Rows.fnExactInterpolateRow.domain false) (Rows.fnExactInterpolateSpec.post enc Try.prog Try.f10 false true false false) := by
  refine returnsInHanded_of_change (C := Try.checked) own started (by kernel_rfl) Try.func10
    (ChangeSpec.witness6 (enc := enc) (C := Try.checked) false ⟨#[], #[.int .i64 0, .slice none 0 0, .slice none 0 0], []⟩ 8 (by kernel_rfl) (by kernel_rfl) (by kernel_rfl) (by kernel_rfl)) ?_
  intro W base args ds gs before hval0 hW hcnd _
  have hval : ∀ (j : Nat) t v, Try.f10.params[j]? = some t → args[j]? = some v → Value.okWide Try.prog W .any base t v := hval0
  have hW' := hW
  obtain ⟨p, q, hA0, hV, rfl, hfz, hnd⟩ := hW
  have hA : DataW.TrodAll enc Try.prog W 0 (fun _ => true) true Try.f10.params.toList args.toList ds p := hA0
  rw [Try.params10] at hA hval
  obtain ⟨v0, vs0, d0, ds0, p0, q0, hargs, rfl, rfl, h0, r0⟩ := trodAll_cons hA
  obtain ⟨v1, vs1, d1, ds1, p1, q1, rfl, rfl, rfl, h1, r1⟩ := trodAll_cons r0
  obtain ⟨v2, vs2, d2, ds2, p2, q2, rfl, rfl, rfl, h2, r2⟩ := trodAll_cons r1
  obtain ⟨rfl, rfl, rfl⟩ := trodAll_nil r2
  obtain rfl : args = #[v0, v1, v2] := by cases args; simp_all
  obtain ⟨rfl, rfl⟩ := trodVars_none hV
  have k0 := h0
  have lt0 : ∀ x ∈ p0, x.block < W.heap.size := by obtain ⟨m, hm⟩ := k0; exact DataW.trod_lt m _ _ _ hm
  obtain ⟨a0, rfl, rfl, rfl, w0⟩ := open_int Try.underlying3 (hval 0 3 v0 rfl rfl) h0
  have k1 := h1
  have lt1 : ∀ x ∈ p1, x.block < W.heap.size := by obtain ⟨m, hm⟩ := k1; exact DataW.trod_lt m _ _ _ hm
  obtain ⟨a1, len1, cap1, rfl⟩ := okWide_slice Try.underlying24 (hval 1 24 v1 rfl rfl)
  obtain ⟨z1, w1⟩ : ∃ zs, IsRow .i64 W a1 len1 cap1 zs := by
    obtain ⟨fuel, hf⟩ := h1
    rcases open_ints Try.underlying24 Try.underlying3 (by kernel_rfl) hf with ⟨hcs, _⟩ | ⟨x, l, c, zs, hcs, _, hl, hm, hz, _, hcell, hwz⟩
    · simp [Value.cells] at hcs
      obtain ⟨rfl, rfl, rfl⟩ := hcs
      exact ⟨[], .inl ⟨rfl, rfl, rfl, rfl⟩⟩
    · simp [Value.cells] at hcs
      obtain ⟨rfl, rfl, rfl⟩ := hcs
      exact ⟨zs, .inr ⟨_, rfl, hl, hm, by simpa using hz, hcell, hwz⟩⟩
  have k2 := h2
  have lt2 : ∀ x ∈ p2, x.block < W.heap.size := by obtain ⟨m, hm⟩ := k2; exact DataW.trod_lt m _ _ _ hm
  obtain ⟨a2, len2, cap2, rfl⟩ := okWide_slice Try.underlying24 (hval 2 24 v2 rfl rfl)
  obtain ⟨z2, w2⟩ : ∃ zs, IsRow .i64 W a2 len2 cap2 zs := by
    obtain ⟨fuel, hf⟩ := h2
    rcases open_ints Try.underlying24 Try.underlying3 (by kernel_rfl) hf with ⟨hcs, _⟩ | ⟨x, l, c, zs, hcs, _, hl, hm, hz, _, hcell, hwz⟩
    · simp [Value.cells] at hcs
      obtain ⟨rfl, rfl, rfl⟩ := hcs
      exact ⟨[], .inl ⟨rfl, rfl, rfl, rfl⟩⟩
    · simp [Value.cells] at hcs
      obtain ⟨rfl, rfl, rfl⟩ := hcs
      exact ⟨zs, .inr ⟨_, rfl, hl, hm, by simpa using hz, hcell, hwz⟩⟩
  clear hA0 hval0
  refine (walk_FnExactInterpolate (w := W) a0 w0 a1 len1 cap1 z1 w1 a2 len2 cap2 z2 w2).mono fun e W' ⟨he, bel⟩ => ?_
  subst he
  exact ⟨_, rfl, _, _, _, [], _, [], hW', trodAll_mk1 (shut_bool Try.underlying4 _), (trodAll_cons_mk (Below.trod laidOut (by kernel_rfl) (of_decide_eq_true (by kernel_rfl)) k0 bel lt0) (trodAll_cons_mk (Below.trod laidOut (by kernel_rfl) (of_decide_eq_true (by kernel_rfl)) k1 bel lt1) (trodAll_cons_mk (Below.trod laidOut (by kernel_rfl) (of_decide_eq_true (by kernel_rfl)) k2 bel lt2) trodAll_mk0))), rfl, bel.frame _, fun h => by cases h⟩

theorem over_FnExactInterpolate : Rows.fnExactInterpolateRow.holds Try.pinned (OpenSpec.ofChange Rows.fnExactInterpolateSpec) :=
  OpenClaim.holds_of_wide 10 Try.f10 rfl rfl rfl rfl rfl rfl rfl ⟨rfl, rfl, rfl, rfl, rfl⟩ rfl rfl rfl rfl rfl (by kernel_rfl) Try.func10 (by kernel_rfl)
    (of_decide_eq_true (by kernel_rfl)) (by unfold Func.isWrapper; first | (rw [if_pos (by decide +kernel)]; kernel_rfl) | (rw [if_neg (by decide +kernel)]; exact ⟨rfl, rfl⟩))
    (fun os started H enc _ => lifted_FnExactInterpolate os started H enc)

theorem proved_FnExactInterpolate : Rows.FnExactInterpolateSaid := over_FnExactInterpolate
#print axioms proved_FnExactInterpolate
end Go.Proofs.Yteeggmnkcgpfjaa
