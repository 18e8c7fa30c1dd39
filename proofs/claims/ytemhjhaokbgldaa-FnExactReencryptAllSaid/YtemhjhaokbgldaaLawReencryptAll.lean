/- The program's ReencryptAll returns what the reference's ReencryptAll returns, for all arguments: proved with no condition. -/
import Derived.Test.YtemhjhaokbgldaaRa
import Derived.Test.YtemhjhaokbgldaaCn
import Derived.Test.YtemhjhaokbgldaaClF
import Derived.Test.YtemhjhaokbgldaaLw
import Derived.Test.YtemhjhaokbgldaaLm
namespace Go.Proofs.Ytemhjhaokbgldaa
open Go.ChangeShapes Go.WideShapes Go.ChangeAt Go.RowKit Go.Joins
open Go.ChangeMaps (open_string shut_string)
set_option linter.unusedVariables false
set_option maxHeartbeats 800000 in
theorem walk_FnExactReencryptAll (w : World) (p0 q0 g0 : Int) (w0a : (Lit.int .i64 p0).wf = true) (w0b : (Lit.int .i64 q0).wf = true) (w0c : (Lit.int .i64 g0).wf = true) (x1 : Int) (w1 : (Lit.int .i64 x1).wf = true) (A2 : Option Addr) (n2 c2 : Nat) (z2 : List (Int × Int)) (I2 : Cips w A2 n2 z2) (A3 : Option Addr) (n3 c3 : Nat) (zs3 : List Int) (w3 : IsRow .i64 w A3 n3 c3 zs3) :
    Calls Try.prog 11 #[.agg #[.int .i64 p0, .int .i64 q0, .int .i64 g0], .int .i64 x1, .slice A2 n2 c2, .slice A3 n3 c3] w fun e w' => e = .returned (.bool true) ∧ Below w.heap.size w w' := by
  clear w0a w0b w0c w1
  have hle2 := I2.le
  have I3 := Ints.of_row w3
  clear w3
  generalize zs3.take n3 = z3 at I3
  by_cases big0 : 1048576 < n3
  · go_enter Try.func11, Try.ntmps11
    go_wp2
    go_ret
    exact ⟨rfl, (by repeat (first | exact Below.refl _ _ | assumption | refine belA ?_ | refine belD ?_ | refine belN ?_ | refine belS ?_ (by simp) | refine belT ?_ (by assumption)))⟩
  by_cases big1 : 1048576 < n2
  · go_enter Try.func11, Try.ntmps11
    go_wp2_with fail
    refine (szCipherS_any A2 n2 c2 1048576 _ hle2 (by omega) (by omega)).mono ?_
    rintro e w' ⟨rfl, rfl⟩
    rw [if_neg (by omega)]
    go_wp2
    go_ret
    exact ⟨rfl, (by repeat (first | exact Below.refl _ _ | assumption | refine belA ?_ | refine belD ?_ | refine belN ?_ | refine belS ?_ (by simp) | refine belT ?_ (by assumption)))⟩
  have hs := fun (A2 : Option Addr) (c2 : Nat) (A3 : Option Addr) (c3 : Nat) (W : World) (h2 : Cips W A2 n2 z2) (h3 : Ints W A3 n3 z3) => sReencryptAll_any p0 q0 g0 x1 A2 n2 c2 z2 A3 n3 c3 z3 W h2 h3 
  have hi := fun (A2 : Option Addr) (c2 : Nat) (A3 : Option Addr) (c3 : Nat) (W : World) (h2 : Cips W A2 n2 z2) (h3 : Ints W A3 n3 z3) => iReencryptAll_any p0 q0 g0 x1 A2 n2 c2 z2 A3 n3 c3 z3 W h2 h3 
  have L0 : (raM p0 q0 g0 x1 n2 n3 z2 z3).1.length ≤ 1000000000000000000 := by (have := raM_len p0 q0 g0 x1 n2 n3 z2 z3; omega)
  generalize (raM p0 q0 g0 x1 n2 n3 z2 z3).1 = r0 at hs hi L0
  generalize (raM p0 q0 g0 x1 n2 n3 z2 z3).2 = r1 at hs hi L0
  have Hs := Lib.hid hs
  have Hi := Lib.hid hi
  clear hs hi
  go_enter Try.func11, Try.ntmps11
  have J2 := Lib.hid (Cips.base I2)
  have J3 := Lib.hid (Ints.base I3)
  go_wp2_with fail
  refine (szCipherS_any A2 n2 c2 1048576 _ hle2 (by omega) (by omega)).mono ?_
  rintro e w' ⟨rfl, rfl⟩
  rw [if_pos (by omega)]
  go_wp2_with fail
  refine (toGroup_any _ _ _ _).mono ?_
  rintro e w1_ ⟨rfl, hb1⟩
  replace I2 := I2.below (belT (by repeat (first | exact Below.refl _ _ | assumption | refine belA ?_ | refine belD ?_ | refine belN ?_ | refine belS ?_ (by simp) | refine belT ?_ (by assumption))) hb1)
  replace I3 := I3.below (belT (by repeat (first | exact Below.refl _ _ | assumption | refine belA ?_ | refine belD ?_ | refine belN ?_ | refine belS ?_ (by simp) | refine belT ?_ (by assumption))) hb1)
  have hW := hb1
  have hsz0 := Lib.hid (show w.heap.size ≤ w1_.heap.size from by have := hb1.size; simp at this; omega)
  have hsz1 := Lib.hid hb1.size
  obtain ⟨hc, hf⟩ := bcell hW
  go_wp2_with fail
  refine (toCipherS_any A2 n2 c2 z2 _ (I2.below (by repeat (first | exact Below.refl _ _ | assumption | refine belA ?_ | refine belD ?_ | refine belN ?_ | refine belS ?_ (by simp) | refine belT ?_ (by assumption)))) (by omega)).mono ?_
  rintro e w2_ ⟨As2, cs2, rfl, s2, hb2⟩
  replace I2 := I2.below hb2
  replace I3 := I3.below hb2
  replace hW := belT hW hb2
  have hsz2 := Lib.hid hb2.size
  clear hc hf
  obtain ⟨hc, hf⟩ := bcell hW
  go_wp2_with fail
  refine (toIntS_any A3 n3 c3 z3 _ I3 (by omega)).mono ?_
  rintro e w3_ ⟨As3, cs3, rfl, Os3, hb3⟩
  replace I2 := I2.below hb3
  replace I3 := I3.below hb3
  replace s2 := s2.below hb3
  replace hW := belT hW hb3
  have hsz3 := Lib.hid hb3.size
  clear hc hf
  obtain ⟨hc, hf⟩ := bcell hW
  have s3 := Own.mk' Os3
  clear Os3
  go_wp2_with fail
  refine (Hs.out As2 cs2 As3 cs3 _ s2 s3.ints).mono ?_
  rintro e w4_ ⟨Arw, crw, rfl, Orw, hb4⟩
  replace I2 := I2.below hb4
  replace I3 := I3.below hb4
  replace s2 := s2.below hb4
  replace s3 := s3.below hb4
  replace hW := belT hW hb4
  have hsz4 := Lib.hid hb4.size
  clear hc hf
  obtain ⟨hc, hf⟩ := bcell hW
  have rw := OwnD.of_own Orw
  clear Orw
  clear s2
  clear s3
  go_wp2_with fail
  refine (toCipherS_own A2 n2 c2 z2 _ (I2.below (by repeat (first | exact Below.refl _ _ | assumption | refine belA ?_ | refine belD ?_ | refine belN ?_ | refine belS ?_ (by simp) | refine belT ?_ (by assumption)))) (by omega)).mono ?_
  rintro e w5_ ⟨Bx2_, rfl, x2_, hb5⟩
  replace I2 := I2.below hb5
  replace I3 := I3.below hb5
  replace rw := rw.below hb5
  replace hW := belT hW hb5
  have hsz5 := Lib.hid hb5.size
  clear hc hf
  obtain ⟨hc, hf⟩ := bcell hW
  go_wp2_with fail
  refine (toIntS_any A3 n3 c3 z3 _ I3 (by omega)).mono ?_
  rintro e w6_ ⟨Ax3_, cx3_, rfl, Ox3_, hb6⟩
  replace I2 := I2.below hb6
  replace I3 := I3.below hb6
  replace rw := rw.below hb6
  replace x2_ := x2_.below hb6
  replace hW := belT hW hb6
  have hsz6 := Lib.hid hb6.size
  clear hc hf
  obtain ⟨hc, hf⟩ := bcell hW
  have x3_ := Own.mk' Ox3_
  clear Ox3_
  go_wp2_with fail
  refine (toGroup_any _ _ _ _).mono ?_
  rintro e w7_ ⟨rfl, hb7⟩
  replace I2 := I2.below hb7
  replace I3 := I3.below hb7
  replace rw := rw.below hb7
  replace x2_ := x2_.below hb7
  replace x3_ := x3_.below hb7
  replace hW := belT hW hb7
  have hsz7 := Lib.hid hb7.size
  clear hc hf
  obtain ⟨hc, hf⟩ := bcell hW
  go_wp2_with fail
  refine (Hi.out (some ⟨Bx2_, 0, none⟩) n2 Ax3_ cx3_ _ x2_.cips x3_.ints).mono ?_
  rintro e w8_ ⟨Arg, crg, rfl, Org, hb8⟩
  replace I2 := I2.below hb8
  replace I3 := I3.below hb8
  replace rw := rw.below hb8
  replace x2_ := x2_.below hb8
  replace x3_ := x3_.below hb8
  replace hW := belT hW hb8
  have hsz8 := Lib.hid hb8.size
  clear hc hf
  obtain ⟨hc, hf⟩ := bcell hW
  have rg := OwnD.of_own Org
  clear Org
  go_wp2_with fail
  refine (eqCipherS_any Arg Arw r0.length crg crw r0 _ rg.cips rw.cips).mono ?_
  rintro e w9_ ⟨rfl, hb9⟩
  replace I2 := I2.below hb9
  replace I3 := I3.below hb9
  replace rw := rw.below hb9
  replace x2_ := x2_.below hb9
  replace x3_ := x3_.below hb9
  replace rg := rg.below hb9
  replace hW := belT hW hb9
  have hsz9 := Lib.hid hb9.size
  clear hc hf
  obtain ⟨hc, hf⟩ := bcell hW
  go_wp2_with fail
  refine (toCipherS_any A2 n2 c2 z2 _ (I2.below (by repeat (first | exact Below.refl _ _ | assumption | refine belA ?_ | refine belD ?_ | refine belN ?_ | refine belS ?_ (by simp) | refine belT ?_ (by assumption)))) (by omega)).mono ?_
  rintro e w10_ ⟨Ay2_, cy2_, rfl, y2_, hb10⟩
  replace I2 := I2.below hb10
  replace I3 := I3.below hb10
  replace rw := rw.below hb10
  replace x2_ := x2_.below hb10
  replace x3_ := x3_.below hb10
  replace rg := rg.below hb10
  replace hW := belT hW hb10
  have hsz10 := Lib.hid hb10.size
  clear hc hf
  obtain ⟨hc, hf⟩ := bcell hW
  go_wp2_with fail
  refine (eqCipherS_any (some ⟨Bx2_, 0, none⟩) Ay2_ n2 n2 cy2_ z2 _ x2_.cips y2_).mono ?_
  rintro e w11_ ⟨rfl, hb11⟩
  replace I2 := I2.below hb11
  replace I3 := I3.below hb11
  replace rw := rw.below hb11
  replace x2_ := x2_.below hb11
  replace x3_ := x3_.below hb11
  replace rg := rg.below hb11
  replace y2_ := y2_.below hb11
  replace hW := belT hW hb11
  have hsz11 := Lib.hid hb11.size
  clear hc hf
  obtain ⟨hc, hf⟩ := bcell hW
  clear y2_
  go_wp2_with fail
  refine (toIntS_any A3 n3 c3 z3 _ I3 (by omega)).mono ?_
  rintro e w12_ ⟨Ay3_, cy3_, rfl, Oy3_, hb12⟩
  replace I2 := I2.below hb12
  replace I3 := I3.below hb12
  replace rw := rw.below hb12
  replace x2_ := x2_.below hb12
  replace x3_ := x3_.below hb12
  replace rg := rg.below hb12
  replace hW := belT hW hb12
  have hsz12 := Lib.hid hb12.size
  clear hc hf
  obtain ⟨hc, hf⟩ := bcell hW
  have y3_ := Own.mk' Oy3_
  clear Oy3_
  go_wp2_with fail
  refine (eqIntS_any Ax3_ Ay3_ n3 n3 cx3_ cy3_ z3 z3 _ x3_.ints y3_.ints).mono ?_
  rintro e w13_ ⟨rfl, hb13⟩
  replace I2 := I2.below hb13
  replace I3 := I3.below hb13
  replace rw := rw.below hb13
  replace x2_ := x2_.below hb13
  replace x3_ := x3_.below hb13
  replace rg := rg.below hb13
  replace y3_ := y3_.below hb13
  replace hW := belT hW hb13
  have hsz13 := Lib.hid hb13.size
  clear hc hf
  obtain ⟨hc, hf⟩ := bcell hW
  clear y3_
  go_wp2_with fail
  refine (markCipherS_any Bx2_ n2 _ _ _ x2_.row (by omega) (by omega) (by omega)).mono ?_
  rintro e w14_ ⟨rfl, hg14⟩
  have hr14 := Lib.hid x2_.rowk
  replace I2 := I2.grown J2.out hg14 (fun k hk => by have := hr14.out k hk; have := hsz0.out; have := hsz1.out; have := hsz2.out; have := hsz3.out; have := hsz4.out; have := hsz5.out; have := hsz6.out; have := hsz7.out; have := hsz8.out; have := hsz9.out; have := hsz10.out; have := hsz11.out; have := hsz12.out; have := hsz13.out; omega)
  replace I3 := I3.grown J3.out hg14 (fun k hk => by have := hr14.out k hk; have := hsz0.out; have := hsz1.out; have := hsz2.out; have := hsz3.out; have := hsz4.out; have := hsz5.out; have := hsz6.out; have := hsz7.out; have := hsz8.out; have := hsz9.out; have := hsz10.out; have := hsz11.out; have := hsz12.out; have := hsz13.out; omega)
  replace rw := rw.grown hg14 (fun k hk => by have := hr14.out k hk; have := hsz0.out; have := hsz1.out; have := hsz2.out; have := hsz3.out; have := hsz4.out; have := hsz5.out; have := hsz6.out; have := hsz7.out; have := hsz8.out; have := hsz9.out; have := hsz10.out; have := hsz11.out; have := hsz12.out; have := hsz13.out; omega)
  replace x3_ := x3_.grown hg14 (fun k hk => by have := hr14.out k hk; have := hsz0.out; have := hsz1.out; have := hsz2.out; have := hsz3.out; have := hsz4.out; have := hsz5.out; have := hsz6.out; have := hsz7.out; have := hsz8.out; have := hsz9.out; have := hsz10.out; have := hsz11.out; have := hsz12.out; have := hsz13.out; omega)
  replace rg := rg.grown hg14 (fun k hk => by have := hr14.out k hk; have := hsz0.out; have := hsz1.out; have := hsz2.out; have := hsz3.out; have := hsz4.out; have := hsz5.out; have := hsz6.out; have := hsz7.out; have := hsz8.out; have := hsz9.out; have := hsz10.out; have := hsz11.out; have := hsz12.out; have := hsz13.out; omega)
  replace hW := below_of_grown hW hg14 hW.size (fun k hk => by have := hr14.out k hk; have := hsz0.out; have := hsz1.out; have := hsz2.out; have := hsz3.out; have := hsz4.out; have := hsz5.out; have := hsz6.out; have := hsz7.out; have := hsz8.out; have := hsz9.out; have := hsz10.out; have := hsz11.out; have := hsz12.out; have := hsz13.out; omega)
  have hsz14 := Lib.hid hg14.size
  clear hg14 hr14
  clear hc hf
  obtain ⟨hc, hf⟩ := bcell hW
  clear x2_
  go_wp2_with fail
  refine (markIntS_any Ax3_ n3 cx3_ _ _ _ _ _ x3_ (by omega) (by omega) (by omega)).mono ?_
  rintro e w15_ ⟨rfl, Mx3_, hg15⟩
  have hr15 := Lib.hid fun k (hk : (Value.slice Ax3_ n3 cx3_).ownBlock = some k) => And.intro (x3_.own.lt k hk).1 (x3_.lt k hk)
  replace I2 := I2.grown J2.out hg15 (fun k hk => by have := hr15.out k hk; have := hsz0.out; have := hsz1.out; have := hsz2.out; have := hsz3.out; have := hsz4.out; have := hsz5.out; have := hsz6.out; have := hsz7.out; have := hsz8.out; have := hsz9.out; have := hsz10.out; have := hsz11.out; have := hsz12.out; have := hsz13.out; have := hsz14.out; omega)
  replace I3 := I3.grown J3.out hg15 (fun k hk => by have := hr15.out k hk; have := hsz0.out; have := hsz1.out; have := hsz2.out; have := hsz3.out; have := hsz4.out; have := hsz5.out; have := hsz6.out; have := hsz7.out; have := hsz8.out; have := hsz9.out; have := hsz10.out; have := hsz11.out; have := hsz12.out; have := hsz13.out; have := hsz14.out; omega)
  replace rw := rw.grown hg15 (fun k hk => by have := hr15.out k hk; have := hsz0.out; have := hsz1.out; have := hsz2.out; have := hsz3.out; have := hsz4.out; have := hsz5.out; have := hsz6.out; have := hsz7.out; have := hsz8.out; have := hsz9.out; have := hsz10.out; have := hsz11.out; have := hsz12.out; have := hsz13.out; have := hsz14.out; omega)
  replace rg := rg.grown hg15 (fun k hk => by have := hr15.out k hk; have := hsz0.out; have := hsz1.out; have := hsz2.out; have := hsz3.out; have := hsz4.out; have := hsz5.out; have := hsz6.out; have := hsz7.out; have := hsz8.out; have := hsz9.out; have := hsz10.out; have := hsz11.out; have := hsz12.out; have := hsz13.out; have := hsz14.out; omega)
  replace hW := below_of_grown hW hg15 hW.size (fun k hk => by have := hr15.out k hk; have := hsz0.out; have := hsz1.out; have := hsz2.out; have := hsz3.out; have := hsz4.out; have := hsz5.out; have := hsz6.out; have := hsz7.out; have := hsz8.out; have := hsz9.out; have := hsz10.out; have := hsz11.out; have := hsz12.out; have := hsz13.out; have := hsz14.out; omega)
  replace x3_ := Mx3_
  clear Mx3_
  have hsz15 := Lib.hid hg15.size
  clear hg15 hr15
  clear hc hf
  obtain ⟨hc, hf⟩ := bcell hW
  clear x3_
  go_wp2_with fail
  refine (eqCipherS_any Arg Arw r0.length crg crw r0 _ rg.cips rw.cips).mono ?_
  rintro e w16_ ⟨rfl, hb16⟩
  replace I2 := I2.below hb16
  replace I3 := I3.below hb16
  replace rw := rw.below hb16
  replace rg := rg.below hb16
  replace hW := belT hW hb16
  have hsz16 := Lib.hid hb16.size
  clear hc hf
  obtain ⟨hc, hf⟩ := bcell hW
  go_wp2_with fail
  refine (markCipherD_any Arg r0.length crg _ _ _ _ _ rg (by omega) (by omega) (by omega)).mono ?_
  rintro e w17_ ⟨rfl, Mrg, hg17⟩
  have hr17 := Lib.hid rg.blk
  replace I2 := I2.grown J2.out hg17 (fun k hk => by have := hr17.out k hk; have := hsz0.out; have := hsz1.out; have := hsz2.out; have := hsz3.out; have := hsz4.out; have := hsz5.out; have := hsz6.out; have := hsz7.out; have := hsz8.out; have := hsz9.out; have := hsz10.out; have := hsz11.out; have := hsz12.out; have := hsz13.out; have := hsz14.out; have := hsz15.out; have := hsz16.out; omega)
  replace I3 := I3.grown J3.out hg17 (fun k hk => by have := hr17.out k hk; have := hsz0.out; have := hsz1.out; have := hsz2.out; have := hsz3.out; have := hsz4.out; have := hsz5.out; have := hsz6.out; have := hsz7.out; have := hsz8.out; have := hsz9.out; have := hsz10.out; have := hsz11.out; have := hsz12.out; have := hsz13.out; have := hsz14.out; have := hsz15.out; have := hsz16.out; omega)
  replace rw := rw.grown hg17 (fun k hk => by have := hr17.out k hk; have := hsz0.out; have := hsz1.out; have := hsz2.out; have := hsz3.out; have := hsz4.out; have := hsz5.out; have := hsz6.out; have := hsz7.out; have := hsz8.out; have := hsz9.out; have := hsz10.out; have := hsz11.out; have := hsz12.out; have := hsz13.out; have := hsz14.out; have := hsz15.out; have := hsz16.out; omega)
  replace hW := below_of_grown hW hg17 hW.size (fun k hk => by have := hr17.out k hk; have := hsz0.out; have := hsz1.out; have := hsz2.out; have := hsz3.out; have := hsz4.out; have := hsz5.out; have := hsz6.out; have := hsz7.out; have := hsz8.out; have := hsz9.out; have := hsz10.out; have := hsz11.out; have := hsz12.out; have := hsz13.out; have := hsz14.out; have := hsz15.out; have := hsz16.out; omega)
  replace rg := Mrg
  clear Mrg
  have hsz17 := Lib.hid hg17.size
  clear hg17 hr17
  clear hc hf
  obtain ⟨hc, hf⟩ := bcell hW
  go_wp2_with fail
  refine (heldCipherS_any Arg r0.length crg _ _ rg.cips (by omega) (by omega) (by omega)).mono ?_
  rintro e w18_ ⟨rfl, hb18⟩
  replace I2 := I2.below hb18
  replace I3 := I3.below hb18
  replace rw := rw.below hb18
  replace rg := rg.below hb18
  replace hW := belT hW hb18
  have hsz18 := Lib.hid hb18.size
  clear hc hf
  obtain ⟨hc, hf⟩ := bcell hW
  go_wp2_with fail
  refine (toGroup_any _ _ _ _).mono ?_
  rintro e w19_ ⟨rfl, hb19⟩
  replace I2 := I2.below hb19
  replace I3 := I3.below hb19
  replace rw := rw.below hb19
  replace rg := rg.below hb19
  replace hW := belT hW hb19
  have hsz19 := Lib.hid hb19.size
  clear hc hf
  obtain ⟨hc, hf⟩ := bcell hW
  go_wp2_with fail
  refine (toCipherS_any A2 n2 c2 z2 _ (I2.below (by repeat (first | exact Below.refl _ _ | assumption | refine belA ?_ | refine belD ?_ | refine belN ?_ | refine belS ?_ (by simp) | refine belT ?_ (by assumption)))) (by omega)).mono ?_
  rintro e w20_ ⟨At2, ct2, rfl, t2, hb20⟩
  replace I2 := I2.below hb20
  replace I3 := I3.below hb20
  replace rw := rw.below hb20
  replace rg := rg.below hb20
  replace hW := belT hW hb20
  have hsz20 := Lib.hid hb20.size
  clear hc hf
  obtain ⟨hc, hf⟩ := bcell hW
  go_wp2_with fail
  refine (toIntS_any A3 n3 c3 z3 _ I3 (by omega)).mono ?_
  rintro e w21_ ⟨At3, ct3, rfl, Ot3, hb21⟩
  replace I2 := I2.below hb21
  replace I3 := I3.below hb21
  replace rw := rw.below hb21
  replace rg := rg.below hb21
  replace t2 := t2.below hb21
  replace hW := belT hW hb21
  have hsz21 := Lib.hid hb21.size
  clear hc hf
  obtain ⟨hc, hf⟩ := bcell hW
  have t3 := Own.mk' Ot3
  clear Ot3
  go_wp2_with fail
  refine (Hi.out At2 ct2 At3 ct3 _ t2 t3.ints).mono ?_
  rintro e w22_ ⟨Arh, crh, rfl, Orh, hb22⟩
  replace I2 := I2.below hb22
  replace I3 := I3.below hb22
  replace rw := rw.below hb22
  replace rg := rg.below hb22
  replace t2 := t2.below hb22
  replace t3 := t3.below hb22
  replace hW := belT hW hb22
  have hsz22 := Lib.hid hb22.size
  clear hc hf
  obtain ⟨hc, hf⟩ := bcell hW
  have rh := OwnD.of_own Orh
  clear Orh
  clear t2
  clear t3
  go_wp2_with fail
  refine (eqCipherS_any Arh Arw r0.length crh crw r0 _ rh.cips rw.cips).mono ?_
  rintro e w23_ ⟨rfl, hb23⟩
  replace I2 := I2.below hb23
  replace I3 := I3.below hb23
  replace rw := rw.below hb23
  replace rg := rg.below hb23
  replace rh := rh.below hb23
  replace hW := belT hW hb23
  have hsz23 := Lib.hid hb23.size
  clear hc hf
  obtain ⟨hc, hf⟩ := bcell hW
  clear rh
  clear rw
  go_wp2_with fail
  refine (heldCipherS_any Arg r0.length crg _ _ rg.cips (by omega) (by omega) (by omega)).mono ?_
  rintro e w24_ ⟨rfl, hb24⟩
  replace I2 := I2.below hb24
  replace I3 := I3.below hb24
  replace rg := rg.below hb24
  replace hW := belT hW hb24
  have hsz24 := Lib.hid hb24.size
  clear hc hf
  obtain ⟨hc, hf⟩ := bcell hW
  go_wp2
  go_ret
  exact ⟨rfl, belT (by repeat (first | exact Below.refl _ _ | assumption | refine belA ?_ | refine belD ?_ | refine belN ?_ | refine belS ?_ (by simp) | refine belT ?_ (by assumption))) hW⟩

set_option maxRecDepth 100000 in
theorem lifted_FnExactReencryptAll (os : Os) (started : os.Started) (H : Type) (enc : TypeId × Value → H) :
    ReturnsInHanded {} Try.checked os 11 .any (Rows.fnExactReencryptAllSpec.pre6 enc Try.prog Try.f11 Rows.fnExactReencryptAllRow.domain false) (Rows.fnExactReencryptAllSpec.post enc Try.prog Try.f11 false true false false) := by
  refine returnsInHanded_of_change (C := Try.checked) own started (by kernel_rfl) Try.func11
    (ChangeSpec.witness6 (enc := enc) (C := Try.checked) false ⟨#[], #[.agg #[.int .i64 0, .int .i64 0, .int .i64 0], .int .i64 0, .slice none 0 0, .slice none 0 0], []⟩ 8 (by kernel_rfl) (by kernel_rfl) (by kernel_rfl) (by kernel_rfl)) ?_
  intro W base args ds gs before hval0 hW hcnd _
  have hval : ∀ (j : Nat) t v, Try.f11.params[j]? = some t → args[j]? = some v → Value.okWide Try.prog W .any base t v := hval0
  have hW' := hW
  obtain ⟨p, q, hA0, hV, rfl, hfz, hnd⟩ := hW
  have hA : DataW.TrodAll enc Try.prog W 0 (fun _ => true) true Try.f11.params.toList args.toList ds p := hA0
  rw [Try.params11] at hA hval
  obtain ⟨v0, vs0, d0, ds0, p0, q0, hargs, rfl, rfl, h0, r0⟩ := trodAll_cons hA
  obtain ⟨v1, vs1, d1, ds1, p1, q1, rfl, rfl, rfl, h1, r1⟩ := trodAll_cons r0
  obtain ⟨v2, vs2, d2, ds2, p2, q2, rfl, rfl, rfl, h2, r2⟩ := trodAll_cons r1
  obtain ⟨v3, vs3, d3, ds3, p3, q3, rfl, rfl, rfl, h3, r3⟩ := trodAll_cons r2
  obtain ⟨rfl, rfl, rfl⟩ := trodAll_nil r3
  obtain rfl : args = #[v0, v1, v2, v3] := by cases args; simp_all
  obtain ⟨rfl, rfl⟩ := trodVars_none hV
  have k0 := h0
  have lt0 : ∀ x ∈ p0, x.block < W.heap.size := by obtain ⟨m, hm⟩ := k0; exact DataW.trod_lt m _ _ _ hm
  obtain ⟨c0_0, c0_1, c0_2, y0_0, y0_1, y0_2, m0, rfl, rfl, rfl, u0_0, u0_1, u0_2⟩ := open_agg3 Try.underlying23 (by kernel_rfl) (by kernel_rfl) (hval 0 23 v0 rfl rfl) h0
  obtain ⟨b0_0, e0_0, hb0_0, x0_0⟩ := DataW.trod_int Try.underlying3 u0_0
  simp only [List.cons.injEq, and_true] at e0_0
  subst e0_0
  obtain ⟨b0_1, e0_1, hb0_1, x0_1⟩ := DataW.trod_int Try.underlying3 u0_1
  simp only [List.cons.injEq, and_true] at e0_1
  subst e0_1
  obtain ⟨b0_2, e0_2, hb0_2, x0_2⟩ := DataW.trod_int Try.underlying3 u0_2
  simp only [List.cons.injEq, and_true] at e0_2
  subst e0_2
  have k1 := h1
  have lt1 : ∀ x ∈ p1, x.block < W.heap.size := by obtain ⟨m, hm⟩ := k1; exact DataW.trod_lt m _ _ _ hm
  obtain ⟨a1, rfl, rfl, rfl, w1⟩ := open_int Try.underlying3 (hval 1 3 v1 rfl rfl) h1
  have k2 := h2
  have lt2 : ∀ x ∈ p2, x.block < W.heap.size := by obtain ⟨m, hm⟩ := k2; exact DataW.trod_lt m _ _ _ hm
  obtain ⟨a2, len2, cap2, rfl⟩ := okWide_slice Try.underlying40 (hval 2 40 v2 rfl rfl)
  obtain ⟨z2, w2⟩ : ∃ l, Cips W a2 len2 l := by
    obtain ⟨fuel, hf⟩ := h2
    exact cips_open hf
  have k3 := h3
  have lt3 : ∀ x ∈ p3, x.block < W.heap.size := by obtain ⟨m, hm⟩ := k3; exact DataW.trod_lt m _ _ _ hm
  obtain ⟨a3, len3, cap3, rfl⟩ := okWide_slice Try.underlying47 (hval 3 47 v3 rfl rfl)
  obtain ⟨z3, w3⟩ : ∃ zs, IsRow .i64 W a3 len3 cap3 zs := by
    obtain ⟨fuel, hf⟩ := h3
    rcases open_ints Try.underlying47 Try.underlying3 (by kernel_rfl) hf with ⟨hcs, _⟩ | ⟨x, l, c, zs, hcs, _, hl, hm, hz, _, hcell, hwz⟩
    · simp [Value.cells] at hcs
      obtain ⟨rfl, rfl, rfl⟩ := hcs
      exact ⟨[], .inl ⟨rfl, rfl, rfl, rfl⟩⟩
    · simp [Value.cells] at hcs
      obtain ⟨rfl, rfl, rfl⟩ := hcs
      exact ⟨zs, .inr ⟨_, rfl, hl, hm, by simpa using hz, hcell, hwz⟩⟩
  clear hA0 hval0
  refine (walk_FnExactReencryptAll (w := W) b0_0 b0_1 b0_2 x0_0 x0_1 x0_2 a1 w1 a2 len2 cap2 z2 w2 a3 len3 cap3 z3 w3).mono fun e W' ⟨he, bel⟩ => ?_
  subst he
  exact ⟨_, rfl, _, _, _, [], _, [], hW', trodAll_mk1 (shut_bool Try.underlying4 _), (trodAll_cons_mk (Below.trod laidOut (by kernel_rfl) (of_decide_eq_true (by kernel_rfl)) k0 bel lt0) (trodAll_cons_mk (Below.trod laidOut (by kernel_rfl) (of_decide_eq_true (by kernel_rfl)) k1 bel lt1) (trodAll_cons_mk (Below.trod laidOut (by kernel_rfl) (of_decide_eq_true (by kernel_rfl)) k2 bel lt2) (trodAll_cons_mk (Below.trod laidOut (by kernel_rfl) (of_decide_eq_true (by kernel_rfl)) k3 bel lt3) trodAll_mk0)))), rfl, bel.frame _, fun h => by cases h⟩

theorem over_FnExactReencryptAll : Rows.fnExactReencryptAllRow.holds Try.pinned (OpenSpec.ofChange Rows.fnExactReencryptAllSpec) :=
  OpenClaim.holds_of_wide 11 Try.f11 rfl rfl rfl rfl rfl rfl rfl ⟨rfl, rfl, rfl, rfl, rfl⟩ rfl rfl rfl rfl rfl (by kernel_rfl) Try.func11 (by kernel_rfl)
    (of_decide_eq_true (by kernel_rfl)) (by unfold Func.isWrapper; first | (rw [if_pos (by decide +kernel)]; kernel_rfl) | (rw [if_neg (by decide +kernel)]; exact ⟨rfl, rfl⟩))
    (fun os started H enc _ => lifted_FnExactReencryptAll os started H enc)

theorem proved_FnExactReencryptAll : Rows.FnExactReencryptAllSaid := over_FnExactReencryptAll
#print axioms proved_FnExactReencryptAll
end Go.Proofs.Ytemhjhaokbgldaa
