/- The program's ImagesOf returns what the reference's ImagesOf returns, for all arguments: proved with no condition. -/
import Derived.Test.YteeggmnkcgpfjaaIm
import Derived.Test.YteeggmnkcgpfjaaSs
import Derived.Test.YteeggmnkcgpfjaaGrF
namespace Go.Proofs.Yteeggmnkcgpfjaa
open Go.ChangeShapes Go.WideShapes Go.ChangeAt Go.RowKit Go.Joins
open Go.ChangeMaps (open_string shut_string)
set_option linter.unusedVariables false
set_option maxHeartbeats 4000000 in
theorem walk_FnExactImagesOf (w : World) (p0 q0 g0 : Int) (w0a : (Lit.int .i64 p0).wf = true) (w0b : (Lit.int .i64 q0).wf = true) (w0c : (Lit.int .i64 g0).wf = true) (A1 : Option Addr) (n1 c1 : Nat) (z1 : List (Option Addr × Nat × List Int)) (J : Grid w A1 n1 z1) (A2 : Option Addr) (n2 c2 : Nat) (zs2 : List Int) (w2 : IsRow .i64 w A2 n2 c2 zs2) :
    Calls Try.prog 8 #[.agg #[.int .i64 p0, .int .i64 q0, .int .i64 g0], .slice A1 n1 c1, .slice A2 n2 c2] w fun e w' => e = .returned (.bool true) ∧ Below w.heap.size w w' := by
  clear w0a w0b w0c
  have I2 := Ints.of_row w2
  clear w2
  generalize zs2.take n2 = z2 at I2
  have I1 := J
  clear J
  by_cases big0 : 1048576 < n2
  · go_enter Try.func8, Try.ntmps8
    go_wp2
    go_ret
    exact ⟨rfl, (by repeat (first | exact Below.refl _ _ | assumption | refine belA ?_ | refine belD ?_ | refine belN ?_ | refine belS ?_ (by simp) | refine belT ?_ (by assumption)))⟩
  have hs := fun (R : Option Addr) (rc : Nat) (bs : List (Option Addr × Nat × List Int)) (hb : rowsG bs = rowsG z1) (A : Option Addr) (c : Nat) (W : World) (h1 : Grid W R n1 bs) (h2 : Ints W A n2 z2) => sImagesOf_at p0 q0 g0 R n1 rc bs A n2 c z2 W (rowsG z1) hb h1 h2
  have hi := fun (R : Option Addr) (rc : Nat) (bs : List (Option Addr × Nat × List Int)) (hb : rowsG bs = rowsG z1) (A : Option Addr) (c : Nat) (W : World) (h1 : Grid W R n1 bs) (h2 : Ints W A n2 z2) => iImagesOf_at p0 q0 g0 R n1 rc bs A n2 c z2 W (rowsG z1) hb h1 h2
  have L0 : (imM p0 q0 g0 (rowsG z1) z2).1.length ≤ n1 := by have := imM_len p0 q0 g0 (rowsG z1) z2; rw [rowsG_len, I1.len] at this; exact this
  have hFR : ∀ bs : List (Option Addr × Nat × List Int), rowsG bs = rowsG z1 → (flatG bs).length = (flatG z1).length := fun bs h => by rw [rowsG_flat, rowsG_flat, h]
  have HFR := Lib.hid hFR
  clear hFR
  generalize (imM p0 q0 g0 (rowsG z1) z2).1 = r0 at hs hi L0
  generalize (imM p0 q0 g0 (rowsG z1) z2).2 = r1 at hs hi L0
  have Hs := Lib.hid hs
  have Hi := Lib.hid hi
  clear hs hi
  have J1 := Lib.hid I1.low
  have J2 := Lib.hid (Ints.base I2)
  go_enter Try.func8, Try.ntmps8
  go_wp2_with fail
  refine (szIntSS_any A1 n1 c1 z1 1048576 _ (I1.below (by repeat (first | exact Below.refl _ _ | assumption | refine belA ?_ | refine belD ?_ | refine belN ?_ | refine belS ?_ (by simp) | refine belT ?_ (by assumption)))) (by omega) (by omega)).mono ?_
  rintro e w' ⟨⟨m, rfl, hm⟩, rfl⟩
  rcases hm with hm | ⟨hm0, hm1⟩
  · go_wp2
    go_ret
    exact ⟨rfl, (by repeat (first | exact Below.refl _ _ | assumption | refine belA ?_ | refine belD ?_ | refine belN ?_ | refine belS ?_ (by simp) | refine belT ?_ (by assumption)))⟩
  go_wp2_with fail
  refine (toGroup_any _ _ _ _).mono ?_
  rintro e w1_ ⟨rfl, hb1⟩
  have hn1 : Below w.heap.size w w1_ := belT (belA (Below.refl _ _)) hb1
  have hW := hn1
  have hz1 : w.heap.size + 1 ≤ w1_.heap.size := by simpa using hb1.size
  replace I1 := I1.below hn1
  replace I2 := I2.below hn1
  have gc0 : w1_.cell? ⟨w.heap.size, 0, none⟩ = some (.int .i64 p0) := keepB hb1 (by rw [World.cell?_alloc_at _ _ _ _ (by simp)]; rfl)
  have gc1 : w1_.cell? ⟨w.heap.size, 1, none⟩ = some (.int .i64 q0) := keepB hb1 (by rw [World.cell?_alloc_at _ _ _ _ (by simp)]; rfl)
  have gc2 : w1_.cell? ⟨w.heap.size, 2, none⟩ = some (.int .i64 g0) := keepB hb1 (by rw [World.cell?_alloc_at _ _ _ _ (by simp)]; rfl)
  have gz := World.block_lt_of_cell? _ _ gc0
  simp only at gz
  go_wp2_with fail
  refine (toIntSS_any A1 n1 c1 z1 _ I1 (by omega) (by omega)).mono ?_
  rintro e w2_ ⟨sab, rfl, sar, sa, hb2⟩
  have hn2 : Below w1_.heap.size w1_ w2_ := hb2
  replace hW := belT hW hn2
  have hz2 : w1_.heap.size ≤ w2_.heap.size := hb2.size
  replace I1 := I1.below hn2
  replace I2 := I2.below hn2
  replace gc0 := keepB hn2 gc0
  replace gc1 := keepB hn2 gc1
  replace gc2 := keepB hn2 gc2
  clear gz
  have gz := World.block_lt_of_cell? _ _ gc0
  simp only at gz
  have saR := Lib.hid sar
  clear sar
  go_wp2_with fail
  refine (toIntS_any A2 n2 c2 z2 _ I2 (by omega)).mono ?_
  rintro e w3_ ⟨Asb, csb, rfl, Osb, hb3⟩
  have hn3 : Below w2_.heap.size w2_ w3_ := hb3
  replace hW := belT hW hn3
  have hz3 : w2_.heap.size ≤ w3_.heap.size := hb3.size
  replace I1 := I1.below hn3
  replace I2 := I2.below hn3
  replace sa := sa.below hn3
  replace gc0 := keepB hn3 gc0
  replace gc1 := keepB hn3 gc1
  replace gc2 := keepB hn3 gc2
  clear gz
  have gz := World.block_lt_of_cell? _ _ gc0
  simp only at gz
  have sb := Own.mk' Osb
  clear Osb
  go_wp2_with fail
  refine (Hs.out (some ⟨w1_.heap.size, 0, none⟩) n1 sab saR.out Asb csb _ sa.grid sb.ints).mono ?_
  rintro e w4_ ⟨Arw, crw, rfl, Orw, hb4⟩
  have hn4 : Below w3_.heap.size w3_ w4_ := hb4
  replace hW := belT hW hn4
  have hz4 : w3_.heap.size ≤ w4_.heap.size := hb4.size
  replace I1 := I1.below hn4
  replace I2 := I2.below hn4
  replace sa := sa.below hn4
  replace sb := sb.below hn4
  replace gc0 := keepB hn4 gc0
  replace gc1 := keepB hn4 gc1
  replace gc2 := keepB hn4 gc2
  clear gz
  have gz := World.block_lt_of_cell? _ _ gc0
  simp only at gz
  have rw := Own.mk' Orw
  clear Orw
  clear sa
  clear sb
  go_wp2_with fail
  refine (toIntSS_any A1 n1 c1 z1 _ I1 (by omega) (by omega)).mono ?_
  rintro e w5_ ⟨xab, rfl, xar, xa, hb5⟩
  have hn5 : Below w4_.heap.size w4_ w5_ := hb5
  replace hW := belT hW hn5
  have hz5 : w4_.heap.size ≤ w5_.heap.size := hb5.size
  replace I1 := I1.below hn5
  replace I2 := I2.below hn5
  replace rw := rw.below hn5
  replace gc0 := keepB hn5 gc0
  replace gc1 := keepB hn5 gc1
  replace gc2 := keepB hn5 gc2
  clear gz
  have gz := World.block_lt_of_cell? _ _ gc0
  simp only at gz
  have xaR := Lib.hid xar
  clear xar
  go_wp2_with fail
  refine (toIntS_any A2 n2 c2 z2 _ I2 (by omega)).mono ?_
  rintro e w6_ ⟨Axb, cxb, rfl, Oxb, hb6⟩
  have hn6 : Below w5_.heap.size w5_ w6_ := hb6
  replace hW := belT hW hn6
  have hz6 : w5_.heap.size ≤ w6_.heap.size := hb6.size
  replace I1 := I1.below hn6
  replace I2 := I2.below hn6
  replace rw := rw.below hn6
  replace xa := xa.below hn6
  replace gc0 := keepB hn6 gc0
  replace gc1 := keepB hn6 gc1
  replace gc2 := keepB hn6 gc2
  clear gz
  have gz := World.block_lt_of_cell? _ _ gc0
  simp only at gz
  have xb := Own.mk' Oxb
  clear Oxb
  go_wp2_with fail
  refine (toGroup_any _ _ _ _).mono ?_
  rintro e w7_ ⟨rfl, hb7⟩
  have hn7 : Below w6_.heap.size w6_ w7_ := hb7
  replace hW := belT hW hn7
  have hz7 : w6_.heap.size ≤ w7_.heap.size := hb7.size
  replace I1 := I1.below hn7
  replace I2 := I2.below hn7
  replace rw := rw.below hn7
  replace xa := xa.below hn7
  replace xb := xb.below hn7
  replace gc0 := keepB hn7 gc0
  replace gc1 := keepB hn7 gc1
  replace gc2 := keepB hn7 gc2
  clear gz
  have gz := World.block_lt_of_cell? _ _ gc0
  simp only at gz
  go_wp2_with fail
  refine (Hi.out (some ⟨w4_.heap.size, 0, none⟩) n1 xab xaR.out Axb cxb _ xa.grid xb.ints).mono ?_
  rintro e w8_ ⟨Arg, crg, rfl, Org, hb8⟩
  have hn8 : Below w7_.heap.size w7_ w8_ := hb8
  replace hW := belT hW hn8
  have hz8 : w7_.heap.size ≤ w8_.heap.size := hb8.size
  replace I1 := I1.below hn8
  replace I2 := I2.below hn8
  replace rw := rw.below hn8
  replace xa := xa.below hn8
  replace xb := xb.below hn8
  replace gc0 := keepB hn8 gc0
  replace gc1 := keepB hn8 gc1
  replace gc2 := keepB hn8 gc2
  clear gz
  have gz := World.block_lt_of_cell? _ _ gc0
  simp only at gz
  have rg := Own.mk' Org
  clear Org
  go_wp2_with fail
  refine (eqIntS_any Arg Arw _ _ crg crw r0 r0 _ rg.ints rw.ints).mono ?_
  rintro e w9_ ⟨rfl, hb9⟩
  have hn9 : Below w8_.heap.size w8_ w9_ := hb9
  replace hW := belT hW hn9
  have hz9 : w8_.heap.size ≤ w9_.heap.size := hb9.size
  replace I1 := I1.below hn9
  replace I2 := I2.below hn9
  replace rw := rw.below hn9
  replace xa := xa.below hn9
  replace xb := xb.below hn9
  replace rg := rg.below hn9
  replace gc0 := keepB hn9 gc0
  replace gc1 := keepB hn9 gc1
  replace gc2 := keepB hn9 gc2
  clear gz
  have gz := World.block_lt_of_cell? _ _ gc0
  simp only at gz
  rw [decide_eq_true (rfl : r0 = r0)]
  go_wp2_with fail
  refine (toIntSS_any A1 n1 c1 z1 _ I1 (by omega) (by omega)).mono ?_
  rintro e w10_ ⟨yab, rfl, yar, ya, hb10⟩
  have hn10 : Below w9_.heap.size w9_ w10_ := hb10
  replace hW := belT hW hn10
  have hz10 : w9_.heap.size ≤ w10_.heap.size := hb10.size
  replace I1 := I1.below hn10
  replace I2 := I2.below hn10
  replace rw := rw.below hn10
  replace xa := xa.below hn10
  replace xb := xb.below hn10
  replace rg := rg.below hn10
  replace gc0 := keepB hn10 gc0
  replace gc1 := keepB hn10 gc1
  replace gc2 := keepB hn10 gc2
  clear gz
  have gz := World.block_lt_of_cell? _ _ gc0
  simp only at gz
  have yaR := Lib.hid yar
  clear yar
  go_wp2_with fail
  refine (eqIntSS_any (some ⟨w4_.heap.size, 0, none⟩) (some ⟨w9_.heap.size, 0, none⟩) n1 n1 n1 xab yab _ xa.grid ya.grid (xaR.out.trans yaR.out.symm)).mono ?_
  rintro e w11_ ⟨rfl, hb11⟩
  have hn11 : Below w10_.heap.size w10_ w11_ := hb11
  replace hW := belT hW hn11
  have hz11 : w10_.heap.size ≤ w11_.heap.size := hb11.size
  replace I1 := I1.below hn11
  replace I2 := I2.below hn11
  replace rw := rw.below hn11
  replace xa := xa.below hn11
  replace xb := xb.below hn11
  replace rg := rg.below hn11
  replace ya := ya.below hn11
  replace gc0 := keepB hn11 gc0
  replace gc1 := keepB hn11 gc1
  replace gc2 := keepB hn11 gc2
  clear gz
  have gz := World.block_lt_of_cell? _ _ gc0
  simp only at gz
  clear ya
  go_wp2_with fail
  refine (toIntS_any A2 n2 c2 z2 _ I2 (by omega)).mono ?_
  rintro e w12_ ⟨Ayb, cyb, rfl, Oyb, hb12⟩
  have hn12 : Below w11_.heap.size w11_ w12_ := hb12
  replace hW := belT hW hn12
  have hz12 : w11_.heap.size ≤ w12_.heap.size := hb12.size
  replace I1 := I1.below hn12
  replace I2 := I2.below hn12
  replace rw := rw.below hn12
  replace xa := xa.below hn12
  replace xb := xb.below hn12
  replace rg := rg.below hn12
  replace gc0 := keepB hn12 gc0
  replace gc1 := keepB hn12 gc1
  replace gc2 := keepB hn12 gc2
  clear gz
  have gz := World.block_lt_of_cell? _ _ gc0
  simp only at gz
  have yb := Own.mk' Oyb
  clear Oyb
  go_wp2_with fail
  refine (eqIntS_any Axb Ayb n2 n2 cxb cyb z2 z2 _ xb.ints yb.ints).mono ?_
  rintro e w13_ ⟨rfl, hb13⟩
  have hn13 : Below w12_.heap.size w12_ w13_ := hb13
  replace hW := belT hW hn13
  have hz13 : w12_.heap.size ≤ w13_.heap.size := hb13.size
  replace I1 := I1.below hn13
  replace I2 := I2.below hn13
  replace rw := rw.below hn13
  replace xa := xa.below hn13
  replace xb := xb.below hn13
  replace rg := rg.below hn13
  replace yb := yb.below hn13
  replace gc0 := keepB hn13 gc0
  replace gc1 := keepB hn13 gc1
  replace gc2 := keepB hn13 gc2
  clear gz
  have gz := World.block_lt_of_cell? _ _ gc0
  simp only at gz
  rw [decide_eq_true (rfl : z2 = z2)]
  clear yb
  have hfx := HFR.out _ xaR.out
  go_wp2_with fail
  refine (markIntSS_any w4_.heap.size n1 n1 xab 1 _ _ _ xa (by omega) (by omega) (by omega)).mono ?_
  rintro e w14_ ⟨rfl, sp14⟩
  replace I1 := sp14.grid I1 J1.out (by omega)
  replace I2 := sp14.ints I2 (fun b off e hb => by have := J2.out b off e hb; omega)
  replace rw := rw.spared sp14 (by omega)
  replace xb := xb.spared sp14 (by omega)
  replace rg := rg.spared sp14 (by omega)
  replace gc0 := sp14.cell gc0 (by omega)
  replace gc1 := sp14.cell gc1 (by omega)
  replace gc2 := sp14.cell gc2 (by omega)
  have hz14 := sp14.size
  replace hW := sp14.below hW (by omega) (by omega)
  clear gz
  have gz := World.block_lt_of_cell? _ _ gc0
  simp only at gz
  clear xa
  rw [hfx]
  clear hfx
  go_wp2_with fail
  refine (markIntS_any Axb n2 cxb _ _ _ _ _ xb (by omega) (by omega) (by omega)).mono ?_
  rintro e w15_ ⟨rfl, Mxb, hg15⟩
  have sp15 : Spared _ _ w14_ w15_ := Spared.of_grown hg15 (fun k hk => ⟨(xb.own.lt k hk).1, xb.lt k hk⟩)
  replace I1 := sp15.grid I1 J1.out (by omega)
  replace I2 := sp15.ints I2 (fun b off e hb => by have := J2.out b off e hb; omega)
  replace rw := rw.spared sp15 (by omega)
  replace rg := rg.spared sp15 (by omega)
  replace gc0 := sp15.cell gc0 (by omega)
  replace gc1 := sp15.cell gc1 (by omega)
  replace gc2 := sp15.cell gc2 (by omega)
  have hz15 := sp15.size
  replace hW := sp15.below hW (by omega) (by omega)
  clear gz
  have gz := World.block_lt_of_cell? _ _ gc0
  simp only at gz
  clear xb hg15
  go_wp2_with fail
  refine (eqIntS_any Arg Arw _ _ crg crw r0 r0 _ rg.ints rw.ints).mono ?_
  rintro e w16_ ⟨rfl, hb16⟩
  have hn16 : Below w15_.heap.size w15_ w16_ := hb16
  replace hW := belT hW hn16
  have hz16 : w15_.heap.size ≤ w16_.heap.size := hb16.size
  replace I1 := I1.below hn16
  replace I2 := I2.below hn16
  replace rw := rw.below hn16
  replace rg := rg.below hn16
  replace gc0 := keepB hn16 gc0
  replace gc1 := keepB hn16 gc1
  replace gc2 := keepB hn16 gc2
  clear gz
  have gz := World.block_lt_of_cell? _ _ gc0
  simp only at gz
  rw [decide_eq_true (rfl : r0 = r0)]
  go_wp2_with fail
  refine (markIntS_any Arg r0.length crg _ _ _ _ _ rg (by omega) (by omega) (by omega)).mono ?_
  rintro e w17_ ⟨rfl, Mrg, hg17⟩
  have sp17 : Spared _ _ w16_ w17_ := Spared.of_grown hg17 (fun k hk => ⟨(rg.own.lt k hk).1, rg.lt k hk⟩)
  replace I1 := sp17.grid I1 J1.out (by omega)
  replace I2 := sp17.ints I2 (fun b off e hb => by have := J2.out b off e hb; omega)
  replace rw := rw.spared sp17 (by omega)
  replace gc0 := sp17.cell gc0 (by omega)
  replace gc1 := sp17.cell gc1 (by omega)
  replace gc2 := sp17.cell gc2 (by omega)
  have hz17 := sp17.size
  replace hW := sp17.below hW (by omega) (by omega)
  clear gz
  have gz := World.block_lt_of_cell? _ _ gc0
  simp only at gz
  clear rg hg17
  have rgm := Mrg.ints
  clear Mrg
  go_wp2_with fail
  refine (heldIntS_any Arg r0.length crg _ _ rgm (by omega) (by omega) (by omega)).mono ?_
  rintro e w18_ ⟨rfl, hb18⟩
  have hn18 : Below w17_.heap.size w17_ w18_ := hb18
  replace hW := belT hW hn18
  have hz18 : w17_.heap.size ≤ w18_.heap.size := hb18.size
  replace I1 := I1.below hn18
  replace I2 := I2.below hn18
  replace rw := rw.below hn18
  replace rgm := rgm.below hn18
  replace gc0 := keepB hn18 gc0
  replace gc1 := keepB hn18 gc1
  replace gc2 := keepB hn18 gc2
  clear gz
  have gz := World.block_lt_of_cell? _ _ gc0
  simp only at gz
  go_wp2_with fail
  refine (toGroup_any _ _ _ _).mono ?_
  rintro e w19_ ⟨rfl, hb19⟩
  have hn19 : Below w18_.heap.size w18_ w19_ := hb19
  replace hW := belT hW hn19
  have hz19 : w18_.heap.size ≤ w19_.heap.size := hb19.size
  replace I1 := I1.below hn19
  replace I2 := I2.below hn19
  replace rw := rw.below hn19
  replace rgm := rgm.below hn19
  replace gc0 := keepB hn19 gc0
  replace gc1 := keepB hn19 gc1
  replace gc2 := keepB hn19 gc2
  clear gz
  have gz := World.block_lt_of_cell? _ _ gc0
  simp only at gz
  go_wp2_with fail
  refine (toIntSS_any A1 n1 c1 z1 _ I1 (by omega) (by omega)).mono ?_
  rintro e w20_ ⟨tab, rfl, tar, ta, hb20⟩
  have hn20 : Below w19_.heap.size w19_ w20_ := hb20
  replace hW := belT hW hn20
  have hz20 : w19_.heap.size ≤ w20_.heap.size := hb20.size
  replace I1 := I1.below hn20
  replace I2 := I2.below hn20
  replace rw := rw.below hn20
  replace rgm := rgm.below hn20
  replace gc0 := keepB hn20 gc0
  replace gc1 := keepB hn20 gc1
  replace gc2 := keepB hn20 gc2
  clear gz
  have gz := World.block_lt_of_cell? _ _ gc0
  simp only at gz
  have taR := Lib.hid tar
  clear tar
  go_wp2_with fail
  refine (toIntS_any A2 n2 c2 z2 _ I2 (by omega)).mono ?_
  rintro e w21_ ⟨Atb, ctb, rfl, Otb, hb21⟩
  have hn21 : Below w20_.heap.size w20_ w21_ := hb21
  replace hW := belT hW hn21
  have hz21 : w20_.heap.size ≤ w21_.heap.size := hb21.size
  replace I1 := I1.below hn21
  replace I2 := I2.below hn21
  replace rw := rw.below hn21
  replace rgm := rgm.below hn21
  replace ta := ta.below hn21
  replace gc0 := keepB hn21 gc0
  replace gc1 := keepB hn21 gc1
  replace gc2 := keepB hn21 gc2
  clear gz
  have gz := World.block_lt_of_cell? _ _ gc0
  simp only at gz
  have tb := Own.mk' Otb
  clear Otb
  go_wp2_with fail
  refine (Hi.out (some ⟨w19_.heap.size, 0, none⟩) n1 tab taR.out Atb ctb _ ta.grid tb.ints).mono ?_
  rintro e w22_ ⟨Arh, crh, rfl, Orh, hb22⟩
  have hn22 : Below w21_.heap.size w21_ w22_ := hb22
  replace hW := belT hW hn22
  have hz22 : w21_.heap.size ≤ w22_.heap.size := hb22.size
  replace I1 := I1.below hn22
  replace I2 := I2.below hn22
  replace rw := rw.below hn22
  replace rgm := rgm.below hn22
  replace ta := ta.below hn22
  replace tb := tb.below hn22
  replace gc0 := keepB hn22 gc0
  replace gc1 := keepB hn22 gc1
  replace gc2 := keepB hn22 gc2
  clear gz
  have gz := World.block_lt_of_cell? _ _ gc0
  simp only at gz
  have rh := Own.mk' Orh
  clear Orh
  clear ta
  clear tb
  go_wp2_with fail
  refine (eqIntS_any Arh Arw _ _ crh crw r0 r0 _ rh.ints rw.ints).mono ?_
  rintro e w23_ ⟨rfl, hb23⟩
  have hn23 : Below w22_.heap.size w22_ w23_ := hb23
  replace hW := belT hW hn23
  have hz23 : w22_.heap.size ≤ w23_.heap.size := hb23.size
  replace I1 := I1.below hn23
  replace I2 := I2.below hn23
  replace rw := rw.below hn23
  replace rgm := rgm.below hn23
  replace rh := rh.below hn23
  replace gc0 := keepB hn23 gc0
  replace gc1 := keepB hn23 gc1
  replace gc2 := keepB hn23 gc2
  clear gz
  have gz := World.block_lt_of_cell? _ _ gc0
  simp only at gz
  rw [decide_eq_true (rfl : r0 = r0)]
  clear rh
  clear rw
  go_wp2_with fail
  refine (heldIntS_any Arg r0.length crg _ _ rgm (by omega) (by omega) (by omega)).mono ?_
  rintro e w24_ ⟨rfl, hb24⟩
  have hn24 : Below w23_.heap.size w23_ w24_ := hb24
  replace hW := belT hW hn24
  have hz24 : w23_.heap.size ≤ w24_.heap.size := hb24.size
  replace I1 := I1.below hn24
  replace I2 := I2.below hn24
  replace rgm := rgm.below hn24
  replace gc0 := keepB hn24 gc0
  replace gc1 := keepB hn24 gc1
  replace gc2 := keepB hn24 gc2
  clear gz
  have gz := World.block_lt_of_cell? _ _ gc0
  simp only at gz
  go_wp2
  go_ret
  exact ⟨rfl, hW⟩

set_option maxRecDepth 100000 in
theorem lifted_FnExactImagesOf (os : Os) (started : os.Started) (H : Type) (enc : TypeId × Value → H) :
    ReturnsInHanded {} Try.checked os 8 .any (Rows.fnExactImagesOfSpec.pre6 enc Try.prog Try.f8 Rows.fnExactImagesOfRow.domain false) (Rows.fnExactImagesOfSpec.post enc Try.prog Try.f8 false true false false) := by
  refine returnsInHanded_of_change (C := Try.checked) own started (by kernel_rfl) Try.func8
    (ChangeSpec.witness6 (enc := enc) (C := Try.checked) false ⟨#[], #[.agg #[.int .i64 0, .int .i64 0, .int .i64 0], .slice none 0 0, .slice none 0 0], []⟩ 8 (by kernel_rfl) (by kernel_rfl) (by kernel_rfl) (by kernel_rfl)) ?_
  intro W base args ds gs before hval0 hW hcnd _
  have hval : ∀ (j : Nat) t v, Try.f8.params[j]? = some t → args[j]? = some v → Value.okWide Try.prog W .any base t v := hval0
  have hW' := hW
  obtain ⟨p, q, hA0, hV, rfl, hfz, hnd⟩ := hW
  have hA : DataW.TrodAll enc Try.prog W 0 (fun _ => true) true Try.f8.params.toList args.toList ds p := hA0
  rw [Try.params8] at hA hval
  obtain ⟨v0, vs0, d0, ds0, p0, q0, hargs, rfl, rfl, h0, r0⟩ := trodAll_cons hA
  obtain ⟨v1, vs1, d1, ds1, p1, q1, rfl, rfl, rfl, h1, r1⟩ := trodAll_cons r0
  obtain ⟨v2, vs2, d2, ds2, p2, q2, rfl, rfl, rfl, h2, r2⟩ := trodAll_cons r1
  obtain ⟨rfl, rfl, rfl⟩ := trodAll_nil r2
  obtain rfl : args = #[v0, v1, v2] := by cases args; simp_all
  obtain ⟨rfl, rfl⟩ := trodVars_none hV
  have k0 := h0
  have lt0 : ∀ x ∈ p0, x.block < W.heap.size := by obtain ⟨m, hm⟩ := k0; exact DataW.trod_lt m _ _ _ hm
  obtain ⟨c0_0, c0_1, c0_2, y0_0, y0_1, y0_2, m0, rfl, rfl, rfl, u0_0, u0_1, u0_2⟩ := open_agg3 Try.underlying23 (by kernel_rfl) (by kernel_rfl) (hval 0 23 v0 rfl rfl) h0
  obtain ⟨b0_0, e0_0, hb0_0, x0_0⟩ := DataW.trod_int Try.underlying3 u0_0
  simp only [List.cons.injEq, and_true] at e0_0
  subst e0_0
  obtain ⟨b0_1, e0_1, hb0_1, x0_1⟩ := DataW.trod_int Try.underlying3 u0_1
  simp only [List.cons.injEq, and_true] at e0_1
  subst e0_1
  obtain ⟨b0_2, e0_2, hb0_2, x0_2⟩ := DataW.trod_int Try.underlying3 u0_2
  simp only [List.cons.injEq, and_true] at e0_2
  subst e0_2
  have k1 := h1
  have lt1 : ∀ x ∈ p1, x.block < W.heap.size := by obtain ⟨m, hm⟩ := k1; exact DataW.trod_lt m _ _ _ hm
  obtain ⟨a1, len1, cap1, rfl⟩ := okWide_slice Try.underlying57 (hval 1 57 v1 rfl rfl)
  obtain ⟨z1, w1⟩ : ∃ bs, Grid W a1 len1 bs := by
    obtain ⟨fuel, hf⟩ := h1
    exact grid_open hf
  have k2 := h2
  have lt2 : ∀ x ∈ p2, x.block < W.heap.size := by obtain ⟨m, hm⟩ := k2; exact DataW.trod_lt m _ _ _ hm
  obtain ⟨a2, len2, cap2, rfl⟩ := okWide_slice Try.underlying24 (hval 2 24 v2 rfl rfl)
  obtain ⟨z2, w2⟩ : ∃ zs, IsRow .i64 W a2 len2 cap2 zs := by
    obtain ⟨fuel, hf⟩ := h2
    rcases open_ints Try.underlying24 Try.underlying3 (by kernel_rfl) hf with ⟨hcs, _⟩ | ⟨x, l, c, zs, hcs, _, hl, hm, hz, _, hcell, hwz⟩
    · simp [Value.cells] at hcs
      obtain ⟨rfl, rfl, rfl⟩ := hcs
      exact ⟨[], .inl ⟨rfl, rfl, rfl, rfl⟩⟩
    · simp [Value.cells] at hcs
      obtain ⟨rfl, rfl, rfl⟩ := hcs
      exact ⟨zs, .inr ⟨_, rfl, hl, hm, by simpa using hz, hcell, hwz⟩⟩
  clear hA0 hval0
  refine (walk_FnExactImagesOf (w := W) b0_0 b0_1 b0_2 x0_0 x0_1 x0_2 a1 len1 cap1 z1 w1 a2 len2 cap2 z2 w2).mono fun e W' ⟨he, bel⟩ => ?_
  subst he
  exact ⟨_, rfl, _, _, _, [], _, [], hW', trodAll_mk1 (shut_bool Try.underlying4 _), (trodAll_cons_mk (Below.trod laidOut (by kernel_rfl) (of_decide_eq_true (by kernel_rfl)) k0 bel lt0) (trodAll_cons_mk (Below.trod laidOut (by kernel_rfl) (of_decide_eq_true (by kernel_rfl)) k1 bel lt1) (trodAll_cons_mk (Below.trod laidOut (by kernel_rfl) (of_decide_eq_true (by kernel_rfl)) k2 bel lt2) trodAll_mk0))), rfl, bel.frame _, fun h => by cases h⟩

theorem over_FnExactImagesOf : Rows.fnExactImagesOfRow.holds Try.pinned (OpenSpec.ofChange Rows.fnExactImagesOfSpec) :=
  OpenClaim.holds_of_wide 8 Try.f8 rfl rfl rfl rfl rfl rfl rfl ⟨rfl, rfl, rfl, rfl, rfl⟩ rfl rfl rfl rfl rfl (by kernel_rfl) Try.func8 (by kernel_rfl)
    (of_decide_eq_true (by kernel_rfl)) (by unfold Func.isWrapper; first | (rw [if_pos (by decide +kernel)]; kernel_rfl) | (rw [if_neg (by decide +kernel)]; exact ⟨rfl, rfl⟩))
    (fun os started H enc _ => lifted_FnExactImagesOf os started H enc)

theorem proved_FnExactImagesOf : Rows.FnExactImagesOfSaid := over_FnExactImagesOf
#print axioms proved_FnExactImagesOf
end Go.Proofs.Yteeggmnkcgpfjaa
