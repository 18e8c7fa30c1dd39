/- The program's DecodeProof returns what the reference's DecodeProof returns, for all arguments: proved with no condition. -/
import Derived.Test.YteeggmnkcgpfjaaDp
import Derived.Test.YteeggmnkcgpfjaaLw
namespace Go.Proofs.Yteeggmnkcgpfjaa
open Go.ChangeShapes Go.WideShapes Go.ChangeAt Go.RowKit Go.Joins
open Go.ChangeMaps (open_string shut_string)
set_option linter.unusedVariables false
set_option maxHeartbeats 4000000 in
theorem walk_FnExactDecodeProof (w : World) (A0 : Option Addr) (n0 c0 : Nat) (zs0 : List Int) (w0 : IsRow .i64 w A0 n0 c0 zs0) :
    Calls Try.prog 7 #[.slice A0 n0 c0] w fun e w' => e = .returned (.bool true) ∧ Below w.heap.size w w' := by
  have I0 := Ints.of_row w0
  clear w0
  generalize zs0.take n0 = z0 at I0
  by_cases big0 : 1048576 < n0
  · go_enter Try.func7, Try.ntmps7
    go_wp2
    go_ret
    exact ⟨rfl, (by repeat (first | exact Below.refl _ _ | assumption | refine belA ?_ | refine belD ?_ | refine belN ?_ | refine belS ?_ (by simp) | refine belT ?_ (by assumption)))⟩
  have hs := fun (A : Option Addr) (c : Nat) (W : World) (h : Ints W A n0 z0) (k : CapW W A n0 c) => sDecodeProof_any A n0 c z0 W h k (by omega)
  have hi := fun (A : Option Addr) (c : Nat) (W : World) (h : Ints W A n0 z0) (k : CapW W A n0 c) => iDecodeProof_any A n0 c z0 W h k (by omega)
  have L0 : plen (prM z0).1 ≤ 100000000000000 := by (have := prM_len z0; have := I0.len; omega)
  generalize prM z0 = r at hs hi L0
  obtain ⟨⟨z_1, z_2, z_3⟩, ok_⟩ := r
  have L1 : (z_1.length : Int) + (z_2.length : Int) + (z_3.length : Int) ≤ 100000000000000 := L0
  have Hs := Lib.hid hs
  have Hi := Lib.hid hi
  clear hs hi
  have J0 := Lib.hid (Ints.base I0)
  go_enter Try.func7, Try.ntmps7
  go_wp2_with fail
  refine (toIntS_any A0 n0 c0 z0 _ (I0.below (by repeat (first | exact Below.refl _ _ | assumption | refine belA ?_ | refine belD ?_ | refine belN ?_ | refine belS ?_ (by simp) | refine belT ?_ (by assumption)))) (by omega)).mono ?_
  rintro e w1_ ⟨As0, cs0, rfl, Os0, hb1⟩
  have hn1 : Below w.heap.size w w1_ := (by first | exact hb1 | exact belT (belA (Below.refl _ _)) hb1)
  have hW := hn1
  have hz1 : w.heap.size ≤ w1_.heap.size := by simpa using hb1.size
  replace I0 := I0.below hn1
  have s0 := Own.mk' Os0
  try simp only [World.size_alloc] at s0
  clear Os0
  go_wp2_with fail
  refine (Hs.out As0 cs0 _ s0.ints s0.capw).mono ?_
  rintro e w2_ ⟨rw1, rwc_1, rw2, rwc_2, rw3, rwc_3, rfl, Prw, hb2⟩
  have hn2 : Below w1_.heap.size w1_ w2_ := (by first | exact hb2 | exact belT (belA (Below.refl _ _)) hb2)
  replace hW := belT hW hn2
  have hz2 : w1_.heap.size ≤ w2_.heap.size := by simpa using hb2.size
  replace I0 := I0.below hn2
  replace s0 := s0.below hn2
  have rw : PV w2_ _ _ rw1 rwc_1 rw2 rwc_2 rw3 rwc_3 (z_1, z_2, z_3) := Prw
  try simp only [World.size_alloc] at rw
  clear Prw
  try simp only
  clear s0
  go_wp2_with fail
  refine (toIntS_any A0 n0 c0 z0 _ (I0.below (by repeat (first | exact Below.refl _ _ | assumption | refine belA ?_ | refine belD ?_ | refine belN ?_ | refine belS ?_ (by simp) | refine belT ?_ (by assumption)))) (by omega)).mono ?_
  rintro e w3_ ⟨Ax0_, cx0_, rfl, Ox0_, hb3⟩
  have hn3 : Below w2_.heap.size w2_ w3_ := (by first | exact hb3 | exact belT (belA (Below.refl _ _)) hb3)
  replace hW := belT hW hn3
  have hz3 : w2_.heap.size + 1 ≤ w3_.heap.size := by simpa using hb3.size
  replace I0 := I0.below hn3
  replace rw := rw.below hn3
  have rwc0 : w3_.cell? ⟨w2_.heap.size, 0, none⟩ = some (.slice rw1 z_1.length rwc_1) := keepB hb3 (by rw [World.cell?_alloc_at _ _ _ _ (by simp)]; rfl)
  have rwc1 : w3_.cell? ⟨w2_.heap.size, 1, none⟩ = some (.slice rw2 z_2.length rwc_2) := keepB hb3 (by rw [World.cell?_alloc_at _ _ _ _ (by simp)]; rfl)
  have rwc2 : w3_.cell? ⟨w2_.heap.size, 2, none⟩ = some (.slice rw3 z_3.length rwc_3) := keepB hb3 (by rw [World.cell?_alloc_at _ _ _ _ (by simp)]; rfl)
  have x0_ := Own.mk' Ox0_
  try simp only [World.size_alloc] at x0_
  clear Ox0_
  have rwc0z := World.block_lt_of_cell? _ _ rwc0
  simp only at rwc0z
  go_wp2_with fail
  refine (Hi.out Ax0_ cx0_ _ x0_.ints x0_.capw).mono ?_
  rintro e w4_ ⟨rg1, rgc_1, rg2, rgc_2, rg3, rgc_3, rfl, Prg, hb4⟩
  have hn4 : Below w3_.heap.size w3_ w4_ := (by first | exact hb4 | exact belT (belA (Below.refl _ _)) hb4)
  replace hW := belT hW hn4
  have hz4 : w3_.heap.size ≤ w4_.heap.size := by simpa using hb4.size
  replace I0 := I0.below hn4
  replace rw := rw.below hn4
  replace x0_ := x0_.below hn4
  replace rwc0 := keepB hn4 rwc0
  replace rwc1 := keepB hn4 rwc1
  replace rwc2 := keepB hn4 rwc2
  have rg : PV w4_ _ _ rg1 rgc_1 rg2 rgc_2 rg3 rgc_3 (z_1, z_2, z_3) := Prg
  try simp only [World.size_alloc] at rg
  clear Prg
  try simp only
  clear rwc0z
  have rwc0z := World.block_lt_of_cell? _ _ rwc0
  simp only at rwc0z
  go_wp2_with fail
  refine (eqProof_any rg1 rg2 rg3 rw1 rw2 rw3 _ _ _ rgc_1 rgc_2 rgc_3 rwc_1 rwc_2 rwc_3 z_1 z_2 z_3 _ (rg.below (by repeat (first | exact Below.refl _ _ | assumption | refine belA ?_ | refine belD ?_ | refine belN ?_ | refine belS ?_ (by simp) | refine belT ?_ (by assumption)))).i1 (rg.below (by repeat (first | exact Below.refl _ _ | assumption | refine belA ?_ | refine belD ?_ | refine belN ?_ | refine belS ?_ (by simp) | refine belT ?_ (by assumption)))).i2 (rg.below (by repeat (first | exact Below.refl _ _ | assumption | refine belA ?_ | refine belD ?_ | refine belN ?_ | refine belS ?_ (by simp) | refine belT ?_ (by assumption)))).i3 (rw.below (by repeat (first | exact Below.refl _ _ | assumption | refine belA ?_ | refine belD ?_ | refine belN ?_ | refine belS ?_ (by simp) | refine belT ?_ (by assumption)))).i1 (rw.below (by repeat (first | exact Below.refl _ _ | assumption | refine belA ?_ | refine belD ?_ | refine belN ?_ | refine belS ?_ (by simp) | refine belT ?_ (by assumption)))).i2 (rw.below (by repeat (first | exact Below.refl _ _ | assumption | refine belA ?_ | refine belD ?_ | refine belN ?_ | refine belS ?_ (by simp) | refine belT ?_ (by assumption)))).i3).mono ?_
  rintro e w5_ ⟨rfl, hb5⟩
  have hn5 : Below w4_.heap.size w4_ w5_ := (by first | exact hb5 | exact belT (belA (Below.refl _ _)) hb5)
  replace hW := belT hW hn5
  have hz5 : w4_.heap.size + 1 ≤ w5_.heap.size := by simpa using hb5.size
  replace I0 := I0.below hn5
  replace rw := rw.below hn5
  replace x0_ := x0_.below hn5
  replace rg := rg.below hn5
  replace rwc0 := keepB hn5 rwc0
  replace rwc1 := keepB hn5 rwc1
  replace rwc2 := keepB hn5 rwc2
  have rgc0 : w5_.cell? ⟨w4_.heap.size, 0, none⟩ = some (.slice rg1 z_1.length rgc_1) := keepB hb5 (by rw [World.cell?_alloc_at _ _ _ _ (by simp)]; rfl)
  have rgc1 : w5_.cell? ⟨w4_.heap.size, 1, none⟩ = some (.slice rg2 z_2.length rgc_2) := keepB hb5 (by rw [World.cell?_alloc_at _ _ _ _ (by simp)]; rfl)
  have rgc2 : w5_.cell? ⟨w4_.heap.size, 2, none⟩ = some (.slice rg3 z_3.length rgc_3) := keepB hb5 (by rw [World.cell?_alloc_at _ _ _ _ (by simp)]; rfl)
  clear rwc0z
  have rwc0z := World.block_lt_of_cell? _ _ rwc0
  simp only at rwc0z
  have rgc0z := World.block_lt_of_cell? _ _ rgc0
  simp only at rgc0z
  go_wp2_with fail
  refine (toIntS_any A0 n0 c0 z0 _ I0 (by omega)).mono ?_
  rintro e w6_ ⟨Ay0_, cy0_, rfl, Oy0_, hb6⟩
  have hn6 : Below w5_.heap.size w5_ w6_ := (by first | exact hb6 | exact belT (belA (Below.refl _ _)) hb6)
  replace hW := belT hW hn6
  have hz6 : w5_.heap.size ≤ w6_.heap.size := by simpa using hb6.size
  replace I0 := I0.below hn6
  replace rw := rw.below hn6
  replace x0_ := x0_.below hn6
  replace rg := rg.below hn6
  replace rwc0 := keepB hn6 rwc0
  replace rwc1 := keepB hn6 rwc1
  replace rwc2 := keepB hn6 rwc2
  replace rgc0 := keepB hn6 rgc0
  replace rgc1 := keepB hn6 rgc1
  replace rgc2 := keepB hn6 rgc2
  have y0_ := Own.mk' Oy0_
  clear Oy0_
  clear rwc0z
  clear rgc0z
  have rwc0z := World.block_lt_of_cell? _ _ rwc0
  simp only at rwc0z
  have rgc0z := World.block_lt_of_cell? _ _ rgc0
  simp only at rgc0z
  go_wp2_with fail
  refine (eqIntS_any Ax0_ Ay0_ n0 n0 cx0_ cy0_ z0 z0 _ x0_.ints y0_.ints).mono ?_
  rintro e w7_ ⟨rfl, hb7⟩
  have hn7 : Below w6_.heap.size w6_ w7_ := (by first | exact hb7 | exact belT (belA (Below.refl _ _)) hb7)
  replace hW := belT hW hn7
  have hz7 : w6_.heap.size ≤ w7_.heap.size := by simpa using hb7.size
  replace I0 := I0.below hn7
  replace rw := rw.below hn7
  replace x0_ := x0_.below hn7
  replace rg := rg.below hn7
  replace y0_ := y0_.below hn7
  replace rwc0 := keepB hn7 rwc0
  replace rwc1 := keepB hn7 rwc1
  replace rwc2 := keepB hn7 rwc2
  replace rgc0 := keepB hn7 rgc0
  replace rgc1 := keepB hn7 rgc1
  replace rgc2 := keepB hn7 rgc2
  rw [decide_eq_true (rfl : z0 = z0)]
  clear y0_
  clear rwc0z
  clear rgc0z
  have rwc0z := World.block_lt_of_cell? _ _ rwc0
  simp only at rwc0z
  have rgc0z := World.block_lt_of_cell? _ _ rgc0
  simp only at rgc0z
  go_wp2_with fail
  refine (markIntS_any Ax0_ n0 cx0_ _ _ _ _ _ x0_ (by omega) (by omega) (by omega)).mono ?_
  rintro e w8_ ⟨rfl, Mx0_, hg8⟩
  have sp8 : Spared _ _ w7_ w8_ := Spared.of_grown hg8 (fun k hk => ⟨(x0_.own.lt k hk).1, x0_.lt k hk⟩)
  replace I0 := sp8.ints I0 (fun b off e hb => by have := J0.out b off e hb; omega)
  replace rw := rw.spared sp8 (by omega)
  replace rg := rg.spared sp8 (by omega)
  replace rwc0 := sp8.cell rwc0 (by omega)
  replace rwc1 := sp8.cell rwc1 (by omega)
  replace rwc2 := sp8.cell rwc2 (by omega)
  replace rgc0 := sp8.cell rgc0 (by omega)
  replace rgc1 := sp8.cell rgc1 (by omega)
  replace rgc2 := sp8.cell rgc2 (by omega)
  have hz8 := sp8.size
  replace hW := sp8.below hW (by omega) (by omega)
  clear x0_
  clear Mx0_ hg8
  clear rwc0z
  clear rgc0z
  have rwc0z := World.block_lt_of_cell? _ _ rwc0
  simp only at rwc0z
  have rgc0z := World.block_lt_of_cell? _ _ rgc0
  simp only at rgc0z
  go_wp2_with fail
  refine (eqProof_any rg1 rg2 rg3 rw1 rw2 rw3 _ _ _ rgc_1 rgc_2 rgc_3 rwc_1 rwc_2 rwc_3 z_1 z_2 z_3 _ (rg.below (by repeat (first | exact Below.refl _ _ | assumption | refine belA ?_ | refine belD ?_ | refine belN ?_ | refine belS ?_ (by simp) | refine belT ?_ (by assumption)))).i1 (rg.below (by repeat (first | exact Below.refl _ _ | assumption | refine belA ?_ | refine belD ?_ | refine belN ?_ | refine belS ?_ (by simp) | refine belT ?_ (by assumption)))).i2 (rg.below (by repeat (first | exact Below.refl _ _ | assumption | refine belA ?_ | refine belD ?_ | refine belN ?_ | refine belS ?_ (by simp) | refine belT ?_ (by assumption)))).i3 (rw.below (by repeat (first | exact Below.refl _ _ | assumption | refine belA ?_ | refine belD ?_ | refine belN ?_ | refine belS ?_ (by simp) | refine belT ?_ (by assumption)))).i1 (rw.below (by repeat (first | exact Below.refl _ _ | assumption | refine belA ?_ | refine belD ?_ | refine belN ?_ | refine belS ?_ (by simp) | refine belT ?_ (by assumption)))).i2 (rw.below (by repeat (first | exact Below.refl _ _ | assumption | refine belA ?_ | refine belD ?_ | refine belN ?_ | refine belS ?_ (by simp) | refine belT ?_ (by assumption)))).i3).mono ?_
  rintro e w9_ ⟨rfl, hb9⟩
  have hn9 : Below w8_.heap.size w8_ w9_ := (by first | exact hb9 | exact belT (belA (Below.refl _ _)) hb9)
  replace hW := belT hW hn9
  have hz9 : w8_.heap.size ≤ w9_.heap.size := by simpa using hb9.size
  replace I0 := I0.below hn9
  replace rw := rw.below hn9
  replace rg := rg.below hn9
  replace rwc0 := keepB hn9 rwc0
  replace rwc1 := keepB hn9 rwc1
  replace rwc2 := keepB hn9 rwc2
  replace rgc0 := keepB hn9 rgc0
  replace rgc1 := keepB hn9 rgc1
  replace rgc2 := keepB hn9 rgc2
  clear rwc0z
  clear rgc0z
  have rwc0z := World.block_lt_of_cell? _ _ rwc0
  simp only at rwc0z
  have rgc0z := World.block_lt_of_cell? _ _ rgc0
  simp only at rgc0z
  go_wp2_with fail
  refine (markProof_any rg1 rg2 rg3 rgc_1 rgc_2 rgc_3 (z_1, z_2, z_3) 1 _ _ _ rg (by omega) (by omega) (by omega) (by simpa [plen] using (show (z_1.length : Int) + z_2.length + z_3.length ≤ 1000000000000000000 by omega))).mono ?_
  rintro e w10_ ⟨rfl, m1_, m2_, m3_, sp10⟩
  replace I0 := sp10.ints I0 (fun b off e hb => by have := J0.out b off e hb; omega)
  replace rw := rw.spared sp10 (by omega)
  replace rwc0 := sp10.cell rwc0 (by omega)
  replace rwc1 := sp10.cell rwc1 (by omega)
  replace rwc2 := sp10.cell rwc2 (by omega)
  replace rgc0 := sp10.cell rgc0 (by omega)
  replace rgc1 := sp10.cell rgc1 (by omega)
  replace rgc2 := sp10.cell rgc2 (by omega)
  have hz10 := sp10.size
  replace hW := sp10.below hW (by omega) (by omega)
  clear rg
  have HP0 : Hid ((0 : Int) ≤ plen (z_1, z_2, z_3)) := Lib.hid (by simp only [plen]; omega)
  have hpl := HP0.out
  generalize hPL : plen (z_1, z_2, z_3) = pl at hpl
  have HPL := Lib.hid hPL
  clear hPL HP0
  clear rwc0z
  clear rgc0z
  have rwc0z := World.block_lt_of_cell? _ _ rwc0
  simp only at rwc0z
  have rgc0z := World.block_lt_of_cell? _ _ rgc0
  simp only at rgc0z
  go_wp2_with fail
  refine (heldProof_any rg1 rg2 rg3 rgc_1 rgc_2 rgc_3 (z_1, z_2, z_3) 1 _ m1_ m2_ m3_ (by omega) (by omega) (by simpa [plen] using (show (z_1.length : Int) + z_2.length + z_3.length ≤ 1000000000000000000 by omega))).mono ?_
  rintro e w11_ ⟨rfl, hb11⟩
  have hn11 : Below w10_.heap.size w10_ w11_ := (by first | exact hb11 | exact belT (belA (Below.refl _ _)) hb11)
  replace hW := belT hW hn11
  have hz11 : w10_.heap.size ≤ w11_.heap.size := by simpa using hb11.size
  replace I0 := I0.below hn11
  replace rw := rw.below hn11
  replace m1_ := m1_.below hn11
  replace m2_ := m2_.below hn11
  replace m3_ := m3_.below hn11
  replace rwc0 := keepB hn11 rwc0
  replace rwc1 := keepB hn11 rwc1
  replace rwc2 := keepB hn11 rwc2
  replace rgc0 := keepB hn11 rgc0
  replace rgc1 := keepB hn11 rgc1
  replace rgc2 := keepB hn11 rgc2
  rw [HPL.out]
  clear rwc0z
  clear rgc0z
  have rwc0z := World.block_lt_of_cell? _ _ rwc0
  simp only at rwc0z
  have rgc0z := World.block_lt_of_cell? _ _ rgc0
  simp only at rgc0z
  go_wp2_with fail
  refine (toIntS_any A0 n0 c0 z0 _ (I0.below (by repeat (first | exact Below.refl _ _ | assumption | refine belA ?_ | refine belD ?_ | refine belN ?_ | refine belS ?_ (by simp) | refine belT ?_ (by assumption)))) (by omega)).mono ?_
  rintro e w12_ ⟨At0, ct0, rfl, Ot0, hb12⟩
  have hn12 : Below w11_.heap.size w11_ w12_ := (by first | exact hb12 | exact belT (belA (Below.refl _ _)) hb12)
  replace hW := belT hW hn12
  have hz12 : w11_.heap.size ≤ w12_.heap.size := by simpa using hb12.size
  replace I0 := I0.below hn12
  replace rw := rw.below hn12
  replace m1_ := m1_.below hn12
  replace m2_ := m2_.below hn12
  replace m3_ := m3_.below hn12
  replace rwc0 := keepB hn12 rwc0
  replace rwc1 := keepB hn12 rwc1
  replace rwc2 := keepB hn12 rwc2
  replace rgc0 := keepB hn12 rgc0
  replace rgc1 := keepB hn12 rgc1
  replace rgc2 := keepB hn12 rgc2
  have t0 := Own.mk' Ot0
  try simp only [World.size_alloc] at t0
  clear Ot0
  clear rwc0z
  clear rgc0z
  have rwc0z := World.block_lt_of_cell? _ _ rwc0
  simp only at rwc0z
  have rgc0z := World.block_lt_of_cell? _ _ rgc0
  simp only at rgc0z
  go_wp2_with fail
  refine (Hi.out At0 ct0 _ t0.ints t0.capw).mono ?_
  rintro e w13_ ⟨rh1, rhc_1, rh2, rhc_2, rh3, rhc_3, rfl, Prh, hb13⟩
  have hn13 : Below w12_.heap.size w12_ w13_ := (by first | exact hb13 | exact belT (belA (Below.refl _ _)) hb13)
  replace hW := belT hW hn13
  have hz13 : w12_.heap.size ≤ w13_.heap.size := by simpa using hb13.size
  replace I0 := I0.below hn13
  replace rw := rw.below hn13
  replace m1_ := m1_.below hn13
  replace m2_ := m2_.below hn13
  replace m3_ := m3_.below hn13
  replace t0 := t0.below hn13
  replace rwc0 := keepB hn13 rwc0
  replace rwc1 := keepB hn13 rwc1
  replace rwc2 := keepB hn13 rwc2
  replace rgc0 := keepB hn13 rgc0
  replace rgc1 := keepB hn13 rgc1
  replace rgc2 := keepB hn13 rgc2
  have rh : PV w13_ _ _ rh1 rhc_1 rh2 rhc_2 rh3 rhc_3 (z_1, z_2, z_3) := Prh
  try simp only [World.size_alloc] at rh
  clear Prh
  try simp only
  clear t0
  clear rwc0z
  clear rgc0z
  have rwc0z := World.block_lt_of_cell? _ _ rwc0
  simp only at rwc0z
  have rgc0z := World.block_lt_of_cell? _ _ rgc0
  simp only at rgc0z
  go_wp2_with fail
  refine (eqProof_any rh1 rh2 rh3 rw1 rw2 rw3 _ _ _ rhc_1 rhc_2 rhc_3 rwc_1 rwc_2 rwc_3 z_1 z_2 z_3 _ (rh.below (by repeat (first | exact Below.refl _ _ | assumption | refine belA ?_ | refine belD ?_ | refine belN ?_ | refine belS ?_ (by simp) | refine belT ?_ (by assumption)))).i1 (rh.below (by repeat (first | exact Below.refl _ _ | assumption | refine belA ?_ | refine belD ?_ | refine belN ?_ | refine belS ?_ (by simp) | refine belT ?_ (by assumption)))).i2 (rh.below (by repeat (first | exact Below.refl _ _ | assumption | refine belA ?_ | refine belD ?_ | refine belN ?_ | refine belS ?_ (by simp) | refine belT ?_ (by assumption)))).i3 (rw.below (by repeat (first | exact Below.refl _ _ | assumption | refine belA ?_ | refine belD ?_ | refine belN ?_ | refine belS ?_ (by simp) | refine belT ?_ (by assumption)))).i1 (rw.below (by repeat (first | exact Below.refl _ _ | assumption | refine belA ?_ | refine belD ?_ | refine belN ?_ | refine belS ?_ (by simp) | refine belT ?_ (by assumption)))).i2 (rw.below (by repeat (first | exact Below.refl _ _ | assumption | refine belA ?_ | refine belD ?_ | refine belN ?_ | refine belS ?_ (by simp) | refine belT ?_ (by assumption)))).i3).mono ?_
  rintro e w14_ ⟨rfl, hb14⟩
  have hn14 : Below w13_.heap.size w13_ w14_ := (by first | exact hb14 | exact belT (belA (Below.refl _ _)) hb14)
  replace hW := belT hW hn14
  have hz14 : w13_.heap.size + 1 ≤ w14_.heap.size := by simpa using hb14.size
  replace I0 := I0.below hn14
  replace rw := rw.below hn14
  replace m1_ := m1_.below hn14
  replace m2_ := m2_.below hn14
  replace m3_ := m3_.below hn14
  replace rh := rh.below hn14
  replace rwc0 := keepB hn14 rwc0
  replace rwc1 := keepB hn14 rwc1
  replace rwc2 := keepB hn14 rwc2
  replace rgc0 := keepB hn14 rgc0
  replace rgc1 := keepB hn14 rgc1
  replace rgc2 := keepB hn14 rgc2
  have rhc0 : w14_.cell? ⟨w13_.heap.size, 0, none⟩ = some (.slice rh1 z_1.length rhc_1) := keepB hb14 (by rw [World.cell?_alloc_at _ _ _ _ (by simp)]; rfl)
  have rhc1 : w14_.cell? ⟨w13_.heap.size, 1, none⟩ = some (.slice rh2 z_2.length rhc_2) := keepB hb14 (by rw [World.cell?_alloc_at _ _ _ _ (by simp)]; rfl)
  have rhc2 : w14_.cell? ⟨w13_.heap.size, 2, none⟩ = some (.slice rh3 z_3.length rhc_3) := keepB hb14 (by rw [World.cell?_alloc_at _ _ _ _ (by simp)]; rfl)
  clear rwc0z
  clear rgc0z
  have rwc0z := World.block_lt_of_cell? _ _ rwc0
  simp only at rwc0z
  have rgc0z := World.block_lt_of_cell? _ _ rgc0
  simp only at rgc0z
  have rhc0z := World.block_lt_of_cell? _ _ rhc0
  simp only at rhc0z
  go_wp2_with fail
  refine (heldProof_any rg1 rg2 rg3 rgc_1 rgc_2 rgc_3 (z_1, z_2, z_3) 1 _ m1_ m2_ m3_ (by omega) (by omega) (by simpa [plen] using (show (z_1.length : Int) + z_2.length + z_3.length ≤ 1000000000000000000 by omega))).mono ?_
  rintro e w15_ ⟨rfl, hb15⟩
  have hn15 : Below w14_.heap.size w14_ w15_ := (by first | exact hb15 | exact belT (belA (Below.refl _ _)) hb15)
  replace hW := belT hW hn15
  have hz15 : w14_.heap.size ≤ w15_.heap.size := by simpa using hb15.size
  replace I0 := I0.below hn15
  replace rw := rw.below hn15
  replace m1_ := m1_.below hn15
  replace m2_ := m2_.below hn15
  replace m3_ := m3_.below hn15
  replace rh := rh.below hn15
  replace rwc0 := keepB hn15 rwc0
  replace rwc1 := keepB hn15 rwc1
  replace rwc2 := keepB hn15 rwc2
  replace rgc0 := keepB hn15 rgc0
  replace rgc1 := keepB hn15 rgc1
  replace rgc2 := keepB hn15 rgc2
  replace rhc0 := keepB hn15 rhc0
  replace rhc1 := keepB hn15 rhc1
  replace rhc2 := keepB hn15 rhc2
  rw [HPL.out]
  clear rwc0z
  clear rgc0z
  clear rhc0z
  have rwc0z := World.block_lt_of_cell? _ _ rwc0
  simp only at rwc0z
  have rgc0z := World.block_lt_of_cell? _ _ rgc0
  simp only at rgc0z
  have rhc0z := World.block_lt_of_cell? _ _ rhc0
  simp only at rhc0z
  go_wp2
  go_ret
  exact ⟨rfl, hW⟩

set_option maxRecDepth 100000 in
theorem lifted_FnExactDecodeProof (os : Os) (started : os.Started) (H : Type) (enc : TypeId × Value → H) :
    ReturnsInHanded {} Try.checked os 7 .any (Rows.fnExactDecodeProofSpec.pre6 enc Try.prog Try.f7 Rows.fnExactDecodeProofRow.domain false) (Rows.fnExactDecodeProofSpec.post enc Try.prog Try.f7 false true false false) := by
  refine returnsInHanded_of_change (C := Try.checked) own started (by kernel_rfl) Try.func7
    (ChangeSpec.witness6 (enc := enc) (C := Try.checked) false ⟨#[], #[.slice none 0 0], []⟩ 8 (by kernel_rfl) (by kernel_rfl) (by kernel_rfl) (by kernel_rfl)) ?_
  intro W base args ds gs before hval0 hW hcnd _
  have hval : ∀ (j : Nat) t v, Try.f7.params[j]? = some t → args[j]? = some v → Value.okWide Try.prog W .any base t v := hval0
  have hW' := hW
  obtain ⟨p, q, hA0, hV, rfl, hfz, hnd⟩ := hW
  have hA : DataW.TrodAll enc Try.prog W 0 (fun _ => true) true Try.f7.params.toList args.toList ds p := hA0
  rw [Try.params7] at hA hval
  obtain ⟨v0, vs0, d0, ds0, p0, q0, hargs, rfl, rfl, h0, r0⟩ := trodAll_cons hA
  obtain ⟨rfl, rfl, rfl⟩ := trodAll_nil r0
  obtain rfl : args = #[v0] := by cases args; simp_all
  obtain ⟨rfl, rfl⟩ := trodVars_none hV
  have k0 := h0
  have lt0 : ∀ x ∈ p0, x.block < W.heap.size := by obtain ⟨m, hm⟩ := k0; exact DataW.trod_lt m _ _ _ hm
  obtain ⟨a0, len0, cap0, rfl⟩ := okWide_slice Try.underlying24 (hval 0 24 v0 rfl rfl)
  obtain ⟨z0, w0⟩ : ∃ zs, IsRow .i64 W a0 len0 cap0 zs := by
    obtain ⟨fuel, hf⟩ := h0
    rcases open_ints Try.underlying24 Try.underlying3 (by kernel_rfl) hf with ⟨hcs, _⟩ | ⟨x, l, c, zs, hcs, _, hl, hm, hz, _, hcell, hwz⟩
    · simp [Value.cells] at hcs
      obtain ⟨rfl, rfl, rfl⟩ := hcs
      exact ⟨[], .inl ⟨rfl, rfl, rfl, rfl⟩⟩
    · simp [Value.cells] at hcs
      obtain ⟨rfl, rfl, rfl⟩ := hcs
      exact ⟨zs, .inr ⟨_, rfl, hl, hm, by simpa using hz, hcell, hwz⟩⟩
  clear hA0 hval0
  refine (walk_FnExactDecodeProof (w := W) a0 len0 cap0 z0 w0).mono fun e W' ⟨he, bel⟩ => ?_
  subst he
  exact ⟨_, rfl, _, _, _, [], _, [], hW', trodAll_mk1 (shut_bool Try.underlying4 _), (trodAll_cons_mk (Below.trod laidOut (by kernel_rfl) (of_decide_eq_true (by kernel_rfl)) k0 bel lt0) trodAll_mk0), rfl, bel.frame _, fun h => by cases h⟩

theorem over_FnExactDecodeProof : Rows.fnExactDecodeProofRow.holds Try.pinned (OpenSpec.ofChange Rows.fnExactDecodeProofSpec) :=
  OpenClaim.holds_of_wide 7 Try.f7 rfl rfl rfl rfl rfl rfl rfl ⟨rfl, rfl, rfl, rfl, rfl⟩ rfl rfl rfl rfl rfl (by kernel_rfl) Try.func7 (by kernel_rfl)
    (of_decide_eq_true (by kernel_rfl)) (by unfold Func.isWrapper; first | (rw [if_pos (by decide +kernel)]; kernel_rfl) | (rw [if_neg (by decide +kernel)]; exact ⟨rfl, rfl⟩))
    (fun os started H enc _ => lifted_FnExactDecodeProof os started H enc)

theorem proved_FnExactDecodeProof : Rows.FnExactDecodeProofSaid := over_FnExactDecodeProof
#print axioms proved_FnExactDecodeProof
end Go.Proofs.Yteeggmnkcgpfjaa
