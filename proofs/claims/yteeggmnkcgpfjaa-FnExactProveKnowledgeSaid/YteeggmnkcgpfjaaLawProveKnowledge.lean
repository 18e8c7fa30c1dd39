/- The program's ProveKnowledge returns what the reference's ProveKnowledge returns, for all arguments: proved with no condition. -/
import Derived.Test.YteeggmnkcgpfjaaPt
import Derived.Test.YteeggmnkcgpfjaaLw
namespace Go.Proofs.Yteeggmnkcgpfjaa
open Go.ChangeShapes Go.WideShapes Go.ChangeAt Go.RowKit Go.Joins
open Go.ChangeMaps (open_string shut_string)
set_option linter.unusedVariables false
set_option maxHeartbeats 4000000 in
theorem walk_FnExactProveKnowledge (w : World) (p0 q0 g0 : Int) (w0a : (Lit.int .i64 p0).wf = true) (w0b : (Lit.int .i64 q0).wf = true) (w0c : (Lit.int .i64 g0).wf = true) (s1 : ByteArray) (w1 : s1.size ≤ maxLen) (x2 : Int) (w2 : (Lit.int .i64 x2).wf = true) (x3 : Int) (w3 : (Lit.int .i64 x3).wf = true) (x4 : Int) (w4 : (Lit.int .i64 x4).wf = true) :
    Calls Try.prog 11 #[.agg #[.int .i64 p0, .int .i64 q0, .int .i64 g0], .string s1, .int .i64 x2, .int .i64 x3, .int .i64 x4] w fun e w' => e = .returned (.bool true) ∧ Below w.heap.size w w' := by
  clear w0a w0b w0c w2 w3 w4
  by_cases big0 : 1048576 < s1.size
  · go_enter Try.func11, Try.ntmps11
    go_wp2
    go_ret
    exact ⟨rfl, (by repeat (first | exact Below.refl _ _ | assumption | refine belA ?_ | refine belD ?_ | refine belN ?_ | refine belS ?_ (by simp) | refine belT ?_ (by assumption)))⟩
  have hs := fun (W : World) => sProveKnowledge_any p0 q0 g0 s1 x2 x3 x4 W (by omega)
  have hi := fun (W : World) => iProveKnowledge_any p0 q0 g0 s1 x2 x3 x4 W (by omega)
  have L0 : plen (plM p0 q0 g0 s1 [[x2]] [x3] [x4]).1 ≤ 100000000000000 := by (exact plM_len _ _ _ _ _ _ _)
  generalize plM p0 q0 g0 s1 [[x2]] [x3] [x4] = r at hs hi L0
  obtain ⟨⟨z_1, z_2, z_3⟩, ok_⟩ := r
  have L1 : (z_1.length : Int) + (z_2.length : Int) + (z_3.length : Int) ≤ 100000000000000 := L0
  have Hs := Lib.hid hs
  have Hi := Lib.hid hi
  clear hs hi
  go_enter Try.func11, Try.ntmps11
  go_wp2_with fail
  refine (toGroup_any _ _ _ _).mono ?_
  rintro e w1_ ⟨rfl, hb1⟩
  have hn1 : Below w.heap.size w w1_ := (by first | exact hb1 | exact belT (belA (Below.refl _ _)) hb1)
  have hW := hn1
  have hz1 : w.heap.size + 1 ≤ w1_.heap.size := by simpa using hb1.size
  have gc0 : w1_.cell? ⟨w.heap.size, 0, none⟩ = some (.int .i64 p0) := keepB hb1 (by rw [World.cell?_alloc_at _ _ _ _ (by simp)]; rfl)
  have gc1 : w1_.cell? ⟨w.heap.size, 1, none⟩ = some (.int .i64 q0) := keepB hb1 (by rw [World.cell?_alloc_at _ _ _ _ (by simp)]; rfl)
  have gc2 : w1_.cell? ⟨w.heap.size, 2, none⟩ = some (.int .i64 g0) := keepB hb1 (by rw [World.cell?_alloc_at _ _ _ _ (by simp)]; rfl)
  have gc0z := World.block_lt_of_cell? _ _ gc0
  simp only at gc0z
  go_wp2_with fail
  refine (Hs.out _).mono ?_
  rintro e w2_ ⟨rw1, rwc_1, rw2, rwc_2, rw3, rwc_3, rfl, Prw, hb2⟩
  have hn2 : Below w1_.heap.size w1_ w2_ := (by first | exact hb2 | exact belT (belA (Below.refl _ _)) hb2)
  replace hW := belT hW hn2
  have hz2 : w1_.heap.size ≤ w2_.heap.size := by simpa using hb2.size
  replace gc0 := keepB hn2 gc0
  replace gc1 := keepB hn2 gc1
  replace gc2 := keepB hn2 gc2
  have rw : PV w2_ _ _ rw1 rwc_1 rw2 rwc_2 rw3 rwc_3 (z_1, z_2, z_3) := Prw
  try simp only [World.size_alloc] at rw
  clear Prw
  try simp only
  clear gc0z
  have gc0z := World.block_lt_of_cell? _ _ gc0
  simp only at gc0z
  go_wp2_with fail
  refine (toGroup_any _ _ _ _).mono ?_
  rintro e w3_ ⟨rfl, hb3⟩
  have hn3 : Below w2_.heap.size w2_ w3_ := (by first | exact hb3 | exact belT (belA (Below.refl _ _)) hb3)
  replace hW := belT hW hn3
  have hz3 : w2_.heap.size + 1 ≤ w3_.heap.size := by simpa using hb3.size
  replace rw := rw.below hn3
  replace gc0 := keepB hn3 gc0
  replace gc1 := keepB hn3 gc1
  replace gc2 := keepB hn3 gc2
  have rwc0 : w3_.cell? ⟨w2_.heap.size, 0, none⟩ = some (.slice rw1 z_1.length rwc_1) := keepB hb3 (by rw [World.cell?_alloc_at _ _ _ _ (by simp)]; rfl)
  have rwc1 : w3_.cell? ⟨w2_.heap.size, 1, none⟩ = some (.slice rw2 z_2.length rwc_2) := keepB hb3 (by rw [World.cell?_alloc_at _ _ _ _ (by simp)]; rfl)
  have rwc2 : w3_.cell? ⟨w2_.heap.size, 2, none⟩ = some (.slice rw3 z_3.length rwc_3) := keepB hb3 (by rw [World.cell?_alloc_at _ _ _ _ (by simp)]; rfl)
  clear gc0z
  have gc0z := World.block_lt_of_cell? _ _ gc0
  simp only at gc0z
  have rwc0z := World.block_lt_of_cell? _ _ rwc0
  simp only at rwc0z
  go_wp2_with fail
  refine (Hi.out _).mono ?_
  rintro e w4_ ⟨rg1, rgc_1, rg2, rgc_2, rg3, rgc_3, rfl, Prg, hb4⟩
  have hn4 : Below w3_.heap.size w3_ w4_ := (by first | exact hb4 | exact belT (belA (Below.refl _ _)) hb4)
  replace hW := belT hW hn4
  have hz4 : w3_.heap.size ≤ w4_.heap.size := by simpa using hb4.size
  replace rw := rw.below hn4
  replace gc0 := keepB hn4 gc0
  replace gc1 := keepB hn4 gc1
  replace gc2 := keepB hn4 gc2
  replace rwc0 := keepB hn4 rwc0
  replace rwc1 := keepB hn4 rwc1
  replace rwc2 := keepB hn4 rwc2
  have rg : PV w4_ _ _ rg1 rgc_1 rg2 rgc_2 rg3 rgc_3 (z_1, z_2, z_3) := Prg
  try simp only [World.size_alloc] at rg
  clear Prg
  try simp only
  clear gc0z
  clear rwc0z
  have gc0z := World.block_lt_of_cell? _ _ gc0
  simp only at gc0z
  have rwc0z := World.block_lt_of_cell? _ _ rwc0
  simp only at rwc0z
  go_wp2_with fail
  refine (eqProof_any rg1 rg2 rg3 rw1 rw2 rw3 _ _ _ rgc_1 rgc_2 rgc_3 rwc_1 rwc_2 rwc_3 z_1 z_2 z_3 _ (rg.below (by repeat (first | exact Below.refl _ _ | assumption | refine belA ?_ | refine belD ?_ | refine belN ?_ | refine belS ?_ (by simp) | refine belT ?_ (by assumption)))).i1 (rg.below (by repeat (first | exact Below.refl _ _ | assumption | refine belA ?_ | refine belD ?_ | refine belN ?_ | refine belS ?_ (by simp) | refine belT ?_ (by assumption)))).i2 (rg.below (by repeat (first | exact Below.refl _ _ | assumption | refine belA ?_ | refine belD ?_ | refine belN ?_ | refine belS ?_ (by simp) | refine belT ?_ (by assumption)))).i3 (rw.below (by repeat (first | exact Below.refl _ _ | assumption | refine belA ?_ | refine belD ?_ | refine belN ?_ | refine belS ?_ (by simp) | refine belT ?_ (by assumption)))).i1 (rw.below (by repeat (first | exact Below.refl _ _ | assumption | refine belA ?_ | refine belD ?_ | refine belN ?_ | refine belS ?_ (by simp) | refine belT ?_ (by assumption)))).i2 (rw.below (by repeat (first | exact Below.refl _ _ | assumption | refine belA ?_ | refine belD ?_ | refine belN ?_ | refine belS ?_ (by simp) | refine belT ?_ (by assumption)))).i3).mono ?_
  rintro e w5_ ⟨rfl, hb5⟩
  have hn5 : Below w4_.heap.size w4_ w5_ := (by first | exact hb5 | exact belT (belA (Below.refl _ _)) hb5)
  replace hW := belT hW hn5
  have hz5 : w4_.heap.size + 1 ≤ w5_.heap.size := by simpa using hb5.size
  replace rw := rw.below hn5
  replace rg := rg.below hn5
  replace gc0 := keepB hn5 gc0
  replace gc1 := keepB hn5 gc1
  replace gc2 := keepB hn5 gc2
  replace rwc0 := keepB hn5 rwc0
  replace rwc1 := keepB hn5 rwc1
  replace rwc2 := keepB hn5 rwc2
  have rgc0 : w5_.cell? ⟨w4_.heap.size, 0, none⟩ = some (.slice rg1 z_1.length rgc_1) := keepB hb5 (by rw [World.cell?_alloc_at _ _ _ _ (by simp)]; rfl)
  have rgc1 : w5_.cell? ⟨w4_.heap.size, 1, none⟩ = some (.slice rg2 z_2.length rgc_2) := keepB hb5 (by rw [World.cell?_alloc_at _ _ _ _ (by simp)]; rfl)
  have rgc2 : w5_.cell? ⟨w4_.heap.size, 2, none⟩ = some (.slice rg3 z_3.length rgc_3) := keepB hb5 (by rw [World.cell?_alloc_at _ _ _ _ (by simp)]; rfl)
  clear gc0z
  clear rwc0z
  have gc0z := World.block_lt_of_cell? _ _ gc0
  simp only at gc0z
  have rwc0z := World.block_lt_of_cell? _ _ rwc0
  simp only at rwc0z
  have rgc0z := World.block_lt_of_cell? _ _ rgc0
  simp only at rgc0z
  go_wp2_with fail
  refine (markProof_any rg1 rg2 rg3 rgc_1 rgc_2 rgc_3 (z_1, z_2, z_3) 1 _ _ _ rg (by omega) (by omega) (by omega) (by simpa [plen] using (show (z_1.length : Int) + z_2.length + z_3.length ≤ 1000000000000000000 by omega))).mono ?_
  rintro e w6_ ⟨rfl, m1_, m2_, m3_, sp6⟩
  replace rw := rw.spared sp6 (by omega)
  replace gc0 := sp6.cell gc0 (by omega)
  replace gc1 := sp6.cell gc1 (by omega)
  replace gc2 := sp6.cell gc2 (by omega)
  replace rwc0 := sp6.cell rwc0 (by omega)
  replace rwc1 := sp6.cell rwc1 (by omega)
  replace rwc2 := sp6.cell rwc2 (by omega)
  replace rgc0 := sp6.cell rgc0 (by omega)
  replace rgc1 := sp6.cell rgc1 (by omega)
  replace rgc2 := sp6.cell rgc2 (by omega)
  have hz6 := sp6.size
  replace hW := sp6.below hW (by omega) (by omega)
  clear rg
  have HP0 : Hid ((0 : Int) ≤ plen (z_1, z_2, z_3)) := Lib.hid (by simp only [plen]; omega)
  have hpl := HP0.out
  generalize hPL : plen (z_1, z_2, z_3) = pl at hpl
  have HPL := Lib.hid hPL
  clear hPL HP0
  clear gc0z
  clear rwc0z
  clear rgc0z
  have gc0z := World.block_lt_of_cell? _ _ gc0
  simp only at gc0z
  have rwc0z := World.block_lt_of_cell? _ _ rwc0
  simp only at rwc0z
  have rgc0z := World.block_lt_of_cell? _ _ rgc0
  simp only at rgc0z
  go_wp2_with fail
  refine (heldProof_any rg1 rg2 rg3 rgc_1 rgc_2 rgc_3 (z_1, z_2, z_3) 1 _ m1_ m2_ m3_ (by omega) (by omega) (by simpa [plen] using (show (z_1.length : Int) + z_2.length + z_3.length ≤ 1000000000000000000 by omega))).mono ?_
  rintro e w7_ ⟨rfl, hb7⟩
  have hn7 : Below w6_.heap.size w6_ w7_ := (by first | exact hb7 | exact belT (belA (Below.refl _ _)) hb7)
  replace hW := belT hW hn7
  have hz7 : w6_.heap.size ≤ w7_.heap.size := by simpa using hb7.size
  replace rw := rw.below hn7
  replace m1_ := m1_.below hn7
  replace m2_ := m2_.below hn7
  replace m3_ := m3_.below hn7
  replace gc0 := keepB hn7 gc0
  replace gc1 := keepB hn7 gc1
  replace gc2 := keepB hn7 gc2
  replace rwc0 := keepB hn7 rwc0
  replace rwc1 := keepB hn7 rwc1
  replace rwc2 := keepB hn7 rwc2
  replace rgc0 := keepB hn7 rgc0
  replace rgc1 := keepB hn7 rgc1
  replace rgc2 := keepB hn7 rgc2
  rw [HPL.out]
  clear gc0z
  clear rwc0z
  clear rgc0z
  have gc0z := World.block_lt_of_cell? _ _ gc0
  simp only at gc0z
  have rwc0z := World.block_lt_of_cell? _ _ rwc0
  simp only at rwc0z
  have rgc0z := World.block_lt_of_cell? _ _ rgc0
  simp only at rgc0z
  go_wp2_with fail
  refine (toGroup_any _ _ _ _).mono ?_
  rintro e w8_ ⟨rfl, hb8⟩
  have hn8 : Below w7_.heap.size w7_ w8_ := (by first | exact hb8 | exact belT (belA (Below.refl _ _)) hb8)
  replace hW := belT hW hn8
  have hz8 : w7_.heap.size ≤ w8_.heap.size := by simpa using hb8.size
  replace rw := rw.below hn8
  replace m1_ := m1_.below hn8
  replace m2_ := m2_.below hn8
  replace m3_ := m3_.below hn8
  replace gc0 := keepB hn8 gc0
  replace gc1 := keepB hn8 gc1
  replace gc2 := keepB hn8 gc2
  replace rwc0 := keepB hn8 rwc0
  replace rwc1 := keepB hn8 rwc1
  replace rwc2 := keepB hn8 rwc2
  replace rgc0 := keepB hn8 rgc0
  replace rgc1 := keepB hn8 rgc1
  replace rgc2 := keepB hn8 rgc2
  clear gc0z
  clear rwc0z
  clear rgc0z
  have gc0z := World.block_lt_of_cell? _ _ gc0
  simp only at gc0z
  have rwc0z := World.block_lt_of_cell? _ _ rwc0
  simp only at rwc0z
  have rgc0z := World.block_lt_of_cell? _ _ rgc0
  simp only at rgc0z
  go_wp2_with fail
  refine (Hi.out _).mono ?_
  rintro e w9_ ⟨rh1, rhc_1, rh2, rhc_2, rh3, rhc_3, rfl, Prh, hb9⟩
  have hn9 : Below w8_.heap.size w8_ w9_ := (by first | exact hb9 | exact belT (belA (Below.refl _ _)) hb9)
  replace hW := belT hW hn9
  have hz9 : w8_.heap.size ≤ w9_.heap.size := by simpa using hb9.size
  replace rw := rw.below hn9
  replace m1_ := m1_.below hn9
  replace m2_ := m2_.below hn9
  replace m3_ := m3_.below hn9
  replace gc0 := keepB hn9 gc0
  replace gc1 := keepB hn9 gc1
  replace gc2 := keepB hn9 gc2
  replace rwc0 := keepB hn9 rwc0
  replace rwc1 := keepB hn9 rwc1
  replace rwc2 := keepB hn9 rwc2
  replace rgc0 := keepB hn9 rgc0
  replace rgc1 := keepB hn9 rgc1
  replace rgc2 := keepB hn9 rgc2
  have rh : PV w9_ _ _ rh1 rhc_1 rh2 rhc_2 rh3 rhc_3 (z_1, z_2, z_3) := Prh
  try simp only [World.size_alloc] at rh
  clear Prh
  try simp only
  clear gc0z
  clear rwc0z
  clear rgc0z
  have gc0z := World.block_lt_of_cell? _ _ gc0
  simp only at gc0z
  have rwc0z := World.block_lt_of_cell? _ _ rwc0
  simp only at rwc0z
  have rgc0z := World.block_lt_of_cell? _ _ rgc0
  simp only at rgc0z
  go_wp2_with fail
  refine (eqProof_any rh1 rh2 rh3 rw1 rw2 rw3 _ _ _ rhc_1 rhc_2 rhc_3 rwc_1 rwc_2 rwc_3 z_1 z_2 z_3 _ (rh.below (by repeat (first | exact Below.refl _ _ | assumption | refine belA ?_ | refine belD ?_ | refine belN ?_ | refine belS ?_ (by simp) | refine belT ?_ (by assumption)))).i1 (rh.below (by repeat (first | exact Below.refl _ _ | assumption | refine belA ?_ | refine belD ?_ | refine belN ?_ | refine belS ?_ (by simp) | refine belT ?_ (by assumption)))).i2 (rh.below (by repeat (first | exact Below.refl _ _ | assumption | refine belA ?_ | refine belD ?_ | refine belN ?_ | refine belS ?_ (by simp) | refine belT ?_ (by assumption)))).i3 (rw.below (by repeat (first | exact Below.refl _ _ | assumption | refine belA ?_ | refine belD ?_ | refine belN ?_ | refine belS ?_ (by simp) | refine belT ?_ (by assumption)))).i1 (rw.below (by repeat (first | exact Below.refl _ _ | assumption | refine belA ?_ | refine belD ?_ | refine belN ?_ | refine belS ?_ (by simp) | refine belT ?_ (by assumption)))).i2 (rw.below (by repeat (first | exact Below.refl _ _ | assumption | refine belA ?_ | refine belD ?_ | refine belN ?_ | refine belS ?_ (by simp) | refine belT ?_ (by assumption)))).i3).mono ?_
  rintro e w10_ ⟨rfl, hb10⟩
  have hn10 : Below w9_.heap.size w9_ w10_ := (by first | exact hb10 | exact belT (belA (Below.refl _ _)) hb10)
  replace hW := belT hW hn10
  have hz10 : w9_.heap.size + 1 ≤ w10_.heap.size := by simpa using hb10.size
  replace rw := rw.below hn10
  replace m1_ := m1_.below hn10
  replace m2_ := m2_.below hn10
  replace m3_ := m3_.below hn10
  replace rh := rh.below hn10
  replace gc0 := keepB hn10 gc0
  replace gc1 := keepB hn10 gc1
  replace gc2 := keepB hn10 gc2
  replace rwc0 := keepB hn10 rwc0
  replace rwc1 := keepB hn10 rwc1
  replace rwc2 := keepB hn10 rwc2
  replace rgc0 := keepB hn10 rgc0
  replace rgc1 := keepB hn10 rgc1
  replace rgc2 := keepB hn10 rgc2
  have rhc0 : w10_.cell? ⟨w9_.heap.size, 0, none⟩ = some (.slice rh1 z_1.length rhc_1) := keepB hb10 (by rw [World.cell?_alloc_at _ _ _ _ (by simp)]; rfl)
  have rhc1 : w10_.cell? ⟨w9_.heap.size, 1, none⟩ = some (.slice rh2 z_2.length rhc_2) := keepB hb10 (by rw [World.cell?_alloc_at _ _ _ _ (by simp)]; rfl)
  have rhc2 : w10_.cell? ⟨w9_.heap.size, 2, none⟩ = some (.slice rh3 z_3.length rhc_3) := keepB hb10 (by rw [World.cell?_alloc_at _ _ _ _ (by simp)]; rfl)
  clear gc0z
  clear rwc0z
  clear rgc0z
  have gc0z := World.block_lt_of_cell? _ _ gc0
  simp only at gc0z
  have rwc0z := World.block_lt_of_cell? _ _ rwc0
  simp only at rwc0z
  have rgc0z := World.block_lt_of_cell? _ _ rgc0
  simp only at rgc0z
  have rhc0z := World.block_lt_of_cell? _ _ rhc0
  simp only at rhc0z
  go_wp2_with fail
  refine (heldProof_any rg1 rg2 rg3 rgc_1 rgc_2 rgc_3 (z_1, z_2, z_3) 1 _ m1_ m2_ m3_ (by omega) (by omega) (by simpa [plen] using (show (z_1.length : Int) + z_2.length + z_3.length ≤ 1000000000000000000 by omega))).mono ?_
  rintro e w11_ ⟨rfl, hb11⟩
  have hn11 : Below w10_.heap.size w10_ w11_ := (by first | exact hb11 | exact belT (belA (Below.refl _ _)) hb11)
  replace hW := belT hW hn11
  have hz11 : w10_.heap.size ≤ w11_.heap.size := by simpa using hb11.size
  replace rw := rw.below hn11
  replace m1_ := m1_.below hn11
  replace m2_ := m2_.below hn11
  replace m3_ := m3_.below hn11
  replace rh := rh.below hn11
  replace gc0 := keepB hn11 gc0
  replace gc1 := keepB hn11 gc1
  replace gc2 := keepB hn11 gc2
  replace rwc0 := keepB hn11 rwc0
  replace rwc1 := keepB hn11 rwc1
  replace rwc2 := keepB hn11 rwc2
  replace rgc0 := keepB hn11 rgc0
  replace rgc1 := keepB hn11 rgc1
  replace rgc2 := keepB hn11 rgc2
  replace rhc0 := keepB hn11 rhc0
  replace rhc1 := keepB hn11 rhc1
  replace rhc2 := keepB hn11 rhc2
  rw [HPL.out]
  clear gc0z
  clear rwc0z
  clear rgc0z
  clear rhc0z
  have gc0z := World.block_lt_of_cell? _ _ gc0
  simp only at gc0z
  have rwc0z := World.block_lt_of_cell? _ _ rwc0
  simp only at rwc0z
  have rgc0z := World.block_lt_of_cell? _ _ rgc0
  simp only at rgc0z
  have rhc0z := World.block_lt_of_cell? _ _ rhc0
  simp only at rhc0z
  go_wp2
  go_ret
  exact ⟨rfl, hW⟩

set_option maxRecDepth 100000 in
theorem lifted_FnExactProveKnowledge (os : Os) (started : os.Started) (H : Type) (enc : TypeId × Value → H) :
    ReturnsInHanded {} Try.checked os 11 .any (Rows.fnExactProveKnowledgeSpec.pre6 enc Try.prog Try.f11 Rows.fnExactProveKnowledgeRow.domain false) (Rows.fnExactProveKnowledgeSpec.post enc Try.prog Try.f11 false true false false) := by
  refine returnsInHanded_of_change (C := Try.checked) own started (by kernel_rfl) Try.func11
    (ChangeSpec.witness6 (enc := enc) (C := Try.checked) false ⟨#[], #[.agg #[.int .i64 0, .int .i64 0, .int .i64 0], .string ByteArray.empty, .int .i64 0, .int .i64 0, .int .i64 0], []⟩ 8 (by kernel_rfl) (by kernel_rfl) (by kernel_rfl) (by kernel_rfl)) ?_
  intro W base args ds gs before hval0 hW hcnd _
  have hval : ∀ (j : Nat) t v, Try.f11.params[j]? = some t → args[j]? = some v → Value.okWide Try.prog W .any base t v := hval0
  have hW' := hW
  obtain ⟨p, q, hA0, hV, rfl, hfz, hnd⟩ := hW
  have hA : DataW.TrodAll enc Try.prog W 0 (fun _ => true) true Try.f11.params.toList args.toList ds p := hA0
  rw [Try.params11] at hA hval
  obtain ⟨v0, vs0, d0, ds0, p0, q0, hargs, rfl, rfl, h0, r0⟩ := trodAll_cons hA
  obtain ⟨v1, vs1, d1, ds1, p1, q1, rfl, rfl, rfl, h1, r1⟩ := trodAll_cons r0
  obtain ⟨v2, vs2, d2, ds2, p2, q2, rfl, rfl, rfl, h2, r2⟩ := trodAll_cons r1
  obtain ⟨v3, vs3, d3, ds3, p3, q3, rfl, rfl, rfl, h3, r3⟩ := trodAll_cons r2
  obtain ⟨v4, vs4, d4, ds4, p4, q4, rfl, rfl, rfl, h4, r4⟩ := trodAll_cons r3
  obtain ⟨rfl, rfl, rfl⟩ := trodAll_nil r4
  obtain rfl : args = #[v0, v1, v2, v3, v4] := by cases args; simp_all
  obtain ⟨rfl, rfl⟩ := trodVars_none hV
  have k0 := h0
  have lt0 : ∀ x ∈ p0, x.block < W.heap.size := by obtain ⟨m, hm⟩ := k0; exact DataW.trod_lt m _ _ _ hm
  obtain ⟨c0_0, c0_1, c0_2, y0_0, y0_1, y0_2, m0, rfl, rfl, rfl, u0_0, u0_1, u0_2⟩ := open_agg3 Try.underlying23 (by kernel_rfl) (by kernel_rfl) (hval 0 23 v0 rfl rfl) h0
  obtain ⟨b0_0, e0_0, hb0_0, x0_0⟩ := DataW.trod_int Try.underlying3 u0_0
  simp only [List.cons.injEq, and_true] at e0_0
  subst e0_0
  obtain ⟨b0_1, e0_1, hb0_1, x0_1⟩ := DataW.trod_int Try.underlying3 u0_1
  simp only [List.cons.injEq, and_true] at e0_1
  subst e0_1
  obtain ⟨b0_2, e0_2, hb0_2, x0_2⟩ := DataW.trod_int Try.underlying3 u0_2
  simp only [List.cons.injEq, and_true] at e0_2
  subst e0_2
  have k1 := h1
  have lt1 : ∀ x ∈ p1, x.block < W.heap.size := by obtain ⟨m, hm⟩ := k1; exact DataW.trod_lt m _ _ _ hm
  obtain ⟨s1, rfl, rfl, rfl, w1⟩ := open_string Try.underlying9 (hval 1 9 v1 rfl rfl) h1
  have k2 := h2
  have lt2 : ∀ x ∈ p2, x.block < W.heap.size := by obtain ⟨m, hm⟩ := k2; exact DataW.trod_lt m _ _ _ hm
  obtain ⟨a2, rfl, rfl, rfl, w2⟩ := open_int Try.underlying3 (hval 2 3 v2 rfl rfl) h2
  have k3 := h3
  have lt3 : ∀ x ∈ p3, x.block < W.heap.size := by obtain ⟨m, hm⟩ := k3; exact DataW.trod_lt m _ _ _ hm
  obtain ⟨a3, rfl, rfl, rfl, w3⟩ := open_int Try.underlying3 (hval 3 3 v3 rfl rfl) h3
  have k4 := h4
  have lt4 : ∀ x ∈ p4, x.block < W.heap.size := by obtain ⟨m, hm⟩ := k4; exact DataW.trod_lt m _ _ _ hm
  obtain ⟨a4, rfl, rfl, rfl, w4⟩ := open_int Try.underlying3 (hval 4 3 v4 rfl rfl) h4
  clear hA0 hval0
  refine (walk_FnExactProveKnowledge (w := W) b0_0 b0_1 b0_2 x0_0 x0_1 x0_2 s1 w1 a2 w2 a3 w3 a4 w4).mono fun e W' ⟨he, bel⟩ => ?_
  subst he
  exact ⟨_, rfl, _, _, _, [], _, [], hW', trodAll_mk1 (shut_bool Try.underlying4 _), (trodAll_cons_mk (Below.trod laidOut (by kernel_rfl) (of_decide_eq_true (by kernel_rfl)) k0 bel lt0) (trodAll_cons_mk (Below.trod laidOut (by kernel_rfl) (of_decide_eq_true (by kernel_rfl)) k1 bel lt1) (trodAll_cons_mk (Below.trod laidOut (by kernel_rfl) (of_decide_eq_true (by kernel_rfl)) k2 bel lt2) (trodAll_cons_mk (Below.trod laidOut (by kernel_rfl) (of_decide_eq_true (by kernel_rfl)) k3 bel lt3) (trodAll_cons_mk (Below.trod laidOut (by kernel_rfl) (of_decide_eq_true (by kernel_rfl)) k4 bel lt4) trodAll_mk0))))), rfl, bel.frame _, fun h => by cases h⟩

theorem over_FnExactProveKnowledge : Rows.fnExactProveKnowledgeRow.holds Try.pinned (OpenSpec.ofChange Rows.fnExactProveKnowledgeSpec) :=
  OpenClaim.holds_of_wide 11 Try.f11 rfl rfl rfl rfl rfl rfl rfl ⟨rfl, rfl, rfl, rfl, rfl⟩ rfl rfl rfl rfl rfl (by kernel_rfl) Try.func11 (by kernel_rfl)
    (of_decide_eq_true (by kernel_rfl)) (by unfold Func.isWrapper; first | (rw [if_pos (by decide +kernel)]; kernel_rfl) | (rw [if_neg (by decide +kernel)]; exact ⟨rfl, rfl⟩))
    (fun os started H enc _ => lifted_FnExactProveKnowledge os started H enc)

theorem proved_FnExactProveKnowledge : Rows.FnExactProveKnowledgeSaid := over_FnExactProveKnowledge
#print axioms proved_FnExactProveKnowledge
end Go.Proofs.Yteeggmnkcgpfjaa
