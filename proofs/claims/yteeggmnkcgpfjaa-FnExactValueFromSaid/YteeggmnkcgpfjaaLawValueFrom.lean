/- The program's ValueFrom returns what the reference's ValueFrom returns, for all arguments: proved with no condition. -/
import Derived.Test.YteeggmnkcgpfjaaVf
import Derived.Test.YteeggmnkcgpfjaaLw
namespace Go.Proofs.Yteeggmnkcgpfjaa
open Go.ChangeShapes Go.WideShapes Go.ChangeAt Go.RowKit Go.Joins
open Go.ChangeMaps (open_string shut_string)
set_option linter.unusedVariables false
set_option maxHeartbeats 800000 in
theorem walk_FnExactValueFrom (w : World) (x0 : Int) (w0 : (Lit.int .i64 x0).wf = true) (A1 : Option Addr) (n1 c1 : Nat) (zs1 : List Int) (w1 : IsRow .i64 w A1 n1 c1 zs1) (A2 : Option Addr) (n2 c2 : Nat) (zs2 : List Int) (w2 : IsRow .i64 w A2 n2 c2 zs2) (x3 : Int) (w3 : (Lit.int .i64 x3).wf = true) :
    Calls Try.prog 9 #[.int .i64 x0, .slice A1 n1 c1, .slice A2 n2 c2, .int .i64 x3] w fun e w' => e = .returned (.bool true) ∧ Below w.heap.size w w' := by
  clear w0 w3
  have I1 := Ints.of_row w1
  clear w1
  generalize zs1.take n1 = z1 at I1
  have I2 := Ints.of_row w2
  clear w2
  generalize zs2.take n2 = z2 at I2
  by_cases big0 : 1048576 < n1
  · go_enter Try.func9, Try.ntmps9
    go_wp2
    go_ret
    exact ⟨rfl, (by repeat (first | exact Below.refl _ _ | assumption | refine belA ?_ | refine belD ?_ | refine belN ?_ | refine belS ?_ (by simp) | refine belT ?_ (by assumption)))⟩
  by_cases big1 : 1048576 < n2
  · go_enter Try.func9, Try.ntmps9
    go_wp2
    go_ret
    exact ⟨rfl, (by repeat (first | exact Below.refl _ _ | assumption | refine belA ?_ | refine belD ?_ | refine belN ?_ | refine belS ?_ (by simp) | refine belT ?_ (by assumption)))⟩
  have hs := fun (A1 : Option Addr) (c1 : Nat) (A2 : Option Addr) (c2 : Nat) (W : World) (h1 : Ints W A1 n1 z1) (h2 : Ints W A2 n2 z2) (k1 : n1 ≤ c1) (k2 : n2 ≤ c2) => sValueFrom_any x0 A1 n1 c1 z1 A2 n2 c2 z2 x3 W h1 h2 k1 k2 
  have hi := fun (A1 : Option Addr) (c1 : Nat) (A2 : Option Addr) (c2 : Nat) (W : World) (h1 : Ints W A1 n1 z1) (h2 : Ints W A2 n2 z2) (k1 : n1 ≤ c1) (k2 : n2 ≤ c2) => iValueFrom_any x0 A1 n1 c1 z1 A2 n2 c2 z2 x3 W h1 h2 k1 k2 
  generalize (vfM x0 z1 z2 x3).1 = r0 at hs hi
  generalize (vfM x0 z1 z2 x3).2 = r1 at hs hi
  have Hs := Lib.hid hs
  have Hi := Lib.hid hi
  clear hs hi
  go_enter Try.func9, Try.ntmps9
  go_wp2_with fail
  refine (toIntS_any A1 n1 c1 z1 _ I1 (by omega)).mono ?_
  rintro e w1_ ⟨As1, cs1, rfl, Os1, hb1⟩
  replace I1 := I1.below hb1
  replace I2 := I2.below hb1
  have hW := hb1
  have s1 := Own.mk' Os1
  clear Os1
  go_wp2_with fail
  refine (toIntS_any A2 n2 c2 z2 _ I2 (by omega)).mono ?_
  rintro e w2_ ⟨As2, cs2, rfl, Os2, hb2⟩
  replace I1 := I1.below hb2
  replace I2 := I2.below hb2
  replace s1 := s1.below hb2
  replace hW := belT hW hb2
  have s2 := Own.mk' Os2
  clear Os2
  go_wp2_with fail
  refine (Hs.out As1 cs1 As2 cs2 _ s1.ints s2.ints s1.cap s2.cap).mono ?_
  rintro e w3_ ⟨rfl, hb3⟩
  replace I1 := I1.below hb3
  replace I2 := I2.below hb3
  replace s1 := s1.below hb3
  replace s2 := s2.below hb3
  replace hW := belT hW hb3
  clear s1
  clear s2
  go_wp2_with fail
  refine (toIntS_any A1 n1 c1 z1 _ I1 (by omega)).mono ?_
  rintro e w4_ ⟨Ax1_, cx1_, rfl, Ox1_, hb4⟩
  replace I1 := I1.below hb4
  replace I2 := I2.below hb4
  replace hW := belT hW hb4
  have x1_ := Own.mk' Ox1_
  clear Ox1_
  go_wp2_with fail
  refine (toIntS_any A2 n2 c2 z2 _ I2 (by omega)).mono ?_
  rintro e w5_ ⟨Ax2_, cx2_, rfl, Ox2_, hb5⟩
  replace I1 := I1.below hb5
  replace I2 := I2.below hb5
  replace x1_ := x1_.below hb5
  replace hW := belT hW hb5
  have x2_ := Own.mk' Ox2_
  clear Ox2_
  go_wp2_with fail
  refine (Hi.out Ax1_ cx1_ Ax2_ cx2_ _ x1_.ints x2_.ints x1_.cap x2_.cap).mono ?_
  rintro e w6_ ⟨rfl, hb6⟩
  replace I1 := I1.below hb6
  replace I2 := I2.below hb6
  replace x1_ := x1_.below hb6
  replace x2_ := x2_.below hb6
  replace hW := belT hW hb6
  go_wp2_with fail
  refine (toIntS_any A1 n1 c1 z1 _ I1 (by omega)).mono ?_
  rintro e w7_ ⟨Ay1_, cy1_, rfl, Oy1_, hb7⟩
  replace I1 := I1.below hb7
  replace I2 := I2.below hb7
  replace x1_ := x1_.below hb7
  replace x2_ := x2_.below hb7
  replace hW := belT hW hb7
  have y1_ := Own.mk' Oy1_
  clear Oy1_
  go_wp2_with fail
  refine (eqIntS_any Ax1_ Ay1_ n1 n1 cx1_ cy1_ z1 z1 _ x1_.ints y1_.ints).mono ?_
  rintro e w8_ ⟨rfl, hb8⟩
  replace I1 := I1.below hb8
  replace I2 := I2.below hb8
  replace x1_ := x1_.below hb8
  replace x2_ := x2_.below hb8
  replace y1_ := y1_.below hb8
  replace hW := belT hW hb8
  clear y1_
  go_wp2_with fail
  refine (toIntS_any A2 n2 c2 z2 _ I2 (by omega)).mono ?_
  rintro e w9_ ⟨Ay2_, cy2_, rfl, Oy2_, hb9⟩
  replace I1 := I1.below hb9
  replace I2 := I2.below hb9
  replace x1_ := x1_.below hb9
  replace x2_ := x2_.below hb9
  replace hW := belT hW hb9
  have y2_ := Own.mk' Oy2_
  clear Oy2_
  go_wp2_with fail
  refine (eqIntS_any Ax2_ Ay2_ n2 n2 cx2_ cy2_ z2 z2 _ x2_.ints y2_.ints).mono ?_
  rintro e w10_ ⟨rfl, hb10⟩
  replace I1 := I1.below hb10
  replace I2 := I2.below hb10
  replace x1_ := x1_.below hb10
  replace x2_ := x2_.below hb10
  replace y2_ := y2_.below hb10
  replace hW := belT hW hb10
  clear y2_
  go_wp2
  go_ret
  exact ⟨rfl, belT (by repeat (first | exact Below.refl _ _ | assumption | refine belA ?_ | refine belD ?_ | refine belN ?_ | refine belS ?_ (by simp) | refine belT ?_ (by assumption))) hW⟩

set_option maxRecDepth 100000 in
theorem lifted_FnExactValueFrom (os : Os) (started : os.Started) (H : Type) (enc : TypeId × Value → H) :
    ReturnsInHanded {} Try.checked os 9 .any (Rows.fnExactValueFromSpec.pre6 enc Try.prog Try.f9 Rows.fnExactValueFromRow.domain false) (Rows.fnExactValueFromSpec.post enc Try.prog Try.f9 false true false false) := by
  refine returnsInHanded_of_change (C := Try.checked) own started (by kernel_rfl) Try.func9
    (ChangeSpec.witness6 (enc := enc) (C := Try.checked) false ⟨#[], #[.int .i64 0, .slice none 0 0, .slice none 0 0, .int .i64 0], []⟩ 8 (by kernel_rfl) (by kernel_rfl) (by kernel_rfl) (by kernel_rfl)) ?_
  intro W base args ds gs before hval0 hW hcnd _
  have hval : ∀ (j : Nat) t v, Try.f9.params[j]? = some t → args[j]? = some v → Value.okWide Try.prog W .any base t v := hval0
  have hW' := hW
  obtain ⟨p, q, hA0, hV, rfl, hfz, hnd⟩ := hW
  have hA : DataW.TrodAll enc Try.prog W 0 (fun _ => true) true Try.f9.params.toList args.toList ds p := hA0
  rw [Try.params9] at hA hval
  obtain ⟨v0, vs0, d0, ds0, p0, q0, hargs, rfl, rfl, h0, r0⟩ := trodAll_cons hA
  obtain ⟨v1, vs1, d1, ds1, p1, q1, rfl, rfl, rfl, h1, r1⟩ := trodAll_cons r0
  obtain ⟨v2, vs2, d2, ds2, p2, q2, rfl, rfl, rfl, h2, r2⟩ := trodAll_cons r1
  obtain ⟨v3, vs3, d3, ds3, p3, q3, rfl, rfl, rfl, h3, r3⟩ := trodAll_cons r2
  obtain ⟨rfl, rfl, rfl⟩ := trodAll_nil r3
  obtain rfl : args = #[v0, v1, v2, v3] := by cases args; simp_all
  obtain ⟨rfl, rfl⟩ := trodVars_none hV
  have k0 := h0
  have lt0 : ∀ x ∈ p0, x.block < W.heap.size := by obtain ⟨m, hm⟩ := k0; exact DataW.trod_lt m _ _ _ hm
  obtain ⟨a0, rfl, rfl, rfl, w0⟩ := open_int Try.underlying3 (hval 0 3 v0 rfl rfl) h0
  have k1 := h1
  have lt1 : ∀ x ∈ p1, x.block < W.heap.size := by obtain ⟨m, hm⟩ := k1; exact DataW.trod_lt m _ _ _ hm
  obtain ⟨a1, len1, cap1, rfl⟩ := okWide_slice Try.underlying24 (hval 1 24 v1 rfl rfl)
  obtain ⟨z1, w1⟩ : ∃ zs, IsRow .i64 W a1 len1 cap1 zs := by
    obtain ⟨fuel, hf⟩ := h1
    rcases open_ints Try.underlying24 Try.underlying3 (by kernel_rfl) hf with ⟨hcs, _⟩ | ⟨x, l, c, zs, hcs, _, hl, hm, hz, _, hcell, hwz⟩
    · simp [Value.cells] at hcs
      obtain ⟨rfl, rfl, rfl⟩ := hcs
      exact ⟨[], .inl ⟨rfl, rfl, rfl, rfl⟩⟩
    · simp [Value.cells] at hcs
      obtain ⟨rfl, rfl, rfl⟩ := hcs
      exact ⟨zs, .inr ⟨_, rfl, hl, hm, by simpa using hz, hcell, hwz⟩⟩
  have k2 := h2
  have lt2 : ∀ x ∈ p2, x.block < W.heap.size := by obtain ⟨m, hm⟩ := k2; exact DataW.trod_lt m _ _ _ hm
  obtain ⟨a2, len2, cap2, rfl⟩ := okWide_slice Try.underlying24 (hval 2 24 v2 rfl rfl)
  obtain ⟨z2, w2⟩ : ∃ zs, IsRow .i64 W a2 len2 cap2 zs := by
    obtain ⟨fuel, hf⟩ := h2
    rcases open_ints Try.underlying24 Try.underlying3 (by kernel_rfl) hf with ⟨hcs, _⟩ | ⟨x, l, c, zs, hcs, _, hl, hm, hz, _, hcell, hwz⟩
    · simp [Value.cells] at hcs
      obtain ⟨rfl, rfl, rfl⟩ := hcs
      exact ⟨[], .inl ⟨rfl, rfl, rfl, rfl⟩⟩
    · simp [Value.cells] at hcs
      obtain ⟨rfl, rfl, rfl⟩ := hcs
      exact ⟨zs, .inr ⟨_, rfl, hl, hm, by simpa using hz, hcell, hwz⟩⟩
  have k3 := h3
  have lt3 : ∀ x ∈ p3, x.block < W.heap.size := by obtain ⟨m, hm⟩ := k3; exact DataW.trod_lt m _ _ _ hm
  obtain ⟨a3, rfl, rfl, rfl, w3⟩ := open_int Try.underlying3 (hval 3 3 v3 rfl rfl) h3
  clear hA0 hval0
  refine (walk_FnExactValueFrom (w := W) a0 w0 a1 len1 cap1 z1 w1 a2 len2 cap2 z2 w2 a3 w3).mono fun e W' ⟨he, bel⟩ => ?_
  subst he
  exact ⟨_, rfl, _, _, _, [], _, [], hW', trodAll_mk1 (shut_bool Try.underlying4 _), (trodAll_cons_mk (Below.trod laidOut (by kernel_rfl) (of_decide_eq_true (by kernel_rfl)) k0 bel lt0) (trodAll_cons_mk (Below.trod laidOut (by kernel_rfl) (of_decide_eq_true (by kernel_rfl)) k1 bel lt1) (trodAll_cons_mk (Below.trod laidOut (by kernel_rfl) (of_decide_eq_true (by kernel_rfl)) k2 bel lt2) (trodAll_cons_mk (Below.trod laidOut (by kernel_rfl) (of_decide_eq_true (by kernel_rfl)) k3 bel lt3) trodAll_mk0)))), rfl, bel.frame _, fun h => by cases h⟩

theorem over_FnExactValueFrom : Rows.fnExactValueFromRow.holds Try.pinned (OpenSpec.ofChange Rows.fnExactValueFromSpec) :=
  OpenClaim.holds_of_wide 9 Try.f9 rfl rfl rfl rfl rfl rfl rfl ⟨rfl, rfl, rfl, rfl, rfl⟩ rfl rfl rfl rfl rfl (by kernel_rfl) Try.func9 (by kernel_rfl)
    (of_decide_eq_true (by kernel_rfl)) (by unfold Func.isWrapper; first | (rw [if_pos (by decide +kernel)]; kernel_rfl) | (rw [if_neg (by decide +kernel)]; exact ⟨rfl, rfl⟩))
    (fun os started H enc _ => lifted_FnExactValueFrom os started H enc)

theorem proved_FnExactValueFrom : Rows.FnExactValueFromSaid := over_FnExactValueFrom
#print axioms proved_FnExactValueFrom
end Go.Proofs.Yteeggmnkcgpfjaa
