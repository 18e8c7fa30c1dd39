/- The program's Challenge returns what the reference's Challenge returns, for all arguments: proved with no condition. -/
import Derived.Test.YtggmcbhijbggdaaCh
import Derived.Test.YtggmcbhijbggdaaLw
namespace Go.Proofs.Ytggmcbhijbggdaa
open Go.ChangeShapes Go.WideShapes Go.ChangeAt Go.RowKit Go.Joins
open Go.ChangeMaps (open_string shut_string)
set_option linter.unusedVariables false
set_option maxHeartbeats 800000 in
theorem walk_FnExactChallenge (w : World) (p0 q0 g0 : Int) (w0a : (Lit.int .i64 p0).wf = true) (w0b : (Lit.int .i64 q0).wf = true) (w0c : (Lit.int .i64 g0).wf = true) (s1 : ByteArray) (w1 : s1.size ≤ maxLen) (A2 : Option Addr) (n2 c2 : Nat) (zs2 : List Int) (w2 : IsRow .i64 w A2 n2 c2 zs2) :
    Calls Try.prog 5 #[.agg #[.int .i64 p0, .int .i64 q0, .int .i64 g0], .string s1, .slice A2 n2 c2] w fun e w' => e = .returned (.bool true) ∧ Below w.heap.size w w' := by
  clear w0a w0b w0c
  have I2 := Ints.of_row w2
  clear w2
  generalize zs2.take n2 = z2 at I2
  by_cases big0 : 1048576 < s1.size
  · go_enter Try.func5, Try.ntmps5
    go_wp2
    go_ret
    exact ⟨rfl, (by repeat (first | exact Below.refl _ _ | assumption | refine belA ?_ | refine belD ?_ | refine belN ?_ | refine belS ?_ (by simp) | refine belT ?_ (by assumption)))⟩
  by_cases big1 : 1048576 < n2
  · go_enter Try.func5, Try.ntmps5
    go_wp2
    go_ret
    exact ⟨rfl, (by repeat (first | exact Below.refl _ _ | assumption | refine belA ?_ | refine belD ?_ | refine belN ?_ | refine belS ?_ (by simp) | refine belT ?_ (by assumption)))⟩
  have hs := fun (A2 : Option Addr) (c2 : Nat) (W : World) (h2 : Ints W A2 n2 z2) => sChallenge_any p0 q0 g0 s1 A2 n2 c2 z2 W h2 (by omega)
  have hi := fun (A2 : Option Addr) (c2 : Nat) (W : World) (h2 : Ints W A2 n2 z2) => iChallenge_any p0 q0 g0 s1 A2 n2 c2 z2 W h2 (by omega)
  generalize (chM p0 q0 g0 s1 z2).1 = r0 at hs hi
  generalize (chM p0 q0 g0 s1 z2).2 = r1 at hs hi
  have Hs := Lib.hid hs
  have Hi := Lib.hid hi
  clear hs hi
  go_enter Try.func5, Try.ntmps5
  go_wp2_with fail
  refine (toGroup_any _ _ _ _).mono ?_
  rintro e w1_ ⟨rfl, hb1⟩
  replace I2 := I2.below (belT (by repeat (first | exact Below.refl _ _ | assumption | refine belA ?_ | refine belD ?_ | refine belN ?_ | refine belS ?_ (by simp) | refine belT ?_ (by assumption))) hb1)
  have hW := hb1
  obtain ⟨hc, hf⟩ := bcell hW
  go_wp2_with fail
  refine (toIntS_any A2 n2 c2 z2 _ I2 (by omega)).mono ?_
  rintro e w2_ ⟨As2, cs2, rfl, Os2, hb2⟩
  replace I2 := I2.below hb2
  replace hW := belT hW hb2
  clear hc hf
  obtain ⟨hc, hf⟩ := bcell hW
  have s2 := Own.mk' Os2
  clear Os2
  go_wp2_with fail
  refine (Hs.out As2 cs2 _ s2.ints).mono ?_
  rintro e w3_ ⟨rfl, hb3⟩
  replace I2 := I2.below hb3
  replace s2 := s2.below hb3
  replace hW := belT hW hb3
  clear hc hf
  obtain ⟨hc, hf⟩ := bcell hW
  clear s2
  go_wp2_with fail
  refine (toIntS_any A2 n2 c2 z2 _ I2 (by omega)).mono ?_
  rintro e w4_ ⟨Ax2_, cx2_, rfl, Ox2_, hb4⟩
  replace I2 := I2.below hb4
  replace hW := belT hW hb4
  clear hc hf
  obtain ⟨hc, hf⟩ := bcell hW
  have x2_ := Own.mk' Ox2_
  clear Ox2_
  go_wp2_with fail
  refine (toGroup_any _ _ _ _).mono ?_
  rintro e w5_ ⟨rfl, hb5⟩
  replace I2 := I2.below hb5
  replace x2_ := x2_.below hb5
  replace hW := belT hW hb5
  clear hc hf
  obtain ⟨hc, hf⟩ := bcell hW
  go_wp2_with fail
  refine (Hi.out Ax2_ cx2_ _ x2_.ints).mono ?_
  rintro e w6_ ⟨rfl, hb6⟩
  replace I2 := I2.below hb6
  replace x2_ := x2_.below hb6
  replace hW := belT hW hb6
  clear hc hf
  obtain ⟨hc, hf⟩ := bcell hW
  go_wp2_with fail
  refine (toIntS_any A2 n2 c2 z2 _ I2 (by omega)).mono ?_
  rintro e w7_ ⟨Ay2_, cy2_, rfl, Oy2_, hb7⟩
  replace I2 := I2.below hb7
  replace x2_ := x2_.below hb7
  replace hW := belT hW hb7
  clear hc hf
  obtain ⟨hc, hf⟩ := bcell hW
  have y2_ := Own.mk' Oy2_
  clear Oy2_
  go_wp2_with fail
  refine (eqIntS_any Ax2_ Ay2_ n2 n2 cx2_ cy2_ z2 z2 _ x2_.ints y2_.ints).mono ?_
  rintro e w8_ ⟨rfl, hb8⟩
  replace I2 := I2.below hb8
  replace x2_ := x2_.below hb8
  replace y2_ := y2_.below hb8
  replace hW := belT hW hb8
  clear hc hf
  obtain ⟨hc, hf⟩ := bcell hW
  clear y2_
  go_wp2
  go_ret
  exact ⟨rfl, belT (by repeat (first | exact Below.refl _ _ | assumption | refine belA ?_ | refine belD ?_ | refine belN ?_ | refine belS ?_ (by simp) | refine belT ?_ (by assumption))) hW⟩

set_option maxRecDepth 100000 in
theorem lifted_FnExactChallenge (os : Os) (started : os.Started) (H : Type) (enc : TypeId × Value → H) :
    ReturnsInHanded {} Try.checked os 5 .any (Rows.fnExactChallengeSpec.pre6 enc Try.prog Try.f5 Rows.fnExactChallengeRow.domain false) (Rows.fnExactChallengeSpec.post enc Try.prog Try.f5 false true false false) := by
  refine returnsInHanded_of_change (C := Try.checked) own started (by kernel_rfl) Try.func5
    (ChangeSpec.witness6 (enc := enc) (C := Try.checked) false ⟨#[], #[.agg #[.int .i64 0, .int .i64 0, .int .i64 0], .string ByteArray.empty, .slice none 0 0], []⟩ 8 (by kernel_rfl) (by kernel_rfl) (by kernel_rfl) (by kernel_rfl)) ?_
  intro W base args ds gs before hval0 hW hcnd _
  have hval : ∀ (j : Nat) t v, Try.f5.params[j]? = some t → args[j]? = some v → Value.okWide Try.prog W .any base t v := hval0
  have hW' := hW
  obtain ⟨p, q, hA0, hV, rfl, hfz, hnd⟩ := hW
  have hA : DataW.TrodAll enc Try.prog W 0 (fun _ => true) true Try.f5.params.toList args.toList ds p := hA0
  rw [Try.params5] at hA hval
  obtain ⟨v0, vs0, d0, ds0, p0, q0, hargs, rfl, rfl, h0, r0⟩ := trodAll_cons hA
  obtain ⟨v1, vs1, d1, ds1, p1, q1, rfl, rfl, rfl, h1, r1⟩ := trodAll_cons r0
  obtain ⟨v2, vs2, d2, ds2, p2, q2, rfl, rfl, rfl, h2, r2⟩ := trodAll_cons r1
  obtain ⟨rfl, rfl, rfl⟩ := trodAll_nil r2
  obtain rfl : args = #[v0, v1, v2] := by cases args; simp_all
  obtain ⟨rfl, rfl⟩ := trodVars_none hV
  have k0 := h0
  have lt0 : ∀ x ∈ p0, x.block < W.heap.size := by obtain ⟨m, hm⟩ := k0; exact DataW.trod_lt m _ _ _ hm
  obtain ⟨c0_0, c0_1, c0_2, y0_0, y0_1, y0_2, m0, rfl, rfl, rfl, u0_0, u0_1, u0_2⟩ := open_agg3 Try.underlying31 (by kernel_rfl) (by kernel_rfl) (hval 0 31 v0 rfl rfl) h0
  obtain ⟨b0_0, e0_0, hb0_0, x0_0⟩ := DataW.trod_int Try.underlying3 u0_0
  simp only [List.cons.injEq, and_true] at e0_0
  subst e0_0
  obtain ⟨b0_1, e0_1, hb0_1, x0_1⟩ := DataW.trod_int Try.underlying3 u0_1
  simp only [List.cons.injEq, and_true] at e0_1
  subst e0_1
  obtain ⟨b0_2, e0_2, hb0_2, x0_2⟩ := DataW.trod_int Try.underlying3 u0_2
  simp only [List.cons.injEq, and_true] at e0_2
  subst e0_2
  have k1 := h1
  have lt1 : ∀ x ∈ p1, x.block < W.heap.size := by obtain ⟨m, hm⟩ := k1; exact DataW.trod_lt m _ _ _ hm
  obtain ⟨s1, rfl, rfl, rfl, w1⟩ := open_string Try.underlying9 (hval 1 9 v1 rfl rfl) h1
  have k2 := h2
  have lt2 : ∀ x ∈ p2, x.block < W.heap.size := by obtain ⟨m, hm⟩ := k2; exact DataW.trod_lt m _ _ _ hm
  obtain ⟨a2, len2, cap2, rfl⟩ := okWide_slice Try.underlying22 (hval 2 22 v2 rfl rfl)
  obtain ⟨z2, w2⟩ : ∃ zs, IsRow .i64 W a2 len2 cap2 zs := by
    obtain ⟨fuel, hf⟩ := h2
    rcases open_ints Try.underlying22 Try.underlying3 (by kernel_rfl) hf with ⟨hcs, _⟩ | ⟨x, l, c, zs, hcs, _, hl, hm, hz, _, hcell, hwz⟩
    · simp [Value.cells] at hcs
      obtain ⟨rfl, rfl, rfl⟩ := hcs
      exact ⟨[], .inl ⟨rfl, rfl, rfl, rfl⟩⟩
    · simp [Value.cells] at hcs
      obtain ⟨rfl, rfl, rfl⟩ := hcs
      exact ⟨zs, .inr ⟨_, rfl, hl, hm, by simpa using hz, hcell, hwz⟩⟩
  clear hA0 hval0
  refine (walk_FnExactChallenge (w := W) b0_0 b0_1 b0_2 x0_0 x0_1 x0_2 s1 w1 a2 len2 cap2 z2 w2).mono fun e W' ⟨he, bel⟩ => ?_
  subst he
  exact ⟨_, rfl, _, _, _, [], _, [], hW', trodAll_mk1 (shut_bool Try.underlying4 _), (trodAll_cons_mk (Below.trod laidOut (by kernel_rfl) (of_decide_eq_true (by kernel_rfl)) k0 bel lt0) (trodAll_cons_mk (Below.trod laidOut (by kernel_rfl) (of_decide_eq_true (by kernel_rfl)) k1 bel lt1) (trodAll_cons_mk (Below.trod laidOut (by kernel_rfl) (of_decide_eq_true (by kernel_rfl)) k2 bel lt2) trodAll_mk0))), rfl, bel.frame _, fun h => by cases h⟩

theorem over_FnExactChallenge : Rows.fnExactChallengeRow.holds Try.pinned (OpenSpec.ofChange Rows.fnExactChallengeSpec) :=
  OpenClaim.holds_of_wide 5 Try.f5 rfl rfl rfl rfl rfl rfl rfl ⟨rfl, rfl, rfl, rfl, rfl⟩ rfl rfl rfl rfl rfl (by kernel_rfl) Try.func5 (by kernel_rfl)
    (of_decide_eq_true (by kernel_rfl)) (by unfold Func.isWrapper; first | (rw [if_pos (by decide +kernel)]; kernel_rfl) | (rw [if_neg (by decide +kernel)]; exact ⟨rfl, rfl⟩))
    (fun os started H enc _ => lifted_FnExactChallenge os started H enc)

theorem proved_FnExactChallenge : Rows.FnExactChallengeSaid := over_FnExactChallenge
#print axioms proved_FnExactChallenge
end Go.Proofs.Ytggmcbhijbggdaa
