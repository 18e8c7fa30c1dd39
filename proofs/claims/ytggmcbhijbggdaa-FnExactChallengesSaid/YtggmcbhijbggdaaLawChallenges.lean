/- The program's Challenges returns what the reference's Challenges returns, for all arguments: proved with no condition. -/
import Derived.Test.YtggmcbhijbggdaaCs
import Derived.Test.YtggmcbhijbggdaaLw
import Derived.Test.YtggmcbhijbggdaaLm
namespace Go.Proofs.Ytggmcbhijbggdaa
open Go.ChangeShapes Go.WideShapes Go.ChangeAt Go.RowKit Go.Joins
open Go.ChangeMaps (open_string shut_string)
set_option linter.unusedVariables false
set_option maxHeartbeats 800000 in
theorem walk_FnExactChallenges (w : World) (p0 q0 g0 : Int) (w0a : (Lit.int .i64 p0).wf = true) (w0b : (Lit.int .i64 q0).wf = true) (w0c : (Lit.int .i64 g0).wf = true) (s1 : ByteArray) (w1 : s1.size ≤ maxLen) (A2 : Option Addr) (n2 c2 : Nat) (zs2 : List Int) (w2 : IsRow .i64 w A2 n2 c2 zs2) (x3 : Int) (w3 : (Lit.int .i64 x3).wf = true) :
    Calls Try.prog 6 #[.agg #[.int .i64 p0, .int .i64 q0, .int .i64 g0], .string s1, .slice A2 n2 c2, .int .i64 x3] w fun e w' => e = .returned (.bool true) ∧ Below w.heap.size w w' := by
  clear w0a w0b w0c w3
  have I2 := Ints.of_row w2
  clear w2
  generalize zs2.take n2 = z2 at I2
  by_cases big0 : 1048576 < s1.size
  · go_enter Try.func6, Try.ntmps6
    go_wp2
    go_ret
    exact ⟨rfl, (by repeat (first | exact Below.refl _ _ | assumption | refine belA ?_ | refine belD ?_ | refine belN ?_ | refine belS ?_ (by simp) | refine belT ?_ (by assumption)))⟩
  by_cases big1 : 1048576 < n2
  · go_enter Try.func6, Try.ntmps6
    go_wp2
    go_ret
    exact ⟨rfl, (by repeat (first | exact Below.refl _ _ | assumption | refine belA ?_ | refine belD ?_ | refine belN ?_ | refine belS ?_ (by simp) | refine belT ?_ (by assumption)))⟩
  have hs := fun (A2 : Option Addr) (c2 : Nat) (W : World) (h2 : Ints W A2 n2 z2) => sChallenges_any p0 q0 g0 s1 A2 n2 c2 z2 x3 W h2 (by omega)
  have hi := fun (A2 : Option Addr) (c2 : Nat) (W : World) (h2 : Ints W A2 n2 z2) => iChallenges_any p0 q0 g0 s1 A2 n2 c2 z2 x3 W h2 (by omega)
  have L0 : (csM p0 q0 g0 s1 z2 x3).1.length ≤ 4000000000000000000 := by (have := csM_len p0 q0 g0 s1 z2 x3; omega)
  generalize (csM p0 q0 g0 s1 z2 x3).1 = r0 at hs hi L0
  generalize (csM p0 q0 g0 s1 z2 x3).2 = r1 at hs hi L0
  have Hs := Lib.hid hs
  have Hi := Lib.hid hi
  clear hs hi
  go_enter Try.func6, Try.ntmps6
  have J2 := Lib.hid (Ints.base I2)
  go_wp2_with fail
  refine (toGroup_any _ _ _ _).mono ?_
  rintro e w1_ ⟨rfl, hb1⟩
  replace I2 := I2.below (belT (by repeat (first | exact Below.refl _ _ | assumption | refine belA ?_ | refine belD ?_ | refine belN ?_ | refine belS ?_ (by simp) | refine belT ?_ (by assumption))) hb1)
  have hW := hb1
  have hsz0 := Lib.hid (show w.heap.size ≤ w1_.heap.size from by have := hb1.size; simp at this; omega)
  have hsz1 := Lib.hid hb1.size
  obtain ⟨hc, hf⟩ := bcell hW
  go_wp2_with fail
  refine (toIntS_any A2 n2 c2 z2 _ I2 (by omega)).mono ?_
  rintro e w2_ ⟨As2, cs2, rfl, Os2, hb2⟩
  replace I2 := I2.below hb2
  replace hW := belT hW hb2
  have hsz2 := Lib.hid hb2.size
  clear hc hf
  obtain ⟨hc, hf⟩ := bcell hW
  have s2 := Own.mk' Os2
  clear Os2
  go_wp2_with fail
  refine (Hs.out As2 cs2 _ s2.ints).mono ?_
  rintro e w3_ ⟨Arw, crw, rfl, Orw, hb3⟩
  replace I2 := I2.below hb3
  replace s2 := s2.below hb3
  replace hW := belT hW hb3
  have hsz3 := Lib.hid hb3.size
  clear hc hf
  obtain ⟨hc, hf⟩ := bcell hW
  have rw := Own.mk' Orw
  clear Orw
  clear s2
  go_wp2_with fail
  refine (toIntS_any A2 n2 c2 z2 _ I2 (by omega)).mono ?_
  rintro e w4_ ⟨Ax2_, cx2_, rfl, Ox2_, hb4⟩
  replace I2 := I2.below hb4
  replace rw := rw.below hb4
  replace hW := belT hW hb4
  have hsz4 := Lib.hid hb4.size
  clear hc hf
  obtain ⟨hc, hf⟩ := bcell hW
  have x2_ := Own.mk' Ox2_
  clear Ox2_
  go_wp2_with fail
  refine (toGroup_any _ _ _ _).mono ?_
  rintro e w5_ ⟨rfl, hb5⟩
  replace I2 := I2.below hb5
  replace rw := rw.below hb5
  replace x2_ := x2_.below hb5
  replace hW := belT hW hb5
  have hsz5 := Lib.hid hb5.size
  clear hc hf
  obtain ⟨hc, hf⟩ := bcell hW
  go_wp2_with fail
  refine (Hi.out Ax2_ cx2_ _ x2_.ints).mono ?_
  rintro e w6_ ⟨Arg, crg, rfl, Org, hb6⟩
  replace I2 := I2.below hb6
  replace rw := rw.below hb6
  replace x2_ := x2_.below hb6
  replace hW := belT hW hb6
  have hsz6 := Lib.hid hb6.size
  clear hc hf
  obtain ⟨hc, hf⟩ := bcell hW
  have rg := Own.mk' Org
  clear Org
  go_wp2_with fail
  refine (eqIntS_any Arg Arw _ _ crg crw r0 r0 _ rg.ints rw.ints).mono ?_
  rintro e w7_ ⟨rfl, hb7⟩
  replace I2 := I2.below hb7
  replace rw := rw.below hb7
  replace x2_ := x2_.below hb7
  replace rg := rg.below hb7
  replace hW := belT hW hb7
  have hsz7 := Lib.hid hb7.size
  clear hc hf
  obtain ⟨hc, hf⟩ := bcell hW
  go_wp2_with fail
  refine (toIntS_any A2 n2 c2 z2 _ I2 (by omega)).mono ?_
  rintro e w8_ ⟨Ay2_, cy2_, rfl, Oy2_, hb8⟩
  replace I2 := I2.below hb8
  replace rw := rw.below hb8
  replace x2_ := x2_.below hb8
  replace rg := rg.below hb8
  replace hW := belT hW hb8
  have hsz8 := Lib.hid hb8.size
  clear hc hf
  obtain ⟨hc, hf⟩ := bcell hW
  have y2_ := Own.mk' Oy2_
  clear Oy2_
  go_wp2_with fail
  refine (eqIntS_any Ax2_ Ay2_ n2 n2 cx2_ cy2_ z2 z2 _ x2_.ints y2_.ints).mono ?_
  rintro e w9_ ⟨rfl, hb9⟩
  replace I2 := I2.below hb9
  replace rw := rw.below hb9
  replace x2_ := x2_.below hb9
  replace rg := rg.below hb9
  replace y2_ := y2_.below hb9
  replace hW := belT hW hb9
  have hsz9 := Lib.hid hb9.size
  clear hc hf
  obtain ⟨hc, hf⟩ := bcell hW
  clear y2_
  go_wp2_with fail
  refine (markIntS_any Ax2_ n2 cx2_ _ _ _ _ _ x2_ (by omega) (by omega) (by omega)).mono ?_
  rintro e w10_ ⟨rfl, Mx2_, hg10⟩
  have hr10 := Lib.hid fun k (hk : (Value.slice Ax2_ n2 cx2_).ownBlock = some k) => And.intro (x2_.own.lt k hk).1 (x2_.lt k hk)
  replace I2 := I2.grown J2.out hg10 (fun k hk => by have := hr10.out k hk; have := hsz0.out; have := hsz1.out; have := hsz2.out; have := hsz3.out; have := hsz4.out; have := hsz5.out; have := hsz6.out; have := hsz7.out; have := hsz8.out; have := hsz9.out; omega)
  replace rw := rw.grown hg10 (fun k hk => by have := hr10.out k hk; have := hsz0.out; have := hsz1.out; have := hsz2.out; have := hsz3.out; have := hsz4.out; have := hsz5.out; have := hsz6.out; have := hsz7.out; have := hsz8.out; have := hsz9.out; omega)
  replace rg := rg.grown hg10 (fun k hk => by have := hr10.out k hk; have := hsz0.out; have := hsz1.out; have := hsz2.out; have := hsz3.out; have := hsz4.out; have := hsz5.out; have := hsz6.out; have := hsz7.out; have := hsz8.out; have := hsz9.out; omega)
  replace hW := below_of_grown hW hg10 hW.size (fun k hk => by have := hr10.out k hk; have := hsz0.out; have := hsz1.out; have := hsz2.out; have := hsz3.out; have := hsz4.out; have := hsz5.out; have := hsz6.out; have := hsz7.out; have := hsz8.out; have := hsz9.out; omega)
  replace x2_ := Mx2_
  clear Mx2_
  have hsz10 := Lib.hid hg10.size
  clear hg10 hr10
  clear hc hf
  obtain ⟨hc, hf⟩ := bcell hW
  clear x2_
  go_wp2_with fail
  refine (eqIntS_any Arg Arw _ _ crg crw r0 r0 _ rg.ints rw.ints).mono ?_
  rintro e w11_ ⟨rfl, hb11⟩
  replace I2 := I2.below hb11
  replace rw := rw.below hb11
  replace rg := rg.below hb11
  replace hW := belT hW hb11
  have hsz11 := Lib.hid hb11.size
  clear hc hf
  obtain ⟨hc, hf⟩ := bcell hW
  go_wp2_with fail
  refine (markIntS_any Arg r0.length crg _ _ _ _ _ rg (by omega) (by omega) (by omega)).mono ?_
  rintro e w12_ ⟨rfl, Mrg, hg12⟩
  have hr12 := Lib.hid fun k (hk : (Value.slice Arg r0.length crg).ownBlock = some k) => And.intro (rg.own.lt k hk).1 (rg.lt k hk)
  replace I2 := I2.grown J2.out hg12 (fun k hk => by have := hr12.out k hk; have := hsz0.out; have := hsz1.out; have := hsz2.out; have := hsz3.out; have := hsz4.out; have := hsz5.out; have := hsz6.out; have := hsz7.out; have := hsz8.out; have := hsz9.out; have := hsz10.out; have := hsz11.out; omega)
  replace rw := rw.grown hg12 (fun k hk => by have := hr12.out k hk; have := hsz0.out; have := hsz1.out; have := hsz2.out; have := hsz3.out; have := hsz4.out; have := hsz5.out; have := hsz6.out; have := hsz7.out; have := hsz8.out; have := hsz9.out; have := hsz10.out; have := hsz11.out; omega)
  replace hW := below_of_grown hW hg12 hW.size (fun k hk => by have := hr12.out k hk; have := hsz0.out; have := hsz1.out; have := hsz2.out; have := hsz3.out; have := hsz4.out; have := hsz5.out; have := hsz6.out; have := hsz7.out; have := hsz8.out; have := hsz9.out; have := hsz10.out; have := hsz11.out; omega)
  replace rg := Mrg
  clear Mrg
  have hsz12 := Lib.hid hg12.size
  clear hg12 hr12
  clear hc hf
  obtain ⟨hc, hf⟩ := bcell hW
  go_wp2_with fail
  refine (heldIntS_any Arg r0.length crg _ _ rg.ints (by omega) (by omega) (by omega)).mono ?_
  rintro e w13_ ⟨rfl, hb13⟩
  replace I2 := I2.below hb13
  replace rw := rw.below hb13
  replace rg := rg.below hb13
  replace hW := belT hW hb13
  have hsz13 := Lib.hid hb13.size
  clear hc hf
  obtain ⟨hc, hf⟩ := bcell hW
  go_wp2_with fail
  refine (toGroup_any _ _ _ _).mono ?_
  rintro e w14_ ⟨rfl, hb14⟩
  replace I2 := I2.below hb14
  replace rw := rw.below hb14
  replace rg := rg.below hb14
  replace hW := belT hW hb14
  have hsz14 := Lib.hid hb14.size
  clear hc hf
  obtain ⟨hc, hf⟩ := bcell hW
  go_wp2_with fail
  refine (toIntS_any A2 n2 c2 z2 _ I2 (by omega)).mono ?_
  rintro e w15_ ⟨At2, ct2, rfl, Ot2, hb15⟩
  replace I2 := I2.below hb15
  replace rw := rw.below hb15
  replace rg := rg.below hb15
  replace hW := belT hW hb15
  have hsz15 := Lib.hid hb15.size
  clear hc hf
  obtain ⟨hc, hf⟩ := bcell hW
  have t2 := Own.mk' Ot2
  clear Ot2
  go_wp2_with fail
  refine (Hi.out At2 ct2 _ t2.ints).mono ?_
  rintro e w16_ ⟨Arh, crh, rfl, Orh, hb16⟩
  replace I2 := I2.below hb16
  replace rw := rw.below hb16
  replace rg := rg.below hb16
  replace t2 := t2.below hb16
  replace hW := belT hW hb16
  have hsz16 := Lib.hid hb16.size
  clear hc hf
  obtain ⟨hc, hf⟩ := bcell hW
  have rh := Own.mk' Orh
  clear Orh
  clear t2
  go_wp2_with fail
  refine (eqIntS_any Arh Arw _ _ crh crw r0 r0 _ rh.ints rw.ints).mono ?_
  rintro e w17_ ⟨rfl, hb17⟩
  replace I2 := I2.below hb17
  replace rw := rw.below hb17
  replace rg := rg.below hb17
  replace rh := rh.below hb17
  replace hW := belT hW hb17
  have hsz17 := Lib.hid hb17.size
  clear hc hf
  obtain ⟨hc, hf⟩ := bcell hW
  clear rh
  clear rw
  go_wp2_with fail
  refine (heldIntS_any Arg r0.length crg _ _ rg.ints (by omega) (by omega) (by omega)).mono ?_
  rintro e w18_ ⟨rfl, hb18⟩
  replace I2 := I2.below hb18
  replace rg := rg.below hb18
  replace hW := belT hW hb18
  have hsz18 := Lib.hid hb18.size
  clear hc hf
  obtain ⟨hc, hf⟩ := bcell hW
  go_wp2
  go_ret
  exact ⟨rfl, belT (by repeat (first | exact Below.refl _ _ | assumption | refine belA ?_ | refine belD ?_ | refine belN ?_ | refine belS ?_ (by simp) | refine belT ?_ (by assumption))) hW⟩

set_option maxRecDepth 100000 in
theorem lifted_FnExactChallenges (os : Os) (started : os.Started) (H : Type) (enc : TypeId × Value → H) :
    ReturnsInHanded {} Try.checked os 6 .any (Rows.fnExactChallengesSpec.pre6 enc Try.prog Try.f6 Rows.fnExactChallengesRow.domain false) (Rows.fnExactChallengesSpec.post enc Try.prog Try.f6 false true false false) := by
  refine returnsInHanded_of_change (C := Try.checked) own started (by kernel_rfl) Try.func6
    (ChangeSpec.witness6 (enc := enc) (C := Try.checked) false ⟨#[], #[.agg #[.int .i64 0, .int .i64 0, .int .i64 0], .string ByteArray.empty, .slice none 0 0, .int .i64 0], []⟩ 8 (by kernel_rfl) (by kernel_rfl) (by kernel_rfl) (by kernel_rfl)) ?_
  intro W base args ds gs before hval0 hW hcnd _
  have hval : ∀ (j : Nat) t v, Try.f6.params[j]? = some t → args[j]? = some v → Value.okWide Try.prog W .any base t v := hval0
  have hW' := hW
  obtain ⟨p, q, hA0, hV, rfl, hfz, hnd⟩ := hW
  have hA : DataW.TrodAll enc Try.prog W 0 (fun _ => true) true Try.f6.params.toList args.toList ds p := hA0
  rw [Try.params6] at hA hval
  obtain ⟨v0, vs0, d0, ds0, p0, q0, hargs, rfl, rfl, h0, r0⟩ := trodAll_cons hA
  obtain ⟨v1, vs1, d1, ds1, p1, q1, rfl, rfl, rfl, h1, r1⟩ := trodAll_cons r0
  obtain ⟨v2, vs2, d2, ds2, p2, q2, rfl, rfl, rfl, h2, r2⟩ := trodAll_cons r1
  obtain ⟨v3, vs3, d3, ds3, p3, q3, rfl, rfl, rfl, h3, r3⟩ := trodAll_cons r2
  obtain ⟨rfl, rfl, rfl⟩ := trodAll_nil r3
  obtain rfl : args = #[v0, v1, v2, v3] := by cases args; simp_all
  obtain ⟨rfl, rfl⟩ := trodVars_none hV
  have k0 := h0
  have lt0 : ∀ x ∈ p0, x.block < W.heap.size := by obtain ⟨m, hm⟩ := k0; exact DataW.trod_lt m _ _ _ hm
  obtain ⟨c0_0, c0_1, c0_2, y0_0, y0_1, y0_2, m0, rfl, rfl, rfl, u0_0, u0_1, u0_2⟩ := open_agg3 Try.underlying31 (by kernel_rfl) (by kernel_rfl) (hval 0 31 v0 rfl rfl) h0
  obtain ⟨b0_0, e0_0, hb0_0, x0_0⟩ := DataW.trod_int Try.underlying3 u0_0
  simp only [List.cons.injEq, and_true] at e0_0
  subst e0_0
  obtain ⟨b0_1, e0_1, hb0_1, x0_1⟩ := DataW.trod_int Try.underlying3 u0_1
  simp only [List.cons.injEq, and_true] at e0_1
  subst e0_1
  obtain ⟨b0_2, e0_2, hb0_2, x0_2⟩ := DataW.trod_int Try.underlying3 u0_2
  simp only [List.cons.injEq, and_true] at e0_2
  subst e0_2
  have k1 := h1
  have lt1 : ∀ x ∈ p1, x.block < W.heap.size := by obtain ⟨m, hm⟩ := k1; exact DataW.trod_lt m _ _ _ hm
  obtain ⟨s1, rfl, rfl, rfl, w1⟩ := open_string Try.underlying9 (hval 1 9 v1 rfl rfl) h1
  have k2 := h2
  have lt2 : ∀ x ∈ p2, x.block < W.heap.size := by obtain ⟨m, hm⟩ := k2; exact DataW.trod_lt m _ _ _ hm
  obtain ⟨a2, len2, cap2, rfl⟩ := okWide_slice Try.underlying22 (hval 2 22 v2 rfl rfl)
  obtain ⟨z2, w2⟩ : ∃ zs, IsRow .i64 W a2 len2 cap2 zs := by
    obtain ⟨fuel, hf⟩ := h2
    rcases open_ints Try.underlying22 Try.underlying3 (by kernel_rfl) hf with ⟨hcs, _⟩ | ⟨x, l, c, zs, hcs, _, hl, hm, hz, _, hcell, hwz⟩
    · simp [Value.cells] at hcs
      obtain ⟨rfl, rfl, rfl⟩ := hcs
      exact ⟨[], .inl ⟨rfl, rfl, rfl, rfl⟩⟩
    · simp [Value.cells] at hcs
      obtain ⟨rfl, rfl, rfl⟩ := hcs
      exact ⟨zs, .inr ⟨_, rfl, hl, hm, by simpa using hz, hcell, hwz⟩⟩
  have k3 := h3
  have lt3 : ∀ x ∈ p3, x.block < W.heap.size := by obtain ⟨m, hm⟩ := k3; exact DataW.trod_lt m _ _ _ hm
  obtain ⟨a3, rfl, rfl, rfl, w3⟩ := open_int Try.underlying3 (hval 3 3 v3 rfl rfl) h3
  clear hA0 hval0
  refine (walk_FnExactChallenges (w := W) b0_0 b0_1 b0_2 x0_0 x0_1 x0_2 s1 w1 a2 len2 cap2 z2 w2 a3 w3).mono fun e W' ⟨he, bel⟩ => ?_
  subst he
  exact ⟨_, rfl, _, _, _, [], _, [], hW', trodAll_mk1 (shut_bool Try.underlying4 _), (trodAll_cons_mk (Below.trod laidOut (by kernel_rfl) (of_decide_eq_true (by kernel_rfl)) k0 bel lt0) (trodAll_cons_mk (Below.trod laidOut (by kernel_rfl) (of_decide_eq_true (by kernel_rfl)) k1 bel lt1) (trodAll_cons_mk (Below.trod laidOut (by kernel_rfl) (of_decide_eq_true (by kernel_rfl)) k2 bel lt2) (trodAll_cons_mk (Below.trod laidOut (by kernel_rfl) (of_decide_eq_true (by kernel_rfl)) k3 bel lt3) trodAll_mk0)))), rfl, bel.frame _, fun h => by cases h⟩

theorem over_FnExactChallenges : Rows.fnExactChallengesRow.holds Try.pinned (OpenSpec.ofChange Rows.fnExactChallengesSpec) :=
  OpenClaim.holds_of_wide 6 Try.f6 rfl rfl rfl rfl rfl rfl rfl ⟨rfl, rfl, rfl, rfl, rfl⟩ rfl rfl rfl rfl rfl (by kernel_rfl) Try.func6 (by kernel_rfl)
    (of_decide_eq_true (by kernel_rfl)) (by unfold Func.isWrapper; first | (rw [if_pos (by decide +kernel)]; kernel_rfl) | (rw [if_neg (by decide +kernel)]; exact ⟨rfl, rfl⟩))
    (fun os started H enc _ => lifted_FnExactChallenges os started H enc)

theorem proved_FnExactChallenges : Rows.FnExactChallengesSaid := over_FnExactChallenges
#print axioms proved_FnExactChallenges
end Go.Proofs.Ytggmcbhijbggdaa
