/- The program's IsTrueEqual returns what the reference's IsTrueEqual returns, for all arguments: proved with no condition. -/
import Derived.Test.YtehemfhnhjengaaEq
import Derived.Test.YtehemfhnhjengaaLw
import Derived.Test.YtehemfhnhjengaaLy
import Derived.Deep.DeepCutAuto
namespace Go.Proofs.Ytehemfhnhjengaa
open Go.ChangeShapes Go.WideShapes Go.ChangeAt Go.RowKit Go.Joins
open Go.ChangeMaps (open_string shut_string)
set_option linter.unusedVariables false
set_option linter.unusedSimpArgs false
set_option maxRecDepth 100000 in
set_option maxHeartbeats 800000 in
theorem walk_FnExactIsTrueEqual (w : World) (p0 q0 g0 : Int) (w0a : (Lit.int .i64 p0).wf = true) (w0b : (Lit.int .i64 q0).wf = true) (w0c : (Lit.int .i64 g0).wf = true) (e1a e1b e1c e1d : Int) (w1a : (Lit.int .i64 e1a).wf = true) (w1b : (Lit.int .i64 e1b).wf = true) (w1c : (Lit.int .i64 e1c).wf = true) (w1d : (Lit.int .i64 e1d).wf = true) (x2 : Int) (w2 : (Lit.int .i64 x2).wf = true) :
    Calls Try.prog 11 #[.agg #[.int .i64 p0, .int .i64 q0, .int .i64 g0], .agg #[.int .i64 e1a, .int .i64 e1b, .int .i64 e1c, .int .i64 e1d], .int .i64 x2] w fun e w' => e = .returned (.bool true) ∧ Below w.heap.size w w' := by
  clear w0a w0b w0c w1a w1b w1c w1d w2
  have hs := fun  (W : World)  => sIsTrueEqual_any p0 q0 g0 e1a e1b e1c e1d x2 W  
  have hi := fun  (W : World)  => iIsTrueEqual_any p0 q0 g0 e1a e1b e1c e1d x2 W  
  generalize (teM p0 q0 g0 e1a e1b e1c e1d x2).1 = r0 at hs hi
  generalize (teM p0 q0 g0 e1a e1b e1c e1d x2).2 = r1 at hs hi
  have Hs := Lib.hid hs
  have Hi := Lib.hid hi
  clear hs hi
  go_enter Try.func11, Try.ntmps11
  go_upto_region 1 with fail
  have hB : Below w.heap.size w ((w.alloc (.cells #[.int .i64 p0, .int .i64 q0, .int .i64 g0] 35)).alloc (.cells #[.int .i64 e1a, .int .i64 e1b, .int .i64 e1c, .int .i64 e1d] 50)) := (by repeat (first | exact Below.refl _ _ | assumption | refine belA ?_ | refine belD ?_ | refine belN ?_ | refine belS ?_ (by simp) | refine belT ?_ (by assumption)))
  generalize hW0 : ((w.alloc (.cells #[.int .i64 p0, .int .i64 q0, .int .i64 g0] 35)).alloc (.cells #[.int .i64 e1a, .int .i64 e1b, .int .i64 e1c, .int .i64 e1d] 50)) = W0 at hB
  have k1 : W0.cell? ⟨w.heap.size, 0, none⟩ = some (.int .i64 p0) := by subst hW0; rw [World.cell?_alloc_past _ _ _ (by simp <;> omega), World.cell?_alloc_at _ _ _ _ (by simp)]; rfl
  have k2 : W0.cell? ⟨w.heap.size, 1, none⟩ = some (.int .i64 q0) := by subst hW0; rw [World.cell?_alloc_past _ _ _ (by simp <;> omega), World.cell?_alloc_at _ _ _ _ (by simp)]; rfl
  have k3 : W0.cell? ⟨w.heap.size, 2, none⟩ = some (.int .i64 g0) := by subst hW0; rw [World.cell?_alloc_past _ _ _ (by simp <;> omega), World.cell?_alloc_at _ _ _ _ (by simp)]; rfl
  have k4 : W0.cell? ⟨w.heap.size + 1, 0, none⟩ = some (.int .i64 e1a) := by subst hW0; rw [World.cell?_alloc_at _ _ _ _ (by simp)]; rfl
  have k5 : W0.cell? ⟨w.heap.size + 1, 1, none⟩ = some (.int .i64 e1b) := by subst hW0; rw [World.cell?_alloc_at _ _ _ _ (by simp)]; rfl
  have k6 : W0.cell? ⟨w.heap.size + 1, 2, none⟩ = some (.int .i64 e1c) := by subst hW0; rw [World.cell?_alloc_at _ _ _ _ (by simp)]; rfl
  have k7 : W0.cell? ⟨w.heap.size + 1, 3, none⟩ = some (.int .i64 e1d) := by subst hW0; rw [World.cell?_alloc_at _ _ _ _ (by simp)]; rfl
  clear hW0
  go_upto_region 1 with fail
  go_cut [7, 8] (fun s0 s1 W => s0 = .bool r0 ∧ s1 = .bool r1 ∧ Hid (Below W0.heap.size W0 W))
  case first =>
    have hX := Below.refl W0.heap.size W0
    go_region_held3 (fun W => W.cell? ⟨w.heap.size, 0, none⟩ = some (.int .i64 p0) ∧ W.cell? ⟨w.heap.size, 1, none⟩ = some (.int .i64 q0) ∧ W.cell? ⟨w.heap.size, 2, none⟩ = some (.int .i64 g0) ∧ W.cell? ⟨w.heap.size + 1, 0, none⟩ = some (.int .i64 e1a) ∧ W.cell? ⟨w.heap.size + 1, 1, none⟩ = some (.int .i64 e1b) ∧ W.cell? ⟨w.heap.size + 1, 2, none⟩ = some (.int .i64 e1c) ∧ W.cell? ⟨w.heap.size + 1, 3, none⟩ = some (.int .i64 e1d)) (first | (go_split_ands; (repeat' apply And.intro) <;> first | assumption | exact keepB hb1 (by assumption) | (refine keepS (by simp <;> omega) (keepS (by simp <;> omega) ?_); assumption) | (refine keepS (by simp <;> omega) ?_; assumption) | (refine keepB (belA (Below.refl _ _)) ?_; assumption) | go_keep) | go_keep) ((first | (go_at_call 26; refine (toGroup_any _ _ _ _).mono ?_; rintro e w1 ⟨rfl, hb1⟩; obtain ⟨hc1, hf1⟩ := bcell hb1) | (go_at_call 38; refine (toEqualLog_any _ _ _ _ _).mono ?_; rintro e w1 ⟨rfl, hb1⟩; obtain ⟨hc1, hf1⟩ := bcell hb1) | (go_at_call 37; refine (Hs.out _).mono ?_; rintro e w1 ⟨rfl, hb1⟩; obtain ⟨hc1, hf1⟩ := bcell hb1)))
    all_goals go_wp2_with fail
    all_goals go_meet
    all_goals exact ⟨rfl, rfl, Lib.hid (by repeat (first | exact Below.refl _ _ | assumption | refine belA ?_ | refine belD ?_ | refine belN ?_ | refine belS ?_ (by simp <;> omega) | refine belT ?_ (by assumption)))⟩
  obtain ⟨rfl, rfl, H0⟩ := hcut
  obtain ⟨wA, hw_⟩ : ∃ x, x = wc := ⟨_, rfl⟩
  subst hw_
  replace k1 := keepB H0.out k1
  replace k2 := keepB H0.out k2
  replace k3 := keepB H0.out k3
  replace k4 := keepB H0.out k4
  replace k5 := keepB H0.out k5
  replace k6 := keepB H0.out k6
  replace k7 := keepB H0.out k7
  go_upto_region 2 with fail
  go_cut [9, 10] (fun s0 s1 W => s0 = .bool r0 ∧ s1 = .bool r1 ∧ Hid (Below wA.heap.size wA W))
  case first =>
    have hX := Below.refl wA.heap.size wA
    go_region_held3 (fun W => W.cell? ⟨w.heap.size, 0, none⟩ = some (.int .i64 p0) ∧ W.cell? ⟨w.heap.size, 1, none⟩ = some (.int .i64 q0) ∧ W.cell? ⟨w.heap.size, 2, none⟩ = some (.int .i64 g0) ∧ W.cell? ⟨w.heap.size + 1, 0, none⟩ = some (.int .i64 e1a) ∧ W.cell? ⟨w.heap.size + 1, 1, none⟩ = some (.int .i64 e1b) ∧ W.cell? ⟨w.heap.size + 1, 2, none⟩ = some (.int .i64 e1c) ∧ W.cell? ⟨w.heap.size + 1, 3, none⟩ = some (.int .i64 e1d)) (first | (go_split_ands; (repeat' apply And.intro) <;> first | assumption | exact keepB hb1 (by assumption) | (refine keepS (by simp <;> omega) (keepS (by simp <;> omega) ?_); assumption) | (refine keepS (by simp <;> omega) ?_; assumption) | (refine keepB (belA (Below.refl _ _)) ?_; assumption) | go_keep) | go_keep) ((first | (go_at_call 26; refine (toGroup_any _ _ _ _).mono ?_; rintro e w1 ⟨rfl, hb1⟩; obtain ⟨hc1, hf1⟩ := bcell hb1) | (go_at_call 38; refine (toEqualLog_any _ _ _ _ _).mono ?_; rintro e w1 ⟨rfl, hb1⟩; obtain ⟨hc1, hf1⟩ := bcell hb1) | (go_at_call 39; refine (Hi.out _).mono ?_; rintro e w1 ⟨rfl, hb1⟩; obtain ⟨hc1, hf1⟩ := bcell hb1)))
    all_goals go_wp2_with fail
    all_goals go_meet
    all_goals exact ⟨rfl, rfl, Lib.hid (by repeat (first | exact Below.refl _ _ | assumption | refine belA ?_ | refine belD ?_ | refine belN ?_ | refine belS ?_ (by simp <;> omega) | refine belT ?_ (by assumption)))⟩
  obtain ⟨rfl, rfl, H1⟩ := hcut
  obtain ⟨wB, hw_⟩ : ∃ x, x = wc := ⟨_, rfl⟩
  subst hw_
  have hX := belT (belT hB H0.out) H1.out
  go_wp2
  go_ret
  exact ⟨rfl, (by repeat (first | exact Below.refl _ _ | assumption | refine belA ?_ | refine belD ?_ | refine belN ?_ | refine belS ?_ (by simp <;> omega) | refine belT ?_ (by assumption)))⟩

set_option maxRecDepth 100000 in
theorem lifted_FnExactIsTrueEqual (os : Os) (started : os.Started) (H : Type) (enc : TypeId × Value → H) :
    ReturnsInHanded {} Try.checked os 11 .any (Rows.fnExactIsTrueEqualSpec.pre6 enc Try.prog Try.f11 Rows.fnExactIsTrueEqualRow.domain false) (Rows.fnExactIsTrueEqualSpec.post enc Try.prog Try.f11 false true false false) := by
  refine returnsInHanded_of_change (C := Try.checked) own started (by kernel_rfl) Try.func11
    (ChangeSpec.witness6 (enc := enc) (C := Try.checked) false ⟨#[], #[.agg #[.int .i64 0, .int .i64 0, .int .i64 0], .agg #[.int .i64 0, .int .i64 0, .int .i64 0, .int .i64 0], .int .i64 0], []⟩ 8 (by kernel_rfl) (by kernel_rfl) (by kernel_rfl) (by kernel_rfl)) ?_
  intro W base args ds gs before hval0 hW hcnd _
  have hval : ∀ (j : Nat) t v, Try.f11.params[j]? = some t → args[j]? = some v → Value.okWide Try.prog W .any base t v := hval0
  have hW' := hW
  obtain ⟨p, q, hA0, hV, rfl, hfz, hnd⟩ := hW
  have hA : DataW.TrodAll enc Try.prog W 0 (fun _ => true) true Try.f11.params.toList args.toList ds p := hA0
  rw [Try.params11] at hA hval
  obtain ⟨v0, vs0, d0, ds0, p0, q0, hargs, rfl, rfl, h0, r0⟩ := trodAll_cons hA
  obtain ⟨v1, vs1, d1, ds1, p1, q1, rfl, rfl, rfl, h1, r1⟩ := trodAll_cons r0
  obtain ⟨v2, vs2, d2, ds2, p2, q2, rfl, rfl, rfl, h2, r2⟩ := trodAll_cons r1
  obtain ⟨rfl, rfl, rfl⟩ := trodAll_nil r2
  obtain rfl : args = #[v0, v1, v2] := by cases args; simp_all
  obtain ⟨rfl, rfl⟩ := trodVars_none hV
  have k0 := h0
  have lt0 : ∀ x ∈ p0, x.block < W.heap.size := by obtain ⟨m, hm⟩ := k0; exact DataW.trod_lt m _ _ _ hm
  obtain ⟨c0_0, c0_1, c0_2, y0_0, y0_1, y0_2, m0, rfl, rfl, rfl, u0_0, u0_1, u0_2⟩ := open_agg3 Try.underlying35 (by kernel_rfl) (by kernel_rfl) (hval 0 35 v0 rfl rfl) h0
  obtain ⟨b0_0, e0_0, hb0_0, x0_0⟩ := DataW.trod_int Try.underlying3 u0_0
  simp only [List.cons.injEq, and_true] at e0_0
  subst e0_0
  obtain ⟨b0_1, e0_1, hb0_1, x0_1⟩ := DataW.trod_int Try.underlying3 u0_1
  simp only [List.cons.injEq, and_true] at e0_1
  subst e0_1
  obtain ⟨b0_2, e0_2, hb0_2, x0_2⟩ := DataW.trod_int Try.underlying3 u0_2
  simp only [List.cons.injEq, and_true] at e0_2
  subst e0_2
  have k1 := h1
  have lt1 : ∀ x ∈ p1, x.block < W.heap.size := by obtain ⟨m, hm⟩ := k1; exact DataW.trod_lt m _ _ _ hm
  obtain ⟨c1_0, c1_1, c1_2, c1_3, y1_0, y1_1, y1_2, y1_3, m1, rfl, rfl, rfl, u1_0, u1_1, u1_2, u1_3⟩ := open_agg4 Try.underlying50 (by kernel_rfl) (by kernel_rfl) (hval 1 50 v1 rfl rfl) h1
  obtain ⟨b1_0, e1_0, hb1_0, x1_0⟩ := DataW.trod_int Try.underlying3 u1_0
  simp only [List.cons.injEq, and_true] at e1_0
  subst e1_0
  obtain ⟨b1_1, e1_1, hb1_1, x1_1⟩ := DataW.trod_int Try.underlying3 u1_1
  simp only [List.cons.injEq, and_true] at e1_1
  subst e1_1
  obtain ⟨b1_2, e1_2, hb1_2, x1_2⟩ := DataW.trod_int Try.underlying3 u1_2
  simp only [List.cons.injEq, and_true] at e1_2
  subst e1_2
  obtain ⟨b1_3, e1_3, hb1_3, x1_3⟩ := DataW.trod_int Try.underlying3 u1_3
  simp only [List.cons.injEq, and_true] at e1_3
  subst e1_3
  have k2 := h2
  have lt2 : ∀ x ∈ p2, x.block < W.heap.size := by obtain ⟨m, hm⟩ := k2; exact DataW.trod_lt m _ _ _ hm
  obtain ⟨a2, rfl, rfl, rfl, w2⟩ := open_int Try.underlying3 (hval 2 3 v2 rfl rfl) h2
  clear hA0 hval0
  refine (walk_FnExactIsTrueEqual (w := W) b0_0 b0_1 b0_2 x0_0 x0_1 x0_2 b1_0 b1_1 b1_2 b1_3 x1_0 x1_1 x1_2 x1_3 a2 w2).mono fun e W' ⟨he, bel⟩ => ?_
  subst he
  exact ⟨_, rfl, _, _, _, [], _, [], hW', trodAll_mk1 (shut_bool Try.underlying4 _), (trodAll_cons_mk (Below.trod laidOut (by kernel_rfl) (of_decide_eq_true (by kernel_rfl)) k0 bel lt0) (trodAll_cons_mk (Below.trod laidOut (by kernel_rfl) (of_decide_eq_true (by kernel_rfl)) k1 bel lt1) (trodAll_cons_mk (Below.trod laidOut (by kernel_rfl) (of_decide_eq_true (by kernel_rfl)) k2 bel lt2) trodAll_mk0))), rfl, bel.frame _, fun h => by cases h⟩

theorem over_FnExactIsTrueEqual : Rows.fnExactIsTrueEqualRow.holds Try.pinned (OpenSpec.ofChange Rows.fnExactIsTrueEqualSpec) :=
  OpenClaim.holds_of_wide 11 Try.f11 rfl rfl rfl rfl rfl rfl rfl ⟨rfl, rfl, rfl, rfl, rfl⟩ rfl rfl rfl rfl rfl (by kernel_rfl) Try.func11 (by kernel_rfl)
    (of_decide_eq_true (by kernel_rfl)) (by unfold Func.isWrapper; first | (rw [if_pos (by decide +kernel)]; kernel_rfl) | (rw [if_neg (by decide +kernel)]; exact ⟨rfl, rfl⟩))
    (fun os started H enc _ => lifted_FnExactIsTrueEqual os started H enc)

theorem proved_FnExactIsTrueEqual : Rows.FnExactIsTrueEqualSaid := over_FnExactIsTrueEqual
#print axioms proved_FnExactIsTrueEqual
end Go.Proofs.Ytehemfhnhjengaa
