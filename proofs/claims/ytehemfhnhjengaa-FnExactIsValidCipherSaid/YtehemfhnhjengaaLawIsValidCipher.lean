/- The program's IsValidCipher returns what the reference's IsValidCipher returns, for all arguments: proved with no condition. -/
import Derived.Test.YtehemfhnhjengaaCi2
import Derived.Test.YtehemfhnhjengaaLw
import Derived.Test.YtehemfhnhjengaaLx
namespace Go.Proofs.Ytehemfhnhjengaa
open Go.ChangeShapes Go.WideShapes Go.ChangeAt Go.RowKit Go.Joins
open Go.ChangeMaps (open_string shut_string)
set_option linter.unusedVariables false
set_option maxRecDepth 100000 in
set_option maxHeartbeats 800000 in
theorem walk_FnExactIsValidCipher (w : World) (p0 q0 g0 : Int) (w0a : (Lit.int .i64 p0).wf = true) (w0b : (Lit.int .i64 q0).wf = true) (w0c : (Lit.int .i64 g0).wf = true) (u1 v1 : Int) (w1a : (Lit.int .i64 u1).wf = true) (w1b : (Lit.int .i64 v1).wf = true) :
    Calls Try.prog 8 #[.agg #[.int .i64 p0, .int .i64 q0, .int .i64 g0], .agg #[.int .i64 u1, .int .i64 v1]] w fun e w' => e = .returned (.bool true) ∧ Below w.heap.size w w' := by
  clear w0a w0b w0c w1a w1b
  have hs := fun  (W : World)  => sIsValidCipher_any p0 q0 g0 u1 v1 W  
  have hi := fun  (W : World)  => iIsValidCipher_any p0 q0 g0 u1 v1 W  
  generalize vcM p0 q0 g0 u1 v1 = r0 at hs hi
  have Hs := Lib.hid hs
  have Hi := Lib.hid hi
  clear hs hi
  go_enter Try.func8, Try.ntmps8
  go_wp2
  have hB : Below w.heap.size w ((w.alloc (.cells #[.int .i64 p0, .int .i64 q0, .int .i64 g0] 35)).alloc (.cells #[.int .i64 u1, .int .i64 v1] 40)) := (by repeat (first | exact Below.refl _ _ | assumption | refine belA ?_ | refine belD ?_ | refine belN ?_ | refine belS ?_ (by simp) | refine belT ?_ (by assumption)))
  generalize hW0 : ((w.alloc (.cells #[.int .i64 p0, .int .i64 q0, .int .i64 g0] 35)).alloc (.cells #[.int .i64 u1, .int .i64 v1] 40)) = W0 at hB
  have k1 : W0.cell? ⟨w.heap.size, 0, none⟩ = some (.int .i64 p0) := by subst hW0; rw [World.cell?_alloc_past _ _ _ (by simp <;> omega), World.cell?_alloc_at _ _ _ _ (by simp)]; rfl
  have k2 : W0.cell? ⟨w.heap.size, 1, none⟩ = some (.int .i64 q0) := by subst hW0; rw [World.cell?_alloc_past _ _ _ (by simp <;> omega), World.cell?_alloc_at _ _ _ _ (by simp)]; rfl
  have k3 : W0.cell? ⟨w.heap.size, 2, none⟩ = some (.int .i64 g0) := by subst hW0; rw [World.cell?_alloc_past _ _ _ (by simp <;> omega), World.cell?_alloc_at _ _ _ _ (by simp)]; rfl
  have k4 : W0.cell? ⟨w.heap.size + 1, 0, none⟩ = some (.int .i64 u1) := by subst hW0; rw [World.cell?_alloc_at _ _ _ _ (by simp)]; rfl
  have k5 : W0.cell? ⟨w.heap.size + 1, 1, none⟩ = some (.int .i64 v1) := by subst hW0; rw [World.cell?_alloc_at _ _ _ _ (by simp)]; rfl
  have hz : w.heap.size + 1 < W0.heap.size := by subst hW0; simp <;> omega
  clear hW0
  go_region_held3 (fun W => W.cell? ⟨w.heap.size, 0, none⟩ = some (.int .i64 p0) ∧ W.cell? ⟨w.heap.size, 1, none⟩ = some (.int .i64 q0) ∧ W.cell? ⟨w.heap.size, 2, none⟩ = some (.int .i64 g0) ∧ W.cell? ⟨w.heap.size + 1, 0, none⟩ = some (.int .i64 u1) ∧ W.cell? ⟨w.heap.size + 1, 1, none⟩ = some (.int .i64 v1)) (first | (go_split_ands; (repeat' apply And.intro) <;> first | assumption | exact keepB hb1 (by assumption) | exact keepAA (by assumption) (by simp <;> omega) | (refine keepB (belA (Below.refl _ _)) ?_; assumption) | go_keep) | go_keep) ((first | (go_at_call 26; refine (toGroup_any _ _ _ _).mono ?_; rintro e w1 ⟨rfl, hb1⟩; replace hz := szB (by first | exact hz | (have hz1 := hz; simp <;> omega)) hb1) | (go_at_call 31; refine (toCipher_any _ _ _).mono ?_; rintro e w1 ⟨rfl, hb1⟩; replace hz := szB hz hb1) | (go_at_call 30; refine (Hs.out _).mono ?_; rintro e w1 ⟨rfl, hb1⟩; replace hz := szB (by first | exact hz | (have hz1 := hz; simp <;> omega)) hb1)))
  go_wp2
  go_region_held3 (fun W => W.cell? ⟨w.heap.size, 0, none⟩ = some (.int .i64 p0) ∧ W.cell? ⟨w.heap.size, 1, none⟩ = some (.int .i64 q0) ∧ W.cell? ⟨w.heap.size, 2, none⟩ = some (.int .i64 g0) ∧ W.cell? ⟨w.heap.size + 1, 0, none⟩ = some (.int .i64 u1) ∧ W.cell? ⟨w.heap.size + 1, 1, none⟩ = some (.int .i64 v1)) (first | (go_split_ands; (repeat' apply And.intro) <;> first | assumption | exact keepB hb1 (by assumption) | exact keepAA (by assumption) (by simp <;> omega) | (refine keepB (belA (Below.refl _ _)) ?_; assumption) | go_keep) | go_keep) ((first | (go_at_call 26; refine (toGroup_any _ _ _ _).mono ?_; rintro e w1 ⟨rfl, hb1⟩; replace hz := szB (by first | exact hz | (have hz1 := hz; simp <;> omega)) hb1) | (go_at_call 31; refine (toCipher_any _ _ _).mono ?_; rintro e w1 ⟨rfl, hb1⟩; replace hz := szB hz hb1) | (go_at_call 32; refine (Hi.out _).mono ?_; rintro e w1 ⟨rfl, hb1⟩; replace hz := szB (by first | exact hz | (have hz1 := hz; simp <;> omega)) hb1)))
  go_wp2
  go_ret
  exact ⟨rfl, (by repeat (first | exact Below.refl _ _ | assumption | refine belA ?_ | refine belD ?_ | refine belN ?_ | refine belS ?_ (by simp) | refine belT ?_ (by assumption)))⟩

set_option maxRecDepth 100000 in
theorem lifted_FnExactIsValidCipher (os : Os) (started : os.Started) (H : Type) (enc : TypeId × Value → H) :
    ReturnsInHanded {} Try.checked os 8 .any (Rows.fnExactIsValidCipherSpec.pre6 enc Try.prog Try.f8 Rows.fnExactIsValidCipherRow.domain false) (Rows.fnExactIsValidCipherSpec.post enc Try.prog Try.f8 false true false false) := by
  refine returnsInHanded_of_change (C := Try.checked) own started (by kernel_rfl) Try.func8
    (ChangeSpec.witness6 (enc := enc) (C := Try.checked) false ⟨#[], #[.agg #[.int .i64 0, .int .i64 0, .int .i64 0], .agg #[.int .i64 0, .int .i64 0]], []⟩ 8 (by kernel_rfl) (by kernel_rfl) (by kernel_rfl) (by kernel_rfl)) ?_
  intro W base args ds gs before hval0 hW hcnd _
  have hval : ∀ (j : Nat) t v, Try.f8.params[j]? = some t → args[j]? = some v → Value.okWide Try.prog W .any base t v := hval0
  have hW' := hW
  obtain ⟨p, q, hA0, hV, rfl, hfz, hnd⟩ := hW
  have hA : DataW.TrodAll enc Try.prog W 0 (fun _ => true) true Try.f8.params.toList args.toList ds p := hA0
  rw [Try.params8] at hA hval
  obtain ⟨v0, vs0, d0, ds0, p0, q0, hargs, rfl, rfl, h0, r0⟩ := trodAll_cons hA
  obtain ⟨v1, vs1, d1, ds1, p1, q1, rfl, rfl, rfl, h1, r1⟩ := trodAll_cons r0
  obtain ⟨rfl, rfl, rfl⟩ := trodAll_nil r1
  obtain rfl : args = #[v0, v1] := by cases args; simp_all
  obtain ⟨rfl, rfl⟩ := trodVars_none hV
  have k0 := h0
  have lt0 : ∀ x ∈ p0, x.block < W.heap.size := by obtain ⟨m, hm⟩ := k0; exact DataW.trod_lt m _ _ _ hm
  obtain ⟨c0_0, c0_1, c0_2, y0_0, y0_1, y0_2, m0, rfl, rfl, rfl, u0_0, u0_1, u0_2⟩ := open_agg3 Try.underlying35 (by kernel_rfl) (by kernel_rfl) (hval 0 35 v0 rfl rfl) h0
  obtain ⟨b0_0, e0_0, hb0_0, x0_0⟩ := DataW.trod_int Try.underlying3 u0_0
  simp only [List.cons.injEq, and_true] at e0_0
  subst e0_0
  obtain ⟨b0_1, e0_1, hb0_1, x0_1⟩ := DataW.trod_int Try.underlying3 u0_1
  simp only [List.cons.injEq, and_true] at e0_1
  subst e0_1
  obtain ⟨b0_2, e0_2, hb0_2, x0_2⟩ := DataW.trod_int Try.underlying3 u0_2
  simp only [List.cons.injEq, and_true] at e0_2
  subst e0_2
  have k1 := h1
  have lt1 : ∀ x ∈ p1, x.block < W.heap.size := by obtain ⟨m, hm⟩ := k1; exact DataW.trod_lt m _ _ _ hm
  obtain ⟨c1_0, c1_1, y1_0, y1_1, m1, rfl, rfl, rfl, u1_0, u1_1⟩ := open_agg2 Try.underlying40 (by kernel_rfl) (by kernel_rfl) (hval 1 40 v1 rfl rfl) h1
  obtain ⟨b1_0, e1_0, hb1_0, x1_0⟩ := DataW.trod_int Try.underlying3 u1_0
  simp only [List.cons.injEq, and_true] at e1_0
  subst e1_0
  obtain ⟨b1_1, e1_1, hb1_1, x1_1⟩ := DataW.trod_int Try.underlying3 u1_1
  simp only [List.cons.injEq, and_true] at e1_1
  subst e1_1
  clear hA0 hval0
  refine (walk_FnExactIsValidCipher (w := W) b0_0 b0_1 b0_2 x0_0 x0_1 x0_2 b1_0 b1_1 x1_0 x1_1).mono fun e W' ⟨he, bel⟩ => ?_
  subst he
  exact ⟨_, rfl, _, _, _, [], _, [], hW', trodAll_mk1 (shut_bool Try.underlying4 _), (trodAll_cons_mk (Below.trod laidOut (by kernel_rfl) (of_decide_eq_true (by kernel_rfl)) k0 bel lt0) (trodAll_cons_mk (Below.trod laidOut (by kernel_rfl) (of_decide_eq_true (by kernel_rfl)) k1 bel lt1) trodAll_mk0)), rfl, bel.frame _, fun h => by cases h⟩

theorem over_FnExactIsValidCipher : Rows.fnExactIsValidCipherRow.holds Try.pinned (OpenSpec.ofChange Rows.fnExactIsValidCipherSpec) :=
  OpenClaim.holds_of_wide 8 Try.f8 rfl rfl rfl rfl rfl rfl rfl ⟨rfl, rfl, rfl, rfl, rfl⟩ rfl rfl rfl rfl rfl (by kernel_rfl) Try.func8 (by kernel_rfl)
    (of_decide_eq_true (by kernel_rfl)) (by unfold Func.isWrapper; first | (rw [if_pos (by decide +kernel)]; kernel_rfl) | (rw [if_neg (by decide +kernel)]; exact ⟨rfl, rfl⟩))
    (fun os started H enc _ => lifted_FnExactIsValidCipher os started H enc)

theorem proved_FnExactIsValidCipher : Rows.FnExactIsValidCipherSaid := over_FnExactIsValidCipher
#print axioms proved_FnExactIsValidCipher
end Go.Proofs.Ytehemfhnhjengaa
