/- The program's EncryptElement returns what the reference's EncryptElement returns, for all arguments: proved with no condition. -/
import Derived.Test.YtemhjhaokbgldaaEe
import Derived.Test.YtemhjhaokbgldaaLw
namespace Go.Proofs.Ytemhjhaokbgldaa
open Go.ChangeShapes Go.WideShapes Go.ChangeAt Go.RowKit Go.Joins
open Go.ChangeMaps (open_string shut_string)
set_option linter.unusedVariables false
set_option maxHeartbeats 800000 in
theorem walk_FnExactEncryptElement (w : World) (p0 q0 g0 : Int) (w0a : (Lit.int .i64 p0).wf = true) (w0b : (Lit.int .i64 q0).wf = true) (w0c : (Lit.int .i64 g0).wf = true) (x1 : Int) (w1 : (Lit.int .i64 x1).wf = true) (x2 : Int) (w2 : (Lit.int .i64 x2).wf = true) (x3 : Int) (w3 : (Lit.int .i64 x3).wf = true) :
    Calls Try.prog 4 #[.agg #[.int .i64 p0, .int .i64 q0, .int .i64 g0], .int .i64 x1, .int .i64 x2, .int .i64 x3] w fun e w' => e = .returned (.bool true) ∧ Below w.heap.size w w' := by
  clear w0a w0b w0c w1 w2 w3
  have hs := fun  (W : World)  => sEncryptElement_any p0 q0 g0 x1 x2 x3 W  
  have hi := fun  (W : World)  => iEncryptElement_any p0 q0 g0 x1 x2 x3 W  
  generalize (eeM p0 q0 g0 x1 x2 x3).1.1 = r0 at hs hi
  generalize (eeM p0 q0 g0 x1 x2 x3).1.2 = r1 at hs hi
  generalize (eeM p0 q0 g0 x1 x2 x3).2 = r2 at hs hi
  have Hs := Lib.hid hs
  have Hi := Lib.hid hi
  clear hs hi
  go_enter Try.func4, Try.ntmps4
  go_wp2_with fail
  refine (toGroup_any _ _ _ _).mono ?_
  rintro e w1_ ⟨rfl, hb1⟩
  have hW := hb1
  obtain ⟨hc, hf⟩ := bcell hW
  have zz : w.heap.size < w1_.heap.size := by have := hW.size; simp at this; omega
  go_wp2_with fail
  refine (Hs.out  _ ).mono ?_
  rintro e w2_ ⟨rfl, hb2⟩
  have hn2 : Below w1_.heap.size w1_ w2_ := (by first | exact hb2 | exact belT (belA (Below.refl _ _)) hb2)
  replace hW := belT hW hn2
  clear hc hf
  obtain ⟨hc, hf⟩ := bcell hW
  clear zz
  have zz : w.heap.size < w2_.heap.size := by have := hW.size; simp at this; omega
  go_wp2_with fail
  refine (toGroup_any _ _ _ _).mono ?_
  rintro e w3_ ⟨rfl, hb3⟩
  have hn3 : Below w2_.heap.size w2_ w3_ := (by first | exact hb3 | exact belT (belA (Below.refl _ _)) hb3)
  replace hW := belT hW hn3
  have c00 : w3_.cell? ⟨w2_.heap.size, 0, none⟩ = some (.int .i64 r0) := keepB hb3 (by rw [World.cell?_alloc_at _ _ _ _ (by simp)]; rfl)
  have c01 : w3_.cell? ⟨w2_.heap.size, 1, none⟩ = some (.int .i64 r1) := keepB hb3 (by rw [World.cell?_alloc_at _ _ _ _ (by simp)]; rfl)
  have z00 := World.block_lt_of_cell? _ _ c00
  simp only at z00
  clear hc hf
  obtain ⟨hc, hf⟩ := bcell hW
  clear zz
  have zz : w.heap.size < w3_.heap.size := by have := hW.size; simp at this; omega
  go_wp2_with fail
  refine (Hi.out  _ ).mono ?_
  rintro e w4_ ⟨rfl, hb4⟩
  have hn4 : Below w3_.heap.size w3_ w4_ := (by first | exact hb4 | exact belT (belA (Below.refl _ _)) hb4)
  replace hW := belT hW hn4
  replace c00 := (by first | exact keepB hb4 c00 | exact keepB hb4 (keepB (belA (Below.refl _ _)) c00))
  replace c01 := (by first | exact keepB hb4 c01 | exact keepB hb4 (keepB (belA (Below.refl _ _)) c01))
  clear z00
  have z00 := World.block_lt_of_cell? _ _ c00
  simp only at z00
  clear hc hf
  obtain ⟨hc, hf⟩ := bcell hW
  clear zz
  have zz : w.heap.size < w4_.heap.size := by have := hW.size; simp at this; omega
  go_wp2_with fail
  refine (eqCipher_any r0 r1 _).mono ?_
  rintro e w5_ ⟨rfl, hb5⟩
  have hn5 : Below w4_.heap.size w4_ w5_ := (by first | exact hb5 | exact belT (belA (Below.refl _ _)) hb5)
  replace hW := belT hW hn5
  replace c00 := (by first | exact keepB hb5 c00 | exact keepB hb5 (keepB (belA (Below.refl _ _)) c00))
  replace c01 := (by first | exact keepB hb5 c01 | exact keepB hb5 (keepB (belA (Below.refl _ _)) c01))
  clear z00
  have z00 := World.block_lt_of_cell? _ _ c00
  simp only at z00
  clear hc hf
  obtain ⟨hc, hf⟩ := bcell hW
  clear zz
  have zz : w.heap.size < w5_.heap.size := by have := hW.size; simp at this; omega
  go_wp2
  go_ret
  exact ⟨rfl, belT (by repeat (first | exact Below.refl _ _ | assumption | refine belA ?_ | refine belD ?_ | refine belN ?_ | refine belS ?_ (by simp) | refine belT ?_ (by assumption))) hW⟩

set_option maxRecDepth 100000 in
theorem lifted_FnExactEncryptElement (os : Os) (started : os.Started) (H : Type) (enc : TypeId × Value → H) :
    ReturnsInHanded {} Try.checked os 4 .any (Rows.fnExactEncryptElementSpec.pre6 enc Try.prog Try.f4 Rows.fnExactEncryptElementRow.domain false) (Rows.fnExactEncryptElementSpec.post enc Try.prog Try.f4 false true false false) := by
  refine returnsInHanded_of_change (C := Try.checked) own started (by kernel_rfl) Try.func4
    (ChangeSpec.witness6 (enc := enc) (C := Try.checked) false ⟨#[], #[.agg #[.int .i64 0, .int .i64 0, .int .i64 0], .int .i64 0, .int .i64 0, .int .i64 0], []⟩ 8 (by kernel_rfl) (by kernel_rfl) (by kernel_rfl) (by kernel_rfl)) ?_
  intro W base args ds gs before hval0 hW hcnd _
  have hval : ∀ (j : Nat) t v, Try.f4.params[j]? = some t → args[j]? = some v → Value.okWide Try.prog W .any base t v := hval0
  have hW' := hW
  obtain ⟨p, q, hA0, hV, rfl, hfz, hnd⟩ := hW
  have hA : DataW.TrodAll enc Try.prog W 0 (fun _ => true) true Try.f4.params.toList args.toList ds p := hA0
  rw [Try.params4] at hA hval
  obtain ⟨v0, vs0, d0, ds0, p0, q0, hargs, rfl, rfl, h0, r0⟩ := trodAll_cons hA
  obtain ⟨v1, vs1, d1, ds1, p1, q1, rfl, rfl, rfl, h1, r1⟩ := trodAll_cons r0
  obtain ⟨v2, vs2, d2, ds2, p2, q2, rfl, rfl, rfl, h2, r2⟩ := trodAll_cons r1
  obtain ⟨v3, vs3, d3, ds3, p3, q3, rfl, rfl, rfl, h3, r3⟩ := trodAll_cons r2
  obtain ⟨rfl, rfl, rfl⟩ := trodAll_nil r3
  obtain rfl : args = #[v0, v1, v2, v3] := by cases args; simp_all
  obtain ⟨rfl, rfl⟩ := trodVars_none hV
  have k0 := h0
  have lt0 : ∀ x ∈ p0, x.block < W.heap.size := by obtain ⟨m, hm⟩ := k0; exact DataW.trod_lt m _ _ _ hm
  obtain ⟨c0_0, c0_1, c0_2, y0_0, y0_1, y0_2, m0, rfl, rfl, rfl, u0_0, u0_1, u0_2⟩ := open_agg3 Try.underlying23 (by kernel_rfl) (by kernel_rfl) (hval 0 23 v0 rfl rfl) h0
  obtain ⟨b0_0, e0_0, hb0_0, x0_0⟩ := DataW.trod_int Try.underlying3 u0_0
  simp only [List.cons.injEq, and_true] at e0_0
  subst e0_0
  obtain ⟨b0_1, e0_1, hb0_1, x0_1⟩ := DataW.trod_int Try.underlying3 u0_1
  simp only [List.cons.injEq, and_true] at e0_1
  subst e0_1
  obtain ⟨b0_2, e0_2, hb0_2, x0_2⟩ := DataW.trod_int Try.underlying3 u0_2
  simp only [List.cons.injEq, and_true] at e0_2
  subst e0_2
  have k1 := h1
  have lt1 : ∀ x ∈ p1, x.block < W.heap.size := by obtain ⟨m, hm⟩ := k1; exact DataW.trod_lt m _ _ _ hm
  obtain ⟨a1, rfl, rfl, rfl, w1⟩ := open_int Try.underlying3 (hval 1 3 v1 rfl rfl) h1
  have k2 := h2
  have lt2 : ∀ x ∈ p2, x.block < W.heap.size := by obtain ⟨m, hm⟩ := k2; exact DataW.trod_lt m _ _ _ hm
  obtain ⟨a2, rfl, rfl, rfl, w2⟩ := open_int Try.underlying3 (hval 2 3 v2 rfl rfl) h2
  have k3 := h3
  have lt3 : ∀ x ∈ p3, x.block < W.heap.size := by obtain ⟨m, hm⟩ := k3; exact DataW.trod_lt m _ _ _ hm
  obtain ⟨a3, rfl, rfl, rfl, w3⟩ := open_int Try.underlying3 (hval 3 3 v3 rfl rfl) h3
  clear hA0 hval0
  refine (walk_FnExactEncryptElement (w := W) b0_0 b0_1 b0_2 x0_0 x0_1 x0_2 a1 w1 a2 w2 a3 w3).mono fun e W' ⟨he, bel⟩ => ?_
  subst he
  exact ⟨_, rfl, _, _, _, [], _, [], hW', trodAll_mk1 (shut_bool Try.underlying4 _), (trodAll_cons_mk (Below.trod laidOut (by kernel_rfl) (of_decide_eq_true (by kernel_rfl)) k0 bel lt0) (trodAll_cons_mk (Below.trod laidOut (by kernel_rfl) (of_decide_eq_true (by kernel_rfl)) k1 bel lt1) (trodAll_cons_mk (Below.trod laidOut (by kernel_rfl) (of_decide_eq_true (by kernel_rfl)) k2 bel lt2) (trodAll_cons_mk (Below.trod laidOut (by kernel_rfl) (of_decide_eq_true (by kernel_rfl)) k3 bel lt3) trodAll_mk0)))), rfl, bel.frame _, fun h => by cases h⟩

theorem over_FnExactEncryptElement : Rows.fnExactEncryptElementRow.holds Try.pinned (OpenSpec.ofChange Rows.fnExactEncryptElementSpec) :=
  OpenClaim.holds_of_wide 4 Try.f4 rfl rfl rfl rfl rfl rfl rfl ⟨rfl, rfl, rfl, rfl, rfl⟩ rfl rfl rfl rfl rfl (by kernel_rfl) Try.func4 (by kernel_rfl)
    (of_decide_eq_true (by kernel_rfl)) (by unfold Func.isWrapper; first | (rw [if_pos (by decide +kernel)]; kernel_rfl) | (rw [if_neg (by decide +kernel)]; exact ⟨rfl, rfl⟩))
    (fun os started H enc _ => lifted_FnExactEncryptElement os started H enc)

theorem proved_FnExactEncryptElement : Rows.FnExactEncryptElementSaid := over_FnExactEncryptElement
#print axioms proved_FnExactEncryptElement
end Go.Proofs.Ytemhjhaokbgldaa
