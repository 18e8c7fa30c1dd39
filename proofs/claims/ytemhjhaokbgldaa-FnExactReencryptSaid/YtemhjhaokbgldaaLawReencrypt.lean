/- The program's Reencrypt returns what the reference's Reencrypt returns, for all arguments: proved with no condition. -/
import Derived.Test.YtemhjhaokbgldaaRe
import Derived.Test.YtemhjhaokbgldaaLw
import Derived.Test.YtemhjhaokbgldaaLy
import Derived.Deep.DeepCutAuto
namespace Go.Proofs.Ytemhjhaokbgldaa
open Go.ChangeShapes Go.WideShapes Go.ChangeAt Go.RowKit Go.Joins
open Go.ChangeMaps (open_string shut_string)
set_option linter.unusedVariables false
set_option linter.unusedSimpArgs false
set_option maxRecDepth 100000 in
set_option maxHeartbeats 16000000 in
theorem walk_FnExactReencrypt (w : World) (p0 q0 g0 : Int) (w0a : (Lit.int .i64 p0).wf = true) (w0b : (Lit.int .i64 q0).wf = true) (w0c : (Lit.int .i64 g0).wf = true) (x1 : Int) (w1 : (Lit.int .i64 x1).wf = true) (u2 v2 : Int) (w2a : (Lit.int .i64 u2).wf = true) (w2b : (Lit.int .i64 v2).wf = true) (x3 : Int) (w3 : (Lit.int .i64 x3).wf = true) :
    Calls Try.prog 6 #[.agg #[.int .i64 p0, .int .i64 q0, .int .i64 g0], .int .i64 x1, .agg #[.int .i64 u2, .int .i64 v2], .int .i64 x3] w fun e w' => e = .returned (.bool true) ∧ Below w.heap.size w w' := by
  clear w0a w0b w0c w1 w2a w2b w3
  have hs := fun  (W : World)  => sReencrypt_any p0 q0 g0 x1 u2 v2 x3 W  
  have hi := fun  (W : World)  => iReencrypt_any p0 q0 g0 x1 u2 v2 x3 W  
  generalize (reM p0 q0 g0 x1 u2 v2 x3).1.1 = r0 at hs hi
  generalize (reM p0 q0 g0 x1 u2 v2 x3).1.2 = r1 at hs hi
  generalize (reM p0 q0 g0 x1 u2 v2 x3).2 = r2 at hs hi
  have Hs := Lib.hid hs
  have Hi := Lib.hid hi
  clear hs hi
  go_enter Try.func6, Try.ntmps6
  go_upto_region 1 with fail
  have hB : Below w.heap.size w ((w.alloc (.cells #[.int .i64 p0, .int .i64 q0, .int .i64 g0] 23)).alloc (.cells #[.int .i64 u2, .int .i64 v2] 25)) := (by repeat (first | exact Below.refl _ _ | assumption | refine belA ?_ | refine belD ?_ | refine belN ?_ | refine belS ?_ (by simp) | refine belT ?_ (by assumption)))
  generalize hW0 : ((w.alloc (.cells #[.int .i64 p0, .int .i64 q0, .int .i64 g0] 23)).alloc (.cells #[.int .i64 u2, .int .i64 v2] 25)) = W0 at hB
  have k1 : W0.cell? ⟨w.heap.size, 0, none⟩ = some (.int .i64 p0) := by subst hW0; rw [World.cell?_alloc_past _ _ _ (by simp <;> omega), World.cell?_alloc_at _ _ _ _ (by simp)]; rfl
  have k2 : W0.cell? ⟨w.heap.size, 1, none⟩ = some (.int .i64 q0) := by subst hW0; rw [World.cell?_alloc_past _ _ _ (by simp <;> omega), World.cell?_alloc_at _ _ _ _ (by simp)]; rfl
  have k3 : W0.cell? ⟨w.heap.size, 2, none⟩ = some (.int .i64 g0) := by subst hW0; rw [World.cell?_alloc_past _ _ _ (by simp <;> omega), World.cell?_alloc_at _ _ _ _ (by simp)]; rfl
  have k4 : W0.cell? ⟨w.heap.size + 1, 0, none⟩ = some (.int .i64 u2) := by subst hW0; rw [World.cell?_alloc_at _ _ _ _ (by simp)]; rfl
  have k5 : W0.cell? ⟨w.heap.size + 1, 1, none⟩ = some (.int .i64 v2) := by subst hW0; rw [World.cell?_alloc_at _ _ _ _ (by simp)]; rfl
  clear hW0
  go_upto_region 1 with fail
  go_cut [9, 10] (fun s0 s1 W => ∃ bx : Nat, s0 = .pointer (some ⟨bx, 0, none⟩) ∧ W.cell? ⟨bx, 0, none⟩ = some (.int .i64 r0) ∧ W.cell? ⟨bx, 1, none⟩ = some (.int .i64 r1) ∧ s1 = .bool r2 ∧ Hid (Below W0.heap.size W0 W))
  case first =>
    have hX := Below.refl W0.heap.size W0
    have hz := World.block_lt_of_cell? _ _ k5
    simp only at hz
    go_region_held3 (fun W => W.cell? ⟨w.heap.size, 0, none⟩ = some (.int .i64 p0) ∧ W.cell? ⟨w.heap.size, 1, none⟩ = some (.int .i64 q0) ∧ W.cell? ⟨w.heap.size, 2, none⟩ = some (.int .i64 g0) ∧ W.cell? ⟨w.heap.size + 1, 0, none⟩ = some (.int .i64 u2) ∧ W.cell? ⟨w.heap.size + 1, 1, none⟩ = some (.int .i64 v2)) (first | (go_split_ands; (repeat' apply And.intro) <;> first | assumption | exact keepB hb1 (by assumption) | (refine keepS ?_ (keepS ?_ ?_) <;> first | assumption | (simp <;> omega)) | (refine keepS ?_ ?_ <;> first | assumption | (simp <;> omega)) | (refine keepB (belA (Below.refl _ _)) ?_; assumption) | (apply keepAA <;> first | assumption | (simp; omega) | omega) | go_keep) | go_keep) ((first | (go_at_call 16; refine (toGroup_any _ _ _ _).mono ?_; rintro e w1 ⟨rfl, hb1⟩; obtain ⟨hc1, hf1⟩ := bcell hb1; have hl := hb1.size; (try (have hl2 : W0.heap.size ≤ w1.heap.size := hl)); (try simp at hl); (first | replace HR := Room.below HR hb1 | have HR := roomNewD hb1 | have HR := roomNew hb1 | skip); (try obtain ⟨rx, ry, rc0, rc1, rf0, rf1⟩ := HR.facts)) | (go_at_call 17; refine (toCipher_any _ _ _).mono ?_; rintro e w1 ⟨rfl, hb1⟩; obtain ⟨hc1, hf1⟩ := bcell hb1; have hl := hb1.size; (try (have hl2 : W0.heap.size ≤ w1.heap.size := hl)); (try simp at hl); (first | replace HR := Room.below HR hb1 | have HR := roomNewD hb1 | have HR := roomNew hb1 | skip); (try obtain ⟨rx, ry, rc0, rc1, rf0, rf1⟩ := HR.facts)) | (go_at_call 24; refine (Hs.out _).mono ?_; rintro e w1 ⟨rfl, hb1⟩; obtain ⟨hc1, hf1⟩ := bcell hb1; have hl := hb1.size; (try (have hl2 : W0.heap.size ≤ w1.heap.size := hl)); (try simp at hl); (first | replace HR := Room.below HR hb1 | have HR := roomNewD hb1 | have HR := roomNew hb1 | skip); (try obtain ⟨rx, ry, rc0, rc1, rf0, rf1⟩ := HR.facts))))
    all_goals go_wp2_with fail
    all_goals go_meet
    all_goals exact ⟨_, rfl, (by first | (simp [go_sem]; done) | (simp [go_sem, rc0, rc1]; done)), (by first | (simp [go_sem]; done) | (simp [go_sem, rc0, rc1]; done)), rfl, Lib.hid (by repeat (first | exact Below.refl _ _ | assumption | refine belA ?_ | refine belD ?_ | refine belN ?_ | refine belS ?_ (by simp <;> omega) | refine belT ?_ (by assumption)))⟩
  obtain ⟨bx0, rfl, c00, c01, rfl, H0⟩ := hcut
  obtain ⟨wA, hw_⟩ : ∃ x, x = wc := ⟨_, rfl⟩
  subst hw_
  replace k1 := keepB H0.out k1
  replace k2 := keepB H0.out k2
  replace k3 := keepB H0.out k3
  replace k4 := keepB H0.out k4
  replace k5 := keepB H0.out k5
  go_upto_region 2 with fail
  go_cut [11, 12] (fun s0 s1 W => ∃ bx : Nat, s0 = .pointer (some ⟨bx, 0, none⟩) ∧ W.cell? ⟨bx, 0, none⟩ = some (.int .i64 r0) ∧ W.cell? ⟨bx, 1, none⟩ = some (.int .i64 r1) ∧ s1 = .bool r2 ∧ Hid (Below wA.heap.size wA W))
  case first =>
    have hX := Below.refl wA.heap.size wA
    have hz := World.block_lt_of_cell? _ _ k5
    simp only at hz
    go_region_held3 (fun W => W.cell? ⟨w.heap.size, 0, none⟩ = some (.int .i64 p0) ∧ W.cell? ⟨w.heap.size, 1, none⟩ = some (.int .i64 q0) ∧ W.cell? ⟨w.heap.size, 2, none⟩ = some (.int .i64 g0) ∧ W.cell? ⟨w.heap.size + 1, 0, none⟩ = some (.int .i64 u2) ∧ W.cell? ⟨w.heap.size + 1, 1, none⟩ = some (.int .i64 v2)) (first | (go_split_ands; (repeat' apply And.intro) <;> first | assumption | exact keepB hb1 (by assumption) | (refine keepS ?_ (keepS ?_ ?_) <;> first | assumption | (simp <;> omega)) | (refine keepS ?_ ?_ <;> first | assumption | (simp <;> omega)) | (refine keepB (belA (Below.refl _ _)) ?_; assumption) | (apply keepAA <;> first | assumption | (simp; omega) | omega) | go_keep) | go_keep) ((first | (go_at_call 16; refine (toGroup_any _ _ _ _).mono ?_; rintro e w1 ⟨rfl, hb1⟩; obtain ⟨hc1, hf1⟩ := bcell hb1; have hl := hb1.size; (try (have hl2 : wA.heap.size ≤ w1.heap.size := hl)); (try simp at hl); (first | replace HR := Room.below HR hb1 | have HR := roomNewD hb1 | have HR := roomNew hb1 | skip); (try obtain ⟨rx, ry, rc0, rc1, rf0, rf1⟩ := HR.facts)) | (go_at_call 17; refine (toCipher_any _ _ _).mono ?_; rintro e w1 ⟨rfl, hb1⟩; obtain ⟨hc1, hf1⟩ := bcell hb1; have hl := hb1.size; (try (have hl2 : wA.heap.size ≤ w1.heap.size := hl)); (try simp at hl); (first | replace HR := Room.below HR hb1 | have HR := roomNewD hb1 | have HR := roomNew hb1 | skip); (try obtain ⟨rx, ry, rc0, rc1, rf0, rf1⟩ := HR.facts)) | (go_at_call 25; refine (Hi.out _).mono ?_; rintro e w1 ⟨rfl, hb1⟩; obtain ⟨hc1, hf1⟩ := bcell hb1; have hl := hb1.size; (try (have hl2 : wA.heap.size ≤ w1.heap.size := hl)); (try simp at hl); (first | replace HR := Room.below HR hb1 | have HR := roomNewD hb1 | have HR := roomNew hb1 | skip); (try obtain ⟨rx, ry, rc0, rc1, rf0, rf1⟩ := HR.facts))))
    all_goals go_wp2_with fail
    all_goals go_meet
    all_goals exact ⟨_, rfl, (by first | (simp [go_sem]; done) | (simp [go_sem, rc0, rc1]; done)), (by first | (simp [go_sem]; done) | (simp [go_sem, rc0, rc1]; done)), rfl, Lib.hid (by repeat (first | exact Below.refl _ _ | assumption | refine belA ?_ | refine belD ?_ | refine belN ?_ | refine belS ?_ (by simp <;> omega) | refine belT ?_ (by assumption)))⟩
  obtain ⟨bx1, rfl, c10, c11, rfl, H1⟩ := hcut
  obtain ⟨wB, hw_⟩ : ∃ x, x = wc := ⟨_, rfl⟩
  subst hw_
  replace c00 := keepB H1.out c00
  replace c01 := keepB H1.out c01
  have hX := belT (belT hB H0.out) H1.out
  go_wp2_with ((go_at_call 21; refine (eqCipher_any r0 r1 _).mono ?_; rintro e w1 ⟨rfl, hb1⟩))
  go_ret
  exact ⟨rfl, (by repeat (first | exact Below.refl _ _ | assumption | refine belA ?_ | refine belD ?_ | refine belN ?_ | refine belS ?_ (by simp <;> omega) | refine belT ?_ (by assumption)))⟩

set_option maxRecDepth 100000 in
theorem lifted_FnExactReencrypt (os : Os) (started : os.Started) (H : Type) (enc : TypeId × Value → H) :
    ReturnsInHanded {} Try.checked os 6 .any (Rows.fnExactReencryptSpec.pre6 enc Try.prog Try.f6 Rows.fnExactReencryptRow.domain false) (Rows.fnExactReencryptSpec.post enc Try.prog Try.f6 false true false false) := by
  refine returnsInHanded_of_change (C := Try.checked) own started (by kernel_rfl) Try.func6
    (ChangeSpec.witness6 (enc := enc) (C := Try.checked) false ⟨#[], #[.agg #[.int .i64 0, .int .i64 0, .int .i64 0], .int .i64 0, .agg #[.int .i64 0, .int .i64 0], .int .i64 0], []⟩ 8 (by kernel_rfl) (by kernel_rfl) (by kernel_rfl) (by kernel_rfl)) ?_
  intro W base args ds gs before hval0 hW hcnd _
  have hval : ∀ (j : Nat) t v, Try.f6.params[j]? = some t → args[j]? = some v → Value.okWide Try.prog W .any base t v := hval0
  have hW' := hW
  obtain ⟨p, q, hA0, hV, rfl, hfz, hnd⟩ := hW
  have hA : DataW.TrodAll enc Try.prog W 0 (fun _ => true) true Try.f6.params.toList args.toList ds p := hA0
  rw [Try.params6] at hA hval
  obtain ⟨v0, vs0, d0, ds0, p0, q0, hargs, rfl, rfl, h0, r0⟩ := trodAll_cons hA
  obtain ⟨v1, vs1, d1, ds1, p1, q1, rfl, rfl, rfl, h1, r1⟩ := trodAll_cons r0
  obtain ⟨v2, vs2, d2, ds2, p2, q2, rfl, rfl, rfl, h2, r2⟩ := trodAll_cons r1
  obtain ⟨v3, vs3, d3, ds3, p3, q3, rfl, rfl, rfl, h3, r3⟩ := trodAll_cons r2
  obtain ⟨rfl, rfl, rfl⟩ := trodAll_nil r3
  obtain rfl : args = #[v0, v1, v2, v3] := by cases args; simp_all
  obtain ⟨rfl, rfl⟩ := trodVars_none hV
  have k0 := h0
  have lt0 : ∀ x ∈ p0, x.block < W.heap.size := by obtain ⟨m, hm⟩ := k0; exact DataW.trod_lt m _ _ _ hm
  obtain ⟨c0_0, c0_1, c0_2, y0_0, y0_1, y0_2, m0, rfl, rfl, rfl, u0_0, u0_1, u0_2⟩ := open_agg3 Try.underlying23 (by kernel_rfl) (by kernel_rfl) (hval 0 23 v0 rfl rfl) h0
  obtain ⟨b0_0, e0_0, hb0_0, x0_0⟩ := DataW.trod_int Try.underlying3 u0_0
  simp only [List.cons.injEq, and_true] at e0_0
  subst e0_0
  obtain ⟨b0_1, e0_1, hb0_1, x0_1⟩ := DataW.trod_int Try.underlying3 u0_1
  simp only [List.cons.injEq, and_true] at e0_1
  subst e0_1
  obtain ⟨b0_2, e0_2, hb0_2, x0_2⟩ := DataW.trod_int Try.underlying3 u0_2
  simp only [List.cons.injEq, and_true] at e0_2
  subst e0_2
  have k1 := h1
  have lt1 : ∀ x ∈ p1, x.block < W.heap.size := by obtain ⟨m, hm⟩ := k1; exact DataW.trod_lt m _ _ _ hm
  obtain ⟨a1, rfl, rfl, rfl, w1⟩ := open_int Try.underlying3 (hval 1 3 v1 rfl rfl) h1
  have k2 := h2
  have lt2 : ∀ x ∈ p2, x.block < W.heap.size := by obtain ⟨m, hm⟩ := k2; exact DataW.trod_lt m _ _ _ hm
  obtain ⟨c2_0, c2_1, y2_0, y2_1, m2, rfl, rfl, rfl, u2_0, u2_1⟩ := open_agg2 Try.underlying25 (by kernel_rfl) (by kernel_rfl) (hval 2 25 v2 rfl rfl) h2
  obtain ⟨b2_0, e2_0, hb2_0, x2_0⟩ := DataW.trod_int Try.underlying3 u2_0
  simp only [List.cons.injEq, and_true] at e2_0
  subst e2_0
  obtain ⟨b2_1, e2_1, hb2_1, x2_1⟩ := DataW.trod_int Try.underlying3 u2_1
  simp only [List.cons.injEq, and_true] at e2_1
  subst e2_1
  have k3 := h3
  have lt3 : ∀ x ∈ p3, x.block < W.heap.size := by obtain ⟨m, hm⟩ := k3; exact DataW.trod_lt m _ _ _ hm
  obtain ⟨a3, rfl, rfl, rfl, w3⟩ := open_int Try.underlying3 (hval 3 3 v3 rfl rfl) h3
  clear hA0 hval0
  refine (walk_FnExactReencrypt (w := W) b0_0 b0_1 b0_2 x0_0 x0_1 x0_2 a1 w1 b2_0 b2_1 x2_0 x2_1 a3 w3).mono fun e W' ⟨he, bel⟩ => ?_
  subst he
  exact ⟨_, rfl, _, _, _, [], _, [], hW', trodAll_mk1 (shut_bool Try.underlying4 _), (trodAll_cons_mk (Below.trod laidOut (by kernel_rfl) (of_decide_eq_true (by kernel_rfl)) k0 bel lt0) (trodAll_cons_mk (Below.trod laidOut (by kernel_rfl) (of_decide_eq_true (by kernel_rfl)) k1 bel lt1) (trodAll_cons_mk (Below.trod laidOut (by kernel_rfl) (of_decide_eq_true (by kernel_rfl)) k2 bel lt2) (trodAll_cons_mk (Below.trod laidOut (by kernel_rfl) (of_decide_eq_true (by kernel_rfl)) k3 bel lt3) trodAll_mk0)))), rfl, bel.frame _, fun h => by cases h⟩

theorem over_FnExactReencrypt : Rows.fnExactReencryptRow.holds Try.pinned (OpenSpec.ofChange Rows.fnExactReencryptSpec) :=
  OpenClaim.holds_of_wide 6 Try.f6 rfl rfl rfl rfl rfl rfl rfl ⟨rfl, rfl, rfl, rfl, rfl⟩ rfl rfl rfl rfl rfl (by kernel_rfl) Try.func6 (by kernel_rfl)
    (of_decide_eq_true (by kernel_rfl)) (by unfold Func.isWrapper; first | (rw [if_pos (by decide +kernel)]; kernel_rfl) | (rw [if_neg (by decide +kernel)]; exact ⟨rfl, rfl⟩))
    (fun os started H enc _ => lifted_FnExactReencrypt os started H enc)

theorem proved_FnExactReencrypt : Rows.FnExactReencryptSaid := over_FnExactReencrypt
#print axioms proved_FnExactReencrypt
end Go.Proofs.Ytemhjhaokbgldaa
