/- The program's PowCipher returns what the reference's PowCipher returns, for all arguments: proved with no condition. -/
import Derived.Test.YtehemfhnhjengaaCi2
import Derived.Test.YtehemfhnhjengaaLw
import Derived.Test.YtehemfhnhjengaaLy
import Derived.Deep.DeepCutAuto
namespace Go.Proofs.Ytehemfhnhjengaa
open Go.ChangeShapes Go.WideShapes Go.ChangeAt Go.RowKit Go.Joins
open Go.ChangeMaps (open_string shut_string)
set_option linter.unusedVariables false
set_option linter.unusedSimpArgs false
set_option maxRecDepth 100000 in
set_option maxHeartbeats 16000000 in
theorem walk_FnExactPowCipher (w : World) (p0 q0 g0 : Int) (w0a : (Lit.int .i64 p0).wf = true) (w0b : (Lit.int .i64 q0).wf = true) (w0c : (Lit.int .i64 g0).wf = true) (u1 v1 : Int) (w1a : (Lit.int .i64 u1).wf = true) (w1b : (Lit.int .i64 v1).wf = true) (x2 : Int) (w2 : (Lit.int .i64 x2).wf = true) :
    Calls Try.prog 12 #[.agg #[.int .i64 p0, .int .i64 q0, .int .i64 g0], .agg #[.int .i64 u1, .int .i64 v1], .int .i64 x2] w fun e w' => e = .returned (.bool true) ∧ Below w.heap.size w w' := by
  clear w0a w0b w0c w1a w1b w2
  have hs := fun  (W : World)  => sPowCipher_any p0 q0 g0 u1 v1 x2 W  
  have hi := fun  (W : World)  => iPowCipher_any p0 q0 g0 u1 v1 x2 W  
  generalize (pcM p0 q0 g0 u1 v1 x2).1.1 = r0 at hs hi
  generalize (pcM p0 q0 g0 u1 v1 x2).1.2 = r1 at hs hi
  generalize (pcM p0 q0 g0 u1 v1 x2).2 = r2 at hs hi
  have Hs := Lib.hid hs
  have Hi := Lib.hid hi
  clear hs hi
  go_enter Try.func12, Try.ntmps12
  go_upto_region 1 with fail
  have hB : Below w.heap.size w ((w.alloc (.cells #[.int .i64 p0, .int .i64 q0, .int .i64 g0] 35)).alloc (.cells #[.int .i64 u1, .int .i64 v1] 40)) := (by repeat (first | exact Below.refl _ _ | assumption | refine belA ?_ | refine belD ?_ | refine belN ?_ | refine belS ?_ (by simp) | refine belT ?_ (by assumption)))
  generalize hW0 : ((w.alloc (.cells #[.int .i64 p0, .int .i64 q0, .int .i64 g0] 35)).alloc (.cells #[.int .i64 u1, .int .i64 v1] 40)) = W0 at hB
  have k1 : W0.cell? ⟨w.heap.size, 0, none⟩ = some (.int .i64 p0) := by subst hW0; rw [World.cell?_alloc_past _ _ _ (by simp <;> omega), World.cell?_alloc_at _ _ _ _ (by simp)]; rfl
  have k2 : W0.cell? ⟨w.heap.size, 1, none⟩ = some (.int .i64 q0) := by subst hW0; rw [World.cell?_alloc_past _ _ _ (by simp <;> omega), World.cell?_alloc_at _ _ _ _ (by simp)]; rfl
  have k3 : W0.cell? ⟨w.heap.size, 2, none⟩ = some (.int .i64 g0) := by subst hW0; rw [World.cell?_alloc_past _ _ _ (by simp <;> omega), World.cell?_alloc_at _ _ _ _ (by simp)]; rfl
  have k4 : W0.cell? ⟨w.heap.size + 1, 0, none⟩ = some (.int .i64 u1) := by subst hW0; rw [World.cell?_alloc_at _ _ _ _ (by simp)]; rfl
  have k5 : W0.cell? ⟨w.heap.size + 1, 1, none⟩ = some (.int .i64 v1) := by subst hW0; rw [World.cell?_alloc_at _ _ _ _ (by simp)]; rfl
  clear hW0
  go_upto_region 1 with fail
  go_cut [7, 8] (fun s0 s1 W => ∃ bx : Nat, s0 = .pointer (some ⟨bx, 0, none⟩) ∧ W.cell? ⟨bx, 0, none⟩ = some (.int .i64 r0) ∧ W.cell? ⟨bx, 1, none⟩ = some (.int .i64 r1) ∧ s1 = .bool r2 ∧ Hid (Below W0.heap.size W0 W))
  case first =>
    have hX := Below.refl W0.heap.size W0
    have hz := World.block_lt_of_cell? _ _ k5
    simp only at hz
    go_region_held3 (fun W => W.cell? ⟨w.heap.size, 0, none⟩ = some (.int .i64 p0) ∧ W.cell? ⟨w.heap.size, 1, none⟩ = some (.int .i64 q0) ∧ W.cell? ⟨w.heap.size, 2, none⟩ = some (.int .i64 g0) ∧ W.cell? ⟨w.heap.size + 1, 0, none⟩ = some (.int .i64 u1) ∧ W.cell? ⟨w.heap.size + 1, 1, none⟩ = some (.int .i64 v1)) (first | (go_split_ands; (repeat' apply And.intro) <;> first | assumption | exact keepB hb1 (by assumption) | (refine keepS ?_ (keepS ?_ ?_) <;> first | assumption | (simp <;> omega)) | (refine keepS ?_ ?_ <;> first | assumption | (simp <;> omega)) | (refine keepB (belA (Below.refl _ _)) ?_; assumption) | (apply keepAA <;> first | assumption | (simp; omega) | omega) | go_keep) | go_keep) ((first | (go_at_call 26; refine (toGroup_any _ _ _ _).mono ?_; rintro e w1 ⟨rfl, hb1⟩; obtain ⟨hc1, hf1⟩ := bcell hb1; have hl := hb1.size; (try (have hl2 : W0.heap.size ≤ w1.heap.size := hl)); (try simp at hl); (first | replace HR := Room.below HR hb1 | have HR := roomNewD hb1 | have HR := roomNew hb1 | skip); (try obtain ⟨rx, ry, rc0, rc1, rf0, rf1⟩ := HR.facts)) | (go_at_call 31; refine (toCipher_any _ _ _).mono ?_; rintro e w1 ⟨rfl, hb1⟩; obtain ⟨hc1, hf1⟩ := bcell hb1; have hl := hb1.size; (try (have hl2 : W0.heap.size ≤ w1.heap.size := hl)); (try simp at hl); (first | replace HR := Room.below HR hb1 | have HR := roomNewD hb1 | have HR := roomNew hb1 | skip); (try obtain ⟨rx, ry, rc0, rc1, rf0, rf1⟩ := HR.facts)) | (go_at_call 40; refine (Hs.out _).mono ?_; rintro e w1 ⟨rfl, hb1⟩; obtain ⟨hc1, hf1⟩ := bcell hb1; have hl := hb1.size; (try (have hl2 : W0.heap.size ≤ w1.heap.size := hl)); (try simp at hl); (first | replace HR := Room.below HR hb1 | have HR := roomNewD hb1 | have HR := roomNew hb1 | skip); (try obtain ⟨rx, ry, rc0, rc1, rf0, rf1⟩ := HR.facts))))
    all_goals go_wp2_with fail
    all_goals go_meet
    all_goals exact ⟨_, rfl, (by first | (simp [go_sem]; done) | (simp [go_sem, rc0, rc1]; done)), (by first | (simp [go_sem]; done) | (simp [go_sem, rc0, rc1]; done)), rfl, Lib.hid (by repeat (first | exact Below.refl _ _ | assumption | refine belA ?_ | refine belD ?_ | refine belN ?_ | refine belS ?_ (by simp <;> omega) | refine belT ?_ (by assumption)))⟩
  obtain ⟨bx0, rfl, c00, c01, rfl, H0⟩ := hcut
  obtain ⟨wA, hw_⟩ : ∃ x, x = wc := ⟨_, rfl⟩
  subst hw_
  replace k1 := keepB H0.out k1
  replace k2 := keepB H0.out k2
  replace k3 := keepB H0.out k3
  replace k4 := keepB H0.out k4
  replace k5 := keepB H0.out k5
  go_upto_region 2 with fail
  go_cut [9, 10] (fun s0 s1 W => ∃ bx : Nat, s0 = .pointer (some ⟨bx, 0, none⟩) ∧ W.cell? ⟨bx, 0, none⟩ = some (.int .i64 r0) ∧ W.cell? ⟨bx, 1, none⟩ = some (.int .i64 r1) ∧ s1 = .bool r2 ∧ Hid (Below wA.heap.size wA W))
  case first =>
    have hX := Below.refl wA.heap.size wA
    have hz := World.block_lt_of_cell? _ _ k5
    simp only at hz
    go_region_held3 (fun W => W.cell? ⟨w.heap.size, 0, none⟩ = some (.int .i64 p0) ∧ W.cell? ⟨w.heap.size, 1, none⟩ = some (.int .i64 q0) ∧ W.cell? ⟨w.heap.size, 2, none⟩ = some (.int .i64 g0) ∧ W.cell? ⟨w.heap.size + 1, 0, none⟩ = some (.int .i64 u1) ∧ W.cell? ⟨w.heap.size + 1, 1, none⟩ = some (.int .i64 v1)) (first | (go_split_ands; (repeat' apply And.intro) <;> first | assumption | exact keepB hb1 (by assumption) | (refine keepS ?_ (keepS ?_ ?_) <;> first | assumption | (simp <;> omega)) | (refine keepS ?_ ?_ <;> first | assumption | (simp <;> omega)) | (refine keepB (belA (Below.refl _ _)) ?_; assumption) | (apply keepAA <;> first | assumption | (simp; omega) | omega) | go_keep) | go_keep) ((first | (go_at_call 26; refine (toGroup_any _ _ _ _).mono ?_; rintro e w1 ⟨rfl, hb1⟩; obtain ⟨hc1, hf1⟩ := bcell hb1; have hl := hb1.size; (try (have hl2 : wA.heap.size ≤ w1.heap.size := hl)); (try simp at hl); (first | replace HR := Room.below HR hb1 | have HR := roomNewD hb1 | have HR := roomNew hb1 | skip); (try obtain ⟨rx, ry, rc0, rc1, rf0, rf1⟩ := HR.facts)) | (go_at_call 31; refine (toCipher_any _ _ _).mono ?_; rintro e w1 ⟨rfl, hb1⟩; obtain ⟨hc1, hf1⟩ := bcell hb1; have hl := hb1.size; (try (have hl2 : wA.heap.size ≤ w1.heap.size := hl)); (try simp at hl); (first | replace HR := Room.below HR hb1 | have HR := roomNewD hb1 | have HR := roomNew hb1 | skip); (try obtain ⟨rx, ry, rc0, rc1, rf0, rf1⟩ := HR.facts)) | (go_at_call 41; refine (Hi.out _).mono ?_; rintro e w1 ⟨rfl, hb1⟩; obtain ⟨hc1, hf1⟩ := bcell hb1; have hl := hb1.size; (try (have hl2 : wA.heap.size ≤ w1.heap.size := hl)); (try simp at hl); (first | replace HR := Room.below HR hb1 | have HR := roomNewD hb1 | have HR := roomNew hb1 | skip); (try obtain ⟨rx, ry, rc0, rc1, rf0, rf1⟩ := HR.facts))))
    all_goals go_wp2_with fail
    all_goals go_meet
    all_goals exact ⟨_, rfl, (by first | (simp [go_sem]; done) | (simp [go_sem, rc0, rc1]; done)), (by first | (simp [go_sem]; done) | (simp [go_sem, rc0, rc1]; done)), rfl, Lib.hid (by repeat (first | exact Below.refl _ _ | assumption | refine belA ?_ | refine belD ?_ | refine belN ?_ | refine belS ?_ (by simp <;> omega) | refine belT ?_ (by assumption)))⟩
  obtain ⟨bx1, rfl, c10, c11, rfl, H1⟩ := hcut
  obtain ⟨wB, hw_⟩ : ∃ x, x = wc := ⟨_, rfl⟩
  subst hw_
  replace c00 := keepB H1.out c00
  replace c01 := keepB H1.out c01
  have hX := belT (belT hB H0.out) H1.out
  go_wp2_with ((go_at_call 42; refine (eqCipher_any r0 r1 _).mono ?_; rintro e w1 ⟨rfl, hb1⟩))
  go_ret
  exact ⟨rfl, (by repeat (first | exact Below.refl _ _ | assumption | refine belA ?_ | refine belD ?_ | refine belN ?_ | refine belS ?_ (by simp <;> omega) | refine belT ?_ (by assumption)))⟩

set_option maxRecDepth 100000 in
theorem lifted_FnExactPowCipher (os : Os) (started : os.Started) (H : Type) (enc : TypeId × Value → H) :
    ReturnsInHanded {} Try.checked os 12 .any (Rows.fnExactPowCipherSpec.pre6 enc Try.prog Try.f12 Rows.fnExactPowCipherRow.domain false) (Rows.fnExactPowCipherSpec.post enc Try.prog Try.f12 false true false false) := by
  refine returnsInHanded_of_change (C := Try.checked) own started (by kernel_rfl) Try.func12
    (ChangeSpec.witness6 (enc := enc) (C := Try.checked) false ⟨#[], #[.agg #[.int .i64 0, .int .i64 0, .int .i64 0], .agg #[.int .i64 0, .int .i64 0], .int .i64 0], []⟩ 8 (by kernel_rfl) (by kernel_rfl) (by kernel_rfl) (by kernel_rfl)) ?_
  intro W base args ds gs before hval0 hW hcnd _
  have hval : ∀ (j : Nat) t v, Try.f12.params[j]? = some t → args[j]? = some v → Value.okWide Try.prog W .any base t v := hval0
  have hW' := hW
  obtain ⟨p, q, hA0, hV, rfl, hfz, hnd⟩ := hW
  have hA : DataW.TrodAll enc Try.prog W 0 (fun _ => true) true Try.f12.params.toList args.toList ds p := hA0
  rw [Try.params12] at hA hval
  obtain ⟨v0, vs0, d0, ds0, p0, q0, hargs, rfl, rfl, h0, r0⟩ := trodAll_cons hA
  obtain ⟨v1, vs1, d1, ds1, p1, q1, rfl, rfl, rfl, h1, r1⟩ := trodAll_cons r0
  obtain ⟨v2, vs2, d2, ds2, p2, q2, rfl, rfl, rfl, h2, r2⟩ := trodAll_cons r1
  obtain ⟨rfl, rfl, rfl⟩ := trodAll_nil r2
  obtain rfl : args = #[v0, v1, v2] := by cases args; simp_all
  obtain ⟨rfl, rfl⟩ := trodVars_none hV
  have k0 := h0
  have lt0 : ∀ x ∈ p0, x.block < W.heap.size := by obtain ⟨m, hm⟩ := k0; exact DataW.trod_lt m _ _ _ hm
  obtain ⟨c0_0, c0_1, c0_2, y0_0, y0_1, y0_2, m0, rfl, rfl, rfl, u0_0, u0_1, u0_2⟩ := open_agg3 Try.underlying35 (by kernel_rfl) (by kernel_rfl) (hval 0 35 v0 rfl rfl) h0
  obtain ⟨b0_0, e0_0, hb0_0, x0_0⟩ := DataW.trod_int Try.underlying3 u0_0
  simp only [List.cons.injEq, and_true] at e0_0
  subst e0_0
  obtain ⟨b0_1, e0_1, hb0_1, x0_1⟩ := DataW.trod_int Try.underlying3 u0_1
  simp only [List.cons.injEq, and_true] at e0_1
  subst e0_1
  obtain ⟨b0_2, e0_2, hb0_2, x0_2⟩ := DataW.trod_int Try.underlying3 u0_2
  simp only [List.cons.injEq, and_true] at e0_2
  subst e0_2
  have k1 := h1
  have lt1 : ∀ x ∈ p1, x.block < W.heap.size := by obtain ⟨m, hm⟩ := k1; exact DataW.trod_lt m _ _ _ hm
  obtain ⟨c1_0, c1_1, y1_0, y1_1, m1, rfl, rfl, rfl, u1_0, u1_1⟩ := open_agg2 Try.underlying40 (by kernel_rfl) (by kernel_rfl) (hval 1 40 v1 rfl rfl) h1
  obtain ⟨b1_0, e1_0, hb1_0, x1_0⟩ := DataW.trod_int Try.underlying3 u1_0
  simp only [List.cons.injEq, and_true] at e1_0
  subst e1_0
  obtain ⟨b1_1, e1_1, hb1_1, x1_1⟩ := DataW.trod_int Try.underlying3 u1_1
  simp only [List.cons.injEq, and_true] at e1_1
  subst e1_1
  have k2 := h2
  have lt2 : ∀ x ∈ p2, x.block < W.heap.size := by obtain ⟨m, hm⟩ := k2; exact DataW.trod_lt m _ _ _ hm
  obtain ⟨a2, rfl, rfl, rfl, w2⟩ := open_int Try.underlying3 (hval 2 3 v2 rfl rfl) h2
  clear hA0 hval0
  refine (walk_FnExactPowCipher (w := W) b0_0 b0_1 b0_2 x0_0 x0_1 x0_2 b1_0 b1_1 x1_0 x1_1 a2 w2).mono fun e W' ⟨he, bel⟩ => ?_
  subst he
  exact ⟨_, rfl, _, _, _, [], _, [], hW', trodAll_mk1 (shut_bool Try.underlying4 _), (trodAll_cons_mk (Below.trod laidOut (by kernel_rfl) (of_decide_eq_true (by kernel_rfl)) k0 bel lt0) (trodAll_cons_mk (Below.trod laidOut (by kernel_rfl) (of_decide_eq_true (by kernel_rfl)) k1 bel lt1) (trodAll_cons_mk (Below.trod laidOut (by kernel_rfl) (of_decide_eq_true (by kernel_rfl)) k2 bel lt2) trodAll_mk0))), rfl, bel.frame _, fun h => by cases h⟩

theorem over_FnExactPowCipher : Rows.fnExactPowCipherRow.holds Try.pinned (OpenSpec.ofChange Rows.fnExactPowCipherSpec) :=
  OpenClaim.holds_of_wide 12 Try.f12 rfl rfl rfl rfl rfl rfl rfl ⟨rfl, rfl, rfl, rfl, rfl⟩ rfl rfl rfl rfl rfl (by kernel_rfl) Try.func12 (by kernel_rfl)
    (of_decide_eq_true (by kernel_rfl)) (by unfold Func.isWrapper; first | (rw [if_pos (by decide +kernel)]; kernel_rfl) | (rw [if_neg (by decide +kernel)]; exact ⟨rfl, rfl⟩))
    (fun os started H enc _ => lifted_FnExactPowCipher os started H enc)

theorem proved_FnExactPowCipher : Rows.FnExactPowCipherSaid := over_FnExactPowCipher
#print axioms proved_FnExactPowCipher
end Go.Proofs.Ytehemfhnhjengaa
