/- Contract of the program's side: MakeGroup, the walk. -/
import Derived.Test.YtehemfhnhjengaaMg2
namespace Go.Proofs.Ytehemfhnhjengaa
open Go.RowKit
set_option linter.unusedVariables false
attribute [local go_sem ↓] Go.wp_at_zero Go.wp_at_succ
set_option linter.unusedSimpArgs false

theorem inB_up {q : Int} (h : inB q 2 1000000 = true) : inB q 2 2000000000 = true := by
  obtain ⟨h1, h2⟩ := inB_true h
  exact inB_mk (by omega) (by omega)
theorem prime_in {p : Int} (h1 : 2 ≤ p) (h2 : p ≤ 2000000000) : (inB p 2 2000000000 && primeB p) = primeB p := by rw [inB_mk h1 h2]; rfl
theorem GB.drew {W : World} {b : Nat} {p q g : Int} (h : GB W b p q g) : GB W.drew b p q g := ⟨h.c0, h.c1, h.c2, h.f0, h.f2, h.r0, h.r1, h.r2, h.e0, h.e1, h.e2⟩
set_option maxRecDepth 100000 in
set_option maxHeartbeats 4000000 in
theorem iMakeGroup_any (q : Int) (w : World) :
    Calls Try.prog 21 #[.int .i64 q] w fun e' w' => e' = .returned (.tuple #[.agg #[.int .i64 (mgM q).1.1, .int .i64 (mgM q).1.2.1, .int .i64 (mgM q).1.2.2], .bool (mgM q).2]) ∧ Below w.heap.size w w' := by
  cases hk : (inB q 2 1000000 && primeB q)
  · have HN := Lib.hid (mgM_no hk)
    rw [HN.out]
    cases h1 : inB q 2 1000000
    · clear hk
      go_enter Try.func21, Try.ntmps21
      go_wp2_with (first | (go_at_call 51; refine (within_any _ _ _ _).mono ?_; rintro e w' ⟨rfl, rfl⟩))
      refine bodyPost_ret (v := .tuple #[.agg #[.int .i64 0, .int .i64 0, .int .i64 0], .bool false]) (by simp [results, Try.results21, go_sem]) rfl ⟨rfl, ?_⟩
      exact (by repeat (first | exact Below.refl _ _ | assumption | refine belA ?_ | refine belD ?_ | refine belN ?_ | refine belS ?_ (by simp <;> omega) | refine belT ?_ (by assumption)))
    · have h2 : primeB q = false := by simpa [h1] using hk
      have h3 := inB_up h1
      clear hk
      go_enter Try.func21, Try.ntmps21
      go_wp2_with (first | (go_at_call 51; refine (within_any _ _ _ _).mono ?_; rintro e w' ⟨rfl, rfl⟩) | (go_at_call 56; refine (isPrime_any _ _).mono ?_; rintro e w' ⟨rfl, rfl⟩))
      refine bodyPost_ret (v := .tuple #[.agg #[.int .i64 0, .int .i64 0, .int .i64 0], .bool false]) (by simp [results, Try.results21, go_sem]) rfl ⟨rfl, ?_⟩
      exact (by repeat (first | exact Below.refl _ _ | assumption | refine belA ?_ | refine belD ?_ | refine belN ?_ | refine belS ?_ (by simp <;> omega) | refine belT ?_ (by assumption)))
  · have HK := Lib.hid hk
    simp only [Bool.and_eq_true] at hk
    obtain ⟨h1, h2⟩ := hk
    obtain ⟨q1, q2⟩ := inB_true h1
    have h3 := inB_up h1
    generalize hM : mgM q = r
    have HM := Lib.hid hM
    clear hM
    obtain ⟨⟨r0, r1, r2⟩, r3⟩ := r
    simp only
    have HG0 := Lib.hid (GB.new w (q + 1) q 29)
    go_enter Try.func21, Try.ntmps21
    go_wp2_with (first | (go_at_call 51; refine (within_any _ _ _ _).mono ?_; rintro e w' ⟨rfl, rfl⟩) | (go_at_call 56; refine (isPrime_any _ _).mono ?_; rintro e w' ⟨rfl, rfl⟩))
    go_loopw [] (fun wr => ∃ (p : Int) (f : Nat), q + 1 ≤ p ∧ p ≤ 2000000000 ∧ 2000000001 ≤ (f : Int) + p ∧ Hid (mgP q mgF (q + 1) = mgP q f p) ∧ Hid (GB wr w.heap.size p q 0) ∧ Hid (Below w.heap.size w wr)) (fun wr => match wr.cell? ⟨w.heap.size + 1, 0, none⟩ with | some v => (2001000000 - intOf v).toNat | none => 0)
    case atStart => exact ⟨q + 1, mgF, by omega, by omega, by simp only [mgF]; omega, Lib.hid rfl, HG0, Lib.hid (by repeat (first | exact Below.refl _ _ | assumption | refine belA ?_ | refine belD ?_ | refine belN ?_ | refine belS ?_ (by simp) | refine belT ?_ (by assumption)))⟩
    case round =>
      obtain ⟨p, f, p1, p2, hf, HP, HB, HW⟩ := hrel
      obtain ⟨c0, c1, c2, f0, f2, s0, s1, s2, e0, e1, e2⟩ := HB.out
      have HI := Lib.hid (prime_in (p := p) (by omega) p2)
      cases hp : primeB p
      · obtain ⟨f', rfl, e⟩ := mgP_next (q := q) p2 hf hp
        have HE := Lib.hid e
        have HP0 := HB.out.put0 (p + q)
        obtain ⟨d0, d1, d2, _, _, t0, t1, t2, _, _, _⟩ := HP0
        have HP1 := Lib.hid (HB.out.put0 (p + q))
        clear e
        by_cases hle : p + q ≤ 2000000000
        · have hd : decide (2000000000 < p + q) = false := by simp; omega
          go_wp2_with (go_at_call 56; refine (isPrime_any _ _).mono ?_; rintro e w' ⟨rfl, rfl⟩; rw [HI.out, hp])
          go_roundw
          case rel => exact ⟨p + q, f', by omega, by omega, by omega, Lib.hid (HP.out.trans HE.out), HP1, Lib.hid (belS HW.out (by simp))⟩
          case measure => rw [c0, d0]; simp [intOf]; omega
        · have hd : decide (2000000000 < p + q) = true := by simp; omega
          have HO := Lib.hid (mgP_out (q := q) (f := f') (p := p + q) (by omega))
          go_wp2_with (go_at_call 56; refine (isPrime_any _ _).mono ?_; rintro e w' ⟨rfl, rfl⟩; rw [HI.out, hp])
          refine bodyPost_ret (v := .tuple #[.agg #[.int .i64 0, .int .i64 0, .int .i64 0], .bool false]) (by simp [results, Try.results21, go_sem, t0, t1, t2]) rfl ⟨ret_gb (by rw [← HM.out, mgM_none HK.out (HP.out.trans (HE.out.trans HO.out))]), ?_⟩
          exact (by repeat (first | exact Below.refl _ _ | assumption | refine belA ?_ | refine belD ?_ | refine belN ?_ | refine belS ?_ (by simp <;> omega) | refine belT ?_ (by assumption)))
      · have HH := Lib.hid (mgP_hit (q := q) p2 hf hp)
        obtain ⟨a, a2, a3, a4⟩ := mg_base hp (by omega) (by omega)
        have hdv : (p - 1).tdiv q = (p - 1) / q := Int.tdiv_eq_ediv_of_nonneg (by omega)
        have n0 : 0 ≤ (p - 1) / q := Int.ediv_nonneg (by omega) (by omega)
        have n1 : (p - 1) / q ≤ p - 1 := Int.ediv_le_self _ (by omega)
        have hq0 : ¬ q = 0 := by omega
        have hwr : IntKind.i64.wrap (p - 1) = p - 1 := IntWalk.i64_in _ (by omega)
        have HNZ : Hid (∀ h, 1 ≤ h → h < p → pw h ((p - 1) / q) p ≠ 0) := Lib.hid fun h b1 b2 => pw_ne_zero hp b1 b2
        generalize hn : (p - 1) / q = n at a4 hdv n0 n1 HNZ
        have hwn : IntKind.i64.wrap n = n := IntWalk.i64_in _ (by omega)
        have HQ := Lib.hid hn
        have HA := Lib.hid a4
        clear hn a4 c0 c1 c2 f0 f2 s0 s1 s2 e0 e1 e2
        obtain ⟨c0, c1, c2, f0, f2, s0, s1, s2, e0, e1, e2⟩ := HB.out
        go_wp2_with (go_at_call 56; refine (isPrime_any _ _).mono ?_; rintro e w' ⟨rfl, rfl⟩; rw [HI.out, hp])
        clear c0 c1 c2 f0 f2 s0 s1 s2 e0 e1 e2
        go_loopw [5] (fun i wz => ∃ (h : Int) (x : Int), i = .int .i64 h ∧ 2 ≤ h ∧ h ≤ a + 1 ∧ Hid (GB wz w.heap.size p q x) ∧ Hid (Below w.heap.size w wz) ∧ ((x < 2 ∧ h ≤ a ∧ ∃ g' : Nat, 2000000003 ≤ (g' : Int) + h ∧ Hid (mgH n p mgF 2 = mgH n p g' h)) ∨ (2 ≤ x ∧ Hid (pw (mgH n p mgF 2) n p = x)))) (fun i _ => (a + 1 - intOf i).toNat)
        case atStart => exact ⟨2, 0, rfl, by omega, by omega, HB, HW, .inl ⟨by omega, by omega, mgF, by simp only [mgF]; omega, Lib.hid rfl⟩⟩
        case round =>
          obtain ⟨h, x, rfl, b1, b2, HZ, HV, hor⟩ := hrel
          obtain ⟨c0, c1, c2, f0, f2, s0, s1, s2, e0, e1, e2⟩ := HZ.out
          rcases hor with ⟨x2, b3, g', b4, HG⟩ | ⟨x2, HX⟩
          · have hd : decide (x < 2) = true := by simp; omega
            have hpb := pw_bd (a := h) (e := n) (m := p) (by omega)
            have hnz := HNZ.out h (by omega) (by omega)
            by_cases h1 : pw h n p = 1
            · have hlt : h < a := by
                rcases Int.lt_or_le h a with c | c
                · exact c
                · have e : h = a := by omega
                  subst e
                  exact absurd h1 HA.out
              obtain ⟨g2, rfl⟩ : ∃ g2, g' = g2 + 1 := ⟨g' - 1, by omega⟩
              have HE := Lib.hid (mgH_next (f := g2) h1)
              have H1 := Lib.hid h1
              have HZ2 := Lib.hid (HZ.out.put2 1)
              clear h1 hpb hnz
              go_wp2
              go_region_held3 (fun W => W.cell? ⟨w.heap.size + 1, 0, none⟩ = some (.int .i64 p)) ((first | assumption | exact HZ2.out.drew.c0 | exact HZ2.out.c0 | go_keep)) ((go_at_call 57; refine (power_any _ _ _ _ (by omega) (by omega) (by omega) (by omega)).mono ?_; rintro e' w' ⟨rfl, rfl⟩; rw [H1.out]))
              all_goals go_wp2
              all_goals go_roundw
              all_goals first | (simp [intOf]; omega; done) | exact ⟨h + 1, 1, by go_num, by omega, by omega, Lib.hid HZ2.out.drew, Lib.hid (belD (belS HV.out (by simp))), .inl ⟨by omega, by omega, g2, by omega, Lib.hid (HG.out.trans HE.out)⟩⟩
            · have HS := Lib.hid (mgH_stop (f := g') h1)
              generalize hx : pw h n p = y at h1 hpb hnz
              have HX := Lib.hid hx
              have HZ2 := Lib.hid (HZ.out.put2 y)
              have HF : Hid (pw (mgH n p mgF 2) n p = y) := Lib.hid (by rw [HG.out, HS.out, hx])
              clear hx
              go_wp2
              go_region_held3 (fun W => W.cell? ⟨w.heap.size + 1, 0, none⟩ = some (.int .i64 p)) ((first | assumption | exact HZ2.out.drew.c0 | exact HZ2.out.c0 | go_keep)) ((go_at_call 57; refine (power_any _ _ _ _ (by omega) (by omega) (by omega) (by omega)).mono ?_; rintro e' w' ⟨rfl, rfl⟩; rw [HX.out]))
              all_goals go_wp2
              all_goals go_roundw
              all_goals first | (simp [intOf]; omega; done) | exact ⟨h + 1, y, by go_num, by omega, by omega, Lib.hid HZ2.out.drew, Lib.hid (belD (belS HV.out (by simp))), .inr ⟨by omega, HF⟩⟩
          · have hd : decide (x < 2) = false := by simp; omega
            go_wp2
            refine bodyPost_ret (v := .tuple #[.agg #[.int .i64 p, .int .i64 q, .int .i64 x], .bool true]) (by simp [results, Try.results21, go_sem, s0, s1, s2]) rfl ⟨ret_gb (by rw [← HM.out, mgM_some HK.out (HP.out.trans HH.out), HQ.out, HX.out]), ?_⟩
            exact belS (belS (belS HV.out (by simp)) (by simp)) (by simp)
end Go.Proofs.Ytehemfhnhjengaa
