/- Contracts of both sides: MakeGroup. -/
import Derived.Test.YteeggmnkcgpfjaaMk
import Derived.Test.YteeggmnkcgpfjaaCi2
namespace Go.Proofs.Yteeggmnkcgpfjaa
open Go.RowKit
set_option linter.unusedVariables false
attribute [local go_sem ↓] Go.wp_at_zero Go.wp_at_succ
set_option linter.unusedSimpArgs false

def mgF : Nat := 2000000001
/-- the group of a prime order -/
def mgM (q : Int) : (Int × Int × Int) × Bool :=
  if inB q 2 1000000 && primeB q then (match mgP q mgF (q + 1) with | none => ((0, 0, 0), false) | some p => ((p, q, pw (mgH ((p - 1) / q) p mgF 2) ((p - 1) / q) p), true)) else ((0, 0, 0), false)
theorem mgM_no {q : Int} (h : (inB q 2 1000000 && primeB q) = false) : mgM q = ((0, 0, 0), false) := by rw [mgM, h]; rfl
theorem mgM_none {q : Int} (h : (inB q 2 1000000 && primeB q) = true) (hp : mgP q mgF (q + 1) = none) : mgM q = ((0, 0, 0), false) := by rw [mgM, h, hp]; rfl
theorem mgM_some {q p : Int} (h : (inB q 2 1000000 && primeB q) = true) (hp : mgP q mgF (q + 1) = some p) : mgM q = ((p, q, pw (mgH ((p - 1) / q) p mgF 2) ((p - 1) / q) p), true) := by rw [mgM, h, hp]; rfl
theorem ret_gb {a b c a' b' c' : Int} {d d' : Bool} (h : ((a, b, c), d) = ((a', b', c'), d')) : Ending.returned (.tuple #[.agg #[.int .i64 a, .int .i64 b, .int .i64 c], .bool d]) = .returned (.tuple #[.agg #[.int .i64 a', .int .i64 b', .int .i64 c'], .bool d']) := by
  simp only [Prod.mk.injEq] at h
  obtain ⟨⟨rfl, rfl, rfl⟩, rfl⟩ := h
  rfl


set_option maxRecDepth 100000 in
set_option maxHeartbeats 4000000 in
theorem sMakeGroup_any (q : Int) (w : World) :
    Calls Try.prog 164 #[.int .i64 q] w fun e' w' => e' = .returned (.tuple #[.agg #[.int .i64 (mgM q).1.1, .int .i64 (mgM q).1.2.1, .int .i64 (mgM q).1.2.2], .bool (mgM q).2]) ∧ Below w.heap.size w w' := by
  cases hk : (inB q 2 1000000 && primeB q)
  · have HN := Lib.hid (mgM_no hk)
    rw [HN.out]
    cases h1 : inB q 2 1000000
    · clear hk
      go_enter Try.func164, Try.ntmps164
      go_wp2_with (first | (go_at_call 72; refine (l1In_any _ _ _ _).mono ?_; rintro e w' ⟨rfl, rfl⟩))
      refine bodyPost_ret (v := .tuple #[.agg #[.int .i64 0, .int .i64 0, .int .i64 0], .bool false]) (by simp [results, Try.results164, go_sem]) rfl ⟨rfl, ?_⟩
      exact (by repeat (first | exact Below.refl _ _ | assumption | refine belA ?_ | refine belD ?_ | refine belN ?_ | refine belS ?_ (by simp <;> omega) | refine belT ?_ (by assumption)))
    · have h2 : primeB q = false := by simpa [h1] using hk
      obtain ⟨q1, q2⟩ := inB_true h1
      clear hk
      go_enter Try.func164, Try.ntmps164
      go_wp2_with (first | (go_at_call 72; refine (l1In_any _ _ _ _).mono ?_; rintro e w' ⟨rfl, rfl⟩) | (go_at_call 111; refine (nPrime_any _ _ (by omega)).mono ?_; rintro e w' ⟨rfl, rfl⟩))
      refine bodyPost_ret (v := .tuple #[.agg #[.int .i64 0, .int .i64 0, .int .i64 0], .bool false]) (by simp [results, Try.results164, go_sem]) rfl ⟨rfl, ?_⟩
      exact (by repeat (first | exact Below.refl _ _ | assumption | refine belA ?_ | refine belD ?_ | refine belN ?_ | refine belS ?_ (by simp <;> omega) | refine belT ?_ (by assumption)))
  · have HK := Lib.hid hk
    simp only [Bool.and_eq_true] at hk
    obtain ⟨h1, h2⟩ := hk
    obtain ⟨q1, q2⟩ := inB_true h1
    generalize hM : mgM q = r
    have HM := Lib.hid hM
    clear hM
    obtain ⟨⟨r0, r1, r2⟩, r3⟩ := r
    simp only
    go_enter Try.func164, Try.ntmps164
    go_wp2_with (first | (go_at_call 72; refine (l1In_any _ _ _ _).mono ?_; rintro e w' ⟨rfl, rfl⟩) | (go_at_call 111; refine (nPrime_any _ _ (by omega)).mono ?_; rintro e w' ⟨rfl, rfl⟩))
    go_loop [4] (fun i => ∃ (p : Int) (f : Nat), i = .int .i64 p ∧ q + 1 ≤ p ∧ p ≤ 2001000000 ∧ 2000000001 ≤ (f : Int) + p ∧ Hid (mgP q mgF (q + 1) = mgP q f p)) (fun i => (2001000000 - intOf i).toNat)
    case atStart => exact ⟨q + 1, mgF, by go_num, by omega, by omega, by simp only [mgF]; omega, Lib.hid rfl⟩
    case round =>
      obtain ⟨p, f, rfl, p1, p2, hf, HP⟩ := hrel
      by_cases hle : p ≤ 2000000000
      · cases hp : primeB p
        · obtain ⟨f', rfl, e⟩ := mgP_next (q := q) hle hf hp
          have HE := Lib.hid e
          clear e
          go_wp2_with (go_at_call 111; refine (nPrime_any _ _ (by omega)).mono ?_; rintro e w' ⟨rfl, rfl⟩)
          go_round
          case rel => exact ⟨p + q, f', by go_num, by omega, by omega, by omega, Lib.hid (HP.out.trans HE.out)⟩
          case measure => simp [intOf]; omega
        · have HH := Lib.hid (mgP_hit (q := q) hle hf hp)
          obtain ⟨a, a2, a3, a4⟩ := mg_base hp (by omega) (by omega)
          have hdv : (p - 1).tdiv q = (p - 1) / q := Int.tdiv_eq_ediv_of_nonneg (by omega)
          have n0 : 0 ≤ (p - 1) / q := Int.ediv_nonneg (by omega) (by omega)
          have n1 : (p - 1) / q ≤ p - 1 := Int.ediv_le_self _ (by omega)
          have hq0 : ¬ q = 0 := by omega
          generalize hn : (p - 1) / q = n at a4 hdv n0 n1
          have HQ := Lib.hid hn
          have HA := Lib.hid a4
          clear hn a4
          go_wp2_with (go_at_call 111; refine (nPrime_any _ _ (by omega)).mono ?_; rintro e w' ⟨rfl, rfl⟩)
          go_loop [5] (fun i => ∃ (h : Int) (g : Nat), i = .int .i64 h ∧ 2 ≤ h ∧ h ≤ a ∧ 2000000003 ≤ (g : Int) + h ∧ Hid (mgH n p mgF 2 = mgH n p g h)) (fun i => (a - intOf i).toNat)
          case atStart => exact ⟨2, mgF, rfl, by omega, by omega, by simp only [mgF]; omega, Lib.hid rfl⟩
          case round =>
            obtain ⟨h, g', rfl, b1, b2, b3, HG⟩ := hrel
            by_cases h1 : pw h n p = 1
            · have hlt : h < a := by
                rcases Int.lt_or_le h a with c | c
                · exact c
                · have e : h = a := by omega
                  subst e
                  exact absurd h1 HA.out
              obtain ⟨g2, rfl⟩ : ∃ g2, g' = g2 + 1 := ⟨g' - 1, by omega⟩
              have HE := Lib.hid (mgH_next (f := g2) h1)
              have H1 := Lib.hid h1
              clear h1
              go_wp2_with (go_at_call 110; refine (nPower_any _ _ _ _ (by omega) (by omega) (by omega) (by omega)).mono ?_; rintro e w' ⟨rfl, rfl⟩; rw [H1.out])
              go_round
              case rel => exact ⟨h + 1, g2, by go_num, by omega, by omega, by omega, Lib.hid (HG.out.trans HE.out)⟩
              case measure => simp [intOf]; omega
            · have HS := Lib.hid (mgH_stop (f := g') h1)
              have hb : (pw h n p == 1) = false := by simp [h1]
              have hb' : decide (pw h n p = 1) = false := by simp [h1]
              generalize hx : pw h n p = x at hb hb'
              have HX := Lib.hid hx
              clear h1 hx
              go_wp2_with (go_at_call 110; refine (nPower_any _ _ _ _ (by omega) (by omega) (by omega) (by omega)).mono ?_; rintro e w' ⟨rfl, rfl⟩; rw [HX.out])
              refine bodyPost_ret (v := .tuple #[.agg #[.int .i64 p, .int .i64 q, .int .i64 x], .bool true]) (by simp [results, Try.results164, go_sem]) rfl ⟨ret_gb (by rw [← HM.out, mgM_some HK.out (HP.out.trans HH.out), HQ.out, HG.out, HS.out, HX.out]), ?_⟩
              exact (by repeat (first | exact Below.refl _ _ | assumption | refine belA ?_ | refine belD ?_ | refine belN ?_ | refine belS ?_ (by simp <;> omega) | refine belT ?_ (by assumption)))
      · have HO := Lib.hid (mgP_out (q := q) (f := f) (p := p) (by omega))
        have hd : decide (p ≤ 2000000000) = false := by simp; omega
        go_wp2
        refine bodyPost_ret (v := .tuple #[.agg #[.int .i64 0, .int .i64 0, .int .i64 0], .bool false]) (by simp [results, Try.results164, go_sem]) rfl ⟨ret_gb (by rw [← HM.out, mgM_none HK.out (HP.out.trans HO.out)]), ?_⟩
        exact (by repeat (first | exact Below.refl _ _ | assumption | refine belA ?_ | refine belD ?_ | refine belN ?_ | refine belS ?_ (by simp <;> omega) | refine belT ?_ (by assumption)))
end Go.Proofs.Yteeggmnkcgpfjaa
