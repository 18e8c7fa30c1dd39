/- Contracts of both sides: PrimitiveRoot. -/
import Derived.Test.YtehemfhnhjengaaFb
namespace Go.Proofs.Ytehemfhnhjengaa
open Go.RowKit
set_option linter.unusedVariables false
attribute [local go_sem ↓] Go.wp_at_zero Go.wp_at_succ
set_option linter.unusedSimpArgs false

/-- does a prime power show that a number is no root? -/
def badC (p g : Int) (c : Int × Int) : Bool := pw g ((p - 1) / c.1) p == 1
def badR (p : Int) (l : List (Int × Int)) (g : Int) : Bool := l.any (badC p g)
/-- the first root from g on -/
def prG (p : Int) (l : List (Int × Int)) : Nat → Int → Int
  | 0, g => g
  | f + 1, g => if badR p l g then prG p l f (g + 1) else g
theorem prG_stop {p g : Int} {l : List (Int × Int)} {f : Nat} (h : badR p l g = false) : prG p l f g = g := by
  cases f with
  | zero => rfl
  | succ f => rw [prG, h]; rfl
theorem prG_next {p g : Int} {l : List (Int × Int)} {f : Nat} (h : badR p l g = true) : prG p l (f + 1) g = prG p l f (g + 1) := by rw [prG, h]; rfl
def prM (p : Int) : Int × Bool := if inB p 2 2000000000 && primeB p then (prG p (facL (p - 1)) facF 1, true) else (0, false)

theorem good_root {p : Int} (hp : primeB p = true) (h1 : 2 ≤ p) (h2 : p ≤ 2000000000) : ∃ a : Int, 1 ≤ a ∧ a < p ∧ badR p (facL (p - 1)) a = false := by
  have hP := (primeB_iff p).1 hp
  obtain ⟨g, g1, g2, g3⟩ := NT.exists_root hP
  refine ⟨(g : Int), by omega, by omega, ?_⟩
  rw [badR, Bool.eq_false_iff]
  intro hc
  obtain ⟨x, hx, hb⟩ := List.any_eq_true.1 hc
  obtain ⟨f, f1, f2, f3⟩ := facL_pr (n := p - 1) (by omega) (by omega) x hx
  have e : (p - 1).toNat = p.toNat - 1 := by omega
  rw [e] at f3
  refine g3 f f2 f3 ?_
  simp only [badC, beq_iff_eq, f1, pw, Int.toNat_natCast] at hb
  have e2 : ((p - 1) / (f : Int)).toNat = (p.toNat - 1) / f := by
    obtain ⟨n, hn⟩ := Int.eq_ofNat_of_zero_le (show 0 ≤ p - 1 by omega)
    rw [hn, ← Int.natCast_ediv, Int.toNat_natCast]
    congr 1
    omega
  rw [e2] at hb
  omega
theorem facL_two {p : Int} (h1 : 2 ≤ p) (h2 : p ≤ 2000000000) : ∀ x ∈ facL (p - 1), 2 ≤ x.1 := by
  intro x hx
  obtain ⟨f, f1, f2, f3⟩ := facL_pr (n := p - 1) (by omega) (by omega) x hx
  have := f2.1
  omega
theorem ret_ib' {a a' : Int} {b b' : Bool} (h : (a, b) = (a', b')) : Ending.returned (.tuple #[.int .i64 a, .bool b]) = .returned (.tuple #[.int .i64 a', .bool b']) := by
  simp only [Prod.mk.injEq] at h
  obtain ⟨rfl, rfl⟩ := h
  rfl
theorem any_succ {α : Type} {d : α} {P : α → Bool} {l : List α} {k : Nat} (h : k < l.length) : (l.take (k + 1)).any P = ((l.take k).any P || P (l.getD k d)) := by
  rw [List.take_succ_eq_append_getElem h, List.any_append, List.getD_eq_getElem?_getD, List.getElem?_eq_getElem h]
  simp
theorem bn_step {b X y b' : Bool} (h : b = !X) (e : b' = (b && !y)) : b' = !(X || y) := by subst h e; cases X <;> cases y <;> rfl

set_option maxRecDepth 100000 in
set_option maxHeartbeats 4000000 in
theorem sPrimitiveRoot_any (p : Int) (w : World) :
    Calls Try.prog 23 #[.int .i64 p] w fun e' w' => e' = .returned (.tuple #[.int .i64 (prM p).1, .bool (prM p).2]) ∧ Below w.heap.size w w' := by
  cases h1 : inB p 2 2000000000
  · have HN := Lib.hid (show prM p = (0, false) by rw [prM, h1]; rfl)
    rw [HN.out]
    go_enter Try.func23, Try.ntmps23
    go_wp2_with (first | (go_at_call 49; refine (l1In_any _ _ _ _).mono ?_; rintro e w' ⟨rfl, rfl⟩))
    go_ret2
    exact ⟨rfl, Below.refl _ _⟩
  · obtain ⟨p1, p2⟩ := inB_true h1
    cases h2 : primeB p
    · have HN := Lib.hid (show prM p = (0, false) by rw [prM, h1, h2]; rfl)
      rw [HN.out]
      go_enter Try.func23, Try.ntmps23
      go_wp2_with (first | (go_at_call 49; refine (l1In_any _ _ _ _).mono ?_; rintro e w' ⟨rfl, rfl⟩) | (go_at_call 54; refine (nPrime_any _ _ (by omega)).mono ?_; rintro e w' ⟨rfl, rfl⟩))
      go_ret2
      exact ⟨rfl, Below.refl _ _⟩
    · have HN := Lib.hid (show prM p = (prG p (facL (p - 1)) facF 1, true) by rw [prM, h1, h2]; rfl)
      rw [HN.out]
      obtain ⟨a, a1, a2, a3⟩ := good_root h2 p1 p2
      have HT := Lib.hid (facL_two p1 p2)
      have HA := Lib.hid a3
      have hF := nFactor_any (p - 1) w (by omega) (by omega)
      generalize facL (p - 1) = l at hF HT HA ⊢
      have HFA := Lib.hid hF
      generalize hv : prG p l facF 1 = v
      have HV := Lib.hid hv
      clear hv a3 hF HN
      go_enter Try.func23, Try.ntmps23
      go_wp2_with (first | (go_at_call 49; refine (l1In_any _ _ _ _).mono ?_; rintro e w' ⟨rfl, rfl⟩) | (go_at_call 54; refine (nPrime_any _ _ (by omega)).mono ?_; rintro e w' ⟨rfl, rfl⟩) | (go_at_call 50; refine HFA.out.mono ?_; rintro e w1 ⟨A, c, rfl, ho, hb⟩; have HI := Lib.hid (OwnD.of_own ho).cips; have HB := Lib.hid hb; clear ho hb))
      have hn := HI.out.le
      go_loopw [5] (fun x wr => ∃ (g : Int) (f : Nat), x = .int .i64 g ∧ 1 ≤ g ∧ g ≤ a ∧ 2000000002 ≤ (f : Int) + g ∧ Hid (prG p l f g = v) ∧ Hid (Below w1.heap.size w1 wr)) (fun x _ => (a - intOf x).toNat)
      case atStart => exact ⟨1, facF, rfl, by omega, by omega, by unfold facF; omega, HV, Lib.hid (Below.refl _ _)⟩
      case round =>
        obtain ⟨g, f, rfl, g1, g2, hf, HG, H2⟩ := hrel
        go_wp2
        go_loopw [6, 24] (fun x i wz => ∃ (k : Nat) (b : Bool), k ≤ l.length ∧ i = .int .i64 k ∧ x = .bool b ∧ Hid (b = !((l.take k).any (badC p g))) ∧ Hid (Below w1.heap.size w1 wz)) (fun _ i _ => l.length - (intOf i).toNat)
        case atStart => exact ⟨0, true, by omega, rfl, rfl, Lib.hid rfl, H2⟩
        case round =>
          obtain ⟨k, b, hk, rfl, rfl, HBd, H3⟩ := hrel
          by_cases hlt : k < l.length
          · obtain ⟨b1, off, rfl, hb1, hc, hd⟩ := (HI.out.below H3.out).at_ hlt
            have hu := HT.out _ (getD_mem (d := (0, 0)) hlt)
            have hs := any_succ (d := (0, 0)) (P := badC p g) hlt
            generalize l.getD k (0, 0) = cc at hc hd hu hs
            obtain ⟨u, x⟩ := cc
            simp only at hc hd hu
            have hdv : (p - 1).tdiv u = (p - 1) / u := Int.tdiv_eq_ediv_of_nonneg (by omega)
            have n0 : 0 ≤ (p - 1) / u := Int.ediv_nonneg (by omega) (by omega)
            have n1 : (p - 1) / u ≤ p - 1 := Int.ediv_le_self _ (by omega)
            have hu0 : ¬ u = 0 := by omega
            rw [badC] at hs
            simp only at hs
            generalize hq : (p - 1) / u = q at hdv n0 n1 hs
            have HS := Lib.hid hs
            have i1 : (0 : Int) ≤ (k : Int) := by omega
            have i2 : (k : Int) < (l.length : Int) := by omega
            clear hs hq
            cases b
            · go_wp2
              go_roundw
              case rel => exact ⟨k + 1, false, by omega, by go_num, rfl, Lib.hid (by rw [HS.out]; exact bn_step HBd.out rfl), Lib.hid (belA H3.out)⟩
              case measure => simp [intOf]; omega
            · cases hr : (pw g q p == 1)
              · have hr' : (pw g q p != 1) = true := by simp [bne, hr]
                go_wp2_with (go_at_call 55; refine (nPower_any _ _ _ _ (by omega) (by omega) (by omega) (by omega)).mono ?_; rintro e w' ⟨rfl, rfl⟩)
                go_roundw
                case rel => exact ⟨k + 1, true, by omega, by go_num, rfl, Lib.hid (by rw [HS.out]; exact bn_step HBd.out (by rw [hr]; rfl)), Lib.hid (belA H3.out)⟩
                case measure => simp [intOf]; omega
              · have hr' : (pw g q p != 1) = false := by simp [bne, hr]
                go_wp2_with (go_at_call 55; refine (nPower_any _ _ _ _ (by omega) (by omega) (by omega) (by omega)).mono ?_; rintro e w' ⟨rfl, rfl⟩)
                go_roundw
                case rel => exact ⟨k + 1, false, by omega, by go_num, rfl, Lib.hid (by rw [HS.out]; exact bn_step HBd.out (by rw [hr]; rfl)), Lib.hid (belA H3.out)⟩
                case measure => simp [intOf]; omega
          · have e : k = l.length := by omega
            subst e
            have hbb := HBd.out
            rw [List.take_of_length_le (Nat.le_refl _), show l.any (badC p g) = badR p l g from rfl] at hbb
            clear HBd
            cases hr : badR p l g
            · rw [hr] at hbb
              have HR := Lib.hid (HG.out.symm.trans (prG_stop (f := f) hr))
              clear hr
              subst hbb
              go_wp2
              go_ret2
              exact ⟨ret_ib' (by rw [HR.out]), belT HB.out H3.out⟩
            · rw [hr] at hbb
              have hlt : g < a := by
                rcases Int.lt_or_le g a with c | c
                · exact c
                · have e : g = a := by omega
                  subst e
                  rw [HA.out] at hr
                  cases hr
              obtain ⟨f', rfl⟩ : ∃ f', f = f' + 1 := ⟨f - 1, by omega⟩
              have HR := Lib.hid ((prG_next (f := f') hr).symm.trans HG.out)
              clear hr
              subst hbb
              go_wp2
              go_roundw
              case rel => exact ⟨g + 1, f', by go_num, by omega, by omega, by omega, HR, H3⟩
              case measure => simp [intOf]; omega

/-- the two cells that the search bears -/
structure GP (W : World) (b c : Nat) (p g : Int) : Prop where
  c0 : W.cell? ⟨b, 0, none⟩ = some (.int .i64 p)
  c1 : W.cell? ⟨c, 0, none⟩ = some (.int .i64 g)
  f1 : W.frozen? ⟨c, 0, none⟩ = false
  ne : b ≠ c
theorem GP.put {W : World} {b c : Nat} {p g : Int} (h : GP W b c p g) (x : Int) : GP (W.setCell ⟨c, 0, none⟩ (.int .i64 x)) b c p x :=
  ⟨keepS h.ne h.c0, World.cell?_setCell_same _ _ _ h.c1, by rw [World.frozen?_setCell]; exact h.f1, h.ne⟩
theorem GP.below {W W' : World} {b c : Nat} {p g : Int} (h : GP W b c p g) (hb : Below W.heap.size W W') : GP W' b c p g :=
  ⟨keepB hb h.c0, keepB hb h.c1, (hb.frozen (p := ⟨c, 0, none⟩) (World.block_lt_of_cell? _ _ h.c1)).trans h.f1, h.ne⟩
set_option maxHeartbeats 800000 in
theorem rootOne_any (g p u v : Int) (B C : Nat) (W : World) (k1 : W.cell? ⟨B, 0, none⟩ = some (.int .i64 g)) (k2 : W.cell? ⟨C, 0, none⟩ = some (.int .i64 p))
    (g0 : 0 ≤ g) (g1 : g < p) (p1 : 2 ≤ p) (p2 : p ≤ 2000000000) (u2 : 2 ≤ u) :
    Calls Try.prog 59 #[.agg #[.int .i64 u, .int .i64 v], .pointer (some ⟨B, 0, none⟩), .pointer (some ⟨C, 0, none⟩)] W fun e W' => e = .returned (.bool (badC p g (u, v))) ∧ Below W.heap.size W W' := by
  have hdv : (p - 1).tdiv u = (p - 1) / u := Int.tdiv_eq_ediv_of_nonneg (by omega)
  have n0 : 0 ≤ (p - 1) / u := Int.ediv_nonneg (by omega) (by omega)
  have n1 : (p - 1) / u ≤ p - 1 := Int.ediv_le_self _ (by omega)
  have hu0 : ¬ u = 0 := by omega
  have hwr : IntKind.i64.wrap (p - 1) = p - 1 := IntWalk.i64_in _ (by omega)
  have hz1 := World.block_lt_of_cell? _ _ k1
  have hz2 := World.block_lt_of_cell? _ _ k2
  simp only at hz1 hz2
  rw [show badC p g (u, v) = (pw g ((p - 1) / u) p == 1) from rfl]
  generalize hn : (p - 1) / u = n at hdv n0 n1 ⊢
  have hwn : IntKind.i64.wrap n = n := IntWalk.i64_in _ (by omega)
  clear hn
  go_enter Try.func59, Try.ntmps59
  go_wp2
  go_quiet ((go_at_call 57; exact Calls.quiet_of_same (quietL (power_any _ _ _ _ (by omega) (by omega) (by omega) (by omega)))))
  go_wp2
  go_ret
  exact ⟨rfl, (by repeat (first | exact Below.refl _ _ | assumption | refine belA ?_ | refine belD ?_ | refine belN ?_ | refine belS ?_ (by simp) | refine belT ?_ (by assumption)))⟩
theorem enters_root1 : ∀ args w, (callFunc 59 args).run Try.prog w = .ok (.enter 59 args) w := enters_of Try.func59 (by kernel_rfl) rfl

set_option maxRecDepth 100000 in
set_option maxHeartbeats 4000000 in
theorem iPrimitiveRoot_any (p : Int) (w : World) :
    Calls Try.prog 24 #[.int .i64 p] w fun e' w' => e' = .returned (.tuple #[.int .i64 (prM p).1, .bool (prM p).2]) ∧ Below w.heap.size w w' := by
  have hmf : ∀ (fn : Fn) (first cap : Array Value) (w : World), (Instr.makeFunc fn first cap).run Try.prog w = .ok (.func fn first cap) w := fun _ _ _ _ => rfl
  cases hP : (inB p 2 2000000000 && primeB p)
  · have HN := Lib.hid (show prM p = (0, false) by rw [prM, hP]; rfl)
    rw [HN.out]
    have HP := Lib.hid hP
    clear hP
    go_enter Try.func24, Try.ntmps24
    go_wp2_with (go_at_call 56; refine (isPrime_any _ _).mono ?_; rintro e w' ⟨rfl, rfl⟩; rw [HP.out])
    go_ret2
    exact ⟨rfl, (by repeat (first | exact Below.refl _ _ | assumption | refine belA ?_ | refine belD ?_ | refine belN ?_ | refine belS ?_ (by simp) | refine belT ?_ (by assumption)))⟩
  · have HN := Lib.hid (show prM p = (prG p (facL (p - 1)) facF 1, true) by rw [prM, hP]; rfl)
    rw [HN.out]
    have HP := Lib.hid hP
    simp only [Bool.and_eq_true] at hP
    obtain ⟨h1, h2⟩ := hP
    obtain ⟨p1, p2⟩ := inB_true h1
    obtain ⟨a, a1, a2, a3⟩ := good_root h2 p1 p2
    have HT := Lib.hid (facL_two p1 p2)
    have HA := Lib.hid a3
    have hF := fun w => factors_any (p - 1) w (by omega) (by omega)
    generalize facL (p - 1) = l at hF HT HA ⊢
    have HFA := Lib.hid hF
    generalize hv : prG p l facF 1 = v
    have HV := Lib.hid hv
    clear hv a3 hF HN h1 h2
    go_enter Try.func24, Try.ntmps24
    go_wp2_with (first | (go_at_call 56; refine (isPrime_any _ _).mono ?_; rintro e w' ⟨rfl, rfl⟩; rw [HP.out]) | (go_at_call 52; refine (HFA.out _).mono ?_; rintro e w1 ⟨A, c, rfl, ho, hb⟩; have HI := Lib.hid (OwnD.of_own ho).cips; have HB := Lib.hid (belT (belA (Below.refl _ _)) hb); have k0 := keepB hb (a := ⟨w.heap.size, 0, none⟩) (v := .int .i64 p) (by rw [World.cell?_alloc_at _ _ _ _ (by simp)]; rfl); clear ho hb))
    have hn := HI.out.le
    have hz := World.block_lt_of_cell? _ _ k0
    simp only at hz
    have HP0 : Hid (GP (w1.alloc (.cells #[.int .i64 1] 3)) w.heap.size w1.heap.size p 1) := Lib.hid ⟨keepB (belA (Below.refl _ _)) k0, (by rw [World.cell?_alloc_at _ _ _ _ (by simp)]; rfl), by simp, by omega⟩
    clear k0
    go_loopw [] (fun wr => ∃ (g : Int) (f : Nat), 1 ≤ g ∧ g ≤ a ∧ 2000000002 ≤ (f : Int) + g ∧ Hid (prG p l f g = v) ∧ Hid (GP wr w.heap.size w1.heap.size p g) ∧ Hid (Below w1.heap.size w1 wr)) (fun wr => match wr.cell? ⟨w1.heap.size, 0, none⟩ with | some v => (a - intOf v).toNat | none => 0)
    case atStart => exact ⟨1, facF, by omega, by omega, by unfold facF; omega, HV, HP0, Lib.hid (belA (Below.refl _ _))⟩
    case round =>
      obtain ⟨g, f, g1, g2, hf, HG, HC, H2⟩ := hrel
      have hp : PaysC 59 #[] #[.pointer (some ⟨w1.heap.size, 0, none⟩), .pointer (some ⟨w.heap.size, 0, none⟩)] (badC p g) (fun z => 2 ≤ z.1) wr := by
        intro W u x hb hu
        exact rootOne_any g p u x _ _ W (keepB hb HC.out.c1) (keepB hb HC.out.c0) (by omega) (by omega) p1 p2 hu
      have H := Lib.hid (ContainsFuncC_any 59 #[] _ enters_root1 _ _ A l.length c l wr (HI.out.below H2.out) HT.out hp)
      clear hp
      cases hr : badR p l g
      · have HR := Lib.hid (HG.out.symm.trans (prG_stop (f := f) hr))
        have hr' : l.any (badC p g) = false := hr
        clear hr
        go_wp2_with (go_at_call 58; refine H.out.mono ?_; rintro e w2 ⟨rfl, hb⟩; rw [hr']; have hg2 := (HC.out.below hb).c1)
        go_ret2
        exact ⟨ret_ib' (by rw [HR.out]), belT HB.out (belT H2.out hb)⟩
      · have hlt : g < a := by
          rcases Int.lt_or_le g a with c | c
          · exact c
          · have e : g = a := by omega
            subst e
            rw [HA.out] at hr
            cases hr
        obtain ⟨f', rfl⟩ : ∃ f', f = f' + 1 := ⟨f - 1, by omega⟩
        have HR := Lib.hid ((prG_next (f := f') hr).symm.trans HG.out)
        have hr' : l.any (badC p g) = true := hr
        have d0 := HC.out.c1
        clear hr
        go_wp2_with (go_at_call 58; refine H.out.mono ?_; rintro e w2 ⟨rfl, hb⟩; rw [hr']; have HC2 := Lib.hid ((HC.out.below hb).put (g + 1)); obtain ⟨c0, c1, f1, hne⟩ := HC.out.below hb)
        go_roundw
        case rel => exact ⟨g + 1, f', by omega, by omega, by omega, HR, HC2, Lib.hid (belS (belT H2.out hb) (by simp))⟩
        case measure => rw [HC2.out.c1, d0]; simp [intOf]; omega
end Go.Proofs.Ytehemfhnhjengaa
