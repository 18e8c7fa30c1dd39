/- Contracts of both sides: FactorOf. -/
import Derived.Test.YtehemfhnhjengaaFa
import Derived.Test.YtehemfhnhjengaaPp
namespace Go.Proofs.Ytehemfhnhjengaa
open Go.RowKit
set_option linter.unusedVariables false
attribute [local go_sem ↓] Go.wp_at_zero Go.wp_at_succ
set_option linter.unusedSimpArgs false

/-- a list of prime powers of the call's own -/
def FL (w : World) (l : List (Int × Int)) (e : Ending) (w' : World) : Prop :=
  ∃ A c, e = .returned (.slice A l.length c) ∧ w'.ownsRow w.heap.size 71 2 (.slice A l.length c) l.length (cellsL l) ∧ Below w.heap.size w w'
theorem FL.mk' {w w' : World} {l : List (Int × Int)} {pre : List (Nat × Nat)} {A : Option Addr} {n c : Nat} (hl : l = toZ pre) (hn : pre.length = n) (ho : w'.ownsRow w.heap.size 71 2 (.slice A n c) n (cellsL (toZ pre))) (hb : Below w.heap.size w w') : FL w l (.returned (.slice A n c)) w' := by
  subst hl
  subst hn
  refine ⟨A, c, by rw [toZ_len], ?_, hb⟩
  rw [toZ_len]
  exact ho
theorem toZ_one (pre : List (Nat × Nat)) (x y : Nat) : toZ pre ++ [((x : Int), (y : Int))] = toZ (pre ++ [(x, y)]) := by simp [toZ]
theorem pair_eq {r : Nat × Nat} {m e : Nat} (h : r = (m, e)) : r.1 = m ∧ r.2 = e := by subst h; exact ⟨rfl, rfl⟩

set_option maxRecDepth 100000 in
set_option maxHeartbeats 4000000 in
theorem nFactor_any (n : Int) (w : World) (h1 : 1 ≤ n) (h2 : n ≤ 2000000000) :
    Calls Try.prog 50 #[.int .i64 n] w (FL w (facL n)) := by
  obtain ⟨n, rfl⟩ := Int.eq_ofNat_of_zero_le (show 0 ≤ n by omega)
  have HL : Hid (facL (n : Int) = toZ (facN facF n 2)) := Lib.hid (by rw [facL, Int.toNat_natCast])
  go_enter Try.func50, Try.ntmps50
  go_wp2
  go_loopw [3, 4, 0] (fun v x y wr => ∃ (d r f : Nat) (pre : List (Nat × Nat)), x = .int .i64 d ∧ y = .int .i64 r ∧ 2 ≤ d ∧ d ≤ 44722 ∧ 1 ≤ r ∧ r ≤ 2000000000 ∧ Hid (r + 1 ≤ f + d) ∧ Hid (pre.length + 2 ≤ d) ∧ Hid (wr.ownsRow w.heap.size 71 2 v pre.length (cellsL (toZ pre))) ∧ Hid (Below w.heap.size w wr) ∧ Hid (facN facF n 2 = pre ++ facN f r d)) (fun _ x _ _ => 50000 - (intOf x).toNat)
  case atStart => exact ⟨2, n, facF, [], rfl, rfl, by omega, by omega, by omega, by omega, Lib.hid (by unfold facF; omega), Lib.hid (by simp), Lib.hid (ownC_nil _ _), Lib.hid (Below.refl _ _), Lib.hid rfl⟩
  case round =>
    obtain ⟨d, r, f, pre, rfl, rfl, d2, d3, r1, r2, HF, HP, HO, HB, HE⟩ := hrel
    obtain ⟨b1, b2⟩ := sq_bd (d := d) (by omega)
    by_cases hle : (d : Int) * (d : Int) ≤ (r : Int)
    · have hle' := (sq_cast d r).1 hle
      have hs := sq_small hle' (by omega)
      have hdr := Nat.le_trans (Nat.le_mul_self d) hle'
      have HD := Lib.hid hle'
      clear hle'
      go_wp2
      go_loop [0, 5] (fun x y => ∃ (m e g : Nat), x = .int .i64 m ∧ y = .int .i64 e ∧ 1 ≤ m ∧ m ≤ r ∧ m + e ≤ r ∧ m ≤ g ∧ Hid (stripN r r d 0 = stripN g m d e)) (fun x _ => (intOf x).toNat)
      case atStart => exact ⟨r, 0, r, rfl, rfl, by omega, by omega, by omega, by omega, Lib.hid rfl⟩
      case round =>
        obtain ⟨m, e, g, rfl, rfl, m1, m2, m3, m4, HS⟩ := hrel
        by_cases hm : m % d = 0
        · have hm' : (((m : Int) % (d : Int)) == 0) = true := by rw [beq_iff_eq, ← Int.natCast_emod, hm]; rfl
          obtain ⟨c1, c2, _⟩ := div_less m1 d2 hm
          obtain ⟨g', rfl⟩ : ∃ g', g = g' + 1 := ⟨g - 1, by omega⟩
          have HN := Lib.hid (stripN_next (f := g') (e := e) hm)
          clear hm
          go_wp2
          go_round
          case rel => exact ⟨m / d, e + 1, g', by simp, by go_num, by omega, by omega, by omega, by omega, Lib.hid (HS.out.trans HN.out)⟩
          case measure => simp [intOf]; omega
        · have hm' : (((m : Int) % (d : Int)) == 0) = false := by rw [beq_eq_false_iff_ne, ← Int.natCast_emod]; omega
          have HN := Lib.hid (HS.out.trans (stripN_stop (f := g) (e := e) hm))
          obtain ⟨f', rfl⟩ : ∃ f', f = f' + 1 := ⟨f - 1, by have := HF.out; omega⟩
          clear hm HS
          by_cases he : 0 < e
          · have hq := HE.out
            rw [facN_hit HD.out HN.out he] at hq
            have hq' : facN facF n 2 = (pre ++ [(d, e)]) ++ facN f' m (d + 1) := by rw [hq]; simp
            have HQ := Lib.hid hq'
            clear hq hq'
            go_wp2_with (at_builtin; refine appC1 rfl _ _ rfl rfl rfl (by rfl) HO.out (by have := HP.out; omega) HB.out.size ?_; intro A2 c2 w2 hown2 hbel2)
            rw [toZ_one] at hown2
            go_roundw
            case rel => exact ⟨d + 1, m, f', pre ++ [(d, e)], by go_num, rfl, by omega, by omega, by omega, by omega, Lib.hid (by have := HF.out; omega), Lib.hid (by have := HP.out; simp; omega), Lib.hid (by rw [List.length_append]; exact hown2), Lib.hid (HB.out.trans hbel2), HQ⟩
            case measure => simp [intOf]; omega
          · have hq := HE.out
            rw [facN_skip HD.out HN.out he] at hq
            have HQ := Lib.hid hq
            clear hq
            go_wp2
            go_roundw
            case rel => exact ⟨d + 1, m, f', pre, by go_num, rfl, by omega, by omega, by omega, by omega, Lib.hid (by have := HF.out; omega), Lib.hid (by have := HP.out; omega), HO, HB, HQ⟩
            case measure => simp [intOf]; omega
    · have hle' : ¬ d * d ≤ r := fun c => hle ((sq_cast d r).2 c)
      have hq := HE.out
      rw [facN_out hle'] at hq
      clear hle'
      by_cases hr : 1 < r
      · have ht : tailN r = [(r, 1)] := if_pos hr
        rw [ht] at hq
        have HQ := Lib.hid (HL.out.trans (congrArg toZ hq))
        clear hq ht
        go_wp2_with (at_builtin; refine appC1 rfl _ _ rfl rfl rfl (by rfl) HO.out (by have := HP.out; omega) HB.out.size ?_; intro A2 c2 w2 hown2 hbel2)
        rw [show (1 : Int) = ((1 : Nat) : Int) from rfl, toZ_one] at hown2
        go_ret
        exact FL.mk' HQ.out (by simp) hown2 (HB.out.trans hbel2)
      · have ht : tailN r = [] := if_neg hr
        rw [ht, List.append_nil] at hq
        have HQ := Lib.hid (HL.out.trans (congrArg toZ hq))
        clear hq ht
        obtain ⟨A2, c2, rfl⟩ := own_shapeC HO.out
        go_wp2
        go_ret
        exact FL.mk' HQ.out rfl HO.out HB.out

set_option maxRecDepth 100000 in
set_option maxHeartbeats 4000000 in
theorem factors_any (n : Int) (w : World) (h1 : 1 ≤ n) (h2 : n ≤ 2000000000) :
    Calls Try.prog 52 #[.int .i64 n] w (FL w (facL n)) := by
  obtain ⟨n, rfl⟩ := Int.eq_ofNat_of_zero_le (show 0 ≤ n by omega)
  have HL : Hid (facL (n : Int) = toZ (facN facF n 2)) := Lib.hid (by rw [facL, Int.toNat_natCast])
  go_enter Try.func52, Try.ntmps52
  go_wp2
  go_loopw [3, 4, 0] (fun v x y wr => ∃ (d r : Nat) (pre : List (Nat × Nat)), x = .int .i64 d ∧ y = .int .i64 r ∧ 2 ≤ d ∧ d ≤ 2000000001 ∧ 1 ≤ r ∧ r ≤ 2000000000 ∧ pre.length ≤ 50000 ∧ Hid (wr.ownsRow w.heap.size 71 2 v pre.length (cellsL (toZ pre))) ∧ Hid (Below w.heap.size w wr) ∧ Hid ((∃ f, d ≤ 44722 ∧ r + 1 ≤ f + d ∧ pre.length + 2 ≤ d ∧ facN facF n 2 = pre ++ facN f r d) ∨ (r = 1 ∧ facN facF n 2 = pre))) (fun _ x y _ => (intOf y).toNat * 50000 + (50000 - (intOf x).toNat))
  case atStart => exact ⟨2, n, [], rfl, rfl, by omega, by omega, by omega, by omega, by simp, Lib.hid (ownC_empty _ _ (Nat.le_refl _)), Lib.hid (belA (Below.refl _ _)), Lib.hid (.inl ⟨facF, by omega, by unfold facF; omega, by simp, rfl⟩)⟩
  case round =>
    obtain ⟨d, r, pre, rfl, rfl, d2, d3, r1, r2, HP, HO, HB, HE⟩ := hrel
    by_cases h1r : 1 < r
    · obtain ⟨f, d4, HF, HP2, hE⟩ : ∃ f, d ≤ 44722 ∧ Hid (r + 1 ≤ f + d) ∧ Hid (pre.length + 2 ≤ d) ∧ Hid (facN facF n 2 = pre ++ facN f r d) := by
        rcases HE.out with ⟨f, a, b, c, e⟩ | ⟨a, _⟩
        · exact ⟨f, a, Lib.hid b, Lib.hid c, Lib.hid e⟩
        · omega
      clear HE
      obtain ⟨b1, b2⟩ := sq_bd (d := d) (by omega)
      by_cases hle : (d : Int) * (d : Int) ≤ (r : Int)
      · have hle' := (sq_cast d r).1 hle
        have hs := sq_small hle' (by omega)
        have hdr := Nat.le_trans (Nat.le_mul_self d) hle'
        have HD := Lib.hid hle'
        clear hle'
        go_wp2
        go_loop [0, 5] (fun x y => ∃ (m e g : Nat), x = .int .i64 m ∧ y = .int .i64 e ∧ 1 ≤ m ∧ m ≤ r ∧ m + e ≤ r ∧ m ≤ g ∧ Hid (stripN r r d 0 = stripN g m d e)) (fun x _ => (intOf x).toNat)
        case atStart => exact ⟨r, 0, r, rfl, rfl, by omega, by omega, by omega, by omega, Lib.hid rfl⟩
        case round =>
          obtain ⟨m, e, g, rfl, rfl, m1, m2, m3, m4, HS⟩ := hrel
          by_cases hm : m % d = 0
          · have hm' : (((m : Int) % (d : Int)) == 0) = true := by rw [beq_iff_eq, ← Int.natCast_emod, hm]; rfl
            obtain ⟨c1, c2, _⟩ := div_less m1 d2 hm
            obtain ⟨g', rfl⟩ : ∃ g', g = g' + 1 := ⟨g - 1, by omega⟩
            have HN := Lib.hid (stripN_next (f := g') (e := e) hm)
            clear hm
            go_wp2
            go_round
            case rel => exact ⟨m / d, e + 1, g', by simp, by go_num, by omega, by omega, by omega, by omega, Lib.hid (HS.out.trans HN.out)⟩
            case measure => simp [intOf]; omega
          · have hm' : (((m : Int) % (d : Int)) == 0) = false := by rw [beq_eq_false_iff_ne, ← Int.natCast_emod]; omega
            have HN := Lib.hid (HS.out.trans (stripN_stop (f := g) (e := e) hm))
            obtain ⟨f', rfl⟩ : ∃ f', f = f' + 1 := ⟨f - 1, by have := HF.out; omega⟩
            clear hm HS
            by_cases he : 0 < e
            · have hq := hE.out
              rw [facN_hit HD.out HN.out he] at hq
              have hq' : facN facF n 2 = (pre ++ [(d, e)]) ++ facN f' m (d + 1) := by rw [hq]; simp
              have HQ := Lib.hid hq'
              clear hq hq'
              go_wp2_with (at_builtin; refine appC1 rfl _ _ rfl rfl rfl (by rfl) HO.out (by omega) HB.out.size ?_; intro A2 c2 w2 hown2 hbel2)
              rw [toZ_one] at hown2
              go_roundw
              case rel => exact ⟨d + 1, m, pre ++ [(d, e)], by go_num, rfl, by omega, by omega, by omega, by omega, by have := HP2.out; simp; omega, Lib.hid (by rw [List.length_append]; exact hown2), Lib.hid (HB.out.trans hbel2), Lib.hid (.inl ⟨f', by omega, by have := HF.out; omega, by have := HP2.out; simp; omega, HQ.out⟩)⟩
              case measure => simp [intOf]; omega
            · have hq := hE.out
              rw [facN_skip HD.out HN.out he] at hq
              have HQ := Lib.hid hq
              clear hq
              go_wp2
              go_roundw
              case rel => exact ⟨d + 1, m, pre, by go_num, rfl, by omega, by omega, by omega, by omega, by omega, HO, HB, Lib.hid (.inl ⟨f', by omega, by have := HF.out; omega, by have := HP2.out; omega, HQ.out⟩)⟩
              case measure => simp [intOf]; omega
      · have hle' : ¬ d * d ≤ r := fun c => hle ((sq_cast d r).2 c)
        have hq := hE.out
        rw [facN_out hle', show tailN r = [(r, 1)] from if_pos h1r] at hq
        have HQ := Lib.hid hq
        clear hle' hq
        go_wp2
        go_loop [0, 5] (fun x y => ∃ (m e : Nat), x = .int .i64 m ∧ y = .int .i64 e ∧ Hid ((m = r ∧ e = 0) ∨ (m = 1 ∧ e = 1))) (fun x _ => (intOf x).toNat)
        case atStart => exact ⟨r, 0, rfl, rfl, Lib.hid (.inl ⟨rfl, rfl⟩)⟩
        case round =>
          obtain ⟨m, e, rfl, rfl, HS⟩ := hrel
          rcases HS.out with ⟨hm, he⟩ | ⟨hm, he⟩
          · subst hm he
            have hm' : (((m : Int) % (m : Int)) == 0) = true := by simp
            have HN : (m : Int) / (m : Int) = 1 := Int.ediv_self (by omega)
            clear HS
            go_wp2
            go_round
            case rel => exact ⟨1, 1, by first | rfl | (rw [HN]; rfl), rfl, Lib.hid (.inr ⟨rfl, rfl⟩)⟩
            case measure => simp [intOf, HN]; omega
          · subst hm he
            have hm' : (((1 : Int) % (r : Int)) == 0) = false := by rw [beq_eq_false_iff_ne, Int.emod_eq_of_lt (by omega) (by omega)]; omega
            clear HS
            go_wp2_with (at_builtin; refine appC1 rfl _ _ rfl rfl rfl (by rfl) HO.out (by omega) HB.out.size ?_; intro A2 c2 w2 hown2 hbel2)
            rw [show (1 : Int) = ((1 : Nat) : Int) from rfl, toZ_one] at hown2
            go_roundw
            case rel => exact ⟨r + 1, 1, pre ++ [(r, 1)], by go_num, rfl, by omega, by omega, by omega, by omega, by have := HP2.out; simp; omega, Lib.hid (by rw [List.length_append]; exact hown2), Lib.hid (HB.out.trans hbel2), Lib.hid (.inr ⟨rfl, HQ.out⟩)⟩
            case measure => simp [intOf]; omega
    · have hr : r = 1 := by omega
      subst hr
      have hq : facN facF n 2 = pre := by
        rcases HE.out with ⟨f, a, b, c, e⟩ | ⟨_, e⟩
        · rw [e, facN_out (by have := Nat.mul_le_mul d2 d2; omega)]
          simp [tailN]
        · exact e
      have HQ := Lib.hid (HL.out.trans (congrArg toZ hq))
      clear hq HE
      obtain ⟨A2, c2, rfl⟩ := own_shapeC HO.out
      go_wp2
      go_ret
      exact FL.mk' HQ.out rfl HO.out HB.out

set_option maxHeartbeats 400000 in
theorem sFactorOf_rc (n : Int) (w : World) :
    Calls Try.prog 15 #[.int .i64 n] w (RCi w (facM n)) := by
  cases h : inB n 1 2000000000
  · have HN := Lib.hid (show facM n = ([], false) by rw [facM, h]; rfl)
    go_enter Try.func15, Try.ntmps15
    go_wp2_with (first | (go_at_call 49; refine (l1In_any _ _ _ _).mono ?_; rintro e w' ⟨rfl, rfl⟩))
    go_ret2
    exact RCi.no HN.out (Below.refl _ _)
  · have HN := Lib.hid (show facM n = (facL n, true) by rw [facM, h]; rfl)
    obtain ⟨h1, h2⟩ := inB_true h
    go_enter Try.func15, Try.ntmps15
    go_wp2_with (first | (go_at_call 49; refine (l1In_any _ _ _ _).mono ?_; rintro e w' ⟨rfl, rfl⟩) | (go_at_call 50; refine (nFactor_any _ _ h1 h2).mono ?_; rintro e w1 ⟨A2, c2, rfl, ho, hb⟩; have HO := Lib.hid ho; clear ho))
    go_ret2
    exact RCi.yes HN.out rfl HO.out hb
theorem sFactorOf_any (n : Int) (w : World) :
    Calls Try.prog 15 #[.int .i64 n] w fun e w' => ∃ B cc, e = .returned (.tuple #[.slice B (facM n).1.length cc, .bool (facM n).2]) ∧ w'.ownsRow w.heap.size 71 2 (.slice B (facM n).1.length cc) (facM n).1.length (cellsL (facM n).1) ∧ Below w.heap.size w w' := sFactorOf_rc n w
set_option maxHeartbeats 400000 in
theorem iFactorOf_rc (n : Int) (w : World) :
    Calls Try.prog 16 #[.int .i64 n] w (RCi w (facM n)) := by
  cases h : inB n 1 2000000000
  · have HN := Lib.hid (show facM n = ([], false) by rw [facM, h]; rfl)
    go_enter Try.func16, Try.ntmps16
    go_wp2_with (first | (go_at_call 51; refine (within_any _ _ _ _).mono ?_; rintro e w' ⟨rfl, rfl⟩))
    go_ret2
    exact RCi.no HN.out (Below.refl _ _)
  · have HN := Lib.hid (show facM n = (facL n, true) by rw [facM, h]; rfl)
    obtain ⟨h1, h2⟩ := inB_true h
    go_enter Try.func16, Try.ntmps16
    go_wp2_with (first | (go_at_call 51; refine (within_any _ _ _ _).mono ?_; rintro e w' ⟨rfl, rfl⟩) | (go_at_call 52; refine (factors_any _ _ h1 h2).mono ?_; rintro e w1 ⟨A2, c2, rfl, ho, hb⟩; have HO := Lib.hid ho; clear ho))
    go_ret2
    exact RCi.yes HN.out rfl HO.out hb
theorem iFactorOf_any (n : Int) (w : World) :
    Calls Try.prog 16 #[.int .i64 n] w fun e w' => ∃ B cc, e = .returned (.tuple #[.slice B (facM n).1.length cc, .bool (facM n).2]) ∧ w'.ownsRow w.heap.size 71 2 (.slice B (facM n).1.length cc) (facM n).1.length (cellsL (facM n).1) ∧ Below w.heap.size w w' := iFactorOf_rc n w
end Go.Proofs.Ytehemfhnhjengaa
