/- Contracts: challenges, on both sides. -/
import Derived.Test.YteeggmnkcgpfjaaHl
import Derived.Test.YteeggmnkcgpfjaaGr3
namespace Go.Proofs.Yteeggmnkcgpfjaa
open Go.RowKit
set_option linter.unusedVariables false
attribute [local go_sem ↓] Go.wp_at_zero Go.wp_at_succ

/-- the list that a challenge hashes -/
def chL (p q g : Int) (zs : List Int) : List Int := [p, q, g] ++ zs
theorem chL_len (p q g : Int) (zs : List Int) : (chL p q g zs).length = 3 + zs.length := by simp [chL]; omega
set_option maxRecDepth 100000 in
theorem chL_digs {p q g : Int} {zs : List Int} (h : goodB p q g = true) : digsB (chL p q g zs) = digsB zs := by
  obtain ⟨g1, g2, g3, g4, g5, g6⟩ := good_om h
  have h1 : digB p = true := inB_mk (by omega) (by omega)
  have h2 : digB q = true := inB_mk (by omega) (by omega)
  have h3 : digB g = true := inB_mk (by omega) (by omega)
  unfold digsB
  rw [chL, List.all_append]
  simp only [List.all_cons, List.all_nil, h1, h2, h3, Bool.true_and]
set_option maxRecDepth 100000 in
theorem ch_lb {p q g : Int} {s : ByteArray} {zs : List Int} (h : goodB p q g = true) : lbB s (chL p q g zs) 0 = lbB s zs 3 := by
  rw [lbB, chL_digs h, chL_len, lbB]
  congr 1
  rw [decide_eq_decide]
  omega
def chV (p q g : Int) (s : ByteArray) (zs : List Int) : Int := hashV (labL s (chL p q g zs)) % q
def chM (p q g : Int) (s : ByteArray) (zs : List Int) : Int × Bool := if goodB p q g && lbB s zs 3 then (chV p q g s zs, true) else (0, false)

set_option maxRecDepth 100000 in
set_option maxHeartbeats 1600000 in
theorem hChallenge_any (p q g : Int) (s : ByteArray) (A : Option Addr) (n c : Nat) (zs : List Int) (w : World) (h : Ints w A n zs) (hn : n ≤ 100000) (hs : s.size ≤ 100000) (hd : digsB (chL p q g zs) = true) (q1 : 1 ≤ q) (q2 : q ≤ 3000000000) :
    Calls Try.prog 176 #[.agg #[.int .i64 p, .int .i64 q, .int .i64 g], .string s, .slice A n c] w fun e w' => e = .returned (.int .i64 (chV p q g s zs)) ∧ Below w.heap.size w w' := by
  have hb := hash_bd (labL s (chL p q g zs))
  have HV : Hid (chV p q g s zs = hashV (labL s (chL p q g zs)) % q) := Lib.hid rfl
  generalize hdd : hashV (labL s (chL p q g zs)) = d at hb HV
  have HD := Lib.hid hdd
  obtain ⟨d0, d1⟩ := hb
  have hq0 : ¬ q = 0 := by omega
  have hm : d.tmod q = d % q := Int.tmod_eq_emod_of_nonneg d0
  have HG := Lib.hid hd
  clear hdd hd
  have hb0 : Below w.heap.size w (w.alloc (.cells #[.int .i64 p, .int .i64 q, .int .i64 g] 27)) := belA (Below.refl _ _)
  have HI := Lib.hid (h.below hb0)
  clear h
  go_enter Try.func176, Try.ntmps176
  go_wp2
  generalize hW0 : w.alloc (.cells #[.int .i64 p, .int .i64 q, .int .i64 g] 27) = W0 at HI hb0
  have k1 : W0.cell? ⟨w.heap.size, 0, none⟩ = some (.int .i64 p) := by subst hW0; rw [World.cell?_alloc_at _ _ _ _ (by simp)]; rfl
  have k2 : W0.cell? ⟨w.heap.size, 1, none⟩ = some (.int .i64 q) := by subst hW0; rw [World.cell?_alloc_at _ _ _ _ (by simp)]; rfl
  have k3 : W0.cell? ⟨w.heap.size, 2, none⟩ = some (.int .i64 g) := by subst hW0; rw [World.cell?_alloc_at _ _ _ _ (by simp)]; rfl
  have hz : w.heap.size < W0.heap.size := by subst hW0; simp
  clear hW0
  go_region_held3 (fun W => W.cell? ⟨w.heap.size, 0, none⟩ = some (.int .i64 p) ∧ W.cell? ⟨w.heap.size, 1, none⟩ = some (.int .i64 q) ∧ W.cell? ⟨w.heap.size, 2, none⟩ = some (.int .i64 g)) ((first | (first | (go_split_ands; (repeat' apply And.intro) <;> first | assumption | exact keepB hb1 (by assumption) | (refine keepS (by simp <;> omega) (keepS (by simp <;> omega) ?_); assumption) | (refine keepS (by simp <;> omega) ?_; assumption) | (refine keepB (belA (Below.refl _ _)) ?_; assumption) | go_keep) | go_keep) | (go_split_ands; (repeat' apply And.intro) <;> first | assumption | exact keepL hbg hz (by assumption)))) ((first | (refine step_appI (by rfl) _ _ (by rfl) (by rfl) (by rfl) (Ints.drew (HI.out.below (belA (Below.refl _ _)))) (own_drew (own_lit3 W0 W0.heap.size p q g (Nat.le_refl _))) (by omega) (by simp) ?_; intro A' c' w1 hown hg; have hbg := own_below (belD (Below.refl _ _)) (by simp) (own_drew (own_lit3 W0 W0.heap.size p q g (Nat.le_refl _))) hg; have hb2 := own_below (belD (belA hb0)) (by simp; omega) (own_drew (own_lit3' W0 w.heap.size W0.heap.size p q g rfl (by omega))) hg) | (go_at_call 191; refine (hLabelled_any s _ _ _ (chL p q g zs) _ (Ints.of_own hown) (by omega) (by omega) HG.out).mono ?_; rintro e' w2 ⟨rfl, hb1⟩; rw [HD.out])))
  all_goals go_wp2
  all_goals go_ret
  all_goals exact ⟨ret_int HV.out.symm, (by repeat (first | exact Below.refl _ _ | assumption | refine belA ?_ | refine belD ?_ | refine belN ?_ | refine belS ?_ (by simp) | refine belT ?_ (by assumption)))⟩

/-- the program's challenge for a valid group -/
def chW (p q g : Int) (s : ByteArray) (zs : List Int) : Int × Bool := if lbB s zs 3 then (chV p q g s zs, true) else (0, false)
theorem hl_chW {p q g : Int} {s : ByteArray} {zs : List Int} (h : goodB p q g = true) : hlM s (chL p q g zs) = if lbB s zs 3 then (hashV (labL s (chL p q g zs)), true) else (0, false) := by rw [hlM, ch_lb h]
set_option maxHeartbeats 800000 in
theorem challenge_any (p q g : Int) (s : ByteArray) (A : Option Addr) (n c : Nat) (zs : List Int) (w : World) (h : Ints w A n zs) (hn : n ≤ 10000000) (hgd : goodB p q g = true) :
    Calls Try.prog 178 #[.agg #[.int .i64 p, .int .i64 q, .int .i64 g], .string s, .slice A n c] w fun e w' => e = .returned (.tuple #[.int .i64 (chW p q g s zs).1, .bool (chW p q g s zs).2]) ∧ Below w.heap.size w w' := by
  obtain ⟨g1, g2, g3, g4, g5, g6⟩ := good_om hgd
  have HL := Lib.hid (hl_chW (s := s) (zs := zs) hgd)
  have hb0 : Below w.heap.size w (w.alloc (.cells #[.int .i64 p, .int .i64 q, .int .i64 g] 27)) := belA (Below.refl _ _)
  have HI := Lib.hid (h.below hb0)
  have hl := h.len
  subst hl
  have hb := hash_bd (labL s (chL p q g zs))
  have HV : Hid (chV p q g s zs = hashV (labL s (chL p q g zs)) % q) := Lib.hid rfl
  generalize hashV (labL s (chL p q g zs)) = d at hb HV HL
  obtain ⟨d0, d1⟩ := hb
  have hq0 : (q == 0) = false := by simp; omega
  clear h hgd
  go_enter Try.func178, Try.ntmps178
  go_wp2_with (at_builtin; refine appI rfl _ _ rfl rfl rfl (HI.out.below (belA (Below.refl _ _))) (own_lit3' _ w.heap.size (w.heap.size + 1) p q g (by simp) (by omega)) (by omega) (by simp; omega) ?_; intro A' c' w1 hown hg)
  have hB := own_below (belA hb0) (by simp; omega) (own_lit3' _ w.heap.size (w.heap.size + 1) p q g (by simp) (by omega)) hg
  have hk := own_below (Below.refl (w.heap.size + 1) _) (by simp) (own_lit3' _ (w.heap.size + 1) (w.heap.size + 1) p q g (by simp) (by omega)) hg
  have HC := Lib.hid hk
  have k2 : w1.cell? ⟨w.heap.size, 1, none⟩ = some (.int .i64 q) := keepL hk (by omega) (by rw [World.cell?_alloc_past _ _ _ (by simp <;> omega), World.cell?_alloc_at _ _ _ _ (by simp)]; rfl)
  have HJ := Lib.hid (Ints.of_own hown)
  have h0W := hB
  clear hown hg hB hk
  go_wp2_with fail
  refine (iHashLabelled_any s A' (3 + zs.length) c' (chL p q g zs) _ HJ.out (by omega)).mono ?_
  rintro e w2 ⟨rfl, hb1⟩
  replace k2 := keepB hb1 k2
  rw [HL.out]
  cases hk : lbB s zs 3
  · go_wp2
    go_ret2
    exact ⟨ret_ib (by rw [chW, hk]; rfl), belT h0W hb1⟩
  · go_wp2
    go_ret2
    exact ⟨ret_ib (by rw [chW, hk, HV.out]; rfl), belT h0W hb1⟩
end Go.Proofs.Yteeggmnkcgpfjaa
