/- Contracts: rows of a linear statement: images, checks, the list that is hashed. -/
import Derived.Test.YteeggmnkcgpfjaaGrid
import Derived.Test.YteeggmnkcgpfjaaGr4
namespace Go.Proofs.Yteeggmnkcgpfjaa
open Go.RowKit
set_option linter.unusedVariables false
set_option linter.unusedSimpArgs false

theorem ret_sl5 {A : Option Addr} {n m c : Nat} (h : n = m) : Ending.returned (.slice A n c) = .returned (.slice A m c) := by rw [h]
/-- the elements of row k -/
def rowK (bs : List (Option Addr × Nat × List Int)) (k : Nat) : List Int := (bs.getD k dRow).2.2
/-- the first images -/
def imgK (p q : Int) (bs : List (Option Addr × Nat × List Int)) (es : List Int) (k : Nat) : List Int := (List.range k).map fun j => prodK p q (rowK bs j) es (rowK bs j).length
theorem imgK_len (p q : Int) (bs : List (Option Addr × Nat × List Int)) (es : List Int) (k : Nat) : (imgK p q bs es k).length = k := by simp [imgK]
theorem imgK_succ (p q : Int) (bs : List (Option Addr × Nat × List Int)) (es : List Int) (k : Nat) : imgK p q bs es k ++ [prodK p q (rowK bs k) es (rowK bs k).length] = imgK p q bs es (k + 1) := by simp [imgK, List.range_succ]
set_option maxHeartbeats 1600000 in
theorem sImages_any (p q g : Int) (R : Option Addr) (r rc : Nat) (bs : List (Option Addr × Nat × List Int)) (A' : Option Addr) (n' c' : Nat) (es : List Int) (w : World) (h : Grid w R r bs) (h' : Ints w A' n' es)
    (hcol : ∀ k, k < r → (rowK bs k).length ≤ n') (hsm : ∀ k, k < r → ∀ z ∈ rowK bs k, Small p z) (p1 : 2 ≤ p) (p2 : p ≤ 3000000000) (q1 : 1 ≤ q) (q2 : q ≤ 3000000000) (hr : r ≤ 1000000) :
    Calls Try.prog 89 #[.agg #[.int .i64 p, .int .i64 q, .int .i64 g], .slice R r rc, .slice A' n' c'] w fun e w' => ∃ B cc, e = .returned (.slice B r cc) ∧ w'.ownsRow w.heap.size 3 1 (.slice B r cc) r ((imgK p q bs es r).map (Value.int .i64)) ∧ Below w.heap.size w w' := by
  have HI := Lib.hid h
  have HI' := Lib.hid h'
  have HC := Lib.hid hcol
  have HSM := Lib.hid hsm
  have c0 : (w.alloc (.cells #[.int .i64 p, .int .i64 q, .int .i64 g] 27)).cell? ⟨w.heap.size, 0, none⟩ = some (.int .i64 p) := (by rw [World.cell?_alloc_at _ _ _ _ (by simp)]; rfl)
  have c1 : (w.alloc (.cells #[.int .i64 p, .int .i64 q, .int .i64 g] 27)).cell? ⟨w.heap.size, 1, none⟩ = some (.int .i64 q) := (by rw [World.cell?_alloc_at _ _ _ _ (by simp)]; rfl)
  have c2 : (w.alloc (.cells #[.int .i64 p, .int .i64 q, .int .i64 g] 27)).cell? ⟨w.heap.size, 2, none⟩ = some (.int .i64 g) := (by rw [World.cell?_alloc_at _ _ _ _ (by simp)]; rfl)
  have hz0 : (w.alloc (.cells #[.int .i64 p, .int .i64 q, .int .i64 g] 27)).heap.size = w.heap.size + 1 := by simp
  have hb0 : Below w.heap.size w (w.alloc (.cells #[.int .i64 p, .int .i64 q, .int .i64 g] 27)) := belA (Below.refl _ _)
  clear h h' hcol hsm
  go_enter Try.func89, Try.ntmps89
  go_wp2
  go_loopw [7, 12] (fun v i wr => ∃ k : Nat, k ≤ r ∧ i = .int .i64 k ∧ Hid (wr.ownsRow (w.heap.size + 1) 3 1 v k ((imgK p q bs es k).map (Value.int .i64))) ∧ Hid (Below (w.heap.size + 1) (w.alloc (.cells #[.int .i64 p, .int .i64 q, .int .i64 g] 27)) wr)) (fun _ i _ => r - (intOf i).toNat)
  case atStart => exact ⟨0, by omega, rfl, Lib.hid (own_nil _ _), Lib.hid (Below.refl _ _)⟩
  case round =>
    obtain ⟨k, hk, rfl, HO, HX⟩ := hrel
    obtain ⟨C, oc, rfl⟩ := own_shape HO.out
    have HB := Lib.hid (hb0.trans (HX.out.mono (by omega)))
    have k0 := keepL HX.out (Nat.lt_succ_self _) c0
    have k1 := keepL HX.out (Nat.lt_succ_self _) c1
    have k2 := keepL HX.out (Nat.lt_succ_self _) c2
    have hsz := HX.out.size
    by_cases hlt : k < r
    · obtain ⟨b, off, eR, hb, hc, hrow⟩ := (HI.out.below HB.out).at_ hlt
      subst eR
      have HR := Lib.hid hrow
      have hcl := HC.out k hlt
      have HS := Lib.hid (HSM.out k hlt)
      have HIM := Lib.hid (imgK_succ p q bs es k)
      unfold rowK at hcl HS HIM
      generalize bs.getD k dRow = row at hc HR hcl HS HIM
      obtain ⟨rA, rC, rz⟩ := row
      simp only at hc HR hcl HS HIM
      clear hrow
      go_wp2_with (first | (go_at_call 126; refine (gProd_any p q g rA rz.length rC rz A' n' c' es _ HR.out (HI'.out.below HB.out) hcl p1 p2 q1 q2 HS.out).mono ?_; rintro e' w2 ⟨rfl, hb2⟩; have HO2 := Lib.hid (ownBelow HO.out hb2); have HX2 := Lib.hid (HX.out.trans (hb2.mono (by omega))); clear hb2) | (at_builtin; refine app1 rfl _ _ rfl rfl rfl HO2.out (by omega) (by have := HX2.out.size; omega) ?_; intro v3 w3 hown3 hbel3; rw [HIM.out] at hown3))
      go_roundw
      case rel => exact ⟨k + 1, by omega, by go_num, Lib.hid hown3, Lib.hid (HX2.out.trans hbel3)⟩
      case measure => simp [intOf]; omega
    · have e : k = r := by omega
      subst e
      go_wp2
      go_ret
      exact ⟨_, _, rfl, ownDown HO.out (by omega), HB.out⟩
set_option maxHeartbeats 1600000 in
theorem images_any (p q g : Int) (R : Option Addr) (r rc : Nat) (bs : List (Option Addr × Nat × List Int)) (A' : Option Addr) (n' c' : Nat) (es : List Int) (w : World) (h : Grid w R r bs) (h' : Ints w A' n' es)
    (hcol : ∀ k, k < r → (rowK bs k).length ≤ n') (hsm : ∀ k, k < r → ∀ z ∈ rowK bs k, Small p z) (p1 : 2 ≤ p) (p2 : p ≤ 3000000000) (q1 : 1 ≤ q) (q2 : q ≤ 3000000000) (hr : r ≤ 1000000) :
    Calls Try.prog 92 #[.agg #[.int .i64 p, .int .i64 q, .int .i64 g], .slice R r rc, .slice A' n' c'] w fun e w' => ∃ B cc, e = .returned (.slice B r cc) ∧ w'.ownsRow w.heap.size 3 1 (.slice B r cc) r ((imgK p q bs es r).map (Value.int .i64)) ∧ Below w.heap.size w w' := by
  have HI := Lib.hid h
  have HI' := Lib.hid h'
  have HC := Lib.hid hcol
  have HSM := Lib.hid hsm
  have c0 : (w.alloc (.cells #[.int .i64 p, .int .i64 q, .int .i64 g] 27)).cell? ⟨w.heap.size, 0, none⟩ = some (.int .i64 p) := (by rw [World.cell?_alloc_at _ _ _ _ (by simp)]; rfl)
  have c1 : (w.alloc (.cells #[.int .i64 p, .int .i64 q, .int .i64 g] 27)).cell? ⟨w.heap.size, 1, none⟩ = some (.int .i64 q) := (by rw [World.cell?_alloc_at _ _ _ _ (by simp)]; rfl)
  have c2 : (w.alloc (.cells #[.int .i64 p, .int .i64 q, .int .i64 g] 27)).cell? ⟨w.heap.size, 2, none⟩ = some (.int .i64 g) := (by rw [World.cell?_alloc_at _ _ _ _ (by simp)]; rfl)
  have hz0 : (w.alloc (.cells #[.int .i64 p, .int .i64 q, .int .i64 g] 27)).heap.size = w.heap.size + 1 := by simp
  have hb0 : Below w.heap.size w (w.alloc (.cells #[.int .i64 p, .int .i64 q, .int .i64 g] 27)) := belA (Below.refl _ _)
  clear h h' hcol hsm
  go_enter Try.func92, Try.ntmps92
  go_wp2
  go_loopw [7, 13] (fun v i wr => ∃ k : Nat, k ≤ r ∧ i = .int .i64 k ∧ Hid (wr.ownsRow (w.heap.size + 1) 3 1 v k ((imgK p q bs es k).map (Value.int .i64))) ∧ Hid (Below (w.heap.size + 1) (w.alloc (.cells #[.int .i64 p, .int .i64 q, .int .i64 g] 27)) wr)) (fun _ i _ => r - (intOf i).toNat)
  case atStart => exact ⟨0, by omega, rfl, Lib.hid (by have := ownDown (own_empty (w.alloc (.cells #[.int .i64 p, .int .i64 q, .int .i64 g] 27)) _ (Nat.le_refl _)) (Nat.le_of_eq hz0.symm); simpa [imgK] using this), Lib.hid ((Below.refl _ _).alloc (Nat.le_of_eq hz0.symm) _)⟩
  case round =>
    obtain ⟨k, hk, rfl, HO, HX⟩ := hrel
    obtain ⟨C, oc, rfl⟩ := own_shape HO.out
    have HB := Lib.hid (hb0.trans (HX.out.mono (by omega)))
    have k0 := keepL HX.out (Nat.lt_succ_self _) c0
    have k1 := keepL HX.out (Nat.lt_succ_self _) c1
    have k2 := keepL HX.out (Nat.lt_succ_self _) c2
    have hsz := HX.out.size
    by_cases hlt : k < r
    · obtain ⟨b, off, eR, hb, hc, hrow⟩ := (HI.out.below HB.out).at_ hlt
      subst eR
      have HR := Lib.hid hrow
      have hcl := HC.out k hlt
      have HS := Lib.hid (HSM.out k hlt)
      have HIM := Lib.hid (imgK_succ p q bs es k)
      unfold rowK at hcl HS HIM
      generalize bs.getD k dRow = row at hc HR hcl HS HIM
      obtain ⟨rA, rC, rz⟩ := row
      simp only at hc HR hcl HS HIM
      clear hrow
      go_wp2_with (first | (go_at_call 131; refine (powers_any p q g rA rz.length rC rz A' n' c' es _ HR.out (HI'.out.below HB.out) hcl p1 p2 q1 q2 HS.out).mono ?_; rintro e' w2 ⟨rfl, hb2⟩; have HO2 := Lib.hid (ownBelow HO.out hb2); have HX2 := Lib.hid (HX.out.trans (hb2.mono (by omega))); clear hb2) | (at_builtin; refine app1 rfl _ _ rfl rfl rfl HO2.out (by omega) (by have := HX2.out.size; omega) ?_; intro v3 w3 hown3 hbel3; rw [HIM.out] at hown3))
      go_roundw
      case rel => exact ⟨k + 1, by omega, by go_num, Lib.hid hown3, Lib.hid (HX2.out.trans hbel3)⟩
      case measure => simp [intOf]; omega
    · have e : k = r := by omega
      subst e
      go_wp2
      go_ret
      exact ⟨_, _, rfl, ownDown HO.out (by omega), HB.out⟩
/-! ## the checks -/
def sbB (p q : Int) (bs : List (Option Addr × Nat × List Int)) : Bool := inB (bs.length : Int) 1 8 && inB ((rowK bs 0).length : Int) 1 8 && (bs.all fun x => decide (x.2.2.length = (rowK bs 0).length) && x.2.2.all (hasB p q))
theorem rowK_mem {bs : List (Option Addr × Nat × List Int)} {k : Nat} (h : k < bs.length) : bs.getD k dRow ∈ bs := getD_mem h
structure SB (p q : Int) (bs : List (Option Addr × Nat × List Int)) : Prop where
  r1 : 1 ≤ bs.length
  r8 : bs.length ≤ 8
  c1 : 1 ≤ (rowK bs 0).length
  c8 : (rowK bs 0).length ≤ 8
  all : ∀ k, k < bs.length → (rowK bs k).length = (rowK bs 0).length ∧ (rowK bs k).all (hasB p q) = true
theorem SB.of {p q : Int} {bs : List (Option Addr × Nat × List Int)} (h : sbB p q bs = true) : SB p q bs := by
  simp only [sbB, Bool.and_eq_true] at h
  obtain ⟨⟨h1, h2⟩, h3⟩ := h
  have e1 := inB_true h1
  have e2 := inB_true h2
  refine ⟨by omega, by omega, by omega, by omega, fun k hk => ?_⟩
  have := List.all_eq_true.1 h3 _ (rowK_mem hk)
  simp only [Bool.and_eq_true, decide_eq_true_eq] at this
  exact this
theorem flat_le {bs : List (Option Addr × Nat × List Int)} {m : Nat} : ∀ k, k ≤ bs.length → (∀ j, j < bs.length → (rowK bs j).length ≤ m) → (flatK bs k).length ≤ k * m
  | 0, _, _ => by simp [flatK_zero]
  | k + 1, hk, h => by
    have := flat_le k (by omega) h
    have h2 := h k (by omega)
    rw [flatK_succ (by omega), List.length_append]
    unfold rowK at h2
    rw [Nat.succ_mul]
    omega
theorem SB.flat {p q : Int} {bs : List (Option Addr × Nat × List Int)} (h : SB p q bs) : (flatG bs).length ≤ 64 := by
  rw [← flatK_all]
  have := flat_le (m := 8) bs.length (Nat.le_refl _) (fun j hj => by rw [(h.all j hj).1]; exact h.c8)
  have := h.r8
  omega
theorem SB.small {p q : Int} {bs : List (Option Addr × Nat × List Int)} (h : SB p q bs) : ∀ k, k < bs.length → ∀ z ∈ rowK bs k, Small p z := fun k hk => all_small (h.all k hk).2
set_option maxHeartbeats 1600000 in
theorem sBases_any (p q g : Int) (R : Option Addr) (r rc : Nat) (bs : List (Option Addr × Nat × List Int)) (w : World) (h : Grid w R r bs) (p1 : 3 ≤ p) (p2 : p ≤ 2000000000) (q1 : 2 ≤ q) (q2 : q ≤ p - 1) :
    Calls Try.prog 87 #[.agg #[.int .i64 p, .int .i64 q, .int .i64 g], .slice R r rc] w fun e w' => e = .returned (.bool (sbB p q bs)) ∧ Below w.heap.size w w' := by
  have hl := h.len
  subst hl
  have hle := h.le
  have HI := Lib.hid h
  have c0 : (w.alloc (.cells #[.int .i64 p, .int .i64 q, .int .i64 g] 27)).cell? ⟨w.heap.size, 0, none⟩ = some (.int .i64 p) := (by rw [World.cell?_alloc_at _ _ _ _ (by simp)]; rfl)
  have c1 : (w.alloc (.cells #[.int .i64 p, .int .i64 q, .int .i64 g] 27)).cell? ⟨w.heap.size, 1, none⟩ = some (.int .i64 q) := (by rw [World.cell?_alloc_at _ _ _ _ (by simp)]; rfl)
  have c2 : (w.alloc (.cells #[.int .i64 p, .int .i64 q, .int .i64 g] 27)).cell? ⟨w.heap.size, 2, none⟩ = some (.int .i64 g) := (by rw [World.cell?_alloc_at _ _ _ _ (by simp)]; rfl)
  have hz0 : (w.alloc (.cells #[.int .i64 p, .int .i64 q, .int .i64 g] 27)).heap.size = w.heap.size + 1 := by simp
  have hb0 : Below w.heap.size w (w.alloc (.cells #[.int .i64 p, .int .i64 q, .int .i64 g] 27)) := belA (Below.refl _ _)
  have HG := Lib.hid (h.below hb0)
  clear h
  cases h1 : inB (bs.length : Int) 1 8
  · have HN := Lib.hid (show sbB p q bs = false by rw [sbB, h1]; rfl)
    go_enter Try.func87, Try.ntmps87
    go_wp2_with (go_at_call 72; refine (l1In_any _ _ _ _).mono ?_; rintro e w' ⟨rfl, rfl⟩; rw [h1])
    go_ret
    exact ⟨ret_bool HN.out.symm, hb0⟩
  · have hr := inB_true h1
    obtain ⟨b, off, eR, hb, hc0, hrow0⟩ := HG.out.at_ (show 0 < bs.length by omega)
    rw [Nat.add_zero] at hc0
    have hle0 := hrow0.le
    have e0 : (bs.getD 0 dRow).2.2 = rowK bs 0 := rfl
    rw [e0] at hc0 hle0
    cases h2 : inB ((rowK bs 0).length : Int) 1 8
    · have HN := Lib.hid (show sbB p q bs = false by rw [sbB, h1, h2]; rfl)
      subst eR
      generalize (rowK bs 0).length = m0 at hc0 h2 hle0
      go_enter Try.func87, Try.ntmps87
      go_wp2_with (go_at_call 72; refine (l1In_any _ _ _ _).mono ?_; rintro e w' ⟨rfl, rfl⟩; first | rw [h1] | rw [h2])
      go_ret
      exact ⟨ret_bool HN.out.symm, hb0⟩
    · have HSB : Hid (sbB p q bs = bs.all fun x => decide (x.2.2.length = (rowK bs 0).length) && x.2.2.all (hasB p q)) := Lib.hid (by rw [sbB, h1, h2]; rfl)
      subst eR
      generalize hm0 : (rowK bs 0).length = m0 at hc0 h2 hle0 HSB
      have HM0 := Lib.hid hm0
      clear hm0
      go_enter Try.func87, Try.ntmps87
      go_wp2_with (go_at_call 72; refine (l1In_any _ _ _ _).mono ?_; rintro e w' ⟨rfl, rfl⟩; first | rw [h1] | rw [h2])
      go_loopw [21] (fun i wr => ∃ k : Nat, k ≤ bs.length ∧ i = .int .i64 k ∧ Hid (Below (w.heap.size + 1) (w.alloc (.cells #[.int .i64 p, .int .i64 q, .int .i64 g] 27)) wr) ∧ Hid (∀ j, j < k → (decide ((bs.getD j dRow).2.2.length = m0) && (bs.getD j dRow).2.2.all (hasB p q)) = true)) (fun i _ => bs.length - (intOf i).toNat)
      case atStart => exact ⟨0, by omega, rfl, Lib.hid (Below.refl _ _), Lib.hid fun j hj => absurd hj (by omega)⟩
      case round =>
        obtain ⟨k, hk, rfl, HX, HK⟩ := hrel
        have HB := Lib.hid (hb0.trans (HX.out.mono (by omega)))
        have k0 := keepL HX.out (Nat.lt_succ_self _) c0
        have k1 := keepL HX.out (Nat.lt_succ_self _) c1
        have k2 := keepL HX.out (Nat.lt_succ_self _) c2
        have hsz := HX.out.size
        have HGr := Lib.hid (HI.out.below HB.out)
        by_cases hlt : k < bs.length
        · obtain ⟨b1, off1, e1, hb1, hc, hrow⟩ := HGr.out.at_ hlt
          injection e1 with e1
          injection e1 with e1 e2
          subst e1 e2
          obtain ⟨b2, off2, e2, _, hcz, _⟩ := HGr.out.at_ (show 0 < bs.length by omega)
          injection e2 with e2
          injection e2 with e3 e4
          subst e3 e4
          have hm : (bs.getD 0 dRow).2.2.length = m0 := HM0.out
          rw [Nat.add_zero, hm] at hcz
          clear hm
          have HRW := Lib.hid hrow
          clear hrow
          generalize hrw : bs.getD k dRow = row at hc HRW
          have HRE := Lib.hid hrw
          clear hrw
          obtain ⟨rA, rC, rz⟩ := row
          simp only at hc HRW
          have hk8 : (k : Int) < (bs.length : Int) := by omega
          by_cases hlen : rz.length = m0
          · have hne : ((rz.length : Int) != (m0 : Int)) = false := by simp [hlen]
            cases hall : rz.all (hasB p q)
            · have HN := Lib.hid (show sbB p q bs = false from HSB.out.trans (all_no (d := dRow) rfl hlt (by rw [HRE.out]; simp [hall])))
              have HLN := Lib.hid hlen
              clear hlen
              go_wp2_with (go_at_call 125; refine (gIs_any p q g rA rz.length rC rz _ HRW.out (by omega) (by omega) (by omega) (by omega)).mono ?_; rintro e w2 ⟨rfl, hb2⟩; rw [hall])
              go_ret
              exact ⟨ret_bool HN.out.symm, belT HB.out hb2⟩
            · have HST := Lib.hid (show (decide ((bs.getD k dRow).2.2.length = m0) && (bs.getD k dRow).2.2.all (hasB p q)) = true by rw [HRE.out]; simp [hall, hlen])
              have HLN := Lib.hid hlen
              clear hlen
              go_wp2_with (go_at_call 125; refine (gIs_any p q g rA rz.length rC rz _ HRW.out (by omega) (by omega) (by omega) (by omega)).mono ?_; rintro e w2 ⟨rfl, hb2⟩; rw [hall])
              go_roundw
              case rel => exact ⟨k + 1, by omega, by go_num, Lib.hid (HX.out.trans (hb2.mono (by omega))), Lib.hid (upto_succ HK.out HST.out)⟩
              case measure => simp [intOf]; omega
          · have hne : ((rz.length : Int) != (m0 : Int)) = true := by simp; omega
            have HN := Lib.hid (show sbB p q bs = false from HSB.out.trans (all_no (d := dRow) rfl hlt (by rw [HRE.out]; simp [hlen])))
            clear hlen
            go_wp2
            go_ret
            exact ⟨ret_bool HN.out.symm, HB.out⟩
        · have e : k = bs.length := by omega
          subst e
          go_wp2
          go_ret
          exact ⟨ret_bool (HSB.out.trans (all_yes (d := dRow) rfl HK.out)).symm, HB.out⟩
/-! ## the list that is hashed -/
set_option maxHeartbeats 1600000 in
theorem sStatement_any (R : Option Addr) (r rc : Nat) (bs : List (Option Addr × Nat × List Int)) (A : Option Addr) (n c : Nat) (zs : List Int) (A' : Option Addr) (n' c' : Nat) (ys : List Int) (w : World) (h : Grid w R r bs) (h1 : Ints w A n zs) (h2 : Ints w A' n' ys)
    (hf : (flatG bs).length ≤ 100000) (hn : n ≤ 100000) (hn' : n' ≤ 100000) :
    Calls Try.prog 177 #[.slice R r rc, .slice A n c, .slice A' n' c'] w fun e w' => ∃ B cc, e = .returned (.slice B ((flatG bs).length + n + n') cc) ∧ w'.ownsRow w.heap.size 3 1 (.slice B ((flatG bs).length + n + n') cc) ((flatG bs).length + n + n') ((flatG bs ++ zs ++ ys).map (Value.int .i64)) ∧ Below w.heap.size w w' := by
  have hl := h.len
  subst hl
  have HI := Lib.hid h
  have H1 := Lib.hid h1
  have H2 := Lib.hid h2
  have hle := h.le
  clear h h1 h2
  go_enter Try.func177, Try.ntmps177
  go_wp2
  go_loopw [7, 12] (fun v i wr => ∃ k : Nat, k ≤ bs.length ∧ i = .int .i64 k ∧ Hid (wr.ownsRow w.heap.size 3 1 v (flatK bs k).length ((flatK bs k).map (Value.int .i64))) ∧ Hid (Below w.heap.size w wr)) (fun _ i _ => bs.length - (intOf i).toNat)
  case atStart => exact ⟨0, by omega, rfl, Lib.hid (own_nil _ _), Lib.hid (Below.refl _ _)⟩
  case round =>
    obtain ⟨k, hk, rfl, HO, HB⟩ := hrel
    obtain ⟨C, oc, rfl⟩ := own_shape HO.out
    by_cases hlt : k < bs.length
    · obtain ⟨b, off, eR, hb, hc, hrow⟩ := (HI.out.below HB.out).at_ hlt
      subst eR
      have HR := Lib.hid hrow
      have hs : flatK bs (k + 1) = flatK bs k ++ (bs.getD k dRow).2.2 := flatK_succ hlt
      have hb1 := flatK_le bs (k + 1)
      rw [hs, List.length_append] at hb1
      have HS := Lib.hid hs
      have HL := Lib.hid (show (flatK bs (k + 1)).length = (flatK bs k).length + (bs.getD k dRow).2.2.length by rw [hs, List.length_append])
      generalize bs.getD k dRow = row at hc HR hb1 HS HL
      obtain ⟨rA, rC, rz⟩ := row
      simp only at hc HR hb1 HS HL
      clear hrow hs
      generalize flatK bs k = fk at HO hb1 HS HL
      go_wp2_with (at_builtin; refine appI rfl _ _ rfl rfl rfl HR.out HO.out (by omega) HB.out.size ?_; intro A3 c3 w3 hown3 hg3; have HB3 := Lib.hid (own_below HB.out HB.out.size HO.out hg3))
      go_roundw
      case rel => exact ⟨k + 1, by omega, by go_num, Lib.hid (by rw [HL.out, HS.out]; exact hown3), HB3⟩
      case measure => simp [intOf]; omega
    · have e : k = bs.length := by omega
      subst e
      have hfl := flatK_le bs bs.length
      have HFA := Lib.hid (flatK_all bs)
      go_wp2_with (at_builtin; first | (refine appI rfl _ _ rfl rfl rfl (H1.out.below HB.out) HO.out (by omega) HB.out.size ?_; intro A3 c3 w3 hown3 hg3; have HB3 := Lib.hid (own_below HB.out HB.out.size HO.out hg3); have HO3 := Lib.hid hown3; clear hown3 hg3) | (refine appI rfl _ _ rfl rfl rfl (H2.out.below HB3.out) HO3.out (by omega) HB3.out.size ?_; intro A4 c4 w4 hown4 hg4; have HB4 := Lib.hid (own_below HB3.out HB3.out.size HO3.out hg4); have HO4 := Lib.hid hown4; clear hown4 hg4))
      go_wp2
      go_ret
      refine ⟨A4, c4, ret_sl5 (by rw [HFA.out]), ?_, HB4.out⟩
      have := HO4.out
      rwa [HFA.out] at this
end Go.Proofs.Yteeggmnkcgpfjaa
