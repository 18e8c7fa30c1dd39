/- Contracts: digests behind a label, challenges, on both sides. -/
import Derived.Test.YteeggmnkcgpfjaaHs2
namespace Go.Proofs.Yteeggmnkcgpfjaa
open Go.RowKit
set_option linter.unusedVariables false

/-- a text's bytes as numbers -/
def byL (s : ByteArray) : List Int := s.data.toList.map fun b => (b.toNat : Int)
theorem byL_len (s : ByteArray) : (byL s).length = s.size := by simp [byL]
theorem byL_get {s : ByteArray} {k : Nat} (h : k < s.size) : (byL s).getD k 0 = (s[k].toNat : Int) := by
  unfold byL
  rw [List.getD_eq_getElem?_getD, List.getElem?_map, List.getElem?_eq_getElem (by simpa using h)]
  rfl
theorem byL_take {s : ByteArray} {k : Nat} (h : k < s.size) : (byL s).take (k + 1) = (byL s).take k ++ [(s[k].toNat : Int)] := by
  rw [List.take_succ_eq_append_getElem (by rw [byL_len]; exact h)]
  congr 2
  simp [byL]
  rfl
theorem byL_digs (s : ByteArray) : digsB (byL s) = true := by
  unfold digsB byL
  rw [List.all_map, List.all_eq_true]
  intro b _
  have := b.toNat_lt
  show inB (b.toNat : Int) 0 4611686018427387903 = true
  exact inB_mk (by omega) (by omega)
/-- a list behind a label -/
def labL (s : ByteArray) (l : List Int) : List Int := (s.size : Int) :: byL s ++ l
theorem labL_len (s : ByteArray) (l : List Int) : (labL s l).length = 1 + s.size + l.length := by simp [labL, byL_len]; omega
theorem labL_digs (s : ByteArray) (l : List Int) (h : s.size ≤ 1000000) : digsB (labL s l) = digsB l := by
  have h1 : digB (s.size : Int) = true := inB_mk (by omega) (by omega)
  have h2 := byL_digs s
  unfold digsB at h2 ⊢
  rw [labL, List.cons_append, List.all_cons, List.all_append, h1, h2]
  rfl

theorem wrap_byte (b : UInt8) : wrap64 (b.toNat : Int) = (b.toNat : Int) := by
  have := b.toNat_lt
  unfold wrap64
  omega

set_option maxRecDepth 100000 in
set_option maxHeartbeats 1600000 in
theorem labelled_any (s : ByteArray) (A : Option Addr) (n c : Nat) (zs : List Int) (w : World) (h : Ints w A n zs) (hn : n ≤ 1000000) (hs : s.size ≤ 1000000) :
    Calls Try.prog 198 #[.string s, .slice A n c] w fun e w' => ∃ A' c', e = .returned (.slice A' (1 + s.size + n) c') ∧ w'.ownsRow w.heap.size 3 1 (.slice A' (1 + s.size + n) c') (1 + s.size + n) ((labL s zs).map (Value.int .i64)) ∧ Below w.heap.size w w' := by
  have HI := Lib.hid h
  clear h
  go_enter Try.func198, Try.ntmps198
  go_wp2
  go_loopw [5, 12] (fun v i wr => ∃ k : Nat, k ≤ s.size ∧ i = .int .i64 k ∧ Hid (wr.ownsRow w.heap.size 3 1 v (1 + k) (((s.size : Int) :: (byL s).take k).map (Value.int .i64))) ∧ Hid (Below w.heap.size w wr)) (fun _ i _ => s.size - (intOf i).toNat)
  case atStart => exact ⟨0, by omega, rfl, Lib.hid (own_lit1 w w.heap.size _ (Nat.le_refl _)), Lib.hid (belA (Below.refl _ _))⟩
  case round =>
    obtain ⟨k, hk, rfl, HO, HB⟩ := hrel
    by_cases hlt : k < s.size
    · have i1 : (0 : Int) ≤ (k : Int) := by omega
      have i2 : (k : Int) < (s.size : Int) := by omega
      have ht := Lib.hid (byL_take hlt)
      go_wp2_with (at_builtin; refine app1 rfl _ _ rfl rfl rfl HO.out (by omega) HB.out.size ?_; intro v2 w2 hown2 hbel2; rw [wrap_byte, List.cons_append, ← ht.out] at hown2)
      go_roundw
      case rel => exact ⟨k + 1, by omega, by go_num, Lib.hid hown2, Lib.hid (HB.out.trans hbel2)⟩
      case measure => simp [intOf]; omega
    · have e : k = s.size := by omega
      subst e
      rw [List.take_of_length_le (by rw [byL_len]; exact Nat.le_refl _)] at HO
      go_wp2_with (at_builtin; refine appI rfl _ _ rfl rfl rfl (HI.out.below HB.out) HO.out (by omega) HB.out.size ?_; intro A' c' w1 hown hg)
      go_wp2
      go_ret
      exact ⟨A', c', rfl, hown, own_below HB.out HB.out.size HO.out hg⟩

set_option maxRecDepth 100000 in
set_option maxHeartbeats 1600000 in
theorem l3With_any (s : ByteArray) (A : Option Addr) (n c : Nat) (zs : List Int) (w : World) (h : Ints w A n zs) (hn : n ≤ 1000000) (hs : s.size ≤ 1000000) :
    Calls Try.prog 196 #[.string s, .slice A n c] w fun e w' => ∃ A' c', e = .returned (.slice A' (1 + s.size + n) c') ∧ w'.ownsRow w.heap.size 3 1 (.slice A' (1 + s.size + n) c') (1 + s.size + n) ((labL s zs).map (Value.int .i64)) ∧ Below w.heap.size w w' := by
  have HI := Lib.hid h
  clear h
  go_enter Try.func196, Try.ntmps196
  go_wp2
  go_loopw [5, 6] (fun v i wr => ∃ k : Nat, k ≤ s.size ∧ i = .int .i64 k ∧ Hid (wr.ownsRow w.heap.size 3 1 v (1 + k) (((s.size : Int) :: (byL s).take k).map (Value.int .i64))) ∧ Hid (Below w.heap.size w wr)) (fun _ i _ => s.size - (intOf i).toNat)
  case atStart => exact ⟨0, by omega, rfl, Lib.hid (own_lit1 w w.heap.size _ (Nat.le_refl _)), Lib.hid (belA (Below.refl _ _))⟩
  case round =>
    obtain ⟨k, hk, rfl, HO, HB⟩ := hrel
    by_cases hlt : k < s.size
    · have i1 : (0 : Int) ≤ (k : Int) := by omega
      have i2 : (k : Int) < (s.size : Int) := by omega
      have ht := Lib.hid (byL_take hlt)
      go_wp2_with (at_builtin; refine app1 rfl _ _ rfl rfl rfl HO.out (by omega) HB.out.size ?_; intro v2 w2 hown2 hbel2; rw [wrap_byte, List.cons_append, ← ht.out] at hown2)
      go_roundw
      case rel => exact ⟨k + 1, by omega, by go_num, Lib.hid hown2, Lib.hid (HB.out.trans hbel2)⟩
      case measure => simp [intOf]; omega
    · have e : k = s.size := by omega
      subst e
      rw [List.take_of_length_le (by rw [byL_len]; exact Nat.le_refl _)] at HO
      go_wp2_with (at_builtin; refine appI rfl _ _ rfl rfl rfl (HI.out.below HB.out) HO.out (by omega) HB.out.size ?_; intro A' c' w1 hown hg)
      go_wp2
      go_ret
      exact ⟨A', c', rfl, hown, own_below HB.out HB.out.size HO.out hg⟩

/-- may a label and a list, and 'more' numbers, be hashed? -/
def lbB (s : ByteArray) (zs : List Int) (more : Int) : Bool := decide (s.size ≤ 40) && digsB zs && decide (1 + (s.size : Int) + (zs.length : Int) + more ≤ 400)
theorem lb_of {s : ByteArray} {zs : List Int} {more : Int} (h : lbB s zs more = true) : s.size ≤ 40 ∧ digsB zs = true ∧ 1 + (s.size : Int) + (zs.length : Int) + more ≤ 400 := by
  simp only [lbB, Bool.and_eq_true, decide_eq_true_eq] at h
  exact ⟨h.1.1, h.1.2, h.2⟩

set_option maxHeartbeats 800000 in
theorem hLabelled_any (s : ByteArray) (A : Option Addr) (n c : Nat) (zs : List Int) (w : World) (h : Ints w A n zs) (hn : n ≤ 400000) (hs : s.size ≤ 400000) (hd : digsB zs = true) :
    Calls Try.prog 191 #[.string s, .slice A n c] w fun e w' => e = .returned (.int .i64 (hashV (labL s zs))) ∧ Below w.heap.size w w' := by
  have H := Lib.hid (l3With_any s A n c zs w h (by omega) (by omega))
  have HD := Lib.hid ((labL_digs s zs (by omega)).trans hd)
  clear h hd
  go_enter Try.func191, Try.ntmps191
  go_wp2_with fail
  refine H.out.mono ?_
  rintro e w1 ⟨A', c', rfl, hown, hb⟩
  have HI := Lib.hid (Ints.of_own hown)
  have h0W := hb
  clear hown hb
  go_wp2_with fail
  refine (hInts_any A' (1 + s.size + n) c' (labL s zs) _ HI.out (by omega) HD.out).mono ?_
  rintro e w1_ ⟨rfl, hb1⟩
  have hW := hb1
  obtain ⟨hc, hf⟩ := bcell hW
  go_wp2
  go_ret
  exact ⟨rfl, belT h0W hW⟩
def hlM (s : ByteArray) (zs : List Int) : Int × Bool := if lbB s zs 0 then (hashV (labL s zs), true) else (0, false)
theorem hl_no {s : ByteArray} {zs : List Int} (h : 40 < s.size ∨ 400 < zs.length) : hlM s zs = (0, false) := by
  have e : lbB s zs 0 = false := by
    rw [Bool.eq_false_iff]
    intro hh
    have := lb_of hh
    omega
  rw [hlM, e]
  rfl
theorem hl_yes {s : ByteArray} {zs : List Int} (h : s.size ≤ 40) : hiM (labL s zs) = hlM s zs := by
  have e : (decide ((labL s zs).length ≤ 400) && digsB (labL s zs)) = lbB s zs 0 := by
    rw [labL_digs s zs (by omega), labL_len, lbB, decide_eq_true h, Bool.true_and, Bool.and_comm]
    congr 1
    rw [decide_eq_decide]
    omega
  rw [hiM, e, hlM]
set_option maxHeartbeats 800000 in
theorem iHashLabelled_any (s : ByteArray) (A : Option Addr) (n c : Nat) (zs : List Int) (w : World) (h : Ints w A n zs) (hn : n ≤ 100000000) :
    Calls Try.prog 192 #[.string s, .slice A n c] w fun e w' => e = .returned (.tuple #[.int .i64 (hlM s zs).1, .bool (hlM s zs).2]) ∧ Below w.heap.size w w' := by
  have hl := h.len
  subst hl
  have HI := Lib.hid h
  clear h
  by_cases h1 : s.size ≤ 40
  · have h1' : decide ((40 : Int) < (s.size : Int)) = false := by simp; omega
    by_cases h2 : zs.length ≤ 400
    · have h2' : decide ((400 : Int) < (zs.length : Int)) = false := by simp; omega
      have HY := Lib.hid (hl_yes (zs := zs) h1)
      have H := Lib.hid (labelled_any s A zs.length c zs w HI.out (by omega) (by omega))
      go_enter Try.func192, Try.ntmps192
      go_wp2_with fail
      refine H.out.mono ?_
      rintro e w1 ⟨A', c', rfl, hown, hb⟩
      have HJ := Lib.hid (Ints.of_own hown)
      have h0W := hb
      clear hown hb
      go_wp2_with fail
      refine (iHashInts_any A' (1 + s.size + zs.length) c' (labL s zs) _ HJ.out).mono ?_
      rintro e w1_ ⟨rfl, hb1⟩
      have hW := hb1
      obtain ⟨hc, hf⟩ := bcell hW
      rw [HY.out]
      go_wp2
      go_ret2
      exact ⟨rfl, belT h0W hW⟩
    · have h2' : decide ((400 : Int) < (zs.length : Int)) = true := by simp; omega
      have HN := Lib.hid (hl_no (s := s) (zs := zs) (.inr (by omega)))
      go_enter Try.func192, Try.ntmps192
      go_wp2
      go_ret2
      exact ⟨ret_ib (by rw [HN.out]), Below.refl _ _⟩
  · have h1' : decide ((40 : Int) < (s.size : Int)) = true := by simp; omega
    have HN := Lib.hid (hl_no (s := s) (zs := zs) (.inl (by omega)))
    go_enter Try.func192, Try.ntmps192
    go_wp2
    go_ret2
    exact ⟨ret_ib (by rw [HN.out]), Below.refl _ _⟩
end Go.Proofs.Yteeggmnkcgpfjaa
