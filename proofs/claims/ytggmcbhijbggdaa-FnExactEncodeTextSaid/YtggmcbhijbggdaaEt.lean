/- Contracts: texts as records, on both sides. -/
import Derived.Test.YtggmcbhijbggdaaHl
import Derived.Test.YtggmcbhijbggdaaRi
namespace Go.Proofs.Ytggmcbhijbggdaa
open Go.RowKit
set_option linter.unusedVariables false

/-- is a list a record? -/
def recB (zs : List Int) : Bool := decide (zs.length ≤ 400) && digsB zs
set_option maxHeartbeats 400000 in
theorem isRecord_any (A : Option Addr) (n c : Nat) (zs : List Int) (w : World) (h : Ints w A n zs) :
    Calls Try.prog 77 #[.slice A n c] w fun e w' => e = .returned (.bool (recB zs)) ∧ Below w.heap.size w w' := by
  have hl := h.len
  subst hl
  have hp : Pays 71 #[] #[] digB (fun _ => True) w := fun W x hb _ => (isDigest_any x W).mono fun e w' hh => ⟨hh.1, by rw [← hh.2]; exact Below.refl _ _⟩
  have H := Lib.hid (areAll_any 71 _ _ enters_isDigest _ (fun _ => True) A zs.length c zs _ h (fun _ _ => trivial) hp)
  have hle := h.le
  clear hp h
  by_cases hn : zs.length ≤ 400
  · have hd : decide (zs.length ≤ 400) = true := by simp [hn]
    have hd' : decide ((zs.length : Int) ≤ 400) = true := by simp; omega
    have HD := Lib.hid hd
    clear hd
    go_enter Try.func77, Try.ntmps77
    go_wp2_with (go_at_call 96; refine H.out.mono ?_; rintro e w' ⟨rfl, hb⟩)
    go_ret
    exact ⟨ret_bool (by rw [recB, HD.out]; rfl), hb⟩
  · have hd : decide (zs.length ≤ 400) = false := by simp [hn]
    have hd' : decide ((zs.length : Int) ≤ 400) = false := by simp; omega
    have HD := Lib.hid hd
    clear hd
    go_enter Try.func77, Try.ntmps77
    go_wp2
    go_ret
    exact ⟨ret_bool (by rw [recB, HD.out]; rfl), Below.refl _ _⟩
set_option maxHeartbeats 400000 in
theorem l4Record_any (A : Option Addr) (n c : Nat) (zs : List Int) (w : World) (h : Ints w A n zs) :
    Calls Try.prog 104 #[.slice A n c] w fun e w' => e = .returned (.bool (recB zs)) ∧ Below w.heap.size w w' := by
  have hl := h.len
  subst hl
  have H := Lib.hid (l1All_any A zs.length c zs 0 4611686018427387903 _ h)
  have hle := h.le
  clear h
  by_cases hn : zs.length ≤ 400
  · have hd : decide (zs.length ≤ 400) = true := by simp [hn]
    have hd' : decide ((zs.length : Int) ≤ 400) = true := by simp; omega
    have HD := Lib.hid hd
    clear hd
    go_enter Try.func104, Try.ntmps104
    go_wp2_with (go_at_call 76; refine H.out.mono ?_; rintro e w' ⟨rfl, rfl⟩)
    go_ret
    exact ⟨ret_bool (by rw [recB, HD.out]; rfl), Below.refl _ _⟩
  · have hd : decide (zs.length ≤ 400) = false := by simp [hn]
    have hd' : decide ((zs.length : Int) ≤ 400) = false := by simp; omega
    have HD := Lib.hid hd
    clear hd
    go_enter Try.func104, Try.ntmps104
    go_wp2
    go_ret
    exact ⟨ret_bool (by rw [recB, HD.out]; rfl), Below.refl _ _⟩
/-- the list itself if it is a record -/
def recV (A : Option Addr) (n c : Nat) (zs : List Int) : Value := if recB zs then .slice A n c else .slice none 0 0
set_option maxHeartbeats 400000 in
theorem record_any (A : Option Addr) (n c : Nat) (zs : List Int) (w : World) (h : Ints w A n zs) :
    Calls Try.prog 75 #[.slice A n c] w fun e w' => e = .returned (.tuple #[recV A n c zs, .bool (recB zs)]) ∧ Below w.heap.size w w' := by
  have HI := Lib.hid h
  clear h
  cases hr : recB zs
  · have HV : Hid (recV A n c zs = .slice none 0 0) := Lib.hid (by rw [recV, hr]; rfl)
    rw [HV.out]
    go_enter Try.func75, Try.ntmps75
    go_wp2_with fail
    refine (isRecord_any A n c zs _ HI.out).mono ?_
    rintro e w1_ ⟨rfl, hb1⟩
    have hW := hb1
    obtain ⟨hc, hf⟩ := bcell hW
    rw [hr]
    go_wp2
    go_ret2
    exact ⟨rfl, hW⟩
  · have HV : Hid (recV A n c zs = .slice A n c) := Lib.hid (by rw [recV, hr]; rfl)
    rw [HV.out]
    go_enter Try.func75, Try.ntmps75
    go_wp2_with fail
    refine (isRecord_any A n c zs _ HI.out).mono ?_
    rintro e w1_ ⟨rfl, hb1⟩
    have hW := hb1
    obtain ⟨hc, hf⟩ := bcell hW
    rw [hr]
    go_wp2
    go_ret2
    exact ⟨rfl, hW⟩
set_option maxHeartbeats 400000 in
theorem l4If_any (A : Option Addr) (n c : Nat) (zs : List Int) (w : World) (h : Ints w A n zs) :
    Calls Try.prog 73 #[.slice A n c] w fun e w' => e = .returned (.tuple #[recV A n c zs, .bool (recB zs)]) ∧ Below w.heap.size w w' := by
  have HI := Lib.hid h
  clear h
  cases hr : recB zs
  · have HV : Hid (recV A n c zs = .slice none 0 0) := Lib.hid (by rw [recV, hr]; rfl)
    rw [HV.out]
    go_enter Try.func73, Try.ntmps73
    go_wp2_with fail
    refine (l4Record_any A n c zs _ HI.out).mono ?_
    rintro e w1_ ⟨rfl, hb1⟩
    have hW := hb1
    obtain ⟨hc, hf⟩ := bcell hW
    rw [hr]
    go_wp2
    go_ret2
    exact ⟨rfl, hW⟩
  · have HV : Hid (recV A n c zs = .slice A n c) := Lib.hid (by rw [recV, hr]; rfl)
    rw [HV.out]
    go_enter Try.func73, Try.ntmps73
    go_wp2_with fail
    refine (l4Record_any A n c zs _ HI.out).mono ?_
    rintro e w1_ ⟨rfl, hb1⟩
    have hW := hb1
    obtain ⟨hc, hf⟩ := bcell hW
    rw [hr]
    go_wp2
    go_ret2
    exact ⟨rfl, hW⟩
/-- a record's result: the list of the call's own -/
def recM (zs : List Int) : List Int × Bool := if recB zs then (zs, true) else ([], false)
theorem recM_len (zs : List Int) : (recM zs).1.length ≤ 400 := by
  unfold recM
  split
  · rename_i h
    simp only [recB, Bool.and_eq_true, decide_eq_true_eq] at h
    exact h.1
  · simp
theorem RI.rec_ {w w' : World} {A : Option Addr} {n c : Nat} {zs : List Int} (ho : w'.ownsRow w.heap.size 3 1 (.slice A n c) n (zs.map (Value.int .i64))) (hb : Below w.heap.size w w') : RI w (recM zs) (.returned (.tuple #[recV A n c zs, .bool (recB zs)])) w' := by
  cases hr : recB zs
  · have HV : recV A n c zs = .slice none 0 0 := by rw [recV, hr]; rfl
    rw [HV]
    exact RI.no (by rw [recM, hr]; rfl) hb
  · have HV : recV A n c zs = .slice A n c := by rw [recV, hr]; rfl
    rw [HV]
    exact RI.yes (by rw [recM, hr]; rfl) ho hb

set_option maxRecDepth 100000 in
set_option maxHeartbeats 1600000 in
theorem cText_any (s : ByteArray) (w : World) (hs : s.size ≤ 2000000) :
    Calls Try.prog 74 #[.string s] w fun e w' => ∃ A' c', e = .returned (.slice A' (1 + s.size) c') ∧ w'.ownsRow w.heap.size 3 1 (.slice A' (1 + s.size) c') (1 + s.size) ((labL s []).map (Value.int .i64)) ∧ Below w.heap.size w w' := by
  go_enter Try.func74, Try.ntmps74
  go_wp2
  go_loopw [3, 4] (fun v i wr => ∃ k : Nat, k ≤ s.size ∧ i = .int .i64 k ∧ Hid (wr.ownsRow w.heap.size 3 1 v (1 + k) (((s.size : Int) :: (byL s).take k).map (Value.int .i64))) ∧ Hid (Below w.heap.size w wr)) (fun _ i _ => s.size - (intOf i).toNat)
  case atStart => exact ⟨0, by omega, rfl, Lib.hid (own_lit1 w w.heap.size _ (Nat.le_refl _)), Lib.hid (belA (Below.refl _ _))⟩
  case round =>
    obtain ⟨k, hk, rfl, HO, HB⟩ := hrel
    by_cases hlt : k < s.size
    · have i1 : (0 : Int) ≤ (k : Int) := by omega
      have i2 : (k : Int) < (s.size : Int) := by omega
      have ht := Lib.hid (byL_take hlt)
      go_wp2_with (at_builtin; refine app1 rfl _ _ rfl rfl rfl HO.out (by omega) HB.out.size ?_; intro v2 w2 hown2 hbel2; rw [wrap_byte, List.cons_append, ← ht.out] at hown2)
      go_roundw
      case rel => exact ⟨k + 1, by omega, by go_num, Lib.hid hown2, Lib.hid (HB.out.trans hbel2)⟩
      case measure => simp [intOf]; omega
    · have e : k = s.size := by omega
      subst e
      rw [List.take_of_length_le (by rw [byL_len]; exact Nat.le_refl _)] at HO
      obtain ⟨A', c', rfl⟩ := own_shape HO.out
      go_wp2
      go_ret
      exact ⟨A', c', rfl, by rw [labL, List.append_nil]; exact HO.out, HB.out⟩

set_option maxHeartbeats 400000 in
theorem sEncodeText_ri (s : ByteArray) (w : World) (hs : s.size ≤ 2000000) :
    Calls Try.prog 32 #[.string s] w (RI w (recM (labL s []))) := by
  have H := Lib.hid (cText_any s w hs)
  go_enter Try.func32, Try.ntmps32
  go_wp2_with fail
  refine H.out.mono ?_
  rintro e w1 ⟨A', c', rfl, hown, hb⟩
  have HO := Lib.hid hown
  have h0 := hb
  clear hown hb
  go_wp2_with fail
  refine (l4If_any A' (1 + s.size) c' (labL s []) _ (Ints.of_own HO.out)).mono ?_
  rintro e w1_ ⟨rfl, hb1⟩
  have hW := hb1
  obtain ⟨hc, hf⟩ := bcell hW
  go_wp2
  go_ret2
  exact RI.rec_ (ownBelow HO.out hW) (belT h0 hW)
theorem sEncodeText_any (s : ByteArray) (w : World) (hs : s.size ≤ 2000000) :
    Calls Try.prog 32 #[.string s] w fun e w' => ∃ B cc, e = .returned (.tuple #[.slice B (recM (labL s [])).1.length cc, .bool (recM (labL s [])).2]) ∧ w'.ownsRow w.heap.size 3 1 (.slice B (recM (labL s [])).1.length cc) (recM (labL s [])).1.length ((recM (labL s [])).1.map (Value.int .i64)) ∧ Below w.heap.size w w' :=
  sEncodeText_ri s w hs
theorem rec_long {s : ByteArray} (h : 400 < s.size) : recM (labL s []) = ([], false) := by
  have e : recB (labL s []) = false := by
    rw [recB, decide_eq_false (by rw [labL_len]; simp; omega)]
    rfl
  rw [recM, e]
  rfl
set_option maxHeartbeats 400000 in
theorem iEncodeText_ri (s : ByteArray) (w : World) (hs : s.size ≤ 2000000) :
    Calls Try.prog 33 #[.string s] w (RI w (recM (labL s []))) := by
  by_cases h1 : s.size ≤ 400
  · have h1' : decide ((400 : Int) < (s.size : Int)) = false := by simp; omega
    have H := Lib.hid (labelled_any s none 0 0 [] w (Ints.nil w none) (by omega) (by omega))
    go_enter Try.func33, Try.ntmps33
    go_wp2_with fail
    refine H.out.mono ?_
    rintro e w1 ⟨A', c', rfl, hown, hb⟩
    have HO := Lib.hid hown
    have h0 := hb
    clear hown hb
    go_wp2_with fail
    refine (record_any A' (1 + s.size + 0) c' (labL s []) _ (Ints.of_own HO.out)).mono ?_
    rintro e w1_ ⟨rfl, hb1⟩
    have hW := hb1
    obtain ⟨hc, hf⟩ := bcell hW
    go_wp2
    go_ret2
    exact RI.rec_ (ownBelow HO.out hW) (belT h0 hW)
  · have h1' : decide ((400 : Int) < (s.size : Int)) = true := by simp; omega
    have HN := Lib.hid (rec_long (s := s) (by omega))
    go_enter Try.func33, Try.ntmps33
    go_wp2
    go_ret2
    exact RI.no HN.out (Below.refl _ _)
theorem iEncodeText_any (s : ByteArray) (w : World) (hs : s.size ≤ 2000000) :
    Calls Try.prog 33 #[.string s] w fun e w' => ∃ B cc, e = .returned (.tuple #[.slice B (recM (labL s [])).1.length cc, .bool (recM (labL s [])).2]) ∧ w'.ownsRow w.heap.size 3 1 (.slice B (recM (labL s [])).1.length cc) (recM (labL s [])).1.length ((recM (labL s [])).1.map (Value.int .i64)) ∧ Below w.heap.size w w' :=
  iEncodeText_ri s w hs
end Go.Proofs.Ytggmcbhijbggdaa
