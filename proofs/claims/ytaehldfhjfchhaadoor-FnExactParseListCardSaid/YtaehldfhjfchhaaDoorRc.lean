/- Contracts: lists as records, on both sides. -/
import Derived.Test.YtaehldfhjfchhaaDoorSl
import Derived.Test.YtaehldfhjfchhaaDoorRi
namespace Go.Proofs.YtaehldfhjfchhaaDoor
open Go.RowKit
set_option linter.unusedVariables false

/-- a digest -/
def digB (z : Int) : Bool := inB z 0 4611686018427387903
def digsB (zs : List Int) : Bool := zs.all digB
theorem digs_bd {zs : List Int} {k : Nat} (h : digsB zs = true) (hk : k < zs.length) : 0 ≤ zs.getD k 0 ∧ zs.getD k 0 ≤ 4611686018427387903 := by
  have := inB_true (List.all_eq_true.1 h _ (getD_mem (d := 0) hk))
  omega
set_option maxHeartbeats 400000 in
theorem isDigest_any (z : Int) (w : World) :
    Calls Tryd.prog 32 #[.int .i64 z] w fun e w' => e = .returned (.bool (digB z)) ∧ w = w' := by
  go_enter Tryd.func32, Tryd.ntmps32
  go_wp2_with (first | (go_at_call 48; refine (within_any _ _ _ _).mono ?_; rintro e w' ⟨rfl, rfl⟩))
  go_ret
  exact ⟨rfl, rfl⟩
theorem enters_isDigest : ∀ args w, (callFunc 32 args).run Tryd.prog w = .ok (.enter 32 args) w := enters_of Tryd.func32 (by kernel_rfl) rfl
/-- is a list a record? -/
def recB (zs : List Int) : Bool := decide (zs.length ≤ 400) && digsB zs
set_option maxHeartbeats 400000 in
theorem isRecord_any (A : Option Addr) (n c : Nat) (zs : List Int) (w : World) (h : Ints w A n zs) :
    Calls Tryd.prog 20 #[.slice A n c] w fun e w' => e = .returned (.bool (recB zs)) ∧ Below w.heap.size w w' := by
  have hl := h.len
  subst hl
  have hp : Pays 32 #[] #[] digB (fun _ => True) w := fun W x hb _ => (isDigest_any x W).mono fun e w' hh => ⟨hh.1, by rw [← hh.2]; exact Below.refl _ _⟩
  have H := Lib.hid (areAll_any 32 _ _ enters_isDigest _ (fun _ => True) A zs.length c zs _ h (fun _ _ => trivial) hp)
  have hle := h.le
  clear hp h
  by_cases hn : zs.length ≤ 400
  · have hd : decide (zs.length ≤ 400) = true := by simp [hn]
    have hd' : decide ((zs.length : Int) ≤ 400) = true := by simp; omega
    have HD := Lib.hid hd
    clear hd
    go_enter Tryd.func20, Tryd.ntmps20
    go_wp2_with (go_at_call 31; refine H.out.mono ?_; rintro e w' ⟨rfl, hb⟩)
    go_ret
    exact ⟨ret_bool (by rw [recB, HD.out]; rfl), hb⟩
  · have hd : decide (zs.length ≤ 400) = false := by simp [hn]
    have hd' : decide ((zs.length : Int) ≤ 400) = false := by simp; omega
    have HD := Lib.hid hd
    clear hd
    go_enter Tryd.func20, Tryd.ntmps20
    go_wp2
    go_ret
    exact ⟨ret_bool (by rw [recB, HD.out]; rfl), Below.refl _ _⟩
set_option maxHeartbeats 400000 in
theorem l4Record_any (A : Option Addr) (n c : Nat) (zs : List Int) (w : World) (h : Ints w A n zs) :
    Calls Tryd.prog 18 #[.slice A n c] w fun e w' => e = .returned (.bool (recB zs)) ∧ Below w.heap.size w w' := by
  have hl := h.len
  subst hl
  have H := Lib.hid (l1All_any A zs.length c zs 0 4611686018427387903 _ h)
  have hle := h.le
  clear h
  by_cases hn : zs.length ≤ 400
  · have hd : decide (zs.length ≤ 400) = true := by simp [hn]
    have hd' : decide ((zs.length : Int) ≤ 400) = true := by simp; omega
    have HD := Lib.hid hd
    clear hd
    go_enter Tryd.func18, Tryd.ntmps18
    go_wp2_with (go_at_call 29; refine H.out.mono ?_; rintro e w' ⟨rfl, rfl⟩)
    go_ret
    exact ⟨ret_bool (by rw [recB, HD.out]; rfl), Below.refl _ _⟩
  · have hd : decide (zs.length ≤ 400) = false := by simp [hn]
    have hd' : decide ((zs.length : Int) ≤ 400) = false := by simp; omega
    have HD := Lib.hid hd
    clear hd
    go_enter Tryd.func18, Tryd.ntmps18
    go_wp2
    go_ret
    exact ⟨ret_bool (by rw [recB, HD.out]; rfl), Below.refl _ _⟩
/-- the list itself if it is a record -/
def recV (A : Option Addr) (n c : Nat) (zs : List Int) : Value := if recB zs then .slice A n c else .slice none 0 0
set_option maxHeartbeats 400000 in
theorem record_any (A : Option Addr) (n c : Nat) (zs : List Int) (w : World) (h : Ints w A n zs) :
    Calls Tryd.prog 17 #[.slice A n c] w fun e w' => e = .returned (.tuple #[recV A n c zs, .bool (recB zs)]) ∧ Below w.heap.size w w' := by
  have HI := Lib.hid h
  clear h
  cases hr : recB zs
  · have HV : Hid (recV A n c zs = .slice none 0 0) := Lib.hid (by rw [recV, hr]; rfl)
    rw [HV.out]
    go_enter Tryd.func17, Tryd.ntmps17
    go_wp2_with fail
    refine (isRecord_any A n c zs _ HI.out).mono ?_
    rintro e w1_ ⟨rfl, hb1⟩
    have hW := hb1
    obtain ⟨hc, hf⟩ := bcell hW
    rw [hr]
    go_wp2
    go_ret2
    exact ⟨rfl, hW⟩
  · have HV : Hid (recV A n c zs = .slice A n c) := Lib.hid (by rw [recV, hr]; rfl)
    rw [HV.out]
    go_enter Tryd.func17, Tryd.ntmps17
    go_wp2_with fail
    refine (isRecord_any A n c zs _ HI.out).mono ?_
    rintro e w1_ ⟨rfl, hb1⟩
    have hW := hb1
    obtain ⟨hc, hf⟩ := bcell hW
    rw [hr]
    go_wp2
    go_ret2
    exact ⟨rfl, hW⟩
set_option maxHeartbeats 400000 in
theorem l4If_any (A : Option Addr) (n c : Nat) (zs : List Int) (w : World) (h : Ints w A n zs) :
    Calls Tryd.prog 24 #[.slice A n c] w fun e w' => e = .returned (.tuple #[recV A n c zs, .bool (recB zs)]) ∧ Below w.heap.size w w' := by
  have HI := Lib.hid h
  clear h
  cases hr : recB zs
  · have HV : Hid (recV A n c zs = .slice none 0 0) := Lib.hid (by rw [recV, hr]; rfl)
    rw [HV.out]
    go_enter Tryd.func24, Tryd.ntmps24
    go_wp2_with fail
    refine (l4Record_any A n c zs _ HI.out).mono ?_
    rintro e w1_ ⟨rfl, hb1⟩
    have hW := hb1
    obtain ⟨hc, hf⟩ := bcell hW
    rw [hr]
    go_wp2
    go_ret2
    exact ⟨rfl, hW⟩
  · have HV : Hid (recV A n c zs = .slice A n c) := Lib.hid (by rw [recV, hr]; rfl)
    rw [HV.out]
    go_enter Tryd.func24, Tryd.ntmps24
    go_wp2_with fail
    refine (l4Record_any A n c zs _ HI.out).mono ?_
    rintro e w1_ ⟨rfl, hb1⟩
    have hW := hb1
    obtain ⟨hc, hf⟩ := bcell hW
    rw [hr]
    go_wp2
    go_ret2
    exact ⟨rfl, hW⟩
/-- a record's result: the list of the call's own -/
def recM (zs : List Int) : List Int × Bool := if recB zs then (zs, true) else ([], false)
theorem recM_len (zs : List Int) : (recM zs).1.length ≤ 400 := by
  unfold recM
  split
  · rename_i h
    simp only [recB, Bool.and_eq_true, decide_eq_true_eq] at h
    exact h.1
  · simp
theorem RI.rec_ {w w' : World} {A : Option Addr} {n c : Nat} {zs : List Int} (ho : w'.ownsRow w.heap.size 3 1 (.slice A n c) n (zs.map (Value.int .i64))) (hb : Below w.heap.size w w') : RI w (recM zs) (.returned (.tuple #[recV A n c zs, .bool (recB zs)])) w' := by
  cases hr : recB zs
  · have HV : recV A n c zs = .slice none 0 0 := by rw [recV, hr]; rfl
    rw [HV]
    exact RI.no (by rw [recM, hr]; rfl) hb
  · have HV : recV A n c zs = .slice A n c := by rw [recV, hr]; rfl
    rw [HV]
    exact RI.yes (by rw [recM, hr]; rfl) ho hb

end Go.Proofs.YtaehldfhjfchhaaDoor
