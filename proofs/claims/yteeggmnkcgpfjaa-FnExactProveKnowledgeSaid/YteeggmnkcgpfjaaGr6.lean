/- Contracts: the program's check of the rows of a linear statement; slices put one behind the other by the library. -/
import Derived.Test.YteeggmnkcgpfjaaGr5
namespace Go.Proofs.Yteeggmnkcgpfjaa
open Go.RowKit
set_option linter.unusedVariables false
set_option linter.unusedSimpArgs false

def PaysG (f : Nat) (fi lb : Array Value) (pr : Option Addr × Nat × List Int → Bool) (bs : List (Option Addr × Nat × List Int)) (w : World) : Prop :=
  ∀ (W : World) (k : Nat), k < bs.length → Below w.heap.size w W → Calls Try.prog f (fi ++ #[.slice (bs.getD k dRow).1 (bs.getD k dRow).2.2.length (bs.getD k dRow).2.1] ++ lb) W fun e W' => e = .returned (.bool (pr (bs.getD k dRow))) ∧ Below W.heap.size W W'

set_option maxHeartbeats 800000 in
theorem IndexFuncG_any (f : Nat) (fi lb : Array Value) (eg : ∀ args w, (callFunc f args).run Try.prog w = .ok (.enter f args) w) (pr : Option Addr × Nat × List Int → Bool)
    (R : Option Addr) (r rc : Nat) (bs : List (Option Addr × Nat × List Int)) (w : World) (h : Grid w R r bs) (hp : PaysG f fi lb pr bs w) :
    Calls Try.prog 168 #[.slice R r rc, .func (.func f) fi lb] w (IdxPost (bs.any pr) w) := by
  have hl := h.len
  subst hl
  have hn := h.le
  have HI := Lib.hid h
  have HP := Lib.hid hp
  clear h hp
  go_enter Try.func168, Try.ntmps168
  go_wp2
  go_loopw [8] (fun i wr => ∃ k : Nat, k ≤ bs.length ∧ i = .int .i64 k ∧ Hid (Below w.heap.size w wr) ∧ Hid (∀ j, j < k → pr (bs.getD j dRow) = false)) (fun i _ => bs.length - (intOf i).toNat)
  case atStart => exact ⟨0, by omega, rfl, Lib.hid (Below.refl _ _), Lib.hid fun j hj => absurd hj (by omega)⟩
  case round =>
    obtain ⟨k, hk, rfl, HB, HK⟩ := hrel
    by_cases hlt : k < bs.length
    · obtain ⟨b, off, eR, hb, hc, hrow⟩ := (HI.out.below HB.out).at_ hlt
      subst eR
      have hcall := HP.out wr k hlt HB.out
      generalize hz : bs.getD k dRow = z at hc hcall
      have HZ := Lib.hid hz
      clear hz hrow
      obtain ⟨zA, zC, zz⟩ := z
      simp only at hc hcall
      have HC := Lib.hid hcall
      have i1 : (0 : Int) ≤ (k : Int) := by omega
      have i2 : (k : Int) < (bs.length : Int) := by omega
      clear hcall
      cases hin : pr (zA, zC, zz)
      · go_wp2_with (go_at_fn f; refine HC.out.mono ?_; rintro e w' ⟨rfl, hb'⟩; rw [hin])
        go_roundw
        case rel => exact ⟨k + 1, by omega, by go_num, Lib.hid (belT HB.out hb'), Lib.hid (upto_succ HK.out (by rw [HZ.out]; exact hin))⟩
        case measure => simp [intOf]; omega
      · go_wp2_with (go_at_fn f; refine HC.out.mono ?_; rintro e w' ⟨rfl, hb'⟩; rw [hin])
        go_ret
        exact ⟨k, rfl, by rw [any_yes (d := dRow) (p := pr) rfl hlt (by rw [HZ.out]; exact hin)]; simp, belT HB.out hb'⟩
    · have e : k = bs.length := by omega
      subst e
      go_wp2
      go_ret
      exact ⟨-1, rfl, by rw [any_no (d := dRow) (p := pr) rfl HK.out]; rfl, HB.out⟩

set_option maxHeartbeats 400000 in
theorem ContainsFuncG_any (f : Nat) (fi lb : Array Value) (eg : ∀ args w, (callFunc f args).run Try.prog w = .ok (.enter f args) w) (pr : Option Addr × Nat × List Int → Bool)
    (R : Option Addr) (r rc : Nat) (bs : List (Option Addr × Nat × List Int)) (w : World) (h : Grid w R r bs) (hp : PaysG f fi lb pr bs w) :
    Calls Try.prog 127 #[.slice R r rc, .func (.func f) fi lb] w fun e w' => e = .returned (.bool (bs.any pr)) ∧ Below w.heap.size w w' := by
  have H := Lib.hid (IndexFuncG_any f fi lb eg pr R r rc bs w h hp)
  clear h hp eg
  go_enter Try.func127, Try.ntmps127
  go_wp2_with (go_at_call 168; refine H.out.mono ?_; rintro e w' ⟨r, rfl, hr, hb⟩; have HR := Lib.hid hr; clear hr)
  go_ret
  exact ⟨ret_bool HR.out, hb⟩
/-- what is wrong with a row -/
def badR (p q : Int) (m0 : Nat) (x : Option Addr × Nat × List Int) : Bool := !decide (x.2.2.length = m0) || !(x.2.2.all (hasB p q))
set_option maxHeartbeats 800000 in
theorem areRows1_any (p q g : Int) (rA : Option Addr) (rC : Nat) (rz : List Int) (b off Bb Bg r rc m0 a0c : Nat) (A0 : Option Addr) (W : World) (hI : Ints W rA rz.length rz) (hbx : W.cell? ⟨Bb, 0, none⟩ = some (.slice (some ⟨b, off, none⟩) r rc)) (hr : 0 < r)
    (h0 : W.cell? ⟨b, off, none⟩ = some (.slice A0 m0 a0c)) (k0 : W.cell? ⟨Bg, 0, none⟩ = some (.int .i64 p)) (k1 : W.cell? ⟨Bg, 1, none⟩ = some (.int .i64 q)) (k2 : W.cell? ⟨Bg, 2, none⟩ = some (.int .i64 g))
    (p1 : 3 ≤ p) (p2 : p ≤ 2000000000) (q1 : 2 ≤ q) (q2 : q ≤ p - 1) :
    Calls Try.prog 128 #[.slice rA rz.length rC, .pointer (some ⟨Bb, 0, none⟩), .pointer (some ⟨Bg, 0, none⟩)] W fun e W' => e = .returned (.bool (badR p q m0 (rA, rC, rz))) ∧ Below W.heap.size W W' := by
  have HI := Lib.hid hI
  have hle := hI.le
  have hr0 : (0 : Int) < (r : Int) := by omega
  clear hI
  by_cases hlen : rz.length = m0
  · have hne : ((rz.length : Int) != (m0 : Int)) = false := by simp [hlen]
    have HN := Lib.hid (show badR p q m0 (rA, rC, rz) = !(rz.all (hasB p q)) by simp [badR, hlen])
    clear hlen
    go_enter Try.func128, Try.ntmps128
    go_wp2_with (go_at_call 129; refine (hasAll_any p q g rA rz.length rC rz _ HI.out (by omega) (by omega) (by omega) (by omega)).mono ?_; rintro e w2 ⟨rfl, hb2⟩)
    go_ret
    exact ⟨ret_bool HN.out.symm, hb2⟩
  · have hne : ((rz.length : Int) != (m0 : Int)) = true := by simp; omega
    have HN := Lib.hid (show badR p q m0 (rA, rC, rz) = true by simp [badR, hlen])
    clear hlen
    go_enter Try.func128, Try.ntmps128
    go_wp2
    go_ret
    exact ⟨ret_bool HN.out.symm, Below.refl _ _⟩
theorem enters_areRows1 : ∀ args w, (callFunc 128 args).run Try.prog w = .ok (.enter 128 args) w := enters_of Try.func128 (by kernel_rfl) rfl
set_option maxHeartbeats 1600000 in
theorem areRows_any (p q g : Int) (R : Option Addr) (r rc : Nat) (bs : List (Option Addr × Nat × List Int)) (w : World) (h : Grid w R r bs) (p1 : 3 ≤ p) (p2 : p ≤ 2000000000) (q1 : 2 ≤ q) (q2 : q ≤ p - 1) :
    Calls Try.prog 90 #[.agg #[.int .i64 p, .int .i64 q, .int .i64 g], .slice R r rc] w fun e w' => e = .returned (.bool (sbB p q bs)) ∧ Below w.heap.size w w' := by
  have hl := h.len
  subst hl
  have hle := h.le
  have hmf : ∀ (fn : Fn) (first cap : Array Value) (w : World), (Instr.makeFunc fn first cap).run Try.prog w = .ok (.func fn first cap) w := fun _ _ _ _ => rfl
  have hb0 : Below w.heap.size w ((w.alloc (.cells #[.int .i64 p, .int .i64 q, .int .i64 g] 27)).alloc (.cells #[.slice R bs.length rc] 57)) := belA (belA (Below.refl _ _))
  have HG := Lib.hid (h.below hb0)
  have hz0 : ((w.alloc (.cells #[.int .i64 p, .int .i64 q, .int .i64 g] 27)).alloc (.cells #[.slice R bs.length rc] 57)).heap.size = w.heap.size + 2 := by simp
  clear h
  cases h1 : inB (bs.length : Int) 1 8
  · have HN := Lib.hid (show sbB p q bs = false by rw [sbB, h1]; rfl)
    go_enter Try.func90, Try.ntmps90
    go_wp2_with (go_at_call 70; refine (within_any _ _ _ _).mono ?_; rintro e w' ⟨rfl, rfl⟩; rw [h1])
    go_ret
    exact ⟨ret_bool HN.out.symm, hb0⟩
  · have hr := inB_true h1
    obtain ⟨b, off, eR, hb, hc0, hrow0⟩ := HG.out.at_ (show 0 < bs.length by omega)
    rw [Nat.add_zero] at hc0
    have hle0 := hrow0.le
    have e0 : (bs.getD 0 dRow).2.2 = rowK bs 0 := rfl
    rw [e0] at hc0 hle0
    clear e0 hrow0
    subst eR
    have hpos : (0 : Int) < (bs.length : Int) := by omega
    cases h2 : inB ((rowK bs 0).length : Int) 1 8
    · have HN := Lib.hid (show sbB p q bs = false by rw [sbB, h1, h2]; rfl)
      generalize (rowK bs 0).length = m0 at hc0 h2 hle0
      go_enter Try.func90, Try.ntmps90
      go_wp2_with (go_at_call 70; refine (within_any _ _ _ _).mono ?_; rintro e w' ⟨rfl, rfl⟩; first | rw [h1] | rw [h2])
      go_ret
      exact ⟨ret_bool HN.out.symm, hb0⟩
    · have HSB : Hid (sbB p q bs = !(bs.any (badR p q (rowK bs 0).length))) := Lib.hid (by
        rw [sbB, h1, h2, Bool.true_and, Bool.true_and, List.not_any_eq_all_not]
        congr 1
        funext x
        simp [badR])
      have hp : PaysG 128 #[] #[.pointer (some ⟨w.heap.size + 1, 0, none⟩), .pointer (some ⟨w.heap.size, 0, none⟩)] (badR p q (rowK bs 0).length) bs ((w.alloc (.cells #[.int .i64 p, .int .i64 q, .int .i64 g] 27)).alloc (.cells #[.slice (some ⟨b, off, none⟩) bs.length rc] 57)) := by
        intro W k hk hbW
        have hx0 : ((w.alloc (.cells #[.int .i64 p, .int .i64 q, .int .i64 g] 27)).alloc (.cells #[.slice (some ⟨b, off, none⟩) bs.length rc] 57)).cell? ⟨w.heap.size + 1, 0, none⟩ = some (.slice (some ⟨b, off, none⟩) bs.length rc) := by rw [World.cell?_alloc_at _ _ _ _ (by simp)]; rfl
        have y0 : ((w.alloc (.cells #[.int .i64 p, .int .i64 q, .int .i64 g] 27)).alloc (.cells #[.slice (some ⟨b, off, none⟩) bs.length rc] 57)).cell? ⟨w.heap.size, 0, none⟩ = some (.int .i64 p) := by rw [World.cell?_alloc_past _ _ _ (by simp <;> omega), World.cell?_alloc_at _ _ _ _ (by simp)]; rfl
        have y1 : ((w.alloc (.cells #[.int .i64 p, .int .i64 q, .int .i64 g] 27)).alloc (.cells #[.slice (some ⟨b, off, none⟩) bs.length rc] 57)).cell? ⟨w.heap.size, 1, none⟩ = some (.int .i64 q) := by rw [World.cell?_alloc_past _ _ _ (by simp <;> omega), World.cell?_alloc_at _ _ _ _ (by simp)]; rfl
        have y2 : ((w.alloc (.cells #[.int .i64 p, .int .i64 q, .int .i64 g] 27)).alloc (.cells #[.slice (some ⟨b, off, none⟩) bs.length rc] 57)).cell? ⟨w.heap.size, 2, none⟩ = some (.int .i64 g) := by rw [World.cell?_alloc_past _ _ _ (by simp <;> omega), World.cell?_alloc_at _ _ _ _ (by simp)]; rfl
        exact areRows1_any p q g _ _ _ b off _ _ bs.length rc _ _ _ W ((HG.out.below hbW).row hk) (keepB hbW hx0) (by omega) (keepB hbW hc0) (keepB hbW y0) (keepB hbW y1) (keepB hbW y2) p1 p2 q1 q2
      have H := Lib.hid (ContainsFuncG_any 128 #[] _ enters_areRows1 _ (some ⟨b, off, none⟩) bs.length rc bs _ HG.out hp)
      clear hp
      generalize (rowK bs 0).length = m0 at hc0 h2 hle0 HSB H
      go_enter Try.func90, Try.ntmps90
      go_wp2_with (first | (go_at_call 70; refine (within_any _ _ _ _).mono ?_; rintro e w' ⟨rfl, rfl⟩; first | rw [h1] | rw [h2]) | (go_at_call 127; refine H.out.mono ?_; rintro e w2 ⟨rfl, hb2⟩))
      go_ret
      exact ⟨ret_bool HSB.out.symm, belT hb0 hb2⟩
end Go.Proofs.Yteeggmnkcgpfjaa
