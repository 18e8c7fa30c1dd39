/- Contracts: slices of ciphertexts that are checked. -/
import Derived.Test.YtemhjhaokbgldaaMu
namespace Go.Proofs.Ytemhjhaokbgldaa
open Go.RowKit
set_option linter.unusedVariables false

def PaysC (g : Nat) (fi lb : Array Value) (p : Int × Int → Bool) (w : World) : Prop :=
  ∀ (W : World) (u v : Int), Below w.heap.size w W → Calls Try.prog g (fi ++ #[.agg #[.int .i64 u, .int .i64 v]] ++ lb) W fun e W' => e = .returned (.bool (p (u, v))) ∧ Below W.heap.size W W'

set_option maxHeartbeats 400000 in
theorem IndexFuncC_any (g : Nat) (fi lb : Array Value) (eg : ∀ args w, (callFunc g args).run Try.prog w = .ok (.enter g args) w) (p : Int × Int → Bool)
    (A : Option Addr) (n c : Nat) (l : List (Int × Int)) (w : World) (h : Cips w A n l) (hp : PaysC g fi lb p w) :
    Calls Try.prog 117 #[.slice A n c, .func (.func g) fi lb] w (IdxPost (l.any p) w) := by
  have hn := h.le
  have HI := Lib.hid h
  have HP := Lib.hid hp
  clear h hp
  go_enter Try.func117, Try.ntmps117
  go_wp2
  go_loopw [8] (fun i wr => ∃ k : Nat, k ≤ n ∧ i = .int .i64 k ∧ Hid (Below w.heap.size w wr) ∧ Hid (∀ j, j < k → p (l.getD j (0, 0)) = false)) (fun i _ => n - (intOf i).toNat)
  case atStart => exact ⟨0, by omega, rfl, Lib.hid (Below.refl _ _), Lib.hid fun j hj => absurd hj (by omega)⟩
  case round =>
    obtain ⟨k, hk, rfl, HB, HK⟩ := hrel
    by_cases hlt : k < n
    · obtain ⟨b, off, rfl, hb, hc, hc'⟩ := (HI.out.below HB.out).at_ hlt
      have hcall := HP.out wr (l.getD k (0, 0)).1 (l.getD k (0, 0)).2 HB.out
      generalize hz : l.getD k (0, 0) = z at hc hc' hcall
      have HZ := Lib.hid hz
      clear hz
      obtain ⟨u, v⟩ := z
      simp only at hc hc' hcall
      have HC := Lib.hid hcall
      have i1 : (0 : Int) ≤ (k : Int) := by omega
      have i2 : (k : Int) < (n : Int) := by omega
      clear hcall
      cases hin : p (u, v)
      · go_wp2_with (go_at_fn g; refine HC.out.mono ?_; rintro e w' ⟨rfl, hb'⟩)
        go_roundw
        case rel => exact ⟨k + 1, by omega, by go_num, Lib.hid (belT HB.out hb'), Lib.hid (upto_succ HK.out (by rw [HZ.out]; exact hin))⟩
        case measure => simp [intOf]; omega
      · go_wp2_with (go_at_fn g; refine HC.out.mono ?_; rintro e w' ⟨rfl, hb'⟩)
        go_ret
        exact ⟨k, rfl, by rw [any_yes (d := (0, 0)) (p := p) HI.out.len hlt (by rw [HZ.out]; exact hin)]; simp, belT HB.out hb'⟩
    · have e : k = n := by omega
      subst e
      go_wp2
      go_ret
      exact ⟨-1, rfl, by rw [any_no (d := (0, 0)) (p := p) HI.out.len HK.out]; rfl, HB.out⟩

set_option maxHeartbeats 400000 in
theorem ContainsFuncC_any (g : Nat) (fi lb : Array Value) (eg : ∀ args w, (callFunc g args).run Try.prog w = .ok (.enter g args) w) (p : Int × Int → Bool)
    (A : Option Addr) (n c : Nat) (l : List (Int × Int)) (w : World) (h : Cips w A n l) (hp : PaysC g fi lb p w) :
    Calls Try.prog 106 #[.slice A n c, .func (.func g) fi lb] w fun e w' => e = .returned (.bool (l.any p)) ∧ Below w.heap.size w w' := by
  have H := Lib.hid (IndexFuncC_any g fi lb eg p A n c l w h hp)
  clear h hp eg
  go_enter Try.func106, Try.ntmps106
  go_wp2_with (go_at_call 117; refine H.out.mono ?_; rintro e w' ⟨r, rfl, hr, hb⟩; have HR := Lib.hid hr; clear hr)
  go_ret
  exact ⟨ret_bool HR.out, hb⟩

set_option maxHeartbeats 400000 in
theorem notCipher_any (p q g u v : Int) (B : Nat) (W : World) (k1 : W.cell? ⟨B, 0, none⟩ = some (.int .i64 p)) (k2 : W.cell? ⟨B, 1, none⟩ = some (.int .i64 q)) (k3 : W.cell? ⟨B, 2, none⟩ = some (.int .i64 g))
    (h1 : 3 ≤ p) (h2 : p ≤ 2000000000) (h3 : 2 ≤ q) (h4 : q ≤ p - 1) :
    Calls Try.prog 107 #[.agg #[.int .i64 u, .int .i64 v], .pointer (some ⟨B, 0, none⟩)] W fun e W' => e = .returned (.bool (!(hasC p q (u, v)))) ∧ Below W.heap.size W W' := by
  have hz := World.block_lt_of_cell? _ _ k1
  simp only at hz
  go_enter Try.func107, Try.ntmps107
  go_wp2_with fail
  refine (hasCipher_any p q g u v _ h1 h2 h3 h4).mono ?_
  rintro e w1_ ⟨rfl, hb1⟩
  have hW := hb1
  obtain ⟨hc, hf⟩ := bcell hW
  go_wp2
  go_ret
  exact ⟨rfl, belT (by repeat (first | exact Below.refl _ _ | assumption | refine belA ?_ | refine belD ?_ | refine belN ?_ | refine belS ?_ (by simp) | refine belT ?_ (by assumption))) hW⟩
theorem enters_hasCiphers1 : ∀ args w, (callFunc 107 args).run Try.prog w = .ok (.enter 107 args) w := enters_of Try.func107 (by kernel_rfl) rfl

set_option maxHeartbeats 400000 in
theorem hasCiphers_any (p q g : Int) (A : Option Addr) (n c : Nat) (l : List (Int × Int)) (w : World) (h : Cips w A n l) (h1 : 3 ≤ p) (h2 : p ≤ 2000000000) (h3 : 2 ≤ q) (h4 : q ≤ p - 1) :
    Calls Try.prog 77 #[.agg #[.int .i64 p, .int .i64 q, .int .i64 g], .slice A n c] w fun e w' => e = .returned (.bool (decide (n ≤ 24) && l.all (hasC p q))) ∧ Below w.heap.size w w' := by
  have hmf : ∀ (fn : Fn) (first cap : Array Value) (w : World), (Instr.makeFunc fn first cap).run Try.prog w = .ok (.func fn first cap) w := fun _ _ _ _ => rfl
  have hn := h.le
  have hb0 : Below w.heap.size w (w.alloc (.cells #[.int .i64 p, .int .i64 q, .int .i64 g] 28)) := belA (Below.refl _ _)
  have hp : PaysC 107 #[] #[.pointer (some ⟨w.heap.size, 0, none⟩)] (fun c => !(hasC p q c)) (w.alloc (.cells #[.int .i64 p, .int .i64 q, .int .i64 g] 28)) := by
    intro W u v hb
    exact notCipher_any p q g u v _ W (keepB hb (by rw [World.cell?_alloc_at _ _ _ _ (by simp)]; rfl)) (keepB hb (by rw [World.cell?_alloc_at _ _ _ _ (by simp)]; rfl)) (keepB hb (by rw [World.cell?_alloc_at _ _ _ _ (by simp)]; rfl)) h1 h2 h3 h4
  have H := Lib.hid (ContainsFuncC_any 107 #[] _ enters_hasCiphers1 _ A n c l _ (h.below hb0) hp)
  clear hp h
  by_cases hl : n ≤ 24
  · have hd : decide (n ≤ 24) = true := by simp [hl]
    have hd' : decide ((n : Int) ≤ 24) = true := by simp; omega
    have HD := Lib.hid hd
    clear hd
    go_enter Try.func77, Try.ntmps77
    go_wp2_with (go_at_call 106; refine H.out.mono ?_; rintro e w' ⟨rfl, hb⟩)
    go_ret
    exact ⟨ret_bool (by rw [HD.out, ← List.not_all_eq_any_not, Bool.not_not]; rfl), belT hb0 hb⟩
  · have hd : decide (n ≤ 24) = false := by simp [hl]
    have hd' : decide ((n : Int) ≤ 24) = false := by simp; omega
    have HD := Lib.hid hd
    clear hd
    go_enter Try.func77, Try.ntmps77
    go_wp2
    go_ret
    exact ⟨ret_bool (by rw [HD.out]; rfl), (by repeat (first | exact Below.refl _ _ | assumption | refine belA ?_ | refine belD ?_ | refine belN ?_ | refine belS ?_ (by simp) | refine belT ?_ (by assumption)))⟩
end Go.Proofs.Ytemhjhaokbgldaa
