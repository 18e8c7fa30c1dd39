/- Contracts: exponents, powers, products in a group. -/
import Derived.Test.YteeggmnkcgpfjaaGr
import Derived.Deep.RegionHeld3
import Derived.Deep.DrawnRows
import Derived.Deep.RegionWith
namespace Go.Proofs.Yteeggmnkcgpfjaa
open Go.RowKit
set_option linter.unusedVariables false
attribute [local go_sem ↓] Go.wp_at_zero Go.wp_at_succ

/-- a power with any exponent -/
def gpow (p q x e : Int) : Int := pw x (e % q) p
/-- a product -/
def mulK (p : Int) (zs : List Int) : Nat → Int
  | 0 => 1
  | k + 1 => (mulK p zs k * zs.getD k 0) % p
/-- a product of powers -/
def prodK (p q : Int) (zs es : List Int) : Nat → Int
  | 0 => 1
  | k + 1 => (prodK p q zs es k * gpow p q (zs.getD k 0) (es.getD k 0)) % p
theorem mulK_bd {p : Int} (zs : List Int) (hp : 2 ≤ p) : ∀ k, 0 ≤ mulK p zs k ∧ mulK p zs k < p
  | 0 => by simp [mulK]; omega
  | k + 1 => ⟨Int.emod_nonneg _ (by omega), Int.emod_lt_of_pos _ (by omega)⟩
theorem prodK_bd {p q : Int} (zs es : List Int) (hp : 2 ≤ p) : ∀ k, 0 ≤ prodK p q zs es k ∧ prodK p q zs es k < p
  | 0 => by simp [prodK]; omega
  | k + 1 => ⟨Int.emod_nonneg _ (by omega), Int.emod_lt_of_pos _ (by omega)⟩
theorem pw_bd {a e m : Int} (hm : 1 ≤ m) : 0 ≤ pw a e m ∧ pw a e m < m := by
  unfold pw
  have := Nat.mod_lt (a.toNat ^ e.toNat) (show m.toNat > 0 by omega)
  omega
theorem gpow_bd {p q x e : Int} (hp : 1 ≤ p) : 0 ≤ gpow p q x e ∧ gpow p q x e < p := pw_bd hp
theorem mul2 {p a b : Int} (h0 : 0 ≤ a) (h1 : a < p) : mulK p [a, b] 2 = a * b % p := by
  show (1 * a % p * b) % p = a * b % p
  rw [Int.one_mul, Int.emod_eq_of_lt h0 h1]
theorem mul1b {a b m : Int} (ha : 0 ≤ a ∧ a < m) (hb : 0 ≤ b ∧ b < m) (hm : m ≤ 3000000000) : 0 ≤ a * b ∧ a * b ≤ 9000000000000000000 := by
  have h1 : 0 ≤ a * b := Int.mul_nonneg ha.1 hb.1
  have h2 : a * b ≤ 3000000000 * 3000000000 := Int.mul_le_mul (by omega) (by omega) hb.1 (by omega)
  exact ⟨h1, h2⟩
theorem neg_one_mod {q : Int} (h : 2 ≤ q) : (-1) % q = q - 1 := by
  have : (-1 : Int) % q = (-1 + q) % q := (Int.add_emod_right _ _).symm
  rw [this, Int.emod_eq_of_lt (by omega) (by omega)]
  omega
def Small (p : Int) (z : Int) : Prop := 0 ≤ z ∧ z < p
theorem has_small {p q x : Int} (h : hasB p q x = true) : 0 ≤ x ∧ x < p := by
  simp only [hasB, Bool.and_eq_true] at h
  have := inB_true h.1
  omega
theorem all_small {p q : Int} {zs : List Int} (h : zs.all (hasB p q) = true) : ∀ z ∈ zs, Small p z := fun z hz => has_small (List.all_eq_true.1 h z hz)

set_option maxHeartbeats 400000 in
theorem gExps_any (p q g : Int) (A : Option Addr) (n c : Nat) (zs : List Int) (w : World) (h : Ints w A n zs) (q1 : 1 ≤ q) (q2 : q ≤ 3000000000) :
    Calls Try.prog 88 #[.agg #[.int .i64 p, .int .i64 q, .int .i64 g], .slice A n c] w fun e w' => e = .returned (.bool (zs.all fun z => inB z 0 (q - 1))) ∧ Below w.heap.size w w' := by
  have hb0 : Below w.heap.size w (w.alloc (.cells #[.int .i64 p, .int .i64 q, .int .i64 g] 27)) := belA (Below.refl _ _)
  have H := Lib.hid (l1All_any A n c zs 0 (q - 1) _ (h.below hb0))
  clear h
  go_enter Try.func88, Try.ntmps88
  go_wp2_with (go_at_call 76; refine H.out.mono ?_; rintro e w' ⟨rfl, rfl⟩)
  go_ret
  exact ⟨rfl, hb0⟩

set_option maxHeartbeats 400000 in
theorem gExp_any (p q g x e : Int) (w : World) (p1 : 1 ≤ p) (p2 : p ≤ 3000000000) (q1 : 1 ≤ q) (q2 : q ≤ 3000000000) (x0 : 0 ≤ x) (x1 : x < p) :
    Calls Try.prog 62 #[.agg #[.int .i64 p, .int .i64 q, .int .i64 g], .int .i64 x, .int .i64 e] w fun e' w' => e' = .returned (.int .i64 (gpow p q x e)) ∧ Below w.heap.size w w' := by
  have m1 := Int.emod_nonneg e (show q ≠ 0 by omega)
  have m2 := Int.emod_lt_of_pos e (show 0 < q by omega)
  go_enter Try.func62, Try.ntmps62
  go_wp2
  go_quiet ((first | (go_at_call 110; exact Calls.quiet_of_same (quietL (nPower_any _ _ _ _ (by omega) (by omega) (by omega) (by omega)))) | (go_at_call 112; exact Calls.quiet_of_same (quietL (nMod_any _ _ _ (by omega) (by omega))))))
  go_wp2
  go_ret
  exact ⟨rfl, (by repeat (first | exact Below.refl _ _ | assumption | refine belA ?_ | refine belD ?_ | refine belN ?_ | refine belS ?_ (by simp) | refine belT ?_ (by assumption)))⟩
set_option maxHeartbeats 400000 in
theorem pow_any (p q g x e : Int) (w : World) (p1 : 1 ≤ p) (p2 : p ≤ 3000000000) (q1 : 1 ≤ q) (q2 : q ≤ 3000000000) (x0 : 0 ≤ x) (x1 : x < p) :
    Calls Try.prog 169 #[.agg #[.int .i64 p, .int .i64 q, .int .i64 g], .int .i64 x, .int .i64 e] w fun e' w' => e' = .returned (.int .i64 (gpow p q x e)) ∧ Below w.heap.size w w' := by
  have m1 := Int.emod_nonneg e (show q ≠ 0 by omega)
  have m2 := Int.emod_lt_of_pos e (show 0 < q by omega)
  go_enter Try.func169, Try.ntmps169
  go_wp2
  go_quiet ((first | (go_at_call 71; exact Calls.quiet_of_same (quietL (power_any _ _ _ _ (by omega) (by omega) (by omega) (by omega)))) | (go_at_call 175; exact Calls.quiet_of_same (quietL (mod_any _ _ _ (by omega) (by omega))))))
  go_wp2
  go_ret
  exact ⟨rfl, (by repeat (first | exact Below.refl _ _ | assumption | refine belA ?_ | refine belD ?_ | refine belN ?_ | refine belS ?_ (by simp) | refine belT ?_ (by assumption)))⟩


set_option maxHeartbeats 400000 in
theorem gMul_any (p q g : Int) (A : Option Addr) (n c : Nat) (zs : List Int) (w : World) (h : Ints w A n zs) (p1 : 2 ≤ p) (p2 : p ≤ 3000000000) (hs : ∀ z ∈ zs, Small p z) :
    Calls Try.prog 181 #[.agg #[.int .i64 p, .int .i64 q, .int .i64 g], .slice A n c] w fun e' w' => e' = .returned (.int .i64 (mulK p zs n)) ∧ Below w.heap.size w w' := by
  have hn := h.le
  have hb0 : Below w.heap.size w (w.alloc (.cells #[.int .i64 p, .int .i64 q, .int .i64 g] 27)) := belA (Below.refl _ _)
  have HI := Lib.hid (h.below hb0)
  have HS := Lib.hid hs
  clear h hs
  have hne : (p == 0) = false := by simp; omega
  go_enter Try.func181, Try.ntmps181
  go_wp2
  go_loop [5, 10] (fun o i => ∃ k : Nat, k ≤ n ∧ i = .int .i64 k ∧ o = .int .i64 (mulK p zs k)) (fun _ i => n - (intOf i).toNat)
  case atStart => exact ⟨0, by omega, rfl, rfl⟩
  case round =>
    obtain ⟨k, hk, rfl, rfl⟩ := hrel
    by_cases hlt : k < n
    · obtain ⟨b, off, rfl, hb, hc⟩ := HI.out.at_ hlt
      have hz := HS.out _ (getD_mem (d := 0) (show k < zs.length by rw [HI.out.len]; exact hlt))
      obtain ⟨b1, b2⟩ := mul1b (mulK_bd zs p1 k) hz (by omega)
      have hs : mulK p zs (k + 1) = (mulK p zs k * zs.getD k 0) % p := rfl
      obtain ⟨z1, z2⟩ := hz
      generalize zs.getD k 0 = z at hc z1 z2 hs b1 b2
      have HM := Lib.hid hs
      clear hs
      go_wp2
      go_round
      case rel => exact ⟨k + 1, by omega, by go_num, by rw [HM.out]⟩
      case measure => simp [intOf]; omega
    · have e : k = n := by omega
      subst e
      go_wp2
      go_ret
      exact ⟨rfl, hb0⟩
set_option maxHeartbeats 400000 in
theorem mul_any (p q g : Int) (A : Option Addr) (n c : Nat) (zs : List Int) (w : World) (h : Ints w A n zs) (p1 : 2 ≤ p) (p2 : p ≤ 3000000000) (hs : ∀ z ∈ zs, Small p z) :
    Calls Try.prog 63 #[.agg #[.int .i64 p, .int .i64 q, .int .i64 g], .slice A n c] w fun e' w' => e' = .returned (.int .i64 (mulK p zs n)) ∧ Below w.heap.size w w' := by
  have hn := h.le
  have hb0 : Below w.heap.size w (w.alloc (.cells #[.int .i64 p, .int .i64 q, .int .i64 g] 27)) := belA (Below.refl _ _)
  have HI := Lib.hid (h.below hb0)
  have HS := Lib.hid hs
  clear h hs
  have hne : (p == 0) = false := by simp; omega
  go_enter Try.func63, Try.ntmps63
  go_wp2
  go_loop [5, 10] (fun o i => ∃ k : Nat, k ≤ n ∧ i = .int .i64 k ∧ o = .int .i64 (mulK p zs k)) (fun _ i => n - (intOf i).toNat)
  case atStart => exact ⟨0, by omega, rfl, rfl⟩
  case round =>
    obtain ⟨k, hk, rfl, rfl⟩ := hrel
    by_cases hlt : k < n
    · obtain ⟨b, off, rfl, hb, hc⟩ := HI.out.at_ hlt
      have hz := HS.out _ (getD_mem (d := 0) (show k < zs.length by rw [HI.out.len]; exact hlt))
      obtain ⟨b1, b2⟩ := mul1b (mulK_bd zs p1 k) hz (by omega)
      have hs : mulK p zs (k + 1) = (mulK p zs k * zs.getD k 0) % p := rfl
      obtain ⟨z1, z2⟩ := hz
      generalize zs.getD k 0 = z at hc z1 z2 hs b1 b2
      have HM := Lib.hid hs
      clear hs
      go_wp2
      go_round
      case rel => exact ⟨k + 1, by omega, by go_num, by rw [HM.out]⟩
      case measure => simp [intOf]; omega
    · have e : k = n := by omega
      subst e
      go_wp2
      go_ret
      exact ⟨rfl, hb0⟩

set_option maxHeartbeats 400000 in
theorem isExp_any (p q g e : Int) (w : World) (q1 : 1 ≤ q) (q2 : q ≤ 3000000000) :
    Calls Try.prog 130 #[.agg #[.int .i64 p, .int .i64 q, .int .i64 g], .int .i64 e] w fun e' w' => e' = .returned (.bool (inB e 0 (q - 1))) ∧ Below w.heap.size w w' := by
  go_enter Try.func130, Try.ntmps130
  go_wp2_with (first | (go_at_call 70; refine (within_any _ _ _ _).mono ?_; rintro e w' ⟨rfl, rfl⟩))
  go_ret
  exact ⟨rfl, (by repeat (first | exact Below.refl _ _ | assumption | refine belA ?_ | refine belD ?_ | refine belN ?_ | refine belS ?_ (by simp) | refine belT ?_ (by assumption)))⟩

theorem enters_has : ∀ args w, (callFunc 75 args).run Try.prog w = .ok (.enter 75 args) w := enters_of Try.func75 (by kernel_rfl) rfl
set_option maxHeartbeats 400000 in
theorem hasAll_any (p q g : Int) (A : Option Addr) (n c : Nat) (zs : List Int) (w : World) (h : Ints w A n zs) (p1 : 3 ≤ p) (p2 : p ≤ 2000000000) (q1 : 2 ≤ q) (q2 : q ≤ p - 1) :
    Calls Try.prog 129 #[.agg #[.int .i64 p, .int .i64 q, .int .i64 g], .slice A n c] w fun e' w' => e' = .returned (.bool (zs.all (hasB p q))) ∧ Below w.heap.size w w' := by
  have hmf : ∀ (fn : Fn) (first cap : Array Value) (w : World), (Instr.makeFunc fn first cap).run Try.prog w = .ok (.func fn first cap) w := fun _ _ _ _ => rfl
  have hb0 : Below w.heap.size w (w.alloc (.cells #[.int .i64 p, .int .i64 q, .int .i64 g] 27)) := belA (Below.refl _ _)
  have hp : Pays 75 #[.agg #[.int .i64 p, .int .i64 q, .int .i64 g]] #[] (hasB p q) (fun _ => True) (w.alloc (.cells #[.int .i64 p, .int .i64 q, .int .i64 g] 27)) :=
    fun W x hb _ => has_any p q g x W p1 p2 q1 q2
  have H := Lib.hid (areAll_any 75 _ _ enters_has _ (fun _ => True) A n c zs _ (h.below hb0) (fun _ _ => trivial) hp)
  clear hp h
  go_enter Try.func129, Try.ntmps129
  go_wp2_with (go_at_call 119; refine H.out.mono ?_; rintro e w' ⟨rfl, hb⟩)
  go_ret
  exact ⟨rfl, belT hb0 hb⟩
theorem enters_isExp : ∀ args w, (callFunc 130 args).run Try.prog w = .ok (.enter 130 args) w := enters_of Try.func130 (by kernel_rfl) rfl
set_option maxHeartbeats 400000 in
theorem areExps_any (p q g : Int) (A : Option Addr) (n c : Nat) (zs : List Int) (w : World) (h : Ints w A n zs) (q1 : 1 ≤ q) (q2 : q ≤ 3000000000) :
    Calls Try.prog 91 #[.agg #[.int .i64 p, .int .i64 q, .int .i64 g], .slice A n c] w fun e' w' => e' = .returned (.bool (zs.all fun z => inB z 0 (q - 1))) ∧ Below w.heap.size w w' := by
  have hmf : ∀ (fn : Fn) (first cap : Array Value) (w : World), (Instr.makeFunc fn first cap).run Try.prog w = .ok (.func fn first cap) w := fun _ _ _ _ => rfl
  have hb0 : Below w.heap.size w (w.alloc (.cells #[.int .i64 p, .int .i64 q, .int .i64 g] 27)) := belA (Below.refl _ _)
  have hp : Pays 130 #[.agg #[.int .i64 p, .int .i64 q, .int .i64 g]] #[] (fun z => inB z 0 (q - 1)) (fun _ => True) (w.alloc (.cells #[.int .i64 p, .int .i64 q, .int .i64 g] 27)) :=
    fun W x hb _ => isExp_any p q g x W q1 q2
  have H := Lib.hid (areAll_any 130 _ _ enters_isExp _ (fun _ => True) A n c zs _ (h.below hb0) (fun _ _ => trivial) hp)
  clear hp h
  go_enter Try.func91, Try.ntmps91
  go_wp2_with (go_at_call 119; refine H.out.mono ?_; rintro e w' ⟨rfl, hb⟩)
  go_ret
  exact ⟨rfl, belT hb0 hb⟩

set_option maxHeartbeats 1000000 in
theorem gProd_any (p q g : Int) (A : Option Addr) (n c : Nat) (zs : List Int) (A' : Option Addr) (n' c' : Nat) (es : List Int) (w : World) (h : Ints w A n zs) (h' : Ints w A' n' es) (hnn : n ≤ n')
    (p1 : 2 ≤ p) (p2 : p ≤ 3000000000) (q1 : 1 ≤ q) (q2 : q ≤ 3000000000) (hs : ∀ z ∈ zs, Small p z) :
    Calls Try.prog 126 #[.agg #[.int .i64 p, .int .i64 q, .int .i64 g], .slice A n c, .slice A' n' c'] w fun e' w' => e' = .returned (.int .i64 (prodK p q zs es n)) ∧ Below w.heap.size w w' := by
  have hn := h.le
  have hn' := h'.le
  have hb0 : Below w.heap.size w (w.alloc (.cells #[.int .i64 p, .int .i64 q, .int .i64 g] 27)) := belA (Below.refl _ _)
  have HI := Lib.hid (h.below hb0)
  have HI' := Lib.hid (h'.below hb0)
  have HS := Lib.hid hs
  clear h hs h'
  have hne : (p == 0) = false := by simp; omega
  go_enter Try.func126, Try.ntmps126
  go_wp2
  generalize hW0 : w.alloc (.cells #[.int .i64 p, .int .i64 q, .int .i64 g] 27) = W0 at HI HI' hb0
  have hg : W0.cell? ⟨w.heap.size, 0, none⟩ = some (.int .i64 p) ∧ W0.cell? ⟨w.heap.size, 1, none⟩ = some (.int .i64 q) ∧ W0.cell? ⟨w.heap.size, 2, none⟩ = some (.int .i64 g) ∧ w.heap.size < W0.heap.size := by
    subst hW0
    refine ⟨?_, ?_, ?_, ?_⟩ <;> simp [World.cell?_alloc_at]
  have HG := Lib.hid hg
  clear hg hW0
  go_loopw [7, 12] (fun o i wr => ∃ k : Nat, k ≤ n ∧ i = .int .i64 k ∧ o = .int .i64 (prodK p q zs es k) ∧ Hid (Below W0.heap.size W0 wr)) (fun _ i _ => n - (intOf i).toNat)
  case atStart => exact ⟨0, by omega, rfl, rfl, Lib.hid (Below.refl _ _)⟩
  case round =>
    obtain ⟨k, hk, rfl, rfl, HB⟩ := hrel
    by_cases hlt : k < n
    · obtain ⟨b, off, rfl, hb, hc⟩ := (HI.out.below HB.out).at_ hlt
      obtain ⟨b', off', rfl, hb', hc'⟩ := (HI'.out.below HB.out).at_ (k := k) (by omega)
      obtain ⟨g1, g2, g3, g4⟩ := HG.out
      have hsz := HB.out.size
      have k1 := (HB.out.cell (p := ⟨w.heap.size, 0, none⟩) g4).trans g1
      have k2 := (HB.out.cell (p := ⟨w.heap.size, 1, none⟩) g4).trans g2
      have k3 := (HB.out.cell (p := ⟨w.heap.size, 2, none⟩) g4).trans g3
      have k4 : w.heap.size < wr.heap.size := by omega
      clear g1 g2 g3 g4 hsz
      have hz := HS.out _ (getD_mem (d := 0) (show k < zs.length by rw [HI.out.len]; exact hlt))
      have hpw := gpow_bd (p := p) (q := q) (x := zs.getD k 0) (e := es.getD k 0) (by omega)
      obtain ⟨b1, b2⟩ := mul1b (prodK_bd (q := q) zs es p1 k) hpw (by omega)
      have hs : prodK p q zs es (k + 1) = (prodK p q zs es k * gpow p q (zs.getD k 0) (es.getD k 0)) % p := rfl
      obtain ⟨z1, z2⟩ := hz
      obtain ⟨y1, y2⟩ := hpw
      generalize zs.getD k 0 = z at hc z1 z2 hs b1 b2 y1 y2
      generalize es.getD k 0 = e at hc' hs b1 b2 y1 y2
      generalize hgp : gpow p q z e = gp at hs b1 b2 y1 y2
      have hp0 : ¬ p = 0 := by omega
      have hw1 : IntKind.i64.wrap (prodK p q zs es k * gp) = prodK p q zs es k * gp := IntWalk.i64_in _ (by omega)
      have hw2 : (prodK p q zs es k * gp).tmod p = prodK p q zs es k * gp % p := Int.tmod_eq_emod_of_nonneg b1
      have HP := Lib.hid hgp
      have HM := Lib.hid hs
      clear hs hgp
      have i1 : (0 : Int) ≤ (k : Int) := by omega
      have i2 : (k : Int) < (n : Int) := by omega
      have i3 : (k : Int) < (n' : Int) := by omega
      have hB := HB.out
      go_wp2
      go_region_held3 (fun W => W.cell? ⟨w.heap.size, 0, none⟩ = some (.int .i64 p) ∧ W.cell? ⟨w.heap.size, 1, none⟩ = some (.int .i64 q) ∧ W.cell? ⟨w.heap.size, 2, none⟩ = some (.int .i64 g) ∧ W.cell? ⟨b', off' + k, none⟩ = some (.int .i64 e)) (first | (go_split_ands; (repeat' apply And.intro) <;> first | assumption | exact keepB hb1 (by assumption) | (refine keepS (by simp <;> omega) (keepS (by simp <;> omega) ?_); assumption) | (refine keepS (by simp <;> omega) ?_; assumption) | (refine keepB (belA (Below.refl _ _)) ?_; assumption) | go_keep) | go_keep) ((go_at_call 62; refine (gExp_any p q g z e _ (by omega) (by omega) (by omega) (by omega) (by omega) (by omega)).mono ?_; rintro e' w1 ⟨rfl, hb1⟩; obtain ⟨hc1, hf1⟩ := bcell hb1; rw [HP.out]))
      all_goals go_wp2
      all_goals go_roundw
      all_goals first | exact ⟨k + 1, by omega, by go_num, by rw [HM.out], Lib.hid (by repeat (first | exact Below.refl _ _ | assumption | refine belA ?_ | refine belD ?_ | refine belN ?_ | refine belS ?_ (by simp) | refine belT ?_ (by assumption)))⟩ | (simp [intOf]; omega)
    · have e : k = n := by omega
      subst e
      go_wp2
      go_ret
      exact ⟨rfl, belT hb0 HB.out⟩
end Go.Proofs.Yteeggmnkcgpfjaa
