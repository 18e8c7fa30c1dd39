/- Contracts: HashInts, on both sides. -/
import Derived.Test.YteeggmnkcgpfjaaHs
import Derived.Test.YteeggmnkcgpfjaaApI
namespace Go.Proofs.Yteeggmnkcgpfjaa
open Go.RowKit
set_option linter.unusedVariables false

set_option maxHeartbeats 800000 in
theorem hInts_any (A : Option Addr) (n c : Nat) (zs : List Int) (w : World) (h : Ints w A n zs) (hn : n ≤ 1000000) (hd : digsB zs = true) :
    Calls Try.prog 195 #[.slice A n c] w fun e w' => e = .returned (.int .i64 (hashV zs)) ∧ Below w.heap.size w w' := by
  have hl := h.len
  subst hl
  have HI := Lib.hid h
  have HD := Lib.hid hd
  have h12 : Sm 1 ∧ Sm 2 := by simp [Sm]
  have HS : Hid (St (w.alloc (.cells #[.int .i64 1, .int .i64 2] 178)) w.heap.size 1 2) := Lib.hid ⟨(by rw [World.cell?_alloc_at _ _ _ _ (by simp)]; rfl), (by rw [World.cell?_alloc_at _ _ _ _ (by simp)]; rfl), World.frozen?_alloc_at _ _ _ _ rfl, World.frozen?_alloc_at _ _ _ _ rfl⟩
  clear h hd
  go_enter Try.func195, Try.ntmps195
  go_wp2_with fail
  refine (absorb_any w.heap.size 1 2 zs.length _ HS.out h12.1 h12.2 (by omega) (by omega)).mono ?_
  rintro e w1 ⟨rfl, hS, hg⟩
  have hB : Below w.heap.size w w1 := (belA (Below.refl _ _)).grown hg (by simp) (by intro k hk; injection hk with hk; omega)
  have H1 := Lib.hid hS
  have H2 := Lib.hid hB
  clear hS hg hB
  go_wp2
  go_loopw [14] (fun i wr => ∃ k : Nat, k ≤ zs.length ∧ i = .int .i64 k ∧ Hid (St wr w.heap.size (hsK ((zs.length : Int) :: zs) (k + 1)).1 (hsK ((zs.length : Int) :: zs) (k + 1)).2) ∧ Hid (Below w.heap.size w wr)) (fun i _ => zs.length - (intOf i).toNat)
  case atStart => exact ⟨0, by omega, rfl, H1, H2⟩
  case round =>
    obtain ⟨k, hk, rfl, H3, H4⟩ := hrel
    by_cases hlt : k < zs.length
    · obtain ⟨b, off, rfl, hb, hc⟩ := (HI.out.below H4.out).at_ hlt
      have hz := digs_bd HD.out hlt
      have hsm := hsK_bd ((zs.length : Int) :: zs) (k + 1)
      have e1 : (hsK ((zs.length : Int) :: zs) (k + 1 + 1)) = (absK 48271 (hsK ((zs.length : Int) :: zs) (k + 1)).1 (zs.getD k 0) 2, absK 69621 (hsK ((zs.length : Int) :: zs) (k + 1)).2 (zs.getD k 0) 2) := rfl
      generalize hsK ((zs.length : Int) :: zs) (k + 1) = st at H3 hsm e1
      obtain ⟨s, t⟩ := st
      generalize zs.getD k 0 = z at hc hz e1
      have E1 := Lib.hid e1
      have HM := Lib.hid hsm
      obtain ⟨z0, z1⟩ := hz
      have i1 : (0 : Int) ≤ (k : Int) := by omega
      have i2 : (k : Int) < (zs.length : Int) := by omega
      clear e1 hsm
      go_wp2_with fail
      refine (absorb_any w.heap.size s t z _ H3.out HM.out.1 HM.out.2 z0 z1).mono ?_
      rintro e w2 ⟨rfl, hS, hg⟩
      have H5 := Lib.hid hS
      have H6 := Lib.hid (H4.out.grown hg H4.out.size (by intro k hk; injection hk with hk; omega))
      clear hS hg
      go_wp2
      go_roundw
      case rel => exact ⟨k + 1, by omega, by go_num, Lib.hid (by rw [E1.out]; exact H5.out), H6⟩
      case measure => simp [intOf]; omega
    · have e : k = zs.length := by omega
      subst e
      have hsm := hsK_bd ((zs.length : Int) :: zs) (zs.length + 1)
      have e1 : hashV zs = (hsK ((zs.length : Int) :: zs) (zs.length + 1)).1 * 2147483648 + (hsK ((zs.length : Int) :: zs) (zs.length + 1)).2 := rfl
      generalize hsK ((zs.length : Int) :: zs) (zs.length + 1) = st at H3 hsm e1
      obtain ⟨s, t⟩ := st
      obtain ⟨⟨s0, s1⟩, t0, t1⟩ := hsm
      simp only at s0 s1 t0 t1
      obtain ⟨c0, c1, f0, f1⟩ := H3.out
      simp only at c0 c1
      have hw1 : IntKind.i64.wrap (s * 2147483648) = s * 2147483648 := IntWalk.i64_in _ (by omega)
      have hw2 : IntKind.i64.wrap (s * 2147483648 + t) = s * 2147483648 + t := IntWalk.i64_in _ (by omega)
      have E1 := Lib.hid e1
      clear e1 f0 f1
      go_wp2
      go_quiet (fail)
      go_wp2
      go_ret
      exact ⟨ret_int E1.out.symm, belN H4.out⟩

theorem and_mask (x : Int) (h0 : 0 ≤ x) (h1 : x ≤ 4611686018427387903) : bits .and .i64 x 2147483647 = x % 2147483648 := by
  obtain ⟨n, rfl⟩ := Int.eq_ofNat_of_zero_le h0
  have h := land_i64 n 2147483647 (by omega) (by omega)
  have e : n &&& 2147483647 = n % 2147483648 := Nat.and_two_pow_sub_one_eq_mod n 31
  rw [e] at h
  rw [show ((2147483647 : Int)) = ((2147483647 : Nat) : Int) from rfl, h]
  rfl

set_option maxHeartbeats 1600000 in
theorem hash_any (A : Option Addr) (n c : Nat) (zs : List Int) (w : World) (h : Ints w A n zs) (hn : n ≤ 1000000) (hd : digsB zs = true) :
    Calls Try.prog 201 #[.slice A n c] w fun e w' => e = .returned (.int .i64 (hashV zs)) ∧ Below w.heap.size w w' := by
  have hl := h.len
  subst hl
  have HI := Lib.hid h
  have HD := Lib.hid hd
  clear h hd
  go_enter Try.func201, Try.ntmps201
  go_wp2_with (at_builtin; refine appI rfl _ _ rfl rfl rfl (HI.out.below (belA (Below.refl _ _))) (own_lit1 w w.heap.size _ (Nat.le_refl _)) (by omega) (by simp) ?_; intro A' c' w1 hown hg)
  have hB := own_below (belA (Below.refl _ _)) (by simp) (own_lit1 w w.heap.size zs.length (Nat.le_refl _)) hg
  have H1 := Lib.hid (Ints.of_own hown)
  have H2 := Lib.hid hB
  clear hown hg hB
  go_wp2
  go_loop [3, 4, 15] (fun s t i => ∃ k : Nat, k ≤ 1 + zs.length ∧ i = .int .i64 k ∧ s = .int .i64 (hsK ((zs.length : Int) :: zs) k).1 ∧ t = .int .i64 (hsK ((zs.length : Int) :: zs) k).2) (fun _ _ i => 1 + zs.length - (intOf i).toNat)
  case atStart => exact ⟨0, by omega, rfl, rfl, rfl⟩
  case round =>
    obtain ⟨k, hk, rfl, rfl, rfl⟩ := hrel
    by_cases hlt : k < 1 + zs.length
    · have H1' : Ints w1 A' (1 + zs.length) ((zs.length : Int) :: zs) := H1.out
      obtain ⟨b, off, rfl, hb, hc⟩ := H1'.at_ hlt
      clear H1'
      have hz : 0 ≤ ((zs.length : Int) :: zs).getD k 0 ∧ ((zs.length : Int) :: zs).getD k 0 ≤ 4611686018427387903 := by
        cases k with
        | zero => simp; omega
        | succ j => rw [List.getD_cons_succ]; exact digs_bd HD.out (by omega)
      have hsm := hsK_bd ((zs.length : Int) :: zs) k
      have e1 : (hsK ((zs.length : Int) :: zs) (k + 1)) = (absK 48271 (hsK ((zs.length : Int) :: zs) k).1 (((zs.length : Int) :: zs).getD k 0) 2, absK 69621 (hsK ((zs.length : Int) :: zs) k).2 (((zs.length : Int) :: zs).getD k 0) 2) := rfl
      generalize hsK ((zs.length : Int) :: zs) k = st at hsm e1
      obtain ⟨s, t⟩ := st
      obtain ⟨⟨s0, s1⟩, t0, t1⟩ := hsm
      simp only at s0 s1 t0 t1
      generalize ((zs.length : Int) :: zs).getD k 0 = z at hc hz e1
      obtain ⟨z0, z1⟩ := hz
      have hand := and_mask z z0 z1
      have E1 := Lib.hid e1
      have i1 : (0 : Int) ≤ (k : Int) := by omega
      have i2 : (k : Int) < 1 + (zs.length : Int) := by omega
      clear e1
      go_wp2
      go_round
      case rel => exact ⟨k + 1, by omega, by go_num, by rw [E1.out]; rfl, by rw [E1.out]; rfl⟩
      case measure => simp [intOf]; omega
    · have e : k = 1 + zs.length := by omega
      subst e
      have hsm := hsK_bd ((zs.length : Int) :: zs) (1 + zs.length)
      have e1 : hashV zs = (hsK ((zs.length : Int) :: zs) (1 + zs.length)).1 * 2147483648 + (hsK ((zs.length : Int) :: zs) (1 + zs.length)).2 := by rw [Nat.add_comm 1]; rfl
      generalize hsK ((zs.length : Int) :: zs) (1 + zs.length) = st at hsm e1
      obtain ⟨s, t⟩ := st
      obtain ⟨⟨s0, s1⟩, t0, t1⟩ := hsm
      simp only at s0 s1 t0 t1
      have E1 := Lib.hid e1
      clear e1
      go_wp2
      go_ret
      exact ⟨ret_int E1.out.symm, H2.out⟩

set_option maxHeartbeats 400000 in
theorem isDigest_any (z : Int) (w : World) :
    Calls Try.prog 120 #[.int .i64 z] w fun e w' => e = .returned (.bool (digB z)) ∧ w = w' := by
  go_enter Try.func120, Try.ntmps120
  go_wp2_with (first | (go_at_call 70; refine (within_any _ _ _ _).mono ?_; rintro e w' ⟨rfl, rfl⟩))
  go_ret
  exact ⟨rfl, rfl⟩
theorem enters_isDigest : ∀ args w, (callFunc 120 args).run Try.prog w = .ok (.enter 120 args) w := enters_of Try.func120 (by kernel_rfl) rfl
set_option maxHeartbeats 400000 in
theorem areDigests_any (A : Option Addr) (n c : Nat) (zs : List Int) (w : World) (h : Ints w A n zs) :
    Calls Try.prog 200 #[.slice A n c] w fun e w' => e = .returned (.bool (decide (n ≤ 400) && digsB zs)) ∧ Below w.heap.size w w' := by
  have hp : Pays 120 #[] #[] digB (fun _ => True) w := fun W x hb _ => (isDigest_any x W).mono fun e w' hh => ⟨hh.1, by rw [← hh.2]; exact Below.refl _ _⟩
  have H := Lib.hid (areAll_any 120 _ _ enters_isDigest _ (fun _ => True) A n c zs _ h (fun _ _ => trivial) hp)
  have hle := h.le
  clear hp h
  by_cases hn : n ≤ 400
  · have hd : decide (n ≤ 400) = true := by simp [hn]
    have hd' : decide ((n : Int) ≤ 400) = true := by simp; omega
    have HD := Lib.hid hd
    clear hd
    go_enter Try.func200, Try.ntmps200
    go_wp2_with (go_at_call 119; refine H.out.mono ?_; rintro e w' ⟨rfl, hb⟩)
    go_ret
    exact ⟨ret_bool (by rw [HD.out]; rfl), hb⟩
  · have hd : decide (n ≤ 400) = false := by simp [hn]
    have hd' : decide ((n : Int) ≤ 400) = false := by simp; omega
    have HD := Lib.hid hd
    clear hd
    go_enter Try.func200, Try.ntmps200
    go_wp2
    go_ret
    exact ⟨ret_bool (by rw [HD.out]; rfl), Below.refl _ _⟩

def hiM (zs : List Int) : Int × Bool := if decide (zs.length ≤ 400) && digsB zs then (hashV zs, true) else (0, false)
theorem hi_of {zs : List Int} (h : (decide (zs.length ≤ 400) && digsB zs) = true) : zs.length ≤ 400 ∧ digsB zs = true := by simpa using h
set_option maxHeartbeats 400000 in
theorem iHashInts_any (A : Option Addr) (n c : Nat) (zs : List Int) (w : World) (h : Ints w A n zs) :
    Calls Try.prog 197 #[.slice A n c] w fun e w' => e = .returned (.tuple #[.int .i64 (hiM zs).1, .bool (hiM zs).2]) ∧ Below w.heap.size w w' := by
  have hl := h.len
  subst hl
  have HI := Lib.hid h
  clear h
  go_enter Try.func197, Try.ntmps197
  go_wp2_with fail
  refine (areDigests_any A zs.length c zs _ HI.out).mono ?_
  rintro e w1_ ⟨rfl, hb1⟩
  have hW := hb1
  obtain ⟨hc, hf⟩ := bcell hW
  cases q1 : (decide (zs.length ≤ 400) && digsB zs)
  · go_wp2
    go_ret2
    exact ⟨ret_ib (by rw [hiM, q1]; rfl), hW⟩
  obtain ⟨z1, z2⟩ := hi_of q1
  go_wp2_with fail
  refine (hash_any A zs.length c zs _ (HI.out.below hW) (by omega) z2).mono ?_
  rintro e w2_ ⟨rfl, hb2⟩
  clear hc hf
  replace hW := belT hW hb2
  obtain ⟨hc, hf⟩ := bcell hW
  go_wp2
  go_ret2
  exact ⟨ret_ib (by rw [hiM, q1]; rfl), hW⟩
end Go.Proofs.Yteeggmnkcgpfjaa
