/- Contracts: a list written as a text, on both sides. -/
import Derived.Test.YtaehldfhjfchhaaDoorRc
import Derived.Test.YtaehldfhjfchhaaDoorBy
import Derived.Test.YtaehldfhjfchhaaDoorShelfF
import Derived.Deep.RegionHeld3
import Derived.Deep.DrawnRows
namespace Go.Proofs.YtaehldfhjfchhaaDoor
open Go.RowKit
set_option linter.unusedVariables false
attribute [local go_sem ↓] Go.wp_at_zero Go.wp_at_succ
set_option linter.unusedSimpArgs false

theorem heldTake {P : Program} {md : Region.Mode} {ops : Array Oper} {Q : Exit → Act → World → Prop} {S : World → Prop} {i k : Nat} {oi : Oper} {v : Value} {l : Array Bool} {a : Act} {w : World} (d : Option Tmp) (hi : ops[i]? = some oi) (hd : oi.dst = d)
    (hs : Region.noSelect ops = true) (hf : Region.free md ops l i = true) (hr : (Region.ready md ops l).contains i = true) (hQ : ∀ c a w, Q (.panic c) (a.put d v) w → Q (.panic c) a w)
    (hy : YieldsIf P ops S oi v a) (hS : S w) (h : wpAnyH P md ops Q S k (l.setIfInBounds i true) (a.put d v) w) : wpAnyH P md ops Q S (k + 1) l a w := by
  subst hd
  exact wpAnyH_take hi hs hf hr hQ hy hS h

theorem ret_str {a b : ByteArray} (h : a = b) : Ending.returned (.string a) = .returned (.string b) := by rw [h]
theorem wrap_u8_small {x : Int} (h0 : 0 ≤ x) (h1 : x ≤ 255) : IntKind.u8.wrap x = x := by
  rw [IntKind.wrap_u8]
  omega
/-- the decimal digits of a number, as a text -/
def numS (z : Nat) : ByteArray := ⟨(Lib.decDigits z).toArray⟩
theorem dec_len : ∀ (k u : Nat), u < 10 ^ (k + 1) → (Lib.decDigits u).length ≤ k + 1
  | 0, u, h => by
    rw [Lib.decDigits, dif_pos (by simpa using h)]
    simp
  | k + 1, u, h => by
    rw [Lib.decDigits]
    split
    · simp
    · rw [List.length_append]
      have := dec_len k (u / 10) (by rw [Nat.pow_succ] at h; omega)
      simp
      omega
theorem numS_size {z : Nat} (h : z ≤ 9223372036854775807) : (numS z).size ≤ 19 := by
  have := dec_len 18 z (by omega)
  simpa [numS, ByteArray.size] using this
theorem numS_small {z : Nat} (h : z < 10) : numS z = strOfNums [(48 + z : Int)] := by
  rw [numS, Lib.decDigits, dif_pos h]
  show _ = (⟨([(48 + z : Int)].map fun n => UInt8.ofNat n.toNat).toArray⟩ : ByteArray)
  simp only [List.map_cons, List.map_nil]
  congr 3
theorem ba_append (a b : List UInt8) : (⟨(a ++ b).toArray⟩ : ByteArray) = (⟨a.toArray⟩ : ByteArray) ++ ⟨b.toArray⟩ := by
  apply ByteArray.ext
  simp
theorem numS_big {z : Nat} (h : ¬ z < 10) : numS z = numS (z / 10) ++ strOfNums [(48 + (z % 10 : Nat) : Int)] := by
  rw [numS, Lib.decDigits, dif_neg h, ba_append]
  show _ ++ _ = _ ++ (⟨([(48 + (z % 10 : Nat) : Int)].map fun n => UInt8.ofNat n.toNat).toArray⟩ : ByteArray)
  simp only [List.map_cons, List.map_nil]
  congr 4
theorem conv1 (W : World) (b : Nat) (d : Int) (h : W.cell? ⟨b, 0, none⟩ = some (.int .u8 d)) : (convert 50 9 (.slice (some ⟨b, 0, none⟩) 1 1)).run Tryd.prog W = .ok (.string (strOfNums [d])) W :=
  run_convert_bytes_arg W 50 5 Tryd.underlying50 Tryd.underlying5 b 0 1 1 [d] rfl (fun i hi => by
    have : i = 0 := by simp at hi; omega
    subst this
    exact h) 9 Tryd.underlying9
set_option maxRecDepth 100000 in
set_option maxHeartbeats 4000000 in
theorem l1Num_any (z : Nat) : ∀ (w : World), z ≤ 9223372036854775807 →
    Calls Tryd.prog 30 #[.int .i64 (z : Int)] w fun e w' => e = .returned (.string (numS z)) ∧ Below w.heap.size w w' := by
  induction z using Nat.strongRecOn with
  | _ z ih =>
    intro w hz
    by_cases h10 : z < 10
    · have HN := Lib.hid (numS_small h10)
      have hd : decide ((z : Int) < 10) = true := by simp; omega
      have hw1 : IntKind.i64.wrap (48 + (z : Int)) = 48 + z := by rw [IntKind.wrap_i64]; omega
      have hw8 : IntKind.u8.wrap (48 + (z : Int)) = 48 + z := wrap_u8_small (by omega) (by omega)
      have hcv := conv1 (w.alloc (.cells #[.int .u8 (48 + (z : Int))] 5)) w.heap.size (48 + z) (by rw [World.cell?_alloc_at _ _ _ _ (by simp)]; rfl)
      clear ih
      go_enter Tryd.func30, Tryd.ntmps30
      go_wp2
      go_ret
      exact ⟨ret_str HN.out.symm, belA (Below.refl _ _)⟩
    · have HN := Lib.hid (numS_big h10)
      have hd : decide ((z : Int) < 10) = false := by simp; omega
      have hq : (z : Int).tdiv 10 = ((z / 10 : Nat) : Int) := by rw [Int.tdiv_eq_ediv_of_nonneg (by omega)]; omega
      have hr : (z : Int).tmod 10 = ((z % 10 : Nat) : Int) := by rw [Int.tmod_eq_emod_of_nonneg (by omega)]; omega
      have HI := Lib.hid (ih (z / 10) (by omega))
      have hqz : z / 10 ≤ 9223372036854775807 := by omega
      have hsz := numS_size hqz
      have hr0 : ((z % 10 : Nat) : Int) < 10 := by omega
      have hr1 : (0 : Int) ≤ ((z % 10 : Nat) : Int) := by omega
      generalize ((z % 10 : Nat) : Int) = r at HN hr hr0 hr1
      generalize z / 10 = y at HN hq HI hqz hsz
      have hw1 : IntKind.i64.wrap (48 + r) = 48 + r := by rw [IntKind.wrap_i64]; omega
      have hw2 : IntKind.i64.wrap r = r := by rw [IntKind.wrap_i64]; omega
      have hw3 : IntKind.i64.wrap (y : Int) = y := by rw [IntKind.wrap_i64]; omega
      have hs1 : (strOfNums [48 + r]).size = 1 := rfl
      have hsz2 : (numS y).size + (strOfNums [48 + r]).size ≤ 9223372036854775807 := by omega
      have hw8 : IntKind.u8.wrap (48 + r) = 48 + r := wrap_u8_small (by omega) (by omega)
      clear ih
      go_enter Tryd.func30, Tryd.ntmps30
      go_wp2
      refine wp_region_held_drew (S := fun W => Below w.heap.size w W) (by kernel_rfl) (belD (Below.refl _ _)) (fun hHeld => ?_)
      refine heldTake (i := 0) (v := ?_) (some 10) rfl rfl (by kernel_rfl) (by kernel_rfl) (by kernel_rfl) (fun _ _ _ h => h) (Or.inl ⟨by rfl, ?_⟩) (by assumption) ?_
      rotate_left
      · (intro W hSw; clear hSw; go_simp; all_goals first | with_reducible rfl | omega | (simp [*]; done) | (intro hh; exfalso; omega) | fail)
      try simp only [Act.put, List.setIfInBounds_toArray, List.set_cons_zero, List.set_cons_succ]
      refine heldTake (i := 1) (v := .int .i64 (y : Int)) (some 11) rfl rfl (by kernel_rfl) (by kernel_rfl) (by kernel_rfl) (fun _ _ _ h => h) (Or.inl ⟨by rfl, ?_⟩) (by assumption) ?_
      · (intro W hSw; clear hSw; go_simp; all_goals first | with_reducible rfl | omega | (simp [*]; done) | (intro hh; exfalso; omega) | fail)
      try simp only [Act.put, List.setIfInBounds_toArray, List.set_cons_zero, List.set_cons_succ]
      refine heldTake (i := 3) (v := ?_) (some 13) rfl rfl (by kernel_rfl) (by kernel_rfl) (by kernel_rfl) (fun _ _ _ h => h) (Or.inl ⟨by rfl, ?_⟩) (by assumption) ?_
      rotate_left
      · (intro W hSw; clear hSw; go_simp; all_goals first | with_reducible rfl | omega | (simp [*]; done) | (intro hh; exfalso; omega) | fail)
      try simp only [Act.put, List.setIfInBounds_toArray, List.set_cons_zero, List.set_cons_succ]
      refine heldTake (i := 4) (v := .int .i64 r) (some 14) rfl rfl (by kernel_rfl) (by kernel_rfl) (by kernel_rfl) (fun _ _ _ h => h) (Or.inl ⟨by rfl, ?_⟩) (by assumption) ?_
      · (intro W hSw; clear hSw; go_simp; all_goals first | with_reducible rfl | omega | (simp [*]; done) | (intro hh; exfalso; omega) | fail)
      try simp only [Act.put, List.setIfInBounds_toArray, List.set_cons_zero, List.set_cons_succ]
      refine heldTake (i := 5) (v := .int .i64 (48 + r)) (some 15) rfl rfl (by kernel_rfl) (by kernel_rfl) (by kernel_rfl) (fun _ _ _ h => h) (Or.inl ⟨by rfl, ?_⟩) (by assumption) ?_
      · (intro W hSw; clear hSw; go_simp; all_goals first | with_reducible rfl | omega | (simp [*]; done) | (intro hh; exfalso; omega) | fail)
      try simp only [Act.put, List.setIfInBounds_toArray, List.set_cons_zero, List.set_cons_succ]
      refine heldTake (i := 6) (v := .int .u8 (48 + r)) (some 16) rfl rfl (by kernel_rfl) (by kernel_rfl) (by kernel_rfl) (fun _ _ _ h => h) (Or.inl ⟨by rfl, ?_⟩) (by assumption) ?_
      · (intro W hSw; clear hSw; go_simp; all_goals first | with_reducible rfl | omega | (simp [*]; done) | (intro hh; exfalso; omega) | fail)
      try simp only [Act.put, List.setIfInBounds_toArray, List.set_cons_zero, List.set_cons_succ]
      refine wpAnyH_ready (rs := [2, 7]) (by kernel_rfl) (by simp) ?_
      refine AllReadyH.cons rfl (fun K hK => ?_) (AllReadyH.cons rfl (fun K hK => ?_) AllReadyH.nil)
      · go_simp
        (go_at_call 30; refine (HI.out _ hqz).mono ?_; rintro e w1 ⟨rfl, hb1⟩)
        have hNx := belT hHeld hb1
        refine hK.out _ _ hNx (fun hNew => ?_)
        clear hK K hHeld hNx
        have hHeld := hNew; clear hNew
        try simp only [Act.put, List.setIfInBounds_toArray, List.set_cons_zero, List.set_cons_succ]
        clear hb1
        refine wpAnyH_ready (rs := [7]) (by kernel_rfl) (by simp) ?_
        refine AllReadyH.cons rfl (fun K hK => ?_) AllReadyH.nil
        have hcv := conv1 (w1.alloc (.cells #[.int .u8 (48 + r)] 5)) w1.heap.size (48 + r) (by rw [World.cell?_alloc_at _ _ _ _ (by simp)]; rfl)
        go_simp
        refine hK.out _ _ (belA hHeld) (fun hNew => ?_)
        clear hK K hHeld
        have hHeld := hNew; clear hNew
        try simp only [Act.put, List.setIfInBounds_toArray, List.set_cons_zero, List.set_cons_succ]
        refine wpAnyH_ready (rs := [8]) (by kernel_rfl) (by simp) ?_
        refine AllReadyH.cons rfl (fun K hK => ?_) AllReadyH.nil
        go_simp
        have hNx := hHeld
        refine hK.out _ _ hNx (fun hNew => ?_)
        clear hK K hHeld hNx
        have hHeld := hNew; clear hNew
        try simp only [Act.put, List.setIfInBounds_toArray, List.set_cons_zero, List.set_cons_succ]
        refine heldTake (i := 9) (v := .string (numS y ++ strOfNums [48 + r])) (some 19) rfl rfl (by kernel_rfl) (by kernel_rfl) (by kernel_rfl) (fun _ _ _ h => h) (Or.inl ⟨by rfl, ?_⟩) (by assumption) ?_
        · (intro W hSw; clear hSw; go_simp; all_goals first | with_reducible rfl | omega | (simp [*]; done) | (intro hh; exfalso; omega) | fail)
        try simp only [Act.put, List.setIfInBounds_toArray, List.set_cons_zero, List.set_cons_succ]
        refine heldTake (i := 10) (v := ?_) (some 2) rfl rfl (by kernel_rfl) (by kernel_rfl) (by kernel_rfl) (fun _ _ _ h => h) (Or.inl ⟨by rfl, ?_⟩) (by assumption) ?_
        rotate_left
        · (intro W hSw; clear hSw; go_simp; all_goals first | with_reducible rfl | omega | (simp [*]; done) | (intro hh; exfalso; omega) | fail)
        try simp only [Act.put, List.setIfInBounds_toArray, List.set_cons_zero, List.set_cons_succ]
        refine wpAnyH_done (by kernel_rfl) ?_ _
        go_wp2
        go_ret
        exact ⟨ret_str HN.out.symm, hHeld⟩
      · have hcell : (w.alloc (.cells #[.int .u8 (48 + r)] 5)).drew.cell? ⟨w.heap.size, 0, none⟩ = some (.int .u8 (48 + r)) := by rw [World.cell?_drew]; exact (by rw [World.cell?_alloc_at _ _ _ _ (by simp)]; rfl)
        have hcv := conv1 (w.alloc (.cells #[.int .u8 (48 + r)] 5)).drew w.heap.size (48 + r) hcell
        go_simp
        refine hK.out _ _ (belA hHeld) (fun hNew => ?_)
        clear hK K hHeld
        have hHeld := hNew; clear hNew
        try simp only [Act.put, List.setIfInBounds_toArray, List.set_cons_zero, List.set_cons_succ]
        refine wpAnyH_ready (rs := [2, 8]) (by kernel_rfl) (by simp) ?_
        refine AllReadyH.cons rfl (fun K hK => ?_) (AllReadyH.cons rfl (fun K hK => ?_) AllReadyH.nil)
        · go_simp
          (go_at_call 30; refine (HI.out _ hqz).mono ?_; rintro e w1 ⟨rfl, hb1⟩)
          have hcv := conv1 w1 w.heap.size (48 + r) (keepB hb1 hcell)
          have hNx := belT hHeld hb1
          refine hK.out _ _ hNx (fun hNew => ?_)
          clear hK K hHeld hNx
          have hHeld := hNew; clear hNew
          try simp only [Act.put, List.setIfInBounds_toArray, List.set_cons_zero, List.set_cons_succ]
          refine wpAnyH_ready (rs := [8]) (by kernel_rfl) (by simp) ?_
          refine AllReadyH.cons rfl (fun K hK => ?_) AllReadyH.nil
          go_simp
          have hNx := hHeld
          refine hK.out _ _ hNx (fun hNew => ?_)
          clear hK K hHeld hNx
          have hHeld := hNew; clear hNew
          try simp only [Act.put, List.setIfInBounds_toArray, List.set_cons_zero, List.set_cons_succ]
          refine heldTake (i := 9) (v := .string (numS y ++ strOfNums [48 + r])) (some 19) rfl rfl (by kernel_rfl) (by kernel_rfl) (by kernel_rfl) (fun _ _ _ h => h) (Or.inl ⟨by rfl, ?_⟩) (by assumption) ?_
          · (intro W hSw; clear hSw; go_simp; all_goals first | with_reducible rfl | omega | (simp [*]; done) | (intro hh; exfalso; omega) | fail)
          try simp only [Act.put, List.setIfInBounds_toArray, List.set_cons_zero, List.set_cons_succ]
          refine heldTake (i := 10) (v := ?_) (some 2) rfl rfl (by kernel_rfl) (by kernel_rfl) (by kernel_rfl) (fun _ _ _ h => h) (Or.inl ⟨by rfl, ?_⟩) (by assumption) ?_
          rotate_left
          · (intro W hSw; clear hSw; go_simp; all_goals first | with_reducible rfl | omega | (simp [*]; done) | (intro hh; exfalso; omega) | fail)
          try simp only [Act.put, List.setIfInBounds_toArray, List.set_cons_zero, List.set_cons_succ]
          refine wpAnyH_done (by kernel_rfl) ?_ _
          go_wp2
          go_ret
          exact ⟨ret_str HN.out.symm, hHeld⟩
        · go_simp
          have hNx := hHeld
          refine hK.out _ _ hNx (fun hNew => ?_)
          clear hK K hHeld hNx
          have hHeld := hNew; clear hNew
          try simp only [Act.put, List.setIfInBounds_toArray, List.set_cons_zero, List.set_cons_succ]
          refine wpAnyH_ready (rs := [2]) (by kernel_rfl) (by simp) ?_
          refine AllReadyH.cons rfl (fun K hK => ?_) AllReadyH.nil
          go_simp
          (go_at_call 30; refine (HI.out _ hqz).mono ?_; rintro e w1 ⟨rfl, hb1⟩)
          have hNx := belT hHeld hb1
          refine hK.out _ _ hNx (fun hNew => ?_)
          clear hK K hHeld hNx
          have hHeld := hNew; clear hNew
          try simp only [Act.put, List.setIfInBounds_toArray, List.set_cons_zero, List.set_cons_succ]
          refine heldTake (i := 9) (v := .string (numS y ++ strOfNums [48 + r])) (some 19) rfl rfl (by kernel_rfl) (by kernel_rfl) (by kernel_rfl) (fun _ _ _ h => h) (Or.inl ⟨by rfl, ?_⟩) (by assumption) ?_
          · (intro W hSw; clear hSw; go_simp; all_goals first | with_reducible rfl | omega | (simp [*]; done) | (intro hh; exfalso; omega) | fail)
          try simp only [Act.put, List.setIfInBounds_toArray, List.set_cons_zero, List.set_cons_succ]
          refine heldTake (i := 10) (v := ?_) (some 2) rfl rfl (by kernel_rfl) (by kernel_rfl) (by kernel_rfl) (fun _ _ _ h => h) (Or.inl ⟨by rfl, ?_⟩) (by assumption) ?_
          rotate_left
          · (intro W hSw; clear hSw; go_simp; all_goals first | with_reducible rfl | omega | (simp [*]; done) | (intro hh; exfalso; omega) | fail)
          try simp only [Act.put, List.setIfInBounds_toArray, List.set_cons_zero, List.set_cons_succ]
          refine wpAnyH_done (by kernel_rfl) ?_ _
          go_wp2
          go_ret
          exact ⟨ret_str HN.out.symm, hHeld⟩
end Go.Proofs.YtaehldfhjfchhaaDoor
