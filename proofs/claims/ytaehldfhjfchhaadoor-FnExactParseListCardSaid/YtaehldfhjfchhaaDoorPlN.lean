/- The plain law of reading a text as a list of numbers. -/
import Derived.Test.YtaehldfhjfchhaaDoorFm
import Derived.Lib.AtoiAllCases
import Derived.Lib.SplitLaws
namespace Go.Proofs.YtaehldfhjfchhaaDoor
open Go.RowKit
set_option linter.unusedVariables false
set_option linter.unusedSimpArgs false

/-- the reference's reading of a word, behind its tests -/
def pK : Nat → List UInt8 → Int
  | acc, [] => (acc : Int)
  | acc, c :: r => if c.toNat < 48 ∨ 57 < c.toNat ∨ (4611686018427387903 - (c.toNat - 48)) / 10 < acc then -1 else pK (10 * acc + (c.toNat - 48)) r
def l4N (w : List UInt8) : Int := if w.length < 1 ∨ 19 < w.length ∨ (w.head? = some 48 ∧ 1 < w.length) then -1 else pK 0 w
def vL (a : Nat) (l : List UInt8) : Nat := l.foldl (fun a c => 10 * a + (c.toNat - 48)) a
theorem vL_nil (a : Nat) : vL a [] = a := rfl
theorem vL_cons (a : Nat) (c : UInt8) (r : List UInt8) : vL a (c :: r) = vL (10 * a + (c.toNat - 48)) r := by simp only [vL, List.foldl_cons]
theorem vL_ge (l : List UInt8) : ∀ (a : Nat), a ≤ vL a l := by
  induction l with
  | nil => intro a; exact Nat.le_refl _
  | cons c r ih =>
    intro a
    have := ih (10 * a + (c.toNat - 48))
    rw [vL_cons]
    omega
theorem vL_app (c : UInt8) (l : List UInt8) (a : Nat) : vL a (l ++ [c]) = 10 * vL a l + (c.toNat - 48) := by
  rw [vL, vL, List.foldl_append]
  rfl
def dgs (l : List UInt8) : Prop := ∀ c ∈ l, 48 ≤ c.toNat ∧ c.toNat ≤ 57
theorem dgs_cons {c : UInt8} {r : List UInt8} (h : dgs (c :: r)) : (48 ≤ c.toNat ∧ c.toNat ≤ 57) ∧ dgs r := ⟨h c (by simp), fun x hx => h x (List.mem_cons_of_mem _ hx)⟩
theorem chr_nat {u : Nat} (h : u < 10) : (UInt8.ofNat (48 + u)).toNat = 48 + u := by
  show (48 + u) % 256 = 48 + u
  omega
theorem chr_of {c : UInt8} (h : 48 ≤ c.toNat ∧ c.toNat ≤ 57) : UInt8.ofNat (48 + (c.toNat - 48)) = c := by
  apply UInt8.toNat_inj.1
  rw [chr_nat (by omega)]
  omega
theorem dec_dgs (n : Nat) : dgs (Lib.decDigits n) := by
  induction n using Nat.strongRecOn with
  | _ n ih =>
    rw [Lib.decDigits]
    split
    · intro c hc
      rename_i h
      simp only [List.mem_cons, List.mem_nil_iff, or_false] at hc
      subst hc
      rw [chr_nat h]
      omega
    · intro c hc
      simp only [List.mem_append, List.mem_cons, List.mem_nil_iff, or_false] at hc
      rcases hc with hc | rfl
      · exact ih (n / 10) (by omega) c hc
      · rw [chr_nat (by omega)]
        omega
theorem dec_val (n : Nat) : vL 0 (Lib.decDigits n) = n := by
  induction n using Nat.strongRecOn with
  | _ n ih =>
    rw [Lib.decDigits]
    split
    · rename_i h
      rw [vL_cons, vL_nil, chr_nat h]
      omega
    · rw [vL_app, ih (n / 10) (by omega), chr_nat (by omega)]
      omega
theorem dec_head (n : Nat) (hn : 1 ≤ n) : ∃ c r, Lib.decDigits n = c :: r ∧ c.toNat ≠ 48 := by
  induction n using Nat.strongRecOn with
  | _ n ih =>
    rw [Lib.decDigits]
    split
    · rename_i h
      exact ⟨_, _, rfl, by rw [chr_nat h]; omega⟩
    · obtain ⟨c, r, e, hc⟩ := ih (n / 10) (by omega) (by omega)
      rw [e]
      exact ⟨c, _, rfl, hc⟩
theorem dec_app : ∀ (l : List UInt8) (a : Nat), 1 ≤ a → dgs l → Lib.decDigits (vL a l) = Lib.decDigits a ++ l
  | [], a, _, _ => by rw [vL_nil, List.append_nil]
  | c :: r, a, ha, h => by
    obtain ⟨hc, hr⟩ := dgs_cons h
    rw [vL_cons, dec_app r _ (by omega) hr]
    have e : Lib.decDigits (10 * a + (c.toNat - 48)) = Lib.decDigits a ++ [c] := by
      rw [Lib.decDigits, dif_neg (by omega), show (10 * a + (c.toNat - 48)) / 10 = a from by omega, show (10 * a + (c.toNat - 48)) % 10 = c.toNat - 48 from by omega, chr_of hc]
    rw [e]
    simp
theorem dec_one {c : UInt8} (h : 48 ≤ c.toNat ∧ c.toNat ≤ 57) : Lib.decDigits (c.toNat - 48) = [c] := by
  rw [Lib.decDigits, dif_pos (by omega), chr_of h]
theorem pK_pos : ∀ (l : List UInt8) (a : Nat), a ≤ 4611686018427387903 → 0 ≤ pK a l → dgs l ∧ pK a l = (vL a l : Nat) ∧ vL a l ≤ 4611686018427387903
  | [], a, ha, _ => ⟨fun c hc => (by cases hc), rfl, ha⟩
  | c :: r, a, ha, h => by
    rw [pK] at h
    split at h
    · omega
    · rename_i hn
      obtain ⟨h1, h2, h3⟩ := pK_pos r _ (by omega) h
      refine ⟨fun x hx => ?_, ?_, h3⟩
      · rcases List.mem_cons.1 hx with rfl | hx
        · omega
        · exact h1 x hx
      · rw [pK, if_neg hn, h2, vL_cons]
theorem pK_val : ∀ (l : List UInt8) (a : Nat), dgs l → vL a l ≤ 4611686018427387903 → pK a l = (vL a l : Nat)
  | [], a, _, _ => rfl
  | c :: r, a, h, hv => by
    obtain ⟨hc, hr⟩ := dgs_cons h
    rw [vL_cons] at hv
    have := vL_ge r (10 * a + (c.toNat - 48))
    rw [pK, if_neg (by omega), pK_val r _ hr hv, vL_cons]
theorem l4N_pos {w : List UInt8} (h : 0 ≤ l4N w) : ∃ n : Nat, l4N w = n ∧ n ≤ 4611686018427387903 ∧ w = Lib.decDigits n := by
  unfold l4N at h ⊢
  split at h
  · omega
  · rename_i hn
    rw [if_neg hn]
    obtain ⟨h1, h2, h3⟩ := pK_pos w 0 (by omega) h
    refine ⟨vL 0 w, h2, h3, ?_⟩
    cases w with
    | nil => simp at hn
    | cons c r =>
      obtain ⟨hc, hr⟩ := dgs_cons h1
      by_cases h48 : c.toNat = 48
      · have e : c = 48 := UInt8.toNat_inj.1 h48
        subst e
        have hr0 : r = [] := by
          cases r with
          | nil => rfl
          | cons d t => simp at hn
        subst hr0
        rw [vL_cons, vL_nil, Lib.decDigits]
        rfl
      · rw [vL_cons, dec_app r _ (by omega) hr, show 10 * 0 + (c.toNat - 48) = c.toNat - 48 from by omega, dec_one hc]
        rfl
theorem l4N_dec {n : Nat} (h : n ≤ 4611686018427387903) : l4N (Lib.decDigits n) = n := by
  have hl := dec_len 18 n (by omega)
  unfold l4N
  rw [if_neg ?_, pK_val _ _ (dec_dgs n) (by rw [dec_val]; exact h), dec_val]
  rintro (h1 | h1 | ⟨h1, h2⟩)
  · have := dec_val n
    cases hd : Lib.decDigits n with
    | nil =>
      have hh := Lib.decDigits_eq n
      have := Lib.nDigits_pos n
      rw [hd] at hh
      have := congrArg List.length hh
      simp at this
      omega
    | cons c r => rw [hd] at h1; simp at h1
  · omega
  · by_cases h0 : n = 0
    · subst h0
      rw [Lib.decDigits, dif_pos (by omega)] at h2
      simp at h2
    · obtain ⟨c, r, e, hc⟩ := dec_head n (by omega)
      rw [e] at h1
      simp at h1
      subst h1
      exact hc rfl
theorem par_val : ∀ (l : List UInt8) (a : Nat), dgs l → vL a l < 18446744073709551616 → Lib.parseUint10 a l = .ok (vL a l)
  | [], a, _, _ => rfl
  | c :: r, a, h, hv => by
    obtain ⟨hc, hr⟩ := dgs_cons h
    rw [vL_cons] at hv
    have := vL_ge r (10 * a + (c.toNat - 48))
    rw [Lib.parseUint10, if_pos hc, if_neg (by omega), if_neg (by omega), vL_cons, Nat.mul_comm a 10]
    exact par_val r _ hr hv
theorem dec_ne (n : Nat) : Lib.decDigits n ≠ [] := by
  rw [Lib.decDigits]
  split <;> simp
theorem atoi_dec {n : Nat} (h : n ≤ 4611686018427387903) : Lib.atoiAll (Lib.decDigits n) = .ok (n : Int) := by
  have hp : Lib.parseMag (Lib.decDigits n) = .ok n := by
    rw [Lib.parseMag, if_neg (dec_ne n), par_val _ _ (dec_dgs n) (by rw [dec_val]; omega), dec_val]
  have hd := dec_dgs n
  cases e : Lib.decDigits n with
  | nil => exact absurd e (dec_ne n)
  | cons c r =>
    rw [e] at hp hd
    obtain ⟨hc, _⟩ := dgs_cons hd
    unfold Lib.atoiAll
    simp only
    rw [if_neg (by omega), hp]
    simp only
    rw [if_neg (by omega), if_neg (by omega), if_neg (by omega)]
/-- the program's reading of a word -/
def cv (w : List UInt8) : Option Int := match Lib.atoiAll w with
  | .ok v => if Lib.itoa v = w then some v else none
  | _ => none
theorem cv_ok {w : List UInt8} {v : Int} (h : Lib.atoiAll w = .ok v) : cv w = if Lib.itoa v = w then some v else none := by rw [cv, h]
theorem cv_bad {w : List UInt8} (h : ∀ v, Lib.atoiAll w ≠ .ok v) : cv w = none := by
  unfold cv
  split
  · rename_i v hv
    exact absurd hv (h v)
  · rfl
theorem cv_some {w : List UInt8} {v : Int} (h : cv w = some v) : Lib.atoiAll w = .ok v ∧ Lib.itoa v = w := by
  unfold cv at h
  split at h
  · split at h
    · injection h with h
      subst h
      exact ⟨by assumption, by assumption⟩
    · cases h
  · cases h
theorem itoa_nat (n : Nat) : Lib.itoa (n : Int) = Lib.decDigits n := by rw [Lib.itoa, if_neg (by omega), Int.toNat_natCast]
theorem cv_of {w : List UInt8} (h : 0 ≤ l4N w) : cv w = some (l4N w) := by
  obtain ⟨n, e, hn, rfl⟩ := l4N_pos h
  rw [cv_ok (atoi_dec hn), itoa_nat, if_pos rfl, e]
theorem l4N_of {w : List UInt8} {v : Int} (h : cv w = some v) (hd : digB v = true) : l4N w = v := by
  obtain ⟨h1, h2⟩ := cv_some h
  obtain ⟨v0, v1⟩ := inB_true hd
  obtain ⟨n, rfl⟩ := Int.eq_ofNat_of_zero_le v0
  rw [itoa_nat] at h2
  subst h2
  exact l4N_dec (by omega)
theorem cv_comma {w : List UInt8} (h : (44 : UInt8) ∈ w) : cv w = none := by
  cases hc : cv w with
  | none => rfl
  | some v =>
    exfalso
    obtain ⟨_, h2⟩ := cv_some hc
    rw [← h2, Lib.itoa] at h
    split at h
    · rcases List.mem_cons.1 h with h | h
      · cases h
      · have := dec_dgs _ _ h
        revert this
        decide
    · have := dec_dgs _ _ h
      revert this
      decide

/-! ## the words -/
def sp : List UInt8 → List (List UInt8)
  | [] => [[]]
  | c :: r => if c = 44 then [] :: sp r else (c :: (sp r).headD []) :: (sp r).tail
theorem sp_ne : ∀ l, 1 ≤ (sp l).length
  | [] => by simp [sp]
  | c :: r => by
    rw [sp]
    split <;> simp
theorem sp_le : ∀ l, (sp l).length ≤ l.length + 1
  | [] => by simp [sp]
  | c :: r => by
    have := sp_le r
    have h1 := sp_ne r
    rw [sp]
    split
    · simp; omega
    · simp; omega
theorem idx_ne {c : UInt8} (r : List UInt8) (h : c ≠ 44) : Lib.index (c :: r) [44] = if Lib.index r [44] == -1 then -1 else Lib.index r [44] + 1 := by
  rw [Lib.index, if_neg]
  simp [List.isPrefixOf]
  exact fun e => h e.symm
theorem idx_eq (r : List UInt8) : Lib.index (44 :: r) [44] = 0 := by
  rw [Lib.index, if_pos]
  simp [List.isPrefixOf]
theorem spK_nil (k : Nat) : Lib.splitK [44] 0 k [] = [[]] := by
  cases k with
  | zero => rfl
  | succ k => rw [Lib.splitK, if_pos]; rfl
theorem spK_eq (k : Nat) (r : List UInt8) : Lib.splitK [44] 0 (k + 1) (44 :: r) = [] :: Lib.splitK [44] 0 k r := by
  rw [Lib.splitK, idx_eq, if_neg (by decide)]
  rfl
theorem spK_ne (k : Nat) {c : UInt8} (r : List UInt8) (h : c ≠ 44) : Lib.splitK [44] 0 k (c :: r) = (c :: (Lib.splitK [44] 0 k r).headD []) :: (Lib.splitK [44] 0 k r).tail := by
  cases k with
  | zero => rfl
  | succ k =>
    rw [Lib.splitK, idx_ne r h]
    by_cases hm : Lib.index r [44] = -1
    · have e1 : Lib.splitK [44] 0 (k + 1) r = [r] := by rw [Lib.splitK, hm]; rfl
      rw [hm, e1]
      rfl
    · have hb : ¬ (Lib.index r [44] == -1) = true := fun e => hm (beq_iff_eq.1 e)
      have hg := Lib.index_ge r [44]
      obtain ⟨i, hi⟩ := Int.eq_ofNat_of_zero_le (show 0 ≤ Lib.index r [44] by omega)
      rw [if_neg hb, Lib.splitK, if_neg hb, hi, if_neg (by rw [beq_iff_eq]; omega)]
      rw [show ((i : Int) + 1).toNat = i + 1 from by omega, Int.toNat_natCast]
      simp [Nat.add_right_comm]
theorem spK_sp : ∀ (l : List UInt8) (k : Nat), ((sp l).length ≤ k + 1 → Lib.splitK [44] 0 k l = sp l) ∧ (k + 1 < (sp l).length → ∃ x, Lib.splitK [44] 0 k l = (sp l).take k ++ [x] ∧ (44 : UInt8) ∈ x)
  | [], k => by
    rw [spK_nil]
    exact ⟨fun _ => rfl, fun h => by simp [sp] at h⟩
  | c :: r, k => by
    have h1 := sp_ne r
    by_cases hc : c = 44
    · subst hc
      rw [sp, if_pos rfl]
      cases k with
      | zero => exact ⟨fun h => by simp at h; simp [h] at h1, fun _ => ⟨44 :: r, rfl, by simp⟩⟩
      | succ k =>
        obtain ⟨ih1, ih2⟩ := spK_sp r k
        rw [spK_eq]
        refine ⟨fun h => by rw [ih1 (by simpa using h)], fun h => ?_⟩
        obtain ⟨x, e, hx⟩ := ih2 (by simpa using h)
        exact ⟨x, by rw [e]; rfl, hx⟩
    · obtain ⟨ih1, ih2⟩ := spK_sp r k
      rw [sp, if_neg hc, spK_ne k r hc]
      have hlen : ((c :: (sp r).headD []) :: (sp r).tail).length = (sp r).length := by simp; omega
      rw [hlen]
      refine ⟨fun h => by rw [ih1 h], fun h => ?_⟩
      obtain ⟨x, e, hx⟩ := ih2 h
      rw [e]
      cases k with
      | zero => exact ⟨c :: x, by simp, List.mem_cons_of_mem _ hx⟩
      | succ k =>
        cases hs : sp r with
        | nil => rw [hs] at h1; simp at h1
        | cons y t => exact ⟨x, by simp, hx⟩

/-! ## both readings of all words -/
def iL (ws : List (List UInt8)) : List Int × Bool :=
  if ws.all (fun w => (cv w).isSome) then (if recB (ws.map fun w => (cv w).getD 0) then (ws.map fun w => (cv w).getD 0, true) else ([], false)) else ([], false)
def sL (ws : List (List UInt8)) : List Int × Bool := if recB (ws.map l4N) then (ws.map l4N, true) else ([], false)
def plM (s : ByteArray) : List Int × Bool := if s = ⟨#[45]⟩ then ([], true) else sL (sp s.data.toList)
theorem recB_mem {zs : List Int} (h : recB zs = true) {z : Int} (hz : z ∈ zs) : digB z = true := List.all_eq_true.1 (recB_parts h).2 z hz
theorem recB_neg {ws : List (List UInt8)} {w : List UInt8} (hw : w ∈ ws) (h : l4N w < 0) : recB (ws.map l4N) = false := by
  rw [Bool.eq_false_iff]
  intro hr
  have := inB_true (recB_mem hr (List.mem_map_of_mem hw))
  omega
theorem iL_sL (ws : List (List UInt8)) : iL ws = sL ws := by
  unfold iL sL
  by_cases ha : ws.all (fun w => (cv w).isSome) = true
  · rw [if_pos ha]
    have hS := List.all_eq_true.1 ha
    by_cases hr : recB (ws.map l4N) = true
    · have e : ws.map (fun w => (cv w).getD 0) = ws.map l4N := List.map_congr_left fun w hw => by
        have := inB_true (recB_mem hr (List.mem_map_of_mem hw))
        rw [cv_of (by omega)]
        rfl
      rw [e]
    · have hn : ¬ recB (ws.map fun w => (cv w).getD 0) = true := fun hb => hr (by
        have e : ws.map (fun w => (cv w).getD 0) = ws.map l4N := List.map_congr_left fun w hw => by
          have hd := recB_mem hb (List.mem_map_of_mem (f := fun w => (cv w).getD 0) hw)
          have hs := hS w hw
          cases hc : cv w with
          | none => rw [hc] at hs; cases hs
          | some v =>
            rw [hc] at hd
            rw [l4N_of hc hd]
            rfl
        rw [← e]
        exact hb)
      rw [if_neg hn, if_neg hr]
  · rw [if_neg ha]
    have : ∃ w ∈ ws, (cv w).isSome = false := by
      simpa using ha
    obtain ⟨w, hw, hc⟩ := this
    have hneg : l4N w < 0 := by
      rcases Int.lt_or_le (l4N w) 0 with h | h
      · exact h
      · rw [cv_of h] at hc
        cases hc
    rw [recB_neg hw hneg]
    rfl
theorem iL_split (s : List UInt8) : iL (Lib.splitK [44] 0 (min 401 (s.length + 1) - 1) s) = sL (sp s) := by
  have hle := sp_le s
  obtain ⟨h1, h2⟩ := spK_sp s (min 401 (s.length + 1) - 1)
  by_cases hk : (sp s).length ≤ min 401 (s.length + 1) - 1 + 1
  · rw [h1 hk, iL_sL]
  · obtain ⟨x, e, hx⟩ := h2 (by omega)
    rw [e]
    have hf : sL (sp s) = ([], false) := by
      unfold sL
      have : ¬ recB ((sp s).map l4N) = true := fun hr => by
        have := (recB_parts hr).1
        rw [List.length_map] at this
        omega
      rw [if_neg this]
    rw [hf]
    unfold iL
    rw [if_neg]
    intro ha
    have := List.all_eq_true.1 ha x (by simp)
    rw [cv_comma hx] at this
    cases this
end Go.Proofs.YtaehldfhjfchhaaDoor
