/- Contracts: the reference's ParseList, second part. -/
import Derived.Test.YtaehldfhjfchhaaDoorPl
namespace Go.Proofs.YtaehldfhjfchhaaDoor
open Go.RowKit
set_option linter.unusedVariables false
set_option linter.unusedSimpArgs false

/-- a slice of texts -/
def Strs (w : World) (A : Option Addr) (n : Nat) (l : List ByteArray) : Prop :=
  l.length = n ∧ n ≤ 9223372036854775807 ∧ (0 < n → ∃ b off, A = some ⟨b, off, none⟩ ∧ b < w.heap.size ∧ ∀ k, k < n → w.cell? ⟨b, off + k, none⟩ = some (.string (l.getD k ⟨#[]⟩)))
theorem Strs.below {w w' : World} {A : Option Addr} {n : Nat} {l : List ByteArray} (h : Strs w A n l) (hb : Below w.heap.size w w') : Strs w' A n l := by
  refine ⟨h.1, h.2.1, fun hn => ?_⟩
  obtain ⟨b, off, e, hlt, hc⟩ := h.2.2 hn
  exact ⟨b, off, e, Nat.lt_of_lt_of_le hlt hb.size, fun k hk => (hb.cell (p := ⟨b, off + k, none⟩) hlt).trans (hc k hk)⟩
theorem Strs.at_ {w : World} {A : Option Addr} {n k : Nat} {l : List ByteArray} (h : Strs w A n l) (hk : k < n) : ∃ b off, A = some ⟨b, off, none⟩ ∧ b < w.heap.size ∧ w.cell? ⟨b, off + k, none⟩ = some (.string (l.getD k ⟨#[]⟩)) := by
  obtain ⟨b, off, e, hlt, hc⟩ := h.2.2 (by omega)
  exact ⟨b, off, e, hlt, hc k hk⟩
theorem Strs.of_own {w : World} {B n c : Nat} {A : Option Addr} {l : List ByteArray} (h : w.ownsRow B 9 1 (.slice A n c) n (l.map Value.string)) (hn : n ≤ 1000000000) : Strs w A n l := by
  have hl : l.length = n := by have := h.1; simpa using this
  refine ⟨hl, by omega, fun h0 => ?_⟩
  rcases h.2 with ⟨h1, h2⟩ | ⟨g, cap, cur, h1, h2, h3, _⟩
  · omega
  · injection h1 with e1 e2 e3
    subst e1
    refine ⟨g, 0, rfl, (Array.getElem?_eq_some_iff.1 h3).1, fun k hk => ?_⟩
    rw [Nat.zero_add, h.cellAt k (by omega), List.getElem?_map, List.getD_eq_getElem?_getD, List.getElem?_eq_getElem (by omega)]
    rfl

theorem sp_seg : ∀ (g r : List UInt8), (44 : UInt8) ∉ g → sp (g ++ 44 :: r) = g :: sp r
  | [], r, _ => by rw [List.nil_append, sp, if_pos rfl]
  | c :: g, r, h => by
    have hc : c ≠ 44 := fun e => h (by rw [e]; simp)
    rw [List.cons_append, sp, if_neg hc, sp_seg g r (fun hm => h (List.mem_cons_of_mem _ hm))]
    rfl
theorem sp_one : ∀ (g : List UInt8), (44 : UInt8) ∉ g → sp g = [g]
  | [], _ => rfl
  | c :: g, h => by
    have hc : c ≠ 44 := fun e => h (by rw [e]; simp)
    rw [sp, if_neg hc, sp_one g (fun hm => h (List.mem_cons_of_mem _ hm))]
    rfl
/-- how far the words are found -/
def SI (s : ByteArray) (j k : Nat) (ds : List ByteArray) : Prop := sp s.data.toList = ds.map (·.data.toList) ++ sp (s.data.toList.drop j) ∧ (44 : UInt8) ∉ (s.data.toList.drop j).take (k - j)
theorem SI.start (s : ByteArray) : SI s 0 0 [] := ⟨by simp, by simp⟩
theorem ext_list (s : ByteArray) (j k : Nat) : (s.extract j k).data.toList = (s.data.toList.drop j).take (k - j) := by
  rw [Lib.extract_data]
theorem SI.comma {s : ByteArray} {j k : Nat} {ds : List ByteArray} (h : SI s j k ds) (hk : k < s.size) (hj : j ≤ k) (hc : byt s k = 44) : SI s (k + 1) (k + 1) (ds ++ [s.extract j k]) := by
  have hb : s.data.toList.getD k 0 = 44 := UInt8.toNat_inj.1 hc
  have e : s.data.toList.drop j = (s.data.toList.drop j).take (k - j) ++ 44 :: s.data.toList.drop (k + 1) := by
    have e1 := (List.take_append_drop (k - j) (s.data.toList.drop j)).symm
    rw [List.drop_drop, show j + (k - j) = k from by omega, drop_byt hk, hb] at e1
    exact e1
  refine ⟨?_, by simp⟩
  rw [h.1, e, sp_seg _ _ h.2, List.map_append, List.map_cons, List.map_nil, ext_list]
  simp
theorem SI.other {s : ByteArray} {j k : Nat} {ds : List ByteArray} (h : SI s j k ds) (hk : k < s.size) (hj : j ≤ k) (hc : byt s k ≠ 44) : SI s j (k + 1) ds := by
  refine ⟨h.1, ?_⟩
  have e : (s.data.toList.drop j).take (k + 1 - j) = (s.data.toList.drop j).take (k - j) ++ [s.data.toList.getD k 0] := by
    rw [show k + 1 - j = k - j + 1 from by omega, List.take_add_one, List.getElem?_drop, show j + (k - j) = k from by omega, List.getD_eq_getElem?_getD, List.getElem?_eq_getElem (by simpa using hk)]
    rfl
  rw [e]
  intro hm
  rcases List.mem_append.1 hm with hm | hm
  · exact h.2 hm
  · simp only [List.mem_cons, List.mem_nil_iff, or_false] at hm
    exact hc (by unfold byt; rw [← hm]; rfl)
theorem SI.end_ {s : ByteArray} {j : Nat} {ds : List ByteArray} (h : SI s j s.size ds) : (ds ++ [s.extract j s.size]).map (·.data.toList) = sp s.data.toList := by
  have e : (s.data.toList.drop j).take (s.size - j) = s.data.toList.drop j := List.take_of_length_le (by rw [List.length_drop, toList_len]; exact Nat.le_refl _)
  have h2 := h.2
  rw [e] at h2
  rw [h.1, sp_one _ h2, List.map_append, List.map_cons, List.map_nil, ext_list, e]
theorem spK_le : ∀ (l : List UInt8) (k : Nat) (x : List UInt8), x ∈ Lib.splitK [44] 0 k l → x.length ≤ l.length
  | [], k, x, h => by
    rw [spK_nil] at h
    simp at h
    subst h
    exact Nat.le_refl _
  | c :: r, k, x, h => by
    by_cases hc : c = 44
    · subst hc
      cases k with
      | zero =>
        rw [Lib.splitK] at h
        simp at h
        subst h
        exact Nat.le_refl _
      | succ k =>
        rw [spK_eq] at h
        rcases List.mem_cons.1 h with rfl | h
        · simp
        · have := spK_le r k x h
          simp
          omega
    · rw [spK_ne k r hc] at h
      rcases List.mem_cons.1 h with rfl | h
      · cases hs : Lib.splitK [44] 0 k r with
        | nil => simp
        | cons y t =>
          have := spK_le r k y (by rw [hs]; simp)
          simp
          exact this
      · have := spK_le r k x (List.mem_of_mem_tail h)
        simp
        omega
theorem sp_mem {l x : List UInt8} (h : x ∈ sp l) : x.length ≤ l.length := by
  have := (spK_sp l l.length).1 (sp_le l)
  rw [← this] at h
  exact spK_le l _ x h
theorem own_nilS (W : World) (B : Nat) : W.ownsRow B 9 1 (.slice none 0 0) 0 (([] : List ByteArray).map Value.string) := World.ownsRow_nil _ _ _ _
theorem words_le {s : ByteArray} {ws : List ByteArray} (h : ws.map (·.data.toList) = sp s.data.toList) : ws.length ≤ s.size + 1 := by
  have := sp_le s.data.toList
  rw [← h, List.length_map, toList_len] at this
  exact this

set_option maxRecDepth 100000 in
set_option maxHeartbeats 4000000 in
theorem l1Split_any (s : ByteArray) (w : World) (hs : s.size ≤ 2000000) :
    Calls Tryd.prog 22 #[.string s, .int .u8 44] w fun e w' => ∃ (A : Option Addr) (c : Nat) (ws : List ByteArray), e = .returned (.slice A ws.length c) ∧ ws.map (·.data.toList) = sp s.data.toList ∧ w'.ownsRow w.heap.size 9 1 (.slice A ws.length c) ws.length (ws.map Value.string) ∧ Below w.heap.size w w' := by
  go_enter Tryd.func22, Tryd.ntmps22
  go_wp2
  go_loopw [5, 6, 7] (fun v x i wr => ∃ (k j : Nat) (ds : List ByteArray), k ≤ s.size ∧ j ≤ k ∧ ds.length ≤ j ∧ i = .int .i64 k ∧ x = .int .i64 j ∧ Hid (wr.ownsRow w.heap.size 9 1 v ds.length (ds.map Value.string)) ∧ Hid (Below w.heap.size w wr) ∧ Hid (SI s j k ds)) (fun _ _ i _ => s.size - (intOf i).toNat)
  case atStart => exact ⟨0, 0, [], by omega, by omega, by simp, rfl, rfl, Lib.hid (own_nilS _ _), Lib.hid (Below.refl _ _), Lib.hid (SI.start s)⟩
  case round =>
    obtain ⟨k, j, ds, hk, hj, hdl, rfl, rfl, HO, HB, HS⟩ := hrel
    by_cases hlt : k < s.size
    · have hc := byt_eq hlt
      have hc2 := byt_le s k
      have HC := Lib.hid (fun h => HS.out.comma hlt hj h)
      have HX := Lib.hid (fun h => HS.out.other hlt hj h)
      generalize byt s k = c at hc hc2 HC HX
      have hjk : (j : Int) ≤ (k : Int) := by omega
      have hks : (k : Int) ≤ (s.size : Int) := by omega
      have hks2 : (k : Int) < (s.size : Int) := by omega
      by_cases h44 : c = 44
      · subst h44
        have HE := Lib.hid (HC.out rfl)
        clear HC HX HS
        go_wp2_with (at_builtin; refine appS rfl _ _ rfl rfl rfl HO.out (by omega) HB.out.size ?_; intro v2 w2 hown2 hbel2)
        go_roundw
        case rel => exact ⟨k + 1, k + 1, ds ++ [s.extract j k], by omega, by omega, by simp; omega, by go_num, by go_num, Lib.hid (by simpa using hown2), Lib.hid (HB.out.trans hbel2), HE⟩
        case measure => simp [intOf]; omega
      · have HE := Lib.hid (HX.out h44)
        have hd : ((c : Int) == 44) = false := by rw [beq_eq_false_iff_ne]; omega
        have hd' : ¬ (c : Int) = 44 := by omega
        clear HC HX HS h44
        go_wp2
        go_roundw
        case rel => exact ⟨k + 1, j, ds, by omega, by omega, hdl, by go_num, rfl, HO, HB, HE⟩
        case measure => simp [intOf]; omega
    · have e : k = s.size := by omega
      subst e
      have HE := Lib.hid HS.out.end_
      have hjk : (j : Int) ≤ (s.size : Int) := by omega
      clear HS hlt
      go_wp2_with (at_builtin; refine appS rfl _ _ rfl rfl rfl HO.out (by omega) HB.out.size ?_; intro v2 w2 hown2 hbel2)
      obtain ⟨A2, c2, rfl⟩ := own_shape hown2
      go_ret
      exact ⟨A2, c2, ds ++ [s.extract j s.size], by simp, HE.out, by simpa using hown2, HB.out.trans hbel2⟩
end Go.Proofs.YtaehldfhjfchhaaDoor
