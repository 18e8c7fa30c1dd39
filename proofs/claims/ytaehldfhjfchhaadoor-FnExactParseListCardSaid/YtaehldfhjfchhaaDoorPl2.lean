/- Contracts: the reference's ParseList, third part. -/
import Derived.Test.YtaehldfhjfchhaaDoorPl1
namespace Go.Proofs.YtaehldfhjfchhaaDoor
open Go.RowKit
set_option linter.unusedVariables false
set_option linter.unusedSimpArgs false

def nB (x : ByteArray) : Int := l4N x.data.toList
theorem plM_dash : plM ⟨#[45]⟩ = ([], true) := if_pos rfl
theorem plM_words {s : ByteArray} (hs : ¬ s = ⟨#[45]⟩) {ws : List ByteArray} (h : ws.map (·.data.toList) = sp s.data.toList) : plM s = recM (ws.map nB) := by
  rw [plM, if_neg hs, ← h]
  unfold sL recM
  rw [List.map_map]
  rfl
theorem recM_neg {ws : List ByteArray} {k : Nat} (hk : k < ws.length) (h : nB (ws.getD k ⟨#[]⟩) < 0) : recM (ws.map nB) = ([], false) := by
  have e : recB (ws.map nB) = false := by
    rw [Bool.eq_false_iff]
    intro hr
    have hm : ws.getD k ⟨#[]⟩ ∈ ws := getD_mem hk
    have := inB_true (recB_mem hr (List.mem_map_of_mem (f := nB) hm))
    omega
  rw [recM, e]
  rfl
theorem word_le {s : ByteArray} {ws : List ByteArray} (h : ws.map (·.data.toList) = sp s.data.toList) {k : Nat} (hk : k < ws.length) : (ws.getD k ⟨#[]⟩).size ≤ s.size := by
  have hm : ws.getD k ⟨#[]⟩ ∈ ws := getD_mem hk
  have hm2 : (ws.getD k ⟨#[]⟩).data.toList ∈ sp s.data.toList := by rw [← h]; exact List.mem_map_of_mem (f := fun x : ByteArray => x.data.toList) hm
  exact sp_mem hm2

theorem ne_dash {s : ByteArray} (h : ¬ s = ⟨#[45]⟩) : (s.toList == [45]) = false := by
  rw [ByteArray.toList_eq, beq_eq_false_iff_ne]
  exact fun e => h (WideShapes.bytes_inj e)

set_option maxRecDepth 100000 in
set_option maxHeartbeats 4000000 in
theorem cList_any (s : ByteArray) (w : World) (hs : s.size ≤ 2000000) :
    Calls Tryd.prog 13 #[.string s] w (RI w (plM s)) := by
  by_cases he : s = ⟨#[45]⟩
  · subst he
    go_enter Tryd.func13, Tryd.ntmps13
    go_wp2
    go_ret2
    exact RI.yes plM_dash (own_nil _ _) (Below.refl _ _)
  · have hb := ne_dash he
    have H := Lib.hid (l1Split_any s w hs)
    have HPM := Lib.hid (fun (ws : List ByteArray) h => plM_words (ws := ws) he h)
    go_enter Tryd.func13, Tryd.ntmps13
    go_wp2_with fail
    refine H.out.mono ?_
    rintro e w1 ⟨A, c, ws, rfl, hws, hown, hb1⟩
    have hwl := words_le hws
    have HPL := Lib.hid (HPM.out ws hws)
    have HLE := Lib.hid (fun (k : Nat) (hk : k < ws.length) => word_le hws hk)
    have HS := Lib.hid (Strs.of_own hown (by omega))
    have HB1 := Lib.hid hb1
    have hz1 := hb1.size
    clear hws hown hb1 H HPM
    go_wp2
    go_loopw [4, 13] (fun v i wr => ∃ k : Nat, k ≤ ws.length ∧ i = .int .i64 k ∧ Hid (wr.ownsRow w1.heap.size 3 1 v k (((ws.take k).map nB).map (Value.int .i64))) ∧ Hid (Below w1.heap.size w1 wr)) (fun _ i _ => ws.length - (intOf i).toNat)
    case atStart => exact ⟨0, by omega, rfl, Lib.hid (own_nil _ _), Lib.hid (Below.refl _ _)⟩
    case round =>
      obtain ⟨k, hk, rfl, HO, HW⟩ := hrel
      have HB := Lib.hid (belT HB1.out HW.out)
      by_cases hlt : k < ws.length
      · obtain ⟨b, off, rfl, hbb, hc⟩ := (HS.out.below HW.out).at_ hlt
        have hsz := HLE.out k hlt
        have HST := Lib.hid (map_step (d := (⟨#[]⟩ : ByteArray)) nB hlt)
        have HNEG := Lib.hid (fun h => HPL.out.trans (recM_neg hlt h))
        have hnB : nB (ws.getD k ⟨#[]⟩) = l4N (ws.getD k ⟨#[]⟩).data.toList := rfl
        generalize ws.getD k ⟨#[]⟩ = x at hc hsz HST HNEG hnB
        have HC := Lib.hid (l4Number_any x wr (by omega))
        rw [← hnB] at HC
        generalize nB x = v at HST HNEG HC
        have i1 : (0 : Int) ≤ (k : Int) := by omega
        have i2 : (k : Int) < (ws.length : Int) := by omega
        clear hnB
        by_cases hv : v < 0
        · have HE := Lib.hid (HNEG.out hv)
          go_wp2_with (go_at_call 23; refine HC.out.mono ?_; rintro e w' ⟨rfl, rfl⟩)
          go_ret2
          exact RI.no HE.out HB.out
        · have hz2 := HW.out.size
          go_wp2_with (first | (go_at_call 23; refine HC.out.mono ?_; rintro e w' ⟨rfl, rfl⟩) | (at_builtin; refine app1 rfl _ _ rfl rfl rfl HO.out (by omega) hz2 ?_; intro v3 w3 hown3 hbel3))
          go_roundw
          case rel => exact ⟨k + 1, by omega, by go_num, Lib.hid (by rw [← HST.out]; exact hown3), Lib.hid (HW.out.trans hbel3)⟩
          case measure => simp [intOf]; omega
      · have e : k = ws.length := by omega
        subst e
        rw [List.take_of_length_le (Nat.le_refl _)] at HO
        obtain ⟨A3, c3, rfl⟩ := own_shape HO.out
        go_wp2_with fail
        refine (l4If_any A3 ws.length c3 (ws.map nB) _ (Ints.of_own HO.out)).mono ?_
        rintro e w2 ⟨rfl, hb2⟩
        go_wp2
        go_ret2
        rw [HPL.out]
        exact RI.rec_ (ownDown (ownBelow HO.out hb2) hz1) (belT HB.out hb2)
set_option maxHeartbeats 400000 in
theorem sParseList_ri (s : ByteArray) (w : World) (hs : s.size ≤ 2000000) :
    Calls Tryd.prog 5 #[.string s] w (RI w (plM s)) := by
  have H := Lib.hid (cList_any s w hs)
  go_enter Tryd.func5, Tryd.ntmps5
  go_wp2_with fail
  refine H.out.mono ?_
  rintro e w1 ⟨A', c', rfl, hown, hb⟩
  go_wp2
  go_ret2
  exact ⟨A', c', rfl, hown, hb⟩
theorem sParseList_any (s : ByteArray) (w : World) (hs : s.size ≤ 2000000) :
    Calls Tryd.prog 5 #[.string s] w fun e w' => ∃ B cc, e = .returned (.tuple #[.slice B (plM s).1.length cc, .bool (plM s).2]) ∧ w'.ownsRow w.heap.size 3 1 (.slice B (plM s).1.length cc) (plM s).1.length ((plM s).1.map (Value.int .i64)) ∧ Below w.heap.size w w' :=
  sParseList_ri s w hs
theorem plM_len (s : ByteArray) : (plM s).1.length ≤ 400 := by
  unfold plM
  split
  · simp
  · exact recM_len _
end Go.Proofs.YtaehldfhjfchhaaDoor
