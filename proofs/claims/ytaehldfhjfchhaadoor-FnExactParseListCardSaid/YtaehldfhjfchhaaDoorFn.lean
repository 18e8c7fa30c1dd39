/- Contracts: FormatList by the library's functions, and both sides. -/
import Derived.Test.YtaehldfhjfchhaaDoorFm
namespace Go.Proofs.YtaehldfhjfchhaaDoor
open Go.RowKit
set_option linter.unusedVariables false
set_option linter.unusedSimpArgs false

theorem str_info : (Tryd.prog.info? 9).map (fun i => (i.zero, i.size, i.bytes)) = some (some (.string ByteArray.empty), 1, 16) := by kernel_rfl
/-- one text appended -/
theorem appS {B : Nat} {W : World} {ops : Array Oper} {rest : List Oper} {o : Oper} {a : Act} {Q : Exit → Act → World → Prop} {v : Value} {n : Nat} {l : List ByteArray} {z : ByteArray} (hgd : o.guard = none) (s x : Operand)
    (ho : o.op = .call { callee := .builtin .append, args := #[s, x], argTypes := #[32, 32] }) (hs : a.eval s = v) (hx : a.eval x = .slice (some ⟨W.heap.size, 0, none⟩) 1 1)
    (hown : W.ownsRow B 9 1 v n (l.map Value.string)) (hn : n ≤ 1000000000) (hB : B ≤ W.heap.size)
    (h : ∀ v' w', w'.ownsRow B 9 1 v' (n + 1) ((l ++ [z]).map Value.string) → Below B W w' → wpList Tryd.prog ops Q rest (a.put o.dst v') w') :
    wpList Tryd.prog ops Q (o :: rest) a (W.alloc (.cells #[.string z] 9)) := by
  obtain ⟨i0, hi, hz0, hz1, hz2⟩ := info_parts str_info
  refine wpList_append_own _ hgd s x 32 ho B 9 i0 (.string ByteArray.empty) 1 16 Tryd.underlying32 hi hz0 hz1 hz2 rfl (by decide) v n _ hs (hown.alloc _) ⟨W.heap.size, 0, none⟩ 1 1 [.string z] hx rfl (cell_one_new _ _ _) (by intro u hu; simp at hu; subst hu; rfl) (by simp only [maxLen]; omega) (by omega) (by simp; omega) ?_
  intro v' w' hown' hg _
  refine h v' w' (by rw [List.map_append]; exact hown') ?_
  exact ((Below.refl B W).alloc hB _).grown hg (by simp; omega) fun k hk => (hown.lt k hk).1
theorem own_emptyS (W : World) (B : Nat) (hB : B ≤ W.heap.size) : (W.alloc (.cells #[] 9)).ownsRow B 9 1 (.slice (some ⟨W.heap.size, 0, none⟩) 0 0) 0 (([] : List ByteArray).map Value.string) :=
  World.ownsRow_made W #[] 0 hB (by simp [maxLen]) (by simp)

theorem itoa_any (m : Nat) (hm : m ≤ 9223372036854775807) (W : World) (htab : Lib.TabIs Tryd.prog W "internal/strconv.uint64pow10" .u64 Lib.pow10Tab) :
    Calls Tryd.prog 16 #[.int .i64 (m : Int)] W fun e w' => e = .returned (.string (numS m)) ∧ Below W.heap.size W w' := by
  refine (Tryd.strconv_Itoa (m : Int) (by omega) (by omega) W htab).mono ?_
  rintro e w' ⟨rfl, k, os, rfl⟩
  exact ⟨ret_str (itoa_num m), Lib.below_grow _ _ (Nat.le_refl _) _ _⟩
theorem join_any (g c B : Nat) (zs : List Int) (W : World) (h : W.ownsRow B 9 1 (.slice (some ⟨g, 0, none⟩) zs.length c) zs.length ((zs.map gS).map Value.string)) (h0 : 0 < zs.length) (hd : digsB zs = true) (h4 : zs.length ≤ 400) :
    Calls Tryd.prog 21 #[.slice (some ⟨g, 0, none⟩) zs.length c, .string ⟨#[44]⟩] W fun e w' => e = .returned (.string (jK zs zs.length)) ∧ Below W.heap.size W w' := by
  have hj := join_flB h0
  have hsz := jK_size hd zs.length (Nat.le_refl _)
  have hlen : (Lib.join ((zs.map gS).map (·.data.toList)) (⟨#[44]⟩ : ByteArray).data.toList).length ≤ 140737488355328 := by
    have := congrArg ByteArray.size hj
    simp only [ByteArray.size, List.size_toArray] at this hsz ⊢
    omega
  have hg : g < W.heap.size ∧ zs.length ≤ c := by
    rcases h.2 with ⟨h1, _⟩ | ⟨g', cap, cur, h1, h2, h3, h4, _⟩
    · cases h1
    · injection h1 with e1 e2 e3
      injection e1 with e1
      injection e1 with e1
      subst e1 e3
      exact ⟨(Array.getElem?_eq_some_iff.1 h3).1, h4⟩
  have hc := Tryd.strings_Join g 0 c (zs.map gS) ⟨#[44]⟩ W (fun j x hj => by
    have hjl : j < zs.length := by
      have := (List.getElem?_eq_some_iff.1 hj).1
      simpa using this
    rw [Nat.zero_add, h.cellAt j (by omega), List.getElem?_map, hj]
    rfl) hg.1 (by rw [List.length_map]; omega) (by rw [List.length_map]; exact hg.2) hlen
  rw [List.length_map] at hc
  refine hc.mono ?_
  rintro e w' ⟨rfl, hb⟩
  exact ⟨ret_str hj, hb⟩
theorem gS_first {zs : List Int} {k m : Nat} (hk : k < zs.length) (h : zs.getD k 0 = (m : Int)) : (zs.take k).map gS ++ [numS m] = (zs.take (k + 1)).map gS := by
  rw [take_snoc hk, List.map_append, List.map_cons, List.map_nil, gS, h, Int.toNat_natCast]
theorem ret_sb {s s' : ByteArray} {b b' : Bool} (h : (s, b) = (s', b')) : Ending.returned (.tuple #[.string s, .bool b]) = .returned (.tuple #[.string s', .bool b']) := by
  simp only [Prod.mk.injEq] at h
  obtain ⟨rfl, rfl⟩ := h
  rfl

set_option maxRecDepth 100000 in
set_option maxHeartbeats 4000000 in
theorem iFormatList_any (A : Option Addr) (n c : Nat) (zs : List Int) (w : World) (h : Ints w A n zs) (htab : Lib.TabIs Tryd.prog w "internal/strconv.uint64pow10" .u64 Lib.pow10Tab) :
    Calls Tryd.prog 12 #[.slice A n c] w fun e w' => e = .returned (.tuple #[.string (flM zs).1, .bool (flM zs).2]) ∧ Below w.heap.size w w' := by
  have hl := h.len
  subst hl
  have HI := Lib.hid h
  have HT := Lib.hid (Lib.tabBelow_of_tabIs htab)
  have HR := Lib.hid (isRecord_any A zs.length c zs w h)
  clear h htab
  cases hr : recB zs
  · have HN := Lib.hid (show flM zs = (⟨#[]⟩, false) by rw [flM, hr]; rfl)
    rw [HN.out]
    go_enter Tryd.func12, Tryd.ntmps12
    go_wp2_with (go_at_call 20; refine HR.out.mono ?_; rintro e w' ⟨rfl, hb⟩; rw [hr])
    go_ret2
    exact ⟨rfl, hb⟩
  · have HN := Lib.hid (show flM zs = (flB zs, true) by rw [flM, hr]; rfl)
    obtain ⟨h400, hd⟩ := recB_parts hr
    have HD := Lib.hid hd
    clear hd
    go_enter Tryd.func12, Tryd.ntmps12
    go_wp2_with fail
    refine HR.out.mono ?_
    rintro e w1 ⟨rfl, hb1⟩
    rw [hr]
    have HB1 := Lib.hid hb1
    have hz1 := hb1.size
    clear hb1 hr HR
    go_wp2
    go_loopw [4, 13] (fun v i wr => ∃ k : Nat, k ≤ zs.length ∧ i = .int .i64 k ∧ Hid (wr.ownsRow w.heap.size 9 1 v k (((zs.take k).map gS).map Value.string)) ∧ Hid (Below w.heap.size w wr)) (fun _ i _ => zs.length - (intOf i).toNat)
    case atStart => exact ⟨0, by omega, rfl, Lib.hid (own_emptyS _ _ hz1), Lib.hid (belA HB1.out)⟩
    case round =>
      obtain ⟨k, hk, rfl, HO, HB⟩ := hrel
      by_cases hlt : k < zs.length
      · obtain ⟨b, off, rfl, hb, hc⟩ := (HI.out.below HB.out).at_ hlt
        obtain ⟨z0, z1⟩ := digs_bd HD.out hlt
        obtain ⟨m, hm⟩ := Int.eq_ofNat_of_zero_le z0
        have HF := Lib.hid (gS_first hlt hm)
        rw [hm] at hc z1
        clear hm z0
        have i1 : (0 : Int) ≤ (k : Int) := by omega
        have i2 : (k : Int) < (zs.length : Int) := by omega
        have hm9 : m ≤ 9223372036854775807 := by omega
        go_wp2_with fail
        refine (itoa_any m hm9 _ (HT.out _ HB.out)).mono ?_
        rintro e w2 ⟨rfl, hb2⟩
        have HO2 := Lib.hid (ownBelow HO.out hb2)
        have HB2 := Lib.hid (belT HB.out hb2)
        have hz2 := HB2.out.size
        clear hb2
        go_wp2_with (at_builtin; refine appS rfl _ _ rfl rfl rfl HO2.out (by omega) hz2 ?_; intro v3 w3 hown3 hbel3)
        go_roundw
        case rel => exact ⟨k + 1, by omega, by go_num, Lib.hid (by rw [← HF.out]; exact hown3), Lib.hid (HB2.out.trans hbel3)⟩
        case measure => simp [intOf]; omega
      · have e : k = zs.length := by omega
        subst e
        rw [List.take_of_length_le (Nat.le_refl _)] at HO
        by_cases h0 : zs.length = 0
        · have HF : Hid (flB zs = ⟨#[45]⟩) := Lib.hid (by rw [flB, if_pos h0])
          have hz : ((zs.length : Int) == 0) = true := by simp [h0]
          have hz' : (zs.length : Int) = 0 := by omega
          obtain ⟨A3, c3, rfl⟩ := own_shape HO.out
          go_wp2
          go_ret2
          exact ⟨ret_sb (by rw [HN.out, HF.out]), HB.out⟩
        · have HF : Hid (flB zs = jK zs zs.length) := Lib.hid (by rw [flB, if_neg h0])
          have hz : ((zs.length : Int) == 0) = false := by rw [beq_eq_false_iff_ne]; omega
          have hz' : ¬ (zs.length : Int) = 0 := by omega
          obtain ⟨g, c3, rfl⟩ := Joins.ownsRow_form HO.out (by omega)
          go_wp2_with (go_at_call 21; refine (join_any g c3 _ zs _ HO.out (by omega) HD.out h400).mono ?_; rintro e w2 ⟨rfl, hb2⟩)
          go_ret2
          exact ⟨ret_sb (by rw [HN.out, HF.out]), belT HB.out hb2⟩
set_option maxRecDepth 100000 in
set_option maxHeartbeats 1600000 in
theorem sFormatList_any (A : Option Addr) (n c : Nat) (zs : List Int) (w : World) (h : Ints w A n zs) :
    Calls Tryd.prog 10 #[.slice A n c] w fun e w' => e = .returned (.tuple #[.string (flM zs).1, .bool (flM zs).2]) ∧ Below w.heap.size w w' := by
  have hl := h.len
  subst hl
  have HI := Lib.hid h
  have HR := Lib.hid (l4Record_any A zs.length c zs w h)
  clear h
  cases hr : recB zs
  · have HN := Lib.hid (show flM zs = (⟨#[]⟩, false) by rw [flM, hr]; rfl)
    rw [HN.out]
    go_enter Tryd.func10, Tryd.ntmps10
    go_wp2_with (go_at_call 18; refine HR.out.mono ?_; rintro e w' ⟨rfl, hb⟩; rw [hr])
    go_ret2
    exact ⟨rfl, hb⟩
  · have HN := Lib.hid (show flM zs = (flB zs, true) by rw [flM, hr]; rfl)
    have HX := Lib.hid hr
    go_enter Tryd.func10, Tryd.ntmps10
    go_wp2_with fail
    refine HR.out.mono ?_
    rintro e w1 ⟨rfl, hb1⟩
    rw [hr]
    have HI1 := Lib.hid (HI.out.below hb1)
    clear HI HR hr
    go_wp2_with (go_at_call 19; refine (l4Text_any A zs.length c zs _ HI1.out HX.out).mono ?_; rintro e w2 ⟨rfl, hb2⟩)
    go_ret2
    exact ⟨ret_sb HN.out.symm, belT hb1 hb2⟩
end Go.Proofs.YtaehldfhjfchhaaDoor
