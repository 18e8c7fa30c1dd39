/- Contracts: the program's ParseList. -/
import Derived.Test.YtaehldfhjfchhaaDoorPl2
import Derived.Test.YtaehldfhjfchhaaDoorShelfP
namespace Go.Proofs.YtaehldfhjfchhaaDoor
open Go.RowKit
set_option linter.unusedVariables false
set_option linter.unusedSimpArgs false

/-! ## the plain law -/
def vB (x : ByteArray) : Int := (cv x.data.toList).getD 0
theorem iL_bad {ws : List ByteArray} {k : Nat} (hk : k < ws.length) (h : cv (ws.getD k ⟨#[]⟩).data.toList = none) : iL (ws.map (·.data.toList)) = ([], false) := by
  have hm : ws.getD k ⟨#[]⟩ ∈ ws := getD_mem hk
  unfold iL
  rw [if_neg]
  intro ha
  have := List.all_eq_true.1 ha _ (List.mem_map_of_mem (f := fun x : ByteArray => x.data.toList) hm)
  rw [h] at this
  cases this
theorem iL_good {ws : List ByteArray} (h : ∀ j, j < ws.length → (cv (ws.getD j ⟨#[]⟩).data.toList).isSome = true) : iL (ws.map (·.data.toList)) = recM (ws.map vB) := by
  unfold iL recM
  rw [if_pos, List.map_map]
  · rfl
  · rw [List.all_eq_true]
    intro x hx
    obtain ⟨y, hy, rfl⟩ := List.mem_map.1 hx
    obtain ⟨j, hj, rfl⟩ := List.getElem_of_mem hy
    have := h j hj
    rwa [List.getD_eq_getElem?_getD, List.getElem?_eq_getElem hj] at this
theorem plM_split {s : ByteArray} (hs : ¬ s = ⟨#[45]⟩) {ws : List ByteArray} (h : ws.map (·.data.toList) = Lib.splitK [44] 0 (min 401 (s.size + 1) - 1) s.data.toList) : plM s = iL (ws.map (·.data.toList)) := by
  rw [plM, if_neg hs, h]
  exact (iL_split s.data.toList).symm
theorem wordK_le {s : ByteArray} {ws : List ByteArray} {K : Nat} (h : ws.map (·.data.toList) = Lib.splitK [44] 0 K s.data.toList) {k : Nat} (hk : k < ws.length) : (ws.getD k ⟨#[]⟩).size ≤ s.size := by
  have hm : ws.getD k ⟨#[]⟩ ∈ ws := getD_mem hk
  have hm2 : (ws.getD k ⟨#[]⟩).data.toList ∈ Lib.splitK [44] 0 K s.data.toList := by rw [← h]; exact List.mem_map_of_mem (f := fun x : ByteArray => x.data.toList) hm
  exact spK_le _ _ _ hm2

/-! ## what the call finds -/
structure Env (w : World) : Prop where
  tab : Lib.TabIs Tryd.prog w "internal/strconv.uint64pow10" .u64 Lib.pow10Tab
  es : ∃ tp p, w.var? Tryd.prog "strconv.ErrSyntax" = some #[.iface tp p]
  er : ∃ tp p, w.var? Tryd.prog "strconv.ErrRange" = some #[.iface tp p]
  ml : ∃ m, w.cell? ⟨2, 0, none⟩ = some (.int .i64 m)
theorem gTab : Tryd.prog.globalNamed "internal/strconv.uint64pow10" = some 3 := by kernel_rfl
theorem gES : Tryd.prog.globalNamed "strconv.ErrSyntax" = some 0 := by kernel_rfl
theorem gER : Tryd.prog.globalNamed "strconv.ErrRange" = some 1 := by kernel_rfl
theorem Env.below {w w' : World} (h : Env w) (hb : Below w.heap.size w w') : Env w' := by
  obtain ⟨h1, ⟨tp, p, h2⟩, ⟨tq, q, h3⟩, ⟨m, h4⟩⟩ := h
  exact ⟨Joins.tab_stays gTab h1 hb (Nat.le_refl _), ⟨tp, p, Joins.var_stays gES h2 hb (Nat.le_refl _)⟩, ⟨tq, q, Joins.var_stays gER h3 hb (Nat.le_refl _)⟩, ⟨m, keepB hb h4⟩⟩

theorem itoaI_any (v : Int) (h0 : -9223372036854775808 ≤ v) (h1 : v ≤ 9223372036854775807) (W : World) (E : Env W) :
    Calls Tryd.prog 16 #[.int .i64 v] W fun e w' => e = .returned (.string ⟨(Lib.itoa v).toArray⟩) ∧ Below W.heap.size W w' := by
  refine (Tryd.strconv_Itoa v h0 h1 W E.tab).mono ?_
  rintro e w' ⟨rfl, k, os, rfl⟩
  exact ⟨rfl, Lib.below_grow _ _ (Nat.le_refl _) _ _⟩
theorem atoi_good (s : ByteArray) (hs : s.size ≤ 2000000) (v : Int) (h : Lib.atoiAll s.data.toList = .ok v) (W : World) :
    Calls Tryd.prog 15 #[.string s] W fun e w' => e = .returned (.tuple #[.int .i64 v, .nilIface]) ∧ Below W.heap.size W w' := by
  refine (Tryd.strconv_Atoi_ok s (by omega) v h W).mono ?_
  rintro e w' ⟨rfl, rfl | ⟨t, rfl⟩⟩
  · exact ⟨rfl, Below.refl _ _⟩
  · exact ⟨rfl, Joins.below_bytesWorld _ _ _ _ (Nat.le_refl _)⟩
theorem atoi_bad (s : ByteArray) (hs : s.size ≤ 2000000) (h : ∀ v, Lib.atoiAll s.data.toList ≠ .ok v) (W : World) (E : Env W) :
    Calls Tryd.prog 15 #[.string s] W fun e w' => ∃ x tp N, e = .returned (.tuple #[.int .i64 x, .iface tp (.pointer (some ⟨N, 0, none⟩))]) ∧ Below W.heap.size W w' := by
  obtain ⟨tp, p, h2⟩ := E.es
  obtain ⟨tq, q, h3⟩ := E.er
  rcases hc : Lib.atoiAll s.data.toList with v | _ | _
  · exact absurd hc (h v)
  · refine (Any.strconv_Atoi_syntax_var Tryd.laysC172 s (by omega) hc tp p W h2).mono ?_
    rintro e w' ⟨N, rfl, _, _, hb⟩
    exact ⟨_, _, N, rfl, hb⟩
  · refine (Tryd.strconv_Atoi_range_var s (by omega) hc tq q W h3).mono ?_
    rintro e w' ⟨N, rfl, _, _, hb⟩
    exact ⟨_, _, N, rfl, hb⟩
theorem splitN_any (s : ByteArray) (hs : s.size ≤ 2000000) (W : World) (E : Env W) :
    Calls Tryd.prog 14 #[.string s, .string ⟨#[44]⟩, .int .i64 401] W fun e w' => ∃ (A : Option Addr) (c : Nat) (ws : List ByteArray), e = .returned (.slice A ws.length c) ∧ ws.length ≤ 401 ∧ ws.map (·.data.toList) = Lib.splitK [44] 0 (min 401 (s.size + 1) - 1) s.data.toList ∧ w'.ownsRow W.heap.size 9 1 (.slice A ws.length c) ws.length (ws.map Value.string) ∧ Below W.heap.size W w' := by
  obtain ⟨m, hm⟩ := E.ml
  refine (Tryd.strings_SplitN s ⟨#[44]⟩ 401 m W (by omega) hm (by decide) (by omega) (by omega)).mono ?_
  rintro e w' ⟨rfl, rfl⟩
  have hlen := Lib.splitB_length_le ⟨#[44]⟩ 0 (min 401 (s.size + 1) - 1) s
  have hd := Lib.splitB_data ⟨#[44]⟩ 0 (min 401 (s.size + 1) - 1) s
  generalize Lib.splitB ⟨#[44]⟩ 0 (min 401 (s.size + 1) - 1) s = ws at hlen hd ⊢
  refine ⟨_, _, ws, rfl, by omega, hd, ?_, belA (Below.refl _ _)⟩
  have hm2 : min 401 (s.size + 1) ≤ 401 := by omega
  have hm3 : ws.length ≤ min 401 (s.size + 1) := by omega
  generalize min 401 (s.size + 1) = N at hm2 hm3
  refine ⟨by simp, .inr ⟨W.heap.size, N, Lib.cellsOf ws N, rfl, Nat.le_refl _, heap_alloc_new W _, hm3, by unfold maxLen; omega, by rw [Lib.cellsOf_size hm3, Nat.mul_one], ?_⟩⟩
  show (ws.map Value.string ++ List.replicate _ _).take (ws.length * 1) = _
  rw [Nat.mul_one, List.take_append_of_le_length (by simp), List.take_of_length_le (by simp)]
end Go.Proofs.YtaehldfhjfchhaaDoor
