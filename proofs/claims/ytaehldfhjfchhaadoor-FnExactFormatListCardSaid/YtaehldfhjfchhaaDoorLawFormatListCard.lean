/- The program's FormatList returns what the reference's FormatList returns, for all arguments: proved with no condition. -/
import Derived.Test.YtaehldfhjfchhaaDoorFn
import Derived.Test.YtaehldfhjfchhaaDoorLw
import Derived.Test.YtaehldfhjfchhaaDoorTie
import Derived.Test.YtaehldfhjfchhaaDoorCards
import Derived.LaidMore
import Derived.Stop.Joined
import Derived.Stop.LaidErr
import Derived.SevenTiedAt
namespace Go.Proofs.YtaehldfhjfchhaaDoor
open Go.ChangeShapes Go.WideShapes Go.ChangeAt Go.RowKit Go.Joins
open Go.ChangeMaps (open_string shut_string)
set_option linter.unusedVariables false
set_option maxHeartbeats 800000 in
theorem walk_FnExactFormatList (w : World) (A0 : Option Addr) (n0 c0 : Nat) (zs0 : List Int) (w0 : IsRow .i64 w A0 n0 c0 zs0) (htab : Lib.TabIs Tryd.prog w "internal/strconv.uint64pow10" .u64 Lib.pow10Tab) :
    Calls Tryd.prog 4 #[.slice A0 n0 c0] w fun e w' => e = .returned (.bool true) ∧ Below w.heap.size w w' := by
  have I0 := Ints.of_row w0
  have HT := Lib.hid (Lib.tabBelow_of_tabIs htab)
  clear htab
  clear w0
  generalize zs0.take n0 = z0 at I0
  by_cases big0 : 1048576 < n0
  · go_enter Tryd.func4, Tryd.ntmps4
    go_wp2
    go_ret
    exact ⟨rfl, (by repeat (first | exact Below.refl _ _ | assumption | refine belA ?_ | refine belD ?_ | refine belN ?_ | refine belS ?_ (by simp) | refine belT ?_ (by assumption)))⟩
  have hs := fun (A0 : Option Addr) (c0 : Nat) (W : World) (h0 : Ints W A0 n0 z0) => sFormatList_any A0 n0 c0 z0 W h0 
  have hi := fun (A0 : Option Addr) (c0 : Nat) (W : World) (h0 : Ints W A0 n0 z0) (hb : Below w.heap.size w W) => iFormatList_any A0 n0 c0 z0 W h0 (HT.out W hb)
  generalize (flM z0).1 = r0 at hs hi
  generalize (flM z0).2 = r1 at hs hi
  have Hs := Lib.hid hs
  have Hi := Lib.hid hi
  clear hs hi
  go_enter Tryd.func4, Tryd.ntmps4
  go_wp2_with fail
  refine (toIntS_any A0 n0 c0 z0 _ I0 (by omega)).mono ?_
  rintro e w1_ ⟨As0, cs0, rfl, Os0, hb1⟩
  replace I0 := I0.below hb1
  have hW := hb1
  have s0 := Own.mk' Os0
  clear Os0
  go_wp2_with fail
  refine (Hs.out As0 cs0 _ s0.ints).mono ?_
  rintro e w2_ ⟨rfl, hb2⟩
  replace I0 := I0.below hb2
  replace s0 := s0.below hb2
  replace hW := belT hW hb2
  clear s0
  go_wp2_with fail
  refine (toIntS_any A0 n0 c0 z0 _ I0 (by omega)).mono ?_
  rintro e w3_ ⟨Ax0_, cx0_, rfl, Ox0_, hb3⟩
  replace I0 := I0.below hb3
  replace hW := belT hW hb3
  have x0_ := Own.mk' Ox0_
  clear Ox0_
  go_wp2_with fail
  refine (Hi.out Ax0_ cx0_ _ x0_.ints hW).mono ?_
  rintro e w4_ ⟨rfl, hb4⟩
  replace I0 := I0.below hb4
  replace x0_ := x0_.below hb4
  replace hW := belT hW hb4
  go_wp2_with fail
  refine (toIntS_any A0 n0 c0 z0 _ I0 (by omega)).mono ?_
  rintro e w5_ ⟨Ay0_, cy0_, rfl, Oy0_, hb5⟩
  replace I0 := I0.below hb5
  replace x0_ := x0_.below hb5
  replace hW := belT hW hb5
  have y0_ := Own.mk' Oy0_
  clear Oy0_
  go_wp2_with fail
  refine (eqIntS_any Ax0_ Ay0_ n0 n0 cx0_ cy0_ z0 z0 _ x0_.ints y0_.ints).mono ?_
  rintro e w6_ ⟨rfl, hb6⟩
  replace I0 := I0.below hb6
  replace x0_ := x0_.below hb6
  replace y0_ := y0_.below hb6
  replace hW := belT hW hb6
  clear y0_
  go_wp2
  go_ret
  exact ⟨rfl, belT (by repeat (first | exact Below.refl _ _ | assumption | refine belA ?_ | refine belD ?_ | refine belN ?_ | refine belS ?_ (by simp) | refine belT ?_ (by assumption))) hW⟩

/-- the row's list -/
def laidF : List (String × DataW Unit) := [("math/bits.deBruijn32tab", Rows.laid_math_bits_deBruijn32tab), ("math/bits.deBruijn64tab", Rows.laid_math_bits_deBruijn64tab), ("internal/strconv.uint64pow10", Rows.laid_internal_strconv_uint64pow10)]
set_option maxRecDepth 100000 in
theorem door_metF (os : Os) (args : Array Value) : laidMetH Tryd.prog laidF ((World.doorLaid Tryd.prog 72 os).forCall (fun _ _ => 0) ⟨#[], args, []⟩).memory :=
  laidMetH_of_parts3 (fuel := 8) (laidMet_of_run' 8 (by kernel_rfl) (by kernel_rfl)) (by kernel_rfl) (by kernel_rfl)
theorem powData : (Rows.laid_internal_strconv_uint64pow10 : DataW Unit) = Lib.tabData .u64 Lib.pow10Tab := by kernel_rfl
theorem gPow : Tryd.prog.globalNamed "internal/strconv.uint64pow10" = some 3 := by kernel_rfl
theorem tPow : (Tryd.prog.globals[3]?).map (·.type) = some 92 := by kernel_rfl
set_option maxRecDepth 100000 in
theorem tab_of_laidF {W : World} (h : laidMetH Tryd.prog laidF W) : Lib.TabIs Tryd.prog W "internal/strconv.uint64pow10" .u64 Lib.pow10Tab := by
  rw [MakeChecks.laidMetH_plain _ _ _ (by kernel_rfl)] at h
  have h2 := h.tail.tail
  rw [powData] at h2
  exact Lib.tabIs_of_head gPow tPow Tryd.underlying92 Tryd.underlying69 (by kernel_rfl) (by kernel_rfl) h2

set_option maxRecDepth 100000 in
theorem lifted_FnExactFormatList (os : Os) (started : os.Started) (H : Type) (enc : TypeId × Value → H) :
    ReturnsInHanded {} Tryd.checked os 4 .any (fun w args => (Rows.fnExactFormatListSpec.pre enc Tryd.prog Tryd.f4 [] false w args ∧ laidMetH Tryd.prog laidF w) ∧ sizedMet enc Tryd.prog Tryd.f4 (OpenSpec.ofChange Rows.fnExactFormatListSpec) false w args) (Rows.fnExactFormatListSpec.post enc Tryd.prog Tryd.f4 false true false false) := by
  refine returnsInHanded_of_change_and (C := Tryd.checked) (X := fun w _ => laidMetH Tryd.prog laidF w) (fun _ _ _ hh h => h.of_heap hh) own started (by kernel_rfl) Tryd.func4
    (ChangeSpec.witness_shaped (enc := enc) (C := Tryd.checked) (os := os) (X := fun w _ => laidMetH Tryd.prog laidF w) false (World.doorLaid Tryd.prog 72 os) #[.slice none 0 0] 8 rfl (World.shaped_of_RefB (by kernel_rfl) (by kernel_rfl)) (by kernel_rfl) (by kernel_rfl) (by kernel_rfl) (door_metF os _)) ?_
  intro W base args ds gs before hval0 hW _ _ hL _
  have htab := tab_of_laidF hL
  have hval : ∀ (j : Nat) t v, Tryd.f4.params[j]? = some t → args[j]? = some v → Value.okWide Tryd.prog W .any base t v := hval0
  have hW' := hW
  obtain ⟨p, q, hA0, hV, rfl, hfz, hnd⟩ := hW
  have hA : DataW.TrodAll enc Tryd.prog W 0 (fun _ => true) true Tryd.f4.params.toList args.toList ds p := hA0
  rw [Tryd.params4] at hA hval
  obtain ⟨v0, vs0, d0, ds0, p0, q0, hargs, rfl, rfl, h0, r0⟩ := trodAll_cons hA
  obtain ⟨rfl, rfl, rfl⟩ := trodAll_nil r0
  obtain rfl : args = #[v0] := by cases args; simp_all
  obtain ⟨rfl, rfl⟩ := trodVars_none hV
  have k0 := h0
  have lt0 : ∀ x ∈ p0, x.block < W.heap.size := by obtain ⟨m, hm⟩ := k0; exact DataW.trod_lt m _ _ _ hm
  obtain ⟨a0, len0, cap0, rfl⟩ := okWide_slice Tryd.underlying22 (hval 0 22 v0 rfl rfl)
  obtain ⟨z0, w0⟩ : ∃ zs, IsRow .i64 W a0 len0 cap0 zs := by
    obtain ⟨fuel, hf⟩ := h0
    rcases open_ints Tryd.underlying22 Tryd.underlying3 (by kernel_rfl) hf with ⟨hcs, _⟩ | ⟨x, l, c, zs, hcs, _, hl, hm, hz, _, hcell, hwz⟩
    · simp [Value.cells] at hcs
      obtain ⟨rfl, rfl, rfl⟩ := hcs
      exact ⟨[], .inl ⟨rfl, rfl, rfl, rfl⟩⟩
    · simp [Value.cells] at hcs
      obtain ⟨rfl, rfl, rfl⟩ := hcs
      exact ⟨zs, .inr ⟨_, rfl, hl, hm, by simpa using hz, hcell, hwz⟩⟩
  clear hA0 hval0
  refine (walk_FnExactFormatList (w := W) a0 len0 cap0 z0 w0 htab).mono fun e W' ⟨he, bel⟩ => ?_
  subst he
  exact ⟨_, rfl, _, _, _, [], _, [], hW', trodAll_mk1 (shut_bool Tryd.underlying4 _), (trodAll_cons_mk (Below.trod laidOut (by kernel_rfl) (of_decide_eq_true (by kernel_rfl)) k0 bel lt0) trodAll_mk0), rfl, bel.frame _, fun h => by cases h⟩

theorem over_FnExactFormatList : Rows.fnExactFormatListRow.holds Tryd.pinned (OpenSpec.ofChange Rows.fnExactFormatListSpec) :=
  OpenClaim.holds_of_wide 4 Tryd.f4 rfl rfl rfl rfl rfl rfl rfl ⟨rfl, rfl, rfl, rfl, rfl⟩ rfl rfl rfl rfl rfl (by kernel_rfl) Tryd.func4 (by kernel_rfl)
    (of_decide_eq_true (by kernel_rfl)) (by unfold Func.isWrapper; first | (rw [if_pos (by decide +kernel)]; kernel_rfl) | (rw [if_neg (by decide +kernel)]; exact ⟨rfl, rfl⟩))
    (fun os started H enc _ => lifted_FnExactFormatList os started H enc)

set_option maxRecDepth 100000 in
theorem proved_FnExactFormatList : Rows.FnExactFormatListCardSaid :=
  Claim7.holds_tied_plain_at .later [] [.data, .data, .data] true (true, "002e64a993ebd256c0d40f2748e200c029441294f5425e92bb0aa8895d1c9358") true
    over_FnExactFormatList (fun _ h => by cases h) (by kernel_rfl) (fun _ h => by cases h) fnExactFormatList_row_tie rfl ⟨rfl, rfl⟩ (by kernel_rfl) rfl
    (fun f fn hf hfn => by
      obtain rfl : f = 4 := Option.some.inj ((show Tryd.prog.funcNamed "loop.example/g00878/laws.FnExactFormatList" = some 4 by kernel_rfl).symm.trans hf) |>.symm
      obtain rfl : fn = Tryd.f4 := (Option.some.inj (Tryd.func4.symm.trans hfn)).symm
      exact ⟨by kernel_rfl, fun j t ht => by
        rw [Tryd.params4] at ht
        have hm : t ∈ [22] := by simpa using Array.mem_of_getElem? ht
        have hall : ([22].all fun u => !Tryd.prog.wantsStandIn u) = true := by kernel_rfl
        exact (show Tryd.prog.wantsStandIn t = false by simpa using List.all_eq_true.1 hall t hm)⟩)
    (by kernel_rfl)
#print axioms proved_FnExactFormatList
end Go.Proofs.YtaehldfhjfchhaaDoor
