/- The program's ParseList returns what the reference's ParseList returns, for all arguments: proved with no condition. -/
import Derived.Test.YtaehldfhjfchhaaDoorPl4
import Derived.Test.YtaehldfhjfchhaaDoorLw
import Derived.Test.YtaehldfhjfchhaaDoorTie
import Derived.Test.YtaehldfhjfchhaaDoorCards
import Derived.LaidMore
import Derived.HandedShaped
import Derived.Lay
import Derived.Stop.Joined
import Derived.Stop.LaidErr
import Derived.SevenTiedAt
import Derived.Test.YtaehldfhjfchhaaDoorLm
namespace Go.Proofs.YtaehldfhjfchhaaDoor
open Go.ChangeShapes Go.WideShapes Go.ChangeAt Go.RowKit Go.Joins
open Go.ChangeMaps (open_string shut_string)
set_option linter.unusedVariables false
set_option maxHeartbeats 800000 in
theorem walk_FnExactParseList (w : World) (s0 : ByteArray) (w0 : s0.size ≤ maxLen) (E : Env w) :
    Calls Tryd.prog 3 #[.string s0] w fun e w' => e = .returned (.bool true) ∧ Below w.heap.size w w' := by
  by_cases big0 : 1048576 < s0.size
  · go_enter Tryd.func3, Tryd.ntmps3
    go_wp2
    go_ret
    exact ⟨rfl, (by repeat (first | exact Below.refl _ _ | assumption | refine belA ?_ | refine belD ?_ | refine belN ?_ | refine belS ?_ (by simp) | refine belT ?_ (by assumption)))⟩
  have hs := fun  (W : World)  => sParseList_any s0 W  (by omega)
  have HEN := Lib.hid E
  clear E
  have hi := fun (W : World) (hb : Below w.heap.size w W) => iParseList_any s0 W (by omega) (HEN.out.below hb)
  have L0 : (plM s0).1.length ≤ 4000000000000000000 := by (have := plM_len s0; omega)
  generalize (plM s0).1 = r0 at hs hi L0
  generalize (plM s0).2 = r1 at hs hi L0
  have Hs := Lib.hid hs
  have Hi := Lib.hid hi
  clear hs hi
  go_enter Tryd.func3, Tryd.ntmps3
  go_wp2_with fail
  refine (Hs.out  _ ).mono ?_
  rintro e w1_ ⟨Arw, crw, rfl, Orw, hb1⟩
  have hW := hb1
  have hsz1 := Lib.hid hb1.size
  have rw := Own.mk' Orw
  clear Orw
  go_wp2_with fail
  refine (Hi.out _ hW).mono ?_
  rintro e w2_ ⟨Arg, crg, rfl, Org, hb2⟩
  replace rw := rw.below hb2
  replace hW := belT hW hb2
  have hsz2 := Lib.hid hb2.size
  have rg := Own.mk' Org
  clear Org
  go_wp2_with fail
  refine (eqIntS_any Arg Arw _ _ crg crw r0 r0 _ rg.ints rw.ints).mono ?_
  rintro e w3_ ⟨rfl, hb3⟩
  replace rw := rw.below hb3
  replace rg := rg.below hb3
  replace hW := belT hW hb3
  have hsz3 := Lib.hid hb3.size
  go_wp2_with fail
  refine (markIntS_any Arg r0.length crg _ _ _ _ _ rg (by omega) (by omega) (by omega)).mono ?_
  rintro e w4_ ⟨rfl, Mrg, hg4⟩
  have hr4 := Lib.hid fun k (hk : (Value.slice Arg r0.length crg).ownBlock = some k) => And.intro (rg.own.lt k hk).1 (rg.lt k hk)
  replace rw := rw.grown hg4 (fun k hk => by have := hr4.out k hk; have := hsz1.out; have := hsz2.out; have := hsz3.out; omega)
  replace hW := below_of_grown hW hg4 hW.size (fun k hk => by have := hr4.out k hk; have := hsz1.out; have := hsz2.out; have := hsz3.out; omega)
  replace rg := Mrg
  clear Mrg
  have hsz4 := Lib.hid hg4.size
  clear hg4 hr4
  go_wp2_with fail
  refine (heldIntS_any Arg r0.length crg _ _ rg.ints (by omega) (by omega) (by omega)).mono ?_
  rintro e w5_ ⟨rfl, hb5⟩
  replace rw := rw.below hb5
  replace rg := rg.below hb5
  replace hW := belT hW hb5
  have hsz5 := Lib.hid hb5.size
  go_wp2_with fail
  refine (Hi.out _ hW).mono ?_
  rintro e w6_ ⟨Arh, crh, rfl, Orh, hb6⟩
  replace rw := rw.below hb6
  replace rg := rg.below hb6
  replace hW := belT hW hb6
  have hsz6 := Lib.hid hb6.size
  have rh := Own.mk' Orh
  clear Orh
  go_wp2_with fail
  refine (eqIntS_any Arh Arw _ _ crh crw r0 r0 _ rh.ints rw.ints).mono ?_
  rintro e w7_ ⟨rfl, hb7⟩
  replace rw := rw.below hb7
  replace rg := rg.below hb7
  replace rh := rh.below hb7
  replace hW := belT hW hb7
  have hsz7 := Lib.hid hb7.size
  clear rh
  clear rw
  go_wp2_with fail
  refine (heldIntS_any Arg r0.length crg _ _ rg.ints (by omega) (by omega) (by omega)).mono ?_
  rintro e w8_ ⟨rfl, hb8⟩
  replace rg := rg.below hb8
  replace hW := belT hW hb8
  have hsz8 := Lib.hid hb8.size
  go_wp2
  go_ret
  exact ⟨rfl, belT (by repeat (first | exact Below.refl _ _ | assumption | refine belA ?_ | refine belD ?_ | refine belN ?_ | refine belS ?_ (by simp) | refine belT ?_ (by assumption))) hW⟩

/-- the row's list -/
def laidP : List (String × DataW Unit) := [("math/bits.deBruijn32tab", Rows.laid_math_bits_deBruijn32tab), ("math/bits.deBruijn64tab", Rows.laid_math_bits_deBruijn64tab), ("internal/strconv.uint64pow10", Rows.laid_internal_strconv_uint64pow10), ("unicode/utf8.acceptRanges", Rows.laid_unicode_utf8_acceptRanges), ("strconv.ErrRange", Rows.laid_strconv_ErrRange), ("strconv.ErrSyntax", Rows.laid_strconv_ErrSyntax), ("unicode/utf8.first", Rows.laid_unicode_utf8_first)]
theorem powData : (Rows.laid_internal_strconv_uint64pow10 : DataW Unit) = Lib.tabData .u64 Lib.pow10Tab := by kernel_rfl
theorem tPow : (Tryd.prog.globals[3]?).map (·.type) = some 92 := by kernel_rfl
theorem tES : (Tryd.prog.globals[0]?).map (·.type) = some 35 := by kernel_rfl
theorem tER : (Tryd.prog.globals[1]?).map (·.type) = some 35 := by kernel_rfl
theorem starE : "*" ++ "errors.errorString" = "*errors.errorString" := by decide
theorem row88 (u : TypeId) (h : Tryd.prog.typeName? 3 u = some "*errors.errorString") : u = 88 :=
  typeName_ptr_named (nm := "errors.errorString") (by rw [starE]; kernel_rfl) (by kernel_rfl) (by decide) u (by rw [starE]; exact h)
set_option maxRecDepth 100000 in
theorem env_of_laid {W : World} (h : laidMetH Tryd.prog laidP W) (hsh : W.ShapedOpen Tryd.prog) : Env W := by
  rw [MakeChecks.laidMetH_plain _ _ _ (by kernel_rfl)] at h
  have h2 := h.tail.tail
  have h4 := h2.tail.tail
  have h5 := h4.tail
  rw [powData] at h2
  obtain ⟨a0, s0, hv0, _⟩ := laid_sentinel h4 gER tER Tryd.underlying35 row88 Tryd.underlying88 Tryd.underlying90 rfl rfl Tryd.underlying9 (by kernel_rfl) (by kernel_rfl)
  obtain ⟨a1, s1, hv1, _⟩ := laid_sentinel h5 gES tES Tryd.underlying35 row88 Tryd.underlying88 Tryd.underlying90 rfl rfl Tryd.underlying9 (by kernel_rfl) (by kernel_rfl)
  exact ⟨Lib.tabIs_of_head gTab tPow Tryd.underlying92 Tryd.underlying69 (by kernel_rfl) (by kernel_rfl) h2, ⟨_, _, hv1⟩, ⟨_, _, hv0⟩, Tryd.laysM147.s1_3 W hsh⟩

/-- the plain wrap: a condition on memory, and the world's shape kept -/
theorem handed_and_shaped {H : Type} {enc : TypeId × Value → H} {a : Assume} {C : Checked} {os : Os} {f : FuncId} {fn : Func} {s : ChangeSpec} {conds : List PathCond} {apart fresh handsOn again : Bool} {X : World → Array Value → Prop}
    (hX : ∀ (w w' : World) (args : Array Value), w.heap = w'.heap → X w args → X w' args)
    (own : ownKnob C.prog.godebug = none) (started : os.Started) (noInit : C.prog.inits.idxOf? f = none) (hfn : C.prog.funcs[f]? = some fn)
    (witness : ∃ (w : World) (tape : Tape) (i : Input), w.os = os ∧ (w.forCall tape i).Shaped C.prog ∧ i.vars = [] ∧ Input.okWide C.prog (w.forCall tape i) .any w.heap.size f i ∧
      ((s.pre enc C.prog fn conds apart (w.forCall tape i).memory i.args ∧ X (w.forCall tape i).memory i.args) ∧ sizedMet enc C.prog fn (OpenSpec.ofChange s) apart (w.forCall tape i).memory i.args) ∧ a.holds C.prog (lone (Frame.enter C.prog f i.args .normal) [] (w.forCall tape i)))
    (contract : ∀ (W : World) (base : Nat) (args : Array Value) (ds gs : List (DataW H)) (before : List MemPlace),
      (∀ (j : Nat) t v, fn.params[j]? = some t → args[j]? = some v → Value.okWide C.prog W .any base t v) →
      DataW.Whole enc C.prog fn.params.toList s.vars apart W args.toList ds gs before →
      W.ShapedOpen C.prog → X W args →
      a.holds C.prog (lone (Frame.enter C.prog f args .normal) [] W) →
      Calls C.prog f args W fun e W' => ∃ v, e = .returned v ∧ s.post enc C.prog fn apart fresh handsOn again W args v W') :
    ReturnsInHanded a C os f .any (fun w args => (s.pre enc C.prog fn conds apart w args ∧ X w args) ∧ sizedMet enc C.prog fn (OpenSpec.ofChange s) apart w args) (s.post enc C.prog fn apart fresh handsOn again) := by
  refine returnsInHanded_of_calls own started noInit witness ?_
  intro w tape i _ hsh _ hok hpre hholds
  obtain ⟨_, _, _, fn', hfn', _, _, _, _, hval⟩ := hok
  have e : fn' = fn := Option.some.inj (hfn'.symm.trans hfn)
  subst e
  obtain ⟨⟨⟨ds, gs, before, hw, hc⟩, hx⟩, hz⟩ := hpre
  have hw' := DataW.Whole.of_heap (w' := w.forCall tape i) (by rfl) hw
  refine (contract (w.forCall tape i) w.heap.size i.args ds gs before hval hw' hsh (hX _ _ _ (by rfl) hx) hholds).mono fun e W' ⟨v, he, hp⟩ => ?_
  subst he
  exact ChangeSpec.post_blind hp

set_option maxRecDepth 100000 in
theorem lifted_FnExactParseList (os : Os) (started : os.Started) (H : Type) (enc : TypeId × Value → H) :
    ReturnsInHanded {} Tryd.checked os 3 .any (fun w args => (Rows.fnExactParseListSpec.pre enc Tryd.prog Tryd.f3 [] false w args ∧ laidMetH Tryd.prog laidP w) ∧ sizedMet enc Tryd.prog Tryd.f3 (OpenSpec.ofChange Rows.fnExactParseListSpec) false w args) (Rows.fnExactParseListSpec.post enc Tryd.prog Tryd.f3 false true false false) := by
  refine handed_and_shaped (C := Tryd.checked) (X := fun w _ => laidMetH Tryd.prog laidP w) (fun _ _ _ hh h => h.of_heap hh) own started (by kernel_rfl) Tryd.func3
    (ChangeSpec.witness_shaped (enc := enc) (C := Tryd.checked) (os := os) (X := fun w _ => laidMetH Tryd.prog laidP w) false (World.laidAll Tryd.prog os laidP) #[.string ByteArray.empty] 8 (World.laidAll_os _ _ _) (World.shaped_of_ZipB (by kernel_rfl) (by kernel_rfl)) (by kernel_rfl) (by kernel_rfl) (by kernel_rfl) (by rw [MakeChecks.laidMetH_plain _ _ _ (by kernel_rfl)]; exact laidMet_laidAll _ (by kernel_rfl) (by kernel_rfl))) ?_
  intro W base args ds gs before hval0 hW hsh hL _
  have henv := env_of_laid hL hsh
  have hval : ∀ (j : Nat) t v, Tryd.f3.params[j]? = some t → args[j]? = some v → Value.okWide Tryd.prog W .any base t v := hval0
  have hW' := hW
  obtain ⟨p, q, hA0, hV, rfl, hfz, hnd⟩ := hW
  have hA : DataW.TrodAll enc Tryd.prog W 0 (fun _ => true) true Tryd.f3.params.toList args.toList ds p := hA0
  rw [Tryd.params3] at hA hval
  obtain ⟨v0, vs0, d0, ds0, p0, q0, hargs, rfl, rfl, h0, r0⟩ := trodAll_cons hA
  obtain ⟨rfl, rfl, rfl⟩ := trodAll_nil r0
  obtain rfl : args = #[v0] := by cases args; simp_all
  obtain ⟨rfl, rfl⟩ := trodVars_none hV
  have k0 := h0
  have lt0 : ∀ x ∈ p0, x.block < W.heap.size := by obtain ⟨m, hm⟩ := k0; exact DataW.trod_lt m _ _ _ hm
  obtain ⟨s0, rfl, rfl, rfl, w0⟩ := open_string Tryd.underlying9 (hval 0 9 v0 rfl rfl) h0
  clear hA0 hval0
  refine (walk_FnExactParseList (w := W) s0 w0 henv).mono fun e W' ⟨he, bel⟩ => ?_
  subst he
  exact ⟨_, rfl, _, _, _, [], _, [], hW', trodAll_mk1 (shut_bool Tryd.underlying4 _), (trodAll_cons_mk (Below.trod laidOut (by kernel_rfl) (of_decide_eq_true (by kernel_rfl)) k0 bel lt0) trodAll_mk0), rfl, bel.frame _, fun h => by cases h⟩

theorem over_FnExactParseList : Rows.fnExactParseListRow.holds Tryd.pinned (OpenSpec.ofChange Rows.fnExactParseListSpec) :=
  OpenClaim.holds_of_wide 3 Tryd.f3 rfl rfl rfl rfl rfl rfl rfl ⟨rfl, rfl, rfl, rfl, rfl⟩ rfl rfl rfl rfl rfl (by kernel_rfl) Tryd.func3 (by kernel_rfl)
    (of_decide_eq_true (by kernel_rfl)) (by unfold Func.isWrapper; first | (rw [if_pos (by decide +kernel)]; kernel_rfl) | (rw [if_neg (by decide +kernel)]; exact ⟨rfl, rfl⟩))
    (fun os started H enc _ => lifted_FnExactParseList os started H enc)

set_option maxRecDepth 100000 in
theorem proved_FnExactParseList : Rows.FnExactParseListCardSaid :=
  Claim7.holds_tied_plain_at .later [] [.data, .data, .data, .data, .sentinel, .sentinel, .pinned] true (true, "002e64a993ebd256c0d40f2748e200c029441294f5425e92bb0aa8895d1c9358") true
    over_FnExactParseList (fun _ h => by cases h) (by kernel_rfl) (fun _ h => by cases h) fnExactParseList_row_tie rfl ⟨rfl, rfl⟩ (by kernel_rfl) rfl
    (fun f fn hf hfn => by
      obtain rfl : f = 3 := Option.some.inj ((show Tryd.prog.funcNamed "loop.example/g00878/laws.FnExactParseList" = some 3 by kernel_rfl).symm.trans hf) |>.symm
      obtain rfl : fn = Tryd.f3 := (Option.some.inj (Tryd.func3.symm.trans hfn)).symm
      exact ⟨by kernel_rfl, fun j t ht => by
        rw [Tryd.params3] at ht
        have hm : t ∈ [9] := by simpa using Array.mem_of_getElem? ht
        have hall : ([9].all fun u => !Tryd.prog.wantsStandIn u) = true := by kernel_rfl
        exact (show Tryd.prog.wantsStandIn t = false by simpa using List.all_eq_true.1 hall t hm)⟩)
    (by kernel_rfl)
#print axioms proved_FnExactParseList
end Go.Proofs.YtaehldfhjfchhaaDoor
