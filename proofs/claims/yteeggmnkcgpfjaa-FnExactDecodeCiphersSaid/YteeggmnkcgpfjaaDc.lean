/- Contracts of both sides: DecodeCiphers. -/
import Derived.Test.YteeggmnkcgpfjaaDcN
import Derived.Test.YteeggmnkcgpfjaaCn
import Derived.Test.YteeggmnkcgpfjaaShelf
import Derived.Deep.RegionHeld3
import Derived.Deep.DrawnRows
namespace Go.Proofs.Yteeggmnkcgpfjaa
open Go.RowKit
set_option linter.unusedVariables false
attribute [local go_sem ↓] Go.wp_at_zero Go.wp_at_succ
set_option linter.unusedSimpArgs false

/-- ciphertexts of the call's own, and a truth value, as a result -/
def RCi (w : World) (r : List (Int × Int) × Bool) (e : Ending) (w' : World) : Prop :=
  ∃ B cc, e = .returned (.tuple #[.slice B r.1.length cc, .bool r.2]) ∧ w'.ownsRow w.heap.size 104 2 (.slice B r.1.length cc) r.1.length (cellsL r.1) ∧ Below w.heap.size w w'
theorem RCi.no {w w' : World} {r : List (Int × Int) × Bool} (hr : r = ([], false)) (hb : Below w.heap.size w w') : RCi w r (.returned (.tuple #[.slice none 0 0, .bool false])) w' := by
  subst hr
  exact ⟨none, 0, rfl, ownC_nil _ _, hb⟩
theorem RCi.yes {w w' : World} {r : List (Int × Int) × Bool} {l : List (Int × Int)} {B : Option Addr} {n cc : Nat} (hr : r = (l, true)) (hl : l.length = n) (ho : w'.ownsRow w.heap.size 104 2 (.slice B n cc) n (cellsL l)) (hb : Below w.heap.size w w') : RCi w r (.returned (.tuple #[.slice B n cc, .bool true])) w' := by
  subst hr
  subst hl
  exact ⟨B, cc, rfl, ho, hb⟩
theorem appC {B : Nat} {W : World} {ops : Array Oper} {rest : List Oper} {o : Oper} {a : Act} {Q : Exit → Act → World → Prop} {v : Value} {m g : Nat} {l : List (Int × Int)} {x y : Int} (hgd : o.guard = none) (s z : Operand)
    (ho : o.op = .call { callee := .builtin .append, args := #[s, z], argTypes := #[46, 46] }) (hs : a.eval s = v) (hx : a.eval z = .slice (some ⟨g, 0, none⟩) 1 1)
    (h0 : W.cell? ⟨g, 0, none⟩ = some (.int .i64 x)) (h1 : W.cell? ⟨g, 1, none⟩ = some (.int .i64 y)) (hown : W.ownsRow B 104 2 v m (cellsL l)) (hn : m ≤ 1000000000) (hB : B ≤ W.heap.size)
    (h : ∀ A' c' w', w'.ownsRow B 104 2 (.slice A' (m + 1) c') (m + 1) (cellsL (l ++ [(x, y)])) → W.grownBy w' v.ownBlock → wpList Try.prog ops Q rest (a.put o.dst (.slice A' (m + 1) c')) w') :
    wpList Try.prog ops Q (o :: rest) a W :=
  wpList_plain hgd fun K hK => by
    have hst := step_appC (Q := Q) (ops := #[]) (E := True) hgd s z ho hs hx h0 h1 hown hn hB (fun A' c' w' h2 h3 => hK _ _ (h A' c' w' h2 h3))
    rwa [if_pos (by simp [Region.wanted, hgd])] at hst
theorem own_moved {W W' : World} {B e s n b : Nat} {v : Value} {xs : List Value} (h : W.ownsRow B e s v n xs) (hg : W.grownBy W' (some b)) (hb : b < B) : W'.ownsRow B e s v n xs :=
  h.kept hg (by
    cases hv : v.ownBlock with
    | none => exact .inl rfl
    | some k => exact .inr (by intro e; injection e with e; have := (h.lt k hv).1; omega))
theorem next_drop (zs : List Int) (b i : Nat) (ok : Bool) (W : World) (hr : RD W b (zs.drop i) (ok && decide (i ≤ zs.length))) :
    Calls Try.prog 81 #[.pointer (some ⟨b, 0, none⟩)] W fun e W' => e = .returned (.int .i64 (zs.getD i 0)) ∧ RD W' b (zs.drop (i + 1)) (ok && decide (i + 1 ≤ zs.length)) ∧ W.grownBy W' (some b) := by
  have := next_any b (zs.drop i) (ok && decide (i ≤ zs.length)) W hr
  rwa [head_drop, tail_drop', ok_drop] at this
theorem heldTake {P : Program} {md : Region.Mode} {ops : Array Oper} {Q : Exit → Act → World → Prop} {S : World → Prop} {i k : Nat} {oi : Oper} {v : Value} {l : Array Bool} {a : Act} {w : World} (d : Option Tmp) (hi : ops[i]? = some oi) (hd : oi.dst = d)
    (hs : Region.noSelect ops = true) (hf : Region.free md ops l i = true) (hr : (Region.ready md ops l).contains i = true) (hQ : ∀ c a w, Q (.panic c) (a.put d v) w → Q (.panic c) a w)
    (hy : YieldsIf P ops S oi v a) (hS : S w) (h : wpAnyH P md ops Q S k (l.setIfInBounds i true) (a.put d v) w) : wpAnyH P md ops Q S (k + 1) l a w := by
  subst hd
  exact wpAnyH_take hi hs hf hr hQ hy hS h
theorem own_allocD {B B' : Nat} {a W : World} {o : Obj} {e s n : Nat} {v : Value} {xs : List Value} (h : Below B a (W.alloc o).drew) (ho : W.drew.ownsRow B' e s v n xs) : (W.alloc o).drew.ownsRow B' e s v n xs := World.ownsRow.alloc (w := W) ho _
theorem rec_head2 {zs : List Int} (h : recB zs = true) : zs.headD 0 ≤ 4611686018427387903 := by
  cases zs with
  | nil => simp
  | cons n t => exact (inB_true (recB_cons h).2.1).2
theorem dcM_no {zs : List Int} (h : dcB zs = false) : dcM zs = ([], false) := by rw [dcM, h]; rfl
theorem dcM_yes {zs : List Int} (h : dcB zs = true) : dcM zs = (pairK zs (dcN zs), true) := by rw [dcM, h, (dc_yes h).1]; rfl

theorem equal_self (A A' : Option Addr) (n c c' : Nat) (zs : List Int) (w : World) (h : Ints w A n zs) (h' : Ints w A' n zs) (hn : 0 < n) :
    Calls Try.prog 83 #[.slice A n c, .slice A' n c'] w fun e w' => e = .returned (.bool true) ∧ Below w.heap.size w w' := by
  have hle := h.le
  obtain ⟨l1, _, h1⟩ := h
  obtain ⟨l2, _, h2⟩ := h'
  obtain ⟨b, off, rfl, hb, hc⟩ := h1 hn
  obtain ⟨b', off', rfl, hb', hc'⟩ := h2 hn
  refine (Try.slices_Equal_int b off n c b' off' n c' zs zs w (by omega) (by omega) hle hle (fun j hj => hc j (by omega)) (fun j hj => hc' j (by omega))).mono ?_
  rintro e w' ⟨rfl, q, rfl⟩
  exact ⟨ret_bool (by simp), belN (Below.refl _ _)⟩
set_option maxRecDepth 100000 in
set_option maxHeartbeats 1600000 in
theorem iDecodeCiphers_rc (A : Option Addr) (n c : Nat) (zs : List Int) (w : World) (h : Ints w A n zs) (hk : CapW w A n c) (hn : n ≤ 2000000) :
    Calls Try.prog 32 #[.slice A n c] w (RCi w (dcM zs)) := by
  have hl := h.len
  subst hl
  have HI := Lib.hid h
  have HC := Lib.hid hk
  clear h hk
  have HE := Lib.hid (dc_ends zs)
  have HNO := Lib.hid (dcM_no (zs := zs))
  have HYES := Lib.hid (fun h => And.intro (dcM_yes (zs := zs) h) (dc_yes h))
  have HNX := Lib.hid (next_drop zs)
  go_enter Try.func32, Try.ntmps32
  go_wp2_with fail
  refine (isRecord_any A zs.length c zs _ HI.out).mono ?_
  rintro e w1 ⟨rfl, hb1⟩
  have HB1 := Lib.hid hb1
  have hs1 := hb1.size
  have HR1 : Hid (RD (w1.alloc (.cells #[.slice A zs.length c, .bool (recB zs)] 99)) w1.heap.size zs (recB zs)) := Lib.hid (RD.new (HI.out.below hb1) HC.out.1 (fun a e => Nat.lt_of_lt_of_le (HC.out.2 a e) hb1.size))
  clear hb1
  generalize recB zs = ok at HR1 HE
  have HR2 : Hid (RD (w1.alloc (.cells #[.slice A zs.length c, .bool ok] 99)) w1.heap.size (zs.drop 0) (ok && decide (0 ≤ zs.length))) := Lib.hid (by simpa using HR1.out)
  go_wp2_with fail
  refine (HNX.out w1.heap.size 0 ok _ (HR2.out.below (belA (Below.refl _ _)))).mono ?_
  rintro e w2 ⟨rfl, hr3, hg3⟩
  have HM : Hid (dcN zs = (min (zs.getD 0 0) (zs.length : Int)).toNat) := Lib.hid (by unfold dcN; rw [← head_drop, List.drop_zero])
  generalize zs.getD 0 0 = d at HM
  have HR3 := Lib.hid hr3
  have hz2 : w1.heap.size + 2 ≤ w2.heap.size := by have := hg3.size; simp at this; omega
  have HO3 : Hid (w2.ownsRow (w1.heap.size + 1) 104 2 (.slice (some ⟨w1.heap.size + 1, 0, none⟩) 0 0) 0 (cellsL [])) := Lib.hid (own_moved (b := w1.heap.size) (by
    have := ownC_empty (w1.alloc (.cells #[.slice A zs.length c, .bool ok] 99)) (w1.heap.size + 1) (by simp)
    simpa using this) hg3 (by omega))
  have HB3 : Hid (Below w.heap.size w w2) := Lib.hid (bel_of_grown (belA (belA HB1.out)) hg3 hs1 (by simp; omega))
  clear hr3 hg3 HR1 HR2 HB1
  have hle := HI.out.le
  go_wp2
  go_loopw [5, 19] (fun v i wr => ∃ k : Nat, k ≤ dcN zs ∧ i = .int .i64 k ∧ Hid (wr.ownsRow (w1.heap.size + 1) 104 2 v k (cellsL (pairK zs k))) ∧ Hid (RD wr w1.heap.size (zs.drop (1 + 2 * k)) (ok && decide (1 + 2 * k ≤ zs.length))) ∧ Hid (Below w.heap.size w wr) ∧ Hid (w1.heap.size + 2 ≤ wr.heap.size)) (fun _ i _ => dcN zs - (intOf i).toNat)
  case atStart => exact ⟨0, by omega, rfl, HO3, HR3, HB3, Lib.hid hz2⟩
  case round =>
    clear HO3 HR3 HB3 hz2
    obtain ⟨k, hk, rfl, HO, HR, HB, HS⟩ := hrel
    obtain ⟨C, oc, rfl⟩ := own_shapeC HO.out
    have hmm := HM.out
    by_cases hlt : k < dcN zs
    · have i1 : (k : Int) < min d (zs.length : Int) := by omega
      clear hmm
      have HPS := Lib.hid (pairK_succ zs k)
      go_wp2_with fail
      refine (HNX.out w1.heap.size (1 + 2 * k) ok _ HR.out).mono ?_
      rintro e w3 ⟨rfl, hr4, hg4⟩
      generalize zs.getD (1 + 2 * k) 0 = x at HPS
      have HR4 : Hid (RD w3 w1.heap.size (zs.drop (2 + 2 * k)) (ok && decide (2 + 2 * k ≤ zs.length))) := Lib.hid (by rw [show 2 + 2 * k = 1 + 2 * k + 1 from by omega]; exact hr4)
      have HO4 := Lib.hid (own_moved HO.out hg4 (by omega))
      have HB4 := Lib.hid (bel_of_grown HB.out hg4 hs1 (by have := HS.out; omega))
      have HS4 := Lib.hid (show w1.heap.size + 2 ≤ w3.heap.size from by have := HS.out; have := hg4.size; omega)
      clear hr4 hg4
      go_wp2_with fail
      refine (HNX.out w1.heap.size (2 + 2 * k) ok _ HR4.out).mono ?_
      rintro e w4 ⟨rfl, hr5, hg5⟩
      have HR5 : Hid (RD w4 w1.heap.size (zs.drop (1 + 2 * (k + 1))) (ok && decide (1 + 2 * (k + 1) ≤ zs.length))) := Lib.hid (by rw [show 1 + 2 * (k + 1) = 2 + 2 * k + 1 from by omega]; exact hr5)
      have HO5 := Lib.hid (own_moved HO4.out hg5 (by omega))
      have HB5 := Lib.hid (bel_of_grown HB4.out hg5 hs1 (by have := HS4.out; omega))
      have HS5 := Lib.hid (show w1.heap.size + 2 ≤ w4.heap.size from by have := HS4.out; have := hg5.size; omega)
      clear hr5 hg5 HR4 HO4 HB4 HS4
      generalize zs.getD (2 + 2 * k) 0 = y at HPS
      go_wp2_with (at_builtin; refine appC rfl _ _ rfl rfl rfl (by rw [World.cell?_alloc_at _ _ _ _ (by simp)]; rfl) (by rw [World.cell?_alloc_at _ _ _ _ (by simp)]; rfl) (HO5.out.alloc _) (by omega) (by have := HS5.out; simp; omega) ?_; intro A6 c6 w6 hown6 hg6)
      go_roundw
      case rel => exact ⟨k + 1, by omega, by go_num, Lib.hid (by rw [HPS.out]; exact hown6), Lib.hid ((HR5.out.below (belA (Below.refl _ _))).keep (own_below (Below.refl (w1.heap.size + 1) _) (by have := HS5.out; simp; omega) (HO5.out.alloc _) hg6) (by omega)), Lib.hid (own_below (belA HB5.out) (by have := HS5.out; simp; omega) (ownDown (HO5.out.alloc _) (by omega)) hg6), Lib.hid (by have := HS5.out; have := hg6.size; simp at this; omega)⟩
      case measure => simp [intOf]; omega
    · have e : k = dcN zs := by omega
      have i1 : ¬ (k : Int) < min d (zs.length : Int) := by omega
      clear hmm
      have HK := Lib.hid e
      rw [← e] at HE HYES
      clear e
      cases hdc : dcB zs
      · have HN := Lib.hid (HNO.out hdc)
        go_wp2_with fail
        refine (iEncodeCiphers_ri C k oc (pairK zs k) _ (OwnD.of_own HO.out).cips (by have h1 := HK.out; have h2 : dcN zs ≤ zs.length := (by unfold dcN; omega); omega)).mono ?_
        rintro e w5 ⟨B5, c5, rfl, ho5, hb5⟩
        have HR5 := Lib.hid (HR.out.below hb5)
        have HB5 := Lib.hid (belT HB.out hb5)
        clear ho5 hb5
        generalize recM (encC (pairK zs k)) = rr
        go_wp2_with fail
        refine (ends_any _ _ _ _ HR5.out).mono ?_
        rintro e w' ⟨rfl, rfl⟩
        rw [HE.out, hdc]
        go_wp2
        go_ret2
        exact RCi.no HN.out HB5.out
      · obtain ⟨y1, y2, y3, y4, y5⟩ := HYES.out hdc
        have HN := Lib.hid y1
        have hrm : recM (encC (pairK zs k)) = (zs, true) := by rw [y4, recM, y5]; rfl
        have hEC := iEncodeCiphers_ri C k oc (pairK zs k) wr (OwnD.of_own HO.out).cips (by omega)
        rw [hrm] at hEC
        have HEC := Lib.hid hEC
        have hpos : 0 < zs.length := by omega
        clear hEC hrm y1 y2 y3 y4 y5
        go_wp2_with fail
        refine HEC.out.mono ?_
        rintro e w5 ⟨B5, c5, rfl, ho5, hb5⟩
        have HR5 := Lib.hid (HR.out.below hb5)
        have HB5 := Lib.hid (belT HB.out hb5)
        have HO5 := Lib.hid (ownBelow HO.out hb5)
        have HF5 := Lib.hid (Ints.of_own ho5)
        clear ho5 hb5
        go_wp2_with fail
        refine (ends_any _ _ _ _ HR5.out).mono ?_
        rintro e w' ⟨rfl, rfl⟩
        rw [HE.out, hdc]
        go_wp2_with fail
        refine (equal_self B5 A zs.length c5 c zs _ HF5.out (HI.out.below HB5.out) hpos).mono ?_
        rintro e w6 ⟨rfl, hb6⟩
        go_wp2
        go_ret2
        exact RCi.yes HN.out (by rw [pairK_len]) (ownDown (ownBelow HO5.out hb6) (by omega)) (belT HB5.out hb6)
set_option maxRecDepth 100000 in
set_option maxHeartbeats 1600000 in
theorem cReadCiphers_rc (A : Option Addr) (n c : Nat) (zs : List Int) (w : World) (h : Ints w A n zs) (hk : CapW w A n c) (hn : n ≤ 2000000) :
    Calls Try.prog 80 #[.slice A n c] w (RCi w (dcM zs)) := by
  have hl := h.len
  subst hl
  have HI := Lib.hid h
  clear h hk
  have HNO := Lib.hid (dcM_no (zs := zs))
  have HYES := Lib.hid (fun h => And.intro (dcM_yes (zs := zs) h) (dc_yes h))
  cases hr : recB zs
  · have HN := Lib.hid (HNO.out (by rw [dcB, hr]; rfl))
    go_enter Try.func80, Try.ntmps80
    go_wp2_with fail
    refine (l4Record_any A zs.length c zs _ HI.out).mono ?_
    rintro e w1_ ⟨rfl, hb1⟩
    have hW := hb1
    obtain ⟨hc, hf⟩ := bcell hW
    rw [hr]
    go_wp2
    go_ret2
    exact RCi.no HN.out hW
  · have HRC := Lib.hid hr
    by_cases h0 : 0 < zs.length
    · have hh := rec_head hr
      obtain ⟨b, off, eA, hb, hc1⟩ := HI.out.at_ h0
      rw [← head_drop, List.drop_zero, Nat.add_zero] at hc1
      have hd2 : zs.headD 0 ≤ 4611686018427387903 := rec_head2 hr
      have HH := Lib.hid (show zs.headD 0 = zs.headD 0 from rfl)
      have HD : Hid (dcB zs = decide ((zs.length : Int) = 1 + 2 * zs.headD 0)) := Lib.hid (by rw [dcB, hr]; rfl)
      generalize zs.headD 0 = d at hh hd2 hc1 HD HYES HH
      subst eA
      by_cases he : (zs.length : Int) = 1 + 2 * d
      · have HY := Lib.hid (HYES.out (HD.out.trans (decide_eq_true he)))
        obtain ⟨y1, y2, y3, y4, y5⟩ := HY.out
        have HN := Lib.hid y1
        generalize hm : dcN zs = m at HN y3
        clear y1 y2 y4 y5 HY HYES HNO hm
        have hz0 : ((zs.length : Int) == 0) = false := by rw [beq_eq_false_iff_ne]; omega
        have hne : ((zs.length : Int) != 1 + 2 * d) = false := by simp; omega
        have HL := Lib.hid y3
        clear he
        go_enter Try.func80, Try.ntmps80
        go_wp2_with fail
        refine (l4Record_any (some ⟨b, off, none⟩) zs.length c zs _ HI.out).mono ?_
        rintro e w1_ ⟨rfl, hb1⟩
        have hW := hb1
        obtain ⟨hc, hf⟩ := bcell hW
        rw [HRC.out]
        go_wp2
        go_loopw [4, 5] (fun v i wr => ∃ k j : Nat, j = 1 + 2 * k ∧ k ≤ m ∧ i = .int .i64 j ∧ Hid (wr.ownsRow w.heap.size 104 2 v k (cellsL (pairK zs k))) ∧ Hid (Below w.heap.size w wr)) (fun _ i _ => zs.length - (intOf i).toNat)
        case atStart => exact ⟨0, 1, rfl, by omega, rfl, Lib.hid (ownC_nil _ _), Lib.hid hW⟩
        case round =>
          clear hc1 hW hc hf hb1
          obtain ⟨k, j, hj, hk, rfl, HO, HB⟩ := hrel
          obtain ⟨C, oc, rfl⟩ := own_shapeC HO.out
          by_cases hlt : k < m
          · obtain ⟨b1, off1, e1, hb1, cx⟩ := HI.out.at_ (show j < zs.length by omega)
            injection e1 with e1
            injection e1 with e1 e2
            subst e1 e2
            obtain ⟨b1, off1, e1, _, cy⟩ := HI.out.at_ (show j + 1 < zs.length by omega)
            injection e1 with e1
            injection e1 with e1 e2
            subst e1 e2
            have HPS := Lib.hid (show pairK zs k ++ [(zs.getD j 0, zs.getD (j + 1) 0)] = pairK zs (k + 1) by rw [pairK_succ, hj, show 1 + 2 * k + 1 = 2 + 2 * k from by omega])
            generalize zs.getD j 0 = x at cx HPS
            generalize zs.getD (j + 1) 0 = y at cy HPS
            have i1 : (0 : Int) ≤ (j : Int) := by omega
            have i2 : (j : Int) < (zs.length : Int) := by omega
            have i3 : (j : Int) + 1 < (zs.length : Int) := by omega
            have i4 : (0 : Int) ≤ (j : Int) + 1 := by omega
            have i5 : j < zs.length := by omega
            have i6 : j + 1 < zs.length := by omega
            have hwk : IntKind.i64.wrap ((j : Int) + 1) = (j : Int) + 1 := by rw [IntKind.wrap_i64]; omega
            have hmt : 1 + 2 * (k + 1) ≤ zs.length := by omega
            have HJ := Lib.hid hj
            clear hj
            have k0 := keepB HB.out cx
            have k1 := keepB HB.out cy
            go_wp2
            refine wp_region_held_drew (S := fun W => Below w.heap.size w W) (by kernel_rfl) (belD HB.out) (fun hHeld => ?_)
            refine heldTake (i := 0) (v := ?_) (some 30) rfl rfl (by kernel_rfl) (by kernel_rfl) (by kernel_rfl) (fun _ _ _ h => h) (Or.inl ⟨by rfl, ?_⟩) (by assumption) ?_
            rotate_left
            · (intro W hSw; have q0 := keepB hSw cx; have q1 := keepB hSw cy; clear hSw; go_simp; all_goals first | with_reducible rfl | (simp [*]; done) | (intro hh; exfalso; omega) | fail)
            try simp only [Act.put, List.setIfInBounds_toArray, List.set_cons_zero, List.set_cons_succ]
            refine heldTake (i := 1) (v := ?_) (some 31) rfl rfl (by kernel_rfl) (by kernel_rfl) (by kernel_rfl) (fun _ _ _ h => h) (Or.inl ⟨by rfl, ?_⟩) (by assumption) ?_
            rotate_left
            · (intro W hSw; have q0 := keepB hSw cx; have q1 := keepB hSw cy; clear hSw; go_simp; all_goals first | with_reducible rfl | (simp [*]; done) | (intro hh; exfalso; omega) | fail)
            try simp only [Act.put, List.setIfInBounds_toArray, List.set_cons_zero, List.set_cons_succ]
            refine heldTake (i := 2) (v := ?_) (some 32) rfl rfl (by kernel_rfl) (by kernel_rfl) (by kernel_rfl) (fun _ _ _ h => h) (Or.inl ⟨by rfl, ?_⟩) (by assumption) ?_
            rotate_left
            · (intro W hSw; have q0 := keepB hSw cx; have q1 := keepB hSw cy; clear hSw; go_simp; all_goals first | with_reducible rfl | (simp [*]; done) | (intro hh; exfalso; omega) | fail)
            try simp only [Act.put, List.setIfInBounds_toArray, List.set_cons_zero, List.set_cons_succ]
            refine heldTake (i := 3) (v := ?_) (some 33) rfl rfl (by kernel_rfl) (by kernel_rfl) (by kernel_rfl) (fun _ _ _ h => h) (Or.inl ⟨by rfl, ?_⟩) (by assumption) ?_
            rotate_left
            · (intro W hSw; have q0 := keepB hSw cx; have q1 := keepB hSw cy; clear hSw; go_simp; all_goals first | with_reducible rfl | (simp [*]; done) | (intro hh; exfalso; omega) | fail)
            try simp only [Act.put, List.setIfInBounds_toArray, List.set_cons_zero, List.set_cons_succ]
            refine heldTake (i := 4) (v := ?_) (some 34) rfl rfl (by kernel_rfl) (by kernel_rfl) (by kernel_rfl) (fun _ _ _ h => h) (Or.inl ⟨by rfl, ?_⟩) (by assumption) ?_
            rotate_left
            · (intro W hSw; have q0 := keepB hSw cx; have q1 := keepB hSw cy; clear hSw; go_simp; all_goals first | with_reducible rfl | (simp [*]; done) | (intro hh; exfalso; omega) | fail)
            try simp only [Act.put, List.setIfInBounds_toArray, List.set_cons_zero, List.set_cons_succ]
            refine heldTake (i := 5) (v := ?_) (some 35) rfl rfl (by kernel_rfl) (by kernel_rfl) (by kernel_rfl) (fun _ _ _ h => h) (Or.inl ⟨by rfl, ?_⟩) (by assumption) ?_
            rotate_left
            · (intro W hSw; have q0 := keepB hSw cx; have q1 := keepB hSw cy; clear hSw; go_simp; all_goals first | with_reducible rfl | (simp [*]; done) | (intro hh; exfalso; omega) | fail)
            try simp only [Act.put, List.setIfInBounds_toArray, List.set_cons_zero, List.set_cons_succ]
            refine heldTake (i := 6) (v := ?_) (some 36) rfl rfl (by kernel_rfl) (by kernel_rfl) (by kernel_rfl) (fun _ _ _ h => h) (Or.inl ⟨by rfl, ?_⟩) (by assumption) ?_
            rotate_left
            · (intro W hSw; have q0 := keepB hSw cx; have q1 := keepB hSw cy; clear hSw; go_simp; all_goals first | with_reducible rfl | (simp [*]; done) | (intro hh; exfalso; omega) | fail)
            try simp only [Act.put, List.setIfInBounds_toArray, List.set_cons_zero, List.set_cons_succ]
            refine heldTake (i := 7) (v := .int .i64 ((j : Int) + 1)) (some 37) rfl rfl (by kernel_rfl) (by kernel_rfl) (by kernel_rfl) (fun _ _ _ h => h) (Or.inl ⟨by rfl, ?_⟩) (by assumption) ?_
            · (intro W hSw; have q0 := keepB hSw cx; have q1 := keepB hSw cy; clear hSw; go_simp; all_goals first | with_reducible rfl | (simp [*]; done) | (intro hh; exfalso; omega) | fail)
            try simp only [Act.put, List.setIfInBounds_toArray, List.set_cons_zero, List.set_cons_succ]
            refine heldTake (i := 8) (v := ?_) (some 38) rfl rfl (by kernel_rfl) (by kernel_rfl) (by kernel_rfl) (fun _ _ _ h => h) (Or.inl ⟨by rfl, ?_⟩) (by assumption) ?_
            rotate_left
            · (intro W hSw; have q0 := keepB hSw cx; have q1 := keepB hSw cy; clear hSw; go_simp; all_goals first | with_reducible rfl | (simp [*]; done) | (intro hh; exfalso; omega) | fail)
            try simp only [Act.put, List.setIfInBounds_toArray, List.set_cons_zero, List.set_cons_succ]
            refine heldTake (i := 9) (v := ?_) (some 39) rfl rfl (by kernel_rfl) (by kernel_rfl) (by kernel_rfl) (fun _ _ _ h => h) (Or.inl ⟨by rfl, ?_⟩) (by assumption) ?_
            rotate_left
            · (intro W hSw; have q0 := keepB hSw cx; have q1 := keepB hSw cy; clear hSw; go_simp; all_goals first | with_reducible rfl | (simp [*]; done) | (intro hh; exfalso; omega) | fail)
            try simp only [Act.put, List.setIfInBounds_toArray, List.set_cons_zero, List.set_cons_succ]
            refine heldTake (i := 10) (v := ?_) (some 40) rfl rfl (by kernel_rfl) (by kernel_rfl) (by kernel_rfl) (fun _ _ _ h => h) (Or.inl ⟨by rfl, ?_⟩) (by assumption) ?_
            rotate_left
            · (intro W hSw; have q0 := keepB hSw cx; have q1 := keepB hSw cy; clear hSw; go_simp; all_goals first | with_reducible rfl | (simp [*]; done) | (intro hh; exfalso; omega) | fail)
            try simp only [Act.put, List.setIfInBounds_toArray, List.set_cons_zero, List.set_cons_succ]
            refine wpAnyH_ready (rs := [11]) (by kernel_rfl) (by simp) ?_
            refine AllReadyH.cons rfl (fun K hK => ?_) AllReadyH.nil
            go_simp
            refine hK.out _ _ (hHeld.alloc (by have := hHeld.size; omega) _) (fun hNew => ?_)
            clear hK K hHeld
            have hHeld := hNew; clear hNew
            try simp only [Act.put, List.setIfInBounds_toArray, List.set_cons_zero, List.set_cons_succ]
            have HOc := Lib.hid (own_allocD hHeld (own_drew HO.out))
            have hlen := hHeld.size
            refine wpAnyH_ready (rs := [12]) (by kernel_rfl) (by simp) ?_
            refine AllReadyH.cons rfl (fun K hK => ?_) AllReadyH.nil
            refine step_appC rfl _ _ rfl rfl rfl (by show (World.alloc _ _).cell? _ = _; rw [World.cell?_alloc_at _ _ _ _ (by simp)]; rfl) (by show (World.alloc _ _).cell? _ = _; rw [World.cell?_alloc_at _ _ _ _ (by simp)]; rfl) HOc.out (by omega) hHeld.size ?_
            intro A9 c9 w9 hown9 hg9
            refine hK.out _ _ (own_below hHeld hHeld.size HOc.out hg9) (fun hNew => ?_)
            clear hK K hHeld hlen
            have hHeld := hNew; clear hNew
            try simp only [Act.put, List.setIfInBounds_toArray, List.set_cons_zero, List.set_cons_succ]
            refine heldTake (i := 13) (v := ?_) (some 4) rfl rfl (by kernel_rfl) (by kernel_rfl) (by kernel_rfl) (fun _ _ _ h => h) (Or.inl ⟨by rfl, ?_⟩) (by assumption) ?_
            rotate_left
            · (intro W hSw; have q0 := keepB hSw cx; have q1 := keepB hSw cy; clear hSw; go_simp; all_goals first | with_reducible rfl | (simp [*]; done) | (intro hh; exfalso; omega) | fail)
            try simp only [Act.put, List.setIfInBounds_toArray, List.set_cons_zero, List.set_cons_succ]
            refine wpAnyH_done (by kernel_rfl) ?_ _
            rw [HPS.out] at hown9
            go_wp2
            go_roundw
            case rel => exact ⟨k + 1, j + 2, by have := HJ.out; omega, by omega, by go_num, Lib.hid hown9, Lib.hid hHeld⟩
            case measure => simp [intOf]; omega
          · have e : k = m := by omega
            subst e
            have i2 : ¬ (j : Int) < (zs.length : Int) := by omega
            clear hj
            go_wp2
            go_ret2
            exact RCi.yes HN.out (by rw [pairK_len]) HO.out HB.out
      · have HN := Lib.hid (HNO.out (HD.out.trans (decide_eq_false he)))
        have hne : ((zs.length : Int) != 1 + 2 * d) = true := by simp; omega
        go_enter Try.func80, Try.ntmps80
        go_wp2_with fail
        refine (l4Record_any (some ⟨b, off, none⟩) zs.length c zs _ HI.out).mono ?_
        rintro e w1_ ⟨rfl, hb1⟩
        have hW := hb1
        obtain ⟨hc, hf⟩ := bcell hW
        rw [HRC.out]
        have hz0 : ((zs.length : Int) == 0) = false := by rw [beq_eq_false_iff_ne]; omega
        go_wp2
        go_ret2
        exact RCi.no HN.out hW
    · have HN := Lib.hid (HNO.out (by
        rw [dcB, hr, Bool.true_and, decide_eq_false_iff_not]
        have := rec_head hr
        omega))
      have hz0 : ((zs.length : Int) == 0) = true := by rw [beq_iff_eq]; omega
      go_enter Try.func80, Try.ntmps80
      go_wp2_with fail
      refine (l4Record_any A zs.length c zs _ HI.out).mono ?_
      rintro e w1_ ⟨rfl, hb1⟩
      have hW := hb1
      obtain ⟨hc, hf⟩ := bcell hW
      rw [HRC.out]
      go_wp2
      go_ret2
      exact RCi.no HN.out hW
theorem iDecodeCiphers_any (A : Option Addr) (n c : Nat) (zs : List Int) (w : World) (h : Ints w A n zs) (hk : CapW w A n c) (hn : n ≤ 2000000) :
    Calls Try.prog 32 #[.slice A n c] w fun e w' => ∃ B cc, e = .returned (.tuple #[.slice B (dcM zs).1.length cc, .bool (dcM zs).2]) ∧ w'.ownsRow w.heap.size 104 2 (.slice B (dcM zs).1.length cc) (dcM zs).1.length (cellsL (dcM zs).1) ∧ Below w.heap.size w w' := iDecodeCiphers_rc A n c zs w h hk hn
set_option maxHeartbeats 400000 in
theorem sDecodeCiphers_any (A : Option Addr) (n c : Nat) (zs : List Int) (w : World) (h : Ints w A n zs) (hk : CapW w A n c) (hn : n ≤ 2000000) :
    Calls Try.prog 31 #[.slice A n c] w fun e w' => ∃ B cc, e = .returned (.tuple #[.slice B (dcM zs).1.length cc, .bool (dcM zs).2]) ∧ w'.ownsRow w.heap.size 104 2 (.slice B (dcM zs).1.length cc) (dcM zs).1.length (cellsL (dcM zs).1) ∧ Below w.heap.size w w' := by
  have H := Lib.hid (cReadCiphers_rc A n c zs w h hk hn)
  clear h hk
  generalize dcM zs = r at H ⊢
  obtain ⟨l, ok⟩ := r
  go_enter Try.func31, Try.ntmps31
  go_wp2_with fail
  refine H.out.mono ?_
  rintro e w1 ⟨B, cc, rfl, ho, hb⟩
  go_wp2
  go_ret2
  exact ⟨B, cc, rfl, ho, hb⟩
end Go.Proofs.Yteeggmnkcgpfjaa
