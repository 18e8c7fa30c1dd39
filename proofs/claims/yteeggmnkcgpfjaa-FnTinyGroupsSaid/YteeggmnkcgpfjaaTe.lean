/- A law for a region that draws its order and whose last operation, for which all others wait, overwrites a cell that the region reads: what is read may be read first all the same. -/
import Derived.Test.YteeggmnkcgpfjaaApI
import Derived.StillTail
import Derived.Deep.RegionHeld3
namespace Go.Proofs.Yteeggmnkcgpfjaa
set_option linter.unusedVariables false
section
variable {P : Program} {ops : Array Oper} {Q : Exit → Act → World → Prop} {md : Region.Mode} {S : World → Prop} {n : Nat}

/-- Whatever comes up, and S holds behind each operation ahead of number n. -/
def WEnd (P : Program) (md : Region.Mode) (ops : Array Oper) (Q : Exit → Act → World → Prop) (S : World → Prop) (n : Nat) : Nat → Array Bool → Act → World → Prop
  | 0, l, a, w => Region.ready md ops l = [] ∧ Q .normal a w
  | k + 1, l, a, w => (Region.ready md ops l = [] → Q .normal a w) ∧
    ∀ i, i ∈ Region.ready md ops l → wpOp P ops Q i (fun b u => (i < n → S u) ∧ WEnd P md ops Q S n k (l.setIfInBounds i true) b u) a w

theorem any_of_end : ∀ (k : Nat) (l : Array Bool) (a : Act) (w : World), WEnd P md ops Q S n k l a w → wpAny P md ops Q k l a w
  | 0, _, _, _, h => h
  | k + 1, _, _, _, h => ⟨h.1, fun i hi => wpOp_mono (fun b u H => any_of_end k _ b u H.2) (h.2 i hi)⟩

theorem end_first {i : Nat} {oi : Oper} {v : Value} (hi : ops[i]? = some oi) (hsel : Region.noSelect ops = true) (hs : Region.sinkB md ops n = true)
    (hc : Region.chainB md ops n = true) (hn : n < ops.size) (hin : i < n) (hQ : ∀ c a w, Q (.panic c) (a.put oi.dst v) w → Q (.panic c) a w) (k : Nat) :
    ∀ (l : Array Bool) (a : Act) (w : World), HeadInv md ops n l →
      (∀ j oj, ops[j]? = some oj → j ≠ i → l.getD j true = false → (∀ e ∈ oj.after, Region.binds md e = true → e.on ≠ i) → oi.apart ops oj = true) →
      i ∈ Region.ready md ops l → YieldsIf P ops S oi v a → S w → WEnd P md ops Q S n k (l.setIfInBounds i true) (a.put oi.dst v) w → WEnd P md ops Q S n (k + 1) l a w := by
  induction k with
  | zero =>
    intro l a w inv hf hr hy hS H
    refine ⟨fun h => absurd (h ▸ hr) List.not_mem_nil, fun j hj => ?_⟩
    by_cases c : j = i
    · subst c; exact hy.wpOp hi hS ⟨fun _ => hS, H⟩
    · exact absurd (H.1 ▸ ready_mono hj c) List.not_mem_nil
  | succ k ih =>
    intro l a w inv hf hr hy hS H
    refine ⟨fun h => absurd (h ▸ hr) List.not_mem_nil, fun j hj => ?_⟩
    by_cases c : j = i
    · subst c; exact hy.wpOp hi hS ⟨fun _ => hS, H⟩
    · have hun := (mem_ready.1 hr).1
      have hjun := (mem_ready.1 hj).1
      obtain ⟨oj, hoj, hall⟩ := (mem_ready.1 hj).2
      have hjn : j < n := Nat.lt_of_not_le fun d => tail_waits hs hc hn inv _ i rfl hin hun j d hj
      have hno : ∀ e ∈ oj.after, Region.binds md e = true → e.on ≠ i := by
        intro e he hb d
        have q := hall e he hb
        rw [d, getD_both hun] at q
        cases q
      have G := wpOp_putIf hoj (hf j oj hoj c hjun hno) (fun cs b => Region.noSelect_spec hsel i oi cs b hi) (fun cs b => Region.noSelect_spec hsel j oj cs b hoj) hQ hy (H.2 j (ready_mono hj c))
      refine wpOp_mono (fun b u g => ⟨g.2.1, ?_⟩) G
      refine ih _ b u (inv.set hj hjn) ?_ (ready_mono hr (Ne.symm c)) g.1 (g.2.1 hjn) ?_
      · intro m om hm hmi hmu hmo
        refine hf m om hm hmi ?_ hmo
        by_cases d : j = m
        · exact d ▸ hjun
        · rwa [getD_set_ne true d] at hmu
      · have q := g.2.2
        rw [Array.setIfInBounds_comm _ _ (Ne.symm c)] at q
        exact q

/-- What the law asks of the region itself. -/
def endB (md : Region.Mode) (ops : Array Oper) (n : Nat) : Bool := Region.noSelect ops && decide (n < ops.size) && Region.sinkB md ops n && Region.chainB md ops n

def EndW (P : Program) (md : Region.Mode) (ops : Array Oper) (Q : Exit → Act → World → Prop) (S : World → Prop) (n k : Nat) (l : Array Bool) (a : Act) (w : World) : Prop :=
  HeadInv md ops n l → WEnd P md ops Q S n k l a w

theorem EndW.take {i k : Nat} {oi : Oper} {v : Value} {l : Array Bool} {a : Act} {w : World} (d : Option Tmp) (hE : endB md ops n = true) (hi : ops[i]? = some oi) (hd : oi.dst = d)
    (hf : Region.free md ops l i = true) (hr : (Region.ready md ops l).contains i = true) (hin : i < n) (hQ : ∀ c a w, Q (.panic c) (a.put d v) w → Q (.panic c) a w)
    (hy : YieldsIf P ops S oi v a) (hS : S w) (h : EndW P md ops Q S n k (l.setIfInBounds i true) (a.put d v) w) : EndW P md ops Q S n (k + 1) l a w := by
  intro inv
  subst hd
  simp only [endB, Bool.and_eq_true, decide_eq_true_eq] at hE
  have hr' : i ∈ Region.ready md ops l := by simpa using hr
  exact end_first hi hE.1.1.1 hE.1.2 hE.2 hE.1.1.2 hin hQ k l a w inv (Region.free_spec hi hf) hr' hy hS (h (inv.set hr' hin))

/-- One operation's step, handed over behind a name for what follows. -/
def EndStep (P : Program) (md : Region.Mode) (ops : Array Oper) (Q : Exit → Act → World → Prop) (S : World → Prop) (n k : Nat) (l : Array Bool) (a : Act) (w : World) (i : Nat) : Prop :=
  ∃ o, ops[i]? = some o ∧ ∀ K : Act → World → Prop, Shut (∀ b u, S u → (S u → EndW P md ops Q S n k (l.setIfInBounds i true) b u) → K b u) →
    if Region.wanted o (yielded ops a.tmps) = true then Oper.wp P o a w K Q else K (a.put o.dst undef) w

theorem EndW.one {i k : Nat} {l : Array Bool} {a : Act} {w : World} (hr : Region.ready md ops l = [i]) (hin : i < n)
    (h : EndStep P md ops Q S n k l a w i) : EndW P md ops Q S n (k + 1) l a w := by
  intro inv
  refine ⟨fun c => (by rw [hr] at c; cases c), fun j hj => ?_⟩
  have hj' := hj
  rw [hr, List.mem_singleton] at hj'
  subst hj'
  obtain ⟨o, ho, H⟩ := h
  exact wpOp_step ho fun K hK => H K fun b u s g => hK b u ⟨fun _ => s, g s (inv.set hj hin)⟩

theorem EndW.two {i j k : Nat} {l : Array Bool} {a : Act} {w : World} (hr : Region.ready md ops l = [i, j]) (hin : i < n) (hjn : j < n)
    (h : EndStep P md ops Q S n k l a w i) (h' : EndStep P md ops Q S n k l a w j) : EndW P md ops Q S n (k + 1) l a w := by
  intro inv
  refine ⟨fun c => (by rw [hr] at c; cases c), fun m hm => ?_⟩
  have hm' := hm
  rw [hr, List.mem_cons, List.mem_singleton] at hm'
  rcases hm' with d | d
  · subst d
    obtain ⟨o, ho, H⟩ := h
    exact wpOp_step ho fun K hK => H K fun b u s g => hK b u ⟨fun _ => s, g s (inv.set hm hin)⟩
  · subst d
    obtain ⟨o, ho, H⟩ := h'
    exact wpOp_step ho fun K hK => H K fun b u s g => hK b u ⟨fun _ => s, g s (inv.set hm hjn)⟩

theorem EndW.last {k : Nat} {o : Oper} {l : Array Bool} {a : Act} {w : World} (hr : Region.ready md ops l = [n]) (ho : ops[n]? = some o) (hr' : Region.ready md ops (l.setIfInBounds n true) = [])
    (h : ∀ K : Act → World → Prop, Shut (∀ b u, Q .normal b u → K b u) → if Region.wanted o (yielded ops a.tmps) = true then Oper.wp P o a w K Q else K (a.put o.dst undef) w) : EndW P md ops Q S n (k + 1) l a w := by
  intro inv
  refine ⟨fun c => (by rw [hr] at c; cases c), fun m hm => ?_⟩
  rw [hr, List.mem_singleton] at hm
  subst hm
  refine wpOp_step ho fun K hK => h K fun b u q => hK b u ⟨fun c => absurd c (Nat.lt_irrefl _), ?_⟩
  cases k with
  | zero => exact ⟨hr', q⟩
  | succ k => exact ⟨fun _ => q, by rw [hr']; exact fun i hi => absurd hi List.not_mem_nil⟩

theorem region_end (n : Nat) {id : Nat} {a : Act} {w : World} (hm : P.follows .mixedOrders = true) (hE : endB .any ops n = true) (hS : S w.drew)
    (h : endB .any ops n = true → S w.drew → EndW P .any ops Q S n ops.size (Array.replicate ops.size false) a w.drew) : (Code.region id ops true).wp P Q a w := by
  refine wp_region_any hm (any_of_end _ _ _ _ (h hE hS ?_))
  refine ⟨by simp, fun j oj _ c => ?_, fun t _ ht => ?_⟩
  · rw [getD_replicate_false] at c; cases c
  · simp [ht]
end
end Go.Proofs.Yteeggmnkcgpfjaa
