/- Ciphertexts: slices of them, their contracts. -/
import Derived.Test.YteeggmnkcgpfjaaGr4
namespace Go.Proofs.Yteeggmnkcgpfjaa
open Go.RowKit
set_option linter.unusedVariables false
attribute [local go_sem ↓] Go.wp_at_zero Go.wp_at_succ
set_option linter.unusedSimpArgs false

/-- a valid ciphertext -/
def hasC (p q : Int) (c : Int × Int) : Bool := hasB p q c.1 && hasB p q c.2

/-! ## a slice of ciphertexts that can be read -/
def Cips (w : World) (A : Option Addr) (n : Nat) (l : List (Int × Int)) : Prop :=
  l.length = n ∧ n ≤ 9223372036854775807 ∧ (0 < n → ∃ b off, A = some ⟨b, off, none⟩ ∧ b < w.heap.size ∧ ∀ k, k < n →
    w.cell? ⟨b, off + k * 2, none⟩ = some (.int .i64 (l.getD k (0, 0)).1) ∧ w.cell? ⟨b, off + k * 2 + 1, none⟩ = some (.int .i64 (l.getD k (0, 0)).2))

section
variable {w w' : World} {A : Option Addr} {n : Nat} {l : List (Int × Int)}
theorem Cips.len (h : Cips w A n l) : l.length = n := h.1
theorem Cips.le (h : Cips w A n l) : n ≤ 9223372036854775807 := h.2.1
theorem Cips.at_ {k : Nat} (h : Cips w A n l) (hk : k < n) : ∃ b off, A = some ⟨b, off, none⟩ ∧ b < w.heap.size ∧ w.cell? ⟨b, off + k * 2, none⟩ = some (.int .i64 (l.getD k (0, 0)).1) ∧ w.cell? ⟨b, off + k * 2 + 1, none⟩ = some (.int .i64 (l.getD k (0, 0)).2) := by
  obtain ⟨b, off, e, hb, hc⟩ := h.2.2 (by omega)
  exact ⟨b, off, e, hb, hc k hk⟩
theorem Cips.below (h : Cips w A n l) (hb : Below w.heap.size w w') : Cips w' A n l := by
  refine ⟨h.1, h.2.1, fun hn => ?_⟩
  obtain ⟨b, off, e, hb', hc⟩ := h.2.2 hn
  exact ⟨b, off, e, Nat.lt_of_lt_of_le hb' hb.size, fun k hk => ⟨(hb.cell (p := ⟨b, off + k * 2, none⟩) hb').trans (hc k hk).1, (hb.cell (p := ⟨b, off + k * 2 + 1, none⟩) hb').trans (hc k hk).2⟩⟩
theorem Cips.one {b : Nat} {x y : Int} (hc : w.cell? ⟨b, 0, none⟩ = some (.int .i64 x)) (hd : w.cell? ⟨b, 1, none⟩ = some (.int .i64 y)) : Cips w (some ⟨b, 0, none⟩) 1 [(x, y)] :=
  ⟨rfl, by omega, fun _ => ⟨b, 0, rfl, World.block_lt_of_cell? _ _ hc, fun k hk => by
    have e : k = 0 := by omega
    subst e
    exact ⟨hc, hd⟩⟩⟩
end

theorem two_all' (f : Int → Bool) (x y : Int) : [x, y].all f = (f x && f y) := by simp




set_option maxHeartbeats 400000 in
theorem toEqualLog_any (a b c d : Int) (w : World) :
    Calls Try.prog 55 #[.agg #[.int .i64 a, .int .i64 b, .int .i64 c, .int .i64 d]] w fun e w' => e = .returned (.agg #[.int .i64 a, .int .i64 b, .int .i64 c, .int .i64 d]) ∧ Below w.heap.size w w' := by
  go_enter Try.func55, Try.ntmps55
  go_wp2
  refine bodyPost_ret (v := .agg #[.int .i64 a, .int .i64 b, .int .i64 c, .int .i64 d]) (by simp [results, Try.results55, go_sem]) rfl ⟨rfl, ?_⟩
  exact (by repeat (first | exact Below.refl _ _ | assumption | refine belA ?_ | refine belD ?_ | refine belN ?_ | refine belS ?_ (by simp) | refine belT ?_ (by assumption)))

set_option maxHeartbeats 400000 in
theorem eqCipher_any (u v : Int) (w : World) :
    Calls Try.prog 84 #[.agg #[.int .i64 u, .int .i64 v], .agg #[.int .i64 u, .int .i64 v]] w fun e w' => e = .returned (.bool true) ∧ Below w.heap.size w w' := by
  go_enter Try.func84, Try.ntmps84
  go_wp2
  go_ret
  exact ⟨rfl, (by repeat (first | exact Below.refl _ _ | assumption | refine belA ?_ | refine belD ?_ | refine belN ?_ | refine belS ?_ (by simp) | refine belT ?_ (by assumption)))⟩

/-- two cells that may be written -/
def Room (W : World) (R : Nat) : Prop := ∃ x y : Value, W.cell? ⟨R, 0, none⟩ = some x ∧ W.cell? ⟨R, 1, none⟩ = some y ∧ W.frozen? ⟨R, 0, none⟩ = false ∧ W.frozen? ⟨R, 1, none⟩ = false
theorem Room.facts {W : World} {R : Nat} (h : Room W R) : ∃ x y : Value, W.cell? ⟨R, 0, none⟩ = some x ∧ W.cell? ⟨R, 1, none⟩ = some y ∧ W.frozen? ⟨R, 0, none⟩ = false ∧ W.frozen? ⟨R, 1, none⟩ = false := h
theorem Room.below {W w1 : World} {R : Nat} (h : Room W R) (hb : Below W.heap.size W w1) : Room w1 R := by
  obtain ⟨x, y, h1, h2, h3, h4⟩ := h
  have hl := World.block_lt_of_cell? _ _ h1
  exact ⟨x, y, keepB hb h1, keepB hb h2, (hb.frozen (p := ⟨R, 0, none⟩) hl).trans h3, (hb.frozen (p := ⟨R, 1, none⟩) hl).trans h4⟩
theorem Room.drew {W : World} {R : Nat} (h : Room W R) : Room W.drew R := h
theorem Room.new (W : World) (x y : Value) (t : TypeId) : Room (W.alloc (.cells #[x, y] t)) W.heap.size :=
  ⟨x, y, (by rw [World.cell?_alloc_at _ _ _ _ (by simp)]; rfl), (by rw [World.cell?_alloc_at _ _ _ _ (by simp)]; rfl), World.frozen?_alloc_at _ _ _ _ rfl, World.frozen?_alloc_at _ _ _ _ rfl⟩

end Go.Proofs.Yteeggmnkcgpfjaa
