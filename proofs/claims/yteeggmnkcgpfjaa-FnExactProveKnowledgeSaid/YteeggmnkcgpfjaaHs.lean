/- Contracts: the digest of a list, on both sides. -/
import Derived.Test.YteeggmnkcgpfjaaSl
import Derived.Test.YteeggmnkcgpfjaaGr4
import Derived.Test.YteeggmnkcgpfjaaAp
import Derived.Maps.AppendAt
namespace Go.Proofs.Yteeggmnkcgpfjaa
open Go.RowKit
set_option linter.unusedVariables false

/-! ## the plain law -/
def absK (A s x : Int) : Nat → Int
  | 0 => s
  | k + 1 => (A * absK A s x k + [x % 2147483648, x / 2147483648].getD k 0 + 1) % 2147483647
def hsK (zs : List Int) : Nat → Int × Int
  | 0 => (1, 2)
  | k + 1 => (absK 48271 (hsK zs k).1 (zs.getD k 0) 2, absK 69621 (hsK zs k).2 (zs.getD k 0) 2)
def hashV (zs : List Int) : Int := (hsK ((zs.length : Int) :: zs) (zs.length + 1)).1 * 2147483648 + (hsK ((zs.length : Int) :: zs) (zs.length + 1)).2
def Sm (s : Int) : Prop := 0 ≤ s ∧ s < 2147483647
theorem absK_bd {A s x : Int} (h : Sm s) : ∀ k, Sm (absK A s x k)
  | 0 => h
  | k + 1 => ⟨Int.emod_nonneg _ (by omega), Int.emod_lt_of_pos _ (by omega)⟩
theorem hsK_bd (zs : List Int) : ∀ k, Sm (hsK zs k).1 ∧ Sm (hsK zs k).2
  | 0 => by simp [hsK, Sm]
  | k + 1 => ⟨absK_bd (hsK_bd zs k).1 2, absK_bd (hsK_bd zs k).2 2⟩
/-- a digest -/
def digB (z : Int) : Bool := inB z 0 4611686018427387903
def digsB (zs : List Int) : Bool := zs.all digB
theorem digs_bd {zs : List Int} {k : Nat} (h : digsB zs = true) (hk : k < zs.length) : 0 ≤ zs.getD k 0 ∧ zs.getD k 0 ≤ 4611686018427387903 := by
  have := inB_true (List.all_eq_true.1 h _ (getD_mem (d := 0) hk))
  omega
theorem hash_bd (zs : List Int) : 0 ≤ hashV zs ∧ hashV zs ≤ 4611686018427387903 := by
  have h := hsK_bd ((zs.length : Int) :: zs) (zs.length + 1)
  unfold hashV Sm at *
  omega

/-- a state of two numbers that may be written -/
structure St (w : World) (B : Nat) (s t : Int) : Prop where
  c0 : w.cell? ⟨B, 0, none⟩ = some (.int .i64 s)
  c1 : w.cell? ⟨B, 1, none⟩ = some (.int .i64 t)
  f0 : w.frozen? ⟨B, 0, none⟩ = false
  f1 : w.frozen? ⟨B, 1, none⟩ = false
theorem St.below {w w1 : World} {B : Nat} {s t : Int} (h : St w B s t) (hb : Below w.heap.size w w1) : St w1 B s t :=
  ⟨keepB hb h.c0, keepB hb h.c1, (hb.frozen (p := ⟨B, 0, none⟩) (World.block_lt_of_cell? _ _ h.c0)).trans h.f0, (hb.frozen (p := ⟨B, 1, none⟩) (World.block_lt_of_cell? _ _ h.c1)).trans h.f1⟩

theorem grown_set {a w : World} {g : Nat} (h : a.grownBy w (some g)) {p : Addr} (hp : p.block = g) (u : Value) : a.grownBy (w.setCell p u) (some g) :=
  ⟨h.os, h.tape, h.output, by simpa [World.setCell] using h.size, fun i hi hne => (Below.heap_setCell w p u i (by
    rintro rfl
    exact hne (by rw [hp]))).trans (h.block i hi hne)⟩
theorem grown_alloc {a w : World} {o : Obj} {g : Nat} (h : (a.alloc o).grownBy w (some g)) (hg : g < a.heap.size) : a.grownBy w (some g) :=
  (World.grownBy_alloc a o (some g)).trans h
theorem St.put {w : World} {B : Nat} {s t : Int} (h : St w B s t) (x y : Int) : St ((w.setCell ⟨B, 0, none⟩ (.int .i64 x)).setCell ⟨B, 1, none⟩ (.int .i64 y)) B x y := by
  have h0 := World.cell?_setCell_same (w := w) (a := ⟨B, 0, none⟩) (v := .int .i64 x) h.c0
  have h1 : (w.setCell ⟨B, 0, none⟩ (.int .i64 x)).cell? ⟨B, 1, none⟩ = some (.int .i64 t) := (World.cell?_setCell_other w _ _ _ (by simp)).trans h.c1
  refine ⟨(World.cell?_setCell_other _ _ _ _ (by simp)).trans h0, World.cell?_setCell_same _ _ _ h1, ?_, ?_⟩
  · rw [World.frozen?_setCell, World.frozen?_setCell]; exact h.f0
  · rw [World.frozen?_setCell, World.frozen?_setCell]; exact h.f1

def AbsPost (B : Nat) (s t x : Int) (w : World) (e : Ending) (w' : World) : Prop := e = .returned (.tuple #[]) ∧ St w' B (absK 48271 s x 2) (absK 69621 t x 2) ∧ w.grownBy w' (some B)

set_option maxHeartbeats 800000 in
theorem absorb_any (B : Nat) (s t x : Int) (w : World) (h : St w B s t) (hs : Sm s) (ht : Sm t) (x0 : 0 ≤ x) (x1 : x ≤ 4611686018427387903) :
    Calls Try.prog 199 #[.pointer (some ⟨B, 0, none⟩), .int .i64 x] w (AbsPost B s t x w) := by
  have hlt := World.block_lt_of_cell? _ _ h.c0
  simp only at hlt
  have HS := Lib.hid (h.below (belA (o := .cells #[.int .i64 (x % 2147483648), .int .i64 (x / 2147483648)] 3) (Below.refl _ _)))
  have HI := Lib.hid (Ints.two (w := w.alloc (.cells #[.int .i64 (x % 2147483648), .int .i64 (x / 2147483648)] 3)) (b := w.heap.size) (x := x % 2147483648) (y := x / 2147483648) (by rw [World.cell?_alloc_at _ _ _ _ (by simp)]; rfl) (by rw [World.cell?_alloc_at _ _ _ _ (by simp)]; rfl))
  have hS := Lib.hid (And.intro hs ht)
  clear h hs ht
  go_enter Try.func199, Try.ntmps199
  go_wp2
  go_loopw [12] (fun i wr => ∃ k : Nat, k ≤ 2 ∧ i = .int .i64 k ∧ Hid (St wr B (absK 48271 s x k) (absK 69621 t x k)) ∧ Hid ((w.alloc (.cells #[.int .i64 (x % 2147483648), .int .i64 (x / 2147483648)] 3)).grownBy wr (some B))) (fun i _ => 2 - (intOf i).toNat)
  case atStart => exact ⟨0, by omega, rfl, HS, Lib.hid (World.grownBy.refl _ _)⟩
  case round =>
    obtain ⟨k, hk, rfl, H1, H2⟩ := hrel
    by_cases hlt2 : k < 2
    · obtain ⟨b, off, hA, hb, hc⟩ := HI.out.at_ hlt2
      injection hA with hA
      injection hA with hA1 hA2
      subst hA1
      subst hA2
      replace hc := H2.out.cell hc (by simp; omega)
      rw [Nat.zero_add] at hc
      have hy : 0 ≤ [x % 2147483648, x / 2147483648].getD k 0 ∧ [x % 2147483648, x / 2147483648].getD k 0 ≤ 2147483648 := by
        have e : k = 0 ∨ k = 1 := by omega
        rcases e with rfl | rfl
        · simp; omega
        · simp; omega
      have ha := absK_bd (A := 48271) (x := x) hS.out.1 k
      have hb' := absK_bd (A := 69621) (x := x) hS.out.2 k
      have e1 : absK 48271 s x (k + 1) = (48271 * absK 48271 s x k + [x % 2147483648, x / 2147483648].getD k 0 + 1) % 2147483647 := rfl
      have e2 : absK 69621 t x (k + 1) = (69621 * absK 69621 t x k + [x % 2147483648, x / 2147483648].getD k 0 + 1) % 2147483647 := rfl
      generalize [x % 2147483648, x / 2147483648].getD k 0 = y at hc hy e1 e2
      generalize absK 48271 s x k = a at ha e1 H1
      generalize absK 69621 t x k = c at hb' e2 H1
      obtain ⟨c0, c1, f0, f1⟩ := H1.out
      have E1 := Lib.hid e1
      have E2 := Lib.hid e2
      obtain ⟨y0, y1⟩ := hy
      obtain ⟨a0, a1⟩ := ha
      obtain ⟨b0, b1⟩ := hb'
      clear e1 e2
      go_wp2
      go_roundw
      case rel => exact ⟨k + 1, by omega, by go_num, Lib.hid (by rw [E1.out, E2.out]; exact H1.out.put _ _), Lib.hid (grown_set (grown_set H2.out rfl _) rfl _)⟩
      case measure => simp [intOf]; omega
    · have e : k = 2 := by omega
      subst e
      go_wp2
      go_end0
      exact ⟨rfl, H1.out, grown_alloc H2.out hlt⟩
end Go.Proofs.Yteeggmnkcgpfjaa
