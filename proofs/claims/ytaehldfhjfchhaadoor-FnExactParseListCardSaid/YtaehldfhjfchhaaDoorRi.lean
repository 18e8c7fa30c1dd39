/- A list of the call's own and a truth value, as a result. -/
import Derived.Test.YtaehldfhjfchhaaDoorApI
namespace Go.Proofs.YtaehldfhjfchhaaDoor
open Go.RowKit
set_option linter.unusedVariables false
/-- a list of the call's own, and a truth value -/
def RI (w : World) (r : List Int × Bool) (e : Ending) (w' : World) : Prop :=
  ∃ B cc, e = .returned (.tuple #[.slice B r.1.length cc, .bool r.2]) ∧ w'.ownsRow w.heap.size 3 1 (.slice B r.1.length cc) r.1.length (r.1.map (Value.int .i64)) ∧ Below w.heap.size w w'
theorem RI.no {w w' : World} {r : List Int × Bool} (hr : r = ([], false)) (hb : Below w.heap.size w w') : RI w r (.returned (.tuple #[.slice none 0 0, .bool false])) w' := by
  subst hr
  exact ⟨none, 0, rfl, own_nil _ _, hb⟩
theorem RI.yes {w w' : World} {r : List Int × Bool} {l : List Int} {B : Option Addr} {n cc : Nat} (hr : r = (l, true)) (ho : w'.ownsRow w.heap.size 3 1 (.slice B n cc) n (l.map (Value.int .i64))) (hb : Below w.heap.size w w') : RI w r (.returned (.tuple #[.slice B n cc, .bool true])) w' := by
  subst hr
  have hl : l.length = n := by have := ho.1; simpa using this
  subst hl
  exact ⟨B, cc, rfl, ho, hb⟩
end Go.Proofs.YtaehldfhjfchhaaDoor
