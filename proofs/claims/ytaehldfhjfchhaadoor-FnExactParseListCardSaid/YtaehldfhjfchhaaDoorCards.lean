/-
  DERIVED. GIVEN WITH THE SEED: THE CARDS: each row of YtaehldfhjfchhaaDoorRows.lean that lists a variable, with what it lists TIED to the program's text (the seventh form; the later family's looks); each row that meets fmt, with fmt's text TOLD by the authors' own Lean function (tested against real Go, not proved from fmt's source: count such statements apart). THE CARD IS WHAT COUNTS. Prove the row's statement (the work); the ties are given (YtaehldfhjfchhaaDoorTie.lean); close each card by the builder's one call (the guide's Derived/Test/ToyasCard.lean, 'card_holds'). Laid BY PROGRAM, IN A SANDBOX (cutbox-door.mjs). By AI agents, Wed Nov 11 2026. No macro, syntax, notation, axiom, sorry.
-/
import Derived.Test.YtaehldfhjfchhaaDoorRows
import GoSem.ClaimSeven
namespace Go.Proofs.YtaehldfhjfchhaaDoor
namespace Rows

/-- THE TIED CARD OF 'laws.FnExactParseList'. -/
def fnExactParseListCard : Claim7 := { stood := { row := fnExactParseListRow, standIns := [], harness := (true, "002e64a993ebd256c0d40f2748e200c029441294f5425e92bb0aa8895d1c9358"), looks := true }, kinds := [], alts := [], laidByText := true, laidKinds := [.data, .data, .data, .data, .sentinel, .sentinel, .pinned], laidTests := true, laidLooks := .later }
def FnExactParseListCardSaid : Prop := Claim7.holds Tryd.pinned (.plain (OpenSpec.ofChange fnExactParseListSpec)) fnExactParseListCard

/-- THE TIED CARD OF 'laws.FnExactFormatList'. -/
def fnExactFormatListCard : Claim7 := { stood := { row := fnExactFormatListRow, standIns := [], harness := (true, "002e64a993ebd256c0d40f2748e200c029441294f5425e92bb0aa8895d1c9358"), looks := true }, kinds := [], alts := [], laidByText := true, laidKinds := [.data, .data, .data], laidTests := true, laidLooks := .later }
def FnExactFormatListCardSaid : Prop := Claim7.holds Tryd.pinned (.plain (OpenSpec.ofChange fnExactFormatListSpec)) fnExactFormatListCard

/-- THE SECOND FORM's CARD OF 'laws.FnExactParseList'. -/
def fnExactParseListUptoCard : Claim7 := { stood := { row := fnExactParseListUptoRow, standIns := [], harness := (true, "002e64a993ebd256c0d40f2748e200c029441294f5425e92bb0aa8895d1c9358"), looks := true }, kinds := [], alts := [], laidByText := true, laidKinds := [.data, .data, .data, .data, .sentinel, .sentinel, .pinned], laidTests := true, laidLooks := .later }
def FnExactParseListUptoCardSaid : Prop := Claim7.holds Tryd.pinned (.plain (OpenSpec.upto fnExactParseListSpec)) fnExactParseListUptoCard

/-- THE SECOND FORM's CARD OF 'laws.FnExactFormatList'. -/
def fnExactFormatListUptoCard : Claim7 := { stood := { row := fnExactFormatListUptoRow, standIns := [], harness := (true, "002e64a993ebd256c0d40f2748e200c029441294f5425e92bb0aa8895d1c9358"), looks := true }, kinds := [], alts := [], laidByText := true, laidKinds := [.data, .data, .data], laidTests := true, laidLooks := .later }
def FnExactFormatListUptoCardSaid : Prop := Claim7.holds Tryd.pinned (.plain (OpenSpec.upto fnExactFormatListSpec)) fnExactFormatListUptoCard
end Rows
end Go.Proofs.YtaehldfhjfchhaaDoor
