/-
  DERIVED. GIVEN WITH THE SEED: THE CARDS: each row of YtmbfpbgkchncgaaDoorRows.lean that lists a variable, with what it lists TIED to the program's text (the seventh form; the later family's looks); each row that meets fmt, with fmt's text TOLD by the authors' own Lean function (tested against real Go, not proved from fmt's source: count such statements apart). THE CARD IS WHAT COUNTS. Prove the row's statement (the work); the ties are given (YtmbfpbgkchncgaaDoorTie.lean); close each card by the builder's one call (the guide's Derived/Test/ToyasCard.lean, 'card_holds'). Laid BY PROGRAM, IN A SANDBOX (cutbox-door.mjs). By AI agents, Wed Nov 11 2026. No macro, syntax, notation, axiom, sorry.
-/
import Derived.Test.YtmbfpbgkchncgaaDoorRows
import GoSem.ClaimSeven
namespace Go.Proofs.YtmbfpbgkchncgaaDoor
namespace Rows

/-- THE TIED CARD OF 'laws.FnInsText'. -/
def fnInsTextCard : Claim7 := { stood := { row := fnInsTextRow, standIns := [], harness := (true, "5bb997b1ea76d299f10529eaf70112f64134f67670c5071340e005ce34a7fa53"), looks := true }, kinds := [], alts := [], laidByText := true, laidKinds := [.data, .data, .data, .data, .sentinel, .sentinel, .pinned], laidTests := true, laidLooks := .later }
def FnInsTextCardSaid : Prop := Claim7.holds Tryd.pinned (.plain (OpenSpec.ofChange fnInsTextSpec)) fnInsTextCard

/-- THE TIED CARD OF 'laws.FnExactInsRead'. -/
def fnExactInsReadCard : Claim7 := { stood := { row := fnExactInsReadRow, standIns := [], harness := (true, "5bb997b1ea76d299f10529eaf70112f64134f67670c5071340e005ce34a7fa53"), looks := true }, kinds := [], alts := [], laidByText := true, laidKinds := [.data, .data, .data, .data, .sentinel, .sentinel, .pinned], laidTests := true, laidLooks := .later }
def FnExactInsReadCardSaid : Prop := Claim7.holds Tryd.pinned (.plain (OpenSpec.ofChange fnExactInsReadSpec)) fnExactInsReadCard

/-- THE SECOND FORM's CARD OF 'laws.FnInsText'. -/
def fnInsTextUptoCard : Claim7 := { stood := { row := fnInsTextUptoRow, standIns := [], harness := (true, "5bb997b1ea76d299f10529eaf70112f64134f67670c5071340e005ce34a7fa53"), looks := true }, kinds := [], alts := [], laidByText := true, laidKinds := [.data, .data, .data, .data, .sentinel, .sentinel, .pinned], laidTests := true, laidLooks := .later }
def FnInsTextUptoCardSaid : Prop := Claim7.holds Tryd.pinned (.plain (OpenSpec.upto fnInsTextSpec)) fnInsTextUptoCard

/-- THE SECOND FORM's CARD OF 'laws.FnExactInsRead'. -/
def fnExactInsReadUptoCard : Claim7 := { stood := { row := fnExactInsReadUptoRow, standIns := [], harness := (true, "5bb997b1ea76d299f10529eaf70112f64134f67670c5071340e005ce34a7fa53"), looks := true }, kinds := [], alts := [], laidByText := true, laidKinds := [.data, .data, .data, .data, .sentinel, .sentinel, .pinned], laidTests := true, laidLooks := .later }
def FnExactInsReadUptoCardSaid : Prop := Claim7.holds Tryd.pinned (.plain (OpenSpec.upto fnExactInsReadSpec)) fnExactInsReadUptoCard
end Rows
end Go.Proofs.YtmbfpbgkchncgaaDoor
