/-
  DERIVED. GIVEN WITH THE SEED: THE CARDS: each row of YtfbonocadpknbaaGreatDoorRows.lean that lists a variable, with what it lists TIED to the program's text (the seventh form; the later family's looks); each row that meets fmt, with fmt's text TOLD by the authors' own Lean function (tested against real Go, not proved from fmt's source: count such statements apart). THE CARD IS WHAT COUNTS. Prove the row's statement (the work); the ties are given (YtfbonocadpknbaaGreatDoorTie.lean); close each card by the builder's one call (the guide's Derived/Test/ToyasCard.lean, 'card_holds'). Laid BY PROGRAM, IN A SANDBOX (cutbox-door.mjs). By AI agents, Wed Nov 11 2026. No macro, syntax, notation, axiom, sorry.
-/
import Derived.Test.YtfbonocadpknbaaGreatDoorRows
import GoSem.ClaimSeven
namespace Go.Proofs.YtfbonocadpknbaaGreatDoor
namespace Rows

/-- THE TIED CARD OF 'laws.FnLodText'. -/
def fnLodTextCard : Claim7 := { stood := { row := fnLodTextRow, standIns := [], harness := (true, "dbd43149c1f0945c13ac54857c2fac3026f3765a31ac738095234ea220416025"), looks := true }, kinds := [], alts := [], laidByText := true, laidKinds := [.data, .data, .data], laidTests := true, laidLooks := .later }
def FnLodTextCardSaid : Prop := Claim7.holds Tryz.pinned (.plain (OpenSpec.ofChange fnLodTextSpec)) fnLodTextCard

/-- THE TIED CARD OF 'laws.FnClsSame'. -/
def fnClsSameCard : Claim7 := { stood := { row := fnClsSameRow, standIns := [], harness := (true, "dbd43149c1f0945c13ac54857c2fac3026f3765a31ac738095234ea220416025"), looks := true }, kinds := [], alts := [], laidByText := true, laidKinds := [.data, .data, .data], laidTests := true, laidLooks := .later }
def FnClsSameCardSaid : Prop := Claim7.holds Tryz.pinned (.plain (OpenSpec.ofChange fnClsSameSpec)) fnClsSameCard

/-- THE SECOND FORM's CARD OF 'laws.FnLodText'. -/
def fnLodTextUptoCard : Claim7 := { stood := { row := fnLodTextUptoRow, standIns := [], harness := (true, "dbd43149c1f0945c13ac54857c2fac3026f3765a31ac738095234ea220416025"), looks := true }, kinds := [], alts := [], laidByText := true, laidKinds := [.data, .data, .data], laidTests := true, laidLooks := .later }
def FnLodTextUptoCardSaid : Prop := Claim7.holds Tryz.pinned (.plain (OpenSpec.upto fnLodTextSpec)) fnLodTextUptoCard

/-- THE SECOND FORM's CARD OF 'laws.FnClsSame'. -/
def fnClsSameUptoCard : Claim7 := { stood := { row := fnClsSameUptoRow, standIns := [], harness := (true, "dbd43149c1f0945c13ac54857c2fac3026f3765a31ac738095234ea220416025"), looks := true }, kinds := [], alts := [], laidByText := true, laidKinds := [.data, .data, .data], laidTests := true, laidLooks := .later }
def FnClsSameUptoCardSaid : Prop := Claim7.holds Tryz.pinned (.plain (OpenSpec.upto fnClsSameSpec)) fnClsSameUptoCard
end Rows
end Go.Proofs.YtfbonocadpknbaaGreatDoor
