

/-
  Plain words: a short number, as the program reads it. No program in sight. No condition.
-/
import Derived.Test.YtmbfpbgkchncgaaDoorPars
import Derived.Lib.Atoi
namespace Go.Proofs.YtmbfpbgkchncgaaDoor
set_option linter.unusedSimpArgs false
set_option linter.unusedVariables false
open Go.RowKit

/-- a number of at most four digits, as it would be written; 0 and false, if it is none -/
def shortN (s : ByteArray) : Int × Bool := if s.size < 1 ∨ 5 < s.size then (0, false) else match Lib.atoi s.data.toList with | none => (0, false) | some n => if Lib.itoa n = s.data.toList ∧ n ≤ 9999 ∧ -9999 ≤ n then (n, true) else (0, false)

end Go.Proofs.YtmbfpbgkchncgaaDoor
