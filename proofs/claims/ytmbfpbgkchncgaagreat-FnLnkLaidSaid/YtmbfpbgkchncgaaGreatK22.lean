/-
  Texts of mine, packed: PickM. No condition beside those of the single theorems.
-/
import Derived.Test.YtmbfpbgkchncgaaGreatK18
import Derived.Test.YtmbfpbgkchncgaaGreatK20
import Derived.Test.YtmbfpbgkchncgaaGreatK10
set_option linter.unusedSimpArgs false
set_option linter.unusedVariables false
set_option maxHeartbeats 16000000
set_option maxRecDepth 100000

