/-
  No cell of these rows narrows 'for every input' (looked for: loops, veiled, ifaces, maps, wideKeys, modest, calm, conditions, laid).
  DERIVED. THE GIVEN ROWS OF THIS SEAT. 5 by the template 'for every input the law returns true; each argument reads behind the call as it read before'; 0 by the template 'total and deterministic' (their statements: YtlnadoidcmhffaaTotals.lean).
  GIVEN WITH THE SEED: the statements are not yours to turn. If you find one false, say at which input.
  Laid BY PROGRAM, IN A SANDBOX (cutbox-rows.mjs): the forced cells as the released guide's own fill.sh prints them over the translation e52ddbee306001ac… (all of the seat's roots in one cut). By AI agents, Wed Nov 11 2026. No macro, syntax, notation, axiom, sorry.
-/
import Derived.Test.YtlnadoidcmhffaaChecked
import GoSem.Claim
import GoSem.ClaimJoined
import GoSem.ClaimMapViews
import Derived.JoinedTies
import Derived.KernelRfl
namespace Go.Proofs.Ytlnadoidcmhffaa
/- THE CELL 'sum', in the pinned program and in every row, IS THE sha256 OF THE DUMP (.gsa) THAT YtlnadoidcmhffaaProg.lean LOADS. Nothing in Lean hashes anything: it is a label: what it is worth is what the hold of that sum in a sandbox is worth. -/
noncomputable def Try.pinned : Pinned := { name := "ytlnadoidcmhffaa", sum := "e52ddbee306001acf0477c39a80ea6b2c364e4c5d2782602569c671c817770a1", checked := Try.checked }
namespace Rows
def none {H : Type} : Left H := { results := [], args := [] }

/-- 'laws.FnExactConstants': WHATEVER THE INPUT: true; the input reads as it did. -/
def fnExactConstantsSpec : ChangeSpec := { name := "fnExactConstants", fn := fun _ => fun
  | [] => { results := [.lit (.bool true)], args := [] }
  | _ => none }
def fnExactConstantsRow : OpenClaim := { program := "ytlnadoidcmhffaa", sum := "e52ddbee306001acf0477c39a80ea6b2c364e4c5d2782602569c671c817770a1", func := "loop.example/lodgekeeper/laws.FnExactConstants", spec := "fnExactConstants", apart := false }
def FnExactConstantsSaid : Prop := fnExactConstantsRow.holds Try.pinned (OpenSpec.ofChange fnExactConstantsSpec)

/-- ITS FALSE NEIGHBOUR: 'it returns false'. Refute it at one input. -/
def fnExactConstantsWrong : ChangeSpec := { name := "fnExactConstants", fn := fun _ => fun
  | [] => { results := [.lit (.bool false)], args := [] }
  | _ => none }
def FnExactConstantsWrongFalsely : Prop := fnExactConstantsRow.holds Try.pinned (OpenSpec.ofChange fnExactConstantsWrong)

/-- 'laws.FnExactNamOk': WHATEVER THE INPUT: true; the input reads as it did. -/
def fnExactNamOkSpec : ChangeSpec := { name := "fnExactNamOk", fn := fun _ => fun
  | [d] => { results := [.lit (.bool true)], args := [d] }
  | _ => none }
def fnExactNamOkRow : OpenClaim := { program := "ytlnadoidcmhffaa", sum := "e52ddbee306001acf0477c39a80ea6b2c364e4c5d2782602569c671c817770a1", func := "loop.example/lodgekeeper/laws.FnExactNamOk", spec := "fnExactNamOk", apart := false }
def FnExactNamOkSaid : Prop := fnExactNamOkRow.holds Try.pinned (OpenSpec.ofChange fnExactNamOkSpec)

/-- ITS FALSE NEIGHBOUR: 'it returns false'. Refute it at one input. -/
def fnExactNamOkWrong : ChangeSpec := { name := "fnExactNamOk", fn := fun _ => fun
  | [d] => { results := [.lit (.bool false)], args := [d] }
  | _ => none }
def FnExactNamOkWrongFalsely : Prop := fnExactNamOkRow.holds Try.pinned (OpenSpec.ofChange fnExactNamOkWrong)

/-- 'laws.FnExactKndOk': WHATEVER THE INPUT: true; the input reads as it did. -/
def fnExactKndOkSpec : ChangeSpec := { name := "fnExactKndOk", fn := fun _ => fun
  | [d] => { results := [.lit (.bool true)], args := [d] }
  | _ => none }
def fnExactKndOkRow : OpenClaim := { program := "ytlnadoidcmhffaa", sum := "e52ddbee306001acf0477c39a80ea6b2c364e4c5d2782602569c671c817770a1", func := "loop.example/lodgekeeper/laws.FnExactKndOk", spec := "fnExactKndOk", apart := false }
def FnExactKndOkSaid : Prop := fnExactKndOkRow.holds Try.pinned (OpenSpec.ofChange fnExactKndOkSpec)

/-- ITS FALSE NEIGHBOUR: 'it returns false'. Refute it at one input. -/
def fnExactKndOkWrong : ChangeSpec := { name := "fnExactKndOk", fn := fun _ => fun
  | [d] => { results := [.lit (.bool false)], args := [d] }
  | _ => none }
def FnExactKndOkWrongFalsely : Prop := fnExactKndOkRow.holds Try.pinned (OpenSpec.ofChange fnExactKndOkWrong)

/-- 'laws.FnExactTagOk': WHATEVER THE INPUT: true; the input reads as it did. -/
def fnExactTagOkSpec : ChangeSpec := { name := "fnExactTagOk", fn := fun _ => fun
  | [d] => { results := [.lit (.bool true)], args := [d] }
  | _ => none }
def fnExactTagOkRow : OpenClaim := { program := "ytlnadoidcmhffaa", sum := "e52ddbee306001acf0477c39a80ea6b2c364e4c5d2782602569c671c817770a1", func := "loop.example/lodgekeeper/laws.FnExactTagOk", spec := "fnExactTagOk", apart := false }
def FnExactTagOkSaid : Prop := fnExactTagOkRow.holds Try.pinned (OpenSpec.ofChange fnExactTagOkSpec)

/-- ITS FALSE NEIGHBOUR: 'it returns false'. Refute it at one input. -/
def fnExactTagOkWrong : ChangeSpec := { name := "fnExactTagOk", fn := fun _ => fun
  | [d] => { results := [.lit (.bool false)], args := [d] }
  | _ => none }
def FnExactTagOkWrongFalsely : Prop := fnExactTagOkRow.holds Try.pinned (OpenSpec.ofChange fnExactTagOkWrong)

/-- 'laws.FnExactKndRead': WHATEVER THE INPUT: true; the input reads as it did. -/
def fnExactKndReadSpec : ChangeSpec := { name := "fnExactKndRead", fn := fun _ => fun
  | [d] => { results := [.lit (.bool true)], args := [d] }
  | _ => none }
def fnExactKndReadRow : OpenClaim := { program := "ytlnadoidcmhffaa", sum := "e52ddbee306001acf0477c39a80ea6b2c364e4c5d2782602569c671c817770a1", func := "loop.example/lodgekeeper/laws.FnExactKndRead", spec := "fnExactKndRead", apart := false }
def FnExactKndReadSaid : Prop := fnExactKndReadRow.holds Try.pinned (OpenSpec.ofChange fnExactKndReadSpec)

/-- ITS FALSE NEIGHBOUR: 'it returns false'. Refute it at one input. -/
def fnExactKndReadWrong : ChangeSpec := { name := "fnExactKndRead", fn := fun _ => fun
  | [d] => { results := [.lit (.bool false)], args := [d] }
  | _ => none }
def FnExactKndReadWrongFalsely : Prop := fnExactKndReadRow.holds Try.pinned (OpenSpec.ofChange fnExactKndReadWrong)

/- THE SECOND FORM. 'bulk': how many values and letters a reading holds, each counted each time it is reached (what is shared counts as often as it is met; a slice's spare places count too). A statement '..UptoSaid' is the law's where the arguments, and the package variables that the reading takes, are together of bulk at most 1048576: NARROWER than '..Said'. Prove '..Said' where nothing that the law and all that it calls make is longer than what came in: it says more and counts as full. Else prove '..UptoSaid'. A law counts once. -/
mutual
def uptoBulk {H : Type} : DataW H → Nat
  | .lit (.string bytes) => bytes.length + 1
  | .lit _ => 1
  | .nil => 1
  | .ptr d => uptoBulk d + 1
  | .slice elems spare => uptoBulkAll elems + uptoBulkAll spare + 1
  | .agg parts => uptoBulkAll parts + 1
  | .iface _ d => uptoBulk d + 1
  | .map entries => uptoBulkEntries entries + 1
  | .held _ => 1
def uptoBulkAll {H : Type} : List (DataW H) → Nat
  | [] => 0
  | d :: r => uptoBulk d + uptoBulkAll r
def uptoBulkEntries {H : Type} : List (Lit × DataW H) → Nat
  | [] => 0
  | x :: r => uptoBulkEntry x + uptoBulkEntries r
def uptoBulkEntry {H : Type} : Lit × DataW H → Nat
  | (.string bytes, d) => bytes.length + uptoBulk d + 1
  | (_, d) => uptoBulk d + 1
 end
def uptoSmall : (H : Type) → List (DataW H) → Bool := fun _ ds => decide (uptoBulkAll ds ≤ 1048576)
def OpenSpec.upto (s : _root_.Go.ChangeSpec) : _root_.Go.OpenSpec := { _root_.Go.OpenSpec.ofChange s with cond := some uptoSmall }

/-- 'laws.FnExactConstants', WHERE WHAT IT READS IS OF BULK AT MOST 1048576: true; the input reads as it did. -/
def fnExactConstantsUptoRow : OpenClaim := { program := "ytlnadoidcmhffaa", sum := "e52ddbee306001acf0477c39a80ea6b2c364e4c5d2782602569c671c817770a1", func := "loop.example/lodgekeeper/laws.FnExactConstants", spec := "fnExactConstants", apart := false, narrowed := true }
def FnExactConstantsUptoSaid : Prop := fnExactConstantsUptoRow.holds Try.pinned (OpenSpec.upto fnExactConstantsSpec)

/-- 'laws.FnExactNamOk', WHERE WHAT IT READS IS OF BULK AT MOST 1048576: true; the input reads as it did. -/
def fnExactNamOkUptoRow : OpenClaim := { program := "ytlnadoidcmhffaa", sum := "e52ddbee306001acf0477c39a80ea6b2c364e4c5d2782602569c671c817770a1", func := "loop.example/lodgekeeper/laws.FnExactNamOk", spec := "fnExactNamOk", apart := false, narrowed := true }
def FnExactNamOkUptoSaid : Prop := fnExactNamOkUptoRow.holds Try.pinned (OpenSpec.upto fnExactNamOkSpec)

/-- 'laws.FnExactKndOk', WHERE WHAT IT READS IS OF BULK AT MOST 1048576: true; the input reads as it did. -/
def fnExactKndOkUptoRow : OpenClaim := { program := "ytlnadoidcmhffaa", sum := "e52ddbee306001acf0477c39a80ea6b2c364e4c5d2782602569c671c817770a1", func := "loop.example/lodgekeeper/laws.FnExactKndOk", spec := "fnExactKndOk", apart := false, narrowed := true }
def FnExactKndOkUptoSaid : Prop := fnExactKndOkUptoRow.holds Try.pinned (OpenSpec.upto fnExactKndOkSpec)

/-- 'laws.FnExactTagOk', WHERE WHAT IT READS IS OF BULK AT MOST 1048576: true; the input reads as it did. -/
def fnExactTagOkUptoRow : OpenClaim := { program := "ytlnadoidcmhffaa", sum := "e52ddbee306001acf0477c39a80ea6b2c364e4c5d2782602569c671c817770a1", func := "loop.example/lodgekeeper/laws.FnExactTagOk", spec := "fnExactTagOk", apart := false, narrowed := true }
def FnExactTagOkUptoSaid : Prop := fnExactTagOkUptoRow.holds Try.pinned (OpenSpec.upto fnExactTagOkSpec)

/-- 'laws.FnExactKndRead', WHERE WHAT IT READS IS OF BULK AT MOST 1048576: true; the input reads as it did. -/
def fnExactKndReadUptoRow : OpenClaim := { program := "ytlnadoidcmhffaa", sum := "e52ddbee306001acf0477c39a80ea6b2c364e4c5d2782602569c671c817770a1", func := "loop.example/lodgekeeper/laws.FnExactKndRead", spec := "fnExactKndRead", apart := false, narrowed := true }
def FnExactKndReadUptoSaid : Prop := fnExactKndReadUptoRow.holds Try.pinned (OpenSpec.upto fnExactKndReadSpec)

end Rows
end Go.Proofs.Ytlnadoidcmhffaa
