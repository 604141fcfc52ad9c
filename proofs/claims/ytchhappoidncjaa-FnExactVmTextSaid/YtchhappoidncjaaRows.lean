/-
  No cell of these rows narrows 'for every input' (looked for: loops, veiled, ifaces, maps, wideKeys, modest, calm, conditions, laid).
  DERIVED. THE GIVEN ROWS OF THIS SEAT. 11 by the template 'for every input the law returns true; each argument reads behind the call as it read before'; 0 by the template 'total and deterministic' (their statements: YtchhappoidncjaaTotals.lean).
  GIVEN WITH THE SEED: the statements are not yours to turn. If you find one false, say at which input.
  Laid BY PROGRAM, IN A SANDBOX (cutbox-rows.mjs): the forced cells as the released guide's own fill.sh prints them over the translation 752b3e8fd4d98685… (all of the seat's roots in one cut). By AI agents, Wed Nov 11 2026. No macro, syntax, notation, axiom, sorry.
-/
import Derived.Test.YtchhappoidncjaaChecked
import GoSem.Claim
import GoSem.ClaimJoined
import GoSem.ClaimMapViews
import Derived.JoinedTies
import Derived.KernelRfl
namespace Go.Proofs.Ytchhappoidncjaa
/- THE CELL 'sum', in the pinned program and in every row, IS THE sha256 OF THE DUMP (.gsa) THAT YtchhappoidncjaaProg.lean LOADS. Nothing in Lean hashes anything: it is a label: what it is worth is what the hold of that sum in a sandbox is worth. -/
noncomputable def Try.pinned : Pinned := { name := "ytchhappoidncjaa", sum := "752b3e8fd4d98685c1421ba2abcbd9957da6edbb69ab3ed980829409f5be4744", checked := Try.checked }
namespace Rows
def none {H : Type} : Left H := { results := [], args := [] }

/-- 'laws.FnVmText': WHATEVER THE INPUT: true; the input reads as it did. -/
def fnVmTextSpec : ChangeSpec := { name := "fnVmText", fn := fun _ => fun
  | [d1, d2] => { results := [.lit (.bool true)], args := [d1, d2] }
  | _ => none }
def fnVmTextRow : OpenClaim := { program := "ytchhappoidncjaa", sum := "752b3e8fd4d98685c1421ba2abcbd9957da6edbb69ab3ed980829409f5be4744", func := "loop.example/lodgekeeper/laws.FnVmText", spec := "fnVmText", apart := false }
def FnVmTextSaid : Prop := fnVmTextRow.holds Try.pinned (OpenSpec.ofChange fnVmTextSpec)

/-- ITS FALSE NEIGHBOUR: 'it returns false'. Refute it at one input. -/
def fnVmTextWrong : ChangeSpec := { name := "fnVmText", fn := fun _ => fun
  | [d1, d2] => { results := [.lit (.bool false)], args := [d1, d2] }
  | _ => none }
def FnVmTextWrongFalsely : Prop := fnVmTextRow.holds Try.pinned (OpenSpec.ofChange fnVmTextWrong)

/-- 'laws.FnExactKndText': WHATEVER THE INPUT: true; the input reads as it did. -/
def fnExactKndTextSpec : ChangeSpec := { name := "fnExactKndText", fn := fun _ => fun
  | [d] => { results := [.lit (.bool true)], args := [d] }
  | _ => none }
def fnExactKndTextRow : OpenClaim := { program := "ytchhappoidncjaa", sum := "752b3e8fd4d98685c1421ba2abcbd9957da6edbb69ab3ed980829409f5be4744", func := "loop.example/lodgekeeper/laws.FnExactKndText", spec := "fnExactKndText", unfollowed := true, recurses := true, apart := false }
def FnExactKndTextSaid : Prop := fnExactKndTextRow.holds Try.pinned (OpenSpec.ofChange fnExactKndTextSpec)

/-- ITS FALSE NEIGHBOUR: 'it returns false'. Refute it at one input. -/
def fnExactKndTextWrong : ChangeSpec := { name := "fnExactKndText", fn := fun _ => fun
  | [d] => { results := [.lit (.bool false)], args := [d] }
  | _ => none }
def FnExactKndTextWrongFalsely : Prop := fnExactKndTextRow.holds Try.pinned (OpenSpec.ofChange fnExactKndTextWrong)

/-- 'laws.FnExactTagOf': WHATEVER THE INPUT: true; the input reads as it did. -/
def fnExactTagOfSpec : ChangeSpec := { name := "fnExactTagOf", fn := fun _ => fun
  | [d] => { results := [.lit (.bool true)], args := [d] }
  | _ => none }
def fnExactTagOfRow : OpenClaim := { program := "ytchhappoidncjaa", sum := "752b3e8fd4d98685c1421ba2abcbd9957da6edbb69ab3ed980829409f5be4744", func := "loop.example/lodgekeeper/laws.FnExactTagOf", spec := "fnExactTagOf", apart := false }
def FnExactTagOfSaid : Prop := fnExactTagOfRow.holds Try.pinned (OpenSpec.ofChange fnExactTagOfSpec)

/-- ITS FALSE NEIGHBOUR: 'it returns false'. Refute it at one input. -/
def fnExactTagOfWrong : ChangeSpec := { name := "fnExactTagOf", fn := fun _ => fun
  | [d] => { results := [.lit (.bool false)], args := [d] }
  | _ => none }
def FnExactTagOfWrongFalsely : Prop := fnExactTagOfRow.holds Try.pinned (OpenSpec.ofChange fnExactTagOfWrong)

/-- 'laws.FnNamOk': WHATEVER THE INPUT: true; the input reads as it did. -/
def fnNamOkSpec : ChangeSpec := { name := "fnNamOk", fn := fun _ => fun
  | [d] => { results := [.lit (.bool true)], args := [d] }
  | _ => none }
def fnNamOkRow : OpenClaim := { program := "ytchhappoidncjaa", sum := "752b3e8fd4d98685c1421ba2abcbd9957da6edbb69ab3ed980829409f5be4744", func := "loop.example/lodgekeeper/laws.FnNamOk", spec := "fnNamOk", apart := false }
def FnNamOkSaid : Prop := fnNamOkRow.holds Try.pinned (OpenSpec.ofChange fnNamOkSpec)

/-- ITS FALSE NEIGHBOUR: 'it returns false'. Refute it at one input. -/
def fnNamOkWrong : ChangeSpec := { name := "fnNamOk", fn := fun _ => fun
  | [d] => { results := [.lit (.bool false)], args := [d] }
  | _ => none }
def FnNamOkWrongFalsely : Prop := fnNamOkRow.holds Try.pinned (OpenSpec.ofChange fnNamOkWrong)

/-- 'laws.FnExactTagText': WHATEVER THE INPUT: true; the input reads as it did. -/
def fnExactTagTextSpec : ChangeSpec := { name := "fnExactTagText", fn := fun _ => fun
  | [d] => { results := [.lit (.bool true)], args := [d] }
  | _ => none }
def fnExactTagTextRow : OpenClaim := { program := "ytchhappoidncjaa", sum := "752b3e8fd4d98685c1421ba2abcbd9957da6edbb69ab3ed980829409f5be4744", func := "loop.example/lodgekeeper/laws.FnExactTagText", spec := "fnExactTagText", apart := false }
def FnExactTagTextSaid : Prop := fnExactTagTextRow.holds Try.pinned (OpenSpec.ofChange fnExactTagTextSpec)

/-- ITS FALSE NEIGHBOUR: 'it returns false'. Refute it at one input. -/
def fnExactTagTextWrong : ChangeSpec := { name := "fnExactTagText", fn := fun _ => fun
  | [d] => { results := [.lit (.bool false)], args := [d] }
  | _ => none }
def FnExactTagTextWrongFalsely : Prop := fnExactTagTextRow.holds Try.pinned (OpenSpec.ofChange fnExactTagTextWrong)

/-- 'laws.FnTagOk': WHATEVER THE INPUT: true; the input reads as it did. -/
def fnTagOkSpec : ChangeSpec := { name := "fnTagOk", fn := fun _ => fun
  | [d1, d2] => { results := [.lit (.bool true)], args := [d1, d2] }
  | _ => none }
def fnTagOkRow : OpenClaim := { program := "ytchhappoidncjaa", sum := "752b3e8fd4d98685c1421ba2abcbd9957da6edbb69ab3ed980829409f5be4744", func := "loop.example/lodgekeeper/laws.FnTagOk", spec := "fnTagOk", apart := false }
def FnTagOkSaid : Prop := fnTagOkRow.holds Try.pinned (OpenSpec.ofChange fnTagOkSpec)

/-- ITS FALSE NEIGHBOUR: 'it returns false'. Refute it at one input. -/
def fnTagOkWrong : ChangeSpec := { name := "fnTagOk", fn := fun _ => fun
  | [d1, d2] => { results := [.lit (.bool false)], args := [d1, d2] }
  | _ => none }
def FnTagOkWrongFalsely : Prop := fnTagOkRow.holds Try.pinned (OpenSpec.ofChange fnTagOkWrong)

/-- 'laws.FnExactInsOk': WHATEVER THE INPUT: true; the input reads as it did. -/
def fnExactInsOkSpec : ChangeSpec := { name := "fnExactInsOk", fn := fun _ => fun
  | [d] => { results := [.lit (.bool true)], args := [d] }
  | _ => none }
def fnExactInsOkRow : OpenClaim := { program := "ytchhappoidncjaa", sum := "752b3e8fd4d98685c1421ba2abcbd9957da6edbb69ab3ed980829409f5be4744", func := "loop.example/lodgekeeper/laws.FnExactInsOk", spec := "fnExactInsOk", apart := false }
def FnExactInsOkSaid : Prop := fnExactInsOkRow.holds Try.pinned (OpenSpec.ofChange fnExactInsOkSpec)

/-- ITS FALSE NEIGHBOUR: 'it returns false'. Refute it at one input. -/
def fnExactInsOkWrong : ChangeSpec := { name := "fnExactInsOk", fn := fun _ => fun
  | [d] => { results := [.lit (.bool false)], args := [d] }
  | _ => none }
def FnExactInsOkWrongFalsely : Prop := fnExactInsOkRow.holds Try.pinned (OpenSpec.ofChange fnExactInsOkWrong)

/-- 'laws.FnKndText': WHATEVER THE INPUT: true; the input reads as it did. -/
def fnKndTextSpec : ChangeSpec := { name := "fnKndText", fn := fun _ => fun
  | [d1, d2] => { results := [.lit (.bool true)], args := [d1, d2] }
  | _ => none }
def fnKndTextRow : OpenClaim := { program := "ytchhappoidncjaa", sum := "752b3e8fd4d98685c1421ba2abcbd9957da6edbb69ab3ed980829409f5be4744", func := "loop.example/lodgekeeper/laws.FnKndText", spec := "fnKndText", unfollowed := true, recurses := true, apart := false }
def FnKndTextSaid : Prop := fnKndTextRow.holds Try.pinned (OpenSpec.ofChange fnKndTextSpec)

/-- ITS FALSE NEIGHBOUR: 'it returns false'. Refute it at one input. -/
def fnKndTextWrong : ChangeSpec := { name := "fnKndText", fn := fun _ => fun
  | [d1, d2] => { results := [.lit (.bool false)], args := [d1, d2] }
  | _ => none }
def FnKndTextWrongFalsely : Prop := fnKndTextRow.holds Try.pinned (OpenSpec.ofChange fnKndTextWrong)

/-- 'laws.FnTagOf': WHATEVER THE INPUT: true; the input reads as it did. -/
def fnTagOfSpec : ChangeSpec := { name := "fnTagOf", fn := fun _ => fun
  | [d1, d2] => { results := [.lit (.bool true)], args := [d1, d2] }
  | _ => none }
def fnTagOfRow : OpenClaim := { program := "ytchhappoidncjaa", sum := "752b3e8fd4d98685c1421ba2abcbd9957da6edbb69ab3ed980829409f5be4744", func := "loop.example/lodgekeeper/laws.FnTagOf", spec := "fnTagOf", unfollowed := true, recurses := true, apart := false }
def FnTagOfSaid : Prop := fnTagOfRow.holds Try.pinned (OpenSpec.ofChange fnTagOfSpec)

/-- ITS FALSE NEIGHBOUR: 'it returns false'. Refute it at one input. -/
def fnTagOfWrong : ChangeSpec := { name := "fnTagOf", fn := fun _ => fun
  | [d1, d2] => { results := [.lit (.bool false)], args := [d1, d2] }
  | _ => none }
def FnTagOfWrongFalsely : Prop := fnTagOfRow.holds Try.pinned (OpenSpec.ofChange fnTagOfWrong)

/-- 'laws.FnInsOk': WHATEVER THE INPUT: true; the input reads as it did. -/
def fnInsOkSpec : ChangeSpec := { name := "fnInsOk", fn := fun _ => fun
  | [d] => { results := [.lit (.bool true)], args := [d] }
  | _ => none }
def fnInsOkRow : OpenClaim := { program := "ytchhappoidncjaa", sum := "752b3e8fd4d98685c1421ba2abcbd9957da6edbb69ab3ed980829409f5be4744", func := "loop.example/lodgekeeper/laws.FnInsOk", spec := "fnInsOk", apart := false }
def FnInsOkSaid : Prop := fnInsOkRow.holds Try.pinned (OpenSpec.ofChange fnInsOkSpec)

/-- ITS FALSE NEIGHBOUR: 'it returns false'. Refute it at one input. -/
def fnInsOkWrong : ChangeSpec := { name := "fnInsOk", fn := fun _ => fun
  | [d] => { results := [.lit (.bool false)], args := [d] }
  | _ => none }
def FnInsOkWrongFalsely : Prop := fnInsOkRow.holds Try.pinned (OpenSpec.ofChange fnInsOkWrong)

/-- 'laws.FnExactVmText': WHATEVER THE INPUT: true; the input reads as it did. -/
def fnExactVmTextSpec : ChangeSpec := { name := "fnExactVmText", fn := fun _ => fun
  | [d] => { results := [.lit (.bool true)], args := [d] }
  | _ => none }
def fnExactVmTextRow : OpenClaim := { program := "ytchhappoidncjaa", sum := "752b3e8fd4d98685c1421ba2abcbd9957da6edbb69ab3ed980829409f5be4744", func := "loop.example/lodgekeeper/laws.FnExactVmText", spec := "fnExactVmText", apart := false }
def FnExactVmTextSaid : Prop := fnExactVmTextRow.holds Try.pinned (OpenSpec.ofChange fnExactVmTextSpec)

/-- ITS FALSE NEIGHBOUR: 'it returns false'. Refute it at one input. -/
def fnExactVmTextWrong : ChangeSpec := { name := "fnExactVmText", fn := fun _ => fun
  | [d] => { results := [.lit (.bool false)], args := [d] }
  | _ => none }
def FnExactVmTextWrongFalsely : Prop := fnExactVmTextRow.holds Try.pinned (OpenSpec.ofChange fnExactVmTextWrong)

/- THE SECOND FORM. 'bulk': how many values and letters a reading holds, each counted each time it is reached (what is shared counts as often as it is met; a slice's spare places count too). A statement '..UptoSaid' is the law's where the arguments, and the package variables that the reading takes, are together of bulk at most 1048576: NARROWER than '..Said'. Prove '..Said' where nothing that the law and all that it calls make is longer than what came in: it says more and counts as full. Else prove '..UptoSaid'. A law counts once. -/
mutual
def uptoBulk {H : Type} : DataW H → Nat
  | .lit (.string bytes) => bytes.length + 1
  | .lit _ => 1
  | .nil => 1
  | .ptr d => uptoBulk d + 1
  | .slice elems spare => uptoBulkAll elems + uptoBulkAll spare + 1
  | .agg parts => uptoBulkAll parts + 1
  | .iface _ d => uptoBulk d + 1
  | .map entries => uptoBulkEntries entries + 1
  | .held _ => 1
def uptoBulkAll {H : Type} : List (DataW H) → Nat
  | [] => 0
  | d :: r => uptoBulk d + uptoBulkAll r
def uptoBulkEntries {H : Type} : List (Lit × DataW H) → Nat
  | [] => 0
  | x :: r => uptoBulkEntry x + uptoBulkEntries r
def uptoBulkEntry {H : Type} : Lit × DataW H → Nat
  | (.string bytes, d) => bytes.length + uptoBulk d + 1
  | (_, d) => uptoBulk d + 1
 end
def uptoSmall : (H : Type) → List (DataW H) → Bool := fun _ ds => decide (uptoBulkAll ds ≤ 1048576)
def OpenSpec.upto (s : _root_.Go.ChangeSpec) : _root_.Go.OpenSpec := { _root_.Go.OpenSpec.ofChange s with cond := some uptoSmall }

/-- 'laws.FnVmText', WHERE WHAT IT READS IS OF BULK AT MOST 1048576: true; the input reads as it did. -/
def fnVmTextUptoRow : OpenClaim := { program := "ytchhappoidncjaa", sum := "752b3e8fd4d98685c1421ba2abcbd9957da6edbb69ab3ed980829409f5be4744", func := "loop.example/lodgekeeper/laws.FnVmText", spec := "fnVmText", apart := false, narrowed := true }
def FnVmTextUptoSaid : Prop := fnVmTextUptoRow.holds Try.pinned (OpenSpec.upto fnVmTextSpec)

/-- 'laws.FnExactKndText', WHERE WHAT IT READS IS OF BULK AT MOST 1048576: true; the input reads as it did. -/
def fnExactKndTextUptoRow : OpenClaim := { program := "ytchhappoidncjaa", sum := "752b3e8fd4d98685c1421ba2abcbd9957da6edbb69ab3ed980829409f5be4744", func := "loop.example/lodgekeeper/laws.FnExactKndText", spec := "fnExactKndText", unfollowed := true, recurses := true, apart := false, narrowed := true }
def FnExactKndTextUptoSaid : Prop := fnExactKndTextUptoRow.holds Try.pinned (OpenSpec.upto fnExactKndTextSpec)

/-- 'laws.FnExactTagOf', WHERE WHAT IT READS IS OF BULK AT MOST 1048576: true; the input reads as it did. -/
def fnExactTagOfUptoRow : OpenClaim := { program := "ytchhappoidncjaa", sum := "752b3e8fd4d98685c1421ba2abcbd9957da6edbb69ab3ed980829409f5be4744", func := "loop.example/lodgekeeper/laws.FnExactTagOf", spec := "fnExactTagOf", apart := false, narrowed := true }
def FnExactTagOfUptoSaid : Prop := fnExactTagOfUptoRow.holds Try.pinned (OpenSpec.upto fnExactTagOfSpec)

/-- 'laws.FnNamOk', WHERE WHAT IT READS IS OF BULK AT MOST 1048576: true; the input reads as it did. -/
def fnNamOkUptoRow : OpenClaim := { program := "ytchhappoidncjaa", sum := "752b3e8fd4d98685c1421ba2abcbd9957da6edbb69ab3ed980829409f5be4744", func := "loop.example/lodgekeeper/laws.FnNamOk", spec := "fnNamOk", apart := false, narrowed := true }
def FnNamOkUptoSaid : Prop := fnNamOkUptoRow.holds Try.pinned (OpenSpec.upto fnNamOkSpec)

/-- 'laws.FnExactTagText', WHERE WHAT IT READS IS OF BULK AT MOST 1048576: true; the input reads as it did. -/
def fnExactTagTextUptoRow : OpenClaim := { program := "ytchhappoidncjaa", sum := "752b3e8fd4d98685c1421ba2abcbd9957da6edbb69ab3ed980829409f5be4744", func := "loop.example/lodgekeeper/laws.FnExactTagText", spec := "fnExactTagText", apart := false, narrowed := true }
def FnExactTagTextUptoSaid : Prop := fnExactTagTextUptoRow.holds Try.pinned (OpenSpec.upto fnExactTagTextSpec)

/-- 'laws.FnTagOk', WHERE WHAT IT READS IS OF BULK AT MOST 1048576: true; the input reads as it did. -/
def fnTagOkUptoRow : OpenClaim := { program := "ytchhappoidncjaa", sum := "752b3e8fd4d98685c1421ba2abcbd9957da6edbb69ab3ed980829409f5be4744", func := "loop.example/lodgekeeper/laws.FnTagOk", spec := "fnTagOk", apart := false, narrowed := true }
def FnTagOkUptoSaid : Prop := fnTagOkUptoRow.holds Try.pinned (OpenSpec.upto fnTagOkSpec)

/-- 'laws.FnExactInsOk', WHERE WHAT IT READS IS OF BULK AT MOST 1048576: true; the input reads as it did. -/
def fnExactInsOkUptoRow : OpenClaim := { program := "ytchhappoidncjaa", sum := "752b3e8fd4d98685c1421ba2abcbd9957da6edbb69ab3ed980829409f5be4744", func := "loop.example/lodgekeeper/laws.FnExactInsOk", spec := "fnExactInsOk", apart := false, narrowed := true }
def FnExactInsOkUptoSaid : Prop := fnExactInsOkUptoRow.holds Try.pinned (OpenSpec.upto fnExactInsOkSpec)

/-- 'laws.FnKndText', WHERE WHAT IT READS IS OF BULK AT MOST 1048576: true; the input reads as it did. -/
def fnKndTextUptoRow : OpenClaim := { program := "ytchhappoidncjaa", sum := "752b3e8fd4d98685c1421ba2abcbd9957da6edbb69ab3ed980829409f5be4744", func := "loop.example/lodgekeeper/laws.FnKndText", spec := "fnKndText", unfollowed := true, recurses := true, apart := false, narrowed := true }
def FnKndTextUptoSaid : Prop := fnKndTextUptoRow.holds Try.pinned (OpenSpec.upto fnKndTextSpec)

/-- 'laws.FnTagOf', WHERE WHAT IT READS IS OF BULK AT MOST 1048576: true; the input reads as it did. -/
def fnTagOfUptoRow : OpenClaim := { program := "ytchhappoidncjaa", sum := "752b3e8fd4d98685c1421ba2abcbd9957da6edbb69ab3ed980829409f5be4744", func := "loop.example/lodgekeeper/laws.FnTagOf", spec := "fnTagOf", unfollowed := true, recurses := true, apart := false, narrowed := true }
def FnTagOfUptoSaid : Prop := fnTagOfUptoRow.holds Try.pinned (OpenSpec.upto fnTagOfSpec)

/-- 'laws.FnInsOk', WHERE WHAT IT READS IS OF BULK AT MOST 1048576: true; the input reads as it did. -/
def fnInsOkUptoRow : OpenClaim := { program := "ytchhappoidncjaa", sum := "752b3e8fd4d98685c1421ba2abcbd9957da6edbb69ab3ed980829409f5be4744", func := "loop.example/lodgekeeper/laws.FnInsOk", spec := "fnInsOk", apart := false, narrowed := true }
def FnInsOkUptoSaid : Prop := fnInsOkUptoRow.holds Try.pinned (OpenSpec.upto fnInsOkSpec)

/-- 'laws.FnExactVmText', WHERE WHAT IT READS IS OF BULK AT MOST 1048576: true; the input reads as it did. -/
def fnExactVmTextUptoRow : OpenClaim := { program := "ytchhappoidncjaa", sum := "752b3e8fd4d98685c1421ba2abcbd9957da6edbb69ab3ed980829409f5be4744", func := "loop.example/lodgekeeper/laws.FnExactVmText", spec := "fnExactVmText", apart := false, narrowed := true }
def FnExactVmTextUptoSaid : Prop := fnExactVmTextUptoRow.holds Try.pinned (OpenSpec.upto fnExactVmTextSpec)

end Rows
end Go.Proofs.Ytchhappoidncjaa
