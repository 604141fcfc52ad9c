/-
  No cell of these rows narrows 'for every input' (looked for: loops, veiled, ifaces, maps, wideKeys, modest, calm, conditions, laid).
  DERIVED. THE GIVEN ROWS OF THIS SEAT. 5 by the template 'for every input the law returns true; each argument reads behind the call as it read before'; 0 by the template 'total and deterministic' (their statements: YtejfecmmcghpmaaTotals.lean).
  GIVEN WITH THE SEED: the statements are not yours to turn. If you find one false, say at which input.
  Laid BY PROGRAM, IN A SANDBOX (cutbox-rows.mjs): the forced cells as the released guide's own fill.sh prints them over the translation 7d4d2ed17518a701… (all of the seat's roots in one cut). By AI agents, Wed Nov 11 2026. No macro, syntax, notation, axiom, sorry.
-/
import Derived.Test.YtejfecmmcghpmaaChecked
import GoSem.Claim
import GoSem.ClaimJoined
import GoSem.ClaimMapViews
import Derived.JoinedTies
import Derived.KernelRfl
namespace Go.Proofs.Ytejfecmmcghpmaa
/- THE CELL 'sum', in the pinned program and in every row, IS THE sha256 OF THE DUMP (.gsa) THAT YtejfecmmcghpmaaProg.lean LOADS. Nothing in Lean hashes anything: it is a label: what it is worth is what the hold of that sum in a sandbox is worth. -/
noncomputable def Try.pinned : Pinned := { name := "ytejfecmmcghpmaa", sum := "7d4d2ed17518a7013c30e80e44a8164f626bb43e0f172068b85eb3f93fd46ce7", checked := Try.checked }
namespace Rows
def none {H : Type} : Left H := { results := [], args := [] }

/-- 'laws.FnExactClsSame': WHATEVER THE INPUT: true; the input reads as it did. -/
def fnExactClsSameSpec : ChangeSpec := { name := "fnExactClsSame", fn := fun _ => fun
  | [d1, d2] => { results := [.lit (.bool true)], args := [d1, d2] }
  | _ => none }
def fnExactClsSameRow : OpenClaim := { program := "ytejfecmmcghpmaa", sum := "7d4d2ed17518a7013c30e80e44a8164f626bb43e0f172068b85eb3f93fd46ce7", func := "loop.example/lodgekeeper/laws.FnExactClsSame", spec := "fnExactClsSame", unfollowed := true, recurses := true, plainKeys := false, apart := false }
def FnExactClsSameSaid : Prop := fnExactClsSameRow.holds Try.pinned (OpenSpec.ofChange fnExactClsSameSpec)

/-- ITS FALSE NEIGHBOUR: 'it returns false'. Refute it at one input. -/
def fnExactClsSameWrong : ChangeSpec := { name := "fnExactClsSame", fn := fun _ => fun
  | [d1, d2] => { results := [.lit (.bool false)], args := [d1, d2] }
  | _ => none }
def FnExactClsSameWrongFalsely : Prop := fnExactClsSameRow.holds Try.pinned (OpenSpec.ofChange fnExactClsSameWrong)

/-- 'laws.FnExactMthOk': WHATEVER THE INPUT: true; the input reads as it did. -/
def fnExactMthOkSpec : ChangeSpec := { name := "fnExactMthOk", fn := fun _ => fun
  | [d] => { results := [.lit (.bool true)], args := [d] }
  | _ => none }
def fnExactMthOkRow : OpenClaim := { program := "ytejfecmmcghpmaa", sum := "7d4d2ed17518a7013c30e80e44a8164f626bb43e0f172068b85eb3f93fd46ce7", func := "loop.example/lodgekeeper/laws.FnExactMthOk", spec := "fnExactMthOk", plainKeys := false, apart := false }
def FnExactMthOkSaid : Prop := fnExactMthOkRow.holds Try.pinned (OpenSpec.ofChange fnExactMthOkSpec)

/-- ITS FALSE NEIGHBOUR: 'it returns false'. Refute it at one input. -/
def fnExactMthOkWrong : ChangeSpec := { name := "fnExactMthOk", fn := fun _ => fun
  | [d] => { results := [.lit (.bool false)], args := [d] }
  | _ => none }
def FnExactMthOkWrongFalsely : Prop := fnExactMthOkRow.holds Try.pinned (OpenSpec.ofChange fnExactMthOkWrong)

/-- 'laws.FnExactClsOk': WHATEVER THE INPUT: true; the input reads as it did. -/
def fnExactClsOkSpec : ChangeSpec := { name := "fnExactClsOk", fn := fun _ => fun
  | [d] => { results := [.lit (.bool true)], args := [d] }
  | _ => none }
def fnExactClsOkRow : OpenClaim := { program := "ytejfecmmcghpmaa", sum := "7d4d2ed17518a7013c30e80e44a8164f626bb43e0f172068b85eb3f93fd46ce7", func := "loop.example/lodgekeeper/laws.FnExactClsOk", spec := "fnExactClsOk", plainKeys := false, apart := false }
def FnExactClsOkSaid : Prop := fnExactClsOkRow.holds Try.pinned (OpenSpec.ofChange fnExactClsOkSpec)

/-- ITS FALSE NEIGHBOUR: 'it returns false'. Refute it at one input. -/
def fnExactClsOkWrong : ChangeSpec := { name := "fnExactClsOk", fn := fun _ => fun
  | [d] => { results := [.lit (.bool false)], args := [d] }
  | _ => none }
def FnExactClsOkWrongFalsely : Prop := fnExactClsOkRow.holds Try.pinned (OpenSpec.ofChange fnExactClsOkWrong)

/-- 'laws.FnExactChgOk': WHATEVER THE INPUT: true; the input reads as it did. -/
def fnExactChgOkSpec : ChangeSpec := { name := "fnExactChgOk", fn := fun _ => fun
  | [d] => { results := [.lit (.bool true)], args := [d] }
  | _ => none }
def fnExactChgOkRow : OpenClaim := { program := "ytejfecmmcghpmaa", sum := "7d4d2ed17518a7013c30e80e44a8164f626bb43e0f172068b85eb3f93fd46ce7", func := "loop.example/lodgekeeper/laws.FnExactChgOk", spec := "fnExactChgOk", unfollowed := true, recurses := true, plainKeys := false, apart := false }
def FnExactChgOkSaid : Prop := fnExactChgOkRow.holds Try.pinned (OpenSpec.ofChange fnExactChgOkSpec)

/-- ITS FALSE NEIGHBOUR: 'it returns false'. Refute it at one input. -/
def fnExactChgOkWrong : ChangeSpec := { name := "fnExactChgOk", fn := fun _ => fun
  | [d] => { results := [.lit (.bool false)], args := [d] }
  | _ => none }
def FnExactChgOkWrongFalsely : Prop := fnExactChgOkRow.holds Try.pinned (OpenSpec.ofChange fnExactChgOkWrong)

/-- 'laws.FnExactLodOk': WHATEVER THE INPUT: true; the input reads as it did. -/
def fnExactLodOkSpec : ChangeSpec := { name := "fnExactLodOk", fn := fun _ => fun
  | [d] => { results := [.lit (.bool true)], args := [d] }
  | _ => none }
def fnExactLodOkRow : OpenClaim := { program := "ytejfecmmcghpmaa", sum := "7d4d2ed17518a7013c30e80e44a8164f626bb43e0f172068b85eb3f93fd46ce7", func := "loop.example/lodgekeeper/laws.FnExactLodOk", spec := "fnExactLodOk", plainKeys := false, apart := false }
def FnExactLodOkSaid : Prop := fnExactLodOkRow.holds Try.pinned (OpenSpec.ofChange fnExactLodOkSpec)

/-- ITS FALSE NEIGHBOUR: 'it returns false'. Refute it at one input. -/
def fnExactLodOkWrong : ChangeSpec := { name := "fnExactLodOk", fn := fun _ => fun
  | [d] => { results := [.lit (.bool false)], args := [d] }
  | _ => none }
def FnExactLodOkWrongFalsely : Prop := fnExactLodOkRow.holds Try.pinned (OpenSpec.ofChange fnExactLodOkWrong)

/- THE SECOND FORM. 'bulk': how many values and letters a reading holds, each counted each time it is reached (what is shared counts as often as it is met; a slice's spare places count too). A statement '..UptoSaid' is the law's where the arguments, and the package variables that the reading takes, are together of bulk at most 1048576: NARROWER than '..Said'. Prove '..Said' where nothing that the law and all that it calls make is longer than what came in: it says more and counts as full. Else prove '..UptoSaid'. A law counts once. -/
mutual
def uptoBulk {H : Type} : DataW H → Nat
  | .lit (.string bytes) => bytes.length + 1
  | .lit _ => 1
  | .nil => 1
  | .ptr d => uptoBulk d + 1
  | .slice elems spare => uptoBulkAll elems + uptoBulkAll spare + 1
  | .agg parts => uptoBulkAll parts + 1
  | .iface _ d => uptoBulk d + 1
  | .map entries => uptoBulkEntries entries + 1
  | .held _ => 1
def uptoBulkAll {H : Type} : List (DataW H) → Nat
  | [] => 0
  | d :: r => uptoBulk d + uptoBulkAll r
def uptoBulkEntries {H : Type} : List (Lit × DataW H) → Nat
  | [] => 0
  | x :: r => uptoBulkEntry x + uptoBulkEntries r
def uptoBulkEntry {H : Type} : Lit × DataW H → Nat
  | (.string bytes, d) => bytes.length + uptoBulk d + 1
  | (_, d) => uptoBulk d + 1
 end
def uptoSmall : (H : Type) → List (DataW H) → Bool := fun _ ds => decide (uptoBulkAll ds ≤ 1048576)
def OpenSpec.upto (s : _root_.Go.ChangeSpec) : _root_.Go.OpenSpec := { _root_.Go.OpenSpec.ofChange s with cond := some uptoSmall }

/-- 'laws.FnExactClsSame', WHERE WHAT IT READS IS OF BULK AT MOST 1048576: true; the input reads as it did. -/
def fnExactClsSameUptoRow : OpenClaim := { program := "ytejfecmmcghpmaa", sum := "7d4d2ed17518a7013c30e80e44a8164f626bb43e0f172068b85eb3f93fd46ce7", func := "loop.example/lodgekeeper/laws.FnExactClsSame", spec := "fnExactClsSame", unfollowed := true, recurses := true, plainKeys := false, apart := false, narrowed := true }
def FnExactClsSameUptoSaid : Prop := fnExactClsSameUptoRow.holds Try.pinned (OpenSpec.upto fnExactClsSameSpec)

/-- 'laws.FnExactMthOk', WHERE WHAT IT READS IS OF BULK AT MOST 1048576: true; the input reads as it did. -/
def fnExactMthOkUptoRow : OpenClaim := { program := "ytejfecmmcghpmaa", sum := "7d4d2ed17518a7013c30e80e44a8164f626bb43e0f172068b85eb3f93fd46ce7", func := "loop.example/lodgekeeper/laws.FnExactMthOk", spec := "fnExactMthOk", plainKeys := false, apart := false, narrowed := true }
def FnExactMthOkUptoSaid : Prop := fnExactMthOkUptoRow.holds Try.pinned (OpenSpec.upto fnExactMthOkSpec)

/-- 'laws.FnExactClsOk', WHERE WHAT IT READS IS OF BULK AT MOST 1048576: true; the input reads as it did. -/
def fnExactClsOkUptoRow : OpenClaim := { program := "ytejfecmmcghpmaa", sum := "7d4d2ed17518a7013c30e80e44a8164f626bb43e0f172068b85eb3f93fd46ce7", func := "loop.example/lodgekeeper/laws.FnExactClsOk", spec := "fnExactClsOk", plainKeys := false, apart := false, narrowed := true }
def FnExactClsOkUptoSaid : Prop := fnExactClsOkUptoRow.holds Try.pinned (OpenSpec.upto fnExactClsOkSpec)

/-- 'laws.FnExactChgOk', WHERE WHAT IT READS IS OF BULK AT MOST 1048576: true; the input reads as it did. -/
def fnExactChgOkUptoRow : OpenClaim := { program := "ytejfecmmcghpmaa", sum := "7d4d2ed17518a7013c30e80e44a8164f626bb43e0f172068b85eb3f93fd46ce7", func := "loop.example/lodgekeeper/laws.FnExactChgOk", spec := "fnExactChgOk", unfollowed := true, recurses := true, plainKeys := false, apart := false, narrowed := true }
def FnExactChgOkUptoSaid : Prop := fnExactChgOkUptoRow.holds Try.pinned (OpenSpec.upto fnExactChgOkSpec)

/-- 'laws.FnExactLodOk', WHERE WHAT IT READS IS OF BULK AT MOST 1048576: true; the input reads as it did. -/
def fnExactLodOkUptoRow : OpenClaim := { program := "ytejfecmmcghpmaa", sum := "7d4d2ed17518a7013c30e80e44a8164f626bb43e0f172068b85eb3f93fd46ce7", func := "loop.example/lodgekeeper/laws.FnExactLodOk", spec := "fnExactLodOk", plainKeys := false, apart := false, narrowed := true }
def FnExactLodOkUptoSaid : Prop := fnExactLodOkUptoRow.holds Try.pinned (OpenSpec.upto fnExactLodOkSpec)

end Rows
end Go.Proofs.Ytejfecmmcghpmaa
