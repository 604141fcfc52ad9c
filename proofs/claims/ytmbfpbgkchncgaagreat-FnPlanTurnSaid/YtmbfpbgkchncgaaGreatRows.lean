/-
  No cell of these rows narrows 'for every input' (looked for: loops, veiled, ifaces, maps, wideKeys, modest, calm, conditions, laid).
  DERIVED. THE GIVEN ROWS OF THIS SEAT. 5 by the template 'for every input the law returns true; each argument reads behind the call as it read before'; 0 by the template 'total and deterministic' (their statements: YtmbfpbgkchncgaaGreatTotals.lean).
  GIVEN WITH THE SEED: the statements are not yours to turn. If you find one false, say at which input.
  Laid BY PROGRAM, IN A SANDBOX (cutbox-rows.mjs): the forced cells as the released guide's own fill.sh prints them over the translation 07ef2d87ffbcf585… (all of the seat's roots in one cut). By AI agents, Wed Nov 11 2026. No macro, syntax, notation, axiom, sorry.
-/
import Derived.Test.YtmbfpbgkchncgaaGreatChecked
import GoSem.Claim
import GoSem.ClaimJoined
import GoSem.ClaimMapViews
import Derived.JoinedTies
import Derived.KernelRfl
namespace Go.Proofs.YtmbfpbgkchncgaaGreat
/- THE CELL 'sum', in the pinned program and in every row, IS THE sha256 OF THE DUMP (.gsa) THAT YtmbfpbgkchncgaaGreatProg.lean LOADS. Nothing in Lean hashes anything: it is a label: what it is worth is what the hold of that sum in a sandbox is worth. -/
noncomputable def Tryz.pinned : Pinned := { name := "ytmbfpbgkchncgaagreat", sum := "07ef2d87ffbcf585007dfc00d2db0ea54d2bc859292b895838843a0c0171ce3f", checked := Tryz.checked }
namespace Rows
def none {H : Type} : Left H := { results := [], args := [] }

/-- 'laws.FnPlanBack': WHATEVER THE INPUT: true; the input reads as it did. -/
def fnPlanBackSpec : ChangeSpec := { name := "fnPlanBack", fn := fun _ => fun
  | [d] => { results := [.lit (.bool true)], args := [d] }
  | _ => none }
def fnPlanBackRow : OpenClaim := { program := "ytmbfpbgkchncgaagreat", sum := "07ef2d87ffbcf585007dfc00d2db0ea54d2bc859292b895838843a0c0171ce3f", func := "loop.example/lodgekeeper/laws.FnPlanBack", spec := "fnPlanBack", unfollowed := true, recurses := true, plainKeys := false, apart := false }
def FnPlanBackSaid : Prop := fnPlanBackRow.holds Tryz.pinned (OpenSpec.ofChange fnPlanBackSpec)

/-- ITS FALSE NEIGHBOUR: 'it returns false'. Refute it at one input. -/
def fnPlanBackWrong : ChangeSpec := { name := "fnPlanBack", fn := fun _ => fun
  | [d] => { results := [.lit (.bool false)], args := [d] }
  | _ => none }
def FnPlanBackWrongFalsely : Prop := fnPlanBackRow.holds Tryz.pinned (OpenSpec.ofChange fnPlanBackWrong)

/-- 'laws.FnPlanTurn': WHATEVER THE INPUT: true; the input reads as it did. -/
def fnPlanTurnSpec : ChangeSpec := { name := "fnPlanTurn", fn := fun _ => fun
  | [d] => { results := [.lit (.bool true)], args := [d] }
  | _ => none }
def fnPlanTurnRow : OpenClaim := { program := "ytmbfpbgkchncgaagreat", sum := "07ef2d87ffbcf585007dfc00d2db0ea54d2bc859292b895838843a0c0171ce3f", func := "loop.example/lodgekeeper/laws.FnPlanTurn", spec := "fnPlanTurn", unfollowed := true, recurses := true, plainKeys := false, apart := false }
def FnPlanTurnSaid : Prop := fnPlanTurnRow.holds Tryz.pinned (OpenSpec.ofChange fnPlanTurnSpec)

/-- ITS FALSE NEIGHBOUR: 'it returns false'. Refute it at one input. -/
def fnPlanTurnWrong : ChangeSpec := { name := "fnPlanTurn", fn := fun _ => fun
  | [d] => { results := [.lit (.bool false)], args := [d] }
  | _ => none }
def FnPlanTurnWrongFalsely : Prop := fnPlanTurnRow.holds Tryz.pinned (OpenSpec.ofChange fnPlanTurnWrong)

/-- 'laws.FnLnkLaid': WHATEVER THE INPUT: true; the input reads as it did. -/
def fnLnkLaidSpec : ChangeSpec := { name := "fnLnkLaid", fn := fun _ => fun
  | [d] => { results := [.lit (.bool true)], args := [d] }
  | _ => none }
def fnLnkLaidRow : OpenClaim := { program := "ytmbfpbgkchncgaagreat", sum := "07ef2d87ffbcf585007dfc00d2db0ea54d2bc859292b895838843a0c0171ce3f", func := "loop.example/lodgekeeper/laws.FnLnkLaid", spec := "fnLnkLaid", unfollowed := true, recurses := true, plainKeys := false, apart := false }
def FnLnkLaidSaid : Prop := fnLnkLaidRow.holds Tryz.pinned (OpenSpec.ofChange fnLnkLaidSpec)

/-- ITS FALSE NEIGHBOUR: 'it returns false'. Refute it at one input. -/
def fnLnkLaidWrong : ChangeSpec := { name := "fnLnkLaid", fn := fun _ => fun
  | [d] => { results := [.lit (.bool false)], args := [d] }
  | _ => none }
def FnLnkLaidWrongFalsely : Prop := fnLnkLaidRow.holds Tryz.pinned (OpenSpec.ofChange fnLnkLaidWrong)

/-- 'laws.FnLnkLayout': WHATEVER THE INPUT: true; the input reads as it did. -/
def fnLnkLayoutSpec : ChangeSpec := { name := "fnLnkLayout", fn := fun _ => fun
  | [d] => { results := [.lit (.bool true)], args := [d] }
  | _ => none }
def fnLnkLayoutRow : OpenClaim := { program := "ytmbfpbgkchncgaagreat", sum := "07ef2d87ffbcf585007dfc00d2db0ea54d2bc859292b895838843a0c0171ce3f", func := "loop.example/lodgekeeper/laws.FnLnkLayout", spec := "fnLnkLayout", unfollowed := true, recurses := true, plainKeys := false, apart := false }
def FnLnkLayoutSaid : Prop := fnLnkLayoutRow.holds Tryz.pinned (OpenSpec.ofChange fnLnkLayoutSpec)

/-- ITS FALSE NEIGHBOUR: 'it returns false'. Refute it at one input. -/
def fnLnkLayoutWrong : ChangeSpec := { name := "fnLnkLayout", fn := fun _ => fun
  | [d] => { results := [.lit (.bool false)], args := [d] }
  | _ => none }
def FnLnkLayoutWrongFalsely : Prop := fnLnkLayoutRow.holds Tryz.pinned (OpenSpec.ofChange fnLnkLayoutWrong)

/-- 'laws.FnLnkPick': WHATEVER THE INPUT: true; the input reads as it did. -/
def fnLnkPickSpec : ChangeSpec := { name := "fnLnkPick", fn := fun _ => fun
  | [d] => { results := [.lit (.bool true)], args := [d] }
  | _ => none }
def fnLnkPickRow : OpenClaim := { program := "ytmbfpbgkchncgaagreat", sum := "07ef2d87ffbcf585007dfc00d2db0ea54d2bc859292b895838843a0c0171ce3f", func := "loop.example/lodgekeeper/laws.FnLnkPick", spec := "fnLnkPick", unfollowed := true, recurses := true, plainKeys := false, apart := false }
def FnLnkPickSaid : Prop := fnLnkPickRow.holds Tryz.pinned (OpenSpec.ofChange fnLnkPickSpec)

/-- ITS FALSE NEIGHBOUR: 'it returns false'. Refute it at one input. -/
def fnLnkPickWrong : ChangeSpec := { name := "fnLnkPick", fn := fun _ => fun
  | [d] => { results := [.lit (.bool false)], args := [d] }
  | _ => none }
def FnLnkPickWrongFalsely : Prop := fnLnkPickRow.holds Tryz.pinned (OpenSpec.ofChange fnLnkPickWrong)

/- THE SECOND FORM. 'bulk': how many values and letters a reading holds, each counted each time it is reached (what is shared counts as often as it is met; a slice's spare places count too). A statement '..UptoSaid' is the law's where the arguments, and the package variables that the reading takes, are together of bulk at most 1048576: NARROWER than '..Said'. Prove '..Said' where nothing that the law and all that it calls make is longer than what came in: it says more and counts as full. Else prove '..UptoSaid'. A law counts once. -/
mutual
def uptoBulk {H : Type} : DataW H → Nat
  | .lit (.string bytes) => bytes.length + 1
  | .lit _ => 1
  | .nil => 1
  | .ptr d => uptoBulk d + 1
  | .slice elems spare => uptoBulkAll elems + uptoBulkAll spare + 1
  | .agg parts => uptoBulkAll parts + 1
  | .iface _ d => uptoBulk d + 1
  | .map entries => uptoBulkEntries entries + 1
  | .held _ => 1
def uptoBulkAll {H : Type} : List (DataW H) → Nat
  | [] => 0
  | d :: r => uptoBulk d + uptoBulkAll r
def uptoBulkEntries {H : Type} : List (Lit × DataW H) → Nat
  | [] => 0
  | x :: r => uptoBulkEntry x + uptoBulkEntries r
def uptoBulkEntry {H : Type} : Lit × DataW H → Nat
  | (.string bytes, d) => bytes.length + uptoBulk d + 1
  | (_, d) => uptoBulk d + 1
 end
def uptoSmall : (H : Type) → List (DataW H) → Bool := fun _ ds => decide (uptoBulkAll ds ≤ 1048576)
def OpenSpec.upto (s : _root_.Go.ChangeSpec) : _root_.Go.OpenSpec := { _root_.Go.OpenSpec.ofChange s with cond := some uptoSmall }

/-- 'laws.FnPlanBack', WHERE WHAT IT READS IS OF BULK AT MOST 1048576: true; the input reads as it did. -/
def fnPlanBackUptoRow : OpenClaim := { program := "ytmbfpbgkchncgaagreat", sum := "07ef2d87ffbcf585007dfc00d2db0ea54d2bc859292b895838843a0c0171ce3f", func := "loop.example/lodgekeeper/laws.FnPlanBack", spec := "fnPlanBack", unfollowed := true, recurses := true, plainKeys := false, apart := false, narrowed := true }
def FnPlanBackUptoSaid : Prop := fnPlanBackUptoRow.holds Tryz.pinned (OpenSpec.upto fnPlanBackSpec)

/-- 'laws.FnPlanTurn', WHERE WHAT IT READS IS OF BULK AT MOST 1048576: true; the input reads as it did. -/
def fnPlanTurnUptoRow : OpenClaim := { program := "ytmbfpbgkchncgaagreat", sum := "07ef2d87ffbcf585007dfc00d2db0ea54d2bc859292b895838843a0c0171ce3f", func := "loop.example/lodgekeeper/laws.FnPlanTurn", spec := "fnPlanTurn", unfollowed := true, recurses := true, plainKeys := false, apart := false, narrowed := true }
def FnPlanTurnUptoSaid : Prop := fnPlanTurnUptoRow.holds Tryz.pinned (OpenSpec.upto fnPlanTurnSpec)

/-- 'laws.FnLnkLaid', WHERE WHAT IT READS IS OF BULK AT MOST 1048576: true; the input reads as it did. -/
def fnLnkLaidUptoRow : OpenClaim := { program := "ytmbfpbgkchncgaagreat", sum := "07ef2d87ffbcf585007dfc00d2db0ea54d2bc859292b895838843a0c0171ce3f", func := "loop.example/lodgekeeper/laws.FnLnkLaid", spec := "fnLnkLaid", unfollowed := true, recurses := true, plainKeys := false, apart := false, narrowed := true }
def FnLnkLaidUptoSaid : Prop := fnLnkLaidUptoRow.holds Tryz.pinned (OpenSpec.upto fnLnkLaidSpec)

/-- 'laws.FnLnkLayout', WHERE WHAT IT READS IS OF BULK AT MOST 1048576: true; the input reads as it did. -/
def fnLnkLayoutUptoRow : OpenClaim := { program := "ytmbfpbgkchncgaagreat", sum := "07ef2d87ffbcf585007dfc00d2db0ea54d2bc859292b895838843a0c0171ce3f", func := "loop.example/lodgekeeper/laws.FnLnkLayout", spec := "fnLnkLayout", unfollowed := true, recurses := true, plainKeys := false, apart := false, narrowed := true }
def FnLnkLayoutUptoSaid : Prop := fnLnkLayoutUptoRow.holds Tryz.pinned (OpenSpec.upto fnLnkLayoutSpec)

/-- 'laws.FnLnkPick', WHERE WHAT IT READS IS OF BULK AT MOST 1048576: true; the input reads as it did. -/
def fnLnkPickUptoRow : OpenClaim := { program := "ytmbfpbgkchncgaagreat", sum := "07ef2d87ffbcf585007dfc00d2db0ea54d2bc859292b895838843a0c0171ce3f", func := "loop.example/lodgekeeper/laws.FnLnkPick", spec := "fnLnkPick", unfollowed := true, recurses := true, plainKeys := false, apart := false, narrowed := true }
def FnLnkPickUptoSaid : Prop := fnLnkPickUptoRow.holds Tryz.pinned (OpenSpec.upto fnLnkPickSpec)

end Rows
end Go.Proofs.YtmbfpbgkchncgaaGreat
