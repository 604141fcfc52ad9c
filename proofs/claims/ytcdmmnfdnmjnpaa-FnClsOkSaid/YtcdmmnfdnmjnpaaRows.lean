/-
  No cell of these rows narrows 'for every input' (looked for: loops, veiled, ifaces, maps, wideKeys, modest, calm, conditions, laid).
  DERIVED. THE GIVEN ROWS OF THIS SEAT. 12 by the template 'for every input the law returns true; each argument reads behind the call as it read before'; 0 by the template 'total and deterministic' (their statements: YtcdmmnfdnmjnpaaTotals.lean).
  GIVEN WITH THE SEED: the statements are not yours to turn. If you find one false, say at which input.
  Laid BY PROGRAM, IN A SANDBOX (cutbox-rows.mjs): the forced cells as the released guide's own fill.sh prints them over the translation 8d6aec85a2e77cae… (all of the seat's roots in one cut). By AI agents, Wed Nov 11 2026. No macro, syntax, notation, axiom, sorry.
-/
import Derived.Test.YtcdmmnfdnmjnpaaChecked
import GoSem.Claim
import GoSem.ClaimJoined
import GoSem.ClaimMapViews
import Derived.JoinedTies
import Derived.KernelRfl
namespace Go.Proofs.Ytcdmmnfdnmjnpaa
/- THE CELL 'sum', in the pinned program and in every row, IS THE sha256 OF THE DUMP (.gsa) THAT YtcdmmnfdnmjnpaaProg.lean LOADS. Nothing in Lean hashes anything: it is a label: what it is worth is what the hold of that sum in a sandbox is worth. -/
noncomputable def Try.pinned : Pinned := { name := "ytcdmmnfdnmjnpaa", sum := "8d6aec85a2e77caed897df7ef1d64766d59cc78ce9c0eb11032e664a5fec8b06", checked := Try.checked }
namespace Rows
def none {H : Type} : Left H := { results := [], args := [] }

/-- 'laws.FnMthOk': WHATEVER THE INPUT: true; the input reads as it did. -/
def fnMthOkSpec : ChangeSpec := { name := "fnMthOk", fn := fun _ => fun
  | [d] => { results := [.lit (.bool true)], args := [d] }
  | _ => none }
def fnMthOkRow : OpenClaim := { program := "ytcdmmnfdnmjnpaa", sum := "8d6aec85a2e77caed897df7ef1d64766d59cc78ce9c0eb11032e664a5fec8b06", func := "loop.example/lodgekeeper/laws.FnMthOk", spec := "fnMthOk", plainKeys := false, apart := false }
def FnMthOkSaid : Prop := fnMthOkRow.holds Try.pinned (OpenSpec.ofChange fnMthOkSpec)

/-- ITS FALSE NEIGHBOUR: 'it returns false'. Refute it at one input. -/
def fnMthOkWrong : ChangeSpec := { name := "fnMthOk", fn := fun _ => fun
  | [d] => { results := [.lit (.bool false)], args := [d] }
  | _ => none }
def FnMthOkWrongFalsely : Prop := fnMthOkRow.holds Try.pinned (OpenSpec.ofChange fnMthOkWrong)

/-- 'laws.FnChgOk': WHATEVER THE INPUT: true; the input reads as it did. -/
def fnChgOkSpec : ChangeSpec := { name := "fnChgOk", fn := fun _ => fun
  | [d] => { results := [.lit (.bool true)], args := [d] }
  | _ => none }
def fnChgOkRow : OpenClaim := { program := "ytcdmmnfdnmjnpaa", sum := "8d6aec85a2e77caed897df7ef1d64766d59cc78ce9c0eb11032e664a5fec8b06", func := "loop.example/lodgekeeper/laws.FnChgOk", spec := "fnChgOk", unfollowed := true, recurses := true, plainKeys := false, apart := false }
def FnChgOkSaid : Prop := fnChgOkRow.holds Try.pinned (OpenSpec.ofChange fnChgOkSpec)

/-- ITS FALSE NEIGHBOUR: 'it returns false'. Refute it at one input. -/
def fnChgOkWrong : ChangeSpec := { name := "fnChgOk", fn := fun _ => fun
  | [d] => { results := [.lit (.bool false)], args := [d] }
  | _ => none }
def FnChgOkWrongFalsely : Prop := fnChgOkRow.holds Try.pinned (OpenSpec.ofChange fnChgOkWrong)

/-- 'laws.FnClsOk': WHATEVER THE INPUT: true; the input reads as it did. -/
def fnClsOkSpec : ChangeSpec := { name := "fnClsOk", fn := fun _ => fun
  | [d] => { results := [.lit (.bool true)], args := [d] }
  | _ => none }
def fnClsOkRow : OpenClaim := { program := "ytcdmmnfdnmjnpaa", sum := "8d6aec85a2e77caed897df7ef1d64766d59cc78ce9c0eb11032e664a5fec8b06", func := "loop.example/lodgekeeper/laws.FnClsOk", spec := "fnClsOk", plainKeys := false, apart := false }
def FnClsOkSaid : Prop := fnClsOkRow.holds Try.pinned (OpenSpec.ofChange fnClsOkSpec)

/-- ITS FALSE NEIGHBOUR: 'it returns false'. Refute it at one input. -/
def fnClsOkWrong : ChangeSpec := { name := "fnClsOk", fn := fun _ => fun
  | [d] => { results := [.lit (.bool false)], args := [d] }
  | _ => none }
def FnClsOkWrongFalsely : Prop := fnClsOkRow.holds Try.pinned (OpenSpec.ofChange fnClsOkWrong)

/-- 'laws.FnLodOk': WHATEVER THE INPUT: true; the input reads as it did. -/
def fnLodOkSpec : ChangeSpec := { name := "fnLodOk", fn := fun _ => fun
  | [d] => { results := [.lit (.bool true)], args := [d] }
  | _ => none }
def fnLodOkRow : OpenClaim := { program := "ytcdmmnfdnmjnpaa", sum := "8d6aec85a2e77caed897df7ef1d64766d59cc78ce9c0eb11032e664a5fec8b06", func := "loop.example/lodgekeeper/laws.FnLodOk", spec := "fnLodOk", plainKeys := false, apart := false }
def FnLodOkSaid : Prop := fnLodOkRow.holds Try.pinned (OpenSpec.ofChange fnLodOkSpec)

/-- ITS FALSE NEIGHBOUR: 'it returns false'. Refute it at one input. -/
def fnLodOkWrong : ChangeSpec := { name := "fnLodOk", fn := fun _ => fun
  | [d] => { results := [.lit (.bool false)], args := [d] }
  | _ => none }
def FnLodOkWrongFalsely : Prop := fnLodOkRow.holds Try.pinned (OpenSpec.ofChange fnLodOkWrong)

/-- 'laws.FnLodRing': WHATEVER THE INPUT: true; the input reads as it did. -/
def fnLodRingSpec : ChangeSpec := { name := "fnLodRing", fn := fun _ => fun
  | [d] => { results := [.lit (.bool true)], args := [d] }
  | _ => none }
def fnLodRingRow : OpenClaim := { program := "ytcdmmnfdnmjnpaa", sum := "8d6aec85a2e77caed897df7ef1d64766d59cc78ce9c0eb11032e664a5fec8b06", func := "loop.example/lodgekeeper/laws.FnLodRing", spec := "fnLodRing", unfollowed := true, recurses := true, plainKeys := false, apart := false }
def FnLodRingSaid : Prop := fnLodRingRow.holds Try.pinned (OpenSpec.ofChange fnLodRingSpec)

/-- ITS FALSE NEIGHBOUR: 'it returns false'. Refute it at one input. -/
def fnLodRingWrong : ChangeSpec := { name := "fnLodRing", fn := fun _ => fun
  | [d] => { results := [.lit (.bool false)], args := [d] }
  | _ => none }
def FnLodRingWrongFalsely : Prop := fnLodRingRow.holds Try.pinned (OpenSpec.ofChange fnLodRingWrong)

/-- 'laws.FnLodAsk': WHATEVER THE INPUT: true; the input reads as it did. -/
def fnLodAskSpec : ChangeSpec := { name := "fnLodAsk", fn := fun _ => fun
  | [d] => { results := [.lit (.bool true)], args := [d] }
  | _ => none }
def fnLodAskRow : OpenClaim := { program := "ytcdmmnfdnmjnpaa", sum := "8d6aec85a2e77caed897df7ef1d64766d59cc78ce9c0eb11032e664a5fec8b06", func := "loop.example/lodgekeeper/laws.FnLodAsk", spec := "fnLodAsk", unfollowed := true, recurses := true, plainKeys := false, apart := false }
def FnLodAskSaid : Prop := fnLodAskRow.holds Try.pinned (OpenSpec.ofChange fnLodAskSpec)

/-- ITS FALSE NEIGHBOUR: 'it returns false'. Refute it at one input. -/
def fnLodAskWrong : ChangeSpec := { name := "fnLodAsk", fn := fun _ => fun
  | [d] => { results := [.lit (.bool false)], args := [d] }
  | _ => none }
def FnLodAskWrongFalsely : Prop := fnLodAskRow.holds Try.pinned (OpenSpec.ofChange fnLodAskWrong)

/-- 'laws.FnLodSelf': WHATEVER THE INPUT: true; the input reads as it did. -/
def fnLodSelfSpec : ChangeSpec := { name := "fnLodSelf", fn := fun _ => fun
  | [d] => { results := [.lit (.bool true)], args := [d] }
  | _ => none }
def fnLodSelfRow : OpenClaim := { program := "ytcdmmnfdnmjnpaa", sum := "8d6aec85a2e77caed897df7ef1d64766d59cc78ce9c0eb11032e664a5fec8b06", func := "loop.example/lodgekeeper/laws.FnLodSelf", spec := "fnLodSelf", unfollowed := true, recurses := true, plainKeys := false, apart := false }
def FnLodSelfSaid : Prop := fnLodSelfRow.holds Try.pinned (OpenSpec.ofChange fnLodSelfSpec)

/-- ITS FALSE NEIGHBOUR: 'it returns false'. Refute it at one input. -/
def fnLodSelfWrong : ChangeSpec := { name := "fnLodSelf", fn := fun _ => fun
  | [d] => { results := [.lit (.bool false)], args := [d] }
  | _ => none }
def FnLodSelfWrongFalsely : Prop := fnLodSelfRow.holds Try.pinned (OpenSpec.ofChange fnLodSelfWrong)

/-- 'laws.FnLodFind': WHATEVER THE INPUT: true; the input reads as it did. -/
def fnLodFindSpec : ChangeSpec := { name := "fnLodFind", fn := fun _ => fun
  | [d] => { results := [.lit (.bool true)], args := [d] }
  | _ => none }
def fnLodFindRow : OpenClaim := { program := "ytcdmmnfdnmjnpaa", sum := "8d6aec85a2e77caed897df7ef1d64766d59cc78ce9c0eb11032e664a5fec8b06", func := "loop.example/lodgekeeper/laws.FnLodFind", spec := "fnLodFind", unfollowed := true, recurses := true, plainKeys := false, apart := false }
def FnLodFindSaid : Prop := fnLodFindRow.holds Try.pinned (OpenSpec.ofChange fnLodFindSpec)

/-- ITS FALSE NEIGHBOUR: 'it returns false'. Refute it at one input. -/
def fnLodFindWrong : ChangeSpec := { name := "fnLodFind", fn := fun _ => fun
  | [d] => { results := [.lit (.bool false)], args := [d] }
  | _ => none }
def FnLodFindWrongFalsely : Prop := fnLodFindRow.holds Try.pinned (OpenSpec.ofChange fnLodFindWrong)

/-- 'laws.FnLnkAgree': WHATEVER THE INPUT: true; the input reads as it did. -/
def fnLnkAgreeSpec : ChangeSpec := { name := "fnLnkAgree", fn := fun _ => fun
  | [d] => { results := [.lit (.bool true)], args := [d] }
  | _ => none }
def fnLnkAgreeRow : OpenClaim := { program := "ytcdmmnfdnmjnpaa", sum := "8d6aec85a2e77caed897df7ef1d64766d59cc78ce9c0eb11032e664a5fec8b06", func := "loop.example/lodgekeeper/laws.FnLnkAgree", spec := "fnLnkAgree", unfollowed := true, recurses := true, plainKeys := false, apart := false }
def FnLnkAgreeSaid : Prop := fnLnkAgreeRow.holds Try.pinned (OpenSpec.ofChange fnLnkAgreeSpec)

/-- ITS FALSE NEIGHBOUR: 'it returns false'. Refute it at one input. -/
def fnLnkAgreeWrong : ChangeSpec := { name := "fnLnkAgree", fn := fun _ => fun
  | [d] => { results := [.lit (.bool false)], args := [d] }
  | _ => none }
def FnLnkAgreeWrongFalsely : Prop := fnLnkAgreeRow.holds Try.pinned (OpenSpec.ofChange fnLnkAgreeWrong)

/-- 'laws.FnTagMay': WHATEVER THE INPUT: true; the input reads as it did. -/
def fnTagMaySpec : ChangeSpec := { name := "fnTagMay", fn := fun _ => fun
  | [d1, d2] => { results := [.lit (.bool true)], args := [d1, d2] }
  | _ => none }
def fnTagMayRow : OpenClaim := { program := "ytcdmmnfdnmjnpaa", sum := "8d6aec85a2e77caed897df7ef1d64766d59cc78ce9c0eb11032e664a5fec8b06", func := "loop.example/lodgekeeper/laws.FnTagMay", spec := "fnTagMay", unfollowed := true, recurses := true, plainKeys := false, apart := false }
def FnTagMaySaid : Prop := fnTagMayRow.holds Try.pinned (OpenSpec.ofChange fnTagMaySpec)

/-- ITS FALSE NEIGHBOUR: 'it returns false'. Refute it at one input. -/
def fnTagMayWrong : ChangeSpec := { name := "fnTagMay", fn := fun _ => fun
  | [d1, d2] => { results := [.lit (.bool false)], args := [d1, d2] }
  | _ => none }
def FnTagMayWrongFalsely : Prop := fnTagMayRow.holds Try.pinned (OpenSpec.ofChange fnTagMayWrong)

/-- 'laws.FnLodUnder': WHATEVER THE INPUT: true; the input reads as it did. -/
def fnLodUnderSpec : ChangeSpec := { name := "fnLodUnder", fn := fun _ => fun
  | [d] => { results := [.lit (.bool true)], args := [d] }
  | _ => none }
def fnLodUnderRow : OpenClaim := { program := "ytcdmmnfdnmjnpaa", sum := "8d6aec85a2e77caed897df7ef1d64766d59cc78ce9c0eb11032e664a5fec8b06", func := "loop.example/lodgekeeper/laws.FnLodUnder", spec := "fnLodUnder", unfollowed := true, recurses := true, plainKeys := false, apart := false }
def FnLodUnderSaid : Prop := fnLodUnderRow.holds Try.pinned (OpenSpec.ofChange fnLodUnderSpec)

/-- ITS FALSE NEIGHBOUR: 'it returns false'. Refute it at one input. -/
def fnLodUnderWrong : ChangeSpec := { name := "fnLodUnder", fn := fun _ => fun
  | [d] => { results := [.lit (.bool false)], args := [d] }
  | _ => none }
def FnLodUnderWrongFalsely : Prop := fnLodUnderRow.holds Try.pinned (OpenSpec.ofChange fnLodUnderWrong)

/-- 'laws.FnLodChain': WHATEVER THE INPUT: true; the input reads as it did. -/
def fnLodChainSpec : ChangeSpec := { name := "fnLodChain", fn := fun _ => fun
  | [d] => { results := [.lit (.bool true)], args := [d] }
  | _ => none }
def fnLodChainRow : OpenClaim := { program := "ytcdmmnfdnmjnpaa", sum := "8d6aec85a2e77caed897df7ef1d64766d59cc78ce9c0eb11032e664a5fec8b06", func := "loop.example/lodgekeeper/laws.FnLodChain", spec := "fnLodChain", unfollowed := true, recurses := true, plainKeys := false, apart := false }
def FnLodChainSaid : Prop := fnLodChainRow.holds Try.pinned (OpenSpec.ofChange fnLodChainSpec)

/-- ITS FALSE NEIGHBOUR: 'it returns false'. Refute it at one input. -/
def fnLodChainWrong : ChangeSpec := { name := "fnLodChain", fn := fun _ => fun
  | [d] => { results := [.lit (.bool false)], args := [d] }
  | _ => none }
def FnLodChainWrongFalsely : Prop := fnLodChainRow.holds Try.pinned (OpenSpec.ofChange fnLodChainWrong)

/- THE SECOND FORM. 'bulk': how many values and letters a reading holds, each counted each time it is reached (what is shared counts as often as it is met; a slice's spare places count too). A statement '..UptoSaid' is the law's where the arguments, and the package variables that the reading takes, are together of bulk at most 1048576: NARROWER than '..Said'. Prove '..Said' where nothing that the law and all that it calls make is longer than what came in: it says more and counts as full. Else prove '..UptoSaid'. A law counts once. -/
mutual
def uptoBulk {H : Type} : DataW H → Nat
  | .lit (.string bytes) => bytes.length + 1
  | .lit _ => 1
  | .nil => 1
  | .ptr d => uptoBulk d + 1
  | .slice elems spare => uptoBulkAll elems + uptoBulkAll spare + 1
  | .agg parts => uptoBulkAll parts + 1
  | .iface _ d => uptoBulk d + 1
  | .map entries => uptoBulkEntries entries + 1
  | .held _ => 1
def uptoBulkAll {H : Type} : List (DataW H) → Nat
  | [] => 0
  | d :: r => uptoBulk d + uptoBulkAll r
def uptoBulkEntries {H : Type} : List (Lit × DataW H) → Nat
  | [] => 0
  | x :: r => uptoBulkEntry x + uptoBulkEntries r
def uptoBulkEntry {H : Type} : Lit × DataW H → Nat
  | (.string bytes, d) => bytes.length + uptoBulk d + 1
  | (_, d) => uptoBulk d + 1
 end
def uptoSmall : (H : Type) → List (DataW H) → Bool := fun _ ds => decide (uptoBulkAll ds ≤ 1048576)
def OpenSpec.upto (s : _root_.Go.ChangeSpec) : _root_.Go.OpenSpec := { _root_.Go.OpenSpec.ofChange s with cond := some uptoSmall }

/-- 'laws.FnMthOk', WHERE WHAT IT READS IS OF BULK AT MOST 1048576: true; the input reads as it did. -/
def fnMthOkUptoRow : OpenClaim := { program := "ytcdmmnfdnmjnpaa", sum := "8d6aec85a2e77caed897df7ef1d64766d59cc78ce9c0eb11032e664a5fec8b06", func := "loop.example/lodgekeeper/laws.FnMthOk", spec := "fnMthOk", plainKeys := false, apart := false, narrowed := true }
def FnMthOkUptoSaid : Prop := fnMthOkUptoRow.holds Try.pinned (OpenSpec.upto fnMthOkSpec)

/-- 'laws.FnChgOk', WHERE WHAT IT READS IS OF BULK AT MOST 1048576: true; the input reads as it did. -/
def fnChgOkUptoRow : OpenClaim := { program := "ytcdmmnfdnmjnpaa", sum := "8d6aec85a2e77caed897df7ef1d64766d59cc78ce9c0eb11032e664a5fec8b06", func := "loop.example/lodgekeeper/laws.FnChgOk", spec := "fnChgOk", unfollowed := true, recurses := true, plainKeys := false, apart := false, narrowed := true }
def FnChgOkUptoSaid : Prop := fnChgOkUptoRow.holds Try.pinned (OpenSpec.upto fnChgOkSpec)

/-- 'laws.FnClsOk', WHERE WHAT IT READS IS OF BULK AT MOST 1048576: true; the input reads as it did. -/
def fnClsOkUptoRow : OpenClaim := { program := "ytcdmmnfdnmjnpaa", sum := "8d6aec85a2e77caed897df7ef1d64766d59cc78ce9c0eb11032e664a5fec8b06", func := "loop.example/lodgekeeper/laws.FnClsOk", spec := "fnClsOk", plainKeys := false, apart := false, narrowed := true }
def FnClsOkUptoSaid : Prop := fnClsOkUptoRow.holds Try.pinned (OpenSpec.upto fnClsOkSpec)

/-- 'laws.FnLodOk', WHERE WHAT IT READS IS OF BULK AT MOST 1048576: true; the input reads as it did. -/
def fnLodOkUptoRow : OpenClaim := { program := "ytcdmmnfdnmjnpaa", sum := "8d6aec85a2e77caed897df7ef1d64766d59cc78ce9c0eb11032e664a5fec8b06", func := "loop.example/lodgekeeper/laws.FnLodOk", spec := "fnLodOk", plainKeys := false, apart := false, narrowed := true }
def FnLodOkUptoSaid : Prop := fnLodOkUptoRow.holds Try.pinned (OpenSpec.upto fnLodOkSpec)

/-- 'laws.FnLodRing', WHERE WHAT IT READS IS OF BULK AT MOST 1048576: true; the input reads as it did. -/
def fnLodRingUptoRow : OpenClaim := { program := "ytcdmmnfdnmjnpaa", sum := "8d6aec85a2e77caed897df7ef1d64766d59cc78ce9c0eb11032e664a5fec8b06", func := "loop.example/lodgekeeper/laws.FnLodRing", spec := "fnLodRing", unfollowed := true, recurses := true, plainKeys := false, apart := false, narrowed := true }
def FnLodRingUptoSaid : Prop := fnLodRingUptoRow.holds Try.pinned (OpenSpec.upto fnLodRingSpec)

/-- 'laws.FnLodAsk', WHERE WHAT IT READS IS OF BULK AT MOST 1048576: true; the input reads as it did. -/
def fnLodAskUptoRow : OpenClaim := { program := "ytcdmmnfdnmjnpaa", sum := "8d6aec85a2e77caed897df7ef1d64766d59cc78ce9c0eb11032e664a5fec8b06", func := "loop.example/lodgekeeper/laws.FnLodAsk", spec := "fnLodAsk", unfollowed := true, recurses := true, plainKeys := false, apart := false, narrowed := true }
def FnLodAskUptoSaid : Prop := fnLodAskUptoRow.holds Try.pinned (OpenSpec.upto fnLodAskSpec)

/-- 'laws.FnLodSelf', WHERE WHAT IT READS IS OF BULK AT MOST 1048576: true; the input reads as it did. -/
def fnLodSelfUptoRow : OpenClaim := { program := "ytcdmmnfdnmjnpaa", sum := "8d6aec85a2e77caed897df7ef1d64766d59cc78ce9c0eb11032e664a5fec8b06", func := "loop.example/lodgekeeper/laws.FnLodSelf", spec := "fnLodSelf", unfollowed := true, recurses := true, plainKeys := false, apart := false, narrowed := true }
def FnLodSelfUptoSaid : Prop := fnLodSelfUptoRow.holds Try.pinned (OpenSpec.upto fnLodSelfSpec)

/-- 'laws.FnLodFind', WHERE WHAT IT READS IS OF BULK AT MOST 1048576: true; the input reads as it did. -/
def fnLodFindUptoRow : OpenClaim := { program := "ytcdmmnfdnmjnpaa", sum := "8d6aec85a2e77caed897df7ef1d64766d59cc78ce9c0eb11032e664a5fec8b06", func := "loop.example/lodgekeeper/laws.FnLodFind", spec := "fnLodFind", unfollowed := true, recurses := true, plainKeys := false, apart := false, narrowed := true }
def FnLodFindUptoSaid : Prop := fnLodFindUptoRow.holds Try.pinned (OpenSpec.upto fnLodFindSpec)

/-- 'laws.FnLnkAgree', WHERE WHAT IT READS IS OF BULK AT MOST 1048576: true; the input reads as it did. -/
def fnLnkAgreeUptoRow : OpenClaim := { program := "ytcdmmnfdnmjnpaa", sum := "8d6aec85a2e77caed897df7ef1d64766d59cc78ce9c0eb11032e664a5fec8b06", func := "loop.example/lodgekeeper/laws.FnLnkAgree", spec := "fnLnkAgree", unfollowed := true, recurses := true, plainKeys := false, apart := false, narrowed := true }
def FnLnkAgreeUptoSaid : Prop := fnLnkAgreeUptoRow.holds Try.pinned (OpenSpec.upto fnLnkAgreeSpec)

/-- 'laws.FnTagMay', WHERE WHAT IT READS IS OF BULK AT MOST 1048576: true; the input reads as it did. -/
def fnTagMayUptoRow : OpenClaim := { program := "ytcdmmnfdnmjnpaa", sum := "8d6aec85a2e77caed897df7ef1d64766d59cc78ce9c0eb11032e664a5fec8b06", func := "loop.example/lodgekeeper/laws.FnTagMay", spec := "fnTagMay", unfollowed := true, recurses := true, plainKeys := false, apart := false, narrowed := true }
def FnTagMayUptoSaid : Prop := fnTagMayUptoRow.holds Try.pinned (OpenSpec.upto fnTagMaySpec)

/-- 'laws.FnLodUnder', WHERE WHAT IT READS IS OF BULK AT MOST 1048576: true; the input reads as it did. -/
def fnLodUnderUptoRow : OpenClaim := { program := "ytcdmmnfdnmjnpaa", sum := "8d6aec85a2e77caed897df7ef1d64766d59cc78ce9c0eb11032e664a5fec8b06", func := "loop.example/lodgekeeper/laws.FnLodUnder", spec := "fnLodUnder", unfollowed := true, recurses := true, plainKeys := false, apart := false, narrowed := true }
def FnLodUnderUptoSaid : Prop := fnLodUnderUptoRow.holds Try.pinned (OpenSpec.upto fnLodUnderSpec)

/-- 'laws.FnLodChain', WHERE WHAT IT READS IS OF BULK AT MOST 1048576: true; the input reads as it did. -/
def fnLodChainUptoRow : OpenClaim := { program := "ytcdmmnfdnmjnpaa", sum := "8d6aec85a2e77caed897df7ef1d64766d59cc78ce9c0eb11032e664a5fec8b06", func := "loop.example/lodgekeeper/laws.FnLodChain", spec := "fnLodChain", unfollowed := true, recurses := true, plainKeys := false, apart := false, narrowed := true }
def FnLodChainUptoSaid : Prop := fnLodChainUptoRow.holds Try.pinned (OpenSpec.upto fnLodChainSpec)

end Rows
end Go.Proofs.Ytcdmmnfdnmjnpaa
