/-
  No cell of these rows narrows 'for every input' (looked for: loops, veiled, ifaces, maps, wideKeys, modest, calm, conditions, laid).
  DERIVED. THE GIVEN ROWS OF THIS SEAT. 7 by the template 'for every input the law returns true; each argument reads behind the call as it read before'; 0 by the template 'total and deterministic' (their statements: YtejfecmmcghpmaaGreatTotals.lean).
  GIVEN WITH THE SEED: the statements are not yours to turn. If you find one false, say at which input.
  Laid BY PROGRAM, IN A SANDBOX (cutbox-rows.mjs): the forced cells as the released guide's own fill.sh prints them over the translation cff5a285ad256ef5… (all of the seat's roots in one cut). By AI agents, Wed Nov 11 2026. No macro, syntax, notation, axiom, sorry.
-/
import Derived.Test.YtejfecmmcghpmaaGreatChecked
import GoSem.Claim
import GoSem.ClaimJoined
import GoSem.ClaimMapViews
import Derived.JoinedTies
import Derived.KernelRfl
namespace Go.Proofs.YtejfecmmcghpmaaGreat
/- THE CELL 'sum', in the pinned program and in every row, IS THE sha256 OF THE DUMP (.gsa) THAT YtejfecmmcghpmaaGreatProg.lean LOADS. Nothing in Lean hashes anything: it is a label: what it is worth is what the hold of that sum in a sandbox is worth. -/
noncomputable def Tryz.pinned : Pinned := { name := "ytejfecmmcghpmaagreat", sum := "cff5a285ad256ef564d1921d62ada2e5569a3e6394584ea5fe52b38f20c2aebf", checked := Tryz.checked }
namespace Rows
def none {H : Type} : Left H := { results := [], args := [] }

/-- 'laws.FnExactLodChain': WHATEVER THE INPUT: true; the input reads as it did. -/
def fnExactLodChainSpec : ChangeSpec := { name := "fnExactLodChain", fn := fun _ => fun
  | [d1, d2] => { results := [.lit (.bool true)], args := [d1, d2] }
  | _ => none }
def fnExactLodChainRow : OpenClaim := { program := "ytejfecmmcghpmaagreat", sum := "cff5a285ad256ef564d1921d62ada2e5569a3e6394584ea5fe52b38f20c2aebf", func := "loop.example/lodgekeeper/laws.FnExactLodChain", spec := "fnExactLodChain", unfollowed := true, recurses := true, plainKeys := false, apart := false }
def FnExactLodChainSaid : Prop := fnExactLodChainRow.holds Tryz.pinned (OpenSpec.ofChange fnExactLodChainSpec)

/-- ITS FALSE NEIGHBOUR: 'it returns false'. Refute it at one input. -/
def fnExactLodChainWrong : ChangeSpec := { name := "fnExactLodChain", fn := fun _ => fun
  | [d1, d2] => { results := [.lit (.bool false)], args := [d1, d2] }
  | _ => none }
def FnExactLodChainWrongFalsely : Prop := fnExactLodChainRow.holds Tryz.pinned (OpenSpec.ofChange fnExactLodChainWrong)

/-- 'laws.FnExactPlanClasses': WHATEVER THE INPUT: true; the input reads as it did. -/
def fnExactPlanClassesSpec : ChangeSpec := { name := "fnExactPlanClasses", fn := fun _ => fun
  | [d] => { results := [.lit (.bool true)], args := [d] }
  | _ => none }
def fnExactPlanClassesRow : OpenClaim := { program := "ytejfecmmcghpmaagreat", sum := "cff5a285ad256ef564d1921d62ada2e5569a3e6394584ea5fe52b38f20c2aebf", func := "loop.example/lodgekeeper/laws.FnExactPlanClasses", spec := "fnExactPlanClasses", unfollowed := true, recurses := true, plainKeys := false, apart := false }
def FnExactPlanClassesSaid : Prop := fnExactPlanClassesRow.holds Tryz.pinned (OpenSpec.ofChange fnExactPlanClassesSpec)

/-- ITS FALSE NEIGHBOUR: 'it returns false'. Refute it at one input. -/
def fnExactPlanClassesWrong : ChangeSpec := { name := "fnExactPlanClasses", fn := fun _ => fun
  | [d] => { results := [.lit (.bool false)], args := [d] }
  | _ => none }
def FnExactPlanClassesWrongFalsely : Prop := fnExactPlanClassesRow.holds Tryz.pinned (OpenSpec.ofChange fnExactPlanClassesWrong)

/-- 'laws.FnExactLodFind': WHATEVER THE INPUT: true; the input reads as it did. -/
def fnExactLodFindSpec : ChangeSpec := { name := "fnExactLodFind", fn := fun _ => fun
  | [d1, d2, d3] => { results := [.lit (.bool true)], args := [d1, d2, d3] }
  | _ => none }
def fnExactLodFindRow : OpenClaim := { program := "ytejfecmmcghpmaagreat", sum := "cff5a285ad256ef564d1921d62ada2e5569a3e6394584ea5fe52b38f20c2aebf", func := "loop.example/lodgekeeper/laws.FnExactLodFind", spec := "fnExactLodFind", unfollowed := true, recurses := true, plainKeys := false, apart := false }
def FnExactLodFindSaid : Prop := fnExactLodFindRow.holds Tryz.pinned (OpenSpec.ofChange fnExactLodFindSpec)

/-- ITS FALSE NEIGHBOUR: 'it returns false'. Refute it at one input. -/
def fnExactLodFindWrong : ChangeSpec := { name := "fnExactLodFind", fn := fun _ => fun
  | [d1, d2, d3] => { results := [.lit (.bool false)], args := [d1, d2, d3] }
  | _ => none }
def FnExactLodFindWrongFalsely : Prop := fnExactLodFindRow.holds Tryz.pinned (OpenSpec.ofChange fnExactLodFindWrong)

/-- 'laws.FnExactLnkAgree': WHATEVER THE INPUT: true; the input reads as it did. -/
def fnExactLnkAgreeSpec : ChangeSpec := { name := "fnExactLnkAgree", fn := fun _ => fun
  | [d1, d2, d3, d4] => { results := [.lit (.bool true)], args := [d1, d2, d3, d4] }
  | _ => none }
def fnExactLnkAgreeRow : OpenClaim := { program := "ytejfecmmcghpmaagreat", sum := "cff5a285ad256ef564d1921d62ada2e5569a3e6394584ea5fe52b38f20c2aebf", func := "loop.example/lodgekeeper/laws.FnExactLnkAgree", spec := "fnExactLnkAgree", unfollowed := true, recurses := true, plainKeys := false, apart := false }
def FnExactLnkAgreeSaid : Prop := fnExactLnkAgreeRow.holds Tryz.pinned (OpenSpec.ofChange fnExactLnkAgreeSpec)

/-- ITS FALSE NEIGHBOUR: 'it returns false'. Refute it at one input. -/
def fnExactLnkAgreeWrong : ChangeSpec := { name := "fnExactLnkAgree", fn := fun _ => fun
  | [d1, d2, d3, d4] => { results := [.lit (.bool false)], args := [d1, d2, d3, d4] }
  | _ => none }
def FnExactLnkAgreeWrongFalsely : Prop := fnExactLnkAgreeRow.holds Tryz.pinned (OpenSpec.ofChange fnExactLnkAgreeWrong)

/-- 'laws.FnExactLodUnder': WHATEVER THE INPUT: true; the input reads as it did. -/
def fnExactLodUnderSpec : ChangeSpec := { name := "fnExactLodUnder", fn := fun _ => fun
  | [d1, d2, d3] => { results := [.lit (.bool true)], args := [d1, d2, d3] }
  | _ => none }
def fnExactLodUnderRow : OpenClaim := { program := "ytejfecmmcghpmaagreat", sum := "cff5a285ad256ef564d1921d62ada2e5569a3e6394584ea5fe52b38f20c2aebf", func := "loop.example/lodgekeeper/laws.FnExactLodUnder", spec := "fnExactLodUnder", unfollowed := true, recurses := true, plainKeys := false, apart := false }
def FnExactLodUnderSaid : Prop := fnExactLodUnderRow.holds Tryz.pinned (OpenSpec.ofChange fnExactLodUnderSpec)

/-- ITS FALSE NEIGHBOUR: 'it returns false'. Refute it at one input. -/
def fnExactLodUnderWrong : ChangeSpec := { name := "fnExactLodUnder", fn := fun _ => fun
  | [d1, d2, d3] => { results := [.lit (.bool false)], args := [d1, d2, d3] }
  | _ => none }
def FnExactLodUnderWrongFalsely : Prop := fnExactLodUnderRow.holds Tryz.pinned (OpenSpec.ofChange fnExactLodUnderWrong)

/-- 'laws.FnExactTagMay': WHATEVER THE INPUT: true; the input reads as it did. -/
def fnExactTagMaySpec : ChangeSpec := { name := "fnExactTagMay", fn := fun _ => fun
  | [d1, d2, d3, d4] => { results := [.lit (.bool true)], args := [d1, d2, d3, d4] }
  | _ => none }
def fnExactTagMayRow : OpenClaim := { program := "ytejfecmmcghpmaagreat", sum := "cff5a285ad256ef564d1921d62ada2e5569a3e6394584ea5fe52b38f20c2aebf", func := "loop.example/lodgekeeper/laws.FnExactTagMay", spec := "fnExactTagMay", unfollowed := true, recurses := true, plainKeys := false, apart := false }
def FnExactTagMaySaid : Prop := fnExactTagMayRow.holds Tryz.pinned (OpenSpec.ofChange fnExactTagMaySpec)

/-- ITS FALSE NEIGHBOUR: 'it returns false'. Refute it at one input. -/
def fnExactTagMayWrong : ChangeSpec := { name := "fnExactTagMay", fn := fun _ => fun
  | [d1, d2, d3, d4] => { results := [.lit (.bool false)], args := [d1, d2, d3, d4] }
  | _ => none }
def FnExactTagMayWrongFalsely : Prop := fnExactTagMayRow.holds Tryz.pinned (OpenSpec.ofChange fnExactTagMayWrong)

/-- 'laws.FnExactLnkLaid': WHATEVER THE INPUT: true; the input reads as it did. -/
def fnExactLnkLaidSpec : ChangeSpec := { name := "fnExactLnkLaid", fn := fun _ => fun
  | [d1, d2] => { results := [.lit (.bool true)], args := [d1, d2] }
  | _ => none }
def fnExactLnkLaidRow : OpenClaim := { program := "ytejfecmmcghpmaagreat", sum := "cff5a285ad256ef564d1921d62ada2e5569a3e6394584ea5fe52b38f20c2aebf", func := "loop.example/lodgekeeper/laws.FnExactLnkLaid", spec := "fnExactLnkLaid", unfollowed := true, recurses := true, plainKeys := false, apart := false }
def FnExactLnkLaidSaid : Prop := fnExactLnkLaidRow.holds Tryz.pinned (OpenSpec.ofChange fnExactLnkLaidSpec)

/-- ITS FALSE NEIGHBOUR: 'it returns false'. Refute it at one input. -/
def fnExactLnkLaidWrong : ChangeSpec := { name := "fnExactLnkLaid", fn := fun _ => fun
  | [d1, d2] => { results := [.lit (.bool false)], args := [d1, d2] }
  | _ => none }
def FnExactLnkLaidWrongFalsely : Prop := fnExactLnkLaidRow.holds Tryz.pinned (OpenSpec.ofChange fnExactLnkLaidWrong)

/- THE SECOND FORM. 'bulk': how many values and letters a reading holds, each counted each time it is reached (what is shared counts as often as it is met; a slice's spare places count too). A statement '..UptoSaid' is the law's where the arguments, and the package variables that the reading takes, are together of bulk at most 1048576: NARROWER than '..Said'. Prove '..Said' where nothing that the law and all that it calls make is longer than what came in: it says more and counts as full. Else prove '..UptoSaid'. A law counts once. -/
mutual
def uptoBulk {H : Type} : DataW H → Nat
  | .lit (.string bytes) => bytes.length + 1
  | .lit _ => 1
  | .nil => 1
  | .ptr d => uptoBulk d + 1
  | .slice elems spare => uptoBulkAll elems + uptoBulkAll spare + 1
  | .agg parts => uptoBulkAll parts + 1
  | .iface _ d => uptoBulk d + 1
  | .map entries => uptoBulkEntries entries + 1
  | .held _ => 1
def uptoBulkAll {H : Type} : List (DataW H) → Nat
  | [] => 0
  | d :: r => uptoBulk d + uptoBulkAll r
def uptoBulkEntries {H : Type} : List (Lit × DataW H) → Nat
  | [] => 0
  | x :: r => uptoBulkEntry x + uptoBulkEntries r
def uptoBulkEntry {H : Type} : Lit × DataW H → Nat
  | (.string bytes, d) => bytes.length + uptoBulk d + 1
  | (_, d) => uptoBulk d + 1
 end
def uptoSmall : (H : Type) → List (DataW H) → Bool := fun _ ds => decide (uptoBulkAll ds ≤ 1048576)
def OpenSpec.upto (s : _root_.Go.ChangeSpec) : _root_.Go.OpenSpec := { _root_.Go.OpenSpec.ofChange s with cond := some uptoSmall }

/-- 'laws.FnExactLodChain', WHERE WHAT IT READS IS OF BULK AT MOST 1048576: true; the input reads as it did. -/
def fnExactLodChainUptoRow : OpenClaim := { program := "ytejfecmmcghpmaagreat", sum := "cff5a285ad256ef564d1921d62ada2e5569a3e6394584ea5fe52b38f20c2aebf", func := "loop.example/lodgekeeper/laws.FnExactLodChain", spec := "fnExactLodChain", unfollowed := true, recurses := true, plainKeys := false, apart := false, narrowed := true }
def FnExactLodChainUptoSaid : Prop := fnExactLodChainUptoRow.holds Tryz.pinned (OpenSpec.upto fnExactLodChainSpec)

/-- 'laws.FnExactPlanClasses', WHERE WHAT IT READS IS OF BULK AT MOST 1048576: true; the input reads as it did. -/
def fnExactPlanClassesUptoRow : OpenClaim := { program := "ytejfecmmcghpmaagreat", sum := "cff5a285ad256ef564d1921d62ada2e5569a3e6394584ea5fe52b38f20c2aebf", func := "loop.example/lodgekeeper/laws.FnExactPlanClasses", spec := "fnExactPlanClasses", unfollowed := true, recurses := true, plainKeys := false, apart := false, narrowed := true }
def FnExactPlanClassesUptoSaid : Prop := fnExactPlanClassesUptoRow.holds Tryz.pinned (OpenSpec.upto fnExactPlanClassesSpec)

/-- 'laws.FnExactLodFind', WHERE WHAT IT READS IS OF BULK AT MOST 1048576: true; the input reads as it did. -/
def fnExactLodFindUptoRow : OpenClaim := { program := "ytejfecmmcghpmaagreat", sum := "cff5a285ad256ef564d1921d62ada2e5569a3e6394584ea5fe52b38f20c2aebf", func := "loop.example/lodgekeeper/laws.FnExactLodFind", spec := "fnExactLodFind", unfollowed := true, recurses := true, plainKeys := false, apart := false, narrowed := true }
def FnExactLodFindUptoSaid : Prop := fnExactLodFindUptoRow.holds Tryz.pinned (OpenSpec.upto fnExactLodFindSpec)

/-- 'laws.FnExactLnkAgree', WHERE WHAT IT READS IS OF BULK AT MOST 1048576: true; the input reads as it did. -/
def fnExactLnkAgreeUptoRow : OpenClaim := { program := "ytejfecmmcghpmaagreat", sum := "cff5a285ad256ef564d1921d62ada2e5569a3e6394584ea5fe52b38f20c2aebf", func := "loop.example/lodgekeeper/laws.FnExactLnkAgree", spec := "fnExactLnkAgree", unfollowed := true, recurses := true, plainKeys := false, apart := false, narrowed := true }
def FnExactLnkAgreeUptoSaid : Prop := fnExactLnkAgreeUptoRow.holds Tryz.pinned (OpenSpec.upto fnExactLnkAgreeSpec)

/-- 'laws.FnExactLodUnder', WHERE WHAT IT READS IS OF BULK AT MOST 1048576: true; the input reads as it did. -/
def fnExactLodUnderUptoRow : OpenClaim := { program := "ytejfecmmcghpmaagreat", sum := "cff5a285ad256ef564d1921d62ada2e5569a3e6394584ea5fe52b38f20c2aebf", func := "loop.example/lodgekeeper/laws.FnExactLodUnder", spec := "fnExactLodUnder", unfollowed := true, recurses := true, plainKeys := false, apart := false, narrowed := true }
def FnExactLodUnderUptoSaid : Prop := fnExactLodUnderUptoRow.holds Tryz.pinned (OpenSpec.upto fnExactLodUnderSpec)

/-- 'laws.FnExactTagMay', WHERE WHAT IT READS IS OF BULK AT MOST 1048576: true; the input reads as it did. -/
def fnExactTagMayUptoRow : OpenClaim := { program := "ytejfecmmcghpmaagreat", sum := "cff5a285ad256ef564d1921d62ada2e5569a3e6394584ea5fe52b38f20c2aebf", func := "loop.example/lodgekeeper/laws.FnExactTagMay", spec := "fnExactTagMay", unfollowed := true, recurses := true, plainKeys := false, apart := false, narrowed := true }
def FnExactTagMayUptoSaid : Prop := fnExactTagMayUptoRow.holds Tryz.pinned (OpenSpec.upto fnExactTagMaySpec)

/-- 'laws.FnExactLnkLaid', WHERE WHAT IT READS IS OF BULK AT MOST 1048576: true; the input reads as it did. -/
def fnExactLnkLaidUptoRow : OpenClaim := { program := "ytejfecmmcghpmaagreat", sum := "cff5a285ad256ef564d1921d62ada2e5569a3e6394584ea5fe52b38f20c2aebf", func := "loop.example/lodgekeeper/laws.FnExactLnkLaid", spec := "fnExactLnkLaid", unfollowed := true, recurses := true, plainKeys := false, apart := false, narrowed := true }
def FnExactLnkLaidUptoSaid : Prop := fnExactLnkLaidUptoRow.holds Tryz.pinned (OpenSpec.upto fnExactLnkLaidSpec)

end Rows
end Go.Proofs.YtejfecmmcghpmaaGreat
