

/-
  What keepers agree on, in plain words; the walks of LnkAgree, the reference's and the program's. Condition: the data can be read.
-/
import Derived.Test.YtmmlhnjmjmbfpaaGreatFindK
import Derived.Test.YtmmlhnjmjmbfpaaGreatKndA
namespace Go.Proofs.YtmmlhnjmjmbfpaaGreat
set_option linter.unusedSimpArgs false
set_option linter.unusedVariables false
open Go.RowKit

@[go_sem] theorem eg_ref : Tryz.prog.eqGuardType Tryz.prog.depth 35 = false := by kernel_rfl
@[go_sem] theorem eq_ref (a c : Int) (b d : ByteArray) (w : World) : (Op.equalIn 10000 35 (.agg #[.int .i64 a, .string b]) (.agg #[.int .i64 c, .string d])).run Tryz.prog w = .ok (a == c && b.toList == d.toList) w := by
  have iu3 := Tryz.underlying3
  have ia3 := Tryz.isAgg3
  have iz3 := Tryz.sizeOf3
  have iu9 := Tryz.underlying9
  have ia9 := Tryz.isAgg9
  have iz9 := Tryz.sizeOf9
  have hS : Tryz.prog.underlying 35 = some (.struct (Tryz.prog.fieldsOf 35)) := by kernel_rfl
  have hp : Tryz.prog.stoodInHeld 35 = false := by kernel_rfl
  rw [show (10000 : Nat) = 9999 + 1 from rfl, run_equalIn_agg w 9999 35 _ _ hS hp]
  simp only [Program.fieldsOf, Tryz.underlying35]
  go_simp
  by_cases h1 : a = c <;> by_cases h2 : b.toList = d.toList <;> simp [h1, h2]

def refEq (a b : DLodRef) : Bool := a.fKeeper == b.fKeeper && a.fName.toList == b.fName.toList
theorem refEq_self (a : DLodRef) : refEq a a = true := by simp [refEq]
def agreeV (a b : DLodRef × Int) : Bool := if a.2 = 1 then (if b.2 = 1 then refEq a.1 b.1 else false) else (if b.2 = 1 then false else true)
theorem agreeV_self (a : DLodRef × Int) : agreeV a a = true := by
  unfold agreeV
  by_cases h : a.2 = 1
  · rw [if_pos h, if_pos h]; exact refEq_self _
  · rw [if_neg h, if_neg h]
def agreeP (p : DLodPlan) (i j : Nat) (kd : DKndKind) : Bool := if kd.fKind = 1 then true else if i = j then true else agreeV (findR p i kd.fName) (findR p j kd.fName)
def lnkAgree (p : DLodPlan) (i j : Int) (kd : DKndKind) : Bool := lodOk p && inPlan p i && inPlan p j && kndOk kd.fKind kd.fName && agreeP p i.toNat j.toNat kd



end Go.Proofs.YtmmlhnjmjmbfpaaGreat
