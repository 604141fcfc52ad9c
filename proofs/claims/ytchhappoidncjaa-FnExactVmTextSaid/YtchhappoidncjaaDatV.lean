

/-
  The data of the laws, their rows and weights. Printed by gen_rep.py, a program of the prover of this repo.
-/
import Derived.Test.YtchhappoidncjaaRep
namespace Go.Proofs.Ytchhappoidncjaa
set_option linter.unusedSimpArgs false
set_option linter.unusedVariables false
open Go.RowKit

structure DLodRef where
  fKeeper : Int
  fName : ByteArray
def rLodRef : RowRel DLodRef := fun lo w cs x => cs = [.int .i64 x.fKeeper, .string x.fName] ∧ x.fName.size ≤ maxLen
theorem rLodRef_good : Good rLodRef := ⟨fun lo w w' cs x hk h => by
    obtain ⟨h0, b1⟩ := h
    exact ⟨h0, b1⟩, fun lo lo' w cs x hk h => by
    obtain ⟨h0, b1⟩ := h
    exact ⟨h0, b1⟩⟩
def wtLodRef (x : DLodRef) : Nat := x.fName.size

structure DLnkMethod where
  fOf : DLodRef
  fAt : Int
def rLnkMethod : RowRel DLnkMethod := fun lo w cs x => cs = [.int .i64 x.fOf.fKeeper, .string x.fOf.fName, .int .i64 x.fAt] ∧ x.fOf.fName.size ≤ maxLen
theorem rLnkMethod_good : Good rLnkMethod := ⟨fun lo w w' cs x hk h => by
    obtain ⟨h0, b1⟩ := h
    exact ⟨h0, b1⟩, fun lo lo' w cs x hk h => by
    obtain ⟨h0, b1⟩ := h
    exact ⟨h0, b1⟩⟩
def wtLnkMethod (x : DLnkMethod) : Nat := wtLodRef x.fOf

structure DVmVal where
  fKind : Int
  fN : Int
def rVmVal : RowRel DVmVal := fun lo w cs x => cs = [.int .i64 x.fKind, .int .i64 x.fN]
theorem rVmVal_good : Good rVmVal := ⟨fun _ _ _ _ _ _ h => h, fun _ _ _ _ _ _ h => h⟩

structure DVmFrame where
  fOf : DLnkMethod
  fPc : Int
  fLocals : List DVmVal
  fStack : List DVmVal
def rVmFrame : RowRel DVmFrame := fun lo w cs x => ∃ v1 v2 : Value, cs = [.int .i64 x.fOf.fOf.fKeeper, .string x.fOf.fOf.fName, .int .i64 x.fOf.fAt, .int .i64 x.fPc, v1, v2] ∧ Sl 2 rVmVal lo w v1 x.fLocals ∧ Sl 2 rVmVal lo w v2 x.fStack ∧ x.fOf.fOf.fName.size ≤ maxLen
theorem rVmFrame_good : Good rVmFrame := ⟨fun lo w w' cs x hk h => by
    obtain ⟨v1, v2, h0, s1, s2, b1⟩ := h
    exact ⟨v1, v2, h0, s1.stays rVmVal_good hk, s2.stays rVmVal_good hk, b1⟩, fun lo lo' w cs x hk h => by
    obtain ⟨v1, v2, h0, s1, s2, b1⟩ := h
    exact ⟨v1, v2, h0, s1.low rVmVal_good hk, s2.low rVmVal_good hk, b1⟩⟩
def wtVmFrame (x : DVmFrame) : Nat := wtLnkMethod x.fOf + wtS (fun _ => 0) x.fLocals + wtS (fun _ => 0) x.fStack

structure DVmObj where
  fOf : DLodRef
  fFields : List DVmVal
def rVmObj : RowRel DVmObj := fun lo w cs x => ∃ v1 : Value, cs = [.int .i64 x.fOf.fKeeper, .string x.fOf.fName, v1] ∧ Sl 2 rVmVal lo w v1 x.fFields ∧ x.fOf.fName.size ≤ maxLen
theorem rVmObj_good : Good rVmObj := ⟨fun lo w w' cs x hk h => by
    obtain ⟨v1, h0, s1, b1⟩ := h
    exact ⟨v1, h0, s1.stays rVmVal_good hk, b1⟩, fun lo lo' w cs x hk h => by
    obtain ⟨v1, h0, s1, b1⟩ := h
    exact ⟨v1, h0, s1.low rVmVal_good hk, b1⟩⟩
def wtVmObj (x : DVmObj) : Nat := wtLodRef x.fOf + wtS (fun _ => 0) x.fFields

structure DVmState where
  fStatus : Int
  fFrames : List DVmFrame
  fHeap : List DVmObj
  fOuts : List Int
  fBack : DVmVal
def rVmState : RowRel DVmState := fun lo w cs x => ∃ v1 v2 v3 : Value, cs = [.int .i64 x.fStatus, v1, v2, v3, .int .i64 x.fBack.fKind, .int .i64 x.fBack.fN] ∧ Sl 6 rVmFrame lo w v1 x.fFrames ∧ Sl 3 rVmObj lo w v2 x.fHeap ∧ Sl 1 rInt lo w v3 x.fOuts
theorem rVmState_good : Good rVmState := ⟨fun lo w w' cs x hk h => by
    obtain ⟨v1, v2, v3, h0, s1, s2, s3⟩ := h
    exact ⟨v1, v2, v3, h0, s1.stays rVmFrame_good hk, s2.stays rVmObj_good hk, s3.stays rInt_good hk⟩, fun lo lo' w cs x hk h => by
    obtain ⟨v1, v2, v3, h0, s1, s2, s3⟩ := h
    exact ⟨v1, v2, v3, h0, s1.low rVmFrame_good hk, s2.low rVmObj_good hk, s3.low rInt_good hk⟩⟩
def wtVmState (x : DVmState) : Nat := wtS wtVmFrame x.fFrames + wtS wtVmObj x.fHeap + wtS (fun _ => 0) x.fOuts

end Go.Proofs.Ytchhappoidncjaa
