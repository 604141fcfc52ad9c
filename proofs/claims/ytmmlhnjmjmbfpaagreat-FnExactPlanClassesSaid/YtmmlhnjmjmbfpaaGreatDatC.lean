

/-
  The data of the laws, their rows and weights. Printed by gen_rep.py, a program of the prover of this repo.
-/
import Derived.Test.YtmmlhnjmjmbfpaaGreatRep
namespace Go.Proofs.YtmmlhnjmjmbfpaaGreat
set_option linter.unusedSimpArgs false
set_option linter.unusedVariables false
open Go.RowKit

structure DKndKind where
  fKind : Int
  fName : ByteArray
def rKndKind : RowRel DKndKind := fun lo w cs x => cs = [.int .i64 x.fKind, .string x.fName] ∧ x.fName.size ≤ maxLen
theorem rKndKind_good : Good rKndKind := ⟨fun lo w w' cs x hk h => by
    obtain ⟨h0, b1⟩ := h
    exact ⟨h0, b1⟩, fun lo lo' w cs x hk h => by
    obtain ⟨h0, b1⟩ := h
    exact ⟨h0, b1⟩⟩
def wtKndKind (x : DKndKind) : Nat := x.fName.size

structure DClsField where
  fName : ByteArray
  fKind : DKndKind
def rClsField : RowRel DClsField := fun lo w cs x => cs = [.string x.fName, .int .i64 x.fKind.fKind, .string x.fKind.fName] ∧ x.fName.size ≤ maxLen ∧ x.fKind.fName.size ≤ maxLen
theorem rClsField_good : Good rClsField := ⟨fun lo w w' cs x hk h => by
    obtain ⟨h0, b1, b2⟩ := h
    exact ⟨h0, b1, b2⟩, fun lo lo' w cs x hk h => by
    obtain ⟨h0, b1, b2⟩ := h
    exact ⟨h0, b1, b2⟩⟩
def wtClsField (x : DClsField) : Nat := x.fName.size + wtKndKind x.fKind

structure DClsIns where
  fOp : Int
  fA : Int
  fName : ByteArray
  fMember : ByteArray
def rClsIns : RowRel DClsIns := fun lo w cs x => cs = [.int .i64 x.fOp, .int .i64 x.fA, .string x.fName, .string x.fMember] ∧ x.fName.size ≤ maxLen ∧ x.fMember.size ≤ maxLen
theorem rClsIns_good : Good rClsIns := ⟨fun lo w w' cs x hk h => by
    obtain ⟨h0, b1, b2⟩ := h
    exact ⟨h0, b1, b2⟩, fun lo lo' w cs x hk h => by
    obtain ⟨h0, b1, b2⟩ := h
    exact ⟨h0, b1, b2⟩⟩
def wtClsIns (x : DClsIns) : Nat := x.fName.size + x.fMember.size

structure DTagTag where
  fKind : Int
  fName : ByteArray
def rTagTag : RowRel DTagTag := fun lo w cs x => cs = [.int .i64 x.fKind, .string x.fName] ∧ x.fName.size ≤ maxLen
theorem rTagTag_good : Good rTagTag := ⟨fun lo w w' cs x hk h => by
    obtain ⟨h0, b1⟩ := h
    exact ⟨h0, b1⟩, fun lo lo' w cs x hk h => by
    obtain ⟨h0, b1⟩ := h
    exact ⟨h0, b1⟩⟩
def wtTagTag (x : DTagTag) : Nat := x.fName.size

structure DClsMap where
  fAt : Int
  fLocals : List DTagTag
  fStack : List DTagTag
def rClsMap : RowRel DClsMap := fun lo w cs x => ∃ v1 v2 : Value, cs = [.int .i64 x.fAt, v1, v2] ∧ Sl 2 rTagTag lo w v1 x.fLocals ∧ Sl 2 rTagTag lo w v2 x.fStack
theorem rClsMap_good : Good rClsMap := ⟨fun lo w w' cs x hk h => by
    obtain ⟨v1, v2, h0, s1, s2⟩ := h
    exact ⟨v1, v2, h0, s1.stays rTagTag_good hk, s2.stays rTagTag_good hk⟩, fun lo lo' w cs x hk h => by
    obtain ⟨v1, v2, h0, s1, s2⟩ := h
    exact ⟨v1, v2, h0, s1.low rTagTag_good hk, s2.low rTagTag_good hk⟩⟩
def wtClsMap (x : DClsMap) : Nat := wtS wtTagTag x.fLocals + wtS wtTagTag x.fStack

structure DClsMethod where
  fName : ByteArray
  fArgs : List DKndKind
  fRet : DKndKind
  fLocals : Int
  fStack : Int
  fCode : List DClsIns
  fMaps : List DClsMap
def rClsMethod : RowRel DClsMethod := fun lo w cs x => ∃ v1 v2 v3 : Value, cs = [.string x.fName, v1, .int .i64 x.fRet.fKind, .string x.fRet.fName, .int .i64 x.fLocals, .int .i64 x.fStack, v2, v3] ∧ Sl 2 rKndKind lo w v1 x.fArgs ∧ Sl 4 rClsIns lo w v2 x.fCode ∧ Sl 3 rClsMap lo w v3 x.fMaps ∧ x.fName.size ≤ maxLen ∧ x.fRet.fName.size ≤ maxLen
theorem rClsMethod_good : Good rClsMethod := ⟨fun lo w w' cs x hk h => by
    obtain ⟨v1, v2, v3, h0, s1, s2, s3, b1, b2⟩ := h
    exact ⟨v1, v2, v3, h0, s1.stays rKndKind_good hk, s2.stays rClsIns_good hk, s3.stays rClsMap_good hk, b1, b2⟩, fun lo lo' w cs x hk h => by
    obtain ⟨v1, v2, v3, h0, s1, s2, s3, b1, b2⟩ := h
    exact ⟨v1, v2, v3, h0, s1.low rKndKind_good hk, s2.low rClsIns_good hk, s3.low rClsMap_good hk, b1, b2⟩⟩
def wtClsMethod (x : DClsMethod) : Nat := x.fName.size + wtS wtKndKind x.fArgs + wtKndKind x.fRet + wtS wtClsIns x.fCode + wtS wtClsMap x.fMaps

structure DClsClass where
  fName : ByteArray
  fSuper : ByteArray
  fFields : List DClsField
  fMethods : List DClsMethod
def rClsClass : RowRel DClsClass := fun lo w cs x => ∃ v1 v2 : Value, cs = [.string x.fName, .string x.fSuper, v1, v2] ∧ Sl 3 rClsField lo w v1 x.fFields ∧ Sl 8 rClsMethod lo w v2 x.fMethods ∧ x.fName.size ≤ maxLen ∧ x.fSuper.size ≤ maxLen
theorem rClsClass_good : Good rClsClass := ⟨fun lo w w' cs x hk h => by
    obtain ⟨v1, v2, h0, s1, s2, b1, b2⟩ := h
    exact ⟨v1, v2, h0, s1.stays rClsField_good hk, s2.stays rClsMethod_good hk, b1, b2⟩, fun lo lo' w cs x hk h => by
    obtain ⟨v1, v2, h0, s1, s2, b1, b2⟩ := h
    exact ⟨v1, v2, h0, s1.low rClsField_good hk, s2.low rClsMethod_good hk, b1, b2⟩⟩
def wtClsClass (x : DClsClass) : Nat := x.fName.size + x.fSuper.size + wtS wtClsField x.fFields + wtS wtClsMethod x.fMethods

structure DLodAsk where
  fName : ByteArray
  fKeeper : Int
def rLodAsk : RowRel DLodAsk := fun lo w cs x => cs = [.string x.fName, .int .i64 x.fKeeper] ∧ x.fName.size ≤ maxLen
theorem rLodAsk_good : Good rLodAsk := ⟨fun lo w w' cs x hk h => by
    obtain ⟨h0, b1⟩ := h
    exact ⟨h0, b1⟩, fun lo lo' w cs x hk h => by
    obtain ⟨h0, b1⟩ := h
    exact ⟨h0, b1⟩⟩
def wtLodAsk (x : DLodAsk) : Nat := x.fName.size

structure DLodKeeper where
  fOwns : List DClsClass
  fAsks : List DLodAsk
def rLodKeeper : RowRel DLodKeeper := fun lo w cs x => ∃ v1 v2 : Value, cs = [v1, v2] ∧ Sl 4 rClsClass lo w v1 x.fOwns ∧ Sl 2 rLodAsk lo w v2 x.fAsks
theorem rLodKeeper_good : Good rLodKeeper := ⟨fun lo w w' cs x hk h => by
    obtain ⟨v1, v2, h0, s1, s2⟩ := h
    exact ⟨v1, v2, h0, s1.stays rClsClass_good hk, s2.stays rLodAsk_good hk⟩, fun lo lo' w cs x hk h => by
    obtain ⟨v1, v2, h0, s1, s2⟩ := h
    exact ⟨v1, v2, h0, s1.low rClsClass_good hk, s2.low rLodAsk_good hk⟩⟩
def wtLodKeeper (x : DLodKeeper) : Nat := wtS wtClsClass x.fOwns + wtS wtLodAsk x.fAsks

structure DLodPlan where
  fKeepers : List DLodKeeper
def rLodPlan : RowRel DLodPlan := fun lo w cs x => ∃ v1 : Value, cs = [v1] ∧ Sl 2 rLodKeeper lo w v1 x.fKeepers
theorem rLodPlan_good : Good rLodPlan := ⟨fun lo w w' cs x hk h => by
    obtain ⟨v1, h0, s1⟩ := h
    exact ⟨v1, h0, s1.stays rLodKeeper_good hk⟩, fun lo lo' w cs x hk h => by
    obtain ⟨v1, h0, s1⟩ := h
    exact ⟨v1, h0, s1.low rLodKeeper_good hk⟩⟩
def wtLodPlan (x : DLodPlan) : Nat := wtS wtLodKeeper x.fKeepers

structure DChgChange where
  fKind : Int
  fKeeper : Int
  fName : ByteArray
  fTo : Int
  fClass : DClsClass
def rChgChange : RowRel DChgChange := fun lo w cs x => ∃ v1 v2 : Value, cs = [.int .i64 x.fKind, .int .i64 x.fKeeper, .string x.fName, .int .i64 x.fTo, .string x.fClass.fName, .string x.fClass.fSuper, v1, v2] ∧ Sl 3 rClsField lo w v1 x.fClass.fFields ∧ Sl 8 rClsMethod lo w v2 x.fClass.fMethods ∧ x.fName.size ≤ maxLen ∧ x.fClass.fName.size ≤ maxLen ∧ x.fClass.fSuper.size ≤ maxLen
theorem rChgChange_good : Good rChgChange := ⟨fun lo w w' cs x hk h => by
    obtain ⟨v1, v2, h0, s1, s2, b1, b2, b3⟩ := h
    exact ⟨v1, v2, h0, s1.stays rClsField_good hk, s2.stays rClsMethod_good hk, b1, b2, b3⟩, fun lo lo' w cs x hk h => by
    obtain ⟨v1, v2, h0, s1, s2, b1, b2, b3⟩ := h
    exact ⟨v1, v2, h0, s1.low rClsField_good hk, s2.low rClsMethod_good hk, b1, b2, b3⟩⟩
def wtChgChange (x : DChgChange) : Nat := x.fName.size + wtClsClass x.fClass

end Go.Proofs.YtmmlhnjmjmbfpaaGreat
