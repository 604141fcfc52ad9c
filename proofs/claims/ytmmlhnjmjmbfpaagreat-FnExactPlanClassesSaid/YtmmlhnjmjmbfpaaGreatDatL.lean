

/-
  The data of the laws, their rows and weights. Printed by gen_rep.py, a program of the prover of this repo.
-/
import Derived.Test.YtmmlhnjmjmbfpaaGreatDatC
namespace Go.Proofs.YtmmlhnjmjmbfpaaGreat
set_option linter.unusedSimpArgs false
set_option linter.unusedVariables false
open Go.RowKit

structure DLodRef where
  fKeeper : Int
  fName : ByteArray
def rLodRef : RowRel DLodRef := fun lo w cs x => cs = [.int .i64 x.fKeeper, .string x.fName] ∧ x.fName.size ≤ maxLen
theorem rLodRef_good : Good rLodRef := ⟨fun lo w w' cs x hk h => by
    obtain ⟨h0, b1⟩ := h
    exact ⟨h0, b1⟩, fun lo lo' w cs x hk h => by
    obtain ⟨h0, b1⟩ := h
    exact ⟨h0, b1⟩⟩
def wtLodRef (x : DLodRef) : Nat := x.fName.size

end Go.Proofs.YtmmlhnjmjmbfpaaGreat
