

/-
  Regions that draw their order and whose calls make memory but turn nothing that was there: one walk of the text's order serves every order. No condition.
-/
import Derived.Test.YtmmlhnjmjmbfpaaGreatName
import Derived.Deep.QuietTactic
import Derived.BigQuiet
import Derived.IntWalk
namespace Go.Proofs.YtmmlhnjmjmbfpaaGreat
set_option linter.unusedSimpArgs false
set_option linter.unusedVariables false
open Go.RowKit

/-- a world that has grown out of w0, with all that was there as it was -/
structure In (w0 : World) where
  x : World
  h : Below w0.heap.size w0 x
instance (w0 : World) : Nonempty (In w0) := ⟨⟨w0, Below.refl _ _⟩⟩

theorem wp_region_in {P : Program} {id : Nat} {Q : Exit → Act → World → Prop} {a : Act} {w : World} {l : List Oper} (hm : P.follows .mixedOrders = true) (hB : Region.lexB .any l.toArray = true)
    (h : wpQuiet P l.toArray (fun w' => ∃ y : In w, w' = y.x) (fun a' => ∀ w', (∃ y : In w, w' = y.x) → Q .normal a' w') l a) : (Code.region id l.toArray true).wp P Q a w :=
  wp_region_quiet (C := fun w' => ∃ y : In w, w' = y.x) hm hB ⟨⟨w.drew, (Below.refl _ _).drew⟩, rfl⟩ (by simpa using h)

theorem In.trans {w0 : World} (y : In w0) {w' : World} (h : Below y.x.heap.size y.x w') : Below w0.heap.size w0 w' := y.h.trans (h.mono y.h.size)

/-- a contract 'everything that was there stays', met in such a world -/
theorem Calls.ins {P : Program} {f : FuncId} {args : Array Value} {w0 : World} {y : In w0} {v : Value}
    (h : Calls P f args y.x fun e w' => e = .returned v ∧ Below y.x.heap.size y.x w') : Calls P f args y.x fun e w'' => e = .returned v ∧ ∃ y' : In w0, w'' = y'.x :=
  h.mono fun _ w' ⟨he, hm⟩ => ⟨he, ⟨w', y.trans hm⟩, rfl⟩
/-- .. and one of a callee that leaves the world alone -/
theorem Calls.ins_same {P : Program} {f : FuncId} {args : Array Value} {w0 : World} {y : In w0} {v : Value}
    (h : Calls P f args y.x fun e w' => e = .returned v ∧ y.x = w') : Calls P f args y.x fun e w'' => e = .returned v ∧ ∃ y' : In w0, w'' = y'.x :=
  h.mono fun _ w' ⟨he, hm⟩ => ⟨he, y, hm.symm⟩
/-- .. with another spelling of what is returned -/
theorem Calls.val {P : Program} {f : FuncId} {args : Array Value} {w : World} {v v' : Value} {C : World → Prop} (h : Calls P f args w fun e w' => e = .returned v ∧ C w') (e : v = v') : Calls P f args w fun e w' => e = .returned v' ∧ C w' := e ▸ h

theorem Calls.val2 {P : Program} {f : FuncId} {args : Array Value} {w : World} {b b' : Bool} {C : World → Prop} (h : Calls P f args w fun e w' => e = .returned (.bool b) ∧ C w') (e : b = b') : Calls P f args w fun e w' => e = .returned (.bool b') ∧ C w' := e ▸ h

theorem In.cell {w0 : World} {b o : Nat} {v : Value} (h : w0.cell? ⟨b, o, none⟩ = some v) : ∀ y : In w0, y.x.cell? ⟨b, o, none⟩ = some v := fun y =>
  (y.h.cell (p := ⟨b, o, none⟩) (block_lt_of_cell h)).trans h

end Go.Proofs.YtmmlhnjmjmbfpaaGreat
