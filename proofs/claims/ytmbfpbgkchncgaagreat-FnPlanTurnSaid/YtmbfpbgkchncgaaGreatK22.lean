/-
  Texts of mine, packed: Seq, Above, Climb, FindJ, FindK. No condition beside those of the single theorems.
-/
import Derived.Test.YtmbfpbgkchncgaaGreatK1
import Derived.RangeFuncWrites
import Derived.Test.YtmbfpbgkchncgaaGreatK21
import Derived.RangeFuncLeaves
import Derived.RangeFuncCalls
import Derived.OwnWalkIn
import Derived.TacticsInMore
import Derived.Sort.LoopGhostIn
import Derived.RangeFuncKeeps
import Derived.Shelf.Abstract
import Derived.RangeFuncOwn
set_option linter.unusedSimpArgs false
set_option linter.unusedVariables false
set_option maxHeartbeats 16000000
set_option maxRecDepth 100000
namespace Go.Proofs.YtmbfpbgkchncgaaGreat
open Go.RowKit
attribute [local go_sem] Oper.semAt_some
theorem Refs.put {w:World} {base l:Nat} {v:Value} {rs:List DLodRef} {rec:Loop} (o':Obj) (h:Refs w base v rs) (hl:w.heap[l]? =some (.loop rec)):Refs (w.putObj l o') base v rs:=by
 obtain⟨h0,h⟩:=h
 rcases h with h|⟨g,cap,cur,h1,h2,h3,h4⟩
 ·exact⟨h0,Or.inl h⟩
 ·refine⟨h0,Or.inr ⟨g,cap,cur,h1,h2,?_,h4⟩⟩
  rw[World.putObj_heap_other]
  ·exact h3
  ·intro e;subst e;rw[hl] at h3;cases h3

theorem Refs.cells {w:World} {base g:Nat} {v:Value} {rs:List DLodRef} (h:Refs w base v rs) (hg:v.ownBlock=some g):∃ cs t fr,w.heap[g]? =some (.cells cs t fr):=by
 obtain⟨_,h⟩:=h
 rcases h with ⟨h1,h0⟩|⟨g',cap,cur,h1,h2,h3,_⟩
 ·rw[h1] at hg;cases hg
 ·rw[h1] at hg;cases hg;exact⟨_,_,_,h3⟩
end Go.Proofs.YtmbfpbgkchncgaaGreat
