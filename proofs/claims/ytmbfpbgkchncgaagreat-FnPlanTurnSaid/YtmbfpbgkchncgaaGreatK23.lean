/-
  Texts of mine, packed: AgreeS, Chain, Under, UnderS, MayS, Plain. No condition beside those of the single theorems.
-/
import Derived.Test.YtmbfpbgkchncgaaGreatK22
import Derived.Test.YtmbfpbgkchncgaaGreatK9
import Derived.Test.YtmbfpbgkchncgaaGreatK2
set_option linter.unusedSimpArgs false
set_option linter.unusedVariables false
set_option maxHeartbeats 16000000
set_option maxRecDepth 100000
namespace Go.Proofs.YtmbfpbgkchncgaaGreat
open Go.RowKit
@[go_sem] theorem eg_ref:Tryz.prog.eqGuardType Tryz.prog.depth 42=false:=by kernel_rfl
@[go_sem] theorem eq_ref (a c:Int) (b d:ByteArray) (w:World):(Op.equalIn 10000 42 (.agg #[.int .i64 a,.string b]) (.agg #[.int .i64 c,.string d])).run Tryz.prog w=.ok (a == c && b.toList == d.toList) w:=by
 have iu3:=Tryz.underlying3
 have ia3:=Tryz.isAgg3
 have iz3:=Tryz.sizeOf3
 have iu9:=Tryz.underlying9
 have ia9:=Tryz.isAgg9
 have iz9:=Tryz.sizeOf9
 have hS:Tryz.prog.underlying 42=some (.struct (Tryz.prog.fieldsOf 42)):=by kernel_rfl
 have hp:Tryz.prog.stoodInHeld 42=false:=by kernel_rfl
 rw[show(10000:Nat)=9999+1 from rfl,run_equalIn_agg w 9999 42 _ _ hS hp]
 simp only[Program.fieldsOf,Tryz.underlying42]
 go_simp
 by_cases h1:a=c<;>by_cases h2:b.toList=d.toList<;>simp[h1,h2]

@[go_sem] theorem eg_tagM:Tryz.prog.eqGuardType Tryz.prog.depth 165=false:=by kernel_rfl
@[go_sem] theorem eq_tagM (a c:Int) (b d:ByteArray) (w:World):(Op.equalIn 10000 165 (.agg #[.int .i64 a,.string b]) (.agg #[.int .i64 c,.string d])).run Tryz.prog w=.ok (a == c && b.toList == d.toList) w:=by
 have iu3:=Tryz.underlying3
 have ia3:=Tryz.isAgg3
 have iz3:=Tryz.sizeOf3
 have iu9:=Tryz.underlying9
 have ia9:=Tryz.isAgg9
 have iz9:=Tryz.sizeOf9
 have hS:Tryz.prog.underlying 165=some (.struct (Tryz.prog.fieldsOf 165)):=by kernel_rfl
 have hp:Tryz.prog.stoodInHeld 165=false:=by kernel_rfl
 rw[show(10000:Nat)=9999+1 from rfl,run_equalIn_agg w 9999 165 _ _ hS hp]
 simp only[Program.fieldsOf,Tryz.underlying165]
 go_simp
 by_cases h1:a=c<;>by_cases h2:b.toList=d.toList<;>simp[h1,h2]

theorem find_first {α:Type} (p:α→Bool) (xs:List α):xs.find? p=if 0≤firstAt p xs then xs[(firstAt p xs).toNat]? else none:=by
 rcases firstAt_cases p xs with ⟨h1,h2⟩|⟨k,x,h1,h2,h3,h4⟩
 ·rw[if_neg (by omega),List.find?_eq_none]
  intro x hx
  obtain⟨i,hi⟩:=List.mem_iff_getElem?.1 hx
  simp[h2 i x hi]
 ·rw[if_pos (by omega),h1,Int.toNat_natCast,h2]
  obtain⟨hk,rfl⟩:=List.getElem?_eq_some_iff.1 h2
  rw[List.find?_eq_some_iff_getElem]
  exact⟨h3,k,hk,rfl,fun j hj=>by have:=h4 j xs[j] hj (List.getElem?_eq_getElem (by omega));simpa using this⟩

def loOfP (p:DLodPlan) (r:DLodRef):DClsClass:=if inPlan p r.fKeeper then (match p.fKeepers[r.fKeeper.toNat]? with|some k=>(match k.fOwns.find? (fun c=>sameN c.fName r.fName) with|some c=>c|none=>nilCls)|none=>nilCls) else nilCls
end Go.Proofs.YtmbfpbgkchncgaaGreat
