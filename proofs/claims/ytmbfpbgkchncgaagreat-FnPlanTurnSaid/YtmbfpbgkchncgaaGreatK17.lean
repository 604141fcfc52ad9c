/-
  Texts of mine, packed: Sig, Same, SameI, ChgU. No condition beside those of the single theorems.
-/
import Derived.Test.YtmbfpbgkchncgaaGreatK1
import Derived.Test.YtmbfpbgkchncgaaGreatK2
import Derived.Deep.LoopGhost
import Derived.Test.YtmbfpbgkchncgaaGreatK9
import Derived.Test.YtmbfpbgkchncgaaGreatK16
set_option linter.unusedSimpArgs false
set_option linter.unusedVariables false
set_option maxHeartbeats 16000000
set_option maxRecDepth 100000
namespace Go.Proofs.YtmbfpbgkchncgaaGreat
open Go.RowKit
def kndEq (a b:DKndKind):Bool:=a.fKind == b.fKind && a.fName.toList == b.fName.toList
def argAt (ys:List DKndKind) (k:Nat) (x:DKndKind):Bool:=match ys[k]? with|some y=>kndEq x y|none=>true
def sameArgs (xs ys:List DKndKind):Bool:=decide (xs.length=ys.length) && each (argAt ys) xs
def sameSig (a b:DClsMethod):Bool:=kndEq a.fRet b.fRet && sameArgs a.fArgs b.fArgs

theorem kndEq_iff {a b:DKndKind}:kndEq a b=true↔a=b:=by
 obtain⟨ak,an⟩:=a
 obtain⟨bk,bn⟩:=b
 unfold kndEq
 simp only[Bool.and_eq_true,beq_iff_eq,DKndKind.mk.injEq]
 constructor
 ·rintro⟨h1,h2⟩;exact⟨h1,sameN_iff.1 (by simpa[sameN] using h2)⟩
 ·rintro⟨h1,h2⟩;exact⟨h1,by rw[h2]⟩

@[go_sem] theorem eg_knd:Tryz.prog.eqGuardType Tryz.prog.depth 59=false:=by kernel_rfl
@[go_sem] theorem eq_knd (a c:Int) (b d:ByteArray) (w:World):(Op.equalIn 10000 59 (.agg #[.int .i64 a,.string b]) (.agg #[.int .i64 c,.string d])).run Tryz.prog w=.ok (a == c && b.toList == d.toList) w:=by
 have iu3:=Tryz.underlying3
 have ia3:=Tryz.isAgg3
 have iz3:=Tryz.sizeOf3
 have iu9:=Tryz.underlying9
 have ia9:=Tryz.isAgg9
 have iz9:=Tryz.sizeOf9
 have hS:Tryz.prog.underlying 59=some (.struct (Tryz.prog.fieldsOf 59)):=by kernel_rfl
 have hp:Tryz.prog.stoodInHeld 59=false:=by kernel_rfl
 rw[show(10000:Nat)=9999+1 from rfl,run_equalIn_agg w 9999 59 _ _ hS hp]
 simp only[Program.fieldsOf,Tryz.underlying59]
 go_simp
 by_cases h1:a=c<;>by_cases h2:b.toList=d.toList<;>simp[h1,h2]

theorem I_eqKnds (xs ys:List DKndKind) (v1 u1:Value) (w:World) (s1:Sl 2 rKndKind 0 w v1 xs) (t1:Sl 2 rKndKind 0 w u1 ys) :
  Calls Tryz.prog 132 #[v1,u1] w fun e w'=>e=.returned (.bool (sameArgs xs ys))∧Below w.heap.size w w':=by
 obtain⟨a,len,cap,rfl,hl,h1,h2,h3⟩:=id s1
 obtain⟨a',len',cap',rfl,hl',h1',h2',h3'⟩:=id t1
 have m1:len≤9223372036854775807:=by unfold maxLen at h2;omega
 have m1':len'≤9223372036854775807:=by unfold maxLen at h2';omega
 have HL:=qhd hl
 have HL':=qhd hl'
 clear h2 hl h2' hl' h1 h1'
 obtain⟨z,hz⟩:∃ z,z=sameArgs xs ys:=⟨_,rfl⟩
 have HZ:=qhd hz
 rw[←hz]
 clear hz
 by_cases hlen:¬len=len'
 ·have RV:Hid (z=false):=qhd (by rw[HZ.out];unfold sameArgs;rw[HL.out,HL'.out];simp[hlen])
  have i1:((len:Int) != (len':Int))=true:=by simp;omega
  have i2:¬(len:Int)=(len':Int):=by omega
  refine qac fun R HR=>?_
  go_enter Tryz.func132,Tryz.ntmps132
  go_wp2
  all_goals (try go_returns)
  all_goals exact HR.out _ _ ⟨by rw[RV.out];rfl,bbel⟩
 obtain rfl:len=len':=Decidable.byContradiction hlen
 clear hlen
 refine qac fun R HR=>?_
 go_enter Tryz.func132,Tryz.ntmps132
 go_wp2_with fail
 go_loopw [5,13] (fun _ i wr=>∃ k:Nat,k≤len∧i=.int .i64 k∧EachTo (argAt ys) xs k=true∧Below w.heap.size w wr) (fun _ i _=>len-(intOf i).toNat)
 case atStart=>exact⟨0,Nat.zero_le _,rfl,rfl,bbel⟩
 case round=>
  obtain⟨k,hk,rfl,ha,hb⟩:=hrel
  have HA:=qhd ha
  clear ha
  by_cases hlt:k < len
  ·obtain⟨b,off,rfl,_,_,hr⟩:=h3.stays qau (Keeps.of_below hb) (by omega)
   obtain⟨b',off',rfl,_,_,hr'⟩:=h3'.stays qau (Keeps.of_below hb) (by omega)
   obtain⟨⟨xk,xn⟩,cs,e0,_,e1,e4⟩:=hr k hlt
   obtain⟨⟨yk,yn⟩,cs',f0,_,f1,f4⟩:=hr' k hlt
   obtain⟨rfl,_⟩:=e4
   obtain⟨rfl,_⟩:=f4
   have q1:wr.cell? ⟨b,off+k * 2,none⟩=some (.int .i64 xk):=e1 0 _ rfl
   have q2:wr.cell? ⟨b,off+k * 2+1,none⟩=some (.string xn):=e1 1 _ rfl
   have q3:wr.cell? ⟨b',off'+k * 2,none⟩=some (.int .i64 yk):=f1 0 _ rfl
   have q4:wr.cell? ⟨b',off'+k * 2+1,none⟩=some (.string yn):=f1 1 _ rfl
   have E0:=qhd e0
   have F0:=qhd f0
   clear e0 e1 f0 f1 hr hr'
   cases hx:kndEq ⟨xk,xn⟩ ⟨yk,yn⟩
   ·have RV:Hid (z=false):=qhd (by rw[HZ.out];unfold sameArgs;rw[qao E0.out (by unfold argAt;rw[F0.out];exact hx)];simp)
    have hq2:(xk == yk && xn.toList == yn.toList)=false:=hx
    have bo:∀ W,(binOp .neq 59 (.agg #[.int .i64 xk,.string xn]) (.agg #[.int .i64 yk,.string yn])).run Tryz.prog W=.ok (.bool true) W:=fun W=>by
     simp only[run_neq_struct,eq_knd,hq2]
     try simp[Result.andThen]
    clear hq2 hx
    go_wp2_with fail
    go_region
    go_wp2
    all_goals (try go_returns)
    all_goals exact HR.out _ _ ⟨by first|(rw[RV.out];done)|(rw[RV.out];rfl),bbel⟩
   ·have heq:=kndEq_iff.1 hx
    have HX:=qhd hx
    cases heq
    clear hx
    have bo:∀ W,(binOp .neq 59 (.agg #[.int .i64 xk,.string xn]) (.agg #[.int .i64 xk,.string xn])).run Tryz.prog W=.ok (.bool false) W:=fun W=>by
     simp only[run_neq_struct,eq_knd]
     try simp[Result.andThen]
    go_wp2_with fail
    go_region
    go_wp2
    go_roundw
    case measure=>simp[intOf];omega
    case rel=>exact⟨k+1,by omega,by go_num,EachTo.step HA.out E0.out (by unfold argAt;rw[F0.out];exact HX.out),bbel⟩
  ·obtain rfl:k=len:=by omega
   have RV:Hid (z=true):=qhd (by rw[HZ.out];unfold sameArgs;rw[qaz HA.out HL.out,HL.out,HL'.out];simp)
   go_wp2
   all_goals (try go_returns)
   all_goals exact HR.out _ _ ⟨by rw[RV.out];rfl,bbel⟩

def eqAt {α:Type} (f:α→α→Bool) (ys:List α) (k:Nat) (x:α):Bool:=match ys[k]? with|some y=>f x y|none=>true
def eqL {α:Type} (f:α→α→Bool) (xs ys:List α):Bool:=decide (xs.length=ys.length) && each (eqAt f ys) xs
theorem eqL_len {α:Type} {f:α→α→Bool} {xs ys:List α} (h:xs.length≠ys.length):eqL f xs ys=false:=by simp[eqL,h]
theorem eqL_stop {α:Type} {f:α→α→Bool} {xs ys:List α} (h:each (eqAt f ys) xs=false):eqL f xs ys=false:=by simp[eqL,h]
theorem eqL_done {α:Type} {f:α→α→Bool} {xs ys:List α} (h1:xs.length=ys.length) (h:each (eqAt f ys) xs=true):eqL f xs ys=true:=by simp[eqL,h,h1]
def fldEq (a b:DClsField):Bool:=a.fName.toList == b.fName.toList && kndEq a.fKind b.fKind
def insEq (a b:DClsIns):Bool:=a.fOp == b.fOp && a.fA == b.fA && a.fName.toList == b.fName.toList && a.fMember.toList == b.fMember.toList
def tagEq (a b:DTagTag):Bool:=a.fKind == b.fKind && a.fName.toList == b.fName.toList
def mapEq (a b:DClsMap):Bool:=a.fAt == b.fAt && eqL tagEq a.fLocals b.fLocals && eqL tagEq a.fStack b.fStack
def mthEq (a b:DClsMethod):Bool:=a.fName.toList == b.fName.toList && sameSig a b && a.fLocals == b.fLocals && a.fStack == b.fStack && eqL insEq a.fCode b.fCode && eqL mapEq a.fMaps b.fMaps
def clsEq (a b:DClsClass):Bool:=a.fName.toList == b.fName.toList && a.fSuper.toList == b.fSuper.toList && eqL fldEq a.fFields b.fFields && eqL mthEq a.fMethods b.fMethods

@[go_sem] theorem eg_tag:Tryz.prog.eqGuardType Tryz.prog.depth 165=false:=by kernel_rfl
@[go_sem] theorem eq_tag (a c:Int) (b d:ByteArray) (w:World):(Op.equalIn 10000 165 (.agg #[.int .i64 a,.string b]) (.agg #[.int .i64 c,.string d])).run Tryz.prog w=.ok (a == c && b.toList == d.toList) w:=by
 have iu3:=Tryz.underlying3
 have ia3:=Tryz.isAgg3
 have iz3:=Tryz.sizeOf3
 have iu9:=Tryz.underlying9
 have ia9:=Tryz.isAgg9
 have iz9:=Tryz.sizeOf9
 have hS:Tryz.prog.underlying 165=some (.struct (Tryz.prog.fieldsOf 165)):=by kernel_rfl
 have hp:Tryz.prog.stoodInHeld 165=false:=by kernel_rfl
 rw[show(10000:Nat)=9999+1 from rfl,run_equalIn_agg w 9999 165 _ _ hS hp]
 simp only[Program.fieldsOf,Tryz.underlying165]
 go_simp
 by_cases h1:a=c<;>by_cases h2:b.toList=d.toList<;>simp[h1,h2]
@[go_sem] theorem eg_ins4:Tryz.prog.eqGuardType Tryz.prog.depth 136=false:=by kernel_rfl
@[go_sem] theorem eq_ins4 (a1 a2 b1 b2:Int) (a3 a4 b3 b4:ByteArray) (w:World):(Op.equalIn 10000 136 (.agg #[.int .i64 a1,.int .i64 a2,.string a3,.string a4]) (.agg #[.int .i64 b1,.int .i64 b2,.string b3,.string b4])).run Tryz.prog w=.ok (a1 == b1 && a2 == b2 && a3.toList == b3.toList && a4.toList == b4.toList) w:=by
 have iu3:=Tryz.underlying3
 have ia3:=Tryz.isAgg3
 have iz3:=Tryz.sizeOf3
 have iu9:=Tryz.underlying9
 have ia9:=Tryz.isAgg9
 have iz9:=Tryz.sizeOf9
 have hS:Tryz.prog.underlying 136=some (.struct (Tryz.prog.fieldsOf 136)):=by kernel_rfl
 have hp:Tryz.prog.stoodInHeld 136=false:=by kernel_rfl
 rw[show(10000:Nat)=9999+1 from rfl,run_equalIn_agg w 9999 136 _ _ hS hp]
 simp only[Program.fieldsOf,Tryz.underlying136]
 go_simp
 by_cases h1:a1=b1<;>by_cases h2:a2=b2<;>by_cases h3:a3.toList=b3.toList<;>by_cases h4:a4.toList=b4.toList<;>simp[h1,h2,h3,h4]
@[go_sem] theorem eg_fld:Tryz.prog.eqGuardType Tryz.prog.depth 61=false:=by kernel_rfl
@[go_sem] theorem eq_fld (a c:ByteArray) (k1 k2:Int) (n1 n2:ByteArray) (w:World):(Op.equalIn 10000 61 (.agg #[.string a,.int .i64 k1,.string n1]) (.agg #[.string c,.int .i64 k2,.string n2])).run Tryz.prog w=.ok (a.toList == c.toList && (k1 == k2 && n1.toList == n2.toList)) w:=by
 have iu3:=Tryz.underlying3
 have ia3:=Tryz.isAgg3
 have iz3:=Tryz.sizeOf3
 have iu9:=Tryz.underlying9
 have ia9:=Tryz.isAgg9
 have iz9:=Tryz.sizeOf9
 have ik:=Tryz.underlying59
 have iak:∀ W:World,(Go.isAgg 59).run Tryz.prog W=.ok true W:=Tryz.isAgg59
 have izk:∀ W:World,(Go.sizeOf 59).run Tryz.prog W=.ok 2 W:=Tryz.sizeOf59
 have hS:Tryz.prog.underlying 61=some (.struct (Tryz.prog.fieldsOf 61)):=by kernel_rfl
 have hp:Tryz.prog.stoodInHeld 61=false:=by kernel_rfl
 have hSk:Tryz.prog.underlying 59=some (.struct (Tryz.prog.fieldsOf 59)):=by kernel_rfl
 have hpk:Tryz.prog.stoodInHeld 59=false:=by kernel_rfl
 have hk:∀ W:World,(Op.equalIn 9999 59 (.agg #[.int .i64 k1,.string n1]) (.agg #[.int .i64 k2,.string n2])).run Tryz.prog W=.ok (k1 == k2 && n1.toList == n2.toList) W:=fun W=>by
  rw[show(9999:Nat)=9998+1 from rfl,run_equalIn_agg W 9998 59 _ _ hSk hpk]
  simp only[Program.fieldsOf,Tryz.underlying59]
  go_simp
  by_cases h1:k1=k2<;>by_cases h2:n1.toList=n2.toList<;>simp[h1,h2]
 rw[show(10000:Nat)=9999+1 from rfl,run_equalIn_agg w 9999 61 _ _ hS hp]
 simp only[Program.fieldsOf,Tryz.underlying61]
 go_simp
 by_cases h1:a.toList=c.toList<;>by_cases h2:k1=k2<;>by_cases h3:n1.toList=n2.toList<;>simp[h1,h2,h3,hk]

theorem I_eqClsFieldS (xs ys:List DClsField) (v1 u1:Value) (w:World) (s1:Sl 3 rClsField 0 w v1 xs) (t1:Sl 3 rClsField 0 w u1 ys) :
  Calls Tryz.prog 101 #[v1,u1] w fun e w'=>e=.returned (.bool (eqL fldEq xs ys))∧Below w.heap.size w w':=by
 obtain⟨a,len,cap,rfl,hl,h1,h2,h3⟩:=id s1
 obtain⟨a',len',cap',rfl,hl',h1',h2',h3'⟩:=id t1
 have m1:len≤9223372036854775807:=by unfold maxLen at h2;omega
 have m1':len'≤9223372036854775807:=by unfold maxLen at h2';omega
 have HL:=qhd hl
 have HL':=qhd hl'
 clear h2 hl h2' hl' h1 h1'
 obtain⟨z,hz⟩:∃ z,z=eqL fldEq xs ys:=⟨_,rfl⟩
 have HZ:=qhd hz
 rw[←hz]
 clear hz
 by_cases hlen:¬len=len'
 ·have RV:Hid (z=false):=qhd (by rw[HZ.out];exact eqL_len (by rw[HL.out,HL'.out];exact hlen))
  have i1:((len:Int) != (len':Int))=true:=by simp;omega
  have i2:¬(len:Int)=(len':Int):=by omega
  refine qac fun R HR=>?_
  go_enter Tryz.func101,Tryz.ntmps101
  go_wp2
  all_goals (try go_returns)
  all_goals exact HR.out _ _ ⟨by rw[RV.out];rfl,bbel⟩
 obtain rfl:len=len':=Decidable.byContradiction hlen
 clear hlen
 refine qac fun R HR=>?_
 go_enter Tryz.func101,Tryz.ntmps101
 go_wp2_with fail
 go_loopw [5,13] (fun _ i wr=>∃ k:Nat,k≤len∧i=.int .i64 k∧EachTo (eqAt fldEq ys) xs k=true∧Below w.heap.size w wr) (fun _ i _=>len-(intOf i).toNat)
 case atStart=>exact⟨0,Nat.zero_le _,rfl,rfl,bbel⟩
 case round=>
  obtain⟨k,hk,rfl,ha,hb⟩:=hrel
  have HA:=qhd ha
  clear ha
  by_cases hlt:k < len
  ·obtain⟨b,off,rfl,_,_,hr⟩:=h3.stays qah (Keeps.of_below hb) (by omega)
   obtain⟨b',off',rfl,_,_,hr'⟩:=h3'.stays qah (Keeps.of_below hb) (by omega)
   obtain⟨x,cs,e0,_,e1,e4⟩:=hr k hlt
   obtain⟨y,cs',f0,_,f1,f4⟩:=hr' k hlt
   obtain⟨rfl,_⟩:=e4
   obtain⟨rfl,_⟩:=f4
   have q0:wr.cell? ⟨b,off+k * 3,none⟩=some (.string x.fName):=e1 0 _ rfl
   have p0:wr.cell? ⟨b',off'+k * 3,none⟩=some (.string y.fName):=f1 0 _ rfl
   have q1:wr.cell? ⟨b,off+k * 3+1,none⟩=some (.int .i64 x.fKind.fKind):=e1 1 _ rfl
   have p1:wr.cell? ⟨b',off'+k * 3+1,none⟩=some (.int .i64 y.fKind.fKind):=f1 1 _ rfl
   have q2:wr.cell? ⟨b,off+k * 3+2,none⟩=some (.string x.fKind.fName):=e1 2 _ rfl
   have p2:wr.cell? ⟨b',off'+k * 3+2,none⟩=some (.string y.fKind.fName):=f1 2 _ rfl
   have E0:=qhd e0
   have F0:=qhd f0
   clear e0 e1 f0 f1 hr hr'
   obtain⟨q,hq⟩:∃ q,q=fldEq x y:=⟨_,rfl⟩
   have bo:∀ W,(binOp .neq 61 (.agg #[.string x.fName,.int .i64 x.fKind.fKind,.string x.fKind.fName]) (.agg #[.string y.fName,.int .i64 y.fKind.fKind,.string y.fKind.fName])).run Tryz.prog W=.ok (.bool !q) W:=fun W=>by
    rw[hq]
    simp only[run_neq_struct,eq_fld]
    try simp[Result.andThen,fldEq,kndEq]
   have HQ:=qhd hq
   clear hq
   cases q
   ·have RV:Hid (z=false):=qhd (by rw[HZ.out];exact eqL_stop (qao E0.out (by unfold eqAt;rw[F0.out];exact HQ.out.symm)))
    go_wp2_with fail
    go_region
    go_wp2
    all_goals (try go_returns)
    all_goals exact HR.out _ _ ⟨by first|(rw[RV.out];done)|(rw[RV.out];rfl),bbel⟩
   ·go_wp2_with fail
    go_region
    go_wp2
    go_roundw
    case measure=>simp[intOf];omega
    case rel=>exact⟨k+1,by omega,by go_num,EachTo.step HA.out E0.out (by unfold eqAt;rw[F0.out];exact HQ.out.symm),bbel⟩
  ·obtain rfl:k=len:=by omega
   have RV:Hid (z=true):=qhd (by rw[HZ.out];exact eqL_done (HL.out.trans HL'.out.symm) (qaz HA.out HL.out))
   go_wp2
   all_goals (try go_returns)
   all_goals exact HR.out _ _ ⟨by rw[RV.out];rfl,bbel⟩

theorem I_eqClsInsS (xs ys:List DClsIns) (v1 u1:Value) (w:World) (s1:Sl 4 rClsIns 0 w v1 xs) (t1:Sl 4 rClsIns 0 w u1 ys) :
  Calls Tryz.prog 133 #[v1,u1] w fun e w'=>e=.returned (.bool (eqL insEq xs ys))∧Below w.heap.size w w':=by
 obtain⟨a,len,cap,rfl,hl,h1,h2,h3⟩:=id s1
 obtain⟨a',len',cap',rfl,hl',h1',h2',h3'⟩:=id t1
 have m1:len≤9223372036854775807:=by unfold maxLen at h2;omega
 have m1':len'≤9223372036854775807:=by unfold maxLen at h2';omega
 have HL:=qhd hl
 have HL':=qhd hl'
 clear h2 hl h2' hl' h1 h1'
 obtain⟨z,hz⟩:∃ z,z=eqL insEq xs ys:=⟨_,rfl⟩
 have HZ:=qhd hz
 rw[←hz]
 clear hz
 by_cases hlen:¬len=len'
 ·have RV:Hid (z=false):=qhd (by rw[HZ.out];exact eqL_len (by rw[HL.out,HL'.out];exact hlen))
  have i1:((len:Int) != (len':Int))=true:=by simp;omega
  have i2:¬(len:Int)=(len':Int):=by omega
  refine qac fun R HR=>?_
  go_enter Tryz.func133,Tryz.ntmps133
  go_wp2
  all_goals (try go_returns)
  all_goals exact HR.out _ _ ⟨by rw[RV.out];rfl,bbel⟩
 obtain rfl:len=len':=Decidable.byContradiction hlen
 clear hlen
 refine qac fun R HR=>?_
 go_enter Tryz.func133,Tryz.ntmps133
 go_wp2_with fail
 go_loopw [5,13] (fun _ i wr=>∃ k:Nat,k≤len∧i=.int .i64 k∧EachTo (eqAt insEq ys) xs k=true∧Below w.heap.size w wr) (fun _ i _=>len-(intOf i).toNat)
 case atStart=>exact⟨0,Nat.zero_le _,rfl,rfl,bbel⟩
 case round=>
  obtain⟨k,hk,rfl,ha,hb⟩:=hrel
  have HA:=qhd ha
  clear ha
  by_cases hlt:k < len
  ·obtain⟨b,off,rfl,_,_,hr⟩:=h3.stays qaw (Keeps.of_below hb) (by omega)
   obtain⟨b',off',rfl,_,_,hr'⟩:=h3'.stays qaw (Keeps.of_below hb) (by omega)
   obtain⟨x,cs,e0,_,e1,e4⟩:=hr k hlt
   obtain⟨y,cs',f0,_,f1,f4⟩:=hr' k hlt
   obtain⟨rfl,_⟩:=e4
   obtain⟨rfl,_⟩:=f4
   have q0:wr.cell? ⟨b,off+k * 4,none⟩=some (.int .i64 x.fOp):=e1 0 _ rfl
   have p0:wr.cell? ⟨b',off'+k * 4,none⟩=some (.int .i64 y.fOp):=f1 0 _ rfl
   have q1:wr.cell? ⟨b,off+k * 4+1,none⟩=some (.int .i64 x.fA):=e1 1 _ rfl
   have p1:wr.cell? ⟨b',off'+k * 4+1,none⟩=some (.int .i64 y.fA):=f1 1 _ rfl
   have q2:wr.cell? ⟨b,off+k * 4+2,none⟩=some (.string x.fName):=e1 2 _ rfl
   have p2:wr.cell? ⟨b',off'+k * 4+2,none⟩=some (.string y.fName):=f1 2 _ rfl
   have q3:wr.cell? ⟨b,off+k * 4+3,none⟩=some (.string x.fMember):=e1 3 _ rfl
   have p3:wr.cell? ⟨b',off'+k * 4+3,none⟩=some (.string y.fMember):=f1 3 _ rfl
   have E0:=qhd e0
   have F0:=qhd f0
   clear e0 e1 f0 f1 hr hr'
   obtain⟨q,hq⟩:∃ q,q=insEq x y:=⟨_,rfl⟩
   have bo:∀ W,(binOp .neq 136 (.agg #[.int .i64 x.fOp,.int .i64 x.fA,.string x.fName,.string x.fMember]) (.agg #[.int .i64 y.fOp,.int .i64 y.fA,.string y.fName,.string y.fMember])).run Tryz.prog W=.ok (.bool !q) W:=fun W=>by
    rw[hq]
    simp only[run_neq_struct,eq_ins4]
    try simp[Result.andThen,insEq,kndEq]
   have HQ:=qhd hq
   clear hq
   cases q
   ·have RV:Hid (z=false):=qhd (by rw[HZ.out];exact eqL_stop (qao E0.out (by unfold eqAt;rw[F0.out];exact HQ.out.symm)))
    go_wp2_with fail
    go_region
    go_wp2
    all_goals (try go_returns)
    all_goals exact HR.out _ _ ⟨by first|(rw[RV.out];done)|(rw[RV.out];rfl),bbel⟩
   ·go_wp2_with fail
    go_region
    go_wp2
    go_roundw
    case measure=>simp[intOf];omega
    case rel=>exact⟨k+1,by omega,by go_num,EachTo.step HA.out E0.out (by unfold eqAt;rw[F0.out];exact HQ.out.symm),bbel⟩
  ·obtain rfl:k=len:=by omega
   have RV:Hid (z=true):=qhd (by rw[HZ.out];exact eqL_done (HL.out.trans HL'.out.symm) (qaz HA.out HL.out))
   go_wp2
   all_goals (try go_returns)
   all_goals exact HR.out _ _ ⟨by rw[RV.out];rfl,bbel⟩

theorem I_eqTagTagS (xs ys:List DTagTag) (v1 u1:Value) (w:World) (s1:Sl 2 rTagTag 0 w v1 xs) (t1:Sl 2 rTagTag 0 w u1 ys) :
  Calls Tryz.prog 158 #[v1,u1] w fun e w'=>e=.returned (.bool (eqL tagEq xs ys))∧Below w.heap.size w w':=by
 obtain⟨a,len,cap,rfl,hl,h1,h2,h3⟩:=id s1
 obtain⟨a',len',cap',rfl,hl',h1',h2',h3'⟩:=id t1
 have m1:len≤9223372036854775807:=by unfold maxLen at h2;omega
 have m1':len'≤9223372036854775807:=by unfold maxLen at h2';omega
 have HL:=qhd hl
 have HL':=qhd hl'
 clear h2 hl h2' hl' h1 h1'
 obtain⟨z,hz⟩:∃ z,z=eqL tagEq xs ys:=⟨_,rfl⟩
 have HZ:=qhd hz
 rw[←hz]
 clear hz
 by_cases hlen:¬len=len'
 ·have RV:Hid (z=false):=qhd (by rw[HZ.out];exact eqL_len (by rw[HL.out,HL'.out];exact hlen))
  have i1:((len:Int) != (len':Int))=true:=by simp;omega
  have i2:¬(len:Int)=(len':Int):=by omega
  refine qac fun R HR=>?_
  go_enter Tryz.func158,Tryz.ntmps158
  go_wp2
  all_goals (try go_returns)
  all_goals exact HR.out _ _ ⟨by rw[RV.out];rfl,bbel⟩
 obtain rfl:len=len':=Decidable.byContradiction hlen
 clear hlen
 refine qac fun R HR=>?_
 go_enter Tryz.func158,Tryz.ntmps158
 go_wp2_with fail
 go_loopw [5,13] (fun _ i wr=>∃ k:Nat,k≤len∧i=.int .i64 k∧EachTo (eqAt tagEq ys) xs k=true∧Below w.heap.size w wr) (fun _ i _=>len-(intOf i).toNat)
 case atStart=>exact⟨0,Nat.zero_le _,rfl,rfl,bbel⟩
 case round=>
  obtain⟨k,hk,rfl,ha,hb⟩:=hrel
  have HA:=qhd ha
  clear ha
  by_cases hlt:k < len
  ·obtain⟨b,off,rfl,_,_,hr⟩:=h3.stays qat (Keeps.of_below hb) (by omega)
   obtain⟨b',off',rfl,_,_,hr'⟩:=h3'.stays qat (Keeps.of_below hb) (by omega)
   obtain⟨x,cs,e0,_,e1,e4⟩:=hr k hlt
   obtain⟨y,cs',f0,_,f1,f4⟩:=hr' k hlt
   obtain⟨rfl,_⟩:=e4
   obtain⟨rfl,_⟩:=f4
   have q0:wr.cell? ⟨b,off+k * 2,none⟩=some (.int .i64 x.fKind):=e1 0 _ rfl
   have p0:wr.cell? ⟨b',off'+k * 2,none⟩=some (.int .i64 y.fKind):=f1 0 _ rfl
   have q1:wr.cell? ⟨b,off+k * 2+1,none⟩=some (.string x.fName):=e1 1 _ rfl
   have p1:wr.cell? ⟨b',off'+k * 2+1,none⟩=some (.string y.fName):=f1 1 _ rfl
   have E0:=qhd e0
   have F0:=qhd f0
   clear e0 e1 f0 f1 hr hr'
   obtain⟨q,hq⟩:∃ q,q=tagEq x y:=⟨_,rfl⟩
   have bo:∀ W,(binOp .neq 165 (.agg #[.int .i64 x.fKind,.string x.fName]) (.agg #[.int .i64 y.fKind,.string y.fName])).run Tryz.prog W=.ok (.bool !q) W:=fun W=>by
    rw[hq]
    simp only[run_neq_struct,eq_tag]
    try simp[Result.andThen,tagEq,kndEq]
   have HQ:=qhd hq
   clear hq
   cases q
   ·have RV:Hid (z=false):=qhd (by rw[HZ.out];exact eqL_stop (qao E0.out (by unfold eqAt;rw[F0.out];exact HQ.out.symm)))
    go_wp2_with fail
    go_region
    go_wp2
    all_goals (try go_returns)
    all_goals exact HR.out _ _ ⟨by first|(rw[RV.out];done)|(rw[RV.out];rfl),bbel⟩
   ·go_wp2_with fail
    go_region
    go_wp2
    go_roundw
    case measure=>simp[intOf];omega
    case rel=>exact⟨k+1,by omega,by go_num,EachTo.step HA.out E0.out (by unfold eqAt;rw[F0.out];exact HQ.out.symm),bbel⟩
  ·obtain rfl:k=len:=by omega
   have RV:Hid (z=true):=qhd (by rw[HZ.out];exact eqL_done (HL.out.trans HL'.out.symm) (qaz HA.out HL.out))
   go_wp2
   all_goals (try go_returns)
   all_goals exact HR.out _ _ ⟨by rw[RV.out];rfl,bbel⟩

theorem I_sameMap (x y:DClsMap) (v1 v2 u1 u2:Value) (w:World) (s1:Sl 2 rTagTag 0 w v1 x.fLocals) (s2:Sl 2 rTagTag 0 w v2 x.fStack) (t1:Sl 2 rTagTag 0 w u1 y.fLocals) (t2:Sl 2 rTagTag 0 w u2 y.fStack) :
  Calls Tryz.prog 135 #[.agg #[.int .i64 x.fAt,v1,v2],.agg #[.int .i64 y.fAt,u1,u2]] w fun e w'=>e=.returned (.bool (mapEq x y))∧Below w.heap.size w w':=by
 obtain⟨a1,l1,c1,rfl⟩:=s1.form
 obtain⟨a2,l2,c2,rfl⟩:=s2.form
 obtain⟨b1,m1,d1,rfl⟩:=t1.form
 obtain⟨b2,m2,d2,rfl⟩:=t2.form
 obtain⟨z,hz⟩:∃ z,z=mapEq x y:=⟨_,rfl⟩
 obtain⟨qa,hqa⟩:∃ q,q=eqL tagEq x.fLocals y.fLocals:=⟨_,rfl⟩
 obtain⟨qb,hqb⟩:∃ q,q=eqL tagEq x.fStack y.fStack:=⟨_,rfl⟩
 have CA:∀ W,Below w.heap.size w W→Calls Tryz.prog 158 #[.slice a1 l1 c1,.slice b1 m1 d1] W fun e w'=>e=.returned (.bool qa)∧Below W.heap.size W w':=fun W hW=>by
  rw[hqa];exact I_eqTagTagS _ _ _ _ W (s1.stays qat (Keeps.of_below hW)) (t1.stays qat (Keeps.of_below hW))
 have CB:∀ W,Below w.heap.size w W→Calls Tryz.prog 158 #[.slice a2 l2 c2,.slice b2 m2 d2] W fun e w'=>e=.returned (.bool qb)∧Below W.heap.size W w':=fun W hW=>by
  rw[hqb];exact I_eqTagTagS _ _ _ _ W (s2.stays qat (Keeps.of_below hW)) (t2.stays qat (Keeps.of_below hW))
 have HZ:Hid (z=(x.fAt == y.fAt && qa && qb)):=qhd (by rw[hz,hqa,hqb];rfl)
 rw[←hz]
 clear hz hqa hqb s1 s2 t1 t2
 refine qac fun R HR=>?_
 go_enter Tryz.func135,Tryz.ntmps135
 by_cases hat:x.fAt=y.fAt
 rotate_left
 ·have i1:(x.fAt == y.fAt)=false:=by simpa using hat
  have RV:Hid (z=false):=qhd (by rw[HZ.out];simp[i1])
  (go_wp2;(all_goals (try go_returns));(all_goals exact HR.out _ _ ⟨by first|(rw[RV.out];done)|(rw[RV.out];rfl),bbel⟩))
 have i1:(x.fAt == y.fAt)=true:=by simpa using hat
 rw[i1] at HZ
 clear hat
 go_wp2_with fail
 (with_reducible refine(CA _ (bbel)).mono ?_)
 rintro _ w1 ⟨rfl,g1⟩
 have g1s:=(g1).size;(try simp only[qsz] at g1s)
 obtain⟨g1ad,g1ao,g1ag,g1ap,g1ax,g1ay,g1ac1,g1af1,g1az1⟩:=bf2 (n:=w.heap.size) g1
 clear g1ao g1ap
 cases qa
 ·have RV:Hid (z=false):=qhd (by rw[HZ.out];rfl)
  (go_wp2;(all_goals (try go_returns));(all_goals exact HR.out _ _ ⟨by first|(rw[RV.out];done)|(rw[RV.out];rfl),bbel⟩))
 go_wp2_with fail
 (with_reducible refine(CB _ (bbel)).mono ?_)
 rintro _ w2 ⟨rfl,g2⟩
 have g2s:=(g2).size;(try simp only[qsz] at g2s)
 obtain⟨g2ad,g2ao,g2ag,g2ap,g2ax,g2ay,g2ac1,g2af1,g2az1⟩:=bf2 (n:=w.heap.size) g2
 clear g2ao g2ap
 have RV:Hid (z=qb):=qhd (by rw[HZ.out];simp)
 go_wp2
 (all_goals (try go_returns));(all_goals exact HR.out _ _ ⟨by first|(rw[RV.out];done)|(rw[RV.out];rfl),bbel⟩)

theorem I_eqMaps (xs ys:List DClsMap) (v1 u1:Value) (w:World) (s1:Sl 3 rClsMap 0 w v1 xs) (t1:Sl 3 rClsMap 0 w u1 ys) :
  Calls Tryz.prog 134 #[v1,u1,.func (.func 135) #[] #[]] w fun e w'=>e=.returned (.bool (eqL mapEq xs ys))∧Below w.heap.size w w':=by
 obtain⟨a,len,cap,rfl,hl,h1,h2,h3⟩:=id s1
 obtain⟨a',len',cap',rfl,hl',h1',h2',h3'⟩:=id t1
 have m1:len≤9223372036854775807:=by unfold maxLen at h2;omega
 have m1':len'≤9223372036854775807:=by unfold maxLen at h2';omega
 have HL:=qhd hl
 have HL':=qhd hl'
 clear h2 hl h2' hl' h1 h1'
 obtain⟨z,hz⟩:∃ z,z=eqL mapEq xs ys:=⟨_,rfl⟩
 have HZ:=qhd hz
 rw[←hz]
 clear hz
 by_cases hlen:¬len=len'
 ·have RV:Hid (z=false):=qhd (by rw[HZ.out];exact eqL_len (by rw[HL.out,HL'.out];exact hlen))
  have i1:((len:Int) != (len':Int))=true:=by simp;omega
  have i2:¬(len:Int)=(len':Int):=by omega
  refine qac fun R HR=>?_
  go_enter Tryz.func134,Tryz.ntmps134
  go_wp2
  (all_goals (try go_returns));(all_goals exact HR.out _ _ ⟨by first|(rw[RV.out];done)|(rw[RV.out];rfl),bbel⟩)
 obtain rfl:len=len':=Decidable.byContradiction hlen
 clear hlen
 refine qac fun R HR=>?_
 go_enter Tryz.func134,Tryz.ntmps134
 go_wp2_with fail
 go_loopw [17] (fun i wr=>∃ k:Nat,k≤len∧i=.int .i64 k∧EachTo (eqAt mapEq ys) xs k=true∧Below w.heap.size w wr) (fun i _=>len-(intOf i).toNat)
 case atStart=>exact⟨0,Nat.zero_le _,rfl,rfl,bbel⟩
 case round=>
  obtain⟨k,hk,rfl,ha,hb⟩:=hrel
  have HA:=qhd ha
  clear ha
  have hbx:=hb.size
  by_cases hlt:k < len
  ·obtain⟨b,off,rfl,_,_,hr⟩:=h3.stays qax (Keeps.of_below hb) (by omega)
   obtain⟨b',off',rfl,_,_,hr'⟩:=h3'.stays qax (Keeps.of_below hb) (by omega)
   obtain⟨x,cs,e0,_,e1,e4⟩:=hr k hlt
   obtain⟨y,cs',f0,_,f1,f4⟩:=hr' k hlt
   obtain⟨x1,x2,rfl,p1,p2⟩:=e4
   obtain⟨y1,y2,rfl,o1,o2⟩:=f4
   obtain⟨a1,l1,c1,rfl⟩:=p1.form
   obtain⟨a2,l2,c2,rfl⟩:=p2.form
   obtain⟨b1,n1,d1,rfl⟩:=o1.form
   obtain⟨b2,n2,d2,rfl⟩:=o2.form
   have q0:wr.cell? ⟨b,off+k * 3,none⟩=some (.int .i64 x.fAt):=e1 0 _ rfl
   have q1:wr.cell? ⟨b,off+k * 3+1,none⟩=some (.slice a1 l1 c1):=e1 1 _ rfl
   have q2:wr.cell? ⟨b,off+k * 3+2,none⟩=some (.slice a2 l2 c2):=e1 2 _ rfl
   have r0:wr.cell? ⟨b',off'+k * 3,none⟩=some (.int .i64 y.fAt):=f1 0 _ rfl
   have r1:wr.cell? ⟨b',off'+k * 3+1,none⟩=some (.slice b1 n1 d1):=f1 1 _ rfl
   have r2:wr.cell? ⟨b',off'+k * 3+2,none⟩=some (.slice b2 n2 d2):=f1 2 _ rfl
   have E0:=qhd e0
   have F0:=qhd f0
   obtain⟨q,hq⟩:∃ q,q=mapEq x y:=⟨_,rfl⟩
   have CM:∀ W,Below wr.heap.size wr W→Calls Tryz.prog 135 #[.agg #[.int .i64 x.fAt,.slice a1 l1 c1,.slice a2 l2 c2],.agg #[.int .i64 y.fAt,.slice b1 n1 d1,.slice b2 n2 d2]] W fun e w'=>e=.returned (.bool q)∧Below W.heap.size W w':=fun W hW=>by
    have hk:=Keeps.of_below (lo:=0) hW
    rw[hq];exact I_sameMap x y _ _ _ _ W (p1.stays qat hk) (p2.stays qat hk) (o1.stays qat hk) (o2.stays qat hk)
   have HQ:=qhd hq
   clear e0 e1 f0 f1 hr hr' hq p1 p2 o1 o2
   go_wp2_with fail
   refine(CM _ (bbel)).mono ?_
   rintro _ wA ⟨rfl,hA⟩
   have hAs:=(hA).size;(try simp only[qsz] at hAs)
   have hE:Below w.heap.size w wA:=bbel
   clear q0 q1 q2 r0 r1 r2
   cases q
   ·have RV:Hid (z=false):=qhd (by rw[HZ.out];exact eqL_stop (qao E0.out (by unfold eqAt;rw[F0.out];exact HQ.out.symm)))
    go_wp2
    all_goals (try go_returns)
    all_goals exact HR.out _ _ ⟨by rw[RV.out];rfl,hE⟩
   ·go_wp2
    go_roundw
    case measure=>simp[intOf];omega
    case rel=>exact⟨k+1,by omega,by go_num,EachTo.step HA.out E0.out (by unfold eqAt;rw[F0.out];exact HQ.out.symm),hE⟩
  ·obtain rfl:k=len:=by omega
   have RV:Hid (z=true):=qhd (by rw[HZ.out];exact eqL_done (HL.out.trans HL'.out.symm) (qaz HA.out HL.out))
   go_wp2
   (all_goals (try go_returns));(all_goals exact HR.out _ _ ⟨by first|(rw[RV.out];done)|(rw[RV.out];rfl),bbel⟩)

theorem I_sameMethod (x y:DClsMethod) (v1 v2 v3 u1 u2 u3:Value) (w:World) (s1:Sl 2 rKndKind 0 w v1 x.fArgs) (s2:Sl 4 rClsIns 0 w v2 x.fCode) (s3:Sl 3 rClsMap 0 w v3 x.fMaps) (t1:Sl 2 rKndKind 0 w u1 y.fArgs) (t2:Sl 4 rClsIns 0 w u2 y.fCode) (t3:Sl 3 rClsMap 0 w u3 y.fMaps) :
  Calls Tryz.prog 103 #[.agg #[.string x.fName,v1,.int .i64 x.fRet.fKind,.string x.fRet.fName,.int .i64 x.fLocals,.int .i64 x.fStack,v2,v3],.agg #[.string y.fName,u1,.int .i64 y.fRet.fKind,.string y.fRet.fName,.int .i64 y.fLocals,.int .i64 y.fStack,u2,u3]] w fun e w'=>e=.returned (.bool (mthEq x y))∧Below w.heap.size w w':=by
 obtain⟨a1,l1,c1,rfl⟩:=s1.form
 obtain⟨a2,l2,c2,rfl⟩:=s2.form
 obtain⟨a3,l3,c3,rfl⟩:=s3.form
 obtain⟨b1,m1,d1,rfl⟩:=t1.form
 obtain⟨b2,m2,d2,rfl⟩:=t2.form
 obtain⟨b3,m3,d3,rfl⟩:=t3.form
 obtain⟨z,hz⟩:∃ z,z=mthEq x y:=⟨_,rfl⟩
 obtain⟨qa,hqa⟩:∃ q,q=sameArgs x.fArgs y.fArgs:=⟨_,rfl⟩
 obtain⟨qb,hqb⟩:∃ q,q=eqL insEq x.fCode y.fCode:=⟨_,rfl⟩
 obtain⟨qc,hqc⟩:∃ q,q=eqL mapEq x.fMaps y.fMaps:=⟨_,rfl⟩
 obtain⟨qn,hqn⟩:∃ q,q=(x.fName.toList == y.fName.toList):=⟨_,rfl⟩
 obtain⟨qr,hqr⟩:∃ q,q=kndEq x.fRet y.fRet:=⟨_,rfl⟩
 obtain⟨ql,hql⟩:∃ q,q=(x.fLocals == y.fLocals):=⟨_,rfl⟩
 obtain⟨qs,hqs⟩:∃ q,q=(x.fStack == y.fStack):=⟨_,rfl⟩
 have CA:∀ W,Below w.heap.size w W→Calls Tryz.prog 132 #[.slice a1 l1 c1,.slice b1 m1 d1] W fun e w'=>e=.returned (.bool qa)∧Below W.heap.size W w':=fun W hW=>by
  rw[hqa];exact I_eqKnds _ _ _ _ W (s1.stays qau (Keeps.of_below hW)) (t1.stays qau (Keeps.of_below hW))
 have CB:∀ W,Below w.heap.size w W→Calls Tryz.prog 133 #[.slice a2 l2 c2,.slice b2 m2 d2] W fun e w'=>e=.returned (.bool qb)∧Below W.heap.size W w':=fun W hW=>by
  rw[hqb];exact I_eqClsInsS _ _ _ _ W (s2.stays qaw (Keeps.of_below hW)) (t2.stays qaw (Keeps.of_below hW))
 have CC:∀ W,Below w.heap.size w W→Calls Tryz.prog 134 #[.slice a3 l3 c3,.slice b3 m3 d3,.func (.func 135) #[] #[]] W fun e w'=>e=.returned (.bool qc)∧Below W.heap.size W w':=fun W hW=>by
  rw[hqc];exact I_eqMaps _ _ _ _ W (s3.stays qax (Keeps.of_below hW)) (t3.stays qax (Keeps.of_below hW))
 have bo:∀ W,(binOp .eql 59 (.agg #[.int .i64 x.fRet.fKind,.string x.fRet.fName]) (.agg #[.int .i64 y.fRet.fKind,.string y.fRet.fName])).run Tryz.prog W=.ok (.bool qr) W:=fun W=>by
  rw[hqr]
  simp only[run_eql_struct,eq_knd]
  try simp[kndEq]
 have HZ:Hid (z=(qn && (qr && qa) && ql && qs && qb && qc)):=qhd (by rw[hz,hqa,hqb,hqc,hqn,hqr,hql,hqs];rfl)
 rw[←hz]
 replace hqn:=hqn.symm
 replace hql:=hql.symm
 replace hqs:=hqs.symm
 clear hz hqa hqb hqc hqr s1 s2 s3 t1 t2 t3
 refine qac fun R HR=>?_
 go_enter Tryz.func103,Tryz.ntmps103
 cases qn
 ·have RV:Hid (z=false):=qhd (by rw[HZ.out];rfl)
  (go_wp2;(all_goals (try go_returns));(all_goals exact HR.out _ _ ⟨by first|(rw[RV.out];done)|(rw[RV.out];rfl),bbel⟩))
 cases qr
 ·have RV:Hid (z=false):=qhd (by rw[HZ.out];rfl)
  (go_wp2;(all_goals (try go_returns));(all_goals exact HR.out _ _ ⟨by first|(rw[RV.out];done)|(rw[RV.out];rfl),bbel⟩))
 cases ql
 ·have RV:Hid (z=false):=qhd (by rw[HZ.out];simp)
  (go_wp2;(all_goals (try go_returns));(all_goals exact HR.out _ _ ⟨by first|(rw[RV.out];done)|(rw[RV.out];rfl),bbel⟩))
 cases qs
 ·have RV:Hid (z=false):=qhd (by rw[HZ.out];simp)
  (go_wp2;(all_goals (try go_returns));(all_goals exact HR.out _ _ ⟨by first|(rw[RV.out];done)|(rw[RV.out];rfl),bbel⟩))
 go_wp2_with fail
 (with_reducible refine(CA _ (bbel)).mono ?_)
 rintro _ w1 ⟨rfl,g1⟩
 have g1s:=(g1).size;(try simp only[qsz] at g1s)
 obtain⟨g1ad,g1ao,g1ag,g1ap,g1ax,g1ay,g1ac1,g1af1,g1az1⟩:=bf2 (n:=w.heap.size) g1
 clear g1ao g1ap
 cases qa
 ·have RV:Hid (z=false):=qhd (by rw[HZ.out];simp)
  (go_wp2;(all_goals (try go_returns));(all_goals exact HR.out _ _ ⟨by first|(rw[RV.out];done)|(rw[RV.out];rfl),bbel⟩))
 go_wp2_with fail
 (with_reducible refine(CB _ (bbel)).mono ?_)
 rintro _ w2 ⟨rfl,g2⟩
 have g2s:=(g2).size;(try simp only[qsz] at g2s)
 obtain⟨g2ad,g2ao,g2ag,g2ap,g2ax,g2ay,g2ac1,g2af1,g2az1⟩:=bf2 (n:=w.heap.size) g2
 clear g2ao g2ap
 cases qb
 ·have RV:Hid (z=false):=qhd (by rw[HZ.out];simp)
  (go_wp2;(all_goals (try go_returns));(all_goals exact HR.out _ _ ⟨by first|(rw[RV.out];done)|(rw[RV.out];rfl),bbel⟩))
 go_wp2_with fail
 (with_reducible refine(CC _ (bbel)).mono ?_)
 rintro _ w3 ⟨rfl,g3⟩
 have g3s:=(g3).size;(try simp only[qsz] at g3s)
 obtain⟨g3ad,g3ao,g3ag,g3ap,g3ax,g3ay,g3ac1,g3af1,g3az1⟩:=bf2 (n:=w.heap.size) g3
 clear g3ao g3ap
 have RV:Hid (z=qc):=qhd (by rw[HZ.out];simp)
 go_wp2
 (all_goals (try go_returns));(all_goals exact HR.out _ _ ⟨by first|(rw[RV.out];done)|(rw[RV.out];rfl),bbel⟩)

theorem I_eqMths (xs ys:List DClsMethod) (v1 u1:Value) (w:World) (s1:Sl 8 rClsMethod 0 w v1 xs) (t1:Sl 8 rClsMethod 0 w u1 ys) :
  Calls Tryz.prog 102 #[v1,u1,.func (.func 103) #[] #[]] w fun e w'=>e=.returned (.bool (eqL mthEq xs ys))∧Below w.heap.size w w':=by
 obtain⟨a,len,cap,rfl,hl,h1,h2,h3⟩:=id s1
 obtain⟨a',len',cap',rfl,hl',h1',h2',h3'⟩:=id t1
 have m1:len≤9223372036854775807:=by unfold maxLen at h2;omega
 have m1':len'≤9223372036854775807:=by unfold maxLen at h2';omega
 have HL:=qhd hl
 have HL':=qhd hl'
 clear h2 hl h2' hl' h1 h1'
 obtain⟨z,hz⟩:∃ z,z=eqL mthEq xs ys:=⟨_,rfl⟩
 have HZ:=qhd hz
 rw[←hz]
 clear hz
 by_cases hlen:¬len=len'
 ·have RV:Hid (z=false):=qhd (by rw[HZ.out];exact eqL_len (by rw[HL.out,HL'.out];exact hlen))
  have i1:((len:Int) != (len':Int))=true:=by simp;omega
  have i2:¬(len:Int)=(len':Int):=by omega
  refine qac fun R HR=>?_
  go_enter Tryz.func102,Tryz.ntmps102
  go_wp2
  (all_goals (try go_returns));(all_goals exact HR.out _ _ ⟨by first|(rw[RV.out];done)|(rw[RV.out];rfl),bbel⟩)
 obtain rfl:len=len':=Decidable.byContradiction hlen
 clear hlen
 refine qac fun R HR=>?_
 go_enter Tryz.func102,Tryz.ntmps102
 go_wp2_with fail
 go_loopw [17] (fun i wr=>∃ k:Nat,k≤len∧i=.int .i64 k∧EachTo (eqAt mthEq ys) xs k=true∧Below w.heap.size w wr) (fun i _=>len-(intOf i).toNat)
 case atStart=>exact⟨0,Nat.zero_le _,rfl,rfl,bbel⟩
 case round=>
  obtain⟨k,hk,rfl,ha,hb⟩:=hrel
  have HA:=qhd ha
  clear ha
  have hbx:=hb.size
  by_cases hlt:k < len
  ·obtain⟨b,off,rfl,_,_,hr⟩:=h3.stays qag (Keeps.of_below hb) (by omega)
   obtain⟨b',off',rfl,_,_,hr'⟩:=h3'.stays qag (Keeps.of_below hb) (by omega)
   obtain⟨x,cs,e0,_,e1,e4⟩:=hr k hlt
   obtain⟨y,cs',f0,_,f1,f4⟩:=hr' k hlt
   obtain⟨x1,x2,x3,rfl,p1,p2,p3,_,_⟩:=e4
   obtain⟨y1,y2,y3,rfl,o1,o2,o3,_,_⟩:=f4
   obtain⟨a1,l1,c1,rfl⟩:=p1.form
   obtain⟨a2,l2,c2,rfl⟩:=p2.form
   obtain⟨a3,l3,c3,rfl⟩:=p3.form
   obtain⟨b1,n1,d1,rfl⟩:=o1.form
   obtain⟨b2,n2,d2,rfl⟩:=o2.form
   obtain⟨b3,n3,d3,rfl⟩:=o3.form
   have q0:wr.cell? ⟨b,off+k * 8,none⟩=some (.string x.fName):=e1 0 _ rfl
   have q1:wr.cell? ⟨b,off+k * 8+1,none⟩=some (.slice a1 l1 c1):=e1 1 _ rfl
   have q2:wr.cell? ⟨b,off+k * 8+2,none⟩=some (.int .i64 x.fRet.fKind):=e1 2 _ rfl
   have q3:wr.cell? ⟨b,off+k * 8+3,none⟩=some (.string x.fRet.fName):=e1 3 _ rfl
   have q4:wr.cell? ⟨b,off+k * 8+4,none⟩=some (.int .i64 x.fLocals):=e1 4 _ rfl
   have q5:wr.cell? ⟨b,off+k * 8+5,none⟩=some (.int .i64 x.fStack):=e1 5 _ rfl
   have q6:wr.cell? ⟨b,off+k * 8+6,none⟩=some (.slice a2 l2 c2):=e1 6 _ rfl
   have q7:wr.cell? ⟨b,off+k * 8+7,none⟩=some (.slice a3 l3 c3):=e1 7 _ rfl
   have r0:wr.cell? ⟨b',off'+k * 8,none⟩=some (.string y.fName):=f1 0 _ rfl
   have r1:wr.cell? ⟨b',off'+k * 8+1,none⟩=some (.slice b1 n1 d1):=f1 1 _ rfl
   have r2:wr.cell? ⟨b',off'+k * 8+2,none⟩=some (.int .i64 y.fRet.fKind):=f1 2 _ rfl
   have r3:wr.cell? ⟨b',off'+k * 8+3,none⟩=some (.string y.fRet.fName):=f1 3 _ rfl
   have r4:wr.cell? ⟨b',off'+k * 8+4,none⟩=some (.int .i64 y.fLocals):=f1 4 _ rfl
   have r5:wr.cell? ⟨b',off'+k * 8+5,none⟩=some (.int .i64 y.fStack):=f1 5 _ rfl
   have r6:wr.cell? ⟨b',off'+k * 8+6,none⟩=some (.slice b2 n2 d2):=f1 6 _ rfl
   have r7:wr.cell? ⟨b',off'+k * 8+7,none⟩=some (.slice b3 n3 d3):=f1 7 _ rfl
   have E0:=qhd e0
   have F0:=qhd f0
   obtain⟨q,hq⟩:∃ q,q=mthEq x y:=⟨_,rfl⟩
   have CM:∀ W,Below wr.heap.size wr W→Calls Tryz.prog 103 #[.agg #[.string x.fName,.slice a1 l1 c1,.int .i64 x.fRet.fKind,.string x.fRet.fName,.int .i64 x.fLocals,.int .i64 x.fStack,.slice a2 l2 c2,.slice a3 l3 c3],.agg #[.string y.fName,.slice b1 n1 d1,.int .i64 y.fRet.fKind,.string y.fRet.fName,.int .i64 y.fLocals,.int .i64 y.fStack,.slice b2 n2 d2,.slice b3 n3 d3]] W fun e w'=>e=.returned (.bool q)∧Below W.heap.size W w':=fun W hW=>by
    have hk:=Keeps.of_below (lo:=0) hW
    rw[hq];exact I_sameMethod x y _ _ _ _ _ _ W (p1.stays qau hk) (p2.stays qaw hk) (p3.stays qax hk) (o1.stays qau hk) (o2.stays qaw hk) (o3.stays qax hk)
   have HQ:=qhd hq
   clear e0 e1 f0 f1 hr hr' hq p1 p2 p3 o1 o2 o3
   go_wp2_with fail
   refine(CM _ (bbel)).mono ?_
   rintro _ wA ⟨rfl,hA⟩
   have hAs:=(hA).size;(try simp only[qsz] at hAs)
   have hE:Below w.heap.size w wA:=bbel
   clear q0 q1 q2 q3 q4 q5 q6 q7 r0 r1 r2 r3 r4 r5 r6 r7
   cases q
   ·have RV:Hid (z=false):=qhd (by rw[HZ.out];exact eqL_stop (qao E0.out (by unfold eqAt;rw[F0.out];exact HQ.out.symm)))
    go_wp2
    all_goals (try go_returns)
    all_goals exact HR.out _ _ ⟨by rw[RV.out];rfl,hE⟩
   ·go_wp2
    go_roundw
    case measure=>simp[intOf];omega
    case rel=>exact⟨k+1,by omega,by go_num,EachTo.step HA.out E0.out (by unfold eqAt;rw[F0.out];exact HQ.out.symm),hE⟩
  ·obtain rfl:k=len:=by omega
   have RV:Hid (z=true):=qhd (by rw[HZ.out];exact eqL_done (HL.out.trans HL'.out.symm) (qaz HA.out HL.out))
   go_wp2
   (all_goals (try go_returns));(all_goals exact HR.out _ _ ⟨by first|(rw[RV.out];done)|(rw[RV.out];rfl),bbel⟩)

theorem I_ClsSame (x y:DClsClass) (v1 v2 u1 u2:Value) (w:World) (s1:Sl 3 rClsField 0 w v1 x.fFields) (s2:Sl 8 rClsMethod 0 w v2 x.fMethods) (t1:Sl 3 rClsField 0 w u1 y.fFields) (t2:Sl 8 rClsMethod 0 w u2 y.fMethods) :
  Calls Tryz.prog 65 #[.agg #[.string x.fName,.string x.fSuper,v1,v2],.agg #[.string y.fName,.string y.fSuper,u1,u2]] w fun e w'=>e=.returned (.bool (clsEq x y))∧Below w.heap.size w w':=by
 obtain⟨a1,l1,c1,rfl⟩:=s1.form
 obtain⟨a2,l2,c2,rfl⟩:=s2.form
 obtain⟨b1,m1,d1,rfl⟩:=t1.form
 obtain⟨b2,m2,d2,rfl⟩:=t2.form
 obtain⟨z,hz⟩:∃ z,z=clsEq x y:=⟨_,rfl⟩
 obtain⟨qa,hqa⟩:∃ q,q=eqL fldEq x.fFields y.fFields:=⟨_,rfl⟩
 obtain⟨qb,hqb⟩:∃ q,q=eqL mthEq x.fMethods y.fMethods:=⟨_,rfl⟩
 obtain⟨qn,hqn⟩:∃ q,q=(x.fName.toList == y.fName.toList):=⟨_,rfl⟩
 obtain⟨qs,hqs⟩:∃ q,q=(x.fSuper.toList == y.fSuper.toList):=⟨_,rfl⟩
 have CA:∀ W,Below w.heap.size w W→Calls Tryz.prog 101 #[.slice a1 l1 c1,.slice b1 m1 d1] W fun e w'=>e=.returned (.bool qa)∧Below W.heap.size W w':=fun W hW=>by
  rw[hqa];exact I_eqClsFieldS _ _ _ _ W (s1.stays qah (Keeps.of_below hW)) (t1.stays qah (Keeps.of_below hW))
 have CB:∀ W,Below w.heap.size w W→Calls Tryz.prog 102 #[.slice a2 l2 c2,.slice b2 m2 d2,.func (.func 103) #[] #[]] W fun e w'=>e=.returned (.bool qb)∧Below W.heap.size W w':=fun W hW=>by
  rw[hqb];exact I_eqMths _ _ _ _ W (s2.stays qag (Keeps.of_below hW)) (t2.stays qag (Keeps.of_below hW))
 have HZ:Hid (z=(qn && qs && qa && qb)):=qhd (by rw[hz,hqa,hqb,hqn,hqs];rfl)
 rw[←hz]
 replace hqn:=hqn.symm
 replace hqs:=hqs.symm
 clear hz hqa hqb s1 s2 t1 t2
 refine qac fun R HR=>?_
 go_enter Tryz.func65,Tryz.ntmps65
 cases qn
 ·have RV:Hid (z=false):=qhd (by rw[HZ.out];rfl)
  (go_wp2;(all_goals (try go_returns));(all_goals exact HR.out _ _ ⟨by first|(rw[RV.out];done)|(rw[RV.out];rfl),bbel⟩))
 cases qs
 ·have RV:Hid (z=false):=qhd (by rw[HZ.out];rfl)
  (go_wp2;(all_goals (try go_returns));(all_goals exact HR.out _ _ ⟨by first|(rw[RV.out];done)|(rw[RV.out];rfl),bbel⟩))
 go_wp2_with fail
 (with_reducible refine(CA _ (bbel)).mono ?_)
 rintro _ w1 ⟨rfl,g1⟩
 have g1s:=(g1).size;(try simp only[qsz] at g1s)
 obtain⟨g1ad,g1ao,g1ag,g1ap,g1ax,g1ay,g1ac1,g1af1,g1az1⟩:=bf2 (n:=w.heap.size) g1
 clear g1ao g1ap
 cases qa
 ·have RV:Hid (z=false):=qhd (by rw[HZ.out];simp)
  (go_wp2;(all_goals (try go_returns));(all_goals exact HR.out _ _ ⟨by first|(rw[RV.out];done)|(rw[RV.out];rfl),bbel⟩))
 go_wp2_with fail
 (with_reducible refine(CB _ (bbel)).mono ?_)
 rintro _ w2 ⟨rfl,g2⟩
 have g2s:=(g2).size;(try simp only[qsz] at g2s)
 obtain⟨g2ad,g2ao,g2ag,g2ap,g2ax,g2ay,g2ac1,g2af1,g2az1⟩:=bf2 (n:=w.heap.size) g2
 clear g2ao g2ap
 have RV:Hid (z=qb):=qhd (by rw[HZ.out];simp)
 go_wp2
 (all_goals (try go_returns));(all_goals exact HR.out _ _ ⟨by first|(rw[RV.out];done)|(rw[RV.out];rfl),bbel⟩)

def clsNone (c:DClsClass):Bool:=c.fName.toList.isEmpty && c.fSuper.toList.isEmpty && decide (c.fFields.length=0) && decide (c.fMethods.length=0)
def keepIn (k:Int):Bool:=decide (0≤k) && decide (k≤2)
def chgOk (c:DChgChange):Bool:=keepIn c.fKeeper && namOk c.fName && (if c.fKind == 1 then (c.fTo == 0 && clsOk c.fClass && sameN c.fClass.fName c.fName) else clsNone c.fClass && (if c.fKind == 3 then keepIn c.fTo else ((c.fKind == 2 ||c.fKind == 4) && c.fTo == 0)))

theorem eqL_nil {α:Type} (f:α→α→Bool) (xs:List α):eqL f xs []=decide (xs.length=0):=by
 cases xs with
 | nil=>rfl
 | cons x r=>simp[eqL]
theorem clsEq_nil (c:DClsClass):clsEq c ⟨⟨#[]⟩,⟨#[]⟩,[],[]⟩=clsNone c:=by
 unfold clsEq clsNone
 rw[eqL_nil,eqL_nil]
 have h:(⟨#[]⟩:ByteArray).toList=[]:=by rw[ByteArray.toList_eq]
 rw[h]
 cases c.fName.toList<;>cases c.fSuper.toList<;>rfl

theorem S_l9None (c:DClsClass) (v1 v2:Value) (w:World) (s1:Sl 3 rClsField 0 w v1 c.fFields) (s2:Sl 8 rClsMethod 0 w v2 c.fMethods) :
  Calls Tryz.prog 71 #[.agg #[.string c.fName,.string c.fSuper,v1,v2]] w fun e w'=>e=.returned (.bool (clsNone c))∧Below w.heap.size w w':=by
 obtain⟨a,len,cap,rfl⟩:=s1.form
 obtain⟨a',len',cap',rfl⟩:=s2.form
 obtain⟨hl,hc,hm⟩:=s1.len
 obtain⟨hl',hc',hm'⟩:=s2.len
 have m1:len≤9223372036854775807:=by unfold maxLen at hm;omega
 have m2:len'≤9223372036854775807:=by unfold maxLen at hm';omega
 obtain⟨z,hz⟩:∃ z,z=clsNone c:=⟨_,rfl⟩
 obtain⟨qn,hqn⟩:∃ q,q=c.fName.toList.isEmpty:=⟨_,rfl⟩
 obtain⟨qs,hqs⟩:∃ q,q=c.fSuper.toList.isEmpty:=⟨_,rfl⟩
 have HZ:Hid (z=(qn && qs && decide (len=0) && decide (len'=0))):=qhd (by rw[hz,hqn,hqs];unfold clsNone;rw[hl,hl'])
 rw[←hz]
 replace hqn:=hqn.symm
 replace hqs:=hqs.symm
 clear hz hl hl' hc hc' hm hm' s1 s2
 refine qac fun R HR=>?_
 go_enter Tryz.func71,Tryz.ntmps71
 cases qn
 ·have RV:Hid (z=false):=qhd (by rw[HZ.out];rfl)
  (go_wp2;(all_goals (try go_returns));(all_goals exact HR.out _ _ ⟨by first|(rw[RV.out];done)|(rw[RV.out];rfl),bbel⟩))
 cases qs
 ·have RV:Hid (z=false):=qhd (by rw[HZ.out];rfl)
  (go_wp2;(all_goals (try go_returns));(all_goals exact HR.out _ _ ⟨by first|(rw[RV.out];done)|(rw[RV.out];rfl),bbel⟩))
 by_cases h1:len=0
 rotate_left
 ·have h2:((len:Int) == 0)=false:=by simp;omega
  have RV:Hid (z=false):=qhd (by rw[HZ.out];simp[h1])
  (go_wp2;(all_goals (try go_returns));(all_goals exact HR.out _ _ ⟨by first|(rw[RV.out];done)|(rw[RV.out];rfl),bbel⟩))
 subst h1
 by_cases h3:len'=0
 rotate_left
 ·have h4:((len':Int) == 0)=false:=by simp;omega
  have RV:Hid (z=false):=qhd (by rw[HZ.out];simp[h3])
  (go_wp2;(all_goals (try go_returns));(all_goals exact HR.out _ _ ⟨by first|(rw[RV.out];done)|(rw[RV.out];rfl),bbel⟩))
 subst h3
 have RV:Hid (z=true):=qhd (by rw[HZ.out];rfl)
 go_wp2
 (all_goals (try go_returns));(all_goals exact HR.out _ _ ⟨by first|(rw[RV.out];done)|(rw[RV.out];rfl),bbel⟩)

theorem S_ChgOk (x:DChgChange) (v1 v2:Value) (w:World) (s1:Sl 3 rClsField 0 w v1 x.fClass.fFields) (s2:Sl 8 rClsMethod 0 w v2 x.fClass.fMethods) (b1:x.fName.size≤maxLen) (b2:x.fClass.fName.size≤maxLen) (b3:x.fClass.fSuper.size≤maxLen) :
  Calls Tryz.prog 37 #[.agg #[.int .i64 x.fKind,.int .i64 x.fKeeper,.string x.fName,.int .i64 x.fTo,.string x.fClass.fName,.string x.fClass.fSuper,v1,v2]] w fun e w'=>e=.returned (.bool (chgOk x))∧Below w.heap.size w w':=by
 obtain⟨a,len,cap,rfl⟩:=s1.form
 obtain⟨a',len',cap',rfl⟩:=s2.form
 obtain⟨z,hz⟩:∃ z,z=chgOk x:=⟨_,rfl⟩
 obtain⟨qk,hqk⟩:∃ q,q=keepIn x.fKeeper:=⟨_,rfl⟩
 obtain⟨qt,hqt⟩:∃ q,q=keepIn x.fTo:=⟨_,rfl⟩
 obtain⟨qn,hqn⟩:∃ q,q=namOk x.fName:=⟨_,rfl⟩
 obtain⟨qc,hqc⟩:∃ q,q=clsOk x.fClass:=⟨_,rfl⟩
 obtain⟨qe,hqe⟩:∃ q,q=clsNone x.fClass:=⟨_,rfl⟩
 obtain⟨qs,hqs⟩:∃ q,q=(x.fClass.fName.toList == x.fName.toList):=⟨_,rfl⟩
 have HZ:Hid (z=(qk && qn && (if x.fKind == 1 then (x.fTo == 0 && qc && qs) else qe && (if x.fKind == 3 then qt else ((x.fKind == 2 ||x.fKind == 4) && x.fTo == 0))))):=qhd (by rw[hz,hqk,hqt,hqn,hqc,hqe,hqs];rfl)
 have CK:∀ W,Calls Tryz.prog 69 #[.int .i64 x.fKeeper,.int .i64 0,.int .i64 2] W fun e w'=>e=.returned (.bool qk)∧W=w':=fun W=>by rw[hqk];exact S_l1In _ _ _ W
 have CT:∀ W,Calls Tryz.prog 69 #[.int .i64 x.fTo,.int .i64 0,.int .i64 2] W fun e w'=>e=.returned (.bool qt)∧W=w':=fun W=>by rw[hqt];exact S_l1In _ _ _ W
 have CN:∀ W,Calls Tryz.prog 27 #[.string x.fName] W fun e w'=>e=.returned (.bool qn)∧W=w':=fun W=>by rw[hqn];exact S_NamOk _ W b1
 have CC:∀ W,Below w.heap.size w W→Calls Tryz.prog 72 #[.agg #[.string x.fClass.fName,.string x.fClass.fSuper,.slice a len cap,.slice a' len' cap']] W fun e w'=>e=.returned (.bool qc)∧Below W.heap.size W w':=fun W hW=>by rw[hqc];exact S_ClsOk x.fClass _ _ W (s1.stays qah (Keeps.of_below hW)) (s2.stays qag (Keeps.of_below hW)) b2 b3
 have CE:∀ W,Below w.heap.size w W→Calls Tryz.prog 71 #[.agg #[.string x.fClass.fName,.string x.fClass.fSuper,.slice a len cap,.slice a' len' cap']] W fun e w'=>e=.returned (.bool qe)∧Below W.heap.size W w':=fun W hW=>by rw[hqe];exact S_l9None x.fClass _ _ W (s1.stays qah (Keeps.of_below hW)) (s2.stays qag (Keeps.of_below hW))
 rw[←hz]
 replace hqs:=hqs.symm
 clear hz hqk hqt hqn hqc hqe s1 s2
 refine qac fun R HR=>?_
 go_enter Tryz.func37,Tryz.ntmps37
 go_wp2_with fail
 (with_reducible refine(CK _).mono ?_)
 rintro _ _ ⟨rfl,rfl⟩
 cases qk
 ·have RV:Hid (z=false):=qhd (by rw[HZ.out];rfl)
  (go_wp2;(all_goals (try go_returns));(all_goals exact HR.out _ _ ⟨by first|(rw[RV.out];done)|(rw[RV.out];rfl),bbel⟩))
 go_wp2_with fail
 (with_reducible refine(CN _).mono ?_)
 rintro _ _ ⟨rfl,rfl⟩
 cases qn
 ·have RV:Hid (z=false):=qhd (by rw[HZ.out];rfl)
  (go_wp2;(all_goals (try go_returns));(all_goals exact HR.out _ _ ⟨by first|(rw[RV.out];done)|(rw[RV.out];rfl),bbel⟩))
 by_cases h1:x.fKind=1
 ·have i1:(x.fKind == 1)=true:=by simpa using h1
  have HZ2:Hid (z=(x.fTo == 0 && qc && qs)):=qhd (by rw[HZ.out,i1];rfl)
  clear HZ
  by_cases h2:x.fTo=0
  rotate_left
  ·have i2:(x.fTo == 0)=false:=by simpa using h2
   have HZ:=HZ2
   have RV:Hid (z=false):=qhd (by rw[HZ.out];(rw[i2];rfl))
   (go_wp2;(all_goals (try go_returns));(all_goals exact HR.out _ _ ⟨by first|(rw[RV.out];done)|(rw[RV.out];rfl),bbel⟩))
  have i2:(x.fTo == 0)=true:=by simpa using h2
  have HZ:Hid (z=(qc && qs)):=qhd (by rw[HZ2.out,i2];rfl)
  clear HZ2
  go_wp2_with fail
  (with_reducible refine(CC _ (bbel)).mono ?_)
  rintro _ w1 ⟨rfl,g1⟩
  have g1s:=(g1).size;(try simp only[qsz] at g1s)
  obtain⟨g1ad,g1ao,g1ag,g1ap,g1ax,g1ay⟩:=bf1 (n:=w.heap.size) g1
  cases qc
  ·have RV:Hid (z=false):=qhd (by rw[HZ.out];rfl)
   (go_wp2;(all_goals (try go_returns));(all_goals exact HR.out _ _ ⟨by first|(rw[RV.out];done)|(rw[RV.out];rfl),bbel⟩))
  have RV:Hid (z=qs):=qhd (by rw[HZ.out];rfl)
  go_wp2
  (all_goals (try go_returns));(all_goals exact HR.out _ _ ⟨by first|(rw[RV.out];done)|(rw[RV.out];rfl),bbel⟩)
 have i1:(x.fKind == 1)=false:=by simpa using h1
 have i1':(x.fKind != 1)=true:=by simpa using h1
 have HZ2:Hid (z=(qe && (if x.fKind == 3 then qt else ((x.fKind == 2 ||x.fKind == 4) && x.fTo == 0)))):=qhd (by rw[HZ.out,i1];rfl)
 clear HZ
 have HZ:=HZ2
 go_wp2_with fail
 (with_reducible refine(CE _ (bbel)).mono ?_)
 rintro _ w1 ⟨rfl,g1⟩
 have g1s:=(g1).size;(try simp only[qsz] at g1s)
 obtain⟨g1ad,g1ao,g1ag,g1ap,g1ax,g1ay⟩:=bf1 (n:=w.heap.size) g1
 cases qe
 ·have RV:Hid (z=false):=qhd (by rw[HZ.out];rfl)
  (go_wp2;(all_goals (try go_returns));(all_goals exact HR.out _ _ ⟨by first|(rw[RV.out];done)|(rw[RV.out];rfl),bbel⟩))
 by_cases h3:x.fKind=3
 ·have i3:(x.fKind == 3)=true:=by simpa using h3
  have RV:Hid (z=qt):=qhd (by rw[HZ.out,i3];rfl)
  go_wp2_with fail
  (with_reducible refine(CT _).mono ?_)
  rintro _ _ ⟨rfl,rfl⟩
  go_wp2
  (all_goals (try go_returns));(all_goals exact HR.out _ _ ⟨by first|(rw[RV.out];done)|(rw[RV.out];rfl),bbel⟩)
 have i3:(x.fKind == 3)=false:=by simpa using h3
 have HZ3:Hid (z=((x.fKind == 2 ||x.fKind == 4) && x.fTo == 0)):=qhd (by rw[HZ.out,i3];rfl)
 clear HZ HZ2
 have HZ:=HZ3
 by_cases h2:x.fKind=2
 ·have i2:(x.fKind == 2)=true:=by simpa using h2
  have RV:Hid (z=(x.fTo == 0)):=qhd (by rw[HZ.out,i2];simp)
  go_wp2
  (all_goals (try go_returns));(all_goals exact HR.out _ _ ⟨by first|(rw[RV.out];done)|(rw[RV.out];rfl),bbel⟩)
 have i2:(x.fKind == 2)=false:=by simpa using h2
 by_cases h4:x.fKind=4
 ·have i4:(x.fKind == 4)=true:=by simpa using h4
  have RV:Hid (z=(x.fTo == 0)):=qhd (by rw[HZ.out,i4];simp)
  go_wp2
  (all_goals (try go_returns));(all_goals exact HR.out _ _ ⟨by first|(rw[RV.out];done)|(rw[RV.out];rfl),bbel⟩)
 have i4:(x.fKind == 4)=false:=by simpa using h4
 have RV:Hid (z=false):=qhd (by rw[HZ.out];(rw[i2,i4];rfl))
 (go_wp2;(all_goals (try go_returns));(all_goals exact HR.out _ _ ⟨by first|(rw[RV.out];done)|(rw[RV.out];rfl),bbel⟩))

def ChangeW (z:Bool) (x:DChgChange) (u1 u2 v:Value):Prop:=(z=false∧v=.nilIface)∨(z=true∧((x.fKind=1∧v=.iface 118 (.agg #[.string x.fClass.fName,.string x.fClass.fSuper,u1,u2]))∨(x.fKind=3∧v=.iface 120 (.agg #[.string x.fName,.int .i64 x.fTo]))∨(x.fKind=2∧v=.iface 122 (.agg #[.string x.fName]))∨(x.fKind=4∧v=.iface 123 (.agg #[.string x.fName]))))

theorem I_changeOfV (x:DChgChange) (v1 v2:Value) (w:World) (s1:Sl 3 rClsField 0 w v1 x.fClass.fFields) (s2:Sl 8 rClsMethod 0 w v2 x.fClass.fMethods) (b1:x.fName.size≤maxLen) (b2:x.fClass.fName.size≤maxLen) (b3:x.fClass.fSuper.size≤maxLen) :
  Calls Tryz.prog 34 #[.agg #[.int .i64 x.fKind,.int .i64 x.fKeeper,.string x.fName,.int .i64 x.fTo,.string x.fClass.fName,.string x.fClass.fSuper,v1,v2]] w fun e w'=>(∃ v,e=.returned v∧ChangeW (chgOk x) x v1 v2 v)∧Below w.heap.size w w':=by
 obtain⟨a,len,cap,rfl⟩:=s1.form
 obtain⟨a',len',cap',rfl⟩:=s2.form
 obtain⟨z,hz⟩:∃ z,z=chgOk x:=⟨_,rfl⟩
 obtain⟨qt,hqt⟩:∃ q,q=keepIn x.fTo:=⟨_,rfl⟩
 obtain⟨qn,hqn⟩:∃ q,q=namOk x.fName:=⟨_,rfl⟩
 obtain⟨qc,hqc⟩:∃ q,q=clsOk x.fClass:=⟨_,rfl⟩
 obtain⟨qe,hqe⟩:∃ q,q=clsNone x.fClass:=⟨_,rfl⟩
 obtain⟨qs,hqs⟩:∃ q,q=(x.fClass.fName.toList == x.fName.toList):=⟨_,rfl⟩
 have HZ:Hid (z=(keepIn x.fKeeper && qn && (if x.fKind == 1 then (x.fTo == 0 && qc && qs) else qe && (if x.fKind == 3 then qt else ((x.fKind == 2 ||x.fKind == 4) && x.fTo == 0))))):=qhd (by rw[hz,hqt,hqn,hqc,hqe,hqs];rfl)
 have HT:Hid (qt=keepIn x.fTo):=qhd hqt
 have CN:∀ W,Calls Tryz.prog 40 #[.string x.fName] W fun e w'=>e=.returned (.bool qn)∧W=w':=fun W=>by rw[hqn];exact I_NamOk _ W b1
 have CC:∀ W,Below w.heap.size w W→Calls Tryz.prog 64 #[.agg #[.string x.fClass.fName,.string x.fClass.fSuper,.slice a len cap,.slice a' len' cap']] W fun e w'=>e=.returned (.bool qc)∧Below W.heap.size W w':=fun W hW=>by rw[hqc];exact I_ClsOk x.fClass _ _ W (s1.stays qah (Keeps.of_below hW)) (s2.stays qag (Keeps.of_below hW)) b2 b3
 have CE:∀ W,Below w.heap.size w W→Calls Tryz.prog 65 #[.agg #[.string x.fClass.fName,.string x.fClass.fSuper,.slice a len cap,.slice a' len' cap'],.agg #[.string ⟨#[]⟩,.string ⟨#[]⟩,.slice none 0 0,.slice none 0 0]] W fun e w'=>e=.returned (.bool qe)∧Below W.heap.size W w':=fun W hW=>by
  rw[hqe,←clsEq_nil]
  exact I_ClsSame x.fClass ⟨⟨#[]⟩,⟨#[]⟩,[],[]⟩ _ _ _ _ W (s1.stays qah (Keeps.of_below hW)) (s2.stays qag (Keeps.of_below hW)) ⟨none,0,0,rfl,rfl,Nat.le_refl _,Nat.zero_le _,fun h=>absurd h (by omega)⟩ ⟨none,0,0,rfl,rfl,Nat.le_refl _,Nat.zero_le _,fun h=>absurd h (by omega)⟩
 rw[←hz]
 replace hqs:=hqs.symm
 clear hz hqt hqn hqc hqe s1 s2
 refine qac fun R HR=>?_
 go_enter Tryz.func34,Tryz.ntmps34
 by_cases hk:0≤x.fKeeper∧x.fKeeper≤2
 rotate_left
 ·have RV:Hid (z=false):=qhd (by
   rw[HZ.out]
   have:keepIn x.fKeeper=false:=by unfold keepIn;rw[Bool.and_eq_false_iff];simp only[decide_eq_false_iff_not];omega
   rw[this];rfl)
  by_cases hk0:x.fKeeper < 0
  ·go_wp2
   (all_goals (try go_returns));(all_goals exact HR.out _ _ ⟨⟨_,rfl,Or.inl ⟨RV.out,rfl⟩⟩,bbel⟩)
  ·have hk1:¬x.fKeeper < 3:=by omega
   have hk2:(3:Int)≤x.fKeeper:=by omega
   go_wp2
   (all_goals (try go_returns));(all_goals exact HR.out _ _ ⟨⟨_,rfl,Or.inl ⟨RV.out,rfl⟩⟩,bbel⟩)
 have hk0:¬x.fKeeper < 0:=by omega
 have hk1:¬(3:Int)≤x.fKeeper:=by omega
 have HZ1:Hid (z=(qn && (if x.fKind == 1 then (x.fTo == 0 && qc && qs) else qe && (if x.fKind == 3 then qt else ((x.fKind == 2 ||x.fKind == 4) && x.fTo == 0))))):=qhd (by
  rw[HZ.out]
  have:keepIn x.fKeeper=true:=by unfold keepIn;simp;exact hk
  rw[this];simp)
 clear HZ hk
 have HZ:=HZ1
 go_wp2_with fail
 (with_reducible refine(CN _).mono ?_)
 rintro _ _ ⟨rfl,rfl⟩
 cases qn
 ·have RV:Hid (z=false):=qhd (by rw[HZ.out];rfl)
  go_wp2
  (all_goals (try go_returns));(all_goals exact HR.out _ _ ⟨⟨_,rfl,Or.inl ⟨RV.out,rfl⟩⟩,bbel⟩)
 by_cases h1:x.fKind=1
 ·have i1:(x.fKind == 1)=true:=by simpa using h1
  have HZ2:Hid (z=(x.fTo == 0 && qc && qs)):=qhd (by rw[HZ.out,i1];rfl)
  clear HZ HZ1
  by_cases h2:x.fTo=0
  rotate_left
  ·have i2:(x.fTo == 0)=false:=by simpa using h2
   have i3:(x.fTo != 0)=true:=by simpa using h2
   have HZ:=HZ2
   have RV:Hid (z=false):=qhd (by rw[HZ.out];(rw[i2];rfl))
   go_wp2
   (all_goals (try go_returns));(all_goals exact HR.out _ _ ⟨⟨_,rfl,Or.inl ⟨RV.out,rfl⟩⟩,bbel⟩)
  have i2:(x.fTo == 0)=true:=by simpa using h2
  have HZ:Hid (z=(qc && qs)):=qhd (by rw[HZ2.out,i2];rfl)
  clear HZ2
  go_wp2_with fail
  (with_reducible refine(CC _ (bbel)).mono ?_)
  rintro _ w1 ⟨rfl,g1⟩
  have g1s:=(g1).size;(try simp only[qsz] at g1s)
  obtain⟨g1ad,g1ao,g1ag,g1ap,g1ax,g1ay⟩:=bf1 (n:=w.heap.size) g1
  cases qc
  ·have RV:Hid (z=false):=qhd (by rw[HZ.out];rfl)
   go_wp2
   (all_goals (try go_returns));(all_goals exact HR.out _ _ ⟨⟨_,rfl,Or.inl ⟨RV.out,rfl⟩⟩,bbel⟩)
  cases qs
  ·have RV:Hid (z=false):=qhd (by rw[HZ.out];rfl)
   go_wp2
   (all_goals (try go_returns));(all_goals exact HR.out _ _ ⟨⟨_,rfl,Or.inl ⟨RV.out,rfl⟩⟩,bbel⟩)
  have RV:Hid (z=true):=qhd (by rw[HZ.out];rfl)
  go_wp2
  (all_goals (try go_returns));(all_goals exact HR.out _ _ ⟨⟨_,rfl,Or.inr ⟨RV.out,by first|exact Or.inl ⟨h1,rfl⟩|exact Or.inr (Or.inl ⟨h3,rfl⟩)|exact Or.inr (Or.inr (Or.inl ⟨h2,rfl⟩))|exact Or.inr (Or.inr (Or.inr ⟨h4,rfl⟩))⟩⟩,bbel⟩)
 have i1:(x.fKind == 1)=false:=by simpa using h1
 have HZ2:Hid (z=(qe && (if x.fKind == 3 then qt else ((x.fKind == 2 ||x.fKind == 4) && x.fTo == 0)))):=qhd (by rw[HZ.out,i1];rfl)
 clear HZ HZ1
 have HZ:=HZ2
 go_wp2_with fail
 (with_reducible refine(CE _ (bbel)).mono ?_)
 rintro _ w1 ⟨rfl,g1⟩
 have g1s:=(g1).size;(try simp only[qsz] at g1s)
 obtain⟨g1ad,g1ao,g1ag,g1ap,g1ax,g1ay⟩:=bf1 (n:=w.heap.size) g1
 cases qe
 ·have RV:Hid (z=false):=qhd (by rw[HZ.out];rfl)
  go_wp2
  (all_goals (try go_returns));(all_goals exact HR.out _ _ ⟨⟨_,rfl,Or.inl ⟨RV.out,rfl⟩⟩,bbel⟩)
 by_cases h3:x.fKind=3
 ·have i3:(x.fKind == 3)=true:=by simpa using h3
  have HZ3:Hid (z=qt):=qhd (by rw[HZ.out,i3];rfl)
  clear HZ HZ2
  by_cases ht:0≤x.fTo∧x.fTo≤2
  ·have RV:Hid (z=true):=qhd (by rw[HZ3.out,HT.out];unfold keepIn;simp;exact ht)
   have t0:¬x.fTo < 0:=by omega
   have t1:¬(3:Int)≤x.fTo:=by omega
   go_wp2
   (all_goals (try go_returns));(all_goals exact HR.out _ _ ⟨⟨_,rfl,Or.inr ⟨RV.out,by first|exact Or.inl ⟨h1,rfl⟩|exact Or.inr (Or.inl ⟨h3,rfl⟩)|exact Or.inr (Or.inr (Or.inl ⟨h2,rfl⟩))|exact Or.inr (Or.inr (Or.inr ⟨h4,rfl⟩))⟩⟩,bbel⟩)
  ·have RV:Hid (z=false):=qhd (by rw[HZ3.out,HT.out];unfold keepIn;rw[Bool.and_eq_false_iff];simp only[decide_eq_false_iff_not];omega)
   by_cases t0:x.fTo < 0
   ·go_wp2
    (all_goals (try go_returns));(all_goals exact HR.out _ _ ⟨⟨_,rfl,Or.inl ⟨RV.out,rfl⟩⟩,bbel⟩)
   ·have t1:(3:Int)≤x.fTo:=by omega
    go_wp2
    (all_goals (try go_returns));(all_goals exact HR.out _ _ ⟨⟨_,rfl,Or.inl ⟨RV.out,rfl⟩⟩,bbel⟩)
 have i3:(x.fKind == 3)=false:=by simpa using h3
 have HZ3:Hid (z=((x.fKind == 2 ||x.fKind == 4) && x.fTo == 0)):=qhd (by rw[HZ.out,i3];rfl)
 clear HZ HZ2
 have HZ:=HZ3
 by_cases ht:x.fTo=0
 rotate_left
 ·have i4:(x.fTo == 0)=false:=by simpa using ht
  have i5:(x.fTo != 0)=true:=by simpa using ht
  have RV:Hid (z=false):=qhd (by rw[HZ.out];(rw[i4];simp))
  go_wp2
  (all_goals (try go_returns));(all_goals exact HR.out _ _ ⟨⟨_,rfl,Or.inl ⟨RV.out,rfl⟩⟩,bbel⟩)
 have i4:(x.fTo == 0)=true:=by simpa using ht
 by_cases h2:x.fKind=2
 ·have i2:(x.fKind == 2)=true:=by simpa using h2
  have RV:Hid (z=true):=qhd (by rw[HZ.out,i2,i4];rfl)
  go_wp2
  (all_goals (try go_returns));(all_goals exact HR.out _ _ ⟨⟨_,rfl,Or.inr ⟨RV.out,by first|exact Or.inl ⟨h1,rfl⟩|exact Or.inr (Or.inl ⟨h3,rfl⟩)|exact Or.inr (Or.inr (Or.inl ⟨h2,rfl⟩))|exact Or.inr (Or.inr (Or.inr ⟨h4,rfl⟩))⟩⟩,bbel⟩)
 have i2:(x.fKind == 2)=false:=by simpa using h2
 by_cases h4:x.fKind=4
 ·have i5:(x.fKind == 4)=true:=by simpa using h4
  have RV:Hid (z=true):=qhd (by rw[HZ.out,i2,i4,i5];rfl)
  go_wp2
  (all_goals (try go_returns));(all_goals exact HR.out _ _ ⟨⟨_,rfl,Or.inr ⟨RV.out,by first|exact Or.inl ⟨h1,rfl⟩|exact Or.inr (Or.inl ⟨h3,rfl⟩)|exact Or.inr (Or.inr (Or.inl ⟨h2,rfl⟩))|exact Or.inr (Or.inr (Or.inr ⟨h4,rfl⟩))⟩⟩,bbel⟩)
 have i5:(x.fKind == 4)=false:=by simpa using h4
 have RV:Hid (z=false):=qhd (by rw[HZ.out];(rw[i2,i5];rfl))
 go_wp2
 (all_goals (try go_returns));(all_goals exact HR.out _ _ ⟨⟨_,rfl,Or.inl ⟨RV.out,rfl⟩⟩,bbel⟩)


end Go.Proofs.YtmbfpbgkchncgaaGreat
