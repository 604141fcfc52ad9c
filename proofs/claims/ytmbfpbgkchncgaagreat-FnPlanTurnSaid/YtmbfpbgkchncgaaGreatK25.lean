/-
  Texts of mine, packed: PlainC, PlainT. No condition beside those of the single theorems.
-/
import Derived.Test.YtmbfpbgkchncgaaGreatK2
import Derived.Test.YtmbfpbgkchncgaaGreatK19
import Derived.Test.YtmbfpbgkchncgaaGreatK24
import Derived.Test.YtmbfpbgkchncgaaGreatK20
set_option linter.unusedSimpArgs false
set_option linter.unusedVariables false
set_option maxHeartbeats 16000000
set_option maxRecDepth 100000
namespace Go.Proofs.YtmbfpbgkchncgaaGreat
open Go.RowKit
theorem firstAt_mem {α:Type} {p:α→Bool} {xs:List α} {x:α} (h:x∈xs) (hp:p x=true):0≤firstAt p xs:=by
 rcases firstAt_cases p xs with ⟨_,h2⟩|⟨k,y,h1,_⟩
 ·obtain⟨i,hi⟩:=List.mem_iff_getElem?.1 h
  rw[h2 i x hi] at hp;cases hp
 ·omega
def lastAsk (xs:List DLodAsk) (nm:ByteArray):Int:=xs.foldl (fun a x=>if sameN x.fName nm then x.fKeeper else a) (-1)
theorem lastAsk_snoc {xs:List DLodAsk} {nm:ByteArray} {x:DLodAsk}:lastAsk (xs++[x]) nm=if sameN x.fName nm then x.fKeeper else lastAsk xs nm:=by
 simp[lastAsk]
theorem lastAsk_step {xs:List DLodAsk} {nm:ByteArray} {x:DLodAsk} {j:Nat} (h:xs[j]? =some x):lastAsk (xs.take (j+1)) nm=if sameN x.fName nm then x.fKeeper else lastAsk (xs.take j) nm:=by
 rw[List.take_add_one,h];exact lastAsk_snoc
theorem lastAsk_keep:∀ (xs:List DLodAsk) (nm:ByteArray) (a:Int),(keepN (·.fName) nm xs).foldl (fun a x=>if sameN x.fName nm then x.fKeeper else a) a=a
 | [],_,_=>rfl
 | x :: r,nm,a=>by
   unfold keepN
   rw[List.filter_cons]
   cases e:sameN x.fName nm
   ·simp only[Bool.not_false,if_true,List.foldl_cons,e,Bool.false_eq_true,if_false];exact lastAsk_keep r nm a
   ·simp only[Bool.not_true,Bool.false_eq_true,if_false];exact lastAsk_keep r nm a
theorem keepN_mem {α:Type} {f:α→ByteArray} {nm:ByteArray} {xs:List α} {x:α} (h:x∈keepN f nm xs):x∈xs∧f x≠nm:=by
 unfold keepN at h
 rw[List.mem_filter] at h
 exact⟨h.1,sameN_false.1 (by simpa using h.2)⟩
theorem keepN_keepN {α:Type} {f:α→ByteArray} {nm:ByteArray} {xs:List α}:keepN f nm (keepN f nm xs)=keepN f nm xs:=by
 unfold keepN;rw[List.filter_filter];congr 1;funext x;simp
theorem keepN_snoc_off {α:Type} {f:α→ByteArray} {nm:ByteArray} {xs:List α} {x:α} (h:f x=nm):keepN f nm (keepN f nm xs++[x])=keepN f nm xs:=by
 have h2:=keepN_keepN (f:=f) (nm:=nm) (xs:=xs)
 unfold keepN at h2 ⊢
 rw[List.filter_append,h2,List.filter_cons,h,sameN_self];simp

theorem turnOk_parts {p:DLodPlan} {c:DChgChange} (h:turnOk p c=true):∃ (i:Nat) (k:DLodKeeper),c.fKeeper=(i:Int)∧p.fKeepers[i]? =some k∧chgOk c=true∧lodOk p=true∧lodOk (planMove p c)=true∧(planMove p c).fKeepers=p.fKeepers.set i (turnK c k)∧(planMove p c).fKeepers[i]? =some (turnK c k):=by
 simp only[turnOk,Bool.and_eq_true,decide_eq_true_eq] at h
 obtain⟨⟨⟨h1,h2⟩,h3⟩,h4⟩:=h
 have h0:0≤c.fKeeper:=by
  have:=h1
  simp only[chgOk,keepIn,Bool.and_eq_true,decide_eq_true_eq] at this
  exact this.1.1.1
 have hi:c.fKeeper.toNat < p.fKeepers.length:=by omega
 have hx:=List.getElem?_eq_getElem hi
 have hm:=planMove_at (c:=c) (p:=p) (i:=c.fKeeper.toNat) (by omega) hx
 exact⟨c.fKeeper.toNat,_,by omega,hx,h1,h2,h4,hm,by rw[hm,List.getElem?_set,if_pos rfl,if_pos hi]⟩
theorem chg_parts {c:DChgChange} (h:chgOk c=true):keepIn c.fKeeper=true∧namOk c.fName=true∧((c.fKind=1∧c.fTo=0∧clsOk c.fClass=true∧c.fClass.fName=c.fName)∨(c.fKind=2∧c.fTo=0)∨c.fKind=3∨(c.fKind=4∧c.fTo=0)):=by
 simp only[chgOk,Bool.and_eq_true] at h
 obtain⟨⟨h1,h2⟩,h3⟩:=h
 refine⟨h1,h2,?_⟩
 by_cases k1:c.fKind=1
 ·rw[if_pos (by simpa using k1)] at h3
  simp only[Bool.and_eq_true,beq_iff_eq] at h3
  exact Or.inl ⟨k1,h3.1.1,h3.1.2,sameN_iff.1 h3.2⟩
 ·rw[if_neg (by simpa using k1)] at h3
  simp only[Bool.and_eq_true] at h3
  by_cases k3:c.fKind=3
  ·exact Or.inr (Or.inr (Or.inl k3))
  ·rw[if_neg (by simpa using k3)] at h3
   simp only[Bool.and_eq_true,Bool.or_eq_true,beq_iff_eq] at h3
   rcases h3.2.1 with h|h
   ·exact Or.inr (Or.inl ⟨h,h3.2.2⟩)
   ·exact Or.inr (Or.inr (Or.inr ⟨h,h3.2.2⟩))
theorem turn1 {c:DChgChange} {k:DLodKeeper} (h:c.fKind=1):turnK c k=⟨keepN (·.fName) c.fClass.fName k.fOwns++[c.fClass],k.fAsks⟩:=by simp[turnK,h]
theorem turn2 {c:DChgChange} {k:DLodKeeper} (h:c.fKind=2):turnK c k=⟨keepN (·.fName) c.fName k.fOwns,k.fAsks⟩:=by simp[turnK,h]
theorem turn3 {c:DChgChange} {k:DLodKeeper} (h:c.fKind=3):turnK c k=⟨k.fOwns,keepN (·.fName) c.fName k.fAsks++[⟨c.fName,c.fTo⟩]⟩:=by simp[turnK,h]
theorem turn4 {c:DChgChange} {k:DLodKeeper} (h:c.fKind=4):turnK c k=⟨k.fOwns,keepN (·.fName) c.fName k.fAsks⟩:=by simp[turnK,h]
theorem plain_turn {p:DLodPlan} {c:DChgChange} (h:turnOk p c=true):∃ (i:Nat) (k k':DLodKeeper),c.fKeeper=(i:Int)∧p.fKeepers[i]? =some k∧(planMove p c).fKeepers[i]? =some k'∧lodOk (planMove p c)=true∧(planMove p c).fKeepers.length=p.fKeepers.length∧(∀ j,j≠i→(planMove p c).fKeepers[j]? =p.fKeepers[j]?) ∧
  ((c.fKind=1∧loOfP (planMove p c) ⟨(i:Int),c.fName⟩=c.fClass)∨(c.fKind=2∧loOfP (planMove p c) ⟨(i:Int),c.fName⟩=nilCls)∨(c.fKind=3∧lastAsk k'.fAsks c.fName=c.fTo)∨(c.fKind=4∧lastAsk k'.fAsks c.fName= -1)):=by
 obtain⟨i,k,hi,hk,hc,hp,hq,hm,hk'⟩:=turnOk_parts h
 refine⟨i,k,_,hi,hk,hk',hq,by rw[hm,List.length_set],fun j hj=>by rw[hm,List.getElem?_set,if_neg (fun e=>hj e.symm)],?_⟩
 have hown:loOfP (planMove p c) ⟨(i:Int),c.fName⟩=match (turnK c k).fOwns.find? (fun x=>sameN x.fName c.fName) with|some c=>c|none=>nilCls:=by
  have hil:=(List.getElem?_eq_some_iff.1 hk').1
  unfold loOfP
  rw[if_pos (by unfold inPlan;simp;omega)]
  simp only[Int.toNat_natCast,hk']
  cases List.find? (fun x=>sameN x.fName c.fName) (turnK c k).fOwns<;>rfl
 obtain⟨_,h2,h3⟩:=chg_parts hc
 rcases h3 with ⟨e,_,_,e2⟩|⟨e,_⟩|e|⟨e,_⟩
 ·refine Or.inl ⟨e,?_⟩
  rw[hown,turn1 e,e2]
  have h9:((keepN (·.fName) c.fName k.fOwns++[c.fClass]).find? fun x=>sameN x.fName c.fName)=some c.fClass:=by
   rw[List.find?_append,List.find?_eq_none.2 (fun x hx=>by simpa using sameN_false.2 (keepN_mem hx).2)]
   simp[e2,sameN_self]
  simp only[h9]
 ·refine Or.inr (Or.inl ⟨e,?_⟩)
  rw[hown,turn2 e]
  have h9:((keepN (·.fName) c.fName k.fOwns).find? fun x=>sameN x.fName c.fName)=none:=List.find?_eq_none.2 (fun x hx=>by simpa using sameN_false.2 (keepN_mem hx).2)
  simp only[h9]
 ·refine Or.inr (Or.inr (Or.inl ⟨e,?_⟩))
  rw[turn3 e,lastAsk_snoc,sameN_self,if_pos rfl]
 ·refine Or.inr (Or.inr (Or.inr ⟨e,?_⟩))
  rw[turn4 e];exact lastAsk_keep _ _ _

theorem owns_apart {l:List DClsClass} (h:each (ownIn l) l=true):(∀ c∈l,clsOk c=true)∧l.Pairwise (fun a b=>a.fName≠b.fName):=by
 have h1:=each_iff.1 h
 refine⟨fun c hc=>?_,List.pairwise_iff_getElem.2 fun i j hi hj hij e=>?_⟩
 ·obtain⟨j,hj⟩:=List.mem_iff_getElem?.1 hc
  have:=h1 j c hj
  simp only[ownIn,Bool.and_eq_true] at this
  exact this.1
 ·have h2:=h1 j _ (List.getElem?_eq_getElem hj)
  simp only[ownIn,Bool.and_eq_true,decide_eq_true_eq] at h2
  have h3:0≤ownAt (l.take j) l[j].fName:=firstAt_mem (x:=l[i]) (List.mem_of_getElem? (i:=i) (by rw[List.getElem?_take,if_pos hij];exact List.getElem?_eq_getElem hi)) (sameN_iff.2 e)
  omega
theorem asks_apart {many:Int} {l:List DLodAsk} (h:each (askIn many l) l=true):(∀ a∈l,(namOk a.fName && (decide (0≤a.fKeeper) && decide (a.fKeeper≤many-1)))=true)∧l.Pairwise (fun a b=>a.fName≠b.fName):=by
 have h1:=each_iff.1 h
 refine⟨fun c hc=>?_,List.pairwise_iff_getElem.2 fun i j hi hj hij e=>?_⟩
 ·obtain⟨j,hj⟩:=List.mem_iff_getElem?.1 hc
  have:=h1 j c hj
  rw[askIn,Bool.and_eq_true] at this
  exact this.1
 ·have h2:=h1 j _ (List.getElem?_eq_getElem hj)
  rw[askIn,Bool.and_eq_true,decide_eq_true_eq] at h2
  have h3:0≤askAt (l.take j) l[j].fName:=firstAt_mem (x:=l[i]) (List.mem_of_getElem? (i:=i) (by rw[List.getElem?_take,if_pos hij];exact List.getElem?_eq_getElem hi)) (sameN_iff.2 e)
  omega
theorem asks_ok' {many:Int} {l:List DLodAsk} (h1:∀ a∈l,(namOk a.fName && (decide (0≤a.fKeeper) && decide (a.fKeeper≤many-1)))=true) (h2:l.Pairwise (fun a b=>a.fName≠b.fName)):each (askIn many l) l=true:=each_iff.2 fun k x hx=>by
 rw[askIn,Bool.and_eq_true,decide_eq_true_eq]
 refine⟨h1 x (List.mem_of_getElem? hx),?_⟩
 have:askAt (l.take k) x.fName= -1:=firstAt_none fun j y hy=>by
  rw[List.getElem?_take] at hy
  split at hy
  ·rename_i hj
   obtain⟨a1,rfl⟩:=List.getElem?_eq_some_iff.1 hx
   obtain⟨a2,rfl⟩:=List.getElem?_eq_some_iff.1 hy
   exact sameN_false.2 (List.pairwise_iff_getElem.1 h2 j k a2 a1 hj)
  ·cases hy
 omega
theorem owns_ok' {l:List DClsClass} (h1:∀ c∈l,clsOk c=true) (h2:l.Pairwise (fun a b=>a.fName≠b.fName)):each (ownIn l) l=true:=each_iff.2 fun k x hx=>by
 simp only[ownIn,Bool.and_eq_true,decide_eq_true_eq]
 refine⟨h1 x (List.mem_of_getElem? hx),?_⟩
 have:ownAt (l.take k) x.fName= -1:=firstAt_none fun j y hy=>by
  rw[List.getElem?_take] at hy
  split at hy
  ·rename_i hj
   obtain⟨a1,rfl⟩:=List.getElem?_eq_some_iff.1 hx
   obtain⟨a2,rfl⟩:=List.getElem?_eq_some_iff.1 hy
   exact sameN_false.2 (List.pairwise_iff_getElem.1 h2 j k a2 a1 hj)
  ·cases hy
 omega
theorem less_ok {p:DLodPlan} (h:lodOk p=true) {i:Nat} {k k':DLodKeeper} (hk:p.fKeepers[i]? =some k) (h1:k'.fOwns.Sublist k.fOwns) (h2:k'.fAsks.Sublist k.fAsks):lodOk ⟨p.fKeepers.set i k'⟩=true:=by
 obtain⟨l1,l2⟩:=lodOk_len h
 simp only[lodOk,Bool.and_eq_true,decide_eq_true_eq,List.length_set]
 refine⟨⟨l1,l2⟩,each_iff.2 fun j x hx=>?_⟩
 rw[List.getElem?_set] at hx
 by_cases e:i=j
 ·rw[if_pos e] at hx
  have hil:=(List.getElem?_eq_some_iff.1 hk).1
  rw[if_pos (by omega)] at hx
  cases hx
  obtain⟨a1,a2,a3,a4⟩:=keeperOk_parts (lodOk_keeper h hk)
  obtain⟨b1,b2⟩:=owns_apart a3
  obtain⟨c1,c2⟩:=asks_apart a4
  simp only[keeperOk,Bool.and_eq_true,decide_eq_true_eq]
  exact⟨⟨⟨Nat.le_trans h1.length_le a1,Nat.le_trans h2.length_le a2⟩,owns_ok' (fun c hc=>b1 c (h1.subset hc)) (b2.sublist h1)⟩,asks_ok' (fun a ha=>c1 a (h2.subset ha)) (c2.sublist h2)⟩
 ·rw[if_neg e] at hx
  exact lodOk_keeper h hx
def backOf (c:DChgChange):DChgChange:=⟨if c.fKind=3 then 4 else 2,c.fKeeper,c.fName,0,nilCls⟩
theorem backOf_ok {c:DChgChange} (h:chgOk c=true):chgOk (backOf c)=true:=by
 obtain⟨h1,h2,_⟩:=chg_parts h
 unfold chgOk backOf
 by_cases e:c.fKind=3
 ·simp[e,h1,h2,clsNone,nilCls]
 ·simp[e,h1,h2,clsNone,nilCls]
theorem plain_back {p:DLodPlan} {c:DChgChange} (h:turnOk p c=true) (hk:c.fKind=1∨c.fKind=3):turnOk p (backOf c)=true∧turnOk (planMove p c) (backOf c)=true∧planMove (planMove p c) (backOf c)=planMove p (backOf c):=by
 obtain⟨i,k,hi,hx,hc,hp,hq,hm,hx'⟩:=turnOk_parts h
 have hb:=backOf_ok hc
 have hbk:(backOf c).fKeeper=(i:Int):=hi
 have hil:=(List.getElem?_eq_some_iff.1 hx).1
 have m1:=planMove_at (c:=backOf c) hbk hx
 have m2:=planMove_at (c:=backOf c) hbk hx'
 obtain⟨_,_,hd⟩:=chg_parts hc
 have key:turnK (backOf c) (turnK c k)=turnK (backOf c) k∧(turnK (backOf c) k).fOwns.Sublist k.fOwns∧(turnK (backOf c) k).fAsks.Sublist k.fAsks:=by
  rcases hk with e|e
  ·have e1:(backOf c).fKind=2:=by simp[backOf,e]
   have e2:c.fClass.fName=c.fName:=by
    rcases hd with ⟨_,_,_,h9⟩|⟨h9,_⟩|h9|⟨h9,_⟩
    ·exact h9
    all_goals omega
   rw[turn2 e1,turn2 e1,turn1 e,e2]
   refine⟨?_,List.filter_sublist,List.Sublist.refl _⟩
   show(⟨keepN (·.fName) c.fName (keepN (·.fName) c.fName k.fOwns++[c.fClass]),k.fAsks⟩:DLodKeeper)=⟨keepN (·.fName) c.fName k.fOwns,k.fAsks⟩
   rw[keepN_snoc_off e2]
  ·have e1:(backOf c).fKind=4:=by simp[backOf,e]
   rw[turn4 e1,turn4 e1,turn3 e]
   refine⟨?_,List.Sublist.refl _,List.filter_sublist⟩
   show(⟨k.fOwns,keepN (·.fName) c.fName (keepN (·.fName) c.fName k.fAsks++[⟨c.fName,c.fTo⟩])⟩:DLodKeeper)=⟨k.fOwns,keepN (·.fName) c.fName k.fAsks⟩
   rw[keepN_snoc_off (f:=fun a:DLodAsk=>a.fName) (nm:=c.fName) (x:=⟨c.fName,c.fTo⟩) rfl]
 have pm:planMove (planMove p c) (backOf c)=planMove p (backOf c):=by
  have:(planMove (planMove p c) (backOf c)).fKeepers=(planMove p (backOf c)).fKeepers:=by
   rw[m2,m1,hm,List.set_set,key.1]
  cases h1:planMove (planMove p c) (backOf c);cases h2:planMove p (backOf c)
  rw[h1,h2] at this;simpa using this
 have ok:lodOk (planMove p (backOf c))=true:=by
  have:=less_ok hp hx key.2.1 key.2.2
  rw[←m1] at this;exact this
 refine⟨?_,?_,pm⟩
 ·simp only[turnOk,Bool.and_eq_true,decide_eq_true_eq]
  exact⟨⟨⟨hb,hp⟩,by rw[hbk];omega⟩,ok⟩
 ·simp only[turnOk,Bool.and_eq_true,decide_eq_true_eq]
  exact⟨⟨⟨hb,hq⟩,by rw[hbk,hm,List.length_set];omega⟩,by rw[pm];exact ok⟩
def PTurnd (p:DLodPlan) (c:DChgChange) (z:Bool) (W:World) (e:Ending) (w':World):Prop:=(∃ v,e=.returned (.tuple #[.agg #[v],.bool z])∧Sl 2 rLodKeeper 0 w' v (turned p c).fKeepers)∧Below W.heap.size W w'
theorem nilSl {k:Nat} {α:Type} {R:RowRel α} {lo:Nat} {w:World}:Sl k R lo w (.slice none 0 0) ([]:List α):=⟨none,0,0,rfl,rfl,Nat.le_refl _,Nat.zero_le _,fun h=>absurd h (by omega)⟩
theorem turned_ok {p:DLodPlan} {c:DChgChange} (h:turnOk p c=true):turned p c=planMove p c:=by rw[turned,h];rfl

end Go.Proofs.YtmbfpbgkchncgaaGreat
