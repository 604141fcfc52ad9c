/-
  Texts of mine, packed: SameP, Twin, TwinC, TwinP, TurP, DrawPT. No condition beside those of the single theorems.
-/
import Derived.Test.YtmbfpbgkchncgaaGreatK17
import Derived.Test.YtmbfpbgkchncgaaGreatK1
import Derived.Test.YtmbfpbgkchncgaaGreatK19
import Derived.Test.YtmbfpbgkchncgaaGreatK11
import Derived.Test.YtmbfpbgkchncgaaGreatK18
import Derived.Deep.CutRange
import Derived.Deep.CutBlock
set_option linter.unusedSimpArgs false
set_option linter.unusedVariables false
set_option maxHeartbeats 16000000
set_option maxRecDepth 100000
namespace Go.Proofs.YtmbfpbgkchncgaaGreat
open Go.RowKit
theorem tl_inj {a b:ByteArray}:a.toList=b.toList↔a=b:=by
 rw[←sameN_iff];simp[sameN]
theorem eqL_iff {α:Type} {f:α→α→Bool} (hf:∀ a b,f a b=true↔a=b) {xs ys:List α}:eqL f xs ys=true↔xs=ys:=by
 constructor
 ·intro h
  simp only[eqL,Bool.and_eq_true,decide_eq_true_eq] at h
  obtain⟨hl,h⟩:=h
  refine List.ext_getElem? fun i=>?_
  by_cases hi:i < xs.length
  ·have hx:=List.getElem?_eq_getElem hi
   have hy:=List.getElem?_eq_getElem (l:=ys) (i:=i) (by omega)
   have h9:=each_iff.1 h i _ hx
   simp only[eqAt,hy] at h9
   rw[hx,hy,(hf _ _).1 h9]
  ·rw[List.getElem?_eq_none (by omega),List.getElem?_eq_none (by omega)]
 ·rintro rfl
  simp only[eqL,Bool.and_eq_true,decide_eq_true_eq,true_and]
  refine each_iff.2 fun k x hx=>?_
  simp only[eqAt,hx]
  exact(hf _ _).2 rfl
theorem insEq_iff (a b:DClsIns):insEq a b=true↔a=b:=by
 cases a;cases b
 simp[insEq,tl_inj,and_assoc]
theorem tagEq_iff' (a b:DTagTag):tagEq a b=true↔a=b:=by
 cases a;cases b
 simp[tagEq,tl_inj,and_assoc]
theorem fldEq_iff (a b:DClsField):fldEq a b=true↔a=b:=by
 cases a;cases b
 simp[fldEq,tl_inj,kndEq_iff]
theorem mapEq_iff (a b:DClsMap):mapEq a b=true↔a=b:=by
 cases a;cases b
 simp[mapEq,eqL_iff tagEq_iff',and_assoc]
theorem sameArgs_iff {xs ys:List DKndKind}:sameArgs xs ys=true↔xs=ys:=by
 have:sameArgs xs ys=eqL kndEq xs ys:=by
  have:argAt ys=eqAt kndEq ys:=by funext k x;unfold argAt eqAt;cases ys[k]? <;>rfl
  unfold sameArgs eqL;rw[this]
 rw[this];exact eqL_iff (fun a b=>kndEq_iff)
theorem mthEq_iff (a b:DClsMethod):mthEq a b=true↔a=b:=by
 cases a;cases b
 simp only[mthEq,sameSig,Bool.and_eq_true,beq_iff_eq,tl_inj,kndEq_iff,sameArgs_iff,eqL_iff insEq_iff,eqL_iff mapEq_iff,DClsMethod.mk.injEq]
 constructor
 ·rintro⟨⟨⟨⟨⟨h1,h2,h3⟩,h4⟩,h5⟩,h6⟩,h7⟩;exact⟨h1,h3,h2,h4,h5,h6,h7⟩
 ·rintro⟨h1,h3,h2,h4,h5,h6,h7⟩;exact⟨⟨⟨⟨⟨h1,h2,h3⟩,h4⟩,h5⟩,h6⟩,h7⟩
theorem clsEq_iff (a b:DClsClass):clsEq a b=true↔a=b:=by
 cases a;cases b
 simp[clsEq,tl_inj,eqL_iff fldEq_iff,eqL_iff mthEq_iff,and_assoc]
def askEq (a b:DLodAsk):Bool:=a.fName.toList == b.fName.toList && a.fKeeper == b.fKeeper
theorem askEq_iff (a b:DLodAsk):askEq a b=true↔a=b:=by
 cases a;cases b
 simp[askEq,tl_inj]
def kprEq (a b:DLodKeeper):Bool:=eqL clsEq a.fOwns b.fOwns && eqL askEq a.fAsks b.fAsks
theorem kprEq_iff (a b:DLodKeeper):kprEq a b=true↔a=b:=by
 cases a;cases b
 simp[kprEq,eqL_iff clsEq_iff,eqL_iff askEq_iff]
def planEq (a b:DLodPlan):Bool:=eqL kprEq a.fKeepers b.fKeepers
theorem planEq_iff (a b:DLodPlan):planEq a b=true↔a=b:=by
 cases a;cases b
 simp[planEq,eqL_iff kprEq_iff]

theorem Sl.rowAt {α:Type} {k:Nat} {R:RowRel α} {lo:Nat} {w:World} {v:Value} {xs:List α} (h:Sl k R lo w v xs) {i:Nat} {x:α} (hx:xs[i]? =some x):∃ g off cap cs,v=.slice (some ⟨g,off,none⟩) xs.length cap∧xs.length≤cap∧g < w.heap.size∧cs.length=k∧(∀ j u,cs[j]? =some u→w.cell? ⟨g,off+i * k+j,none⟩=some u)∧R lo w cs x:=by
 obtain⟨a,n,cap,rfl,hl,h1,h2,h3⟩:=h
 have hi:=(List.getElem?_eq_some_iff.1 hx).1
 obtain⟨g,off,rfl,_,hg,hr⟩:=h3 (by omega)
 obtain⟨y,cs,e0,e1,e2,e3⟩:=hr i (by omega)
 obtain rfl:x=y:=Option.some.inj (hx.symm.trans e0)
 exact⟨g,off,cap,cs,by rw[hl],by omega,hg,e1,e2,e3⟩
theorem row_there {w:World} {b k:Nat} {cs:Array Value} {t:TypeId} (h:w.heap[b]? =some (.cells cs t (0,0))) (hk:cs.size=k):w.there b 0 k:=fun j hj=>by
 rw[Nat.zero_add]
 refine⟨?_,by simp[World.frozen?,h]⟩
 simp only[World.cell?,h]
 have hj2:j < cs.size:=by omega
 simp[hj2]

theorem KeepsT.of_turnLo {E:TypeId→Prop} {lo b:Nat} {w w':World} (h:Turn b w w') (hb:b < lo):KeepsT E lo w w':=⟨Nat.le_of_eq (by first|exact h.size|exact h.size.symm),fun g cs e fr hl _ _=>h.block g (by omega)⟩
theorem KeepsT.of_set {E:TypeId→Prop} {lo b o:Nat} {v:Value} {w:World} (hb:b < lo):KeepsT E lo w (w.setCell ⟨b,o,none⟩ v):=⟨by simp[World.setCell],fun g cs e fr hl _ _=>Below.heap_setCell _ _ _ _ (by show g≠b;omega)⟩
theorem TOwn.setLo {α:Type} {k:Nat} {E:TypeId→Prop} {R:RowRel α} {e:TypeId} {lo B b o:Nat} {u:Value} {w:World} {v:Value} {xs:List α} (h:TOwn k R e lo B w v xs) (hR:GoodT E R) (hb:b < lo):TOwn k R e lo B (w.setCell ⟨b,o,none⟩ u) v xs:=⟨h.sl.stays (E:=fun _=>True) (hR.mono fun _ _=>trivial) trivial (KeepsT.of_set hb),h.own⟩
def twF (L X M G go n cap ii:Nat) (mv sv tv:Value) (x:DClsMap):Nat→Value→World→Prop
 | 0,v,w=>v=.pointer (some ⟨X,7,none⟩)
 | 1,v,w=>v=mv
 | 2,v,w=>v=.pointer (some ⟨M,7,none⟩)
 | 3,v,w=>v=.slice (some ⟨G,go,none⟩) n cap
 | 4,v,w=>v=.int .i64 (ii:Int)
 | 5,v,w=>v=.pointer (some ⟨G,go+ii * 3,none⟩)
 | 6,v,w=>v=.pointer (some ⟨G,go+ii * 3,none⟩)
 | 7,v,w=>v=.int .i64 x.fAt
 | 8,v,w=>v=.pointer (some ⟨M,7,none⟩)
 | 9,v,w=>v=.slice (some ⟨G,go,none⟩) n cap
 | 10,v,w=>v=.int .i64 (ii:Int)
 | 11,v,w=>v=.pointer (some ⟨G,go+ii * 3,none⟩)
 | 12,v,w=>v=.pointer (some ⟨G,go+ii * 3+1,none⟩)
 | 13,v,w=>v=sv
 | 14,v,w=>TOwn 2 rTagTag 165 L L w v x.fLocals
 | 15,v,w=>v=.pointer (some ⟨M,7,none⟩)
 | 16,v,w=>v=.slice (some ⟨G,go,none⟩) n cap
 | 17,v,w=>v=.int .i64 (ii:Int)
 | 18,v,w=>v=.pointer (some ⟨G,go+ii * 3,none⟩)
 | 19,v,w=>v=.pointer (some ⟨G,go+ii * 3+2,none⟩)
 | 20,v,w=>v=tv
 | 21,v,w=>TOwn 2 rTagTag 165 L L w v x.fStack
 | 22,v,w=>∃ va vb,v=.agg #[.int .i64 x.fAt,va,vb]∧TOwn 2 rTagTag 165 L L w va x.fLocals∧TOwn 2 rTagTag 165 L L w vb x.fStack
 | 23,v,w=>∃ va vb,Src 3 w v [[.int .i64 x.fAt,va,vb]]∧TOwn 2 rTagTag 165 L L w va x.fLocals∧TOwn 2 rTagTag 165 L L w vb x.fStack
 | _,_,_=>True
theorem twF_stays {L X M G go n cap ii:Nat} {mv sv tv:Value} {x:DClsMap}:∀ i j u w w',i≠j→Below w.heap.size w w'→twF L X M G go n cap ii mv sv tv x i u w→twF L X M G go n cap ii mv sv tv x i u w':=by
 intro i j u w w' hne hg h
 match i with
 | 0|1|2|3|4|5|6|7|8|9|10|11|12|13|15|16|17|18|19|20=>exact h
 | 14=>
   exact h.below (E:=NoT) (rTagTag_goodT.mono fun _ h=>h) hg
 | 21=>
   exact h.below (E:=NoT) (rTagTag_goodT.mono fun _ h=>h) hg
 | 22=>
   obtain⟨va,vb,h1,h2,h3⟩:=h
   exact⟨va,vb,h1,h2.below (E:=NoT) (rTagTag_goodT.mono fun _ h=>h) hg,h3.below (E:=NoT) (rTagTag_goodT.mono fun _ h=>h) hg⟩
 | 23=>
   obtain⟨va,vb,h1,h2,h3⟩:=h
   exact⟨va,vb,Src.kept (k:=3) h1 hg,h2.below (E:=NoT) (rTagTag_goodT.mono fun _ h=>h) hg,h3.below (E:=NoT) (rTagTag_goodT.mono fun _ h=>h) hg⟩
 | n+24=>trivial

theorem S_l9Twin (m:DClsMethod) (a1:Option Addr) (n1 d1:Nat) (a2:Option Addr) (n2 d2:Nat) (a3:Option Addr) (n3 d3:Nat) (w:World) (s1:Sl 2 rKndKind 0 w (.slice a1 n1 d1) m.fArgs) (s2:Sl 4 rClsIns 0 w (.slice a2 n2 d2) m.fCode) (s3:Sl 3 rClsMap 0 w (.slice a3 n3 d3) m.fMaps) (hnm:m.fName.size≤maxLen) (hrn:m.fRet.fName.size≤maxLen) (hsh:ShortM m) :
  Calls Tryz.prog 112 #[.agg #[.string m.fName,.slice a1 n1 d1,.int .i64 m.fRet.fKind,.string m.fRet.fName,.int .i64 m.fLocals,.int .i64 m.fStack,.slice a2 n2 d2,.slice a3 n3 d3]] w (CopyM w m):=by
 obtain⟨q1,q2,q3,q4⟩:=hsh
 have HQ1:=qhd q1
 have HQ2:=qhd q2
 have HQ3:=qhd q3
 have HQ4:=qhd q4
 have HS1:=qhd s1
 have HS2:=qhd s2
 have HS3:=qhd s3
 have HNM:=qhd hnm
 have HRN:=qhd hrn
 obtain⟨hn3,hc3,hm3⟩:=s3.len
 have HN3:=qhd hn3
 have z3:n3≤9223372036854775807:=by unfold maxLen at hm3;omega
 clear s1 s2 s3 hnm hrn q1 q2 q3 q4 hn3 hm3
 refine qac fun R HR=>?_
 go_enter Tryz.func112,Tryz.ntmps112
 go_upto_region 2 with fail
 refine nameW (P:=fun W=>Code.wp _ _ _ _ W) _ (fun wA hwA=>?_)
 have hBA:Below w.heap.size w wA:=by rw[hwA];exact bbel
 have hzA:wA.heap.size=w.heap.size+1+1+1:=by rw[hwA];simp[World.setCell]
 have HMA:Hid (wA.heap[w.heap.size]? =some (.cells #[.string m.fName,.slice a1 n1 d1,.int .i64 m.fRet.fKind,.string m.fRet.fName,.int .i64 m.fLocals,.int .i64 m.fStack,.slice a2 n2 d2,.slice a3 n3 d3] 76 (0,0))):=qhd (by
  rw[hwA];exact(Below.heap_alloc _ _ _ (by simp;omega)).trans ((Below.heap_alloc _ _ _ (by simp)).trans (heap_alloc_new w _)))
 have HRA:Hid (wA.heap[w.heap.size+1]? =some (.cells #[.string ⟨#[]⟩,.slice none 0 0,.int .i64 0,.string ⟨#[]⟩,.int .i64 0,.int .i64 0,.slice none 0 0,.slice none 0 0] 76 (0,0))):=qhd (by
  rw[hwA];refine(Below.heap_alloc _ _ _ (by simp)).trans ?_;have:=heap_alloc_new (w.alloc (.cells #[.string m.fName,.slice a1 n1 d1,.int .i64 m.fRet.fKind,.string m.fRet.fName,.int .i64 m.fLocals,.int .i64 m.fStack,.slice a2 n2 d2,.slice a3 n3 d3] 76)) (.cells #[.string ⟨#[]⟩,.slice none 0 0,.int .i64 0,.string ⟨#[]⟩,.int .i64 0,.int .i64 0,.slice none 0 0,.slice none 0 0] 76);rw[World.size_alloc] at this;exact this)
 have HXA:Hid (wA.heap[w.heap.size+1+1]? =some (.cells #[.string m.fName,.slice a1 n1 d1,.int .i64 m.fRet.fKind,.string m.fRet.fName,.int .i64 m.fLocals,.int .i64 m.fStack,.slice a2 n2 d2,.slice a3 n3 d3] 76 (0,0))):=qhd (by
  rw[hwA];have:=heap_alloc_new ((w.alloc (.cells #[.string m.fName,.slice a1 n1 d1,.int .i64 m.fRet.fKind,.string m.fRet.fName,.int .i64 m.fLocals,.int .i64 m.fStack,.slice a2 n2 d2,.slice a3 n3 d3] 76)).alloc (.cells #[.string ⟨#[]⟩,.slice none 0 0,.int .i64 0,.string ⟨#[]⟩,.int .i64 0,.int .i64 0,.slice none 0 0,.slice none 0 0] 76)) (.cells #[.string m.fName,.slice a1 n1 d1,.int .i64 m.fRet.fKind,.string m.fRet.fName,.int .i64 m.fLocals,.int .i64 m.fStack,.slice a2 n2 d2,.slice a3 n3 d3] 76);rw[World.size_alloc,World.size_alloc] at this;exact this)
 clear hwA
 obtain⟨L,hL,hL2⟩:∃ L,w.heap.size+1+1 < L∧L≤wA.heap.size:=⟨w.heap.size+1+1+1,by omega,by omega⟩
 have HBA:=qhd hBA
 clear hBA
 replace hzA:=hL2
 clear hL2
 have S1:=qhd (HS1.out.stays qau (Keeps.of_below HBA.out))
 have hB0:Below wA.heap.size wA (wA.alloc (.cells #[] 59)):=(Below.refl _ _).alloc (Nat.le_refl _) _
 have HB01:=qhd hB0
 have HZ1:=qhd (Nat.le_trans hzA hB0.size)
 have S1B:=qhd (S1.out.stays qau (Keeps.of_below hB0))
 have HE1:=qhd (Empty0.new (B:=L) wA 59 (by omega))
 have c1:=((eightC HMA.out).1.2.1)
 have x1:=((eightC HXA.out).1.2.1)
 have xf1:=(eightC HXA.out).2 1
 have hl0:w.heap.size < wA.heap.size:=by omega
 have hl2:w.heap.size+1+1 < wA.heap.size:=by omega
 clear hB0
 go_upto_region 3 with (at_builtin;refine wpList_append_copyS (B:=L) (lo:=L) (R:=rKndKind) (by rfl) (.tmp 6) (.tmp 8) 72 (by rfl) sty_Knd (by decide) rKndKind_one (by rfl) (by rfl) HE1.out S1B.out HQ1.out (Nat.le_refl _) HZ1.out ?_;intro v1 wB css1 ht hr hb;have T1:=qhd (ht.toT (R:=rKndKind) (hr.mono fun _ _ h=>h)).plain;have HBB1:=qhd (HB01.out.trans (hb.mono HB01.out.size));obtain⟨va1,vn1,vc1,hv1⟩:=ht.plain.sl.form3;subst hv1;have y1:=qaa HBB1.out x1;have yf1:=qap HBB1.out hl2 xf1;have hzB:=HBB1.out.size;have hl1q:w.heap.size+1+1 < wB.heap.size:=(by omega);clear ht hr hb)
 refine nameW (P:=fun W=>Code.wp _ _ _ _ W) _ (fun wC hwC=>?_)
 have hzC:L≤wC.heap.size:=by rw[hwC];simp only[World.setCell,Array.size_modify];omega
 have hkC:∀ b,b≠w.heap.size+1+1→wC.heap[b]? =wB.heap[b]? :=fun b hb=>by rw[hwC];exact Below.heap_setCell _ _ _ _ hb
 have HBC:Hid (Below w.heap.size w wC):=qhd (by rw[hwC];exact(HBA.out.trans (HBB1.out.mono HBA.out.size)).setCell (by show w.heap.size≤w.heap.size+1+1;omega) _)
 have HMC:=qhd ((hkC w.heap.size (by omega)).trans ((HBB1.out.block _ (by omega)).trans HMA.out))
 have HRC:=qhd ((hkC (w.heap.size+1) (by omega)).trans ((HBB1.out.block _ (by omega)).trans HRA.out))
 have HXC:Hid (wC.heap[w.heap.size+1+1]? =some (.cells #[.string m.fName,.slice va1 vn1 vc1,.int .i64 m.fRet.fKind,.string m.fRet.fName,.int .i64 m.fLocals,.int .i64 m.fStack,.slice a2 n2 d2,.slice a3 n3 d3] 76 (0,0))):=qhd (by rw[hwC];exact qar ((HBB1.out.block _ (by omega)).trans HXA.out))
 have T1C:Hid (TOwn 2 rKndKind 59 L L wC (.slice va1 vn1 vc1) m.fArgs):=qhd (by rw[hwC];exact T1.out.set (rKndKind_goodT.mono fun _ h=>h.elim) (by omega))
 clear hzB hwC c1 x1 xf1 y1 yf1 hkC hl1q T1 hl0 hl2
 have S2:=qhd (HS2.out.stays qaw (Keeps.of_below HBC.out))
 have hB0:Below wC.heap.size wC (wC.alloc (.cells #[] 136)):=(Below.refl _ _).alloc (Nat.le_refl _) _
 have HB02:=qhd hB0
 have HZ2:=qhd (Nat.le_trans hzC hB0.size)
 have S2B:=qhd (S2.out.stays qaw (Keeps.of_below hB0))
 have HE2:=qhd (Empty0.new (B:=L) wC 136 (by omega))
 have c6:=((eightC HMC.out).1.2.2.2.2.2.2.1)
 have x6:=((eightC HXC.out).1.2.2.2.2.2.2.1)
 have xf6:=(eightC HXC.out).2 6
 have hl0:w.heap.size < wC.heap.size:=by omega
 have hl2:w.heap.size+1+1 < wC.heap.size:=by omega
 clear hB0
 go_upto_region 4 with (at_builtin;refine wpList_append_copyS (B:=L) (lo:=L) (R:=rClsIns) (by rfl) (.tmp 11) (.tmp 13) 73 (by rfl) sty_Ins (by decide) rClsIns_one (by rfl) (by rfl) HE2.out S2B.out HQ2.out (Nat.le_refl _) HZ2.out ?_;intro v2 wD css2 ht hr hb;have T2:=qhd (ht.toT (R:=rClsIns) (hr.mono fun _ _ h=>h)).plain;have HBB2:=qhd (HB02.out.trans (hb.mono HB02.out.size));obtain⟨va2,vn2,vc2,hv2⟩:=ht.plain.sl.form3;subst hv2;have y6:=qaa HBB2.out x6;have yf6:=qap HBB2.out hl2 xf6;have hzD:=HBB2.out.size;have hl2q:w.heap.size+1+1 < wD.heap.size:=(by omega);clear ht hr hb)
 refine nameW (P:=fun W=>Code.wp _ _ _ _ W) _ (fun wE hwE=>?_)
 have hzE:L≤wE.heap.size:=by rw[hwE];simp only[World.setCell,Array.size_modify];omega
 have hkE:∀ b,b≠w.heap.size+1+1→wE.heap[b]? =wD.heap[b]? :=fun b hb=>by rw[hwE];exact Below.heap_setCell _ _ _ _ hb
 have HBE:Hid (Below w.heap.size w wE):=qhd (by rw[hwE];exact(HBC.out.trans (HBB2.out.mono HBC.out.size)).setCell (by show w.heap.size≤w.heap.size+1+1;omega) _)
 have HME:=qhd ((hkE w.heap.size (by omega)).trans ((HBB2.out.block _ (by omega)).trans HMC.out))
 have HRE:=qhd ((hkE (w.heap.size+1) (by omega)).trans ((HBB2.out.block _ (by omega)).trans HRC.out))
 have HXE:Hid (wE.heap[w.heap.size+1+1]? =some (.cells #[.string m.fName,.slice va1 vn1 vc1,.int .i64 m.fRet.fKind,.string m.fRet.fName,.int .i64 m.fLocals,.int .i64 m.fStack,.slice va2 vn2 vc2,.slice a3 n3 d3] 76 (0,0))):=qhd (by rw[hwE];exact qar ((HBB2.out.block _ (by omega)).trans HXC.out))
 have T2E:Hid (TOwn 4 rClsIns 136 L L wE (.slice va2 vn2 vc2) m.fCode):=qhd (by rw[hwE];exact T2.out.set (rClsIns_goodT.mono fun _ h=>h.elim) (by omega))
 have T1E:Hid (TOwn 2 rKndKind 59 L L wE (.slice va1 vn1 vc1) m.fArgs):=qhd (by rw[hwE];exact(T1C.out.below (E:=NoT) rKndKind_goodT HBB2.out).set (rKndKind_goodT.mono fun _ h=>h.elim) (by omega))
 clear hzD hwE c6 x6 xf6 y6 yf6 hkE hl2q T2 hl0 hl2
 have x7:=((eightC HXE.out).1.2.2.2.2.2.2.2)
 have xf7:=(eightC HXE.out).2 7
 have hl2:w.heap.size+1+1 < wE.heap.size:=by omega
 go_upto_region 6 with fail
 refine nameW (P:=fun W=>Code.wp _ _ _ _ W) _ (fun wF hwF=>?_)
 have hzF:L≤wF.heap.size:=by rw[hwF];simp only[World.setCell,Array.size_modify,World.size_alloc];omega
 obtain⟨wD0,hwD0⟩:∃ W,W=wE.setCell ⟨w.heap.size+1+1,7,none⟩ (.slice (some ⟨wE.heap.size,0,none⟩) 0 0):=⟨_,rfl⟩
 rw[←hwD0] at hwF
 have hs0:wD0.heap.size=wE.heap.size:=by rw[hwD0];simp[World.setCell]
 have hb0:Below wD0.heap.size wD0 wF:=by rw[hwF];exact(Below.refl _ _).alloc (Nat.le_refl _) _
 have hkF:∀ b,b < wE.heap.size→b≠w.heap.size+1+1→wF.heap[b]? =wE.heap[b]? :=fun b hl hb=>(hb0.block b (by omega)).trans (by rw[hwD0];exact Below.heap_setCell _ _ _ _ hb)
 have HBF:Hid (Below w.heap.size w wF):=qhd ((show Below w.heap.size w wD0 by rw[hwD0];exact HBE.out.setCell (by show w.heap.size≤w.heap.size+1+1;omega) _).trans (hb0.mono (by omega)))
 have HMF:=qhd ((hkF w.heap.size (by omega) (by omega)).trans HME.out)
 have HRF:=qhd ((hkF (w.heap.size+1) (by omega) (by omega)).trans HRE.out)
 have HXF:Hid (wF.heap[w.heap.size+1+1]? =some (.cells #[.string m.fName,.slice va1 vn1 vc1,.int .i64 m.fRet.fKind,.string m.fRet.fName,.int .i64 m.fLocals,.int .i64 m.fStack,.slice va2 vn2 vc2,.slice (some ⟨wE.heap.size,0,none⟩) 0 0] 76 (0,0))):=qhd ((hb0.block _ (by omega)).trans (by rw[hwD0];exact qar HXE.out))
 have T1F:Hid (TOwn 2 rKndKind 59 L L wF (.slice va1 vn1 vc1) m.fArgs):=qhd ((show TOwn 2 rKndKind 59 L L wD0 (.slice va1 vn1 vc1) m.fArgs by rw[hwD0];exact T1E.out.setLo rKndKind_goodT hL).below (E:=NoT) rKndKind_goodT hb0)
 have T2F:Hid (TOwn 4 rClsIns 136 L L wF (.slice va2 vn2 vc2) m.fCode):=qhd ((show TOwn 4 rClsIns 136 L L wD0 (.slice va2 vn2 vc2) m.fCode by rw[hwD0];exact T2E.out.setLo rClsIns_goodT hL).below (E:=NoT) rClsIns_goodT hb0)
 have T3F:Hid (TOwn 3 tClsMap 139 L L wF (.slice (some ⟨wE.heap.size,0,none⟩) 0 0) []):=qhd (by
  have h9:=(Empty0.new (B:=L) wD0 139 (by omega)).own (α:=DClsMap) (k:=3) (R:=tClsMap) (lo:=L) (Nat.le_refl _)
  rw[hs0,←hwF] at h9;exact h9)
 clear hwD0 hs0
 clear hwF hkF hb0 x7 xf7 hl2
 go_loopw [4] (fun zi wr=>∃ (i:Nat) (mv:Value),i≤n3∧zi=.int .i64 (i:Int)∧wr.heap[w.heap.size]? =some (.cells #[.string m.fName,.slice a1 n1 d1,.int .i64 m.fRet.fKind,.string m.fRet.fName,.int .i64 m.fLocals,.int .i64 m.fStack,.slice a2 n2 d2,.slice a3 n3 d3] 76 (0,0))∧wr.heap[w.heap.size+1]? =some (.cells #[.string ⟨#[]⟩,.slice none 0 0,.int .i64 0,.string ⟨#[]⟩,.int .i64 0,.int .i64 0,.slice none 0 0,.slice none 0 0] 76 (0,0))∧wr.heap[w.heap.size+1+1]? =some (.cells #[.string m.fName,.slice va1 vn1 vc1,.int .i64 m.fRet.fKind,.string m.fRet.fName,.int .i64 m.fLocals,.int .i64 m.fStack,.slice va2 vn2 vc2,mv] 76 (0,0))∧TOwn 3 tClsMap 139 L L wr mv (m.fMaps.take i)∧Below w.heap.size w wr∧KeepsT (NotT 139) L wF wr) (fun zi _=>n3-(intOf zi).toNat)
 case atStart=>exact⟨0,_,Nat.zero_le _,rfl,HMF.out,HRF.out,HXF.out,T3F.out,HBF.out,KeepsT.refl _ _ _⟩
 case round=>
  obtain⟨i,mv,hi,rfl,hM,hR,hX,hT,hB,hK⟩:=hrel
  obtain⟨ma,mn,mc,rfl⟩:=hT.sl.form3
  have HT:=qhd hT
  have HB:=qhd hB
  have HK:=qhd hK
  have HM:=qhd hM
  have HRS:=qhd hR
  have HX:=qhd hX
  have hks:=hK.size
  have hzr:L≤wr.heap.size:=by omega
  have hl0:w.heap.size < wr.heap.size:=by omega
  have hl2:w.heap.size+1+1 < wr.heap.size:=by omega
  have m7:=((eightC HM.out).1.2.2.2.2.2.2.2)
  by_cases hlt:i < n3
  rotate_left
  ·obtain rfl:i=n3:=by omega
   have hfull:m.fMaps.take i=m.fMaps:=List.take_of_length_le (Nat.le_of_eq HN3.out)
   rw[hfull] at hT
   have T3R:=qhd hT.sl
   have T1R:=qhd (T1F.out.sl.stays (E:=NotT 139) (rKndKind_goodT.mono fun _ h=>h.elim) (by show _≠_;decide) hK)
   have T2R:=qhd (T2F.out.sl.stays (E:=NotT 139) (rClsIns_goodT.mono fun _ h=>h.elim) (by show _≠_;decide) hK)
   obtain⟨⟨c0,c1,c2,c3,c4,c5,c6,c7⟩,_⟩:=eightC hX
   have TH:Hid (wr.there (w.heap.size+1) 0 8):=qhd (row_there hR rfl)
   have HI:Hid ((Tryz.prog.info? 76).map (·.size)=some 8):=qhd (by kernel_rfl)
   clear hM hR hX hT hB hK hfull
   go_wp2_with (refine wpList_store_row (by rfl) 76 (.tmp 2) (.tmp 51) (by rfl) (w.heap.size+1) [.string m.fName,.slice va1 vn1 vc1,.int .i64 m.fRet.fKind,.string m.fRet.fName,.int .i64 m.fLocals,.int .i64 m.fStack,.slice va2 vn2 vc2,.slice ma mn mc] (by rfl) (by rfl) TH.out HI.out (by simp[Value.oneCell']) ?_)
   intro w5 hr5 ht5 hT5
   have hb5:Below w.heap.size w w5:=HB.out.trans (hT5.below (by omega))
   have hz5:=hT5.size
   obtain⟨_,x0,x1,x2,x3,x4,x5,x6,x7,_⟩:=Eight.of (by omega) hr5 ht5
   have hK5:KeepsT (fun _=>True) L wr w5:=KeepsT.of_turnLo hT5 (by omega)
   have T1E:=qhd ((T1R.out.stays (rKndKind_goodT.mono fun _ _=>trivial) trivial hK5).low' (E:=NoT) rKndKind_goodT (lo':=w.heap.size) (by omega))
   have T2E:=qhd ((T2R.out.stays (rClsIns_goodT.mono fun _ _=>trivial) trivial hK5).low' (E:=NoT) rClsIns_goodT (lo':=w.heap.size) (by omega))
   have T3E:=qhd ((T3R.out.stays (tClsMap_goodT.mono fun _ _=>trivial) trivial hK5).low' tClsMap_goodT (lo':=w.heap.size) (by omega))
   clear hr5 ht5 hT5 hK5 T1R T2R T3R c0 c1 c2 c3 c4 c5 c6 c7
   go_wp2
   all_goals
    refine bodyPost_ret (v:=?_) ?hrun rfl ?_
    case hrun=>(simp only[results,Tryz.results112];go_simp;first|done|exact rfl)
    exact HR.out _ _ ⟨⟨_,rfl,_,_,_,rfl,T1E.out,T2E.out,T3E.out,HNM.out,HRN.out⟩,hb5⟩
  have hlt2:(i:Int) < (n3:Int):=by omega
  obtain⟨x,hx⟩:∃ x,m.fMaps[i]? =some x:=⟨_,List.getElem?_eq_getElem (by rw[HN3.out];exact hlt)⟩
  obtain⟨G,go,cap,cs,e,hnc,hG,hcs,hcell,hrow⟩:=(HS3.out.stays qax (Keeps.of_below hB)).rowAt hx
  rw[HN3.out] at e hnc
  cases e
  obtain⟨u1,u2,rfl,p1,p2⟩:=hrow
  obtain⟨sa,sn,sc,rfl⟩:=p1.form
  obtain⟨ta,tn,tc,rfl⟩:=p2.form
  have g0:wr.cell? ⟨G,go+i * 3,none⟩=some (.int .i64 x.fAt):=hcell 0 _ rfl
  have g1:wr.cell? ⟨G,go+i * 3+1,none⟩=some (.slice sa sn sc):=hcell 1 _ rfl
  have g2:wr.cell? ⟨G,go+i * 3+2,none⟩=some (.slice ta tn tc):=hcell 2 _ rfl
  obtain⟨hxl,hxs⟩:=HQ4.out x (List.mem_of_getElem? hx)
  have x7:=((eightC HX.out).1.2.2.2.2.2.2.2)
  have hcap:(i:Int)≤(d3:Int):=by omega
  have HXX:=qhd hx
  have P1:=qhd p1
  have P2:=qhd p2
  have CLA:Hid (∀ W,Below wr.heap.size wr W→Calls Tryz.prog 142 #[.slice sa sn sc] W fun e w'=>(∃ v,e=.returned v∧TOwn 2 rTagTag 165 L L w' v x.fLocals)∧Below W.heap.size W w'):=qhd fun W hW=>(S_l9Tags2 _ _ W (P1.out.stays qat (Keeps.of_below hW)) hxl).mono fun e w' h=>by
   obtain⟨⟨v,h1,h2⟩,h3⟩:=h
   have:=hW.size
   exact⟨⟨v,h1,h2.sl.low' (E:=NoT) rTagTag_goodT (by omega),fun b hb=>by have:=h2.own b hb;omega⟩,h3⟩
  have CLB:Hid (∀ W,Below wr.heap.size wr W→Calls Tryz.prog 142 #[.slice ta tn tc] W fun e w'=>(∃ v,e=.returned v∧TOwn 2 rTagTag 165 L L w' v x.fStack)∧Below W.heap.size W w'):=qhd fun W hW=>(S_l9Tags2 _ _ W (P2.out.stays qat (Keeps.of_below hW)) hxs).mono fun e w' h=>by
   obtain⟨⟨v,h1,h2⟩,h3⟩:=h
   have:=hW.size
   exact⟨⟨v,h1,h2.sl.low' (E:=NoT) rTagTag_goodT (by omega),fun b hb=>by have:=h2.own b hb;omega⟩,h3⟩
  clear hM hR hX hT hB hK hx p1 p2 hcell hcs
  go_wp2_with fail
  refine qav 24 (Below wr.heap.size wr) (fun _ w1 w2=>Below w1.heap.size w1 w2) (fun _=>twF L (w.heap.size+1+1) w.heap.size G go n3 d3 i (.slice ma mn mc) (.slice sa sn sc) (.slice ta tn tc) x) (fun _ _=>True) noDead (by kernel_rfl) (by decide) (by kernel_rfl) (Or.inr ⟨by kernel_rfl,by kernel_rfl⟩) (by kernel_rfl) ((Below.refl _ _).drew) (fun _ _ _ _ _ _ _ _ _ h=>h) noDead_dead (fun _=>trivial) (fun _ _ _ _ _ _ _ _=>trivial) (fun _ i j u w1 w2 hne _ _ hg hF=>twF_stays i j u w1 w2 hne hg hF) (fun _ _ _=>Below.refl _ _) ?_
  refine qab (d:=25) rfl rfl (fun wx hC hI hd S0 hS=>?_) (fun v0=>?_)
  ·have HSS:=qhd hS;clear hS hd hI
   go_simp
   exact HSS.out _ _ hC (Below.refl _ _) (by simp[twF])
  simp only[qnr]
  refine qab (d:=26) rfl rfl (fun wx hC hI hd S0 hS=>?_) (fun v1=>?_)
  ·have d0:=hd ⟨0,.data⟩ (by simp) rfl v0 (by simp)
   simp only[twF] at d0
   subst d0
   have c0':=qaa hC x7
   have HSS:=qhd hS;clear hS hd hI
   go_simp
   exact HSS.out _ _ hC (Below.refl _ _) (by simp[twF])
  simp only[qnr]
  refine qab (d:=27) rfl rfl (fun wx hC hI hd S0 hS=>?_) (fun v2=>?_)
  ·have HSS:=qhd hS;clear hS hd hI
   go_simp
   exact HSS.out _ _ hC (Below.refl _ _) (by simp[twF])
  simp only[qnr]
  refine qab (d:=28) rfl rfl (fun wx hC hI hd S0 hS=>?_) (fun v3=>?_)
  ·have d2:=hd ⟨2,.data⟩ (by simp) rfl v2 (by simp)
   simp only[twF] at d2
   subst d2
   have c1':=qaa hC m7
   have HSS:=qhd hS;clear hS hd hI
   go_simp
   exact HSS.out _ _ hC (Below.refl _ _) (by simp[twF])
  simp only[qnr]
  refine qab (d:=29) rfl rfl (fun wx hC hI hd S0 hS=>?_) (fun v4=>?_)
  ·have HSS:=qhd hS;clear hS hd hI
   go_simp
   exact HSS.out _ _ hC (Below.refl _ _) (by simp[twF])
  simp only[qnr]
  refine qab (d:=30) rfl rfl (fun wx hC hI hd S0 hS=>?_) (fun v5=>?_)
  ·have d3:=hd ⟨3,.data⟩ (by simp) rfl v3 (by simp)
   simp only[twF] at d3
   subst d3
   have d4:=hd ⟨4,.data⟩ (by simp) rfl v4 (by simp)
   simp only[twF] at d4
   subst d4
   have HSS:=qhd hS;clear hS hd hI
   go_simp
   exact HSS.out _ _ hC (Below.refl _ _) (by simp[twF])
  simp only[qnr]
  refine qab (d:=31) rfl rfl (fun wx hC hI hd S0 hS=>?_) (fun v6=>?_)
  ·have d5:=hd ⟨5,.data⟩ (by simp) rfl v5 (by simp)
   simp only[twF] at d5
   subst d5
   have HSS:=qhd hS;clear hS hd hI
   go_simp
   exact HSS.out _ _ hC (Below.refl _ _) (by simp[twF])
  simp only[qnr]
  refine qab (d:=32) rfl rfl (fun wx hC hI hd S0 hS=>?_) (fun v7=>?_)
  ·have d6:=hd ⟨6,.data⟩ (by simp) rfl v6 (by simp)
   simp only[twF] at d6
   subst d6
   have c2':=qaa hC g0
   have HSS:=qhd hS;clear hS hd hI
   go_simp
   exact HSS.out _ _ hC (Below.refl _ _) (by simp[twF])
  simp only[qnr]
  refine qab (d:=33) rfl rfl (fun wx hC hI hd S0 hS=>?_) (fun v8=>?_)
  ·have HSS:=qhd hS;clear hS hd hI
   go_simp
   exact HSS.out _ _ hC (Below.refl _ _) (by simp[twF])
  simp only[qnr]
  refine qab (d:=34) rfl rfl (fun wx hC hI hd S0 hS=>?_) (fun v9=>?_)
  ·have d8:=hd ⟨8,.data⟩ (by simp) rfl v8 (by simp)
   simp only[twF] at d8
   subst d8
   have c1':=qaa hC m7
   have HSS:=qhd hS;clear hS hd hI
   go_simp
   exact HSS.out _ _ hC (Below.refl _ _) (by simp[twF])
  simp only[qnr]
  refine qab (d:=35) rfl rfl (fun wx hC hI hd S0 hS=>?_) (fun v10=>?_)
  ·have HSS:=qhd hS;clear hS hd hI
   go_simp
   exact HSS.out _ _ hC (Below.refl _ _) (by simp[twF])
  simp only[qnr]
  refine qab (d:=36) rfl rfl (fun wx hC hI hd S0 hS=>?_) (fun v11=>?_)
  ·have d9:=hd ⟨9,.data⟩ (by simp) rfl v9 (by simp)
   simp only[twF] at d9
   subst d9
   have d10:=hd ⟨10,.data⟩ (by simp) rfl v10 (by simp)
   simp only[twF] at d10
   subst d10
   have HSS:=qhd hS;clear hS hd hI
   go_simp
   exact HSS.out _ _ hC (Below.refl _ _) (by simp[twF])
  simp only[qnr]
  refine qab (d:=37) rfl rfl (fun wx hC hI hd S0 hS=>?_) (fun v12=>?_)
  ·have d11:=hd ⟨11,.data⟩ (by simp) rfl v11 (by simp)
   simp only[twF] at d11
   subst d11
   have HSS:=qhd hS;clear hS hd hI
   go_simp
   exact HSS.out _ _ hC (Below.refl _ _) (by simp[twF])
  simp only[qnr]
  refine qab (d:=38) rfl rfl (fun wx hC hI hd S0 hS=>?_) (fun v13=>?_)
  ·have d12:=hd ⟨12,.data⟩ (by simp) rfl v12 (by simp)
   simp only[twF] at d12
   subst d12
   have c3':=qaa hC g1
   have HSS:=qhd hS;clear hS hd hI
   go_simp
   exact HSS.out _ _ hC (Below.refl _ _) (by simp[twF])
  simp only[qnr]
  refine qab (d:=39) rfl rfl (fun wx hC hI hd S0 hS=>?_) (fun v14=>?_)
  ·have d13:=hd ⟨13,.data⟩ (by simp) rfl v13 (by simp)
   simp only[twF] at d13
   subst d13
   have HSS:=qhd hS;clear hS hd hI
   go_simp
   refine(CLA.out wx hC).mono ?_
   rintro _ w' ⟨⟨v',rfl,ht'⟩,hX⟩
   refine HSS.out _ _ (hC.trans (hX.mono hC.size)) hX ?_
   (simp only[qls,Nat.reduceAdd,twF])
   exact ht'
  simp only[qnr]
  refine qab (d:=40) rfl rfl (fun wx hC hI hd S0 hS=>?_) (fun v15=>?_)
  ·have HSS:=qhd hS;clear hS hd hI
   go_simp
   exact HSS.out _ _ hC (Below.refl _ _) (by simp[twF])
  simp only[qnr]
  refine qab (d:=41) rfl rfl (fun wx hC hI hd S0 hS=>?_) (fun v16=>?_)
  ·have d15:=hd ⟨15,.data⟩ (by simp) rfl v15 (by simp)
   simp only[twF] at d15
   subst d15
   have c1':=qaa hC m7
   have HSS:=qhd hS;clear hS hd hI
   go_simp
   exact HSS.out _ _ hC (Below.refl _ _) (by simp[twF])
  simp only[qnr]
  refine qab (d:=42) rfl rfl (fun wx hC hI hd S0 hS=>?_) (fun v17=>?_)
  ·have HSS:=qhd hS;clear hS hd hI
   go_simp
   exact HSS.out _ _ hC (Below.refl _ _) (by simp[twF])
  simp only[qnr]
  refine qab (d:=43) rfl rfl (fun wx hC hI hd S0 hS=>?_) (fun v18=>?_)
  ·have d16:=hd ⟨16,.data⟩ (by simp) rfl v16 (by simp)
   simp only[twF] at d16
   subst d16
   have d17:=hd ⟨17,.data⟩ (by simp) rfl v17 (by simp)
   simp only[twF] at d17
   subst d17
   have HSS:=qhd hS;clear hS hd hI
   go_simp
   exact HSS.out _ _ hC (Below.refl _ _) (by simp[twF])
  simp only[qnr]
  refine qab (d:=44) rfl rfl (fun wx hC hI hd S0 hS=>?_) (fun v19=>?_)
  ·have d18:=hd ⟨18,.data⟩ (by simp) rfl v18 (by simp)
   simp only[twF] at d18
   subst d18
   have HSS:=qhd hS;clear hS hd hI
   go_simp
   exact HSS.out _ _ hC (Below.refl _ _) (by simp[twF])
  simp only[qnr]
  refine qab (d:=45) rfl rfl (fun wx hC hI hd S0 hS=>?_) (fun v20=>?_)
  ·have d19:=hd ⟨19,.data⟩ (by simp) rfl v19 (by simp)
   simp only[twF] at d19
   subst d19
   have c4':=qaa hC g2
   have HSS:=qhd hS;clear hS hd hI
   go_simp
   exact HSS.out _ _ hC (Below.refl _ _) (by simp[twF])
  simp only[qnr]
  refine qab (d:=46) rfl rfl (fun wx hC hI hd S0 hS=>?_) (fun v21=>?_)
  ·have d20:=hd ⟨20,.data⟩ (by simp) rfl v20 (by simp)
   simp only[twF] at d20
   subst d20
   have HSS:=qhd hS;clear hS hd hI
   go_simp
   refine(CLB.out wx hC).mono ?_
   rintro _ w' ⟨⟨v',rfl,ht'⟩,hX⟩
   refine HSS.out _ _ (hC.trans (hX.mono hC.size)) hX ?_
   (simp only[qls,Nat.reduceAdd,twF])
   exact ht'
  simp only[qnr]
  refine qab (d:=47) rfl rfl (fun wx hC hI hd S0 hS=>?_) (fun v22=>?_)
  ·have d7:=hd ⟨7,.data⟩ (by simp) rfl v7 (by simp)
   simp only[twF] at d7
   subst d7
   have d14:=hd ⟨14,.data⟩ (by simp) rfl v14 (by simp)
   simp only[twF] at d14
   have d21:=hd ⟨21,.data⟩ (by simp) rfl v21 (by simp)
   simp only[twF] at d21
   obtain⟨_,_,_,rfl⟩:=d14.sl.form3
   obtain⟨_,_,_,rfl⟩:=d21.sl.form3
   have HSS:=qhd hS;clear hS hd hI
   go_simp
   refine HSS.out _ _ hC (Below.refl _ _) ?_
   (simp only[qls,Nat.reduceAdd,twF])
   exact⟨_,_,rfl,d14,d21⟩
  simp only[qnr]
  refine qab (d:=48) rfl rfl (fun wx hC hI hd S0 hS=>?_) (fun v23=>?_)
  ·have d22:=hd ⟨22,.data⟩ (by simp) rfl v22 (by simp)
   simp only[twF] at d22
   obtain⟨va,vb,d22,da22,db22⟩:=d22
   subst d22
   have h9:=run_one sty_Map [.int .i64 x.fAt,va,vb] rfl (by decide) wx
   have HSS:=qhd hS;clear hS hd hI
   refine wp_buildOne rfl rfl h9 ⟨put_defers' _ _ _,?_⟩
   rw[qae (by simp)]
   refine HSS.out _ _ (hC.trans (((Below.refl _ _).alloc (Nat.le_refl _) _).mono hC.size)) ((Below.refl _ _).alloc (Nat.le_refl _) _) ?_
   (simp only[qls,Nat.reduceAdd,twF])
   exact⟨va,vb,Src.new (k:=3),da22.below (E:=NoT) (rTagTag_goodT.mono fun _ h=>h) ((Below.refl _ _).alloc (Nat.le_refl _) _),db22.below (E:=NoT) (rTagTag_goodT.mono fun _ h=>h) ((Below.refl _ _).alloc (Nat.le_refl _) _)⟩
  simp only[qnr]
  intro wS hC hF
  have f1:=hF 1 v1 (by simp) (fun _ _=>rfl)
  have f23:=hF 23 v23 (by simp) (fun _ _=>rfl)
  simp only[twF] at f1 f23
  subst f1
  obtain⟨va,vb,hsrc,hva,hvb⟩:=f23
  have hCs:=hC.size
  have hvv:=HT.out.below tClsMap_goodT hC
  have hzS:L≤wS.heap.size:=by omega
  have hlen:(m.fMaps.take i).length≤1000000:=by rw[List.length_take];have:=HQ3.out;omega
  have hlen1:i < 1000000∨m.fMaps.length≤i:=by have:=HQ3.out;omega
  have HCB:=qhd hC
  clear hF hC g0 g1 g2 x7 m7
  simp only[List.drop_succ_cons,List.drop_zero]
  refine qan (B:=L) (lo:=L) (xs:=m.fMaps.take i) (ys:=[x]) (css:=[[.int .i64 x.fAt,va,vb]]) (E:=NotT 139) (by rfl) (.tmp 26) (.tmp 48) 74 (by rfl) sty_Map (tClsMap_goodT.mono fun e he=>by cases he;show _≠_;decide) (notT _) tClsMap_one (by rfl) (by rfl) hvv hsrc (Rows.one rfl ⟨_,_,rfl,hva.sl,hvb.sl⟩) (by have:=HN3.out;have:=HQ3.out;rw[List.length_take];simp only[List.length_cons,List.length_nil];omega) (Nat.le_refl _) hzS ?_
  intro v9 wG htG hbG hgG hkG hatG
  have hGs:=hbG.size
  have hBl:∀ b,b < L→wG.heap[b]? =wr.heap[b]? :=fun b hb=>(hbG.block b hb).trans (HCB.out.block b (by omega))
  have HXG:=qhd ((hBl _ hL).trans HX.out)
  obtain⟨⟨_,_,_,_,_,_,_,y7⟩,yf⟩:=eightC HXG.out
  have yf7:=yf 7
  have hlG:w.heap.size+1+1 < wG.heap.size:=by omega
  have htk:m.fMaps.take (i+1)=m.fMaps.take i++[x]:=by rw[List.take_add_one,HXX.out];rfl
  have HTG:=qhd htG
  obtain⟨ga,gn,gc,rfl⟩:=htG.sl.form3
  have HKG:=qhd (HK.out.trans ((KeepsT.of_below HCB.out).trans (hkG.lift (Nat.zero_le L))))
  have HBl:=qhd hBl
  have HBG:=qhd ((HB.out.trans (HCB.out.mono HB.out.size)).trans (hbG.mono (by omega)))
  have HTK:=qhd htk
  clear htG hbG hgG hkG hatG hvv hsrc hva hvb yf hBl htk hlen hlen1
  go_wp2
  go_roundw
  case measure=>simp[intOf];omega
  case rel=>
   refine⟨i+1,_,by omega,by go_num,(Below.heap_setCell _ _ _ _ (by show w.heap.size≠w.heap.size+1+1;omega)).trans ((HBl.out _ (by omega)).trans HM.out),(Below.heap_setCell _ _ _ _ (by show w.heap.size+1≠w.heap.size+1+1;omega)).trans ((HBl.out _ (by omega)).trans HRS.out),qar HXG.out,?_,HBG.out.setCell (by show w.heap.size≤w.heap.size+1+1;omega) _,HKG.out.trans (KeepsT.of_set hL)⟩
   rw[HTK.out];exact HTG.out.setLo tClsMap_goodT hL

def tcF (L X M G go n cap ii:Nat) (mv:Value) (sa:Option Addr) (sn sc:Nat) (ta:Option Addr) (tn tc:Nat) (qa:Option Addr) (qn qc:Nat) (x:DClsMethod):Nat→Value→World→Prop
 | 0,v,w=>v=.pointer (some ⟨X,3,none⟩)
 | 1,v,w=>v=mv
 | 2,v,w=>v=.pointer (some ⟨M,3,none⟩)
 | 3,v,w=>v=.slice (some ⟨G,go,none⟩) n cap
 | 4,v,w=>v=.int .i64 (ii:Int)
 | 5,v,w=>v=.pointer (some ⟨G,go+ii * 8,none⟩)
 | 6,v,w=>v=.agg #[.string x.fName,.slice sa sn sc,.int .i64 x.fRet.fKind,.string x.fRet.fName,.int .i64 x.fLocals,.int .i64 x.fStack,.slice ta tn tc,.slice qa qn qc]
 | 7,v,w=>∃ row:List Value,v=.agg row.toArray∧tClsMethod L w row x
 | 8,v,w=>∃ row:List Value,Src 8 w v [row]∧tClsMethod L w row x
 | _,_,_=>True
theorem tcF_stays {L X M G go n cap ii:Nat} {mv:Value} {sa:Option Addr} {sn sc:Nat} {ta:Option Addr} {tn tc:Nat} {qa:Option Addr} {qn qc:Nat} {x:DClsMethod}:∀ i j u w w',i≠j→Below w.heap.size w w'→tcF L X M G go n cap ii mv sa sn sc ta tn tc qa qn qc x i u w→tcF L X M G go n cap ii mv sa sn sc ta tn tc qa qn qc x i u w':=by
 intro i j u w w' hne hg h
 match i with
 | 0|1|2|3|4|5|6=>exact h
 | 7=>
   obtain⟨row,h1,h2⟩:=h
   exact⟨row,h1,tClsMethod_goodT.stays _ _ _ _ _ (KeepsT.of_below hg) h2⟩
 | 8=>
   obtain⟨row,h1,h2⟩:=h
   exact⟨row,Src.kept (k:=8) h1 hg,tClsMethod_goodT.stays _ _ _ _ _ (KeepsT.of_below hg) h2⟩
 | n+9=>trivial

theorem S_l9Class (c:DClsClass) (a1:Option Addr) (n1 d1:Nat) (a2:Option Addr) (n2 d2:Nat) (w:World) (s1:Sl 3 rClsField 0 w (.slice a1 n1 d1) c.fFields) (s2:Sl 8 rClsMethod 0 w (.slice a2 n2 d2) c.fMethods) (hnm:c.fName.size≤maxLen) (hsm:c.fSuper.size≤maxLen) (hsh:ShortC c) :
  Calls Tryz.prog 75 #[.agg #[.string c.fName,.string c.fSuper,.slice a1 n1 d1,.slice a2 n2 d2]] w (CopyC w c):=by
 obtain⟨q1,q2,q3⟩:=hsh
 have HQ1:=qhd q1
 have HQ2:=qhd q2
 have HQ3:=qhd q3
 have HS1:=qhd s1
 have HS2:=qhd s2
 have HNM:=qhd hnm
 have HSM:=qhd hsm
 obtain⟨hn2,hc2,hm2⟩:=s2.len
 have HN2:=qhd hn2
 have z2:n2≤9223372036854775807:=by unfold maxLen at hm2;omega
 clear s1 s2 hnm hsm q1 q2 q3 hn2 hm2
 refine qac fun R HR=>?_
 go_enter Tryz.func75,Tryz.ntmps75
 go_upto_region 2 with fail
 refine nameW (P:=fun W=>Code.wp _ _ _ _ W) _ (fun wA hwA=>?_)
 have hBA:Below w.heap.size w wA:=by rw[hwA];exact bbel
 have hzA:wA.heap.size=w.heap.size+1+1+1:=by rw[hwA];simp[World.setCell]
 have HMA:Hid (wA.heap[w.heap.size]? =some (.cells #[.string c.fName,.string c.fSuper,.slice a1 n1 d1,.slice a2 n2 d2] 29 (0,0))):=qhd (by
  rw[hwA];exact(Below.heap_alloc _ _ _ (by simp;omega)).trans ((Below.heap_alloc _ _ _ (by simp)).trans (heap_alloc_new w _)))
 have HRA:Hid (wA.heap[w.heap.size+1]? =some (.cells #[.string ⟨#[]⟩,.string ⟨#[]⟩,.slice none 0 0,.slice none 0 0] 29 (0,0))):=qhd (by
  rw[hwA];refine(Below.heap_alloc _ _ _ (by simp)).trans ?_;have:=heap_alloc_new (w.alloc (.cells #[.string c.fName,.string c.fSuper,.slice a1 n1 d1,.slice a2 n2 d2] 29)) (.cells #[.string ⟨#[]⟩,.string ⟨#[]⟩,.slice none 0 0,.slice none 0 0] 29);rw[World.size_alloc] at this;exact this)
 have HXA:Hid (wA.heap[w.heap.size+1+1]? =some (.cells #[.string c.fName,.string c.fSuper,.slice a1 n1 d1,.slice a2 n2 d2] 29 (0,0))):=qhd (by
  rw[hwA];have:=heap_alloc_new ((w.alloc (.cells #[.string c.fName,.string c.fSuper,.slice a1 n1 d1,.slice a2 n2 d2] 29)).alloc (.cells #[.string ⟨#[]⟩,.string ⟨#[]⟩,.slice none 0 0,.slice none 0 0] 29)) (.cells #[.string c.fName,.string c.fSuper,.slice a1 n1 d1,.slice a2 n2 d2] 29);rw[World.size_alloc,World.size_alloc] at this;exact this)
 clear hwA
 obtain⟨L,hL,hL2⟩:∃ L,w.heap.size+1+1 < L∧L≤wA.heap.size:=⟨w.heap.size+1+1+1,by omega,by omega⟩
 have HBA:=qhd hBA
 clear hBA
 replace hzA:=hL2
 clear hL2
 have S1:=qhd (HS1.out.stays qah (Keeps.of_below HBA.out))
 have hB0:Below wA.heap.size wA (wA.alloc (.cells #[] 61)):=(Below.refl _ _).alloc (Nat.le_refl _) _
 have HB01:=qhd hB0
 have HZ1:=qhd (Nat.le_trans hzA hB0.size)
 have S1B:=qhd (S1.out.stays qah (Keeps.of_below hB0))
 have HE1:=qhd (Empty0.new (B:=L) wA 61 (by omega))
 have c2:=((fourC HMA.out).1.2.2.1)
 have x2:=((fourC HXA.out).1.2.2.1)
 have xf2:=(fourC HXA.out).2 2
 have hl0:w.heap.size < wA.heap.size:=by omega
 have hl2:w.heap.size+1+1 < wA.heap.size:=by omega
 clear hB0
 go_upto_region 3 with (at_builtin;refine wpList_append_copyS (B:=L) (lo:=L) (R:=rClsField) (by rfl) (.tmp 6) (.tmp 8) 26 (by rfl) sty_Fld (by decide) rClsField_one (by rfl) (by rfl) HE1.out S1B.out HQ1.out (Nat.le_refl _) HZ1.out ?_;intro v1 wB css1 ht hr hb;have T1:=qhd (ht.toT (R:=rClsField) (hr.mono fun _ _ h=>h)).plain;have HBB1:=qhd (HB01.out.trans (hb.mono HB01.out.size));obtain⟨va1,vn1,vc1,hv1⟩:=ht.plain.sl.form3;subst hv1;have y2:=qaa HBB1.out x2;have yf2:=qap HBB1.out hl2 xf2;have hzB:=HBB1.out.size;have hl1q:w.heap.size+1+1 < wB.heap.size:=(by omega);clear ht hr hb)
 refine nameW (P:=fun W=>Code.wp _ _ _ _ W) _ (fun wC hwC=>?_)
 have hzC:L≤wC.heap.size:=by rw[hwC];simp only[World.setCell,Array.size_modify];omega
 have hkC:∀ b,b≠w.heap.size+1+1→wC.heap[b]? =wB.heap[b]? :=fun b hb=>by rw[hwC];exact Below.heap_setCell _ _ _ _ hb
 have HBC:Hid (Below w.heap.size w wC):=qhd (by rw[hwC];exact(HBA.out.trans (HBB1.out.mono HBA.out.size)).setCell (by show w.heap.size≤w.heap.size+1+1;omega) _)
 have HMC:=qhd ((hkC w.heap.size (by omega)).trans ((HBB1.out.block _ (by omega)).trans HMA.out))
 have HRC:=qhd ((hkC (w.heap.size+1) (by omega)).trans ((HBB1.out.block _ (by omega)).trans HRA.out))
 have HXC:Hid (wC.heap[w.heap.size+1+1]? =some (.cells #[.string c.fName,.string c.fSuper,.slice va1 vn1 vc1,.slice a2 n2 d2] 29 (0,0))):=qhd (by rw[hwC];exact qar ((HBB1.out.block _ (by omega)).trans HXA.out))
 have T1C:Hid (TOwn 3 rClsField 61 L L wC (.slice va1 vn1 vc1) c.fFields):=qhd (by rw[hwC];exact T1.out.set (rClsField_goodT.mono fun _ h=>h.elim) (by omega))
 clear hzB hwC c2 x2 xf2 y2 yf2 hkC hl1q T1 hl0 hl2
 have x3:=((fourC HXC.out).1.2.2.2)
 have xf3:=(fourC HXC.out).2 3
 have hl2:w.heap.size+1+1 < wC.heap.size:=by omega
 go_upto_region 5 with fail
 refine nameW (P:=fun W=>Code.wp _ _ _ _ W) _ (fun wF hwF=>?_)
 have hzF:L≤wF.heap.size:=by rw[hwF];simp only[World.setCell,Array.size_modify,World.size_alloc];omega
 obtain⟨wD0,hwD0⟩:∃ W,W=wC.setCell ⟨w.heap.size+1+1,3,none⟩ (.slice (some ⟨wC.heap.size,0,none⟩) 0 0):=⟨_,rfl⟩
 rw[←hwD0] at hwF
 have hs0:wD0.heap.size=wC.heap.size:=by rw[hwD0];simp[World.setCell]
 have hb0:Below wD0.heap.size wD0 wF:=by rw[hwF];exact(Below.refl _ _).alloc (Nat.le_refl _) _
 have hkF:∀ b,b < wC.heap.size→b≠w.heap.size+1+1→wF.heap[b]? =wC.heap[b]? :=fun b hl hb=>(hb0.block b (by omega)).trans (by rw[hwD0];exact Below.heap_setCell _ _ _ _ hb)
 have HBF:Hid (Below w.heap.size w wF):=qhd ((show Below w.heap.size w wD0 by rw[hwD0];exact HBC.out.setCell (by show w.heap.size≤w.heap.size+1+1;omega) _).trans (hb0.mono (by omega)))
 have HMF:=qhd ((hkF w.heap.size (by omega) (by omega)).trans HMC.out)
 have HRF:=qhd ((hkF (w.heap.size+1) (by omega) (by omega)).trans HRC.out)
 have HXF:Hid (wF.heap[w.heap.size+1+1]? =some (.cells #[.string c.fName,.string c.fSuper,.slice va1 vn1 vc1,.slice (some ⟨wC.heap.size,0,none⟩) 0 0] 29 (0,0))):=qhd ((hb0.block _ (by omega)).trans (by rw[hwD0];exact qar HXC.out))
 have T1F:Hid (TOwn 3 rClsField 61 L L wF (.slice va1 vn1 vc1) c.fFields):=qhd ((show TOwn 3 rClsField 61 L L wD0 (.slice va1 vn1 vc1) c.fFields by rw[hwD0];exact T1C.out.setLo rClsField_goodT hL).below (E:=NoT) rClsField_goodT hb0)
 have T3F:Hid (TOwn 8 tClsMethod 76 L L wF (.slice (some ⟨wC.heap.size,0,none⟩) 0 0) []):=qhd (by
  have h9:=(Empty0.new (B:=L) wD0 76 (by omega)).own (α:=DClsMethod) (k:=8) (R:=tClsMethod) (lo:=L) (Nat.le_refl _)
  rw[hs0,←hwF] at h9;exact h9)
 clear hwD0 hs0
 clear hwF hkF hb0 x3 xf3 hl2
 go_loopw [4] (fun zi wr=>∃ (i:Nat) (mv:Value),i≤n2∧zi=.int .i64 (i:Int)∧wr.heap[w.heap.size]? =some (.cells #[.string c.fName,.string c.fSuper,.slice a1 n1 d1,.slice a2 n2 d2] 29 (0,0))∧wr.heap[w.heap.size+1]? =some (.cells #[.string ⟨#[]⟩,.string ⟨#[]⟩,.slice none 0 0,.slice none 0 0] 29 (0,0))∧wr.heap[w.heap.size+1+1]? =some (.cells #[.string c.fName,.string c.fSuper,.slice va1 vn1 vc1,mv] 29 (0,0))∧TOwn 8 tClsMethod 76 L L wr mv (c.fMethods.take i)∧Below w.heap.size w wr∧KeepsT (NotT 76) L wF wr) (fun zi _=>n2-(intOf zi).toNat)
 case atStart=>exact⟨0,_,Nat.zero_le _,rfl,HMF.out,HRF.out,HXF.out,T3F.out,HBF.out,KeepsT.refl _ _ _⟩
 case round=>
  obtain⟨i,mv,hi,rfl,hM,hR,hX,hT,hB,hK⟩:=hrel
  obtain⟨ma,mn,mc,rfl⟩:=hT.sl.form3
  have HT:=qhd hT
  have HB:=qhd hB
  have HK:=qhd hK
  have HM:=qhd hM
  have HRS:=qhd hR
  have HX:=qhd hX
  have hks:=hK.size
  have hzr:L≤wr.heap.size:=by omega
  have hl0:w.heap.size < wr.heap.size:=by omega
  have hl2:w.heap.size+1+1 < wr.heap.size:=by omega
  have m3:=((fourC HM.out).1.2.2.2)
  by_cases hlt:i < n2
  rotate_left
  ·obtain rfl:i=n2:=by omega
   have hfull:c.fMethods.take i=c.fMethods:=List.take_of_length_le (Nat.le_of_eq HN2.out)
   rw[hfull] at hT
   have T3R:=qhd hT.sl
   have T1R:=qhd (T1F.out.sl.stays (E:=NotT 76) (rClsField_goodT.mono fun _ h=>h.elim) (by show _≠_;decide) hK)
   obtain⟨⟨c0,c1,c2,c3⟩,_⟩:=fourC hX
   have TH:Hid (wr.there (w.heap.size+1) 0 4):=qhd (row_there hR rfl)
   have HI:Hid ((Tryz.prog.info? 29).map (·.size)=some 4):=qhd (by kernel_rfl)
   clear hM hR hX hT hB hK hfull
   go_wp2_with (refine wpList_store_row (by rfl) 29 (.tmp 2) (.tmp 31) (by rfl) (w.heap.size+1) [.string c.fName,.string c.fSuper,.slice va1 vn1 vc1,.slice ma mn mc] (by rfl) (by rfl) TH.out HI.out (by simp[Value.oneCell']) ?_)
   intro w5 hr5 ht5 hT5
   have hb5:Below w.heap.size w w5:=HB.out.trans (hT5.below (by omega))
   have hz5:=hT5.size
   have x0:=hr5 0 _ rfl
   have x1:=hr5 1 _ rfl
   have x2:=hr5 2 _ rfl
   have x3:=hr5 3 _ rfl
   have hK5:KeepsT (fun _=>True) L wr w5:=KeepsT.of_turnLo hT5 (by omega)
   have T1E:=qhd ((T1R.out.stays (rClsField_goodT.mono fun _ _=>trivial) trivial hK5).low' (E:=NoT) rClsField_goodT (lo':=w.heap.size) (by omega))
   have T3E:=qhd ((T3R.out.stays (tClsMethod_goodT.mono fun _ _=>trivial) trivial hK5).low' tClsMethod_goodT (lo':=w.heap.size) (by omega))
   clear hr5 ht5 hT5 hK5 T1R T3R c0 c1 c2 c3
   go_wp2
   all_goals
    refine bodyPost_ret (v:=?_) ?hrun rfl ?_
    case hrun=>(simp only[results,Tryz.results75];go_simp;first|done|exact rfl)
    exact HR.out _ _ ⟨⟨_,rfl,_,_,rfl,T1E.out,T3E.out,HNM.out,HSM.out⟩,hb5⟩
  have hlt2:(i:Int) < (n2:Int):=by omega
  obtain⟨x,hx⟩:∃ x,c.fMethods[i]? =some x:=⟨_,List.getElem?_eq_getElem (by rw[HN2.out];exact hlt)⟩
  obtain⟨G,go,cap,cs,e,hnc,hG,hcs,hcell,hrow⟩:=(HS2.out.stays qag (Keeps.of_below hB)).rowAt hx
  rw[HN2.out] at e hnc
  cases e
  obtain⟨u1,u2,u3,rfl,p1,p2,p3,pn1,pn2⟩:=hrow
  obtain⟨sa,sn,sc,rfl⟩:=p1.form
  obtain⟨ta,tn,tc,rfl⟩:=p2.form
  obtain⟨qa,qn,qc,rfl⟩:=p3.form
  have g0:wr.cell? ⟨G,go+i * 8,none⟩=some (.string x.fName):=hcell 0 _ rfl
  have g1:wr.cell? ⟨G,go+i * 8+1,none⟩=some (.slice sa sn sc):=hcell 1 _ rfl
  have g2:wr.cell? ⟨G,go+i * 8+2,none⟩=some (.int .i64 x.fRet.fKind):=hcell 2 _ rfl
  have g3:wr.cell? ⟨G,go+i * 8+3,none⟩=some (.string x.fRet.fName):=hcell 3 _ rfl
  have g4:wr.cell? ⟨G,go+i * 8+4,none⟩=some (.int .i64 x.fLocals):=hcell 4 _ rfl
  have g5:wr.cell? ⟨G,go+i * 8+5,none⟩=some (.int .i64 x.fStack):=hcell 5 _ rfl
  have g6:wr.cell? ⟨G,go+i * 8+6,none⟩=some (.slice ta tn tc):=hcell 6 _ rfl
  have g7:wr.cell? ⟨G,go+i * 8+7,none⟩=some (.slice qa qn qc):=hcell 7 _ rfl
  have hsx:=HQ3.out x (List.mem_of_getElem? hx)
  have x3:=((fourC HX.out).1.2.2.2)
  have hcap:(i:Int)≤(d2:Int):=by omega
  have HXX:=qhd hx
  have P1:=qhd p1
  have P2:=qhd p2
  have P3:=qhd p3
  have CLA:Hid (∀ W,Below wr.heap.size wr W→Calls Tryz.prog 112 #[.agg #[.string x.fName,.slice sa sn sc,.int .i64 x.fRet.fKind,.string x.fRet.fName,.int .i64 x.fLocals,.int .i64 x.fStack,.slice ta tn tc,.slice qa qn qc]] W fun e w'=>(∃ row:List Value,e=.returned (.agg row.toArray)∧tClsMethod L w' row x)∧Below W.heap.size W w'):=qhd fun W hW=>(S_l9Twin x sa sn sc ta tn tc qa qn qc W (P1.out.stays qau (Keeps.of_below hW)) (P2.out.stays qaw (Keeps.of_below hW)) (P3.out.stays qax (Keeps.of_below hW)) pn1 pn2 hsx).mono fun e w' h=>by
   obtain⟨⟨row,h1,h2⟩,h3⟩:=h
   have:=hW.size
   exact⟨⟨row,h1,tClsMethod_goodT.low _ _ _ _ _ (by omega) h2⟩,h3⟩
  clear hM hR hX hT hB hK hx p1 p2 p3 hcell hcs pn1 pn2 hsx
  go_wp2_with fail
  refine qav 9 (Below wr.heap.size wr) (fun _ w1 w2=>Below w1.heap.size w1 w2) (fun _=>tcF L (w.heap.size+1+1) w.heap.size G go n2 d2 i (.slice ma mn mc) sa sn sc ta tn tc qa qn qc x) (fun _ _=>True) noDead (by kernel_rfl) (by decide) (by kernel_rfl) (Or.inr ⟨by kernel_rfl,by kernel_rfl⟩) (by kernel_rfl) ((Below.refl _ _).drew) (fun _ _ _ _ _ _ _ _ _ h=>h) noDead_dead (fun _=>trivial) (fun _ _ _ _ _ _ _ _=>trivial) (fun _ i j u w1 w2 hne _ _ hg hF=>tcF_stays i j u w1 w2 hne hg hF) (fun _ _ _=>Below.refl _ _) ?_
  refine qab (d:=20) rfl rfl (fun wx hC hI hd S0 hS=>?_) (fun v0=>?_)
  ·have HSS:=qhd hS;clear hS hd hI
   go_simp
   exact HSS.out _ _ hC (Below.refl _ _) (by simp[tcF])
  simp only[qnr]
  refine qab (d:=21) rfl rfl (fun wx hC hI hd S0 hS=>?_) (fun v1=>?_)
  ·have d0:=hd ⟨0,.data⟩ (by simp) rfl v0 (by simp)
   simp only[tcF] at d0
   subst d0
   have c0':=qaa hC x3
   have HSS:=qhd hS;clear hS hd hI
   go_simp
   exact HSS.out _ _ hC (Below.refl _ _) (by simp[tcF])
  simp only[qnr]
  refine qab (d:=22) rfl rfl (fun wx hC hI hd S0 hS=>?_) (fun v2=>?_)
  ·have HSS:=qhd hS;clear hS hd hI
   go_simp
   exact HSS.out _ _ hC (Below.refl _ _) (by simp[tcF])
  simp only[qnr]
  refine qab (d:=23) rfl rfl (fun wx hC hI hd S0 hS=>?_) (fun v3=>?_)
  ·have d2:=hd ⟨2,.data⟩ (by simp) rfl v2 (by simp)
   simp only[tcF] at d2
   subst d2
   have c1':=qaa hC m3
   have HSS:=qhd hS;clear hS hd hI
   go_simp
   exact HSS.out _ _ hC (Below.refl _ _) (by simp[tcF])
  simp only[qnr]
  refine qab (d:=24) rfl rfl (fun wx hC hI hd S0 hS=>?_) (fun v4=>?_)
  ·have HSS:=qhd hS;clear hS hd hI
   go_simp
   exact HSS.out _ _ hC (Below.refl _ _) (by simp[tcF])
  simp only[qnr]
  refine qab (d:=25) rfl rfl (fun wx hC hI hd S0 hS=>?_) (fun v5=>?_)
  ·have d3:=hd ⟨3,.data⟩ (by simp) rfl v3 (by simp)
   simp only[tcF] at d3
   subst d3
   have d4:=hd ⟨4,.data⟩ (by simp) rfl v4 (by simp)
   simp only[tcF] at d4
   subst d4
   have HSS:=qhd hS;clear hS hd hI
   go_simp
   exact HSS.out _ _ hC (Below.refl _ _) (by simp[tcF])
  simp only[qnr]
  refine qab (d:=26) rfl rfl (fun wx hC hI hd S0 hS=>?_) (fun v6=>?_)
  ·have d5:=hd ⟨5,.data⟩ (by simp) rfl v5 (by simp)
   simp only[tcF] at d5
   subst d5
   have k0':=qaa hC g0
   have k1':=qaa hC g1
   have k2':=qaa hC g2
   have k3':=qaa hC g3
   have k4':=qaa hC g4
   have k5':=qaa hC g5
   have k6':=qaa hC g6
   have k7':=qaa hC g7
   have HSS:=qhd hS;clear hS hd hI
   go_simp
   exact HSS.out _ _ hC (Below.refl _ _) (by simp[tcF])
  simp only[qnr]
  refine qab (d:=27) rfl rfl (fun wx hC hI hd S0 hS=>?_) (fun v7=>?_)
  ·have d6:=hd ⟨6,.data⟩ (by simp) rfl v6 (by simp)
   simp only[tcF] at d6
   subst d6
   have HSS:=qhd hS;clear hS hd hI
   go_simp
   refine(CLA.out wx hC).mono ?_
   rintro _ w' ⟨⟨row,rfl,ht'⟩,hX⟩
   refine HSS.out _ _ (hC.trans (hX.mono hC.size)) hX ?_
   (simp only[qls,Nat.reduceAdd,tcF])
   exact⟨row,rfl,ht'⟩
  simp only[qnr]
  refine qab (d:=28) rfl rfl (fun wx hC hI hd S0 hS=>?_) (fun v8=>?_)
  ·have d7:=hd ⟨7,.data⟩ (by simp) rfl v7 (by simp)
   simp only[tcF] at d7
   obtain⟨row,d7,dr7⟩:=d7
   subst d7
   have h9:=run_one sty_Mth row (tClsMethod_len dr7) (by decide) wx
   have HSS:=qhd hS;clear hS hd hI
   refine wp_buildOne rfl rfl h9 ⟨put_defers' _ _ _,?_⟩
   rw[qae (by simp)]
   refine HSS.out _ _ (hC.trans (((Below.refl _ _).alloc (Nat.le_refl _) _).mono hC.size)) ((Below.refl _ _).alloc (Nat.le_refl _) _) ?_
   (simp only[qls,Nat.reduceAdd,tcF])
   exact⟨row,Src.new (k:=8),tClsMethod_goodT.stays _ _ _ _ _ (KeepsT.of_below ((Below.refl _ _).alloc (Nat.le_refl _) _)) dr7⟩
  simp only[qnr]
  intro wS hC hF
  have f1:=hF 1 v1 (by simp) (fun _ _=>rfl)
  have f8:=hF 8 v8 (by simp) (fun _ _=>rfl)
  simp only[tcF] at f1 f8
  subst f1
  obtain⟨row,hsrc,hrow⟩:=f8
  have hCs:=hC.size
  have hvv:=HT.out.below tClsMethod_goodT hC
  have hzS:L≤wS.heap.size:=by omega
  have HCB:=qhd hC
  clear hF hC g0 g1 g2 g3 g4 g5 g6 g7 x3 m3
  simp only[List.drop_succ_cons,List.drop_zero]
  refine qan (B:=L) (lo:=L) (xs:=c.fMethods.take i) (ys:=[x]) (css:=[row]) (E:=NotT 76) (by rfl) (.tmp 21) (.tmp 28) 27 (by rfl) sty_Mth (tClsMethod_goodT.mono fun e he=>by rcases he with rfl|rfl|rfl|rfl<;>(show _≠_;decide)) (notT _) tClsMethod_one (by rfl) (by rfl) hvv hsrc (Rows.one (tClsMethod_len hrow) hrow) (by have:=HN2.out;have:=HQ2.out;rw[List.length_take];simp only[List.length_cons,List.length_nil];omega) (Nat.le_refl _) hzS ?_
  intro v9 wG htG hbG hgG hkG hatG
  have hGs:=hbG.size
  have hBl:∀ b,b < L→wG.heap[b]? =wr.heap[b]? :=fun b hb=>(hbG.block b hb).trans (HCB.out.block b (by omega))
  have HXG:=qhd ((hBl _ hL).trans HX.out)
  obtain⟨⟨_,_,_,y3⟩,yf⟩:=fourC HXG.out
  have yf3:=yf 3
  have hlG:w.heap.size+1+1 < wG.heap.size:=by omega
  have htk:c.fMethods.take (i+1)=c.fMethods.take i++[x]:=by rw[List.take_add_one,HXX.out];rfl
  have HTG:=qhd htG
  obtain⟨ga,gn,gc,rfl⟩:=htG.sl.form3
  have HKG:=qhd (HK.out.trans ((KeepsT.of_below HCB.out).trans (hkG.lift (Nat.zero_le L))))
  have HBl:=qhd hBl
  have HBG:=qhd ((HB.out.trans (HCB.out.mono HB.out.size)).trans (hbG.mono (by omega)))
  have HTK:=qhd htk
  clear htG hbG hgG hkG hatG hvv hsrc hrow yf hBl htk
  go_wp2
  go_roundw
  case measure=>simp[intOf];omega
  case rel=>
   refine⟨i+1,_,by omega,by go_num,(Below.heap_setCell _ _ _ _ (by show w.heap.size≠w.heap.size+1+1;omega)).trans ((HBl.out _ (by omega)).trans HM.out),(Below.heap_setCell _ _ _ _ (by show w.heap.size+1≠w.heap.size+1+1;omega)).trans ((HBl.out _ (by omega)).trans HRS.out),qar HXG.out,?_,HBG.out.setCell (by show w.heap.size≤w.heap.size+1+1;omega) _,HKG.out.trans (KeepsT.of_set hL)⟩
   rw[HTK.out];exact HTG.out.setLo tClsMethod_goodT hL

theorem twoC {w:World} {b:Nat} {x0 x1:Value} {t:TypeId} (h:w.heap[b]? =some (.cells #[x0,x1] t (0,0))):(w.cell? ⟨b,0,none⟩=some x0∧w.cell? ⟨b,1,none⟩=some x1)∧∀ j,w.frozen? ⟨b,j,none⟩=false:=by
 refine⟨⟨?_,?_⟩,fun j=>?_⟩<;>simp[World.cell?,World.frozen?,h]
def tpF (L Y M G go n cap kk H ho on oc jj:Nat) (ov:Value) (sa:Option Addr) (sn sc:Nat) (ta:Option Addr) (tn tc:Nat) (c:DClsClass):Nat→Value→World→Prop
 | 0,v,w=>v=.pointer (some ⟨Y,0,none⟩)
 | 1,v,w=>v=ov
 | 2,v,w=>v=.pointer (some ⟨M,0,none⟩)
 | 3,v,w=>v=.slice (some ⟨G,go,none⟩) n cap
 | 4,v,w=>v=.int .i64 (kk:Int)
 | 5,v,w=>v=.pointer (some ⟨G,go+kk * 2,none⟩)
 | 6,v,w=>v=.pointer (some ⟨G,go+kk * 2,none⟩)
 | 7,v,w=>v=.slice (some ⟨H,ho,none⟩) on oc
 | 8,v,w=>v=.int .i64 (jj:Int)
 | 9,v,w=>v=.pointer (some ⟨H,ho+jj * 4,none⟩)
 | 10,v,w=>v=.agg #[.string c.fName,.string c.fSuper,.slice sa sn sc,.slice ta tn tc]
 | 11,v,w=>∃ row:List Value,v=.agg row.toArray∧tClsClass L w row c
 | 12,v,w=>∃ row:List Value,Src 4 w v [row]∧tClsClass L w row c
 | _,_,_=>True
theorem tpF_stays {L Y M G go n cap kk H ho on oc jj:Nat} {ov:Value} {sa:Option Addr} {sn sc:Nat} {ta:Option Addr} {tn tc:Nat} {c:DClsClass}:∀ i j u w w',i≠j→Below w.heap.size w w'→tpF L Y M G go n cap kk H ho on oc jj ov sa sn sc ta tn tc c i u w→tpF L Y M G go n cap kk H ho on oc jj ov sa sn sc ta tn tc c i u w':=by
 intro i j u w w' hne hg h
 match i with
 | 0|1|2|3|4|5|6|7|8|9|10=>exact h
 | 11=>
   obtain⟨row,h1,h2⟩:=h
   exact⟨row,h1,tClsClass_goodT.stays _ _ _ _ _ (KeepsT.of_below hg) h2⟩
 | 12=>
   obtain⟨row,h1,h2⟩:=h
   exact⟨row,Src.kept (k:=4) h1 hg,tClsClass_goodT.stays _ _ _ _ _ (KeepsT.of_below hg) h2⟩
 | n+13=>trivial

theorem S_l9Plan (p:DLodPlan) (pa:Option Addr) (pn pc:Nat) (w:World) (s:Sl 2 rLodKeeper 0 w (.slice pa pn pc) p.fKeepers) (hsh:ShortP p) :
  Calls Tryz.prog 39 #[.agg #[.slice pa pn pc]] w fun e w'=>(∃ v,e=.returned (.agg #[v])∧Sl 2 rLodKeeper w.heap.size w' v p.fKeepers)∧Below w.heap.size w w':=by
 obtain⟨q1,q2⟩:=hsh
 have HQ1:=qhd q1
 have HQ2:=qhd q2
 have HS:=qhd s
 obtain⟨hpn,hpc,hpm⟩:=s.len
 have HPN:=qhd hpn
 have z1:pn≤9223372036854775807:=by unfold maxLen at hpm;omega
 clear s q1 q2 hpn hpm
 refine qac fun R HR=>?_
 go_enter Tryz.func39,Tryz.ntmps39
 go_upto_region 3 with fail
 refine nameW (P:=fun W=>Code.wp _ _ _ _ W) _ (fun wA hwA=>?_)
 have hBA:Below w.heap.size w wA:=by rw[hwA];exact bbel
 have hzA:wA.heap.size=w.heap.size+1+1+1:=by rw[hwA];simp[World.setCell]
 have HMA:Hid (wA.heap[w.heap.size]? =some (.cells #[.slice pa pn pc] 25 (0,0))):=qhd (by
  rw[hwA];exact(Below.heap_alloc _ _ _ (by simp;omega)).trans ((Below.heap_alloc _ _ _ (by simp)).trans (heap_alloc_new w _)))
 have HRA:Hid (wA.heap[w.heap.size+1]? =some (.cells #[.slice none 0 0] 25 (0,0))):=qhd (by
  rw[hwA];refine(Below.heap_alloc _ _ _ (by simp)).trans ?_;have:=heap_alloc_new (w.alloc (.cells #[.slice pa pn pc] 25)) (.cells #[.slice none 0 0] 25);rw[World.size_alloc] at this;exact this)
 have HXA:Hid (wA.heap[w.heap.size+1+1]? =some (.cells #[.slice none 0 0] 25 (0,0))):=qhd (by
  rw[hwA];have:=heap_alloc_new ((w.alloc (.cells #[.slice pa pn pc] 25)).alloc (.cells #[.slice none 0 0] 25)) (.cells #[.slice none 0 0] 25);rw[World.size_alloc,World.size_alloc] at this;exact this)
 clear hwA
 obtain⟨L,hL,hL2⟩:∃ L,w.heap.size+1+1 < L∧L≤wA.heap.size:=⟨w.heap.size+1+1+1,by omega,by omega⟩
 have HBA:=qhd hBA
 clear hBA
 replace hzA:=hL2
 clear hL2
 go_loopw [4] (fun zi wr=>∃ (k:Nat) (mv:Value),k≤pn∧zi=.int .i64 (k:Int)∧wr.heap[w.heap.size]? =some (.cells #[.slice pa pn pc] 25 (0,0))∧wr.heap[w.heap.size+1]? =some (.cells #[.slice none 0 0] 25 (0,0))∧wr.heap[w.heap.size+1+1]? =some (.cells #[mv] 25 (0,0))∧TOwn 2 tLodKeeper 46 L L wr mv (p.fKeepers.take k)∧Below w.heap.size w wr∧L≤wr.heap.size) (fun zi _=>pn-(intOf zi).toNat)
 case atStart=>exact⟨0,_,Nat.zero_le _,rfl,HMA.out,HRA.out,HXA.out,TOwn.nil,HBA.out,hzA⟩
 case round=>
  obtain⟨k,mv,hk,rfl,hM,hR,hX,hT,hB,hzr⟩:=hrel
  obtain⟨wo,hwo⟩:∃ x,x=wr:=⟨_,rfl⟩
  subst hwo
  obtain⟨ma,mn,mc,rfl⟩:=hT.sl.form3
  have HT:=qhd hT
  have HB:=qhd hB
  have HM:=qhd hM
  have HRS:=qhd hR
  have HX:=qhd hX
  have hl0:w.heap.size < wo.heap.size:=by omega
  have hl1:w.heap.size+1 < wo.heap.size:=by omega
  have hl2:w.heap.size+1+1 < wo.heap.size:=by omega
  have m0:=(oneC HM.out).1
  by_cases hlt:k < pn
  rotate_left
  ·obtain rfl:k=pn:=by omega
   have hfull:p.fKeepers.take k=p.fKeepers:=List.take_of_length_le (Nat.le_of_eq HPN.out)
   rw[hfull] at hT
   have x0:=(oneC HX.out).1
   obtain⟨r0,rf0⟩:=oneC HRS.out
   have T3:=qhd ((hT.setLo (u:=.slice ma mn mc) (b:=w.heap.size+1) (o:=0) tLodKeeper_goodT (by omega)).sl.sl (R':=rLodKeeper) (fun cs x h=>tLodKeeper_r h))
   have hb5:Below w.heap.size w (wo.setCell ⟨w.heap.size+1,0,none⟩ (.slice ma mn mc)):=HB.out.setCell (by show w.heap.size≤w.heap.size+1;omega) _
   have HB5:=qhd hb5
   clear hM hR hX hT hB hfull hb5
   go_wp2
   all_goals
    refine bodyPost_ret (v:=?_) ?hrun rfl ?_
    case hrun=>(simp only[results,Tryz.results39];go_simp;first|done|exact rfl)
    exact HR.out _ _ ⟨⟨_,rfl,T3.out.low rLodKeeper_good (by omega)⟩,HB5.out⟩
  have hlt2:(k:Int) < (pn:Int):=by omega
  obtain⟨x,hx⟩:∃ x,p.fKeepers[k]? =some x:=⟨_,List.getElem?_eq_getElem (by rw[HPN.out];exact hlt)⟩
  obtain⟨G,go,cap,cs,e,hnc,hG,hcs,hcell,hrow⟩:=(HS.out.stays rLodKeeper_good (Keeps.of_below hB)).rowAt hx
  rw[HPN.out] at e hnc
  cases e
  obtain⟨u1,u2,rfl,p1,p2⟩:=hrow
  obtain⟨oa,on,oc,rfl⟩:=p1.form
  obtain⟨aa,an,ac,rfl⟩:=p2.form
  have q0:wo.cell? ⟨G,go+k * 2,none⟩=some (.slice oa on oc):=hcell 0 _ rfl
  have q1:wo.cell? ⟨G,go+k * 2+1,none⟩=some (.slice aa an ac):=hcell 1 _ rfl
  obtain⟨hol,hal,hcl⟩:=HQ2.out x (List.mem_of_getElem? hx)
  obtain⟨hon,hoc,hom⟩:=p1.len
  have HON:=qhd hon
  have z2:on≤9223372036854775807:=by unfold maxLen at hom;omega
  have hcap:(k:Int)≤(pc:Int):=by omega
  have HOL:=qhd hol
  have HAL:=qhd hal
  have HCL:=qhd hcl
  have HXX:=qhd hx
  have P1:=qhd p1
  have P2:=qhd p2
  have Q0:=qhd q0
  have hb0:Below wo.heap.size wo (wo.alloc (.cells #[] 48)):=(Below.refl _ _).alloc (Nat.le_refl _) _
  have HB0:=qhd hb0
  have HZ0:=qhd (Nat.le_trans hzr hb0.size)
  have P2B:=qhd (P2.out.stays rLodAsk_good (Keeps.of_below hb0))
  have HE:=qhd (Empty0.new (B:=L) wo 48 hzr)
  clear hM hR hX hT hB hx p1 p2 hcell hcs hol hal hcl hon hom hb0
  go_upto_region 7 with (at_builtin;refine wpList_append_copyS (B:=L) (lo:=L) (R:=rLodAsk) (by rfl) (.tmp 15) (.tmp 21) 44 (by rfl) sty_Ask (by decide) rLodAsk_one (by rfl) (by rfl) HE.out P2B.out HAL.out (Nat.le_refl _) HZ0.out ?_;intro av wB css ht hr hb;have TA:=qhd (ht.toT (R:=rLodAsk) (hr.mono fun _ _ h=>h)).plain;have HBB:=qhd (HB0.out.trans (hb.mono HB0.out.size));obtain⟨va,vn,vc,hav⟩:=ht.plain.sl.form3;subst hav;have hzB:=HBB.out.size;clear ht hr hb)
  refine nameW (P:=fun W=>Code.wp _ _ _ _ W) _ (fun wC hwC=>?_)
  have hb1:Below wB.heap.size wB wC:=by rw[hwC];exact bbel
  have hzC:wC.heap.size=wB.heap.size+1:=by rw[hwC];simp[World.setCell]
  obtain⟨Y,hY⟩:∃ Y,Y=wB.heap.size:=⟨_,rfl⟩
  have HYC:Hid (wC.heap[Y]? =some (.cells #[.slice none 0 0,.slice va vn vc] 46 (0,0))):=qhd (by rw[hwC,hY];exact heap_alloc_new wB _)
  have HBC:Hid (Below wo.heap.size wo wC):=qhd (HBB.out.trans (hb1.mono HBB.out.size))
  have TAC:=qhd (TA.out.below (E:=NoT) rLodAsk_goodT hb1)
  have HAV:Hid (∀ g,(Value.slice va vn vc).ownBlock=some g→g < Y):=qhd fun g hg=>by have:=TA.out.lt g hg;omega
  rw[←hY]
  have hY1:wo.heap.size≤Y:=by omega
  have hY2:Y < wC.heap.size:=by omega
  clear hwC hY hzC hzB HBB TA HB0 HZ0 P2B HE hb1
  go_loopw [6] (fun zi wr=>∃ (j:Nat) (ov:Value),j≤on∧zi=.int .i64 (j:Int)∧wr.heap[Y]? =some (.cells #[ov,.slice va vn vc] 46 (0,0))∧TOwn 4 tClsClass 29 (Y+1) (Y+1) wr ov (x.fOwns.take j)∧TOwn 2 rLodAsk 48 L L wr (.slice va vn vc) x.fAsks∧Below wo.heap.size wo wr∧Y < wr.heap.size) (fun zi _=>on-(intOf zi).toNat)
  case atStart=>exact⟨0,_,Nat.zero_le _,rfl,HYC.out,TOwn.nil,TAC.out,HBC.out,hY2⟩
  case round=>
   obtain⟨j,ov,hj,rfl,hYr,hO,hA,hb,hYl⟩:=hrel
   obtain⟨ba,bn,bc,rfl⟩:=hO.sl.form3
   have hbs:=hb.size
   have m0:=qaa hb (oneC HM.out).1
   have q0:=qaa hb Q0.out
   have hO':=qhd hO
   have hA':=qhd hA
   have HYR:=qhd hYr
   have hlr0:w.heap.size < wr.heap.size:=by omega
   have hlr2:w.heap.size+1+1 < wr.heap.size:=by omega
   have hGr:G < wr.heap.size:=by omega
   by_cases hlj:j < on
   ·obtain⟨c,hc⟩:∃ c,x.fOwns[j]? =some c:=⟨_,List.getElem?_eq_getElem (by rw[HON.out];exact hlj)⟩
    obtain⟨H,ho,ocap,cs,e,hnc2,hH,hcs,hcell,hrow⟩:=(P1.out.stays rClsClass_good (Keeps.of_below hb)).rowAt hc
    rw[HON.out] at e hnc2
    cases e
    obtain⟨u1,u2,rfl,p1,p2,pn1,pn2⟩:=hrow
    obtain⟨sa,sn,sc,rfl⟩:=p1.form
    obtain⟨ta,tn,tc,rfl⟩:=p2.form
    have g0:wr.cell? ⟨H,ho+j * 4,none⟩=some (.string c.fName):=hcell 0 _ rfl
    have g1:wr.cell? ⟨H,ho+j * 4+1,none⟩=some (.string c.fSuper):=hcell 1 _ rfl
    have g2:wr.cell? ⟨H,ho+j * 4+2,none⟩=some (.slice sa sn sc):=hcell 2 _ rfl
    have g3:wr.cell? ⟨H,ho+j * 4+3,none⟩=some (.slice ta tn tc):=hcell 3 _ rfl
    have hsc:=HCL.out c (List.mem_of_getElem? hc)
    have HP1:=qhd p1
    have HP2:=qhd p2
    have y0:=(twoC HYR.out).1.1
    have hlj2:(j:Int) < (on:Int):=by omega
    have hojc:(j:Int)≤(oc:Int):=by omega
    have HCC:=qhd hc
    have HBI:=qhd hb
    have CLA:Hid (∀ W,Below wr.heap.size wr W→Calls Tryz.prog 75 #[.agg #[.string c.fName,.string c.fSuper,.slice sa sn sc,.slice ta tn tc]] W fun e w'=>(∃ row:List Value,e=.returned (.agg row.toArray)∧tClsClass (Y+1) w' row c)∧Below W.heap.size W w'):=qhd fun W hW=>(S_l9Class c sa sn sc ta tn tc W (HP1.out.stays qah (Keeps.of_below hW)) (HP2.out.stays qag (Keeps.of_below hW)) pn1 pn2 hsc).mono fun e w' h=>by
     obtain⟨⟨row,h1,h2⟩,h3⟩:=h
     have:=hW.size
     exact⟨⟨row,h1,tClsClass_goodT.low _ _ _ _ _ (by omega) h2⟩,h3⟩
    clear hYr hO hA hb hc p1 p2 hcell hcs pn1 pn2 hsc
    go_wp2_with fail
    refine qav 13 (Below wr.heap.size wr) (fun _ w1 w2=>Below w1.heap.size w1 w2) (fun _=>tpF (Y+1) Y w.heap.size G go pn pc k H ho on oc j (.slice ba bn bc) sa sn sc ta tn tc c) (fun _ _=>True) noDead (by kernel_rfl) (by decide) (by kernel_rfl) (Or.inr ⟨by kernel_rfl,by kernel_rfl⟩) (by kernel_rfl) ((Below.refl _ _).drew) (fun _ _ _ _ _ _ _ _ _ h=>h) noDead_dead (fun _=>trivial) (fun _ _ _ _ _ _ _ _=>trivial) (fun _ i j u w1 w2 hne _ _ hg hF=>tpF_stays i j u w1 w2 hne hg hF) (fun _ _ _=>Below.refl _ _) ?_
    refine qab (d:=35) rfl rfl (fun wx hC hI hd S0 hS=>?_) (fun v0=>?_)
    ·have HSS:=qhd hS;clear hS hd hI
     go_simp
     exact HSS.out _ _ hC (Below.refl _ _) (by simp[tpF])
    simp only[qnr]
    refine qab (d:=36) rfl rfl (fun wx hC hI hd S0 hS=>?_) (fun v1=>?_)
    ·have d0:=hd ⟨0,.data⟩ (by simp) rfl v0 (by simp)
     simp only[tpF] at d0
     subst d0
     have c0':=qaa hC y0
     have HSS:=qhd hS;clear hS hd hI
     go_simp
     exact HSS.out _ _ hC (Below.refl _ _) (by simp[tpF])
    simp only[qnr]
    refine qab (d:=37) rfl rfl (fun wx hC hI hd S0 hS=>?_) (fun v2=>?_)
    ·have HSS:=qhd hS;clear hS hd hI
     go_simp
     exact HSS.out _ _ hC (Below.refl _ _) (by simp[tpF])
    simp only[qnr]
    refine qab (d:=38) rfl rfl (fun wx hC hI hd S0 hS=>?_) (fun v3=>?_)
    ·have d2:=hd ⟨2,.data⟩ (by simp) rfl v2 (by simp)
     simp only[tpF] at d2
     subst d2
     have c1':=qaa hC m0
     have HSS:=qhd hS;clear hS hd hI
     go_simp
     exact HSS.out _ _ hC (Below.refl _ _) (by simp[tpF])
    simp only[qnr]
    refine qab (d:=39) rfl rfl (fun wx hC hI hd S0 hS=>?_) (fun v4=>?_)
    ·have HSS:=qhd hS;clear hS hd hI
     go_simp
     exact HSS.out _ _ hC (Below.refl _ _) (by simp[tpF])
    simp only[qnr]
    refine qab (d:=40) rfl rfl (fun wx hC hI hd S0 hS=>?_) (fun v5=>?_)
    ·have d3:=hd ⟨3,.data⟩ (by simp) rfl v3 (by simp)
     simp only[tpF] at d3
     subst d3
     have d4:=hd ⟨4,.data⟩ (by simp) rfl v4 (by simp)
     simp only[tpF] at d4
     subst d4
     have HSS:=qhd hS;clear hS hd hI
     go_simp
     exact HSS.out _ _ hC (Below.refl _ _) (by simp[tpF])
    simp only[qnr]
    refine qab (d:=41) rfl rfl (fun wx hC hI hd S0 hS=>?_) (fun v6=>?_)
    ·have d5:=hd ⟨5,.data⟩ (by simp) rfl v5 (by simp)
     simp only[tpF] at d5
     subst d5
     have HSS:=qhd hS;clear hS hd hI
     go_simp
     exact HSS.out _ _ hC (Below.refl _ _) (by simp[tpF])
    simp only[qnr]
    refine qab (d:=42) rfl rfl (fun wx hC hI hd S0 hS=>?_) (fun v7=>?_)
    ·have d6:=hd ⟨6,.data⟩ (by simp) rfl v6 (by simp)
     simp only[tpF] at d6
     subst d6
     have c2':=qaa hC q0
     have HSS:=qhd hS;clear hS hd hI
     go_simp
     exact HSS.out _ _ hC (Below.refl _ _) (by simp[tpF])
    simp only[qnr]
    refine qab (d:=43) rfl rfl (fun wx hC hI hd S0 hS=>?_) (fun v8=>?_)
    ·have HSS:=qhd hS;clear hS hd hI
     go_simp
     exact HSS.out _ _ hC (Below.refl _ _) (by simp[tpF])
    simp only[qnr]
    refine qab (d:=44) rfl rfl (fun wx hC hI hd S0 hS=>?_) (fun v9=>?_)
    ·have d7:=hd ⟨7,.data⟩ (by simp) rfl v7 (by simp)
     simp only[tpF] at d7
     subst d7
     have d8:=hd ⟨8,.data⟩ (by simp) rfl v8 (by simp)
     simp only[tpF] at d8
     subst d8
     have HSS:=qhd hS;clear hS hd hI
     go_simp
     exact HSS.out _ _ hC (Below.refl _ _) (by simp[tpF])
    simp only[qnr]
    refine qab (d:=45) rfl rfl (fun wx hC hI hd S0 hS=>?_) (fun v10=>?_)
    ·have d9:=hd ⟨9,.data⟩ (by simp) rfl v9 (by simp)
     simp only[tpF] at d9
     subst d9
     have k0':=qaa hC g0
     have k1':=qaa hC g1
     have k2':=qaa hC g2
     have k3':=qaa hC g3
     have HSS:=qhd hS;clear hS hd hI
     go_simp
     exact HSS.out _ _ hC (Below.refl _ _) (by simp[tpF])
    simp only[qnr]
    refine qab (d:=46) rfl rfl (fun wx hC hI hd S0 hS=>?_) (fun v11=>?_)
    ·have d10:=hd ⟨10,.data⟩ (by simp) rfl v10 (by simp)
     simp only[tpF] at d10
     subst d10
     have HSS:=qhd hS;clear hS hd hI
     go_simp
     refine(CLA.out wx hC).mono ?_
     rintro _ w' ⟨⟨row,rfl,ht'⟩,hX⟩
     refine HSS.out _ _ (hC.trans (hX.mono hC.size)) hX ?_
     (simp only[qls,Nat.reduceAdd,tpF])
     exact⟨row,rfl,ht'⟩
    simp only[qnr]
    refine qab (d:=47) rfl rfl (fun wx hC hI hd S0 hS=>?_) (fun v12=>?_)
    ·have d11:=hd ⟨11,.data⟩ (by simp) rfl v11 (by simp)
     simp only[tpF] at d11
     obtain⟨row,d11,dr11⟩:=d11
     subst d11
     have h9:=run_one sty_Cls row (tClsClass_len dr11) (by decide) wx
     have HSS:=qhd hS;clear hS hd hI
     refine wp_buildOne rfl rfl h9 ⟨put_defers' _ _ _,?_⟩
     rw[qae (by simp)]
     refine HSS.out _ _ (hC.trans (((Below.refl _ _).alloc (Nat.le_refl _) _).mono hC.size)) ((Below.refl _ _).alloc (Nat.le_refl _) _) ?_
     (simp only[qls,Nat.reduceAdd,tpF])
     exact⟨row,Src.new (k:=4),tClsClass_goodT.stays _ _ _ _ _ (KeepsT.of_below ((Below.refl _ _).alloc (Nat.le_refl _) _)) dr11⟩
    simp only[qnr]
    intro wS hC hF
    have f1:=hF 1 v1 (by simp) (fun _ _=>rfl)
    have f12:=hF 12 v12 (by simp) (fun _ _=>rfl)
    simp only[tpF] at f1 f12
    subst f1
    obtain⟨row,hsrc,hrow⟩:=f12
    have hCs:=hC.size
    have hvv:=hO'.out.below tClsClass_goodT hC
    have hzS:Y+1≤wS.heap.size:=by omega
    have HCB:=qhd hC
    have HAS:=qhd (hA'.out.below (E:=NoT) rLodAsk_goodT hC)
    clear hF hC g0 g1 g2 g3 y0 m0 q0
    simp only[List.drop_succ_cons,List.drop_zero]
    refine qan (B:=Y+1) (lo:=Y+1) (xs:=x.fOwns.take j) (ys:=[c]) (css:=[row]) (E:=NotT 29) (by rfl) (.tmp 36) (.tmp 47) 43 (by rfl) sty_Cls (tClsClass_goodT.mono fun e he=>by rcases he with rfl|rfl|rfl|rfl|rfl|rfl<;>(show _≠_;decide)) (notT _) qbd (by rfl) (by rfl) hvv hsrc (Rows.one (tClsClass_len hrow) hrow) (by have:=HON.out;have:=HOL.out;rw[List.length_take];simp only[List.length_cons,List.length_nil];omega) (Nat.le_refl _) hzS ?_
    intro v9 wG htG hbG hgG hkG hatG
    have hGs:=hbG.size
    have hBl:∀ b,b < Y+1→wG.heap[b]? =wr.heap[b]? :=fun b hb=>(hbG.block b hb).trans (HCB.out.block b (by omega))
    have HYG:=qhd ((hBl _ (Nat.lt_succ_self Y)).trans HYR.out)
    obtain⟨⟨y0,y1⟩,yf⟩:=twoC HYG.out
    have yf0:=yf 0
    have hlG:Y < wG.heap.size:=by omega
    have htk:x.fOwns.take (j+1)=x.fOwns.take j++[c]:=by rw[List.take_add_one,HCC.out];rfl
    have HTG:=qhd htG
    obtain⟨ga,gn,gc,rfl⟩:=htG.sl.form3
    have HAG:Hid (TOwn 2 rLodAsk 48 L L wG (.slice va vn vc) x.fAsks):=qhd ⟨HAS.out.sl.stays (E:=NotT 29) (rLodAsk_goodT.mono fun _ h=>h.elim) (by show _≠_;decide) (hkG.lift (Nat.zero_le L)),HAS.out.own⟩
    have HBG:=qhd ((HBI.out.trans (HCB.out.mono HBI.out.size)).trans (hbG.mono (by omega)))
    have HTK:=qhd htk
    clear htG hbG hgG hkG hatG hvv hsrc hrow yf hBl htk
    go_wp2
    go_roundw
    case measure=>simp[intOf];omega
    case rel=>
     refine⟨j+1,_,by omega,by go_num,qar HYG.out,?_,⟨HAG.out.sl.kept (fun g cs fr hg _ _=>Below.heap_setCell _ _ _ _ (by have:=HAV.out g hg;show g≠Y;omega)) (fun _ _ h=>h),HAG.out.own⟩,HBG.out.setCell (by show wo.heap.size≤Y;omega) _,by simp only[World.setCell,Array.size_modify];exact hlG⟩
     rw[HTK.out];exact HTG.out.setLo tClsClass_goodT (by omega)
   ·obtain rfl:j=on:=by omega
    have hfull:x.fOwns.take j=x.fOwns:=List.take_of_length_le (Nat.le_of_eq HON.out)
    rw[hfull] at hO
    obtain⟨⟨y0,y1⟩,_⟩:=twoC HYR.out
    have x0:=qaa hb (oneC HX.out).1
    have hbA:Below wr.heap.size wr (wr.alloc (.cells #[.slice ba bn bc,.slice va vn vc] 46)):=(Below.refl _ _).alloc (Nat.le_refl _) _
    have hTr:=qhd ((HT.out.below tLodKeeper_goodT hb).below tLodKeeper_goodT hbA)
    have hrowK:Hid (tLodKeeper L (wr.alloc (.cells #[.slice ba bn bc,.slice va vn vc] 46)) [.slice ba bn bc,.slice va vn vc] x):=qhd ⟨_,_,rfl,(hO.sl.low' tClsClass_goodT (by omega)).below tClsClass_goodT hbA,hA.sl.below (E:=NoT) rLodAsk_goodT hbA⟩
    have hsrcK:Hid (Src 2 (wr.alloc (.cells #[.slice ba bn bc,.slice va vn vc] 46)) (.slice (some ⟨wr.heap.size,0,none⟩) 1 1) [[.slice ba bn bc,.slice va vn vc]]):=qhd (Src.new (k:=2) (w:=wr) (e:=46) (cs:=[.slice ba bn bc,.slice va vn vc]))
    have hzK:Hid (L≤(wr.alloc (.cells #[.slice ba bn bc,.slice va vn vc] 46)).heap.size):=qhd (by rw[World.size_alloc];omega)
    have HBX:=qhd (HB.out.trans ((hb.trans (hbA.mono hb.size)).mono HB.out.size))
    have HBL:Hid (∀ b,b < L→(wr.alloc (.cells #[.slice ba bn bc,.slice va vn vc] 46)).heap[b]? =wo.heap[b]?):=qhd fun b hb'=>(hbA.block b (by omega)).trans (hb.block b (by omega))
    have hKl:Hid ((p.fKeepers.take k).length+[x].length≤1000000):=qhd (by have:=HPN.out;have:=HQ1.out;rw[List.length_take];simp only[List.length_cons,List.length_nil];omega)
    clear hYr hO hA hb hbA hfull
    go_wp2_with (at_builtin;refine qan (B:=L) (lo:=L) (xs:=p.fKeepers.take k) (ys:=[x]) (css:=[[.slice ba bn bc,.slice va vn vc]]) (E:=NotT 46) (by rfl) (.tmp 51) (.tmp 53) 23 (by rfl) sty_Kpr (tLodKeeper_goodT.mono fun e he=>by rcases he with rfl|rfl|rfl|rfl|rfl|rfl|rfl|rfl<;>(show _≠_;decide)) (notT _) tLodKeeper_one (by rfl) (by rfl) hTr.out hsrcK.out (Rows.one rfl hrowK.out) hKl.out (Nat.le_refl _) hzK.out ?_;intro v9 wG htG hbG hgG hkG hatG;have HTG:=qhd htG;have HBLG:Hid (∀ b,b < L→wG.heap[b]? =wo.heap[b]?):=qhd fun b hb'=>(hbG.block b hb').trans (HBL.out b hb');obtain⟨ga,gn,gc,hv9⟩:=htG.sl.form3;subst hv9;obtain⟨xx0,xxf⟩:=oneC ((HBLG.out _ hL).trans HX.out);have HBG:=qhd (HBX.out.trans (hbG.mono (by omega)));have hGs:=hbG.size;have hlG:w.heap.size+1+1 < wG.heap.size:=(by have:=hzK.out;omega);clear htG hbG hgG hkG hatG)
    go_roundw
    case measure=>simp[intOf];omega
    case rel=>
     have htk:p.fKeepers.take (k+1)=p.fKeepers.take k++[x]:=by rw[List.take_add_one,HXX.out];rfl
     refine⟨k+1,_,by omega,by go_num,(Below.heap_setCell _ _ _ _ (by show w.heap.size≠w.heap.size+1+1;omega)).trans ((HBLG.out _ (by omega)).trans HM.out),(Below.heap_setCell _ _ _ _ (by show w.heap.size+1≠w.heap.size+1+1;omega)).trans ((HBLG.out _ (by omega)).trans HRS.out),qar ((HBLG.out _ hL).trans HX.out),?_,HBG.out.setCell (by show w.heap.size≤w.heap.size+1+1;omega) _,by have:=hzK.out;simp only[World.setCell,Array.size_modify];omega⟩
     rw[htk];exact HTG.out.setLo tLodKeeper_goodT hL

theorem S_PlanTurn (p:DLodPlan) (c:DChgChange) (pa:Option Addr) (pn pc:Nat) (u1 u2:Value) (w:World) (s:Sl 2 rLodKeeper 0 w (.slice pa pn pc) p.fKeepers) (s1:Sl 3 rClsField 0 w u1 c.fClass.fFields) (s2:Sl 8 rClsMethod 0 w u2 c.fClass.fMethods) (b1:c.fName.size≤maxLen) (b2:c.fClass.fName.size≤maxLen) (b3:c.fClass.fSuper.size≤maxLen) :
  Calls Tryz.prog 10 #[.agg #[.slice pa pn pc],.agg #[.int .i64 c.fKind,.int .i64 c.fKeeper,.string c.fName,.int .i64 c.fTo,.string c.fClass.fName,.string c.fClass.fSuper,u1,u2]] w fun e w'=>(∃ v,e=.returned (.tuple #[.agg #[v],.bool (turnOk p c)])∧Sl 2 rLodKeeper 0 w' v (turned p c).fKeepers)∧Below w.heap.size w w':=by
 obtain⟨ua,un,uc,rfl⟩:=s1.form
 obtain⟨ta,tn,tc,rfl⟩:=s2.form
 obtain⟨hpl,hpc,hp9⟩:=s.len
 have m1:pn≤9223372036854775807:=by unfold maxLen at hp9;omega
 have HS:=qhd s
 have HS1:=qhd s1
 have HS2:=qhd s2
 have HPL:=qhd hpl
 obtain⟨zt,hzt⟩:∃ z,z=turnOk p c:=⟨_,rfl⟩
 have HZT:=qhd hzt
 have NO:Hid (∀ W,zt=false→Sl 2 rLodKeeper 0 W (.slice none 0 0) (turned p c).fKeepers):=qhd fun W hz=>by
  rw[hz] at hzt
  rw[turned,←hzt]
  exact⟨none,0,0,rfl,rfl,Nat.le_refl _,Nat.zero_le _,fun h=>absurd h (by omega)⟩
 rw[←hzt]
 obtain⟨lo,hlo⟩:∃ z,z=lodOk p:=⟨_,rfl⟩
 have HLO:=qhd hlo
 obtain⟨co,hco⟩:∃ z,z=chgOk c:=⟨_,rfl⟩
 have HCO:=qhd hco
 have CL:Hid (∀ W,Below w.heap.size w W→Calls Tryz.prog 36 #[.agg #[.slice pa pn pc]] W fun e w'=>e=.returned (.bool lo)∧Below W.heap.size W w'):=qhd fun W hW=>by rw[HLO.out];exact S_LodOk p _ W (HS.out.stays rLodKeeper_good (Keeps.of_below hW))
 have CC:Hid (∀ W,Below w.heap.size w W→Calls Tryz.prog 37 #[.agg #[.int .i64 c.fKind,.int .i64 c.fKeeper,.string c.fName,.int .i64 c.fTo,.string c.fClass.fName,.string c.fClass.fSuper,.slice ua un uc,.slice ta tn tc]] W fun e w'=>e=.returned (.bool co)∧Below W.heap.size W w'):=qhd fun W hW=>by
  rw[HCO.out];exact S_ChgOk c _ _ W (HS1.out.stays qah (Keeps.of_below hW)) (HS2.out.stays qag (Keeps.of_below hW)) b1 b2 b3
 clear s s1 s2 hpl hzt hlo hco hp9
 refine qac fun R HR=>?_
 go_enter Tryz.func10,Tryz.ntmps10
 go_upto_region 1 with fail
 refine nameW (P:=fun W=>Code.wp _ _ _ _ W) _ (fun wq hwq=>?_)
 have hBq:Below w.heap.size w wq:=by rw[hwq];exact bbel
 have hzq:wq.heap.size=w.heap.size+1+1+1:=by rw[hwq];simp
 have g0:wq.cell? ⟨w.heap.size,0,none⟩=some (.slice pa pn pc):=by rw[hwq];go_simp
 have f0:wq.cell? ⟨w.heap.size+1,0,none⟩=some (.int .i64 c.fKind):=by rw[hwq];go_simp
 have f1:wq.cell? ⟨w.heap.size+1,1,none⟩=some (.int .i64 c.fKeeper):=by rw[hwq];go_simp
 have f2:wq.cell? ⟨w.heap.size+1,2,none⟩=some (.string c.fName):=by rw[hwq];go_simp
 have f3:wq.cell? ⟨w.heap.size+1,3,none⟩=some (.int .i64 c.fTo):=by rw[hwq];go_simp
 have f4:wq.cell? ⟨w.heap.size+1,4,none⟩=some (.string c.fClass.fName):=by rw[hwq];go_simp
 have f5:wq.cell? ⟨w.heap.size+1,5,none⟩=some (.string c.fClass.fSuper):=by rw[hwq];go_simp
 have f6:wq.cell? ⟨w.heap.size+1,6,none⟩=some (.slice ua un uc):=by rw[hwq];go_simp
 have f7:wq.cell? ⟨w.heap.size+1,7,none⟩=some (.slice ta tn tc):=by rw[hwq];go_simp
 have r0:wq.cell? ⟨w.heap.size+1+1,0,none⟩=some (.slice none 0 0):=by rw[hwq];go_simp
 have rf:wq.frozen? ⟨w.heap.size+1+1,0,none⟩=false:=by rw[hwq];go_simp
 clear hwq
 go_wp2_with fail
 refine(CL.out _ hBq).mono ?_
 rintro _ w1 ⟨rfl,h1⟩
 have hz1:=h1.size
 have k0:=qaa h1 g0
 have y0:=qaa h1 f0
 have y1:=qaa h1 f1
 have y2:=qaa h1 f2
 have y3:=qaa h1 f3
 have y4:=qaa h1 f4
 have y5:=qaa h1 f5
 have y6:=qaa h1 f6
 have y7:=qaa h1 f7
 have q0:=qaa h1 r0
 have qf:=qap h1 (block_lt_of_cell r0) rf
 have HB1:=qhd (hBq.trans (h1.mono hBq.size))
 have hl1:w.heap.size+1+1 < w1.heap.size:=by omega
 clear h1 g0 f0 f1 f2 f3 f4 f5 f6 f7 r0 rf hBq
 cases lo
 ·have RV:Hid (zt=false):=qhd (by rw[HZT.out,turnOk,←HLO.out];simp)
  go_wp2
  all_goals refine bodyPost_ret (v:=?_) ?hrun rfl ?_
  case hrun=>(simp only[results,Tryz.results10];go_simp;first|done|exact rfl)
  all_goals exact HR.out _ _ ⟨⟨_,by rw[RV.out],NO.out _ RV.out⟩,HB1.out.setCell (by show w.heap.size≤w.heap.size+1+1;omega) _⟩
 go_wp2_with fail
 refine(CC.out _ HB1.out).mono ?_
 rintro _ w2 ⟨rfl,h2⟩
 have hz2:=h2.size
 have k0':=qaa h2 k0
 have x0:=qaa h2 y0
 have x1:=qaa h2 y1
 have x2:=qaa h2 y2
 have x3:=qaa h2 y3
 have x4:=qaa h2 y4
 have x5:=qaa h2 y5
 have x6:=qaa h2 y6
 have x7:=qaa h2 y7
 have q0':=qaa h2 q0
 have qf':=qap h2 (block_lt_of_cell q0) qf
 have HB2:=qhd (HB1.out.trans (h2.mono HB1.out.size))
 have hl2:w.heap.size+1+1 < w2.heap.size:=by omega
 clear h2 k0 y0 y1 y2 y3 y4 y5 y6 y7 q0 qf
 cases co
 ·have RV:Hid (zt=false):=qhd (by rw[HZT.out,turnOk,←HCO.out];simp)
  go_wp2
  all_goals refine bodyPost_ret (v:=?_) ?hrun rfl ?_
  case hrun=>(simp only[results,Tryz.results10];go_simp;first|done|exact rfl)
  all_goals exact HR.out _ _ ⟨⟨_,by rw[RV.out],NO.out _ RV.out⟩,HB2.out.setCell (by show w.heap.size≤w.heap.size+1+1;omega) _⟩
 by_cases hlt:c.fKeeper < (pn:Int)
 rotate_left
 ·have RV:Hid (zt=false):=qhd (by
   have h9:decide (c.fKeeper < (p.fKeepers.length:Int))=false:=by rw[decide_eq_false_iff_not,HPL.out];exact hlt
   rw[HZT.out,turnOk,h9];simp)
  have hge:(pn:Int)≤c.fKeeper:=by omega
  go_wp2
  all_goals refine bodyPost_ret (v:=?_) ?hrun rfl ?_
  case hrun=>(simp only[results,Tryz.results10];go_simp;first|done|exact rfl)
  all_goals exact HR.out _ _ ⟨⟨_,by rw[RV.out],NO.out _ RV.out⟩,HB2.out.setCell (by show w.heap.size≤w.heap.size+1+1;omega) _⟩
 have hge:¬(pn:Int)≤c.fKeeper:=by omega
 have hk0:0≤c.fKeeper:=by
  have h9:=HCO.out.symm
  unfold chgOk keepIn at h9
  simp only[Bool.and_eq_true,decide_eq_true_eq] at h9
  omega
 obtain⟨i,hi⟩:∃ i:Nat,c.fKeeper=(i:Int):=⟨c.fKeeper.toNat,by omega⟩
 obtain⟨kx,hx⟩:∃ kx,p.fKeepers[i]? =some kx:=⟨_,List.getElem?_eq_getElem (by rw[HPL.out];omega)⟩
 obtain⟨pad,rfl⟩:∃ pad,pa=some pad:=by
  obtain⟨g,off,cap,cs,e,_⟩:=HS.out.rowAt hx
  cases e;exact⟨_,rfl⟩
 have CT:Hid (∀ W,Below w.heap.size w W→Calls Tryz.prog 38 #[.agg #[.slice (some pad) pn pc],.agg #[.int .i64 c.fKind,.int .i64 c.fKeeper,.string c.fName,.int .i64 c.fTo,.string c.fClass.fName,.string c.fClass.fSuper,.slice ua un uc,.slice ta tn tc]] W fun e w'=>(∃ v,e=.returned (.agg #[v])∧Sl 2 rLodKeeper 0 w' v (planMove p c).fKeepers)∧Below W.heap.size W w'):=qhd fun W hW=>
  have hk:=Keeps.of_below (lo:=0) hW
  S_l9Turn p c i kx pad pn pc ua un uc ta tn tc W (HS.out.stays rLodKeeper_good hk) (HS1.out.stays qah hk) (HS2.out.stays qag hk) b1 b2 b3 hi hx HLO.out.symm HCO.out.symm
 have HI:=qhd hi
 have HX:=qhd hx
 clear hi hx
 go_wp2_with fail
 refine(CT.out _ HB2.out).mono ?_
 rintro _ w3 ⟨⟨tv,rfl,ht⟩,h3⟩
 obtain⟨va,vn,vc,rfl⟩:=ht.form
 have HT:=qhd ht
 have hz3:=h3.size
 have q3:=qaa h3 q0'
 have qf3:=qap h3 (block_lt_of_cell q0') qf'
 have HB3:=qhd (HB2.out.trans (h3.mono HB2.out.size))
 have hl3:w.heap.size+1+1 < w3.heap.size:=by omega
 clear h3 k0' x0 x1 x2 x3 x4 x5 x6 x7 q0' qf' ht
 obtain⟨lm,hlm⟩:∃ z,z=lodOk (planMove p c):=⟨_,rfl⟩
 have HLM:=qhd hlm
 have CM:Hid (∀ W,Below w3.heap.size w3 W→Calls Tryz.prog 36 #[.agg #[.slice va vn vc]] W fun e w'=>e=.returned (.bool lm)∧Below W.heap.size W w'):=qhd fun W hW=>by rw[HLM.out];exact S_LodOk (planMove p c) _ W (HT.out.stays rLodKeeper_good (Keeps.of_below hW))
 clear hlm
 go_wp2_with fail
 refine nameW (P:=fun W=>Calls Tryz.prog 36 #[.agg #[.slice va vn vc]] W _) _ (fun wx hwx=>?_)
 have hBx:Below w3.heap.size w3 wx:=by rw[hwx];exact bbel
 have q4:=qaa hBx q3
 have qf4:=qap hBx (block_lt_of_cell q3) qf3
 have e0:wx.cell? ⟨w3.heap.size,0,none⟩=some (.slice va vn vc):=by rw[hwx];go_simp
 have hzx:wx.heap.size=w3.heap.size+1:=by rw[hwx];simp[World.setCell]
 clear hwx
 refine(CM.out _ hBx).mono ?_
 rintro _ w4 ⟨rfl,h4⟩
 have hz4:=h4.size
 have q5:=qaa h4 q4
 have qf5:=qap h4 (block_lt_of_cell q4) qf4
 have e1:=qaa h4 e0
 have hB4:Below w3.heap.size w3 w4:=hBx.trans (h4.mono hBx.size)
 have HB4:=qhd (HB3.out.trans (hB4.mono HB3.out.size))
 have HT4:=qhd (HT.out.stays rLodKeeper_good (Keeps.of_below hB4))
 have hl4:w.heap.size+1+1 < w4.heap.size:=by omega
 have hl5:w3.heap.size < w4.heap.size:=by omega
 clear h4 hB4 hBx q3 qf3 q4 qf4 e0
 cases lm
 ·have RV:Hid (zt=false):=qhd (by rw[HZT.out,turnOk,←HLM.out];simp)
  go_wp2
  all_goals refine bodyPost_ret (v:=?_) ?hrun rfl ?_
  case hrun=>(simp only[results,Tryz.results10];go_simp;first|done|exact rfl)
  all_goals exact HR.out _ _ ⟨⟨_,by rw[RV.out],NO.out _ RV.out⟩,HB4.out.setCell (by show w.heap.size≤w.heap.size+1+1;omega) _⟩
 have RV:Hid (zt=true):=qhd (by
  have h9:decide (c.fKeeper < (p.fKeepers.length:Int))=true:=by rw[decide_eq_true_iff,HPL.out];exact hlt
  rw[HZT.out,turnOk,←HCO.out,←HLO.out,←HLM.out,h9];rfl)
 have TV:Hid (turned p c=planMove p c):=qhd (by rw[turned,←HZT.out,RV.out];rfl)
 go_wp2_with fail
 refine(S_l9Plan (planMove p c) va vn vc w4 HT4.out (lodOk_short HLM.out.symm)).mono ?_
 rintro _ w5 ⟨⟨pv,rfl,hT5⟩,h5⟩
 obtain⟨ra,rn,rc,rfl⟩:=hT5.form
 have HT5:=qhd hT5
 have q6:=qaa h5 q5
 have qf6:=qap h5 (block_lt_of_cell q5) qf5
 have HB5:=qhd (HB4.out.trans (h5.mono HB4.out.size))
 have hz5:=h5.size
 clear h5 q5 qf5 e1 hT5
 go_wp2
 all_goals refine bodyPost_ret (v:=?_) ?hrun rfl ?_
 case hrun=>(simp only[results,Tryz.results10];go_simp;first|done|exact rfl)
 all_goals
  have hkz:Keeps w4.heap.size w5 (w5.setCell ⟨w.heap.size+1+1,0,none⟩ (.slice ra rn rc)):=⟨by simp[World.setCell],fun k hk hl=>Below.heap_setCell _ _ _ _ (by show k≠w.heap.size+1+1;omega)⟩
  exact HR.out _ _ ⟨⟨_,by rw[RV.out],by rw[TV.out];exact(HT5.out.stays rLodKeeper_good hkz).low rLodKeeper_good (Nat.zero_le _)⟩,HB5.out.setCell (by show w.heap.size≤w.heap.size+1+1;omega) _⟩

theorem S_DrawPlanTurn (v:Value) (w:World) (hv:Bytes w v) :
  Calls Tryz.prog 8 #[v] w fun e w'=>(∃ (pv:Value) (pl:DLodPlan) (x:DChgChange) (v1 v2:Value),e=.returned (.tuple #[.agg #[pv],.agg #[.int .i64 x.fKind,.int .i64 x.fKeeper,.string x.fName,.int .i64 x.fTo,.string x.fClass.fName,.string x.fClass.fSuper,v1,v2]])∧Sl 2 rLodKeeper w.heap.size w' pv pl.fKeepers ∧
   Sl 3 rClsField w.heap.size w' v1 x.fClass.fFields∧Sl 8 rClsMethod w.heap.size w' v2 x.fClass.fMethods∧x.fName.size≤10∧x.fClass.fName.size≤10∧x.fClass.fSuper.size≤10∧(-9≤x.fKind∧x.fKind≤9)∧(-9≤x.fKeeper∧x.fKeeper≤9)∧(-9≤x.fTo∧x.fTo≤9))∧Below w.heap.size w w':=by
 have hv':=hv
 refine qac fun R HR=>?_
 go_enter Tryz.func8,Tryz.ntmps8
 go_upto_region 1 with fail
 refine nameW (P:=fun W=>Code.wp _ _ _ _ W) _ (fun w0 hw0=>?_)
 have hB0:Below w.heap.size w w0:=by rw[hw0];exact bbel
 have hz0:w.heap.size+1 < w0.heap.size:=by rw[hw0];simp
 have hv0:Bytes w0 v:=by rw[hw0];exact(hv'.alloc _).alloc _
 have bR:w0.heap[w.heap.size]? =some (.cells #[.slice none 0 0] 25 (0,0)):=by
  rw[hw0];exact(Below.heap_alloc _ _ _ (by simp)).trans (heap_alloc_new w _)
 have bC:w0.heap[w.heap.size+1]? =some (.cells #[.int .i64 0,.int .i64 0,.string ⟨#[]⟩,.int .i64 0,.string ⟨#[]⟩,.string ⟨#[]⟩,.slice none 0 0,.slice none 0 0] 31 (0,0)):=by
  rw[hw0];have:=heap_alloc_new (w.alloc (.cells #[.slice none 0 0] 25)) (.cells #[.int .i64 0,.int .i64 0,.string ⟨#[]⟩,.int .i64 0,.string ⟨#[]⟩,.string ⟨#[]⟩,.slice none 0 0,.slice none 0 0] 31);rw[World.size_alloc] at this;exact this
 clear hw0 hv'
 go_wp2_with fail
 refine(S_l20Open _ _ hv0).mono ?_
 rintro e w1 ⟨rfl,h1,h2,h3⟩
 have hz1:=h2.size
 have bR1:=(h2.block _ (by omega)).trans bR
 have bC1:=(h2.block _ (by omega)).trans bC
 have hB1:Below w.heap.size w w1:=hB0.trans (h2.mono hB0.size)
 go_wp2_with fail
 refine(S_l20PlanOr _ 0 14 _ (by omega) (by omega) (by first|exact h1|exact rdd) (by omega)).mono ?_
 rintro e w2 ⟨pv,pl,q,rfl,hs,hnr,hq,h4,h5⟩
 clear h1
 obtain⟨a,len,cap,rfl⟩:=hs.form
 have HS:=qhd hs
 have hrw:w0.heap.size < w1.heap.size:=h3
 have hz2:=h5.size
 have bR2:=(h5.block _ (by omega) (by omega)).trans bR1
 have bC2:=(h5.block _ (by omega) (by omega)).trans bC1
 clear hs hnr h2 bR1 bC1 bR bC
 go_wp2_with fail
 refine(S_l20Change _ q 9 _ (by omega) (by omega) (by first|exact h4|exact rdd) (by omega)).mono ?_
 rintro e w3 ⟨x,v1,v2,q3,rfl,s1,s2,n1,n2,n3,i1,i2,i3,hq3,h6,h7⟩
 obtain⟨va,vn,vc,rfl⟩:=s1.form
 obtain⟨ua,un,uc,rfl⟩:=s2.form
 have S1:=qhd s1
 have S2:=qhd s2
 have HS3:Hid (Sl 2 rLodKeeper w1.heap.size w3 (.slice a len cap) pl.fKeepers):=qhd (HS.out.stays rLodKeeper_good (Keeps.of_ex h7 hrw (Nat.le_refl _)))
 have hz3:=h7.size
 have bR3:=(h7.block _ (by omega) (by omega)).trans bR2
 have bC3:=(h7.block _ (by omega) (by omega)).trans bC2
 have HE:Hid (Below w.heap.size w w3):=qhd ((hB1.trans ((h5.mono (by omega)).below (by omega))).trans ((h7.mono (by omega)).below (by omega)))
 have TH:Hid (∀ u,(w3.setCell ⟨w.heap.size,0,none⟩ u).there (w.heap.size+1) 0 8):=qhd fun u=>row_there ((Below.heap_setCell _ _ _ _ (by show w.heap.size+1≠w.heap.size;omega)).trans bC3) rfl
 have HI:Hid ((Tryz.prog.info? 31).map (·.size)=some 8):=qhd (by kernel_rfl)
 obtain⟨r0,rf0⟩:=oneC bR3
 have hl3:w.heap.size+1 < w3.heap.size:=by omega
 clear bR2 bC2 bR3 bC3 s1 s2 h7 h6 h5 h4
 go_wp2_with (refine wpList_store_row (by rfl) 31 (.tmp 3) (.tmp 10) (by rfl) (w.heap.size+1) [.int .i64 x.fKind,.int .i64 x.fKeeper,.string x.fName,.int .i64 x.fTo,.string x.fClass.fName,.string x.fClass.fSuper,.slice va vn vc,.slice ua un uc] (by rfl) (by rfl) (TH.out _) HI.out (by simp[Value.oneCell']) ?_)
 intro w5 hr5 ht5 hT5
 have hz5:w5.heap.size=w3.heap.size:=by rw[←hT5.size];simp[World.setCell]
 obtain⟨_,g0,g1,g2,g3,g4,g5,g6,g7,_⟩:=Eight.of (by omega) hr5 ht5
 have hk5:w5.heap[w.heap.size]? =(w3.setCell ⟨w.heap.size,0,none⟩ (.slice a len cap)).heap[w.heap.size]? :=hT5.block _ (by omega)
 have rr:w5.cell? ⟨w.heap.size,0,none⟩=some (.slice a len cap):=(qai hk5).trans (World.cell?_setCell_same _ _ _ r0)
 have hkk:Keeps (w.heap.size+1+1) w3 w5:=⟨Nat.le_of_eq hz5.symm,fun k hk hl=>(hT5.block k (by omega)).trans (Below.heap_setCell _ _ _ _ (by show k≠w.heap.size;omega))⟩
 have HS5:=qhd ((HS3.out.low rLodKeeper_good (lo':=w.heap.size+1+1) (by omega)).stays rLodKeeper_good hkk)
 have S15:=qhd ((S1.out.low qah (lo':=w.heap.size+1+1) (by omega)).stays qah hkk)
 have S25:=qhd ((S2.out.low qag (lo':=w.heap.size+1+1) (by omega)).stays qag hkk)
 have HB5:Hid (Below w.heap.size w w5):=qhd ((HE.out.setCell (by show w.heap.size≤w.heap.size;omega) _).trans (hT5.below (by omega)))
 clear hr5 ht5 hT5 hk5 hkk r0 rf0
 go_wp2
 all_goals refine bodyPost_ret (v:=?_) ?hrun rfl ?_
 case hrun=>(simp only[results,Tryz.results8];go_simp;first|done|exact rfl)
 all_goals exact HR.out _ _ ⟨⟨_,pl,x,_,_,rfl,HS5.out.low rLodKeeper_good (by omega),S15.out.low qah (by omega),S25.out.low qag (by omega),n1,n2,n3,i1,i2,i3⟩,HB5.out⟩

end Go.Proofs.YtmbfpbgkchncgaaGreat
