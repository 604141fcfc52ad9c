/-
  Texts of mine, packed: LawPT, RowPT. No condition beside those of the single theorems.
-/
import Derived.Test.YtmbfpbgkchncgaaGreatK20
import Derived.Test.YtmbfpbgkchncgaaGreatK25
import Derived.Test.YtmbfpbgkchncgaaGreatK26
import Derived.Test.YtmbfpbgkchncgaaGreatK15
set_option linter.unusedSimpArgs false
set_option linter.unusedVariables false
set_option maxHeartbeats 16000000
set_option maxRecDepth 100000
namespace Go.Proofs.YtmbfpbgkchncgaaGreat
open Go.RowKit
theorem Sl.only {α:Type} {k:Nat} {R:RowRel α} {lo:Nat} {w:World} {g off n cap:Nat} {xs:List α} (h:Sl k R lo w (.slice (some ⟨g,off,none⟩) n cap) xs) {i:Nat} {x:α} (hx:xs[i]? =some x):Sl k R lo w (.slice (some ⟨g,off+i * k,none⟩) 1 (cap-i)) [x]:=by
 obtain⟨a,n',cap',e,hl,h1,h2,h3⟩:=h
 cases e
 have hi:=(List.getElem?_eq_some_iff.1 hx).1
 obtain⟨g',off',e,hlo,hg,hr⟩:=h3 (by omega)
 cases e
 refine⟨_,_,_,rfl,rfl,by omega,by omega,fun _=>⟨g,off+i * k,rfl,hlo,hg,fun j hj=>?_⟩⟩
 obtain rfl:j=0:=by omega
 obtain⟨y,cs,e0,e1,e2,e3⟩:=hr i (by omega)
 obtain rfl:x=y:=Option.some.inj (hx.symm.trans e0)
 exact⟨x,cs,rfl,e1,fun u v hv=>by rw[Nat.zero_mul,Nat.add_zero];exact e2 u v hv,e3⟩
theorem L_FnPlanTurn (v:Value) (w:World) (hv:Bytes w v) :
  Calls Tryz.prog 4 #[v] w fun e w'=>e=.returned (.bool true)∧Below w.heap.size w w':=by
 obtain⟨ca,len,cap,rfl,g1,g2,g3⟩:=id hv
 have m1:len≤9223372036854775807:=by unfold maxLen at g2;omega
 clear g2 g3
 refine qac fun R HR=>?_
 go_enter Tryz.func4,Tryz.ntmps4
 go_wp2_with fail
 all_goals first
  | (try go_returns
     exact HR.out _ _ ⟨rfl,bbel⟩)
  | skip
 refine(S_DrawPlanTurn _ _ hv).mono ?_
 rintro _ w1 ⟨⟨pv,p,c,v1,v2,rfl,sp,s1,s2,n1,n2,n3,i1,i2,i3⟩,h1⟩
 obtain⟨pa,pn,pc,rfl⟩:=sp.form
 obtain⟨va,vn,vc,rfl⟩:=s1.form
 obtain⟨ua,un,uc,rfl⟩:=s2.form
 have b1:c.fName.size≤maxLen:=by unfold maxLen;omega
 have b2:c.fClass.fName.size≤maxLen:=by unfold maxLen;omega
 have b3:c.fClass.fSuper.size≤maxLen:=by unfold maxLen;omega
 have SP:=qhd (sp.low rLodKeeper_good (Nat.zero_le _))
 have S1:=qhd (s1.low qah (Nat.zero_le _))
 have S2:=qhd (s2.low qag (Nat.zero_le _))
 obtain⟨zt,hzt⟩:∃ z,turnOk p c=z:=⟨_,rfl⟩
 have CI:Hid (∀ W,Below w1.heap.size w1 W→Calls Tryz.prog 9 #[.agg #[.slice pa pn pc],.agg #[.int .i64 c.fKind,.int .i64 c.fKeeper,.string c.fName,.int .i64 c.fTo,.string c.fClass.fName,.string c.fClass.fSuper,.slice va vn vc,.slice ua un uc]] W (PTurnd p c zt W)):=qhd fun W hW=>by
  have hk:=Keeps.of_below (lo:=0) hW
  rw[←hzt];exact I_PlanTurn p c _ _ _ _ _ W (SP.out.stays rLodKeeper_good hk) (S1.out.stays qah hk) (S2.out.stays qag hk) b1 b2 b3
 have CS:Hid (∀ W,Below w1.heap.size w1 W→Calls Tryz.prog 10 #[.agg #[.slice pa pn pc],.agg #[.int .i64 c.fKind,.int .i64 c.fKeeper,.string c.fName,.int .i64 c.fTo,.string c.fClass.fName,.string c.fClass.fSuper,.slice va vn vc,.slice ua un uc]] W (PTurnd p c zt W)):=qhd fun W hW=>by
  have hk:=Keeps.of_below (lo:=0) hW
  rw[←hzt];exact S_PlanTurn p c _ _ _ _ _ W (SP.out.stays rLodKeeper_good hk) (S1.out.stays qah hk) (S2.out.stays qag hk) b1 b2 b3
 have HZT:=qhd hzt
 clear hzt sp s1 s2 n1 n2 n3 b1 b2 b3 g1
 go_wp2_with fail
 refine nameV (P:=fun W=>Calls Tryz.prog 9 #[.agg #[.slice pa pn pc],.agg #[.int .i64 c.fKind,.int .i64 c.fKeeper,.string c.fName,.int .i64 c.fTo,.string c.fClass.fName,.string c.fClass.fSuper,.slice va vn vc,.slice ua un uc]] W _) _ (fun wq hwq=>?_)
 have hBq:Below w1.heap.size w1 wq:=by rw[hwq];exact bbel
 have hzq:wq.heap.size=w1.heap.size+1+1:=by rw[hwq];simp[World.setCell]
 have g0:wq.cell? ⟨w1.heap.size,0,none⟩=some (.slice pa pn pc):=by rw[hwq];go_simp
 have f0:wq.cell? ⟨w1.heap.size+1,0,none⟩=some (.int .i64 c.fKind):=by rw[hwq];go_simp
 have f1:wq.cell? ⟨w1.heap.size+1,1,none⟩=some (.int .i64 c.fKeeper):=by rw[hwq];go_simp
 have f2:wq.cell? ⟨w1.heap.size+1,2,none⟩=some (.string c.fName):=by rw[hwq];go_simp
 have f3:wq.cell? ⟨w1.heap.size+1,3,none⟩=some (.int .i64 c.fTo):=by rw[hwq];go_simp
 have f4:wq.cell? ⟨w1.heap.size+1,4,none⟩=some (.string c.fClass.fName):=by rw[hwq];go_simp
 have f5:wq.cell? ⟨w1.heap.size+1,5,none⟩=some (.string c.fClass.fSuper):=by rw[hwq];go_simp
 have f6:wq.cell? ⟨w1.heap.size+1,6,none⟩=some (.slice va vn vc):=by rw[hwq];go_simp
 have f7:wq.cell? ⟨w1.heap.size+1,7,none⟩=some (.slice ua un uc):=by rw[hwq];go_simp
 clear hwq
 refine(CI.out _ hBq).mono ?_
 rintro _ w2 ⟨⟨qv,rfl,hq⟩,h2⟩
 obtain⟨qa,qn,qc,rfl⟩:=hq.form
 have HQ:=qhd hq
 have hz2:=h2.size
 have HB2:Hid (Below w1.heap.size w1 w2):=qhd (hBq.trans (h2.mono hBq.size))
 replace g0:=qaa h2 g0
 replace f0:=qaa h2 f0
 replace f1:=qaa h2 f1
 replace f2:=qaa h2 f2
 replace f3:=qaa h2 f3
 replace f4:=qaa h2 f4
 replace f5:=qaa h2 f5
 replace f6:=qaa h2 f6
 replace f7:=qaa h2 f7
 have l0:w1.heap.size < w2.heap.size:=by omega
 have l1:w1.heap.size+1 < w2.heap.size:=by omega
 clear hq h2 hBq
 go_wp2_with fail
 refine nameV (P:=fun W=>Calls Tryz.prog 10 #[.agg #[.slice pa pn pc],.agg #[.int .i64 c.fKind,.int .i64 c.fKeeper,.string c.fName,.int .i64 c.fTo,.string c.fClass.fName,.string c.fClass.fSuper,.slice va vn vc,.slice ua un uc]] W _) _ (fun wr hwr=>?_)
 have hBr:Below w2.heap.size w2 wr:=by rw[hwr];exact bbel
 have hzr:wr.heap.size=w2.heap.size+1:=by rw[hwr];simp[World.setCell]
 have q0:wr.cell? ⟨w2.heap.size,0,none⟩=some (.slice qa qn qc):=by rw[hwr];go_simp
 clear hwr
 refine(CS.out _ (HB2.out.trans (hBr.mono HB2.out.size))).mono ?_
 rintro _ w3 ⟨⟨rv,rfl,hr⟩,h3⟩
 obtain⟨ra,rn,rc,rfl⟩:=hr.form
 have hz3:=h3.size
 have hB23:Below w2.heap.size w2 w3:=hBr.trans (h3.mono hBr.size)
 have HB3:Hid (Below w1.heap.size w1 w3):=qhd (HB2.out.trans (hB23.mono HB2.out.size))
 have HQ3:=qhd (HQ.out.stays rLodKeeper_good (Keeps.of_below hB23))
 replace g0:=qaa hB23 g0
 replace f0:=qaa hB23 f0
 replace f1:=qaa hB23 f1
 replace f2:=qaa hB23 f2
 replace f3:=qaa hB23 f3
 replace f4:=qaa hB23 f4
 replace f5:=qaa hB23 f5
 replace f6:=qaa hB23 f6
 replace f7:=qaa hB23 f7
 replace q0:=qaa h3 q0
 have hBT:Below w.heap.size w w3:=h1.trans (HB3.out.mono h1.size)
 have l3:w2.heap.size < w3.heap.size:=by omega
 have l4:w1.heap.size+1 < w3.heap.size:=by omega
 have HR3:=qhd hr
 clear hr h3 hB23 hBr HQ h1
 go_wp2_with fail
 refine nameV (P:=fun W=>Calls Tryz.prog 12 #[.agg #[.slice qa qn qc],.agg #[.slice ra rn rc]] W _) _ (fun wu hwu=>?_)
 have hBu:Below w3.heap.size w3 wu:=by rw[hwu];clear hBT;exact bbel
 clear hwu
 have hku:=Keeps.of_below (lo:=0) hBu
 refine(L_loPlan (turned p c) (turned p c) _ _ wu (HQ3.out.stays rLodKeeper_good hku) (HR3.out.stays rLodKeeper_good hku)).mono ?_
 rintro _ w4 ⟨rfl,h4⟩
 rw[(planEq_iff _ _).2 rfl]
 have hB34:Below w3.heap.size w3 w4:=hBu.trans (h4.mono hBu.size)
 have hz4:=hB34.size
 replace g0:=qaa hB34 g0
 replace f0:=qaa hB34 f0
 replace f1:=qaa hB34 f1
 replace f2:=qaa hB34 f2
 replace f3:=qaa hB34 f3
 replace f4:=qaa hB34 f4
 replace f5:=qaa hB34 f5
 replace f6:=qaa hB34 f6
 replace f7:=qaa hB34 f7
 replace q0:=qaa hB34 q0
 have HQ4:=qhd (HQ3.out.stays rLodKeeper_good (Keeps.of_below hB34))
 have HP4:=qhd (SP.out.stays rLodKeeper_good (Keeps.of_below (HB3.out.trans (hB34.mono HB3.out.size))))
 have HC1:=qhd (S1.out.stays qah (Keeps.of_below (HB3.out.trans (hB34.mono HB3.out.size))))
 have HC2:=qhd (S2.out.stays qag (Keeps.of_below (HB3.out.trans (hB34.mono HB3.out.size))))
 have hBT4:Below w.heap.size w w4:=hBT.trans (hB34.mono hBT.size)
 have l5:w1.heap.size < w4.heap.size:=by omega
 have l6:w1.heap.size+1 < w4.heap.size:=by omega
 have l7:w2.heap.size < w4.heap.size:=by omega
 have hqn:=HQ4.out.len.1
 clear hBu h4 hB34 hku hBT HR3 HQ3
 cases zt
 ·have hq0:qn=0:=by rw[←hqn,turned,HZT.out];rfl
  subst hq0
  have hBT:=hBT4
  go_wp2_with fail
  refine nameV (P:=fun W=>Calls Tryz.prog 11 #[] W _) _ (fun wz hwz=>?_)
  have hBTs:=hBT.size
  have hBz:Below w.heap.size w wz:=by rw[hwz];clear HB2 HB3;exact bbel
  clear hwz
  refine(L_loOk' wz).mono ?_
  rintro _ w9 ⟨rfl,h9⟩
  go_wp2
  all_goals (try go_returns)
  all_goals exact HR.out _ _ ⟨rfl,hBz.trans (h9.mono hBz.size)⟩
 obtain⟨i,kx,k',hi,hkx,hk',hlod,hlen,hother,hcase⟩:=plain_turn HZT.out
 rw[turned_ok HZT.out] at hqn HQ4
 have hpn:=HP4.out.len.1
 have hqp:qn=pn:=by rw[←hqn,hlen,hpn]
 subst hqp
 rw[hi] at f1
 have HQN:=qhd hqn
 have HPN:=qhd hpn
 have CO:Hid (∀ W,Below w4.heap.size w4 W→Calls Tryz.prog 13 #[.agg #[.slice qa qn qc]] W fun e w'=>e=.returned (.bool true)∧Below W.heap.size W w'):=qhd fun W hW=>by
  rw[←hlod];exact I_LodOk (planMove p c) _ W (HQ4.out.stays rLodKeeper_good (Keeps.of_below hW))
 have HOTH:=qhd hother
 have HK:=qhd hk'
 have hil:i < qn:=by rw[←hqn];exact(List.getElem?_eq_some_iff.1 hk').1
 have hm9:qn≤9223372036854775807:=by have:=HQ4.out.len.2;unfold maxLen at this;omega
 obtain⟨ov,⟨oa1,ol1,oc1,oa2,ol2,oc2,hov,os1,os2⟩,COf⟩:=L_loOfX (planMove p c) _ ⟨(i:Int),c.fName⟩ w4 HQ4.out
 subst hov
 obtain⟨oc,hoc⟩:∃ c',loOfP (planMove p c) ⟨(i:Int),c.fName⟩=c':=⟨_,rfl⟩
 rw[hoc] at os1 os2 hcase COf
 have OS1:=qhd os1
 have OS2:=qhd os2
 clear hoc os1 os2
 have HOF:=qhd COf
 have HCASE:=qhd hcase
 obtain⟨Qb,Qo,Qc,_,eq9,hqc,hQb,_,hqcell,hqrow⟩:=HQ4.out.rowAt hk'
 obtain⟨Pb,Po,Pc,_,ep9,hpc9,hPb,_,_,_⟩:=HP4.out.rowAt hkx
 rw[hqn] at eq9 hqc
 rw[hpn] at ep9 hpc9
 cases eq9
 cases ep9
 obtain⟨qr1,qr2,rfl,_,hqa⟩:=hqrow
 obtain⟨Aa,an,ac,rfl⟩:=hqa.form
 have QA:w4.cell? ⟨Qb,Qo+i * 2+1,none⟩=some (.slice Aa an ac):=hqcell 1 _ rfl
 have HQA:=qhd QA
 have TA:=qhd hqa
 obtain⟨han,hac,ham⟩:=hqa.len
 have HAN:=qhd han
 have hm8:an≤9223372036854775807:=by unfold maxLen at ham;omega
 clear hqcell hqa QA han ham
 clear hqn hpn hlod hother hcase hi hkx hk' hlen COf
 go_wp2_with fail
 refine(CO.out _ (Below.refl _ _)).mono ?_
 rintro _ w5 ⟨rfl,h5⟩
 have hz5:=h5.size
 replace g0:=qaa h5 g0
 replace f0:=qaa h5 f0
 replace f1:=qaa h5 f1
 replace f2:=qaa h5 f2
 replace f3:=qaa h5 f3
 replace f4:=qaa h5 f4
 replace f5:=qaa h5 f5
 replace f6:=qaa h5 f6
 replace f7:=qaa h5 f7
 replace q0:=qaa h5 q0
 have l5':w1.heap.size < w5.heap.size:=by omega
 have l6':w1.heap.size+1 < w5.heap.size:=by omega
 have l7':w2.heap.size < w5.heap.size:=by omega
 have HB45:=qhd h5
 have HBT5:=qhd (hBT4.trans (h5.mono hBT4.size))
 clear h5 hBT4 CO
 go_wp2_with fail
 go_loopw [9] (fun z wr=>∃ k:Nat,k≤qn∧z=.int .i64 (k:Int)∧Below w5.heap.size w5 wr) (fun z _=>qn-(intOf z).toNat)
 case atStart=>exact⟨0,Nat.zero_le _,rfl,Below.refl _ _⟩
 case round=>
  obtain⟨k,hk,rfl,hb⟩:=hrel
  have hbs:=hb.size
  have x0:=qaa hb g0
  have x1:=qaa hb f1
  have y0:=qaa hb q0
  have u0:w1.heap.size < wr.heap.size:=by omega
  have u1:w1.heap.size+1 < wr.heap.size:=by omega
  have u2:w2.heap.size < wr.heap.size:=by omega
  have hb4:Below w4.heap.size w4 wr:=HB45.out.trans (hb.mono HB45.out.size)
  by_cases hlt:k < qn
  ·have d0:=In.cell x0
   have d1:=In.cell x1
   have d2:=In.cell y0
   have hltI:(k:Int) < (qn:Int):=by omega
   by_cases hki:k=i
   ·have c1:((k:Int) != (i:Int))=false:=by simp[hki]
    clear hki
    go_wp2_with fail
    clear x0 x1 y0
    refine qal (by kernel_rfl) (by kernel_rfl) ?_
    repeat (go_big_quiet_step (first|fail))
    refine wpQuiet_nil ?_
    rintro wZ ⟨⟨wE,hwE⟩,hq⟩
    obtain rfl:wE=wZ:=hq.symm
    clear hq
    have hwEs:=hwE.size
    (try dsimp only)
    go_wp2
    go_roundw
    case measure=>simp[intOf];omega
    case rel=>exact⟨k+1,by omega,by go_num,hb.trans (hwE.mono hbs)⟩
   ·have c1:((k:Int) != (i:Int))=true:=by simp;omega
    have k0:(0:Int)≤(k:Int):=by omega
    have k1:(k:Int)≤(qc:Int):=by omega
    have k2:(k:Int)+1≤(qc:Int):=by omega
    have k3:(k:Int)+1≤(pc:Int):=by omega
    go_wp2_with fail
    clear x0 x1 y0
    obtain⟨x,hx⟩:∃ x,p.fKeepers[k]? =some x:=⟨_,List.getElem?_eq_getElem (by rw[HPN.out];exact hlt)⟩
    have hx':(planMove p c).fKeepers[k]? =some x:=(HOTH.out k hki).trans hx
    have hk4:=Keeps.of_below (lo:=0) hb4
    have CM:∀ y:In wr,Calls Tryz.prog 12 #[.agg #[.slice (some ⟨Qb,Qo+k * 2,none⟩) 1 (qc-k)],.agg #[.slice (some ⟨Pb,Po+k * 2,none⟩) 1 (pc-k)]] y.x fun e w'=>e=.returned (.bool true)∧Below y.x.heap.size y.x w':=fun y=>by
     have hk:=Keeps.of_below (lo:=0) y.h
     have:=L_loPlan ⟨[x]⟩ ⟨[x]⟩ _ _ y.x (((HQ4.out.stays rLodKeeper_good hk4).only hx').stays rLodKeeper_good hk) (((HP4.out.stays rLodKeeper_good hk4).only hx).stays rLodKeeper_good hk)
     rw[(planEq_iff _ _).2 rfl] at this
     exact this
    clear hki hx hx' hk4
    refine qal (by kernel_rfl) (by kernel_rfl) ?_
    repeat (go_big_quiet_step (first|(go_at_call 12;with_reducible exact Calls.ins (CM _))))
    refine wpQuiet_nil ?_
    rintro wZ ⟨⟨wE,hwE⟩,hq⟩
    obtain rfl:wE=wZ:=hq.symm
    clear hq
    have hwEs:=hwE.size
    (try dsimp only)
    go_wp2
    go_roundw
    case measure=>simp[intOf];omega
    case rel=>exact⟨k+1,by omega,by go_num,hb.trans (hwE.mono hbs)⟩
  ·obtain rfl:qn=k:=by omega
   obtain⟨wq2,hwq2⟩:∃ x,x=wr:=⟨_,rfl⟩
   subst hwq2
   have y1:=qaa hb f2
   go_wp2_with fail
   refine(HOF.out _ hb4).mono ?_
   rintro _ w6 ⟨rfl,h6⟩
   have hz6:=h6.size
   have HB46:=qhd (hb4.trans (h6.mono hb4.size))
   have HBT6:=qhd (HBT5.out.trans ((hb.trans (h6.mono hbs)).mono HBT5.out.size))
   have HB56:Hid (Below w5.heap.size w5 w6):=qhd (hb.trans (h6.mono hbs))
   clear hb hb4 h6 x0 x1 y0 y1 u0 u1 u2
   have hs56:=HB56.out.size
   go_upto_region 20 with fail
   refine nameV (P:=fun W=>Code.wp _ _ _ _ W) _ (fun w7 hw7=>?_)
   have hB67:Below w6.heap.size w6 w7:=by rw[hw7];exact bbel
   have e0:w7.cell? ⟨w6.heap.size,0,none⟩=some (.string oc.fName):=by rw[hw7];go_simp
   have e1:w7.cell? ⟨w6.heap.size,1,none⟩=some (.string oc.fSuper):=by rw[hw7];go_simp
   have e2:w7.cell? ⟨w6.heap.size,2,none⟩=some (.slice oa1 ol1 oc1):=by rw[hw7];go_simp
   have e3:w7.cell? ⟨w6.heap.size,3,none⟩=some (.slice oa2 ol2 oc2):=by rw[hw7];go_simp
   have hz7:w6.heap.size < w7.heap.size:=block_lt_of_cell e0
   clear hw7
   have HB57:Hid (Below w5.heap.size w5 w7):=qhd (HB56.out.trans (hB67.mono HB56.out.size))
   have HB47:Hid (Below w4.heap.size w4 w7):=qhd (HB46.out.trans (hB67.mono HB46.out.size))
   have HBT7:Hid (Below w.heap.size w w7):=qhd (HBT6.out.trans (hB67.mono HBT6.out.size))
   have E0:=qhd e0
   have E1:=qhd e1
   have E2:=qhd e2
   have E3:=qhd e3
   clear e0 e1 e2 e3 hB67
   go_loopw [11,12] (fun za zj wr=>∃ j:Nat,j≤an∧za=.int .i64 (lastAsk (k'.fAsks.take j) c.fName)∧zj=.int .i64 (j:Int)∧Below w7.heap.size w7 wr) (fun _ zj _=>an-(intOf zj).toNat)
   case atStart=>exact⟨0,Nat.zero_le _,rfl,rfl,Below.refl _ _⟩
   case round=>
    obtain⟨j,hj,rfl,rfl,hb⟩:=hrel
    have hbs2:=hb.size
    have hb5:Below w5.heap.size w5 wr:=HB57.out.trans (hb.mono HB57.out.size)
    have hb4:Below w4.heap.size w4 wr:=HB47.out.trans (hb.mono HB47.out.size)
    have x0:=qaa hb5 q0
    have x1:=qaa hb5 f1
    have x2:=qaa hb5 f2
    have y0:=qaa hb4 HQA.out
    have u1:w1.heap.size+1 < wr.heap.size:=by omega
    have u2:w2.heap.size < wr.heap.size:=by omega
    have hqr:Qb < wr.heap.size:=by have:=HB45.out.size;omega
    have ikI:(i:Int) < (qn:Int):=by omega
    have ikc:(i:Int)≤(qc:Int):=by omega
    have i0:(0:Int)≤(i:Int):=by omega
    by_cases hlt:j < an
    ·obtain⟨a,ha⟩:∃ a,k'.fAsks[j]? =some a:=⟨_,List.getElem?_eq_getElem (by rw[HAN.out];exact hlt)⟩
     obtain⟨Ab,Ao,Ac,cs,ea,hac2,hAb,_,acell,arow⟩:=(TA.out.stays rLodAsk_good (Keeps.of_below hb4)).rowAt ha
     rw[HAN.out] at ea hac2
     cases ea
     obtain⟨rfl,_⟩:=arow
     have p0:wr.cell? ⟨Ab,Ao+j * 2,none⟩=some (.string a.fName):=acell 0 _ rfl
     have p1:wr.cell? ⟨Ab,Ao+j * 2+1,none⟩=some (.int .i64 a.fKeeper):=acell 1 _ rfl
     have hjI:(j:Int) < (an:Int):=by omega
     have hjc:(j:Int)≤(ac:Int):=by omega
     have j0:(0:Int)≤(j:Int):=by omega
     have HST:=qhd (lastAsk_step (nm:=c.fName) ha)
     have d0:=In.cell x0
     have d1:=In.cell x1
     have d2:=In.cell x2
     have d3:=In.cell y0
     have d4:=In.cell p0
     have d5:=In.cell p1
     clear acell ha
     cases hsm:sameN a.fName c.fName
     ·have hc1:(a.fName.toList == c.fName.toList)=false:=hsm
      rw[hsm] at HST
      clear hsm
      go_wp2_with fail
      refine qal (by kernel_rfl) (by kernel_rfl) ?_
      repeat (go_big_quiet_step (first|fail))
      refine wpQuiet_nil ?_
      rintro wZ ⟨⟨wE,hwE⟩,hq⟩
      obtain rfl:wE=wZ:=hq.symm
      clear hq
      have hwEs:=hwE.size
      (try dsimp only)
      go_wp2
      go_roundw
      case measure=>simp[intOf];omega
      case rel=>exact⟨j+1,by omega,by rw[HST.out];rfl,by go_num,hb.trans (hwE.mono hbs2)⟩
     ·have hc1:(a.fName.toList == c.fName.toList)=true:=hsm
      rw[hsm] at HST
      clear hsm
      go_wp2_with fail
      refine qal (by kernel_rfl) (by kernel_rfl) ?_
      repeat (go_big_quiet_step (first|fail))
      refine wpQuiet_nil ?_
      rintro wZ ⟨⟨wE,hwE⟩,hq⟩
      obtain rfl:wE=wZ:=hq.symm
      clear hq
      have hwEs:=hwE.size
      (try dsimp only)
      have x0':=qaa hwE x0
      have x1':=qaa hwE x1
      have y0':=qaa hwE y0
      have p1':=qaa hwE p1
      clear x0 x1 x2 y0 p0 p1 d0 d1 d2 d3 d4 d5
      go_wp2
      go_roundw
      case measure=>simp[intOf];omega
      case rel=>exact⟨j+1,by omega,by rw[HST.out];rfl,by go_num,hb.trans (hwE.mono hbs2)⟩
    ·obtain rfl:j=an:=by omega
     have hfull:k'.fAsks.take j=k'.fAsks:=List.take_of_length_le (Nat.le_of_eq HAN.out)
     rw[hfull]
     have t0:=qaa hb5 f0
     have t3:=qaa hb5 f3
     have t4:=qaa hb5 f4
     have t5:=qaa hb5 f5
     have t6:=qaa hb5 f6
     have t7:=qaa hb5 f7
     have e0:=qaa hb E0.out
     have e1:=qaa hb E1.out
     have e2:=qaa hb E2.out
     have e3:=qaa hb E3.out
     have hBE:Below w.heap.size w wr:=HBT7.out.trans (hb.mono HBT7.out.size)
     have u6:w6.heap.size < wr.heap.size:=by omega
     have hk4:=Keeps.of_below (lo:=0) hb4
     rcases HCASE.out with ⟨h1,h2⟩|⟨h1,h2⟩|⟨h1,h2⟩|⟨h1,h2⟩
     ·have CC:Hid (∀ W,Below wr.heap.size wr W→Calls Tryz.prog 15 #[.agg #[.string oc.fName,.string oc.fSuper,.slice oa1 ol1 oc1,.slice oa2 ol2 oc2],.agg #[.string c.fClass.fName,.string c.fClass.fSuper,.slice va vn vc,.slice ua un uc]] W fun e w'=>e=.returned (.bool true)∧Below W.heap.size W w'):=qhd fun W hW=>by
       have hk:=Keeps.of_below (lo:=0) hW
       have:=L_loClass oc c.fClass _ _ _ _ W ((OS1.out.stays qah hk4).stays qah hk) ((OS2.out.stays qag hk4).stays qag hk) ((HC1.out.stays qah hk4).stays qah hk) ((HC2.out.stays qag hk4).stays qag hk)
       rw[(clsEq_iff _ _).2 h2] at this
       exact this
      have c1:(c.fKind == 1)=true:=by simp[h1]
      clear h1 h2 hb5 hb4 hb
      go_wp2_with fail
      refine(CC.out _ (Below.refl _ _)).mono ?_
      rintro _ w9 ⟨rfl,h9⟩
      go_wp2
      all_goals (try go_returns)
      all_goals exact HR.out _ _ ⟨rfl,hBE.trans (h9.mono hBE.size)⟩
     ·have c1:(c.fKind == 1)=false:=by simp[h1]
      have c2:(c.fKind == 2)=true:=by simp[h1]
      subst h2
      have e0':wr.cell? ⟨w6.heap.size,0,none⟩=some (.string ⟨#[]⟩):=e0
      clear h1 hb5 hb4 hb e0 e1 e2 e3
      go_wp2
      all_goals (try go_returns)
      all_goals exact HR.out _ _ ⟨rfl,hBE⟩
     ·have c1:(c.fKind == 1)=false:=by simp[h1]
      have c2:(c.fKind == 2)=false:=by simp[h1]
      have c3:(c.fKind == 3)=true:=by simp[h1]
      rw[h2]
      clear h1 h2 hb5 hb4 hb
      go_wp2
      all_goals (try go_returns)
      all_goals exact HR.out _ _ ⟨by first|rfl|simp,hBE⟩
     ·have c1:(c.fKind == 1)=false:=by simp[h1]
      have c2:(c.fKind == 2)=false:=by simp[h1]
      have c3:(c.fKind == 3)=false:=by simp[h1]
      rw[h2]
      clear h1 h2 hb5 hb4 hb
      go_wp2
      all_goals (try go_returns)
      all_goals exact HR.out _ _ ⟨by first|rfl|simp,hBE⟩

end Go.Proofs.YtmbfpbgkchncgaaGreat
namespace Go.Proofs.YtmbfpbgkchncgaaGreat
open Go.ChangeShapes Go.WideShapes Go.ChangeAt Go.RowKit Go.Joins
theorem cells_u8:Tryz.prog.cellsOf 5=1:=by kernel_rfl

theorem fnPlanTurn_lifted (os:Os) (started:os.Started) (H:Type) (enc:TypeId × Value→H) :
  ReturnsInHanded {} Tryz.checked os 4 .any (Rows.fnPlanTurnSpec.pre6 enc Tryz.prog Tryz.f4 Rows.fnPlanTurnRow.domain false) (Rows.fnPlanTurnSpec.post enc Tryz.prog Tryz.f4 false true false false):=by
 refine returnsInHanded_of_change (C:=Tryz.checked) own started (by kernel_rfl) Tryz.func4
  (ChangeSpec.witness6 (enc:=enc) (C:=Tryz.checked) false ⟨#[],#[.slice none 0 0],[]⟩ 8 (by kernel_rfl) (by kernel_rfl) (by kernel_rfl) (by kernel_rfl)) ?_
 intro W base args ds gs before hval0 hW hcnd _
 have hval:∀ (j:Nat) t v,Tryz.f4.params[j]? =some t→args[j]? =some v→Value.okWide Tryz.prog W .any base t v:=hval0
 have hW':=hW
 obtain⟨p,q,hA0,hV,rfl,hfz,hnd⟩:=hW
 have hA:DataW.TrodAll enc Tryz.prog W 0 (fun _=>true) true Tryz.f4.params.toList args.toList ds p:=hA0
 rw[Tryz.params4] at hA hval
 clear hA0 hval0
 obtain⟨v0,d0,rfl,rfl,h0⟩:=trodAll_one hA
 obtain⟨rfl,rfl⟩:=trodVars_none hV
 have b0:=open_bytes Tryz.underlying22 Tryz.underlying5 cells_u8 (hval 0 22 v0 rfl rfl) h0
 refine(L_FnPlanTurn v0 W b0).mono fun e W' h=>?_
 obtain⟨rfl,hb⟩:=h
 exact⟨_,rfl,law_post (s:=Rows.fnPlanTurnSpec) hW' hb rfl rfl rfl Tryz.underlying4 (by rw[Tryz.params4];kernel_rfl)⟩
theorem fnPlanTurn_holds:Rows.FnPlanTurnSaid:=
 OpenClaim.holds_of_wide 4 Tryz.f4 rfl rfl rfl rfl rfl rfl rfl ⟨rfl,rfl,rfl,rfl,rfl⟩ rfl rfl rfl rfl rfl (by kernel_rfl) Tryz.func4 (by kernel_rfl)
  (of_decide_eq_true (by kernel_rfl)) (by unfold Func.isWrapper;first|(rw[if_pos (by decide +kernel)];kernel_rfl)|(rw[if_neg (by decide +kernel)];exact⟨rfl,rfl⟩))
  (fun os started H enc _=>fnPlanTurn_lifted os started H enc)

end Go.Proofs.YtmbfpbgkchncgaaGreat
