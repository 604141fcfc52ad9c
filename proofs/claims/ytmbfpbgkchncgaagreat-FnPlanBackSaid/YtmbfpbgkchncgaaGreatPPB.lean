/-
  Texts of mine, packed: LawPB, RowPB. No condition beside those of the single theorems.
-/
import Derived.Test.YtmbfpbgkchncgaaGreatK20
import Derived.Test.YtmbfpbgkchncgaaGreatK25
import Derived.Test.YtmbfpbgkchncgaaGreatK26
import Derived.Test.YtmbfpbgkchncgaaGreatK15
set_option linter.unusedSimpArgs false
set_option linter.unusedVariables false
set_option maxHeartbeats 16000000
set_option maxRecDepth 100000
namespace Go.Proofs.YtmbfpbgkchncgaaGreat
open Go.RowKit
theorem L_FnPlanBack (v:Value) (w:World) (hv:Bytes w v) :
  Calls Tryz.prog 3 #[v] w fun e w'=>e=.returned (.bool true)∧Below w.heap.size w w':=by
 obtain⟨ca,len,cap,rfl,g1,g2,g3⟩:=id hv
 have m1:len≤9223372036854775807:=by unfold maxLen at g2;omega
 clear g2 g3
 refine qac fun R HR=>?_
 go_enter Tryz.func3,Tryz.ntmps3
 go_wp2_with fail
 all_goals first
  | (try go_returns
     exact HR.out _ _ ⟨rfl,bbel⟩)
  | skip
 refine(S_DrawPlanTurn _ _ hv).mono ?_
 rintro _ w1 ⟨⟨pv,p,c,v1,v2,rfl,sp,s1,s2,n1,n2,n3,i1,i2,i3⟩,h1⟩
 obtain⟨pa,pn,pc,rfl⟩:=sp.form
 obtain⟨va,vn,vc,rfl⟩:=s1.form
 obtain⟨ua,un,uc,rfl⟩:=s2.form
 have b1:c.fName.size≤maxLen:=by unfold maxLen;omega
 have b2:c.fClass.fName.size≤maxLen:=by unfold maxLen;omega
 have b3:c.fClass.fSuper.size≤maxLen:=by unfold maxLen;omega
 have SP:=qhd (sp.low rLodKeeper_good (Nat.zero_le _))
 have S1:=qhd (s1.low qah (Nat.zero_le _))
 have S2:=qhd (s2.low qag (Nat.zero_le _))
 obtain⟨zt,hzt⟩:∃ z,turnOk p c=z:=⟨_,rfl⟩
 have CI:Hid (∀ W,Below w1.heap.size w1 W→Calls Tryz.prog 9 #[.agg #[.slice pa pn pc],.agg #[.int .i64 c.fKind,.int .i64 c.fKeeper,.string c.fName,.int .i64 c.fTo,.string c.fClass.fName,.string c.fClass.fSuper,.slice va vn vc,.slice ua un uc]] W (PTurnd p c zt W)):=qhd fun W hW=>by
  have hk:=Keeps.of_below (lo:=0) hW
  rw[←hzt];exact I_PlanTurn p c _ _ _ _ _ W (SP.out.stays rLodKeeper_good hk) (S1.out.stays qah hk) (S2.out.stays qag hk) b1 b2 b3
 have CS:Hid (∀ W,Below w1.heap.size w1 W→Calls Tryz.prog 10 #[.agg #[.slice pa pn pc],.agg #[.int .i64 c.fKind,.int .i64 c.fKeeper,.string c.fName,.int .i64 c.fTo,.string c.fClass.fName,.string c.fClass.fSuper,.slice va vn vc,.slice ua un uc]] W (PTurnd p c zt W)):=qhd fun W hW=>by
  have hk:=Keeps.of_below (lo:=0) hW
  rw[←hzt];exact S_PlanTurn p c _ _ _ _ _ W (SP.out.stays rLodKeeper_good hk) (S1.out.stays qah hk) (S2.out.stays qag hk) b1 b2 b3
 have CB:Hid (∀ (W:World) (p':DLodPlan) (qa:Option Addr) (qn qc:Nat) (k:Int),k=(backOf c).fKind→Sl 2 rLodKeeper 0 W (.slice qa qn qc) p'.fKeepers→Calls Tryz.prog 9 #[.agg #[.slice qa qn qc],.agg #[.int .i64 k,.int .i64 c.fKeeper,.string c.fName,.int .i64 0,.string ⟨#[]⟩,.string ⟨#[]⟩,.slice none 0 0,.slice none 0 0]] W (PTurnd p' (backOf c) (turnOk p' (backOf c)) W)):=qhd fun W p' qa qn qc k hk hq=>by
  subst hk
  exact I_PlanTurn p' (backOf c) _ _ _ _ _ W hq nilSl nilSl b1 (Nat.zero_le _) (Nat.zero_le _)
 have HZT:=qhd hzt
 clear hzt sp s1 s2 n1 n2 n3 b1 b2 b3 g1
 go_wp2_with fail
 refine nameV (P:=fun W=>Calls Tryz.prog 9 #[.agg #[.slice pa pn pc],.agg #[.int .i64 c.fKind,.int .i64 c.fKeeper,.string c.fName,.int .i64 c.fTo,.string c.fClass.fName,.string c.fClass.fSuper,.slice va vn vc,.slice ua un uc]] W _) _ (fun wq hwq=>?_)
 have hBq:Below w1.heap.size w1 wq:=by rw[hwq];exact bbel
 have hzq:wq.heap.size=w1.heap.size+1+1:=by rw[hwq];simp[World.setCell]
 have g0:wq.cell? ⟨w1.heap.size,0,none⟩=some (.slice pa pn pc):=by rw[hwq];go_simp
 have f0:wq.cell? ⟨w1.heap.size+1,0,none⟩=some (.int .i64 c.fKind):=by rw[hwq];go_simp
 have f1:wq.cell? ⟨w1.heap.size+1,1,none⟩=some (.int .i64 c.fKeeper):=by rw[hwq];go_simp
 have f2:wq.cell? ⟨w1.heap.size+1,2,none⟩=some (.string c.fName):=by rw[hwq];go_simp
 have f3:wq.cell? ⟨w1.heap.size+1,3,none⟩=some (.int .i64 c.fTo):=by rw[hwq];go_simp
 have f4:wq.cell? ⟨w1.heap.size+1,4,none⟩=some (.string c.fClass.fName):=by rw[hwq];go_simp
 have f5:wq.cell? ⟨w1.heap.size+1,5,none⟩=some (.string c.fClass.fSuper):=by rw[hwq];go_simp
 have f6:wq.cell? ⟨w1.heap.size+1,6,none⟩=some (.slice va vn vc):=by rw[hwq];go_simp
 have f7:wq.cell? ⟨w1.heap.size+1,7,none⟩=some (.slice ua un uc):=by rw[hwq];go_simp
 clear hwq
 refine(CI.out _ hBq).mono ?_
 rintro _ w2 ⟨⟨qv,rfl,hq⟩,h2⟩
 obtain⟨qa,qn,qc,rfl⟩:=hq.form
 have HQ:=qhd hq
 have hz2:=h2.size
 have HB2:Hid (Below w1.heap.size w1 w2):=qhd (hBq.trans (h2.mono hBq.size))
 replace g0:=qaa h2 g0
 replace f0:=qaa h2 f0
 replace f1:=qaa h2 f1
 replace f2:=qaa h2 f2
 replace f3:=qaa h2 f3
 replace f4:=qaa h2 f4
 replace f5:=qaa h2 f5
 replace f6:=qaa h2 f6
 replace f7:=qaa h2 f7
 have l0:w1.heap.size < w2.heap.size:=by omega
 have l1:w1.heap.size+1 < w2.heap.size:=by omega
 clear hq h2 hBq
 go_wp2_with fail
 refine nameV (P:=fun W=>Calls Tryz.prog 10 #[.agg #[.slice pa pn pc],.agg #[.int .i64 c.fKind,.int .i64 c.fKeeper,.string c.fName,.int .i64 c.fTo,.string c.fClass.fName,.string c.fClass.fSuper,.slice va vn vc,.slice ua un uc]] W _) _ (fun wr hwr=>?_)
 have hBr:Below w2.heap.size w2 wr:=by rw[hwr];exact bbel
 have hzr:wr.heap.size=w2.heap.size+1:=by rw[hwr];simp[World.setCell]
 have q0:wr.cell? ⟨w2.heap.size,0,none⟩=some (.slice qa qn qc):=by rw[hwr];go_simp
 clear hwr
 refine(CS.out _ (HB2.out.trans (hBr.mono HB2.out.size))).mono ?_
 rintro _ w3 ⟨⟨rv,rfl,hr⟩,h3⟩
 obtain⟨ra,rn,rc,rfl⟩:=hr.form
 have hz3:=h3.size
 have hB23:Below w2.heap.size w2 w3:=hBr.trans (h3.mono hBr.size)
 have HB3:Hid (Below w1.heap.size w1 w3):=qhd (HB2.out.trans (hB23.mono HB2.out.size))
 have HQ3:=qhd (HQ.out.stays rLodKeeper_good (Keeps.of_below hB23))
 replace g0:=qaa hB23 g0
 replace f0:=qaa hB23 f0
 replace f1:=qaa hB23 f1
 replace f2:=qaa hB23 f2
 replace q0:=qaa h3 q0
 have hBT:Below w.heap.size w w3:=h1.trans (HB3.out.mono h1.size)
 have l3:w2.heap.size < w3.heap.size:=by omega
 have l4:w1.heap.size+1 < w3.heap.size:=by omega
 have l4b:w1.heap.size+1 < w3.heap.size+1:=by omega
 have l4c:w1.heap.size < w3.heap.size+1:=by omega
 have l4d:w2.heap.size < w3.heap.size+1:=by omega
 clear f3 f4 f5 f6 f7 hr h3 hB23 hBr HQ h1
 cases zt
 ·
  go_wp2_with fail
  refine nameV (P:=fun W=>Calls Tryz.prog 11 #[] W _) _ (fun wz hwz=>?_)
  have hBTs:=hBT.size
  have hBz:Below w.heap.size w wz:=by rw[hwz];clear HB2 HB3;exact bbel
  clear hwz
  refine(L_loOk' wz).mono ?_
  rintro _ w9 ⟨rfl,h9⟩
  go_wp2
  all_goals (try go_returns)
  all_goals exact HR.out _ _ ⟨rfl,hBz.trans (h9.mono hBz.size)⟩
 by_cases k1:c.fKind=1
 ·obtain⟨t1,t2,t3⟩:=plain_back HZT.out (Or.inl k1)
  have PB1:=qhd t1
  have PB2:=qhd t2
  have SAME:Hid (planEq (turned (planMove p c) (backOf c)) (turned p (backOf c))=true):=qhd (by rw[turned_ok t2,turned_ok t1,t3];exact(planEq_iff _ _).2 rfl)
  have KB:Hid ((2:Int)=(backOf c).fKind):=qhd (by simp[backOf,k1])
  rw[turned_ok HZT.out] at HQ3
  have c1:(c.fKind != 1)=false:=by simp[k1]
  have c3:(c.fKind == 3)=false:=by simp[k1]
  have c1':(c.fKind == 1)=true:=by simp[k1]
  clear k1 t1 t2 t3
  go_wp2_with fail
  refine nameV (P:=fun W=>Calls Tryz.prog 9 #[.agg #[.slice qa qn qc],.agg #[.int .i64 2,.int .i64 c.fKeeper,.string c.fName,.int .i64 0,.string ⟨#[]⟩,.string ⟨#[]⟩,.slice none 0 0,.slice none 0 0]] W _) _ (fun ws hws=>?_)
  have hBs:Below w3.heap.size w3 ws:=by rw[hws];clear hBT;exact bbel
  have hzs:ws.heap.size=w3.heap.size+1+1:=by rw[hws];simp[World.setCell]
  have e0:ws.cell? ⟨w3.heap.size+1,0,none⟩=some (.int .i64 2):=by rw[hws];go_simp
  have e1:ws.cell? ⟨w3.heap.size+1,1,none⟩=some (.int .i64 c.fKeeper):=by rw[hws];go_simp
  have e2:ws.cell? ⟨w3.heap.size+1,2,none⟩=some (.string c.fName):=by rw[hws];go_simp
  have e3:ws.cell? ⟨w3.heap.size+1,3,none⟩=some (.int .i64 0):=by rw[hws];go_simp
  have e4:ws.cell? ⟨w3.heap.size+1,4,none⟩=some (.string ⟨#[]⟩):=by rw[hws];go_simp
  have e5:ws.cell? ⟨w3.heap.size+1,5,none⟩=some (.string ⟨#[]⟩):=by rw[hws];go_simp
  have e6:ws.cell? ⟨w3.heap.size+1,6,none⟩=some (.slice none 0 0):=by rw[hws];go_simp
  have e7:ws.cell? ⟨w3.heap.size+1,7,none⟩=some (.slice none 0 0):=by rw[hws];go_simp
  clear hws
  have p0:=qaa hBs g0
  refine(CB.out ws (planMove p c) qa qn qc 2 KB.out (HQ3.out.stays rLodKeeper_good (Keeps.of_below hBs))).mono ?_
  rintro _ w5 ⟨⟨xv,rfl,hx⟩,h5⟩
  obtain⟨xa,xn,xc,rfl⟩:=hx.form
  have HX:=qhd hx
  have hz5:=h5.size
  have hB35:Below w3.heap.size w3 w5:=hBs.trans (h5.mono hBs.size)
  replace e0:=qaa h5 e0
  replace e1:=qaa h5 e1
  replace e2:=qaa h5 e2
  replace e3:=qaa h5 e3
  replace e4:=qaa h5 e4
  replace e5:=qaa h5 e5
  replace e6:=qaa h5 e6
  replace e7:=qaa h5 e7
  replace p0:=qaa h5 p0
  have l5:w3.heap.size+1 < w5.heap.size:=by omega
  have l6:w1.heap.size < w5.heap.size:=by omega
  rw[PB2.out]
  clear g0 f0 f1 f2 q0 hx h5 hBs
  go_wp2_with fail
  refine nameV (P:=fun W=>Calls Tryz.prog 9 #[.agg #[.slice pa pn pc],.agg #[.int .i64 2,.int .i64 c.fKeeper,.string c.fName,.int .i64 0,.string ⟨#[]⟩,.string ⟨#[]⟩,.slice none 0 0,.slice none 0 0]] W _) _ (fun wt hwt=>?_)
  have hBt:Below w5.heap.size w5 wt:=by rw[hwt];clear hBT hB35;exact bbel
  have hzt:wt.heap.size=w5.heap.size+1:=by rw[hwt];simp[World.setCell]
  have x0:wt.cell? ⟨w5.heap.size,0,none⟩=some (.slice xa xn xc):=by rw[hwt];go_simp
  clear hwt
  have hB1t:Below w1.heap.size w1 wt:=HB3.out.trans ((hB35.trans (hBt.mono hB35.size)).mono HB3.out.size)
  refine(CB.out wt p pa pn pc 2 KB.out (SP.out.stays rLodKeeper_good (Keeps.of_below hB1t))).mono ?_
  rintro _ w6 ⟨⟨yv,rfl,hy⟩,h6⟩
  obtain⟨ya,yn,yc,rfl⟩:=hy.form
  have HY:=qhd hy
  have hz6:=h6.size
  replace x0:=qaa h6 x0
  have hB56:Below w5.heap.size w5 w6:=hBt.trans (h6.mono hBt.size)
  have HX6:=qhd (HX.out.stays rLodKeeper_good (Keeps.of_below hB56))
  have hBT6:Below w.heap.size w w6:=(hBT.trans (hB35.mono hBT.size)).trans (hB56.mono (by have:=hBT.size;omega))
  have l7:w5.heap.size < w6.heap.size:=by omega
  rw[PB1.out]
  clear e0 e1 e2 e3 e4 e5 e6 e7 p0 hy h6 hBt hB1t hB35 hB56 hBT
  go_wp2_with fail
  refine nameV (P:=fun W=>Calls Tryz.prog 12 #[.agg #[.slice xa xn xc],.agg #[.slice ya yn yc]] W _) _ (fun wu hwu=>?_)
  have hBu:Below w6.heap.size w6 wu:=by rw[hwu];clear hBT6;exact bbel
  clear hwu
  have hku:=Keeps.of_below (lo:=0) hBu
  refine(L_loPlan (turned (planMove p c) (backOf c)) (turned p (backOf c)) _ _ wu (HX6.out.stays rLodKeeper_good hku) (HY.out.stays rLodKeeper_good hku)).mono ?_
  rintro _ w7 ⟨rfl,h7⟩
  rw[SAME.out]
  go_wp2
  all_goals (try go_returns)
  all_goals exact HR.out _ _ ⟨rfl,(hBT6.trans (hBu.mono hBT6.size)).trans (h7.mono (hBT6.trans (hBu.mono hBT6.size)).size)⟩
 by_cases k3:c.fKind=3
 ·obtain⟨t1,t2,t3⟩:=plain_back HZT.out (Or.inr k3)
  have PB1:=qhd t1
  have PB2:=qhd t2
  have SAME:Hid (planEq (turned (planMove p c) (backOf c)) (turned p (backOf c))=true):=qhd (by rw[turned_ok t2,turned_ok t1,t3];exact(planEq_iff _ _).2 rfl)
  have KB:Hid ((4:Int)=(backOf c).fKind):=qhd (by simp[backOf,k3])
  rw[turned_ok HZT.out] at HQ3
  have c1:(c.fKind != 1)=true:=by simp[k3]
  have c3:(c.fKind == 3)=true:=by simp[k3]
  have c3':(c.fKind != 3)=false:=by simp[k3]
  have c1':(c.fKind == 1)=false:=by simp[k3]
  clear k1 k3 t1 t2 t3
  go_wp2_with fail
  refine nameV (P:=fun W=>Calls Tryz.prog 9 #[.agg #[.slice qa qn qc],.agg #[.int .i64 4,.int .i64 c.fKeeper,.string c.fName,.int .i64 0,.string ⟨#[]⟩,.string ⟨#[]⟩,.slice none 0 0,.slice none 0 0]] W _) _ (fun ws hws=>?_)
  have hBs:Below w3.heap.size w3 ws:=by rw[hws];clear hBT;exact bbel
  have hzs:ws.heap.size=w3.heap.size+1+1:=by rw[hws];simp[World.setCell]
  have e0:ws.cell? ⟨w3.heap.size+1,0,none⟩=some (.int .i64 4):=by rw[hws];go_simp
  have e1:ws.cell? ⟨w3.heap.size+1,1,none⟩=some (.int .i64 c.fKeeper):=by rw[hws];go_simp
  have e2:ws.cell? ⟨w3.heap.size+1,2,none⟩=some (.string c.fName):=by rw[hws];go_simp
  have e3:ws.cell? ⟨w3.heap.size+1,3,none⟩=some (.int .i64 0):=by rw[hws];go_simp
  have e4:ws.cell? ⟨w3.heap.size+1,4,none⟩=some (.string ⟨#[]⟩):=by rw[hws];go_simp
  have e5:ws.cell? ⟨w3.heap.size+1,5,none⟩=some (.string ⟨#[]⟩):=by rw[hws];go_simp
  have e6:ws.cell? ⟨w3.heap.size+1,6,none⟩=some (.slice none 0 0):=by rw[hws];go_simp
  have e7:ws.cell? ⟨w3.heap.size+1,7,none⟩=some (.slice none 0 0):=by rw[hws];go_simp
  clear hws
  have p0:=qaa hBs g0
  refine(CB.out ws (planMove p c) qa qn qc 4 KB.out (HQ3.out.stays rLodKeeper_good (Keeps.of_below hBs))).mono ?_
  rintro _ w5 ⟨⟨xv,rfl,hx⟩,h5⟩
  obtain⟨xa,xn,xc,rfl⟩:=hx.form
  have HX:=qhd hx
  have hz5:=h5.size
  have hB35:Below w3.heap.size w3 w5:=hBs.trans (h5.mono hBs.size)
  replace e0:=qaa h5 e0
  replace e1:=qaa h5 e1
  replace e2:=qaa h5 e2
  replace e3:=qaa h5 e3
  replace e4:=qaa h5 e4
  replace e5:=qaa h5 e5
  replace e6:=qaa h5 e6
  replace e7:=qaa h5 e7
  replace p0:=qaa h5 p0
  have l5:w3.heap.size+1 < w5.heap.size:=by omega
  have l6:w1.heap.size < w5.heap.size:=by omega
  rw[PB2.out]
  clear g0 f0 f1 f2 q0 hx h5 hBs
  go_wp2_with fail
  refine nameV (P:=fun W=>Calls Tryz.prog 9 #[.agg #[.slice pa pn pc],.agg #[.int .i64 4,.int .i64 c.fKeeper,.string c.fName,.int .i64 0,.string ⟨#[]⟩,.string ⟨#[]⟩,.slice none 0 0,.slice none 0 0]] W _) _ (fun wt hwt=>?_)
  have hBt:Below w5.heap.size w5 wt:=by rw[hwt];clear hBT hB35;exact bbel
  have hzt:wt.heap.size=w5.heap.size+1:=by rw[hwt];simp[World.setCell]
  have x0:wt.cell? ⟨w5.heap.size,0,none⟩=some (.slice xa xn xc):=by rw[hwt];go_simp
  clear hwt
  have hB1t:Below w1.heap.size w1 wt:=HB3.out.trans ((hB35.trans (hBt.mono hB35.size)).mono HB3.out.size)
  refine(CB.out wt p pa pn pc 4 KB.out (SP.out.stays rLodKeeper_good (Keeps.of_below hB1t))).mono ?_
  rintro _ w6 ⟨⟨yv,rfl,hy⟩,h6⟩
  obtain⟨ya,yn,yc,rfl⟩:=hy.form
  have HY:=qhd hy
  have hz6:=h6.size
  replace x0:=qaa h6 x0
  have hB56:Below w5.heap.size w5 w6:=hBt.trans (h6.mono hBt.size)
  have HX6:=qhd (HX.out.stays rLodKeeper_good (Keeps.of_below hB56))
  have hBT6:Below w.heap.size w w6:=(hBT.trans (hB35.mono hBT.size)).trans (hB56.mono (by have:=hBT.size;omega))
  have l7:w5.heap.size < w6.heap.size:=by omega
  rw[PB1.out]
  clear e0 e1 e2 e3 e4 e5 e6 e7 p0 hy h6 hBt hB1t hB35 hB56 hBT
  go_wp2_with fail
  refine nameV (P:=fun W=>Calls Tryz.prog 12 #[.agg #[.slice xa xn xc],.agg #[.slice ya yn yc]] W _) _ (fun wu hwu=>?_)
  have hBu:Below w6.heap.size w6 wu:=by rw[hwu];clear hBT6;exact bbel
  clear hwu
  have hku:=Keeps.of_below (lo:=0) hBu
  refine(L_loPlan (turned (planMove p c) (backOf c)) (turned p (backOf c)) _ _ wu (HX6.out.stays rLodKeeper_good hku) (HY.out.stays rLodKeeper_good hku)).mono ?_
  rintro _ w7 ⟨rfl,h7⟩
  rw[SAME.out]
  go_wp2
  all_goals (try go_returns)
  all_goals exact HR.out _ _ ⟨rfl,(hBT6.trans (hBu.mono hBT6.size)).trans (h7.mono (hBT6.trans (hBu.mono hBT6.size)).size)⟩
 have c1:(c.fKind != 1)=true:=by simp[k1]
 have c3:(c.fKind != 3)=true:=by simp[k3]
 go_wp2_with fail
 refine nameV (P:=fun W=>Calls Tryz.prog 11 #[] W _) _ (fun wz hwz=>?_)
 have hBTs:=hBT.size
 have hBz:Below w.heap.size w wz:=by rw[hwz];clear HB2 HB3;exact bbel
 clear hwz
 refine(L_loOk' wz).mono ?_
 rintro _ w9 ⟨rfl,h9⟩
 go_wp2
 all_goals (try go_returns)
 all_goals exact HR.out _ _ ⟨rfl,hBz.trans (h9.mono hBz.size)⟩

end Go.Proofs.YtmbfpbgkchncgaaGreat
namespace Go.Proofs.YtmbfpbgkchncgaaGreat
open Go.ChangeShapes Go.WideShapes Go.ChangeAt Go.RowKit Go.Joins
theorem cells_u8:Tryz.prog.cellsOf 5=1:=by kernel_rfl

theorem fnPlanBack_lifted (os:Os) (started:os.Started) (H:Type) (enc:TypeId × Value→H) :
  ReturnsInHanded {} Tryz.checked os 3 .any (Rows.fnPlanBackSpec.pre6 enc Tryz.prog Tryz.f3 Rows.fnPlanBackRow.domain false) (Rows.fnPlanBackSpec.post enc Tryz.prog Tryz.f3 false true false false):=by
 refine returnsInHanded_of_change (C:=Tryz.checked) own started (by kernel_rfl) Tryz.func3
  (ChangeSpec.witness6 (enc:=enc) (C:=Tryz.checked) false ⟨#[],#[.slice none 0 0],[]⟩ 8 (by kernel_rfl) (by kernel_rfl) (by kernel_rfl) (by kernel_rfl)) ?_
 intro W base args ds gs before hval0 hW hcnd _
 have hval:∀ (j:Nat) t v,Tryz.f3.params[j]? =some t→args[j]? =some v→Value.okWide Tryz.prog W .any base t v:=hval0
 have hW':=hW
 obtain⟨p,q,hA0,hV,rfl,hfz,hnd⟩:=hW
 have hA:DataW.TrodAll enc Tryz.prog W 0 (fun _=>true) true Tryz.f3.params.toList args.toList ds p:=hA0
 rw[Tryz.params3] at hA hval
 clear hA0 hval0
 obtain⟨v0,d0,rfl,rfl,h0⟩:=trodAll_one hA
 obtain⟨rfl,rfl⟩:=trodVars_none hV
 have b0:=open_bytes Tryz.underlying22 Tryz.underlying5 cells_u8 (hval 0 22 v0 rfl rfl) h0
 refine(L_FnPlanBack v0 W b0).mono fun e W' h=>?_
 obtain⟨rfl,hb⟩:=h
 exact⟨_,rfl,law_post (s:=Rows.fnPlanBackSpec) hW' hb rfl rfl rfl Tryz.underlying4 (by rw[Tryz.params3];kernel_rfl)⟩
theorem fnPlanBack_holds:Rows.FnPlanBackSaid:=
 OpenClaim.holds_of_wide 3 Tryz.f3 rfl rfl rfl rfl rfl rfl rfl ⟨rfl,rfl,rfl,rfl,rfl⟩ rfl rfl rfl rfl rfl (by kernel_rfl) Tryz.func3 (by kernel_rfl)
  (of_decide_eq_true (by kernel_rfl)) (by unfold Func.isWrapper;first|(rw[if_pos (by decide +kernel)];kernel_rfl)|(rw[if_neg (by decide +kernel)];exact⟨rfl,rfl⟩))
  (fun os started H enc _=>fnPlanBack_lifted os started H enc)

end Go.Proofs.YtmbfpbgkchncgaaGreat
