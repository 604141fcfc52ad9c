/-
  Texts of mine, packed: PTurnI, TurS, TurC, TurT. No condition beside those of the single theorems.
-/
import Derived.Test.YtmbfpbgkchncgaaGreatK12
import Derived.Test.YtmbfpbgkchncgaaGreatK17
import Derived.Test.YtmbfpbgkchncgaaGreatK16
set_option linter.unusedSimpArgs false
set_option linter.unusedVariables false
set_option maxHeartbeats 16000000
set_option maxRecDepth 100000
namespace Go.Proofs.YtmbfpbgkchncgaaGreat
open Go.RowKit
theorem each_mem {α:Type} {f:Nat→α→Bool} {xs:List α} (h:each f xs=true) {x:α} (hx:x∈xs):∃ k,f k x=true:=by
 obtain⟨k,hk⟩:=List.mem_iff_getElem?.1 hx
 exact⟨k,(each_iff.1 h) k x hk⟩
theorem clsOk_short {c:DClsClass} (h:clsOk c=true):ShortC c:=by
 unfold clsOk at h
 simp only[Bool.and_eq_true,decide_eq_true_eq] at h
 refine⟨by omega,by omega,fun m hm=>?_⟩
 obtain⟨k,hk⟩:=each_mem h.2 hm
 unfold methodIn mthOk codeOk mapsOk at hk
 simp only[Bool.and_eq_true,decide_eq_true_eq] at hk
 refine⟨by omega,by omega,by omega,fun x hx=>?_⟩
 obtain⟨j,hj⟩:=each_mem hk.1.2.2 hx
 unfold mapIn at hj
 simp only[Bool.and_eq_true,decide_eq_true_eq] at hj
 omega
theorem lodOk_short {p:DLodPlan} (h:lodOk p=true):ShortP p:=by
 unfold lodOk at h
 simp only[Bool.and_eq_true,decide_eq_true_eq] at h
 refine⟨by omega,fun k hk=>?_⟩
 obtain⟨j,hj⟩:=each_mem h.2 hk
 unfold keeperOk at hj
 simp only[Bool.and_eq_true,decide_eq_true_eq] at hj
 refine⟨by omega,by omega,fun c hc=>?_⟩
 obtain⟨i,hi⟩:=each_mem hj.1.2 hc
 unfold ownIn at hi
 simp only[Bool.and_eq_true,decide_eq_true_eq] at hi
 exact clsOk_short (by first|exact hi.1|exact hi.1.1)

theorem TSl.toCel {α:Type} {k:Nat} {R:RowRel α} {t:TypeId} {lo:Nat} {w:World} {v:Value} {xs:List α} (h1:∀ lo w cs x,R lo w cs x→∀ u∈cs,u.oneCell'=true) (h:TSl k R t lo w v xs):∃ css,TOwnC k rCel t lo lo w v css css∧Rows k R lo w css xs:=by
 obtain⟨css,hr,ho⟩:=h
 refine⟨css,⟨⟨rfl,fun i x cs e1 e2=>?_⟩,by rw[hr.len];exact ho,fun b hb=>(ho.lt b hb).1⟩,hr⟩
 rw[e1] at e2
 cases e2
 obtain⟨y,hy⟩:∃ y,xs[i]? =some y:=⟨_,List.getElem?_eq_getElem (by rw[←hr.len];exact(List.getElem?_eq_some_iff.1 e1).1)⟩
 obtain⟨h2,h3⟩:=hr.row i y x hy e1
 exact⟨h2,rfl,h1 _ _ _ _ h3⟩
theorem lodOk_few {p:DLodPlan} (h:lodOk p=true) {k:DLodKeeper} (hk:k∈p.fKeepers):k.fOwns.length≤5∧k.fAsks.length≤4:=by
 unfold lodOk at h
 simp only[Bool.and_eq_true,decide_eq_true_eq] at h
 obtain⟨j,hj⟩:=each_mem h.2 hk
 unfold keeperOk at hj
 simp only[Bool.and_eq_true,decide_eq_true_eq] at hj
 omega
theorem planMove_at {p:DLodPlan} {c:DChgChange} {i:Nat} {kx:DLodKeeper} (hi:c.fKeeper=(i:Int)) (hx:p.fKeepers[i]? =some kx):(planMove p c).fKeepers=p.fKeepers.set i (turnK c kx):=by
 have e:c.fKeeper.toNat=i:=by omega
 simp only[planMove,e,List.getD_eq_getElem?_getD,hx,Option.getD_some]
theorem PlanC.slot {lo Q n cap i:Nat} {w:World} {css:List (List Value)} {p:DLodPlan} {kx:DLodKeeper} (hP:PlanC lo w (.slice (some ⟨Q,0,none⟩) n cap) css p) (hx:p.fKeepers[i]? =some kx):∃ xo xa cq,css[i]? =some [xo,xa]∧w.heap[Q]? =some (.cells cq 46 (0,0))∧cq[i * 2]? =some xo∧cq[i * 2+1]? =some xa∧TSl 4 tClsClass 29 lo w xo kx.fOwns∧TSl 2 rLodAsk 48 lo w xa kx.fAsks∧lo≤Q:=by
 have hpl:i < p.fKeepers.length:=(List.getElem?_eq_some_iff.1 hx).1
 obtain⟨cs,hcs⟩:∃ cs,css[i]? =some cs:=⟨_,List.getElem?_eq_getElem (by rw[hP.rows.len];exact hpl)⟩
 obtain⟨_,xo,xa,rfl,t1,t2⟩:=hP.rows.row i kx cs hx hcs
 obtain⟨Q',cap',e,hlo,hbl,hc,hm,hcell,_⟩:=own_cell hP.owns (by omega)
 cases e
 obtain⟨cq,hQ⟩:∃ cq,w.heap[Q]? =some (.cells cq 46 (0,0)):=by
  obtain⟨_,h2⟩:=hP.owns
  rcases h2 with ⟨_,h2⟩|⟨g,cap,cur,h1,_,h3,_⟩
  ·omega
  ·cases h1;exact⟨cur,h3⟩
 exact⟨xo,xa,cq,hcs,hQ,block_ofCell hQ (hcell (i * 2+0) _ ((flat_at hP.rows.each hcs (by omega)).trans rfl)),block_ofCell hQ (hcell (i * 2+1) _ ((flat_at hP.rows.each hcs (by omega)).trans rfl)),t1,t2,hlo⟩
theorem Held.planX {k:Nat} {α:Type} {R:RowRel α} {t:TypeId} {lo Q o:Nat} {w w':World} {old new:Value} {xs ys:List α} (h:Held k R t lo Q o w w' old new xs) {cq:Array Value} (hQ:w.heap[Q]? =some (.cells cq 46 (0,0))) (ho:TSl k R t lo w old ys) (ht:t≠25):∀ (b:Nat) (cs:Array Value) (fr:Nat × Nat),w.heap[b]? =some (.cells cs 25 fr)→w'.heap[b]? =w.heap[b]? :=fun b cs fr hb=>
 (h.keeps hQ ho).block b cs _ fr (Nat.zero_le _) ⟨fun e=>ht e.symm,by decide⟩ hb
theorem apply_any (p:DLodPlan) (c:DChgChange) (i:Nat) (kx:DLodKeeper) (cv:Value) (ua:Option Addr) (un uc:Nat) (ta:Option Addr) (tn tc:Nat)
  (hcv:(c.fKind=1∧cv=.iface 118 (.agg #[.string c.fClass.fName,.string c.fClass.fSuper,.slice ua un uc,.slice ta tn tc]))∨(c.fKind=3∧cv=.iface 120 (.agg #[.string c.fName,.int .i64 c.fTo]))∨(c.fKind=2∧cv=.iface 122 (.agg #[.string c.fName]))∨(c.fKind=4∧cv=.iface 123 (.agg #[.string c.fName])))
  (hi:c.fKeeper=(i:Int)) (hx:p.fKeepers[i]? =some kx) (hl:lodOk p=true) (hch:chgOk c=true) (W0:World) (s1:Sl 3 rClsField 0 W0 (.slice ua un uc) c.fClass.fFields) (s2:Sl 8 rClsMethod 0 W0 (.slice ta tn tc) c.fClass.fMethods) (b2:c.fClass.fName.size≤maxLen) (b3:c.fClass.fSuper.size≤maxLen) (b1:c.fName.size≤maxLen) :
  ∃ (T:TypeId) (x:Value) (fn:Nat),cv=.iface T x∧(∀ W,(nilAhead 363 T x "loop.example/lodgekeeper/impl.apply").run Tryz.prog W=.ok (some false) W)∧(∀ W,(method 363 T x "loop.example/lodgekeeper/impl.apply").run Tryz.prog W=.ok (fn,x) W)∧(∀ W q,(callFunc fn #[x,q]).run Tryz.prog W=.ok (.enter fn #[x,q]) W) ∧
   ∀ (lo Q n cap:Nat) (css:List (List Value)) (W:World),Below W0.heap.size W0 W→W0.heap.size≤lo→lo≤W.heap.size→PlanC lo W (.slice (some ⟨Q,0,none⟩) n cap) css p→Calls Tryz.prog fn #[x,.pointer (some ⟨Q,i * 2,none⟩)] W fun e w'=>(∃ u,e=.returned u)∧Below lo W w'∧(∀ (b:Nat) (cs:Array Value) (fr:Nat × Nat),W.heap[b]? =some (.cells cs 25 fr)→w'.heap[b]? =W.heap[b]?)∧Sl 2 rLodKeeper lo w' (.slice (some ⟨Q,0,none⟩) n cap) (planMove p c).fKeepers:=by
 obtain⟨few1,few2⟩:=lodOk_few hl (List.mem_of_getElem? hx)
 rcases hcv with ⟨hk,rfl⟩|⟨hk,rfl⟩|⟨hk,rfl⟩|⟨hk,rfl⟩
 ·refine⟨_,_,186,rfl,fun W=>by kernel_rfl,fun W=>by kernel_rfl,fun W q=>by kernel_rfl,fun lo Q n cap css W hW h0 hlW hP=>?_⟩
  obtain⟨xo,xa,cq,hcs,hQ,hq0,hq1,t1,t2,hlQ⟩:=hP.slot hx
  obtain⟨oa,on,oc,rfl⟩:=t1.form3
  obtain⟨cs1,hT,hr⟩:=t1.toCel qbd
  have hsh:ShortC c.fClass:=by
   unfold chgOk at hch
   rw[hk,if_pos (show((1:Int) == 1)=true from rfl)] at hch
   simp only[Bool.and_eq_true] at hch
   exact clsOk_short hch.2.1.2
  refine(I_give_apply kx.fOwns c.fClass ua un uc ta tn tc Q (i * 2) oa on oc cs1 lo W0 W hlW hW h0 hT hr cq hQ hq0 hlQ (fun g hg e=>by
   obtain⟨cs',h9⟩:=t1.typeO hg
   rw[←e,hQ] at h9;cases h9) (by omega) s1 s2 b2 b3 hsh).mono ?_
  rintro e w' ⟨h1,new,H⟩
  refine⟨h1,H.below,H.planX hQ t1 (by decide),?_⟩
  rw[planMove_at hi hx,show turnK c kx=⟨keepN (·.fName) c.fClass.fName kx.fOwns++[c.fClass],kx.fAsks⟩ by simp[turnK,hk]]
  exact H.planO hP hcs hx
 ·refine⟨_,_,191,rfl,fun W=>by kernel_rfl,fun W=>by kernel_rfl,fun W q=>by kernel_rfl,fun lo Q n cap css W hW h0 hlW hP=>?_⟩
  obtain⟨xo,xa,cq,hcs,hQ,hq0,hq1,t1,t2,hlQ⟩:=hP.slot hx
  obtain⟨oa,on,oc,rfl⟩:=t2.form3
  obtain⟨cs1,hT,hr⟩:=t2.toCel rLodAsk_one
  refine(I_askc_apply kx.fAsks ⟨c.fName,c.fTo⟩ Q (i * 2) oa on oc cs1 lo W0 W hlW hW h0 hT hr cq hQ hq1 hlQ (fun g hg e=>by
   obtain⟨cs',h9⟩:=t2.typeO hg
   rw[←e,hQ] at h9;cases h9) (by omega) b1).mono ?_
  rintro e w' ⟨h1,new,H⟩
  refine⟨h1,H.below,H.planX hQ t2 (by decide),?_⟩
  rw[planMove_at hi hx,show turnK c kx=⟨kx.fOwns,keepN (·.fName) c.fName kx.fAsks++[⟨c.fName,c.fTo⟩]⟩ by simp[turnK,hk]]
  exact H.planA hP hcs hx
 ·refine⟨_,_,187,rfl,fun W=>by kernel_rfl,fun W=>by kernel_rfl,fun W q=>by kernel_rfl,fun lo Q n cap css W hW h0 hlW hP=>?_⟩
  obtain⟨xo,xa,cq,hcs,hQ,hq0,hq1,t1,t2,hlQ⟩:=hP.slot hx
  obtain⟨oa,on,oc,rfl⟩:=t1.form3
  obtain⟨cs1,hT,hr⟩:=t1.toCel qbd
  refine(I_own_apply kx.fOwns c.fName Q (i * 2) oa on oc cs1 lo W hlW hT hr cq hQ hq0 hlQ (fun g hg e=>by
   obtain⟨cs',h9⟩:=t1.typeO hg
   rw[←e,hQ] at h9;cases h9)).mono ?_
  rintro e w' ⟨h1,m,H⟩
  refine⟨h1,H.below,H.planX hQ t1 (by decide),?_⟩
  rw[planMove_at hi hx,show turnK c kx=⟨keepN (·.fName) c.fName kx.fOwns,kx.fAsks⟩ by simp[turnK,hk]]
  exact H.planO hP hcs hx
 ·refine⟨_,_,192,rfl,fun W=>by kernel_rfl,fun W=>by kernel_rfl,fun W q=>by kernel_rfl,fun lo Q n cap css W hW h0 hlW hP=>?_⟩
  obtain⟨xo,xa,cq,hcs,hQ,hq0,hq1,t1,t2,hlQ⟩:=hP.slot hx
  obtain⟨oa,on,oc,rfl⟩:=t2.form3
  obtain⟨cs1,hT,hr⟩:=t2.toCel rLodAsk_one
  refine(I_ask_apply kx.fAsks c.fName Q (i * 2) oa on oc cs1 lo W hlW hT hr cq hQ hq1 hlQ (fun g hg e=>by
   obtain⟨cs',h9⟩:=t2.typeO hg
   rw[←e,hQ] at h9;cases h9)).mono ?_
  rintro e w' ⟨h1,m,H⟩
  refine⟨h1,H.below,H.planX hQ t2 (by decide),?_⟩
  rw[planMove_at hi hx,show turnK c kx=⟨kx.fOwns,keepN (·.fName) c.fName kx.fAsks⟩ by simp[turnK,hk]]
  exact H.planA hP hcs hx

def turnOk (p:DLodPlan) (c:DChgChange):Bool:=chgOk c && lodOk p && decide (c.fKeeper < (p.fKeepers.length:Int)) && lodOk (planMove p c)
def turned (p:DLodPlan) (c:DChgChange):DLodPlan:=if turnOk p c then planMove p c else ⟨[]⟩
def ptF (cv qv:Value) (X CB Q ik:Nat):Nat→Value→World→Prop
 | 0,v,w=>v=cv
 | 1,v,w=>v=.pointer (some ⟨X,0,none⟩)
 | 2,v,w=>v=qv
 | 3,v,w=>v=.pointer (some ⟨CB,1,none⟩)
 | 4,v,w=>v=.int .i64 (ik:Int)
 | 5,v,w=>v=.pointer (some ⟨Q,ik * 2,none⟩)
 | 6,v,w=>v=.func (.method "loop.example/lodgekeeper/impl.apply") #[cv] #[]
 | 7,v,w=>v=.func (.method "loop.example/lodgekeeper/impl.apply") #[cv] #[]
 | 8,v,w=>v=cv
 | _,_,_=>True
theorem ptF_stays {cv qv:Value} {X CB Q ik:Nat}:∀ i j u w w',i≠j→Below w.heap.size w w'→ptF cv qv X CB Q ik i u w→ptF cv qv X CB Q ik i u w':=by
 intro i j u w w' hne hg h
 match i with
 | 0|1|2|3|4|5|6|7|8=>exact h
 | n+9=>trivial

theorem I_PlanTurn (p:DLodPlan) (c:DChgChange) (pa:Option Addr) (pn pc:Nat) (u1 u2:Value) (w:World) (s:Sl 2 rLodKeeper 0 w (.slice pa pn pc) p.fKeepers) (s1:Sl 3 rClsField 0 w u1 c.fClass.fFields) (s2:Sl 8 rClsMethod 0 w u2 c.fClass.fMethods) (b1:c.fName.size≤maxLen) (b2:c.fClass.fName.size≤maxLen) (b3:c.fClass.fSuper.size≤maxLen) :
  Calls Tryz.prog 9 #[.agg #[.slice pa pn pc],.agg #[.int .i64 c.fKind,.int .i64 c.fKeeper,.string c.fName,.int .i64 c.fTo,.string c.fClass.fName,.string c.fClass.fSuper,u1,u2]] w fun e w'=>(∃ v,e=.returned (.tuple #[.agg #[v],.bool (turnOk p c)])∧Sl 2 rLodKeeper 0 w' v (turned p c).fKeepers)∧Below w.heap.size w w':=by
 obtain⟨ua,un,uc,rfl⟩:=s1.form
 obtain⟨ta,tn,tc,rfl⟩:=s2.form
 obtain⟨hpl,hpc,hp9⟩:=kpr_len s
 have HS:=qhd s
 have HS1:=qhd s1
 have HS2:=qhd s2
 have HPL:=qhd hpl
 obtain⟨zt,hzt⟩:∃ z,z=turnOk p c:=⟨_,rfl⟩
 have HZT:=qhd hzt
 have NO:Hid (∀ W,zt=false→Sl 2 rLodKeeper 0 W (.slice none 0 0) (turned p c).fKeepers):=qhd fun W hz=>by
  rw[hz] at hzt
  rw[turned,←hzt]
  exact⟨none,0,0,rfl,rfl,Nat.le_refl _,Nat.zero_le _,fun h=>absurd h (by omega)⟩
 rw[←hzt]
 clear s s1 s2 hpl hzt
 refine qac fun R HR=>?_
 go_enter Tryz.func9,Tryz.ntmps9
 go_wp2_with fail
 refine nameW (P:=fun W=>Calls Tryz.prog 34 #[.agg #[.int .i64 c.fKind,.int .i64 c.fKeeper,.string c.fName,.int .i64 c.fTo,.string c.fClass.fName,.string c.fClass.fSuper,.slice ua un uc,.slice ta tn tc]] W _) _ (fun wq hwq=>?_)
 have hBq:Below w.heap.size w wq:=by rw[hwq];exact bbel
 have hzq:wq.heap.size=w.heap.size+1+1+1:=by rw[hwq];simp
 have g0:wq.cell? ⟨w.heap.size,0,none⟩=some (.slice pa pn pc):=by rw[hwq];go_simp
 have f0:wq.cell? ⟨w.heap.size+1,0,none⟩=some (.int .i64 c.fKind):=by rw[hwq];go_simp
 have f1:wq.cell? ⟨w.heap.size+1,1,none⟩=some (.int .i64 c.fKeeper):=by rw[hwq];go_simp
 have f2:wq.cell? ⟨w.heap.size+1,2,none⟩=some (.string c.fName):=by rw[hwq];go_simp
 have f3:wq.cell? ⟨w.heap.size+1,3,none⟩=some (.int .i64 c.fTo):=by rw[hwq];go_simp
 have f4:wq.cell? ⟨w.heap.size+1,4,none⟩=some (.string c.fClass.fName):=by rw[hwq];go_simp
 have f5:wq.cell? ⟨w.heap.size+1,5,none⟩=some (.string c.fClass.fSuper):=by rw[hwq];go_simp
 have f6:wq.cell? ⟨w.heap.size+1,6,none⟩=some (.slice ua un uc):=by rw[hwq];go_simp
 have f7:wq.cell? ⟨w.heap.size+1,7,none⟩=some (.slice ta tn tc):=by rw[hwq];go_simp
 have r0:wq.cell? ⟨w.heap.size+1+1,0,none⟩=some (.slice none 0 0):=by rw[hwq];go_simp
 have rf:wq.frozen? ⟨w.heap.size+1+1,0,none⟩=false:=by rw[hwq];go_simp
 clear hwq
 have hkq:=Keeps.of_below (lo:=0) hBq
 refine(I_changeOfV c _ _ wq (HS1.out.stays qah hkq) (HS2.out.stays qag hkq) b1 b2 b3).mono ?_
 rintro _ w1 ⟨⟨cv,rfl,hcv⟩,h1⟩
 have hz1:=h1.size
 have k0:=qaa h1 g0
 have k1:=qaa h1 f1
 have q0:=qaa h1 r0
 have qf:=qap h1 (block_lt_of_cell r0) rf
 have HB1:=qhd (hBq.trans (h1.mono hBq.size))
 clear h1 g0 f0 f1 f2 f3 f4 f5 f6 f7 r0 rf hBq hkq
 rcases hcv with ⟨hz,rfl⟩|⟨hz,hv⟩
 ·have HZ:=qhd hz
  have RV:Hid (zt=false):=qhd (by rw[HZT.out,turnOk,hz];rfl)
  have EQ:∀ W,(binOp .eql 85 .nilIface .nilIface).run Tryz.prog W=.ok (.bool true) W:=fun W=>by simp[go_sem]
  have EG:∀ W x,(eqGuard .eql 85 x (.const .nilIface) .nilIface .nilIface).run Tryz.prog W=.ok () W:=fun W x=>by simp[go_sem,eqGuard]
  clear hz
  go_wp2
  all_goals refine bodyPost_ret (v:=?_) ?hrun rfl ?_
  case hrun=>(simp only[results,Tryz.results9];go_simp;first|done|exact rfl)
  all_goals exact HR.out _ _ ⟨⟨_,by rw[RV.out],NO.out _ RV.out⟩,bbel⟩
 have EQ:∀ W,(binOp .eql 85 cv .nilIface).run Tryz.prog W=.ok (.bool false) W:=fun W=>by
  rcases hv with ⟨_,rfl⟩|⟨_,rfl⟩|⟨_,rfl⟩|⟨_,rfl⟩<;>simp[go_sem]
 have EG:∀ W x,(eqGuard .eql 85 x (.const .nilIface) cv .nilIface).run Tryz.prog W=.ok () W:=fun W x=>by
  rcases hv with ⟨_,rfl⟩|⟨_,rfl⟩|⟨_,rfl⟩|⟨_,rfl⟩<;>simp[go_sem,eqGuard]
 have HV:=qhd hv
 have HZ:=qhd hz
 obtain⟨lo,hlo⟩:∃ z,z=lodOk p:=⟨_,rfl⟩
 have HLO:=qhd hlo
 have CL:Hid (∀ W,Below w.heap.size w W→Calls Tryz.prog 13 #[.agg #[.slice pa pn pc]] W fun e w'=>e=.returned (.bool lo)∧Below W.heap.size W w'):=qhd fun W hW=>by rw[HLO.out];exact I_LodOk p _ W (HS.out.stays rLodKeeper_good (Keeps.of_below hW))
 clear hv hz hlo
 go_wp2_with fail
 refine(CL.out _ HB1.out).mono ?_
 rintro _ w2 ⟨rfl,h2⟩
 have hz2:=h2.size
 have k0':=qaa h2 k0
 have k1':=qaa h2 k1
 have q0':=qaa h2 q0
 have qf':=qap h2 (block_lt_of_cell q0) qf
 have HB2:=qhd (HB1.out.trans (h2.mono HB1.out.size))
 clear h2 k0 k1 q0 qf
 cases lo
 ·have RV:Hid (zt=false):=qhd (by rw[HZT.out,turnOk,HZ.out,←HLO.out];rfl)
  go_wp2
  all_goals refine bodyPost_ret (v:=?_) ?hrun rfl ?_
  case hrun=>(simp only[results,Tryz.results9];go_simp;first|done|exact rfl)
  all_goals exact HR.out _ _ ⟨⟨_,by rw[RV.out],NO.out _ RV.out⟩,bbel⟩
 by_cases hlt:c.fKeeper < (pn:Int)
 rotate_left
 ·have RV:Hid (zt=false):=qhd (by
   have h9:decide (c.fKeeper < (p.fKeepers.length:Int))=false:=by rw[decide_eq_false_iff_not,HPL.out];exact hlt
   rw[HZT.out,turnOk,HZ.out,←HLO.out,h9];rfl)
  have hge:(pn:Int)≤c.fKeeper:=by omega
  go_wp2
  all_goals refine bodyPost_ret (v:=?_) ?hrun rfl ?_
  case hrun=>(simp only[results,Tryz.results9];go_simp;first|done|exact rfl)
  all_goals exact HR.out _ _ ⟨⟨_,by rw[RV.out],NO.out _ RV.out⟩,bbel⟩
 have hge:¬(pn:Int)≤c.fKeeper:=by omega
 have hk0:0≤c.fKeeper:=by
  have h9:=HZ.out
  unfold chgOk keepIn at h9
  simp only[Bool.and_eq_true,decide_eq_true_eq] at h9
  omega
 go_wp2_with fail
 refine(I_copyPlan p pa pn pc w2 (HS.out.stays rLodKeeper_good (Keeps.of_below HB2.out)) (lodOk_short HLO.out.symm)).mono ?_
 rintro _ w3 ⟨⟨pv,rfl,hT⟩,h3⟩
 obtain⟨css,hPC⟩:=hT
 obtain⟨i,hi⟩:∃ i:Nat,c.fKeeper=(i:Int):=⟨c.fKeeper.toNat,by omega⟩
 have hip:i < pn:=by omega
 obtain⟨kx,hx⟩:∃ kx,p.fKeepers[i]? =some kx:=⟨_,List.getElem?_eq_getElem (by rw[HPL.out];exact hip)⟩
 obtain⟨cs,hcs⟩:∃ cs,css[i]? =some cs:=⟨_,List.getElem?_eq_getElem (by rw[hPC.rows.len,HPL.out];exact hip)⟩
 obtain⟨_,xo,xa,rfl,t1,t2⟩:=hPC.rows.row i kx cs hx hcs
 obtain⟨Q,cap,epv,hlQ,hQ3,hcap,hcm,hcell,_⟩:=own_cell hPC.owns (by rw[HPL.out];omega)
 subst epv
 rw[HPL.out] at hPC hcap ⊢
 obtain⟨oa,on,oc,rfl⟩:=t1.form3
 obtain⟨aa,an,ac,rfl⟩:=t2.form3
 have hz3:=h3.size
 have HPC:=qhd hPC
 have HX:=qhd hx
 have HCS:=qhd hcs
 have T1:=qhd t1
 have T2:=qhd t2
 have j1:=qaa h3 k1'
 have j2:=qaa h3 q0'
 have jf:=qap h3 (block_lt_of_cell q0') qf'
 have HB3:=qhd (HB2.out.trans (h3.mono HB2.out.size))
 have hcc:cap≤9223372036854775807:=by unfold maxLen at hcm;omega
 have HI:=qhd hi
 clear h3 k0' k1' q0' qf' hPC hx hcs t1 t2 hcell hcm
 go_wp2_with fail
 refine nameW (P:=fun W=>Code.wp _ _ _ _ W) _ (fun w5 hw5=>?_)
 have hB5:Below w3.heap.size w3 w5:=by rw[hw5];exact bbel
 have hz5:w5.heap.size=w3.heap.size+1:=by rw[hw5];simp[World.setCell]
 have rXh:w5.heap[w3.heap.size]? =some (.cells #[.slice (some ⟨Q,0,none⟩) pn cap] 25 (0,0)):=by rw[hw5];exact heap_alloc_new _ _
 have RXH:=qhd rXh
 have rX:w5.cell? ⟨w3.heap.size,0,none⟩=some (.slice (some ⟨Q,0,none⟩) pn cap):=by rw[hw5];go_simp
 have rK:w5.cell? ⟨w.heap.size+1,1,none⟩=some (.int .i64 (i:Int)):=by rw[←HI.out];exact qaa hB5 j1
 have r2:=qaa hB5 j2
 have r2f:=qap hB5 (block_lt_of_cell j2) jf
 have HB5:=qhd hB5
 have PC5:=qhd (HPC.out.below hB5)
 clear hw5 j1 j2 jf hB5 rXh
 have hiq:(i:Int) < (pn:Int):=by omega
 obtain⟨T,x,fn,hcv,NA,ME,CF,AP0⟩:=apply_any p c i kx cv ua un uc ta tn tc HV.out HI.out HX.out HLO.out.symm HZ.out w HS1.out HS2.out b2 b3 b1
 have AP:Hid (∀ W,Below w5.heap.size w5 W→Calls Tryz.prog fn #[x,.pointer (some ⟨Q,i * 2,none⟩)] W fun e w'=>(∃ u,e=.returned u)∧Below w2.heap.size W w'∧(∀ (b:Nat) (cs:Array Value) (fr:Nat × Nat),W.heap[b]? =some (.cells cs 25 fr)→w'.heap[b]? =W.heap[b]?)∧Sl 2 rLodKeeper w2.heap.size w' (.slice (some ⟨Q,0,none⟩) pn cap) (planMove p c).fKeepers):=qhd fun W hW=>by
  have hWs:=hW.size
  have:=HB2.out.size
  exact AP0 w2.heap.size Q pn cap css W ((HB3.out.trans (HB5.out.mono (by have:=HB3.out.size;omega))).trans (hW.mono (by omega))) (by omega) (by omega) (PC5.out.below hW)
 clear AP0
 subst hcv
 clear EQ EG HV
 refine qav 9 (Below w5.heap.size w5) (fun _ w1 w2=>Below w1.heap.size w1 w2) (fun _=>ptF (.iface T x) (.slice (some ⟨Q,0,none⟩) pn cap) w3.heap.size (w.heap.size+1) Q i) (fun _ _=>True) noDead (by kernel_rfl) (by decide) (by kernel_rfl) (Or.inr ⟨by kernel_rfl,by kernel_rfl⟩) (by kernel_rfl) ((Below.refl _ _).drew) (fun _ _ _ _ _ _ _ _ _ h=>h) noDead_dead (fun _=>trivial) (fun _ _ _ _ _ _ _ _=>trivial) (fun _ i j u w1 w2 hne _ _ hg hF=>ptF_stays i j u w1 w2 hne hg hF) (fun _ _ _=>Below.refl _ _) ?_
 refine qab (d:=28) rfl rfl (fun wx hC hI hd S0 hS=>?_) (fun v0=>?_)
 ·have HSS:=qhd hS;clear hS hd hI
  go_simp
  exact HSS.out _ _ hC (Below.refl _ _) (by simp[ptF])
 simp only[qnr]
 refine qab (d:=29) rfl rfl (fun wx hC hI hd S0 hS=>?_) (fun v1=>?_)
 ·have HSS:=qhd hS;clear hS hd hI
  go_simp
  exact HSS.out _ _ hC (Below.refl _ _) (by simp[ptF])
 simp only[qnr]
 refine qab (d:=30) rfl rfl (fun wx hC hI hd S0 hS=>?_) (fun v2=>?_)
 ·have d1:=hd ⟨1,.data⟩ (by simp) rfl v1 (by simp)
  simp only[ptF] at d1
  subst d1
  have c0':=qaa hC rX
  have HSS:=qhd hS;clear hS hd hI
  go_simp
  exact HSS.out _ _ hC (Below.refl _ _) (by simp[ptF])
 simp only[qnr]
 refine qab (d:=31) rfl rfl (fun wx hC hI hd S0 hS=>?_) (fun v3=>?_)
 ·have HSS:=qhd hS;clear hS hd hI
  go_simp
  exact HSS.out _ _ hC (Below.refl _ _) (by simp[ptF])
 simp only[qnr]
 refine qab (d:=32) rfl rfl (fun wx hC hI hd S0 hS=>?_) (fun v4=>?_)
 ·have d3:=hd ⟨3,.data⟩ (by simp) rfl v3 (by simp)
  simp only[ptF] at d3
  subst d3
  have c1':=qaa hC rK
  have HSS:=qhd hS;clear hS hd hI
  go_simp
  exact HSS.out _ _ hC (Below.refl _ _) (by simp[ptF])
 simp only[qnr]
 refine qab (d:=33) rfl rfl (fun wx hC hI hd S0 hS=>?_) (fun v5=>?_)
 ·have d2:=hd ⟨2,.data⟩ (by simp) rfl v2 (by simp)
  simp only[ptF] at d2
  subst d2
  have d4:=hd ⟨4,.data⟩ (by simp) rfl v4 (by simp)
  simp only[ptF] at d4
  subst d4
  have HSS:=qhd hS;clear hS hd hI
  go_simp
  exact HSS.out _ _ hC (Below.refl _ _) (by simp[ptF])
 simp only[qnr]
 refine qab (d:=34) rfl rfl (fun wx hC hI hd S0 hS=>?_) (fun v6=>?_)
 ·have d0:=hd ⟨0,.data⟩ (by simp) rfl v0 (by simp)
  simp only[ptF] at d0
  subst d0
  have HSS:=qhd hS;clear hS hd hI
  go_simp
  exact HSS.out _ _ hC (Below.refl _ _) (by simp[ptF])
 simp only[qnr]
 refine qab (d:=35) rfl rfl (fun wx hC hI hd S0 hS=>?_) (fun v7=>?_)
 ·have d6:=hd ⟨6,.data⟩ (by simp) rfl v6 (by simp)
  simp only[ptF] at d6
  subst d6
  have HSS:=qhd hS;clear hS hd hI
  go_simp
  exact HSS.out _ _ hC (Below.refl _ _) (by simp[ptF])
 simp only[qnr]
 refine qab (d:=36) rfl rfl (fun wx hC hI hd S0 hS=>?_) (fun v8=>?_)
 ·have d0:=hd ⟨0,.data⟩ (by simp) rfl v0 (by simp)
  simp only[ptF] at d0
  subst d0
  have HSS:=qhd hS;clear hS hd hI
  go_simp
  exact HSS.out _ _ hC (Below.refl _ _) (by simp[ptF])
 simp only[qnr]
 intro wF hC hF
 have f8:=hF 8 v8 (by simp) (fun _ _=>rfl)
 have f5:=hF 5 v5 (by simp) (fun _ _=>rfl)
 simp only[ptF] at f5 f8
 subst f5
 subst f8
 have hCs:=hC.size
 have m2:=qaa hC r2
 have m2f:=qap hC (block_lt_of_cell r2) r2f
 have mX:=qaa hC rX
 have HC:=qhd hC
 clear hF hC r2 r2f rX rK
 simp only[List.drop_succ_cons,List.drop_zero]
 go_wp2_with fail
 refine(AP.out _ HC.out).mono ?_
 rintro _ w6 ⟨⟨ur,rfl⟩,hb6,hX6,hs6⟩
 have hz6:=hb6.size
 have n2:=qbc hb6 (by omega) m2
 have n2f:=qap hb6 (by omega) m2f
 have nX:=(cell_same (o:=0) (hX6 _ _ _ ((HC.out.block _ (by omega)).trans RXH.out))).trans mX
 have HS6:=qhd hs6
 have hw23:=HB2.out.size
 have HB6:=qhd (((HB3.out.trans (HB5.out.mono (by omega))).trans (HC.out.mono (by omega))).trans (hb6.mono (by omega)))
 clear hb6 hX6 hs6 m2 m2f mX
 obtain⟨l2,hl2⟩:∃ z,z=lodOk (planMove p c):=⟨_,rfl⟩
 have HL2:=qhd hl2
 have CL2:Hid (∀ W,Below w6.heap.size w6 W→Calls Tryz.prog 13 #[.agg #[.slice (some ⟨Q,0,none⟩) pn cap]] W fun e w'=>e=.returned (.bool l2)∧Below W.heap.size W w'):=qhd fun W hW=>by rw[HL2.out];exact I_LodOk (planMove p c) _ W ((HS6.out.stays rLodKeeper_good (Keeps.of_below hW)).low rLodKeeper_good (Nat.zero_le _))
 have RV:Hid (zt=l2):=qhd (by
  have h9:decide (c.fKeeper < (p.fKeepers.length:Int))=true:=by rw[decide_eq_true_eq,HPL.out,HI.out];omega
  rw[HZT.out,turnOk,HZ.out,←HLO.out,h9,HL2.out];rfl)
 clear hl2
 go_wp2_with fail
 refine(CL2.out _ (Below.refl _ _)).mono ?_
 rintro _ w7 ⟨rfl,h7⟩
 have hz7:=h7.size
 have o2:=qaa h7 n2
 have o2f:=qap h7 (block_lt_of_cell n2) n2f
 have oX:=qaa h7 nX
 have H7:=qhd h7
 clear h7 n2 n2f nX
 cases l2
 ·go_wp2
  all_goals refine bodyPost_ret (v:=?_) ?hrun rfl ?_
  case hrun=>(simp only[results,Tryz.results9];go_simp;first|done|exact rfl)
  all_goals exact HR.out _ _ ⟨⟨_,by rw[RV.out],NO.out _ RV.out⟩,(HB6.out.trans (H7.out.mono HB6.out.size)).setCell (by show w.heap.size≤w.heap.size+1+1;omega) _⟩
 ·have YES:Hid ((turned p c).fKeepers=(planMove p c).fKeepers):=qhd (by rw[turned,←HZT.out,RV.out];rfl)
  have S7:=qhd (HS6.out.stays rLodKeeper_good (Keeps.of_below H7.out))
  go_wp2
  all_goals refine bodyPost_ret (v:=?_) ?hrun rfl ?_
  case hrun=>(simp only[results,Tryz.results9];go_simp;first|done|exact rfl)
  all_goals exact HR.out _ _ ⟨⟨_,by rw[RV.out],by rw[YES.out];exact(S7.out.stays rLodKeeper_good ⟨by simp[World.setCell],fun k hk _=>Below.heap_setCell _ _ _ _ (by show k≠w.heap.size+1+1;omega)⟩).low rLodKeeper_good (Nat.zero_le _)⟩,(HB6.out.trans (H7.out.mono HB6.out.size)).setCell (by show w.heap.size≤w.heap.size+1+1;omega) _⟩

theorem TOwnC.lit0 {k:Nat} {e:TypeId} (w:World):TOwnC k rCel e w.heap.size w.heap.size (w.alloc (.cells #[] e)) (.slice (some ⟨w.heap.size,0,none⟩) 0 0) [] []:=by
 exact⟨Rows.nil,⟨by simp,Or.inr ⟨w.heap.size,0,#[],rfl,Nat.le_refl _,heap_alloc_new w _,Nat.le_refl _,by unfold maxLen;omega,by simp,by simp⟩⟩,fun b hb=>by cases hb;exact Nat.le_refl _⟩

theorem S_l9Owns (xs ys:List DClsClass) (nm:ByteArray) (v:Value) (ad:Addr) (n2 cap2:Nat) (cs2:List (List Value)) (W0 w:World) (hW:Below W0.heap.size W0 w) (hs:Sl 4 rClsClass 0 W0 v xs) (hsrc2:Src 4 w (.slice (some ad) n2 cap2) cs2) (hc2:Rows 4 rCel 0 w cs2 cs2) (hr2:Rows 4 rClsClass 0 W0 cs2 ys) (hl1:xs.length≤1000) (hl2:ys.length≤1000) :
  Calls Tryz.prog 73 #[v,.string nm,.slice (some ad) n2 cap2] w (Cloned 4 rClsClass 29 W0 w (keepN (·.fName) nm xs++ys)):=by
 obtain⟨a,len,cap,rfl,hl,h1,h2,h3⟩:=id hs
 have HW:=qhd hW
 have HSRC:=qhd hsrc2
 have HC2:=qhd hc2
 have HR2:=qhd hr2
 have m1:len≤9223372036854775807:=by unfold maxLen at h2;omega
 have HL:=qhd hl
 have H3:=qhd h3
 have HK:Hid (∀ j,(keepN (·.fName) nm (xs.take j)).length≤1000):=qhd fun j=>by
  have h1:=keepN_len (f:=(·.fName)) (nm:=nm) (xs:=xs.take j)
  rw[List.length_take] at h1
  omega
 clear h2 hl h1 h3 hs hsrc2 hc2 hr2 hW
 refine qac fun R HR=>?_
 go_enter Tryz.func73,Tryz.ntmps73
 go_wp2_with fail
 go_loopw [7,8] (fun ov kv wr=>∃ (j:Nat) (css:List (List Value)),j≤len∧kv=.int .i64 (j:Int)∧TOwnC 4 rCel 29 w.heap.size w.heap.size wr ov css css∧Rows 4 rClsClass 0 W0 css (keepN (·.fName) nm (xs.take j))∧Below w.heap.size w wr) (fun _ kv _=>len-(intOf kv).toNat)
 case atStart=>exact⟨0,[],Nat.zero_le _,rfl,TOwnC.lit0 w,Rows.nil,bbel⟩
 case round=>
  obtain⟨j,css,hj,rfl,hT,hR,hb⟩:=hrel
  obtain⟨oa,on,oc,ho⟩:∃ oa on oc,u7=.slice oa on oc:=by
   obtain⟨a,c,e,_⟩:=own_form hT.owns
   exact⟨a,_,c,e⟩
  subst ho
  have HT:=qhd hT
  have HRW:=qhd hR
  have HB:=qhd hb
  have hbs:=hb.size
  have hWr:Below W0.heap.size W0 wr:=HW.out.trans (hb.mono HW.out.size)
  by_cases hlt:j < len
  ·obtain⟨b,off,rfl,_,hbl,hr⟩:=H3.out (by omega)
   obtain⟨x,cs,e0,e1,e2,e3⟩:=hr j hlt
   have E0:=qhd e0
   have E3:=qhd e3
   have E1:=qhd e1
   obtain⟨u1',u2',rfl,s1,s2,bx1,bx2⟩:=e3
   obtain⟨a1,l1,c1,rfl⟩:=s1.form
   obtain⟨a2,l2,c2,rfl⟩:=s2.form
   have q0:wr.cell? ⟨b,off+j * 4,none⟩=some (.string x.fName):=qaa hWr (e2 0 _ rfl)
   have q1:wr.cell? ⟨b,off+j * 4+1,none⟩=some (.string x.fSuper):=qaa hWr (e2 1 _ rfl)
   have q2:wr.cell? ⟨b,off+j * 4+2,none⟩=some (.slice a1 l1 c1):=qaa hWr (e2 2 _ rfl)
   have q3:wr.cell? ⟨b,off+j * 4+3,none⟩=some (.slice a2 l2 c2):=qaa hWr (e2 3 _ rfl)
   clear e0 e1 e2 hr hT hR hb hWr
   cases hx:sameN x.fName nm
   ·have HX:=qhd hx
    have hxx:(x.fName.toList == nm.toList)=false:=hx
    have hBa:Below wr.heap.size wr (wr.alloc (.cells #[.string x.fName,.string x.fSuper,.slice a1 l1 c1,.slice a2 l2 c2] 29)):=(Below.refl _ _).alloc (Nat.le_refl _) _
    have HBa:=qhd hBa
    have hll:css.length+1≤1000000:=by rw[HRW.out.len];have:=HK.out j;omega
    clear hx hBa
    go_wp2_with (at_builtin;refine wpList_append_FC (B:=w.heap.size) (lo:=w.heap.size) (R:=rCel) (E:=NoT) (xs:=css) (cx:=css) (ys:=[[.string x.fName,.string x.fSuper,.slice a1 l1 c1,.slice a2 l2 c2]]) (css:=[[.string x.fName,.string x.fSuper,.slice a1 l1 c1,.slice a2 l2 c2]]) (by rfl) (.tmp 23) (.tmp 28) 43 (by rfl) sty_Cls rCel_goodT (fun h=>h) rCel_one (by rfl) (by rfl) (HT.out.belowB HBa.out) (Src.new (k:=4)) (Rows.one rfl ⟨rfl,by intro u hu;simp at hu;rcases hu with rfl|rfl|rfl|rfl<;>rfl⟩) hll (Nat.le_refl _) (by simp;omega) ?_;intro v9 w9 htG hbG hgG hkG hatG;obtain⟨ga,gn,gc,rfl⟩:∃ ga gn gc,v9=.slice ga gn gc:=htG.plain.sl.form3;have HTG:=qhd htG;have HBG:=qhd hbG;clear htG hbG hgG hkG hatG)
    go_roundw
    case measure=>simp[intOf];omega
    case rel=>
     refine⟨j+1,_,by omega,by go_num,HTG.out,?_,(HB.out.trans (HBa.out.mono hbs)).trans HBG.out⟩
     rw[keepN_snoc E0.out,if_neg (by rw[HX.out];decide)]
     exact HRW.out.append (Rows.one rfl E3.out)
   ·have HX:=qhd hx
    have hxx:(x.fName.toList == nm.toList)=true:=hx
    clear hx
    go_wp2
    go_roundw
    case measure=>simp[intOf];omega
    case rel=>exact⟨j+1,css,by omega,by go_num,HT.out,by rw[keepN_snoc E0.out,if_pos HX.out,List.append_nil];exact HRW.out,HB.out⟩
  ·obtain rfl:j=len:=by omega
   have hll:css.length+cs2.length≤1000000:=by rw[HRW.out.len,HR2.out.len];have:=HK.out j;omega
   clear hT hR hb hWr
   go_wp2_with (at_builtin;refine wpList_append_FC (B:=w.heap.size) (lo:=w.heap.size) (R:=rCel) (E:=NoT) (xs:=css) (cx:=css) (ys:=cs2) (css:=cs2) (by rfl) (.tmp 30) (.tmp 31) 43 (by rfl) sty_Cls rCel_goodT (fun h=>h) rCel_one (by rfl) (by rfl) HT.out (HSRC.out.kept HB.out) (HC2.out.mono fun _ _ h=>h) hll (Nat.le_refl _) (by omega) ?_;intro v9 w9 htG hbG hgG hkG hatG;obtain⟨ga,gn,gc,rfl⟩:∃ ga gn gc,v9=.slice ga gn gc:=htG.plain.sl.form3;have HTG:=qhd htG;have HBG:=qhd hbG;clear htG hbG hgG hkG hatG)
   all_goals (try go_returns)
   all_goals exact HR.out _ _ ⟨⟨_,_,rfl,HTG.out,by
    have hall:keepN (·.fName) nm (xs.take j)=keepN (·.fName) nm xs:=by rw[List.take_of_length_le (by have:=HL.out;omega)]
    have hrr:=HRW.out.append HR2.out
    rw[hall] at hrr
    exact hrr⟩,HB.out.trans HBG.out⟩

theorem S_l9Asks (xs ys:List DLodAsk) (nm:ByteArray) (v:Value) (ad:Addr) (n2 cap2:Nat) (cs2:List (List Value)) (W0 w:World) (hW:Below W0.heap.size W0 w) (hs:Sl 2 rLodAsk 0 W0 v xs) (hsrc2:Src 2 w (.slice (some ad) n2 cap2) cs2) (hc2:Rows 2 rCel 0 w cs2 cs2) (hr2:Rows 2 rLodAsk 0 W0 cs2 ys) (hl1:xs.length≤1000) (hl2:ys.length≤1000) :
  Calls Tryz.prog 74 #[v,.string nm,.slice (some ad) n2 cap2] w (Cloned 2 rLodAsk 48 W0 w (keepN (·.fName) nm xs++ys)):=by
 obtain⟨a,len,cap,rfl,hl,h1,h2,h3⟩:=id hs
 have HW:=qhd hW
 have HSRC:=qhd hsrc2
 have HC2:=qhd hc2
 have HR2:=qhd hr2
 have m1:len≤9223372036854775807:=by unfold maxLen at h2;omega
 have HL:=qhd hl
 have H3:=qhd h3
 have HK:Hid (∀ j,(keepN (·.fName) nm (xs.take j)).length≤1000):=qhd fun j=>by
  have h1:=keepN_len (f:=(·.fName)) (nm:=nm) (xs:=xs.take j)
  rw[List.length_take] at h1
  omega
 clear h2 hl h1 h3 hs hsrc2 hc2 hr2 hW
 refine qac fun R HR=>?_
 go_enter Tryz.func74,Tryz.ntmps74
 go_wp2_with fail
 go_loopw [7,8] (fun ov kv wr=>∃ (j:Nat) (css:List (List Value)),j≤len∧kv=.int .i64 (j:Int)∧TOwnC 2 rCel 48 w.heap.size w.heap.size wr ov css css∧Rows 2 rLodAsk 0 W0 css (keepN (·.fName) nm (xs.take j))∧Below w.heap.size w wr) (fun _ kv _=>len-(intOf kv).toNat)
 case atStart=>exact⟨0,[],Nat.zero_le _,rfl,TOwnC.lit0 w,Rows.nil,bbel⟩
 case round=>
  obtain⟨j,css,hj,rfl,hT,hR,hb⟩:=hrel
  obtain⟨oa,on,oc,ho⟩:∃ oa on oc,u7=.slice oa on oc:=by
   obtain⟨a,c,e,_⟩:=own_form hT.owns
   exact⟨a,_,c,e⟩
  subst ho
  have HT:=qhd hT
  have HRW:=qhd hR
  have HB:=qhd hb
  have hbs:=hb.size
  have hWr:Below W0.heap.size W0 wr:=HW.out.trans (hb.mono HW.out.size)
  by_cases hlt:j < len
  ·obtain⟨b,off,rfl,_,hbl,hr⟩:=H3.out (by omega)
   obtain⟨x,cs,e0,e1,e2,e3⟩:=hr j hlt
   have E0:=qhd e0
   have E3:=qhd e3
   have E1:=qhd e1
   obtain⟨rfl,bx1⟩:=e3
   have q0:wr.cell? ⟨b,off+j * 2,none⟩=some (.string x.fName):=qaa hWr (e2 0 _ rfl)
   have q1:wr.cell? ⟨b,off+j * 2+1,none⟩=some (.int .i64 x.fKeeper):=qaa hWr (e2 1 _ rfl)
   clear e0 e1 e2 hr hT hR hb hWr
   cases hx:sameN x.fName nm
   ·have HX:=qhd hx
    have hxx:(x.fName.toList == nm.toList)=false:=hx
    have hBa:Below wr.heap.size wr (wr.alloc (.cells #[.string x.fName,.int .i64 x.fKeeper] 48)):=(Below.refl _ _).alloc (Nat.le_refl _) _
    have HBa:=qhd hBa
    have hll:css.length+1≤1000000:=by rw[HRW.out.len];have:=HK.out j;omega
    clear hx hBa
    go_wp2_with (at_builtin;refine wpList_append_FC (B:=w.heap.size) (lo:=w.heap.size) (R:=rCel) (E:=NoT) (xs:=css) (cx:=css) (ys:=[[.string x.fName,.int .i64 x.fKeeper]]) (css:=[[.string x.fName,.int .i64 x.fKeeper]]) (by rfl) (.tmp 23) (.tmp 28) 44 (by rfl) sty_Ask rCel_goodT (fun h=>h) rCel_one (by rfl) (by rfl) (HT.out.belowB HBa.out) (Src.new (k:=2)) (Rows.one rfl ⟨rfl,by intro u hu;simp at hu;rcases hu with rfl|rfl<;>rfl⟩) hll (Nat.le_refl _) (by simp;omega) ?_;intro v9 w9 htG hbG hgG hkG hatG;obtain⟨ga,gn,gc,rfl⟩:∃ ga gn gc,v9=.slice ga gn gc:=htG.plain.sl.form3;have HTG:=qhd htG;have HBG:=qhd hbG;clear htG hbG hgG hkG hatG)
    go_roundw
    case measure=>simp[intOf];omega
    case rel=>
     refine⟨j+1,_,by omega,by go_num,HTG.out,?_,(HB.out.trans (HBa.out.mono hbs)).trans HBG.out⟩
     rw[keepN_snoc E0.out,if_neg (by rw[HX.out];decide)]
     exact HRW.out.append (Rows.one rfl E3.out)
   ·have HX:=qhd hx
    have hxx:(x.fName.toList == nm.toList)=true:=hx
    clear hx
    go_wp2
    go_roundw
    case measure=>simp[intOf];omega
    case rel=>exact⟨j+1,css,by omega,by go_num,HT.out,by rw[keepN_snoc E0.out,if_pos HX.out,List.append_nil];exact HRW.out,HB.out⟩
  ·obtain rfl:j=len:=by omega
   have hll:css.length+cs2.length≤1000000:=by rw[HRW.out.len,HR2.out.len];have:=HK.out j;omega
   clear hT hR hb hWr
   go_wp2_with (at_builtin;refine wpList_append_FC (B:=w.heap.size) (lo:=w.heap.size) (R:=rCel) (E:=NoT) (xs:=css) (cx:=css) (ys:=cs2) (css:=cs2) (by rfl) (.tmp 30) (.tmp 31) 44 (by rfl) sty_Ask rCel_goodT (fun h=>h) rCel_one (by rfl) (by rfl) HT.out (HSRC.out.kept HB.out) (HC2.out.mono fun _ _ h=>h) hll (Nat.le_refl _) (by omega) ?_;intro v9 w9 htG hbG hgG hkG hatG;obtain⟨ga,gn,gc,rfl⟩:∃ ga gn gc,v9=.slice ga gn gc:=htG.plain.sl.form3;have HTG:=qhd htG;have HBG:=qhd hbG;clear htG hbG hgG hkG hatG)
   all_goals (try go_returns)
   all_goals exact HR.out _ _ ⟨⟨_,_,rfl,HTG.out,by
    have hall:keepN (·.fName) nm (xs.take j)=keepN (·.fName) nm xs:=by rw[List.take_of_length_le (by have:=HL.out;omega)]
    have hrr:=HRW.out.append HR2.out
    rw[hall] at hrr
    exact hrr⟩,HB.out.trans HBG.out⟩

theorem run_append_copyS {T ty e:TypeId} {k:Nat} {z:Value} {bytes:Nat} (h:STy T e k z bytes) (hk:0 < k) {α:Type} {R:RowRel α} (h1:∀ lo w cs x,R lo w cs x→∀ u∈cs,u.oneCell'=true)
  {lo B:Nat} {w:World} {v sv:Value} {xs:List α} (hv:Empty0 e B w v) (hs:Sl k R 0 w sv xs) (hl:xs.length≤1000000) (hlo:lo≤B) (hB:B≤w.heap.size) :
  ∃ v' w' css,(Builtin.append_ #[T,T] ty #[v,sv]).run Tryz.prog w=.ok v' w'∧TOwnC k rCel e lo B w' v' css css∧Rows k R 0 w css xs∧Below w.heap.size w w':=by
 obtain⟨a,n,cap,rfl,hl',h2,h3,h4⟩:=id hs
 cases a with
 | none=>
   have h0:n=0:=by
    by_cases h0:0 < n
    ·obtain⟨b,off,e,_⟩:=h4 h0
     cases e
    ·omega
   subst h0
   have:xs=[]:=List.eq_nil_of_length_eq_zero hl'
   subst this
   obtain⟨i,hi,hz,hk',hb⟩:=h.parts
   obtain⟨g,rfl,hBg,hg⟩:=hv
   have hown:w.ownsRow lo e k (.slice (some ⟨g,0,none⟩) 0 0) 0 []:=⟨by simp,Or.inr ⟨g,0,#[],rfl,by omega,hg,Nat.le_refl _,Nat.zero_le _,by simp,by simp⟩⟩
   refine⟨_,w,[],?_,⟨Rows.nil,hown,fun b hb=>?_⟩,Rows.nil,Below.refl _ _⟩
   ·simp[Builtin.append_,run_underlying h.un,sizeOf,typeInfo,hi,Builtin.lenOf,Builtin.firstCells,storeCells,loadCells,loadCellsFrom]
   ·have:g=b:=by simpa[Value.ownBlock] using hb
    omega
 | some ad=>
   obtain⟨css,hsrc,hc2,hr⟩:=hs.cel h1 hk
   obtain⟨v',w',a1,a2,a3⟩:=run_append_copyC (ty:=ty) (R:=rCel) (E:=NoT) (ys:=css) h rCel_goodT rCel_one hv hsrc (Rows.mono (lo':=lo) (R':=rCel) hc2 fun _ _ h=>h) (by rw[hr.len];exact hl) hlo hB
   exact⟨v',w',css,a1,a2,hr,a3⟩
theorem wpList_append_copyS {ops:Array Oper} {rest:List Oper} {o:Oper} {a:Act} {Q:Exit→Act→World→Prop} {w:World} (hgd:o.guard=none) (s x:Operand) (T:TypeId)
  (ho:o.op=.call { callee:=.builtin .append,args:=#[s,x],argTypes:=#[T,T] }) {e:TypeId} {k:Nat} {z:Value} {bytes:Nat} (ht:STy T e k z bytes) (hk:0 < k) {α:Type} {R:RowRel α} (h1:∀ lo w cs x,R lo w cs x→∀ u∈cs,u.oneCell'=true)
  {lo B:Nat} {v sv:Value} {xs:List α} (hs:a.eval s=v) (hx:a.eval x=sv) (hv:Empty0 e B w v) (hS:Sl k R 0 w sv xs) (hl:xs.length≤1000000) (hlo:lo≤B) (hB:B≤w.heap.size)
  (h:∀ v' w' css,TOwnC k rCel e lo B w' v' css css→Rows k R 0 w css xs→Below w.heap.size w w'→wpList Tryz.prog ops Q rest (a.put o.dst v') w'):wpList Tryz.prog ops Q (o :: rest) a w:=by
 obtain⟨v',w',css,hr,h2,h3,h4⟩:=run_append_copyS (ty:=o.type) ht hk h1 hv hS hl hlo hB
 exact wpList_plain hgd fun _ hK=>wp_of_append s x T ho hs hx hr (hK _ _ (h v' w' css h2 h3 h4))

theorem S_l9Tags2 (xs:List DTagTag) (v:Value) (w:World) (hs:Sl 2 rTagTag 0 w v xs) (hl:xs.length≤1000000) :
  Calls Tryz.prog 142 #[v] w fun e w'=>(∃ v,e=.returned v∧TOwn 2 rTagTag 165 w.heap.size w.heap.size w' v xs)∧Below w.heap.size w w':=by
 obtain⟨a,n,cap,rfl⟩:=hs.form
 have HS:=qhd hs
 have HL:=qhd hl
 have hB0:Below w.heap.size w (w.alloc (.cells #[] 165)):=(Below.refl _ _).alloc (Nat.le_refl _) _
 have HB0:=qhd hB0
 clear hs hl hB0
 cases a with
 | none=>
   obtain⟨a',n',c',e,h1,h2,h3,h4⟩:=HS.out
   cases e
   have h0:n=0:=by
    by_cases h0:0 < n
    ·obtain⟨b,off,e,_⟩:=h4 h0
     cases e
    ·omega
   subst h0
   have:xs=[]:=List.eq_nil_of_length_eq_zero h1
   subst this
   clear h1 h2 h3 h4
   refine qac fun R HR=>?_
   go_enter Tryz.func142,Tryz.ntmps142
   go_wp2
   all_goals (try go_returns)
   all_goals exact HR.out _ _ ⟨⟨_,rfl,((TOwnC.lit0 (e:=165) w).toT (k:=2) (R:=rTagTag) Rows.nil).plain⟩,HB0.out⟩
 | some ad=>
   obtain⟨css,hsrc,hc2,hr⟩:=HS.out.cel rTagTag_one (by decide)
   have HSRC:=qhd hsrc
   have HR2:=qhd hr
   clear hsrc hr hc2
   refine qac fun R HR=>?_
   go_enter Tryz.func142,Tryz.ntmps142
   go_wp2_with (at_builtin;refine qas (B:=w.heap.size) (lo:=w.heap.size) (R:=rTagTag) (E:=NoT) (ys:=xs) (css:=css) (by rfl) (.tmp 3) (.tmp 4) 137 (by rfl) sty_Tag rTagTag_goodT rTagTag_one (by rfl) (by rfl) (Empty0.new w _ (Nat.le_refl _)) (HSRC.out.kept HB0.out) (HR2.out.mono fun _ _ h=>h) HL.out (Nat.le_refl _) HB0.out.size ?_;intro v' w' ht hb;have HT:=qhd ht;have HBB:=qhd (HB0.out.trans (hb.mono HB0.out.size));obtain⟨va,vn,vc,hv⟩:=ht.plain.sl.form3;subst hv;clear ht hb)
   all_goals (try go_returns)
   all_goals exact HR.out _ _ ⟨⟨_,rfl,HT.out.plain⟩,HBB.out⟩

theorem rLodKeeper_one:∀ lo w cs x,rLodKeeper lo w cs x→∀ u∈cs,u.oneCell'=true:=by
 intro lo w cs x h u hu
 obtain⟨v1,v2,rfl,s1,s2⟩:=h
 obtain⟨a1,n1,c1,rfl⟩:=s1.form
 obtain⟨a2,n2,c2,rfl⟩:=s2.form
 simp at hu
 rcases hu with rfl|rfl<;>rfl

theorem Rows.set {α:Type} {k:Nat} {R:RowRel α} {lo:Nat} {w:World} {css:List (List Value)} {xs:List α} (h:Rows k R lo w css xs) {i:Nat} {row:List Value} {x:α} (hl:row.length=k) (hr:R lo w row x):Rows k R lo w (css.set i row) (xs.set i x):=by
 refine⟨by rw[List.length_set,List.length_set];exact h.len,fun j y cs hy hc=>?_⟩
 by_cases hj:j=i
 ·subst hj
  have hjx:j < xs.length:=by have:=(List.getElem?_eq_some_iff.1 hy).1;rwa [List.length_set] at this
  rw[List.getElem?_set_self hjx] at hy
  rw[List.getElem?_set_self (by rw[h.len];exact hjx)] at hc
  cases hy;cases hc
  exact⟨hl,hr⟩
 ·rw[List.getElem?_set_ne (by omega)] at hy hc
  exact h.row j y cs hy hc

theorem S_l9Turn1 (p:DLodPlan) (c:DChgChange) (i:Nat) (kx:DLodKeeper) (pad:Addr) (pn pc:Nat) (ua:Option Addr) (un uc:Nat) (ta:Option Addr) (tn tc:Nat) (w:World) (s:Sl 2 rLodKeeper 0 w (.slice (some pad) pn pc) p.fKeepers) (s1:Sl 3 rClsField 0 w (.slice ua un uc) c.fClass.fFields) (s2:Sl 8 rClsMethod 0 w (.slice ta tn tc) c.fClass.fMethods)
  (b1:c.fName.size≤maxLen) (b2:c.fClass.fName.size≤maxLen) (b3:c.fClass.fSuper.size≤maxLen) (hi:c.fKeeper=(i:Int)) (hx:p.fKeepers[i]? =some kx) (hl:lodOk p=true) (hch:chgOk c=true) (hkk:c.fKind=1) :
  Calls Tryz.prog 38 #[.agg #[.slice (some pad) pn pc],.agg #[.int .i64 c.fKind,.int .i64 c.fKeeper,.string c.fName,.int .i64 c.fTo,.string c.fClass.fName,.string c.fClass.fSuper,.slice ua un uc,.slice ta tn tc]] w fun e w'=>(∃ v,e=.returned (.agg #[v])∧Sl 2 rLodKeeper 0 w' v (planMove p c).fKeepers)∧Below w.heap.size w w':=by
 obtain⟨few1,few2⟩:=lodOk_few hl (List.mem_of_getElem? hx)
 obtain⟨hpl,hpc,hp9⟩:=kpr_len s
 obtain⟨css,hsrc,hc,hr⟩:=s.cel rLodKeeper_one (by decide)
 have hcl:=hr.len
 have hks:=(lodOk_short hl).1
 have HSRC:=qhd hsrc
 have HC:=qhd hc
 have HRW:=qhd hr
 have HS1:=qhd s1
 have HS2:=qhd s2
 have HI:=qhd hi
 have HX:=qhd hx
 have HCH:=qhd hch
 have HPL:=qhd hpl
 have HCL:=qhd hcl
 have HKS:=qhd hks
 have hip2:True:=trivial
 have hip:i < pn:=by have:=(List.getElem?_eq_some_iff.1 hx).1;omega
 clear s hsrc hc hr s1 s2 hi hx hl hch hpl hcl hks
 have HKK:=qhd hkk
 clear hkk
 refine qac fun R HR=>?_
 go_enter Tryz.func38,Tryz.ntmps38
 have hB0:Below w.heap.size w ((((w.alloc (.cells #[.slice (some pad) pn pc] 25)).alloc (.cells #[.int .i64 c.fKind,.int .i64 c.fKeeper,.string c.fName,.int .i64 c.fTo,.string c.fClass.fName,.string c.fClass.fSuper,.slice ua un uc,.slice ta tn tc] 31)).alloc (.cells #[.slice none 0 0] 25)).alloc (.cells #[] 46)):=bbel
 have HB0:=qhd hB0
 clear hB0
 have hB3:Below w.heap.size w (((w.alloc (.cells #[.slice (some pad) pn pc] 25)).alloc (.cells #[.int .i64 c.fKind,.int .i64 c.fKeeper,.string c.fName,.int .i64 c.fTo,.string c.fClass.fName,.string c.fClass.fSuper,.slice ua un uc,.slice ta tn tc] 31)).alloc (.cells #[.slice none 0 0] 25)):=bbel
 have hE:=Empty0.new _ 46 hB3.size
 rw[show(((w.alloc (.cells #[.slice (some pad) pn pc] 25)).alloc (.cells #[.int .i64 c.fKind,.int .i64 c.fKeeper,.string c.fName,.int .i64 c.fTo,.string c.fClass.fName,.string c.fClass.fSuper,.slice ua un uc,.slice ta tn tc] 31)).alloc (.cells #[.slice none 0 0] 25)).heap.size=w.heap.size+1+1+1 by simp] at hE
 have HE:=qhd hE
 clear hB3 hE
 obtain⟨cs0,hcs0⟩:∃ cs,css[i]? =some cs:=⟨_,List.getElem?_eq_getElem (by rw[HCL.out,HPL.out];exact hip)⟩
 obtain⟨_,ov,av,rfl,t1,t2⟩:=HRW.out.row i kx cs0 HX.out hcs0
 obtain⟨oad,on,oc,rfl⟩:=t1.form
 obtain⟨aad,an,ac,rfl⟩:=t2.form
 have HCS:=qhd hcs0
 have T1:=qhd t1
 have T2:=qhd t2
 have hcn:=HCL.out.trans HPL.out
 have HCN:=qhd hcn
 have HZ4:Hid (((((w.alloc (.cells #[.slice (some pad) pn pc] 25)).alloc (.cells #[.int .i64 c.fKind,.int .i64 c.fKeeper,.string c.fName,.int .i64 c.fTo,.string c.fClass.fName,.string c.fClass.fSuper,.slice ua un uc,.slice ta tn tc] 31)).alloc (.cells #[.slice none 0 0] 25)).alloc (.cells #[] 46)).heap.size=w.heap.size+1+1+1+1):=qhd (by simp)
 have CB:Hid (∀ j u,(#[.int .i64 c.fKind,.int .i64 c.fKeeper,.string c.fName,.int .i64 c.fTo,.string c.fClass.fName,.string c.fClass.fSuper,.slice ua un uc,.slice ta tn tc]:Array Value)[j]? =some u→((((w.alloc (.cells #[.slice (some pad) pn pc] 25)).alloc (.cells #[.int .i64 c.fKind,.int .i64 c.fKeeper,.string c.fName,.int .i64 c.fTo,.string c.fClass.fName,.string c.fClass.fSuper,.slice ua un uc,.slice ta tn tc] 31)).alloc (.cells #[.slice none 0 0] 25)).alloc (.cells #[] 46)).cell? ⟨w.heap.size+1,j,none⟩=some u):=qhd fun j u hu=>by
  match j,hu with
  | 0,hu=>cases hu;go_simp
  | 1,hu=>cases hu;go_simp
  | 2,hu=>cases hu;go_simp
  | 3,hu=>cases hu;go_simp
  | 4,hu=>cases hu;go_simp
  | 5,hu=>cases hu;go_simp
  | 6,hu=>cases hu;go_simp
  | 7,hu=>cases hu;go_simp
  | j+8,hu=>simp at hu
 have RB:Hid (((((w.alloc (.cells #[.slice (some pad) pn pc] 25)).alloc (.cells #[.int .i64 c.fKind,.int .i64 c.fKeeper,.string c.fName,.int .i64 c.fTo,.string c.fClass.fName,.string c.fClass.fSuper,.slice ua un uc,.slice ta tn tc] 31)).alloc (.cells #[.slice none 0 0] 25)).alloc (.cells #[] 46)).heap[w.heap.size+1+1]? =some (.cells #[.slice none 0 0] 25 (0,0))):=qhd (by
  refine(Below.heap_alloc _ _ _ (by simp)).trans ?_
  have:=heap_alloc_new ((w.alloc (.cells #[.slice (some pad) pn pc] 25)).alloc (.cells #[.int .i64 c.fKind,.int .i64 c.fKeeper,.string c.fName,.int .i64 c.fTo,.string c.fClass.fName,.string c.fClass.fSuper,.slice ua un uc,.slice ta tn tc] 31)) (.cells #[.slice none 0 0] 25)
  rw[World.size_alloc,World.size_alloc] at this;exact this)
 clear hcs0 t1 t2 hcn
 go_wp2_with (at_builtin;refine qas (B:=w.heap.size) (lo:=w.heap.size) (R:=rCel) (E:=NoT) (ys:=css) (css:=css) (by rfl) (.tmp 7) (.tmp 9) 23 (by rfl) sty_Kpr rCel_goodT rCel_one (by rfl) (by rfl) HE.out (HSRC.out.kept HB0.out) (HC.out.mono fun _ _ h=>h) (by rw[HCL.out];have:=HKS.out;omega) (Nat.le_refl _) HB0.out.size ?_;intro v' w' ht hb;have HT:=qhd ht;have HBB:=qhd hb;obtain⟨Q,vc,hv,hQ1,hQ2,hvc,hvm,_⟩:=own_cell ht.owns (by rw[HCN.out];omega);rw[HCN.out] at hv hvc;subst hv;obtain⟨g0,_,_⟩:=(show TOwnC 2 rCel 46 w.heap.size w.heap.size w' (.slice (some ⟨Q,0,none⟩) pn vc) css css from ht).cellAt (j:=0) HCS.out rfl;obtain⟨g1,_,_⟩:=(show TOwnC 2 rCel 46 w.heap.size w.heap.size w' (.slice (some ⟨Q,0,none⟩) pn vc) css css from ht).cellAt (j:=1) HCS.out rfl;rw[Nat.add_zero] at g0;have f0:=qaa hb (CB.out 0 (.int .i64 c.fKind) rfl);have f1:=qaa hb (CB.out 1 (.int .i64 c.fKeeper) rfl);rw[HI.out] at f1;have f2:=qaa hb (CB.out 2 (.string c.fName) rfl);have f3:=qaa hb (CB.out 3 (.int .i64 c.fTo) rfl);have f4:=qaa hb (CB.out 4 (.string c.fClass.fName) rfl);have f5:=qaa hb (CB.out 5 (.string c.fClass.fSuper) rfl);have f6:=qaa hb (CB.out 6 (.slice ua un uc) rfl);have f7:=qaa hb (CB.out 7 (.slice ta tn tc) rfl);have hzz:=hb.size;rw[HZ4.out] at hzz;have hvc9:vc≤9223372036854775807:=(by unfold maxLen at hvm;omega);have hQ1':Q < w'.heap.size:=hQ2;have hcw:w.heap.size+1 < w'.heap.size:=(by omega);have hrw:w.heap.size+1+1 < w'.heap.size:=(by omega);have hcw2:w.heap.size+1 < w'.heap.size+1:=(by omega);have hcw3:w.heap.size+1 < w'.heap.size+1+1:=(by omega);rw[HKK.out] at f0;clear ht hb hQ2)
 refine nameW (P:=fun W=>Calls Tryz.prog 73 #[.slice oad on oc,.string c.fName,.slice (some ⟨w'.heap.size+1+1,0,none⟩) 1 1] W _) _ (fun wq hwq=>?_)
 have hBq:Below w'.heap.size w' wq:=by rw[hwq];exact bbel
 have hzq:wq.heap.size=w'.heap.size+1+1+1:=by rw[hwq];simp
 have x0:wq.cell? ⟨w'.heap.size,0,none⟩=some (.slice (some ⟨Q,0,none⟩) pn vc):=by rw[hwq];go_simp
 have y0:wq.cell? ⟨w'.heap.size+1,0,none⟩=some (.slice oad on oc):=by rw[hwq];go_simp
 have y1:wq.cell? ⟨w'.heap.size+1,1,none⟩=some (.slice aad an ac):=by rw[hwq];go_simp
 have yf:wq.frozen? ⟨w'.heap.size+1,0,none⟩=false:=by rw[hwq];go_simp
 have hN:wq.heap[w'.heap.size+1+1]? =some (.cells #[.string c.fClass.fName,.string c.fClass.fSuper,.slice ua un uc,.slice ta tn tc] 29 (0,0)):=by
  rw[hwq]
  have:=heap_alloc_new ((w'.alloc (.cells #[.slice (some ⟨Q,0,none⟩) pn vc] 25)).alloc (.cells #[.slice oad on oc,.slice aad an ac] 46)) (.cells #[.string c.fClass.fName,.string c.fClass.fSuper,.slice ua un uc,.slice ta tn tc] 29)
  rw[World.size_alloc,World.size_alloc] at this;exact this
 have hBw:Below w.heap.size w wq:=(HB0.out.trans (HBB.out.mono HB0.out.size)).trans (hBq.mono (by omega))
 clear hwq
 refine(S_l9Owns kx.fOwns [c.fClass] c.fName _ ⟨w'.heap.size+1+1,0,none⟩ 1 1 [[.string c.fClass.fName,.string c.fClass.fSuper,.slice ua un uc,.slice ta tn tc]] w wq hBw T1.out (src_row hN) (Rows.one rfl ⟨rfl,by intro u hu;simp at hu;rcases hu with rfl|rfl|rfl|rfl<;>rfl⟩) (Rows.one rfl ⟨_,_,rfl,HS1.out,HS2.out,b2,b3⟩) (by omega) (by simp)).mono ?_
 rintro _ w2 ⟨⟨v2,c2,rfl,ht2,hr2⟩,h2⟩
 obtain⟨ga,gn,gc,rfl⟩:=ht2.plain.sl.form3
 have hz2:=h2.size
 have k0:=qaa h2 x0
 have k1:=qaa h2 y0
 have k2:=qaa h2 y1
 have kf:=qap h2 (block_lt_of_cell y0) yf
 have hB2:Below w'.heap.size w' w2:=hBq.trans (h2.mono hBq.size)
 have e1:=qaa hB2 f1
 have HTW:=qhd ((show TOwnC 2 rCel 46 w.heap.size w.heap.size w' (.slice (some ⟨Q,0,none⟩) pn vc) css css from HT.out).belowB hB2)
 obtain⟨p0,z0,_⟩:=HTW.out.cellAt (j:=0) HCS.out rfl
 obtain⟨p1,z1,_⟩:=HTW.out.cellAt (j:=1) HCS.out rfl
 rw[Nat.add_zero] at p0 z0
 have hRB:w2.heap[w.heap.size+1+1]? =some (.cells #[.slice none 0 0] 25 (0,0)):=(hB2.block _ hrw).trans ((HBB.out.block _ (by rw[HZ4.out];omega)).trans RB.out)
 obtain⟨r0,rf0⟩:=cell_ofBlock (o:=0) (v:=.slice none 0 0) hRB rfl
 have HT2:=qhd ht2
 have HR2:=qhd hr2
 have HBW:=qhd (hBw.trans (h2.mono hBw.size))
 clear ht2 hr2 h2 x0 y0 y1 yf hB2 hBq hN hBw f0 f1 f2 f3 f4 f5 f6 f7 g0 g1
 have hKl:w'.heap.size+1 < w2.heap.size:=by omega
 have hQn:Q≠w'.heap.size+1:=by omega
 have hQx:Q≠w'.heap.size:=by omega
 have hQR:Q≠w.heap.size+1+1:=fun e=>by
  obtain⟨cur,h9⟩:=HTW.out.typeAt
  rw[e,hRB] at h9;cases h9
 have hKR:w'.heap.size+1≠w.heap.size+1+1:=by omega
 have hRQ:=hQR.symm
 have hRK:=hKR.symm
 clear hRB
 go_wp2
 refine bodyPost_ret (v:=?_) ?hrun rfl ?_
 case hrun=>(simp only[results,Tryz.results38];go_simp;first|done|exact rfl)
 have A1:=HTW.out.keptB (w':=w2.setCell ⟨w'.heap.size+1,0,none⟩ (.slice ga gn gc)) (fun b hb=>by cases hb;exact Below.heap_setCell _ _ _ _ hQn)
 have A2:=A1.setRow (i:=i) (vs:=[.slice ga gn gc,.slice aad an ac]) HCS.out rfl (by intro u hu;simp at hu;rcases hu with rfl|rfl<;>rfl)
 have A3:=A2.keptB (w':=((w2.setCell ⟨w'.heap.size+1,0,none⟩ (.slice ga gn gc)).setCells Q (i * 2) [.slice ga gn gc,.slice aad an ac]).setCell ⟨w.heap.size+1+1,0,none⟩ (.slice (some ⟨Q,0,none⟩) pn vc)) (fun b hb=>by cases hb;exact Below.heap_setCell _ _ _ _ hQR)
 have hB9:Below w.heap.size w (((w2.setCell ⟨w'.heap.size+1,0,none⟩ (.slice ga gn gc)).setCells Q (i * 2) [.slice ga gn gc,.slice aad an ac]).setCell ⟨w.heap.size+1+1,0,none⟩ (.slice (some ⟨Q,0,none⟩) pn vc)):=((HBW.out.setCell (by show w.heap.size≤w'.heap.size+1;omega) _).trans ((Turn.setCells Q _ _ _).below hQ1)).setCell (by show w.heap.size≤w.heap.size+1+1;omega) _
 refine HR.out _ _ ⟨⟨_,rfl,?_⟩,hB9⟩
 have B3:=HT2.out.keptB (w':=(((w2.setCell ⟨w'.heap.size+1,0,none⟩ (.slice ga gn gc)).setCells Q (i * 2) [.slice ga gn gc,.slice aad an ac]).setCell ⟨w.heap.size+1+1,0,none⟩ (.slice (some ⟨Q,0,none⟩) pn vc))) (fun b hb=>by
  have hbb:=HT2.out.own b hb
  exact(Below.heap_setCell _ _ _ _ (by show b≠w.heap.size+1+1;omega)).trans ((heap_setCells Q _ _ _ _ (by omega)).trans (Below.heap_setCell _ _ _ _ (by show b≠w'.heap.size+1;omega))))
 have hkk:=Keeps.of_below (lo:=0) hB9
 have SO:Sl 4 rClsClass 0 _ (.slice ga gn gc) (keepN (·.fName) c.fName kx.fOwns++[c.fClass]):=(((⟨B3.rows.mono fun _ _ h=>h,own_low B3.owns (Nat.zero_le _),B3.own⟩:TOwnC 4 rCel 29 0 _ _ _ _ _).toT (HR2.out.mono fun cs x h=>rClsClass_good.stays _ _ _ _ _ hkk h)).plain.sl).sl (R':=rClsClass) (fun cs x h=>h)
 have hnm:c.fClass.fName=c.fName:=by
  have h9:=HCH.out
  unfold chgOk at h9
  rw[HKK.out,if_pos (show((1:Int) == 1)=true from rfl)] at h9
  simp only[Bool.and_eq_true] at h9
  exact sameN_iff.1 h9.2.2
 rw[planMove_at HI.out HX.out,show turnK c kx=⟨keepN (·.fName) c.fName kx.fOwns++[c.fClass],kx.fAsks⟩ by simp[turnK,HKK.out,hnm]]
 exact(((⟨A3.rows.mono fun _ _ h=>h,own_low A3.owns (Nat.zero_le _),A3.own⟩:TOwnC 2 rCel 46 0 _ _ _ _ _).toT ((HRW.out.mono fun cs x h=>rLodKeeper_good.stays _ _ _ _ _ hkk h).set (row:=[.slice ga gn gc,.slice aad an ac]) (x:=⟨keepN (·.fName) c.fName kx.fOwns++[c.fClass],kx.fAsks⟩) rfl ⟨_,_,rfl,SO,T2.out.stays rLodAsk_good hkk⟩)).plain.sl).sl (R':=rLodKeeper) (fun cs x h=>h)

theorem S_l9Turn2 (p:DLodPlan) (c:DChgChange) (i:Nat) (kx:DLodKeeper) (pad:Addr) (pn pc:Nat) (ua:Option Addr) (un uc:Nat) (ta:Option Addr) (tn tc:Nat) (w:World) (s:Sl 2 rLodKeeper 0 w (.slice (some pad) pn pc) p.fKeepers) (s1:Sl 3 rClsField 0 w (.slice ua un uc) c.fClass.fFields) (s2:Sl 8 rClsMethod 0 w (.slice ta tn tc) c.fClass.fMethods)
  (b1:c.fName.size≤maxLen) (b2:c.fClass.fName.size≤maxLen) (b3:c.fClass.fSuper.size≤maxLen) (hi:c.fKeeper=(i:Int)) (hx:p.fKeepers[i]? =some kx) (hl:lodOk p=true) (hch:chgOk c=true) (hkk:c.fKind=2) :
  Calls Tryz.prog 38 #[.agg #[.slice (some pad) pn pc],.agg #[.int .i64 c.fKind,.int .i64 c.fKeeper,.string c.fName,.int .i64 c.fTo,.string c.fClass.fName,.string c.fClass.fSuper,.slice ua un uc,.slice ta tn tc]] w fun e w'=>(∃ v,e=.returned (.agg #[v])∧Sl 2 rLodKeeper 0 w' v (planMove p c).fKeepers)∧Below w.heap.size w w':=by
 obtain⟨few1,few2⟩:=lodOk_few hl (List.mem_of_getElem? hx)
 obtain⟨hpl,hpc,hp9⟩:=kpr_len s
 obtain⟨css,hsrc,hc,hr⟩:=s.cel rLodKeeper_one (by decide)
 have hcl:=hr.len
 have hks:=(lodOk_short hl).1
 have HSRC:=qhd hsrc
 have HC:=qhd hc
 have HRW:=qhd hr
 have HS1:=qhd s1
 have HS2:=qhd s2
 have HI:=qhd hi
 have HX:=qhd hx
 have HCH:=qhd hch
 have HPL:=qhd hpl
 have HCL:=qhd hcl
 have HKS:=qhd hks
 have hip2:True:=trivial
 have hip:i < pn:=by have:=(List.getElem?_eq_some_iff.1 hx).1;omega
 clear s hsrc hc hr s1 s2 hi hx hl hch hpl hcl hks
 have HKK:=qhd hkk
 clear hkk
 refine qac fun R HR=>?_
 go_enter Tryz.func38,Tryz.ntmps38
 have hB0:Below w.heap.size w ((((w.alloc (.cells #[.slice (some pad) pn pc] 25)).alloc (.cells #[.int .i64 c.fKind,.int .i64 c.fKeeper,.string c.fName,.int .i64 c.fTo,.string c.fClass.fName,.string c.fClass.fSuper,.slice ua un uc,.slice ta tn tc] 31)).alloc (.cells #[.slice none 0 0] 25)).alloc (.cells #[] 46)):=bbel
 have HB0:=qhd hB0
 clear hB0
 have hB3:Below w.heap.size w (((w.alloc (.cells #[.slice (some pad) pn pc] 25)).alloc (.cells #[.int .i64 c.fKind,.int .i64 c.fKeeper,.string c.fName,.int .i64 c.fTo,.string c.fClass.fName,.string c.fClass.fSuper,.slice ua un uc,.slice ta tn tc] 31)).alloc (.cells #[.slice none 0 0] 25)):=bbel
 have hE:=Empty0.new _ 46 hB3.size
 rw[show(((w.alloc (.cells #[.slice (some pad) pn pc] 25)).alloc (.cells #[.int .i64 c.fKind,.int .i64 c.fKeeper,.string c.fName,.int .i64 c.fTo,.string c.fClass.fName,.string c.fClass.fSuper,.slice ua un uc,.slice ta tn tc] 31)).alloc (.cells #[.slice none 0 0] 25)).heap.size=w.heap.size+1+1+1 by simp] at hE
 have HE:=qhd hE
 clear hB3 hE
 obtain⟨cs0,hcs0⟩:∃ cs,css[i]? =some cs:=⟨_,List.getElem?_eq_getElem (by rw[HCL.out,HPL.out];exact hip)⟩
 obtain⟨_,ov,av,rfl,t1,t2⟩:=HRW.out.row i kx cs0 HX.out hcs0
 obtain⟨oad,on,oc,rfl⟩:=t1.form
 obtain⟨aad,an,ac,rfl⟩:=t2.form
 have HCS:=qhd hcs0
 have T1:=qhd t1
 have T2:=qhd t2
 have hcn:=HCL.out.trans HPL.out
 have HCN:=qhd hcn
 have HZ4:Hid (((((w.alloc (.cells #[.slice (some pad) pn pc] 25)).alloc (.cells #[.int .i64 c.fKind,.int .i64 c.fKeeper,.string c.fName,.int .i64 c.fTo,.string c.fClass.fName,.string c.fClass.fSuper,.slice ua un uc,.slice ta tn tc] 31)).alloc (.cells #[.slice none 0 0] 25)).alloc (.cells #[] 46)).heap.size=w.heap.size+1+1+1+1):=qhd (by simp)
 have CB:Hid (∀ j u,(#[.int .i64 c.fKind,.int .i64 c.fKeeper,.string c.fName,.int .i64 c.fTo,.string c.fClass.fName,.string c.fClass.fSuper,.slice ua un uc,.slice ta tn tc]:Array Value)[j]? =some u→((((w.alloc (.cells #[.slice (some pad) pn pc] 25)).alloc (.cells #[.int .i64 c.fKind,.int .i64 c.fKeeper,.string c.fName,.int .i64 c.fTo,.string c.fClass.fName,.string c.fClass.fSuper,.slice ua un uc,.slice ta tn tc] 31)).alloc (.cells #[.slice none 0 0] 25)).alloc (.cells #[] 46)).cell? ⟨w.heap.size+1,j,none⟩=some u):=qhd fun j u hu=>by
  match j,hu with
  | 0,hu=>cases hu;go_simp
  | 1,hu=>cases hu;go_simp
  | 2,hu=>cases hu;go_simp
  | 3,hu=>cases hu;go_simp
  | 4,hu=>cases hu;go_simp
  | 5,hu=>cases hu;go_simp
  | 6,hu=>cases hu;go_simp
  | 7,hu=>cases hu;go_simp
  | j+8,hu=>simp at hu
 have RB:Hid (((((w.alloc (.cells #[.slice (some pad) pn pc] 25)).alloc (.cells #[.int .i64 c.fKind,.int .i64 c.fKeeper,.string c.fName,.int .i64 c.fTo,.string c.fClass.fName,.string c.fClass.fSuper,.slice ua un uc,.slice ta tn tc] 31)).alloc (.cells #[.slice none 0 0] 25)).alloc (.cells #[] 46)).heap[w.heap.size+1+1]? =some (.cells #[.slice none 0 0] 25 (0,0))):=qhd (by
  refine(Below.heap_alloc _ _ _ (by simp)).trans ?_
  have:=heap_alloc_new ((w.alloc (.cells #[.slice (some pad) pn pc] 25)).alloc (.cells #[.int .i64 c.fKind,.int .i64 c.fKeeper,.string c.fName,.int .i64 c.fTo,.string c.fClass.fName,.string c.fClass.fSuper,.slice ua un uc,.slice ta tn tc] 31)) (.cells #[.slice none 0 0] 25)
  rw[World.size_alloc,World.size_alloc] at this;exact this)
 clear hcs0 t1 t2 hcn
 go_wp2_with (at_builtin;refine qas (B:=w.heap.size) (lo:=w.heap.size) (R:=rCel) (E:=NoT) (ys:=css) (css:=css) (by rfl) (.tmp 7) (.tmp 9) 23 (by rfl) sty_Kpr rCel_goodT rCel_one (by rfl) (by rfl) HE.out (HSRC.out.kept HB0.out) (HC.out.mono fun _ _ h=>h) (by rw[HCL.out];have:=HKS.out;omega) (Nat.le_refl _) HB0.out.size ?_;intro v' w' ht hb;have HT:=qhd ht;have HBB:=qhd hb;obtain⟨Q,vc,hv,hQ1,hQ2,hvc,hvm,_⟩:=own_cell ht.owns (by rw[HCN.out];omega);rw[HCN.out] at hv hvc;subst hv;obtain⟨g0,_,_⟩:=(show TOwnC 2 rCel 46 w.heap.size w.heap.size w' (.slice (some ⟨Q,0,none⟩) pn vc) css css from ht).cellAt (j:=0) HCS.out rfl;obtain⟨g1,_,_⟩:=(show TOwnC 2 rCel 46 w.heap.size w.heap.size w' (.slice (some ⟨Q,0,none⟩) pn vc) css css from ht).cellAt (j:=1) HCS.out rfl;rw[Nat.add_zero] at g0;have f0:=qaa hb (CB.out 0 (.int .i64 c.fKind) rfl);have f1:=qaa hb (CB.out 1 (.int .i64 c.fKeeper) rfl);rw[HI.out] at f1;have f2:=qaa hb (CB.out 2 (.string c.fName) rfl);have f3:=qaa hb (CB.out 3 (.int .i64 c.fTo) rfl);have f4:=qaa hb (CB.out 4 (.string c.fClass.fName) rfl);have f5:=qaa hb (CB.out 5 (.string c.fClass.fSuper) rfl);have f6:=qaa hb (CB.out 6 (.slice ua un uc) rfl);have f7:=qaa hb (CB.out 7 (.slice ta tn tc) rfl);have hzz:=hb.size;rw[HZ4.out] at hzz;have hvc9:vc≤9223372036854775807:=(by unfold maxLen at hvm;omega);have hQ1':Q < w'.heap.size:=hQ2;have hcw:w.heap.size+1 < w'.heap.size:=(by omega);have hrw:w.heap.size+1+1 < w'.heap.size:=(by omega);have hcw2:w.heap.size+1 < w'.heap.size+1:=(by omega);have hcw3:w.heap.size+1 < w'.heap.size+1+1:=(by omega);rw[HKK.out] at f0;clear ht hb hQ2)
 refine nameW (P:=fun W=>Calls Tryz.prog 73 #[.slice oad on oc,.string c.fName,.slice (some ⟨w'.heap.size+1+1,0,none⟩) 0 0] W _) _ (fun wq hwq=>?_)
 have hBq:Below w'.heap.size w' wq:=by rw[hwq];exact bbel
 have hzq:wq.heap.size=w'.heap.size+1+1+1:=by rw[hwq];simp
 have x0:wq.cell? ⟨w'.heap.size,0,none⟩=some (.slice (some ⟨Q,0,none⟩) pn vc):=by rw[hwq];go_simp
 have y0:wq.cell? ⟨w'.heap.size+1,0,none⟩=some (.slice oad on oc):=by rw[hwq];go_simp
 have y1:wq.cell? ⟨w'.heap.size+1,1,none⟩=some (.slice aad an ac):=by rw[hwq];go_simp
 have yf:wq.frozen? ⟨w'.heap.size+1,0,none⟩=false:=by rw[hwq];go_simp
 have hN:wq.heap[w'.heap.size+1+1]? =some (.cells #[] 29 (0,0)):=by
  rw[hwq]
  have:=heap_alloc_new ((w'.alloc (.cells #[.slice (some ⟨Q,0,none⟩) pn vc] 25)).alloc (.cells #[.slice oad on oc,.slice aad an ac] 46)) (.cells #[] 29)
  rw[World.size_alloc,World.size_alloc] at this;exact this
 have hBw:Below w.heap.size w wq:=(HB0.out.trans (HBB.out.mono HB0.out.size)).trans (hBq.mono (by omega))
 clear hwq
 refine(S_l9Owns kx.fOwns [] c.fName _ ⟨w'.heap.size+1+1,0,none⟩ 0 0 [] w wq hBw T1.out (Or.inr ⟨_,_,rfl,fun j u h=>by simp at h⟩) Rows.nil Rows.nil (by omega) (by simp)).mono ?_
 rintro _ w2 ⟨⟨v2,c2,rfl,ht2,hr2⟩,h2⟩
 obtain⟨ga,gn,gc,rfl⟩:=ht2.plain.sl.form3
 have hz2:=h2.size
 have k0:=qaa h2 x0
 have k1:=qaa h2 y0
 have k2:=qaa h2 y1
 have kf:=qap h2 (block_lt_of_cell y0) yf
 have hB2:Below w'.heap.size w' w2:=hBq.trans (h2.mono hBq.size)
 have e1:=qaa hB2 f1
 have HTW:=qhd ((show TOwnC 2 rCel 46 w.heap.size w.heap.size w' (.slice (some ⟨Q,0,none⟩) pn vc) css css from HT.out).belowB hB2)
 obtain⟨p0,z0,_⟩:=HTW.out.cellAt (j:=0) HCS.out rfl
 obtain⟨p1,z1,_⟩:=HTW.out.cellAt (j:=1) HCS.out rfl
 rw[Nat.add_zero] at p0 z0
 have hRB:w2.heap[w.heap.size+1+1]? =some (.cells #[.slice none 0 0] 25 (0,0)):=(hB2.block _ hrw).trans ((HBB.out.block _ (by rw[HZ4.out];omega)).trans RB.out)
 obtain⟨r0,rf0⟩:=cell_ofBlock (o:=0) (v:=.slice none 0 0) hRB rfl
 have HT2:=qhd ht2
 have HR2:=qhd hr2
 have HBW:=qhd (hBw.trans (h2.mono hBw.size))
 clear ht2 hr2 h2 x0 y0 y1 yf hB2 hBq hN hBw f0 f1 f2 f3 f4 f5 f6 f7 g0 g1
 have hKl:w'.heap.size+1 < w2.heap.size:=by omega
 have hQn:Q≠w'.heap.size+1:=by omega
 have hQx:Q≠w'.heap.size:=by omega
 have hQR:Q≠w.heap.size+1+1:=fun e=>by
  obtain⟨cur,h9⟩:=HTW.out.typeAt
  rw[e,hRB] at h9;cases h9
 have hKR:w'.heap.size+1≠w.heap.size+1+1:=by omega
 have hRQ:=hQR.symm
 have hRK:=hKR.symm
 clear hRB
 go_wp2
 refine bodyPost_ret (v:=?_) ?hrun rfl ?_
 case hrun=>(simp only[results,Tryz.results38];go_simp;first|done|exact rfl)
 have A1:=HTW.out.keptB (w':=w2.setCell ⟨w'.heap.size+1,0,none⟩ (.slice ga gn gc)) (fun b hb=>by cases hb;exact Below.heap_setCell _ _ _ _ hQn)
 have A2:=A1.setRow (i:=i) (vs:=[.slice ga gn gc,.slice aad an ac]) HCS.out rfl (by intro u hu;simp at hu;rcases hu with rfl|rfl<;>rfl)
 have A3:=A2.keptB (w':=((w2.setCell ⟨w'.heap.size+1,0,none⟩ (.slice ga gn gc)).setCells Q (i * 2) [.slice ga gn gc,.slice aad an ac]).setCell ⟨w.heap.size+1+1,0,none⟩ (.slice (some ⟨Q,0,none⟩) pn vc)) (fun b hb=>by cases hb;exact Below.heap_setCell _ _ _ _ hQR)
 have hB9:Below w.heap.size w (((w2.setCell ⟨w'.heap.size+1,0,none⟩ (.slice ga gn gc)).setCells Q (i * 2) [.slice ga gn gc,.slice aad an ac]).setCell ⟨w.heap.size+1+1,0,none⟩ (.slice (some ⟨Q,0,none⟩) pn vc)):=((HBW.out.setCell (by show w.heap.size≤w'.heap.size+1;omega) _).trans ((Turn.setCells Q _ _ _).below hQ1)).setCell (by show w.heap.size≤w.heap.size+1+1;omega) _
 refine HR.out _ _ ⟨⟨_,rfl,?_⟩,hB9⟩
 have B3:=HT2.out.keptB (w':=(((w2.setCell ⟨w'.heap.size+1,0,none⟩ (.slice ga gn gc)).setCells Q (i * 2) [.slice ga gn gc,.slice aad an ac]).setCell ⟨w.heap.size+1+1,0,none⟩ (.slice (some ⟨Q,0,none⟩) pn vc))) (fun b hb=>by
  have hbb:=HT2.out.own b hb
  exact(Below.heap_setCell _ _ _ _ (by show b≠w.heap.size+1+1;omega)).trans ((heap_setCells Q _ _ _ _ (by omega)).trans (Below.heap_setCell _ _ _ _ (by show b≠w'.heap.size+1;omega))))
 have hkk:=Keeps.of_below (lo:=0) hB9
 rw[List.append_nil] at HR2
 have SO:Sl 4 rClsClass 0 _ (.slice ga gn gc) (keepN (·.fName) c.fName kx.fOwns):=(((⟨B3.rows.mono fun _ _ h=>h,own_low B3.owns (Nat.zero_le _),B3.own⟩:TOwnC 4 rCel 29 0 _ _ _ _ _).toT (HR2.out.mono fun cs x h=>rClsClass_good.stays _ _ _ _ _ hkk h)).plain.sl).sl (R':=rClsClass) (fun cs x h=>h)
 rw[planMove_at HI.out HX.out,show turnK c kx=⟨keepN (·.fName) c.fName kx.fOwns,kx.fAsks⟩ by simp[turnK,HKK.out]]
 exact(((⟨A3.rows.mono fun _ _ h=>h,own_low A3.owns (Nat.zero_le _),A3.own⟩:TOwnC 2 rCel 46 0 _ _ _ _ _).toT ((HRW.out.mono fun cs x h=>rLodKeeper_good.stays _ _ _ _ _ hkk h).set (row:=[.slice ga gn gc,.slice aad an ac]) (x:=⟨keepN (·.fName) c.fName kx.fOwns,kx.fAsks⟩) rfl ⟨_,_,rfl,SO,T2.out.stays rLodAsk_good hkk⟩)).plain.sl).sl (R':=rLodKeeper) (fun cs x h=>h)

theorem S_l9Turn4 (p:DLodPlan) (c:DChgChange) (i:Nat) (kx:DLodKeeper) (pad:Addr) (pn pc:Nat) (ua:Option Addr) (un uc:Nat) (ta:Option Addr) (tn tc:Nat) (w:World) (s:Sl 2 rLodKeeper 0 w (.slice (some pad) pn pc) p.fKeepers) (s1:Sl 3 rClsField 0 w (.slice ua un uc) c.fClass.fFields) (s2:Sl 8 rClsMethod 0 w (.slice ta tn tc) c.fClass.fMethods)
  (b1:c.fName.size≤maxLen) (b2:c.fClass.fName.size≤maxLen) (b3:c.fClass.fSuper.size≤maxLen) (hi:c.fKeeper=(i:Int)) (hx:p.fKeepers[i]? =some kx) (hl:lodOk p=true) (hch:chgOk c=true) (hkk:c.fKind=4) :
  Calls Tryz.prog 38 #[.agg #[.slice (some pad) pn pc],.agg #[.int .i64 c.fKind,.int .i64 c.fKeeper,.string c.fName,.int .i64 c.fTo,.string c.fClass.fName,.string c.fClass.fSuper,.slice ua un uc,.slice ta tn tc]] w fun e w'=>(∃ v,e=.returned (.agg #[v])∧Sl 2 rLodKeeper 0 w' v (planMove p c).fKeepers)∧Below w.heap.size w w':=by
 obtain⟨few1,few2⟩:=lodOk_few hl (List.mem_of_getElem? hx)
 obtain⟨hpl,hpc,hp9⟩:=kpr_len s
 obtain⟨css,hsrc,hc,hr⟩:=s.cel rLodKeeper_one (by decide)
 have hcl:=hr.len
 have hks:=(lodOk_short hl).1
 have HSRC:=qhd hsrc
 have HC:=qhd hc
 have HRW:=qhd hr
 have HS1:=qhd s1
 have HS2:=qhd s2
 have HI:=qhd hi
 have HX:=qhd hx
 have HCH:=qhd hch
 have HPL:=qhd hpl
 have HCL:=qhd hcl
 have HKS:=qhd hks
 have hip2:True:=trivial
 have hip:i < pn:=by have:=(List.getElem?_eq_some_iff.1 hx).1;omega
 clear s hsrc hc hr s1 s2 hi hx hl hch hpl hcl hks
 have HKK:=qhd hkk
 clear hkk
 refine qac fun R HR=>?_
 go_enter Tryz.func38,Tryz.ntmps38
 have hB0:Below w.heap.size w ((((w.alloc (.cells #[.slice (some pad) pn pc] 25)).alloc (.cells #[.int .i64 c.fKind,.int .i64 c.fKeeper,.string c.fName,.int .i64 c.fTo,.string c.fClass.fName,.string c.fClass.fSuper,.slice ua un uc,.slice ta tn tc] 31)).alloc (.cells #[.slice none 0 0] 25)).alloc (.cells #[] 46)):=bbel
 have HB0:=qhd hB0
 clear hB0
 have hB3:Below w.heap.size w (((w.alloc (.cells #[.slice (some pad) pn pc] 25)).alloc (.cells #[.int .i64 c.fKind,.int .i64 c.fKeeper,.string c.fName,.int .i64 c.fTo,.string c.fClass.fName,.string c.fClass.fSuper,.slice ua un uc,.slice ta tn tc] 31)).alloc (.cells #[.slice none 0 0] 25)):=bbel
 have hE:=Empty0.new _ 46 hB3.size
 rw[show(((w.alloc (.cells #[.slice (some pad) pn pc] 25)).alloc (.cells #[.int .i64 c.fKind,.int .i64 c.fKeeper,.string c.fName,.int .i64 c.fTo,.string c.fClass.fName,.string c.fClass.fSuper,.slice ua un uc,.slice ta tn tc] 31)).alloc (.cells #[.slice none 0 0] 25)).heap.size=w.heap.size+1+1+1 by simp] at hE
 have HE:=qhd hE
 clear hB3 hE
 obtain⟨cs0,hcs0⟩:∃ cs,css[i]? =some cs:=⟨_,List.getElem?_eq_getElem (by rw[HCL.out,HPL.out];exact hip)⟩
 obtain⟨_,ov,av,rfl,t1,t2⟩:=HRW.out.row i kx cs0 HX.out hcs0
 obtain⟨oad,on,oc,rfl⟩:=t1.form
 obtain⟨aad,an,ac,rfl⟩:=t2.form
 have HCS:=qhd hcs0
 have T1:=qhd t1
 have T2:=qhd t2
 have hcn:=HCL.out.trans HPL.out
 have HCN:=qhd hcn
 have HZ4:Hid (((((w.alloc (.cells #[.slice (some pad) pn pc] 25)).alloc (.cells #[.int .i64 c.fKind,.int .i64 c.fKeeper,.string c.fName,.int .i64 c.fTo,.string c.fClass.fName,.string c.fClass.fSuper,.slice ua un uc,.slice ta tn tc] 31)).alloc (.cells #[.slice none 0 0] 25)).alloc (.cells #[] 46)).heap.size=w.heap.size+1+1+1+1):=qhd (by simp)
 have CB:Hid (∀ j u,(#[.int .i64 c.fKind,.int .i64 c.fKeeper,.string c.fName,.int .i64 c.fTo,.string c.fClass.fName,.string c.fClass.fSuper,.slice ua un uc,.slice ta tn tc]:Array Value)[j]? =some u→((((w.alloc (.cells #[.slice (some pad) pn pc] 25)).alloc (.cells #[.int .i64 c.fKind,.int .i64 c.fKeeper,.string c.fName,.int .i64 c.fTo,.string c.fClass.fName,.string c.fClass.fSuper,.slice ua un uc,.slice ta tn tc] 31)).alloc (.cells #[.slice none 0 0] 25)).alloc (.cells #[] 46)).cell? ⟨w.heap.size+1,j,none⟩=some u):=qhd fun j u hu=>by
  match j,hu with
  | 0,hu=>cases hu;go_simp
  | 1,hu=>cases hu;go_simp
  | 2,hu=>cases hu;go_simp
  | 3,hu=>cases hu;go_simp
  | 4,hu=>cases hu;go_simp
  | 5,hu=>cases hu;go_simp
  | 6,hu=>cases hu;go_simp
  | 7,hu=>cases hu;go_simp
  | j+8,hu=>simp at hu
 have RB:Hid (((((w.alloc (.cells #[.slice (some pad) pn pc] 25)).alloc (.cells #[.int .i64 c.fKind,.int .i64 c.fKeeper,.string c.fName,.int .i64 c.fTo,.string c.fClass.fName,.string c.fClass.fSuper,.slice ua un uc,.slice ta tn tc] 31)).alloc (.cells #[.slice none 0 0] 25)).alloc (.cells #[] 46)).heap[w.heap.size+1+1]? =some (.cells #[.slice none 0 0] 25 (0,0))):=qhd (by
  refine(Below.heap_alloc _ _ _ (by simp)).trans ?_
  have:=heap_alloc_new ((w.alloc (.cells #[.slice (some pad) pn pc] 25)).alloc (.cells #[.int .i64 c.fKind,.int .i64 c.fKeeper,.string c.fName,.int .i64 c.fTo,.string c.fClass.fName,.string c.fClass.fSuper,.slice ua un uc,.slice ta tn tc] 31)) (.cells #[.slice none 0 0] 25)
  rw[World.size_alloc,World.size_alloc] at this;exact this)
 clear hcs0 t1 t2 hcn
 go_wp2_with (at_builtin;refine qas (B:=w.heap.size) (lo:=w.heap.size) (R:=rCel) (E:=NoT) (ys:=css) (css:=css) (by rfl) (.tmp 7) (.tmp 9) 23 (by rfl) sty_Kpr rCel_goodT rCel_one (by rfl) (by rfl) HE.out (HSRC.out.kept HB0.out) (HC.out.mono fun _ _ h=>h) (by rw[HCL.out];have:=HKS.out;omega) (Nat.le_refl _) HB0.out.size ?_;intro v' w' ht hb;have HT:=qhd ht;have HBB:=qhd hb;obtain⟨Q,vc,hv,hQ1,hQ2,hvc,hvm,_⟩:=own_cell ht.owns (by rw[HCN.out];omega);rw[HCN.out] at hv hvc;subst hv;obtain⟨g0,_,_⟩:=(show TOwnC 2 rCel 46 w.heap.size w.heap.size w' (.slice (some ⟨Q,0,none⟩) pn vc) css css from ht).cellAt (j:=0) HCS.out rfl;obtain⟨g1,_,_⟩:=(show TOwnC 2 rCel 46 w.heap.size w.heap.size w' (.slice (some ⟨Q,0,none⟩) pn vc) css css from ht).cellAt (j:=1) HCS.out rfl;rw[Nat.add_zero] at g0;have f0:=qaa hb (CB.out 0 (.int .i64 c.fKind) rfl);have f1:=qaa hb (CB.out 1 (.int .i64 c.fKeeper) rfl);rw[HI.out] at f1;have f2:=qaa hb (CB.out 2 (.string c.fName) rfl);have f3:=qaa hb (CB.out 3 (.int .i64 c.fTo) rfl);have f4:=qaa hb (CB.out 4 (.string c.fClass.fName) rfl);have f5:=qaa hb (CB.out 5 (.string c.fClass.fSuper) rfl);have f6:=qaa hb (CB.out 6 (.slice ua un uc) rfl);have f7:=qaa hb (CB.out 7 (.slice ta tn tc) rfl);have hzz:=hb.size;rw[HZ4.out] at hzz;have hvc9:vc≤9223372036854775807:=(by unfold maxLen at hvm;omega);have hQ1':Q < w'.heap.size:=hQ2;have hcw:w.heap.size+1 < w'.heap.size:=(by omega);have hrw:w.heap.size+1+1 < w'.heap.size:=(by omega);have hcw2:w.heap.size+1 < w'.heap.size+1:=(by omega);have hcw3:w.heap.size+1 < w'.heap.size+1+1:=(by omega);rw[HKK.out] at f0;clear ht hb hQ2)
 refine nameW (P:=fun W=>Calls Tryz.prog 74 #[.slice aad an ac,.string c.fName,.slice (some ⟨w'.heap.size+1+1,0,none⟩) 0 0] W _) _ (fun wq hwq=>?_)
 have hBq:Below w'.heap.size w' wq:=by rw[hwq];exact bbel
 have hzq:wq.heap.size=w'.heap.size+1+1+1:=by rw[hwq];simp
 have x0:wq.cell? ⟨w'.heap.size,0,none⟩=some (.slice (some ⟨Q,0,none⟩) pn vc):=by rw[hwq];go_simp
 have y0:wq.cell? ⟨w'.heap.size+1,0,none⟩=some (.slice oad on oc):=by rw[hwq];go_simp
 have y1:wq.cell? ⟨w'.heap.size+1,1,none⟩=some (.slice aad an ac):=by rw[hwq];go_simp
 have yf:wq.frozen? ⟨w'.heap.size+1,1,none⟩=false:=by rw[hwq];go_simp
 have hN:wq.heap[w'.heap.size+1+1]? =some (.cells #[] 48 (0,0)):=by
  rw[hwq]
  have:=heap_alloc_new ((w'.alloc (.cells #[.slice (some ⟨Q,0,none⟩) pn vc] 25)).alloc (.cells #[.slice oad on oc,.slice aad an ac] 46)) (.cells #[] 48)
  rw[World.size_alloc,World.size_alloc] at this;exact this
 have hBw:Below w.heap.size w wq:=(HB0.out.trans (HBB.out.mono HB0.out.size)).trans (hBq.mono (by omega))
 clear hwq
 refine(S_l9Asks kx.fAsks [] c.fName _ ⟨w'.heap.size+1+1,0,none⟩ 0 0 [] w wq hBw T2.out (Or.inr ⟨_,_,rfl,fun j u h=>by simp at h⟩) Rows.nil Rows.nil (by omega) (by simp)).mono ?_
 rintro _ w2 ⟨⟨v2,c2,rfl,ht2,hr2⟩,h2⟩
 obtain⟨ga,gn,gc,rfl⟩:=ht2.plain.sl.form3
 have hz2:=h2.size
 have k0:=qaa h2 x0
 have k1:=qaa h2 y0
 have k2:=qaa h2 y1
 have kf:=qap h2 (block_lt_of_cell y1) yf
 have hB2:Below w'.heap.size w' w2:=hBq.trans (h2.mono hBq.size)
 have e1:=qaa hB2 f1
 have HTW:=qhd ((show TOwnC 2 rCel 46 w.heap.size w.heap.size w' (.slice (some ⟨Q,0,none⟩) pn vc) css css from HT.out).belowB hB2)
 obtain⟨p0,z0,_⟩:=HTW.out.cellAt (j:=0) HCS.out rfl
 obtain⟨p1,z1,_⟩:=HTW.out.cellAt (j:=1) HCS.out rfl
 rw[Nat.add_zero] at p0 z0
 have hRB:w2.heap[w.heap.size+1+1]? =some (.cells #[.slice none 0 0] 25 (0,0)):=(hB2.block _ hrw).trans ((HBB.out.block _ (by rw[HZ4.out];omega)).trans RB.out)
 obtain⟨r0,rf0⟩:=cell_ofBlock (o:=0) (v:=.slice none 0 0) hRB rfl
 have HT2:=qhd ht2
 have HR2:=qhd hr2
 have HBW:=qhd (hBw.trans (h2.mono hBw.size))
 clear ht2 hr2 h2 x0 y0 y1 yf hB2 hBq hN hBw f0 f1 f2 f3 f4 f5 f6 f7 g0 g1
 have hKl:w'.heap.size+1 < w2.heap.size:=by omega
 have hQn:Q≠w'.heap.size+1:=by omega
 have hQx:Q≠w'.heap.size:=by omega
 have hQR:Q≠w.heap.size+1+1:=fun e=>by
  obtain⟨cur,h9⟩:=HTW.out.typeAt
  rw[e,hRB] at h9;cases h9
 have hKR:w'.heap.size+1≠w.heap.size+1+1:=by omega
 have hRQ:=hQR.symm
 have hRK:=hKR.symm
 clear hRB
 go_wp2
 refine bodyPost_ret (v:=?_) ?hrun rfl ?_
 case hrun=>(simp only[results,Tryz.results38];go_simp;first|done|exact rfl)
 have A1:=HTW.out.keptB (w':=w2.setCell ⟨w'.heap.size+1,1,none⟩ (.slice ga gn gc)) (fun b hb=>by cases hb;exact Below.heap_setCell _ _ _ _ hQn)
 have A2:=A1.setRow (i:=i) (vs:=[.slice oad on oc,.slice ga gn gc]) HCS.out rfl (by intro u hu;simp at hu;rcases hu with rfl|rfl<;>rfl)
 have A3:=A2.keptB (w':=((w2.setCell ⟨w'.heap.size+1,1,none⟩ (.slice ga gn gc)).setCells Q (i * 2) [.slice oad on oc,.slice ga gn gc]).setCell ⟨w.heap.size+1+1,0,none⟩ (.slice (some ⟨Q,0,none⟩) pn vc)) (fun b hb=>by cases hb;exact Below.heap_setCell _ _ _ _ hQR)
 have hB9:Below w.heap.size w (((w2.setCell ⟨w'.heap.size+1,1,none⟩ (.slice ga gn gc)).setCells Q (i * 2) [.slice oad on oc,.slice ga gn gc]).setCell ⟨w.heap.size+1+1,0,none⟩ (.slice (some ⟨Q,0,none⟩) pn vc)):=((HBW.out.setCell (by show w.heap.size≤w'.heap.size+1;omega) _).trans ((Turn.setCells Q _ _ _).below hQ1)).setCell (by show w.heap.size≤w.heap.size+1+1;omega) _
 refine HR.out _ _ ⟨⟨_,rfl,?_⟩,hB9⟩
 have B3:=HT2.out.keptB (w':=(((w2.setCell ⟨w'.heap.size+1,1,none⟩ (.slice ga gn gc)).setCells Q (i * 2) [.slice oad on oc,.slice ga gn gc]).setCell ⟨w.heap.size+1+1,0,none⟩ (.slice (some ⟨Q,0,none⟩) pn vc))) (fun b hb=>by
  have hbb:=HT2.out.own b hb
  exact(Below.heap_setCell _ _ _ _ (by show b≠w.heap.size+1+1;omega)).trans ((heap_setCells Q _ _ _ _ (by omega)).trans (Below.heap_setCell _ _ _ _ (by show b≠w'.heap.size+1;omega))))
 have hkk:=Keeps.of_below (lo:=0) hB9
 rw[List.append_nil] at HR2
 have SO:Sl 2 rLodAsk 0 _ (.slice ga gn gc) (keepN (·.fName) c.fName kx.fAsks):=(((⟨B3.rows.mono fun _ _ h=>h,own_low B3.owns (Nat.zero_le _),B3.own⟩:TOwnC 2 rCel 48 0 _ _ _ _ _).toT (HR2.out.mono fun cs x h=>rLodAsk_good.stays _ _ _ _ _ hkk h)).plain.sl).sl (R':=rLodAsk) (fun cs x h=>h)
 rw[planMove_at HI.out HX.out,show turnK c kx=⟨kx.fOwns,keepN (·.fName) c.fName kx.fAsks⟩ by simp[turnK,HKK.out]]
 exact(((⟨A3.rows.mono fun _ _ h=>h,own_low A3.owns (Nat.zero_le _),A3.own⟩:TOwnC 2 rCel 46 0 _ _ _ _ _).toT ((HRW.out.mono fun cs x h=>rLodKeeper_good.stays _ _ _ _ _ hkk h).set (row:=[.slice oad on oc,.slice ga gn gc]) (x:=⟨kx.fOwns,keepN (·.fName) c.fName kx.fAsks⟩) rfl ⟨_,_,rfl,T1.out.stays rClsClass_good hkk,SO⟩)).plain.sl).sl (R':=rLodKeeper) (fun cs x h=>h)

theorem S_l9Turn3 (p:DLodPlan) (c:DChgChange) (i:Nat) (kx:DLodKeeper) (pad:Addr) (pn pc:Nat) (ua:Option Addr) (un uc:Nat) (ta:Option Addr) (tn tc:Nat) (w:World) (s:Sl 2 rLodKeeper 0 w (.slice (some pad) pn pc) p.fKeepers) (s1:Sl 3 rClsField 0 w (.slice ua un uc) c.fClass.fFields) (s2:Sl 8 rClsMethod 0 w (.slice ta tn tc) c.fClass.fMethods)
  (b1:c.fName.size≤maxLen) (b2:c.fClass.fName.size≤maxLen) (b3:c.fClass.fSuper.size≤maxLen) (hi:c.fKeeper=(i:Int)) (hx:p.fKeepers[i]? =some kx) (hl:lodOk p=true) (hch:chgOk c=true) (hkk:c.fKind=3) :
  Calls Tryz.prog 38 #[.agg #[.slice (some pad) pn pc],.agg #[.int .i64 c.fKind,.int .i64 c.fKeeper,.string c.fName,.int .i64 c.fTo,.string c.fClass.fName,.string c.fClass.fSuper,.slice ua un uc,.slice ta tn tc]] w fun e w'=>(∃ v,e=.returned (.agg #[v])∧Sl 2 rLodKeeper 0 w' v (planMove p c).fKeepers)∧Below w.heap.size w w':=by
 obtain⟨few1,few2⟩:=lodOk_few hl (List.mem_of_getElem? hx)
 obtain⟨hpl,hpc,hp9⟩:=kpr_len s
 obtain⟨css,hsrc,hc,hr⟩:=s.cel rLodKeeper_one (by decide)
 have hcl:=hr.len
 have hks:=(lodOk_short hl).1
 have HSRC:=qhd hsrc
 have HC:=qhd hc
 have HRW:=qhd hr
 have HS1:=qhd s1
 have HS2:=qhd s2
 have HI:=qhd hi
 have HX:=qhd hx
 have HCH:=qhd hch
 have HPL:=qhd hpl
 have HCL:=qhd hcl
 have HKS:=qhd hks
 have hip2:True:=trivial
 have hip:i < pn:=by have:=(List.getElem?_eq_some_iff.1 hx).1;omega
 clear s hsrc hc hr s1 s2 hi hx hl hch hpl hcl hks
 have HKK:=qhd hkk
 clear hkk
 refine qac fun R HR=>?_
 go_enter Tryz.func38,Tryz.ntmps38
 have hB0:Below w.heap.size w ((((w.alloc (.cells #[.slice (some pad) pn pc] 25)).alloc (.cells #[.int .i64 c.fKind,.int .i64 c.fKeeper,.string c.fName,.int .i64 c.fTo,.string c.fClass.fName,.string c.fClass.fSuper,.slice ua un uc,.slice ta tn tc] 31)).alloc (.cells #[.slice none 0 0] 25)).alloc (.cells #[] 46)):=bbel
 have HB0:=qhd hB0
 clear hB0
 have hB3:Below w.heap.size w (((w.alloc (.cells #[.slice (some pad) pn pc] 25)).alloc (.cells #[.int .i64 c.fKind,.int .i64 c.fKeeper,.string c.fName,.int .i64 c.fTo,.string c.fClass.fName,.string c.fClass.fSuper,.slice ua un uc,.slice ta tn tc] 31)).alloc (.cells #[.slice none 0 0] 25)):=bbel
 have hE:=Empty0.new _ 46 hB3.size
 rw[show(((w.alloc (.cells #[.slice (some pad) pn pc] 25)).alloc (.cells #[.int .i64 c.fKind,.int .i64 c.fKeeper,.string c.fName,.int .i64 c.fTo,.string c.fClass.fName,.string c.fClass.fSuper,.slice ua un uc,.slice ta tn tc] 31)).alloc (.cells #[.slice none 0 0] 25)).heap.size=w.heap.size+1+1+1 by simp] at hE
 have HE:=qhd hE
 clear hB3 hE
 obtain⟨cs0,hcs0⟩:∃ cs,css[i]? =some cs:=⟨_,List.getElem?_eq_getElem (by rw[HCL.out,HPL.out];exact hip)⟩
 obtain⟨_,ov,av,rfl,t1,t2⟩:=HRW.out.row i kx cs0 HX.out hcs0
 obtain⟨oad,on,oc,rfl⟩:=t1.form
 obtain⟨aad,an,ac,rfl⟩:=t2.form
 have HCS:=qhd hcs0
 have T1:=qhd t1
 have T2:=qhd t2
 have hcn:=HCL.out.trans HPL.out
 have HCN:=qhd hcn
 have HZ4:Hid (((((w.alloc (.cells #[.slice (some pad) pn pc] 25)).alloc (.cells #[.int .i64 c.fKind,.int .i64 c.fKeeper,.string c.fName,.int .i64 c.fTo,.string c.fClass.fName,.string c.fClass.fSuper,.slice ua un uc,.slice ta tn tc] 31)).alloc (.cells #[.slice none 0 0] 25)).alloc (.cells #[] 46)).heap.size=w.heap.size+1+1+1+1):=qhd (by simp)
 have CB:Hid (∀ j u,(#[.int .i64 c.fKind,.int .i64 c.fKeeper,.string c.fName,.int .i64 c.fTo,.string c.fClass.fName,.string c.fClass.fSuper,.slice ua un uc,.slice ta tn tc]:Array Value)[j]? =some u→((((w.alloc (.cells #[.slice (some pad) pn pc] 25)).alloc (.cells #[.int .i64 c.fKind,.int .i64 c.fKeeper,.string c.fName,.int .i64 c.fTo,.string c.fClass.fName,.string c.fClass.fSuper,.slice ua un uc,.slice ta tn tc] 31)).alloc (.cells #[.slice none 0 0] 25)).alloc (.cells #[] 46)).cell? ⟨w.heap.size+1,j,none⟩=some u):=qhd fun j u hu=>by
  match j,hu with
  | 0,hu=>cases hu;go_simp
  | 1,hu=>cases hu;go_simp
  | 2,hu=>cases hu;go_simp
  | 3,hu=>cases hu;go_simp
  | 4,hu=>cases hu;go_simp
  | 5,hu=>cases hu;go_simp
  | 6,hu=>cases hu;go_simp
  | 7,hu=>cases hu;go_simp
  | j+8,hu=>simp at hu
 have RB:Hid (((((w.alloc (.cells #[.slice (some pad) pn pc] 25)).alloc (.cells #[.int .i64 c.fKind,.int .i64 c.fKeeper,.string c.fName,.int .i64 c.fTo,.string c.fClass.fName,.string c.fClass.fSuper,.slice ua un uc,.slice ta tn tc] 31)).alloc (.cells #[.slice none 0 0] 25)).alloc (.cells #[] 46)).heap[w.heap.size+1+1]? =some (.cells #[.slice none 0 0] 25 (0,0))):=qhd (by
  refine(Below.heap_alloc _ _ _ (by simp)).trans ?_
  have:=heap_alloc_new ((w.alloc (.cells #[.slice (some pad) pn pc] 25)).alloc (.cells #[.int .i64 c.fKind,.int .i64 c.fKeeper,.string c.fName,.int .i64 c.fTo,.string c.fClass.fName,.string c.fClass.fSuper,.slice ua un uc,.slice ta tn tc] 31)) (.cells #[.slice none 0 0] 25)
  rw[World.size_alloc,World.size_alloc] at this;exact this)
 clear hcs0 t1 t2 hcn
 go_wp2_with (at_builtin;refine qas (B:=w.heap.size) (lo:=w.heap.size) (R:=rCel) (E:=NoT) (ys:=css) (css:=css) (by rfl) (.tmp 7) (.tmp 9) 23 (by rfl) sty_Kpr rCel_goodT rCel_one (by rfl) (by rfl) HE.out (HSRC.out.kept HB0.out) (HC.out.mono fun _ _ h=>h) (by rw[HCL.out];have:=HKS.out;omega) (Nat.le_refl _) HB0.out.size ?_;intro v' w' ht hb;have HT:=qhd ht;have HBB:=qhd hb;obtain⟨Q,vc,hv,hQ1,hQ2,hvc,hvm,_⟩:=own_cell ht.owns (by rw[HCN.out];omega);rw[HCN.out] at hv hvc;subst hv;obtain⟨g0,_,_⟩:=(show TOwnC 2 rCel 46 w.heap.size w.heap.size w' (.slice (some ⟨Q,0,none⟩) pn vc) css css from ht).cellAt (j:=0) HCS.out rfl;obtain⟨g1,_,_⟩:=(show TOwnC 2 rCel 46 w.heap.size w.heap.size w' (.slice (some ⟨Q,0,none⟩) pn vc) css css from ht).cellAt (j:=1) HCS.out rfl;rw[Nat.add_zero] at g0;have f0:=qaa hb (CB.out 0 (.int .i64 c.fKind) rfl);have f1:=qaa hb (CB.out 1 (.int .i64 c.fKeeper) rfl);rw[HI.out] at f1;have f2:=qaa hb (CB.out 2 (.string c.fName) rfl);have f3:=qaa hb (CB.out 3 (.int .i64 c.fTo) rfl);have f4:=qaa hb (CB.out 4 (.string c.fClass.fName) rfl);have f5:=qaa hb (CB.out 5 (.string c.fClass.fSuper) rfl);have f6:=qaa hb (CB.out 6 (.slice ua un uc) rfl);have f7:=qaa hb (CB.out 7 (.slice ta tn tc) rfl);have hzz:=hb.size;rw[HZ4.out] at hzz;have hvc9:vc≤9223372036854775807:=(by unfold maxLen at hvm;omega);have hQ1':Q < w'.heap.size:=hQ2;have hcw:w.heap.size+1 < w'.heap.size:=(by omega);have hrw:w.heap.size+1+1 < w'.heap.size:=(by omega);have hcw2:w.heap.size+1 < w'.heap.size+1:=(by omega);have hcw3:w.heap.size+1 < w'.heap.size+1+1:=(by omega);rw[HKK.out] at f0;clear ht hb hQ2)
 refine nameW (P:=fun W=>Calls Tryz.prog 74 #[.slice aad an ac,.string c.fName,.slice (some ⟨w'.heap.size+1+1,0,none⟩) 1 1] W _) _ (fun wq hwq=>?_)
 have hBq:Below w'.heap.size w' wq:=by rw[hwq];exact bbel
 have hzq:wq.heap.size=w'.heap.size+1+1+1:=by rw[hwq];simp
 have x0:wq.cell? ⟨w'.heap.size,0,none⟩=some (.slice (some ⟨Q,0,none⟩) pn vc):=by rw[hwq];go_simp
 have y0:wq.cell? ⟨w'.heap.size+1,0,none⟩=some (.slice oad on oc):=by rw[hwq];go_simp
 have y1:wq.cell? ⟨w'.heap.size+1,1,none⟩=some (.slice aad an ac):=by rw[hwq];go_simp
 have yf:wq.frozen? ⟨w'.heap.size+1,1,none⟩=false:=by rw[hwq];go_simp
 have hN:wq.heap[w'.heap.size+1+1]? =some (.cells #[.string c.fName,.int .i64 c.fTo] 48 (0,0)):=by
  rw[hwq]
  have:=heap_alloc_new ((w'.alloc (.cells #[.slice (some ⟨Q,0,none⟩) pn vc] 25)).alloc (.cells #[.slice oad on oc,.slice aad an ac] 46)) (.cells #[.string c.fName,.int .i64 c.fTo] 48)
  rw[World.size_alloc,World.size_alloc] at this;exact this
 have hBw:Below w.heap.size w wq:=(HB0.out.trans (HBB.out.mono HB0.out.size)).trans (hBq.mono (by omega))
 clear hwq
 refine(S_l9Asks kx.fAsks [⟨c.fName,c.fTo⟩] c.fName _ ⟨w'.heap.size+1+1,0,none⟩ 1 1 [[.string c.fName,.int .i64 c.fTo]] w wq hBw T2.out (src_row hN) (Rows.one rfl ⟨rfl,by intro u hu;simp at hu;rcases hu with rfl|rfl<;>rfl⟩) (Rows.one rfl ⟨rfl,b1⟩) (by omega) (by simp)).mono ?_
 rintro _ w2 ⟨⟨v2,c2,rfl,ht2,hr2⟩,h2⟩
 obtain⟨ga,gn,gc,rfl⟩:=ht2.plain.sl.form3
 have hz2:=h2.size
 have k0:=qaa h2 x0
 have k1:=qaa h2 y0
 have k2:=qaa h2 y1
 have kf:=qap h2 (block_lt_of_cell y1) yf
 have hB2:Below w'.heap.size w' w2:=hBq.trans (h2.mono hBq.size)
 have e1:=qaa hB2 f1
 have HTW:=qhd ((show TOwnC 2 rCel 46 w.heap.size w.heap.size w' (.slice (some ⟨Q,0,none⟩) pn vc) css css from HT.out).belowB hB2)
 obtain⟨p0,z0,_⟩:=HTW.out.cellAt (j:=0) HCS.out rfl
 obtain⟨p1,z1,_⟩:=HTW.out.cellAt (j:=1) HCS.out rfl
 rw[Nat.add_zero] at p0 z0
 have hRB:w2.heap[w.heap.size+1+1]? =some (.cells #[.slice none 0 0] 25 (0,0)):=(hB2.block _ hrw).trans ((HBB.out.block _ (by rw[HZ4.out];omega)).trans RB.out)
 obtain⟨r0,rf0⟩:=cell_ofBlock (o:=0) (v:=.slice none 0 0) hRB rfl
 have HT2:=qhd ht2
 have HR2:=qhd hr2
 have HBW:=qhd (hBw.trans (h2.mono hBw.size))
 clear ht2 hr2 h2 x0 y0 y1 yf hB2 hBq hN hBw f0 f1 f2 f3 f4 f5 f6 f7 g0 g1
 have hKl:w'.heap.size+1 < w2.heap.size:=by omega
 have hQn:Q≠w'.heap.size+1:=by omega
 have hQx:Q≠w'.heap.size:=by omega
 have hQR:Q≠w.heap.size+1+1:=fun e=>by
  obtain⟨cur,h9⟩:=HTW.out.typeAt
  rw[e,hRB] at h9;cases h9
 have hKR:w'.heap.size+1≠w.heap.size+1+1:=by omega
 have hRQ:=hQR.symm
 have hRK:=hKR.symm
 clear hRB
 go_wp2
 refine bodyPost_ret (v:=?_) ?hrun rfl ?_
 case hrun=>(simp only[results,Tryz.results38];go_simp;first|done|exact rfl)
 have A1:=HTW.out.keptB (w':=w2.setCell ⟨w'.heap.size+1,1,none⟩ (.slice ga gn gc)) (fun b hb=>by cases hb;exact Below.heap_setCell _ _ _ _ hQn)
 have A2:=A1.setRow (i:=i) (vs:=[.slice oad on oc,.slice ga gn gc]) HCS.out rfl (by intro u hu;simp at hu;rcases hu with rfl|rfl<;>rfl)
 have A3:=A2.keptB (w':=((w2.setCell ⟨w'.heap.size+1,1,none⟩ (.slice ga gn gc)).setCells Q (i * 2) [.slice oad on oc,.slice ga gn gc]).setCell ⟨w.heap.size+1+1,0,none⟩ (.slice (some ⟨Q,0,none⟩) pn vc)) (fun b hb=>by cases hb;exact Below.heap_setCell _ _ _ _ hQR)
 have hB9:Below w.heap.size w (((w2.setCell ⟨w'.heap.size+1,1,none⟩ (.slice ga gn gc)).setCells Q (i * 2) [.slice oad on oc,.slice ga gn gc]).setCell ⟨w.heap.size+1+1,0,none⟩ (.slice (some ⟨Q,0,none⟩) pn vc)):=((HBW.out.setCell (by show w.heap.size≤w'.heap.size+1;omega) _).trans ((Turn.setCells Q _ _ _).below hQ1)).setCell (by show w.heap.size≤w.heap.size+1+1;omega) _
 refine HR.out _ _ ⟨⟨_,rfl,?_⟩,hB9⟩
 have B3:=HT2.out.keptB (w':=(((w2.setCell ⟨w'.heap.size+1,1,none⟩ (.slice ga gn gc)).setCells Q (i * 2) [.slice oad on oc,.slice ga gn gc]).setCell ⟨w.heap.size+1+1,0,none⟩ (.slice (some ⟨Q,0,none⟩) pn vc))) (fun b hb=>by
  have hbb:=HT2.out.own b hb
  exact(Below.heap_setCell _ _ _ _ (by show b≠w.heap.size+1+1;omega)).trans ((heap_setCells Q _ _ _ _ (by omega)).trans (Below.heap_setCell _ _ _ _ (by show b≠w'.heap.size+1;omega))))
 have hkk:=Keeps.of_below (lo:=0) hB9
 have SO:Sl 2 rLodAsk 0 _ (.slice ga gn gc) (keepN (·.fName) c.fName kx.fAsks++[⟨c.fName,c.fTo⟩]):=(((⟨B3.rows.mono fun _ _ h=>h,own_low B3.owns (Nat.zero_le _),B3.own⟩:TOwnC 2 rCel 48 0 _ _ _ _ _).toT (HR2.out.mono fun cs x h=>rLodAsk_good.stays _ _ _ _ _ hkk h)).plain.sl).sl (R':=rLodAsk) (fun cs x h=>h)
 rw[planMove_at HI.out HX.out,show turnK c kx=⟨kx.fOwns,keepN (·.fName) c.fName kx.fAsks++[⟨c.fName,c.fTo⟩]⟩ by simp[turnK,HKK.out]]
 exact(((⟨A3.rows.mono fun _ _ h=>h,own_low A3.owns (Nat.zero_le _),A3.own⟩:TOwnC 2 rCel 46 0 _ _ _ _ _).toT ((HRW.out.mono fun cs x h=>rLodKeeper_good.stays _ _ _ _ _ hkk h).set (row:=[.slice oad on oc,.slice ga gn gc]) (x:=⟨kx.fOwns,keepN (·.fName) c.fName kx.fAsks++[⟨c.fName,c.fTo⟩]⟩) rfl ⟨_,_,rfl,T1.out.stays rClsClass_good hkk,SO⟩)).plain.sl).sl (R':=rLodKeeper) (fun cs x h=>h)

theorem chg_kinds {c:DChgChange} (h:chgOk c=true):c.fKind=1∨c.fKind=2∨c.fKind=3∨c.fKind=4:=by
 unfold chgOk at h
 simp only[Bool.and_eq_true] at h
 have h:=h.2
 by_cases h1:c.fKind=1
 ·exact Or.inl h1
 ·rw[if_neg (by simpa using h1)] at h
  simp only[Bool.and_eq_true] at h
  have h:=h.2
  by_cases h3:c.fKind=3
  ·exact Or.inr (Or.inr (Or.inl h3))
  ·rw[if_neg (by simpa using h3)] at h
   simp only[Bool.and_eq_true,Bool.or_eq_true,beq_iff_eq] at h
   omega
theorem S_l9Turn (p:DLodPlan) (c:DChgChange) (i:Nat) (kx:DLodKeeper) (pad:Addr) (pn pc:Nat) (ua:Option Addr) (un uc:Nat) (ta:Option Addr) (tn tc:Nat) (w:World) (s:Sl 2 rLodKeeper 0 w (.slice (some pad) pn pc) p.fKeepers) (s1:Sl 3 rClsField 0 w (.slice ua un uc) c.fClass.fFields) (s2:Sl 8 rClsMethod 0 w (.slice ta tn tc) c.fClass.fMethods)
  (b1:c.fName.size≤maxLen) (b2:c.fClass.fName.size≤maxLen) (b3:c.fClass.fSuper.size≤maxLen) (hi:c.fKeeper=(i:Int)) (hx:p.fKeepers[i]? =some kx) (hl:lodOk p=true) (hch:chgOk c=true) :
  Calls Tryz.prog 38 #[.agg #[.slice (some pad) pn pc],.agg #[.int .i64 c.fKind,.int .i64 c.fKeeper,.string c.fName,.int .i64 c.fTo,.string c.fClass.fName,.string c.fClass.fSuper,.slice ua un uc,.slice ta tn tc]] w fun e w'=>(∃ v,e=.returned (.agg #[v])∧Sl 2 rLodKeeper 0 w' v (planMove p c).fKeepers)∧Below w.heap.size w w':=by
 rcases chg_kinds hch with h|h|h|h
 ·exact S_l9Turn1 p c i kx pad pn pc ua un uc ta tn tc w s s1 s2 b1 b2 b3 hi hx hl hch h
 ·exact S_l9Turn2 p c i kx pad pn pc ua un uc ta tn tc w s s1 s2 b1 b2 b3 hi hx hl hch h
 ·exact S_l9Turn3 p c i kx pad pn pc ua un uc ta tn tc w s s1 s2 b1 b2 b3 hi hx hl hch h
 ·exact S_l9Turn4 p c i kx pad pn pc ua un uc ta tn tc w s s1 s2 b1 b2 b3 hi hx hl hch h

end Go.Proofs.YtmbfpbgkchncgaaGreat
