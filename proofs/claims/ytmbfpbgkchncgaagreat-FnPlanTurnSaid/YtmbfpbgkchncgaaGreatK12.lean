/-
  Texts of mine, packed: Del, Aply, PTurn. No condition beside those of the single theorems.
-/
import Derived.Test.YtmbfpbgkchncgaaGreatK11
import Derived.Test.YtmbfpbgkchncgaaGreatK1
set_option linter.unusedSimpArgs false
set_option linter.unusedVariables false
set_option maxHeartbeats 16000000
set_option maxRecDepth 100000
namespace Go.Proofs.YtmbfpbgkchncgaaGreat
open Go.RowKit
theorem run_clear_rows {P:Program} (w:World) (t e ty:TypeId) (z:Value) (ht:P.underlying t=some (.slice e)) (hv:∀ w,(zeroValue e).run P w=.ok z w) (h1:∀ v∈z.cells,v.oneCell'=true) (b o n c:Nat) (hn:0 < n) (hth:w.there b o (n * z.cells.size)) :
  (Builtin.clear_ #[t] ty #[.slice (some ⟨b,o,none⟩) n c]).run P w=.ok (.tuple #[]) (w.setCells b o (Builtin.zeroCells z.cells n).toList):=by
 have hlen:(Builtin.zeroCells z.cells n).toList.length=n * z.cells.size:=by simp[Builtin.zeroCells]
 have hone:∀ v∈(Builtin.zeroCells z.cells n).toList,v.oneCell'=true:=fun v hv'=>by
  simp only[Builtin.zeroCells,Array.toList_map,List.mem_map] at hv'
  obtain⟨i,_,rfl⟩:=hv'
  by_cases h0:0 < z.cells.size
  ·have hi:i % z.cells.size < z.cells.size:=Nat.mod_lt _ h0
   rw[getElem!_pos z.cells _ hi]
   exact h1 _ (Array.getElem_mem hi)
  ·have hz:z.cells.size=0:=by omega
   have:z.cells=#[]:=Array.eq_empty_of_size_eq_zero hz
   rw[this]
   rfl
 have hst:=run_storeCells_cells (P:=P) b o (Builtin.zeroCells z.cells n).toList 0 w (by rw[hlen];intro j hj;rw[Nat.add_zero];exact(hth j hj).1) (by rw[hlen];intro j hj;rw[Nat.add_zero];exact(hth j hj).2) hone
 simp only[Nat.add_zero] at hst
 obtain⟨m,rfl⟩:∃ m,n=m+1:=⟨n-1,by omega⟩
 simp[Builtin.clear_,run_underlying ht,hv,hst]
theorem setCells_own {b:Nat} {t:TypeId} {fr:Nat × Nat}:∀ (vs:List Value) (o:Nat) (w:World) (cs:Array Value),w.heap[b]? =some (.cells cs t fr)→∃ cs',(w.setCells b o vs).heap[b]? =some (.cells cs' t fr)∧cs'.size=cs.size∧cs'.toList.take o=cs.toList.take o
 | [],o,w,cs,h=>⟨cs,h,rfl,rfl⟩
 | v :: r,o,w,cs,h=>by
   rw[setCells_head]
   obtain⟨cs',h1,h2,h3⟩:=setCells_own r (o+1) _ _ (qar (i:=o) (v:=v) h)
   refine⟨cs',h1,by rw[h2,Array.size_setIfInBounds],?_⟩
   have h4:=congrArg (List.take o) h3
   rw[List.take_take,List.take_take,Nat.min_eq_left (by omega)] at h4
   rw[h4,Array.toList_setIfInBounds,List.take_set_of_le (Nat.le_refl _)]
theorem TOwnC.cut {k:Nat} {e:TypeId} {lo B:Nat} {w:World} {g n cap i:Nat} {css:List (List Value)} (h:TOwnC k rCel e lo B w (.slice (some ⟨g,0,none⟩) n cap) css css) (hi:i≤css.length) (zs:List Value) :
  TOwnC k rCel e lo B (w.setCells g (i * k) zs) (.slice (some ⟨g,0,none⟩) i cap) (css.take i) (css.take i):=by
 obtain⟨h1,h2,h3⟩:=h
 obtain⟨h0,h4⟩:=h2
 refine⟨(h1.take i).mono fun _ _ h=>h,?_,h3⟩
 rcases h4 with ⟨h4,_⟩|⟨g',cap',cur,h4,h5,h6,h7,h8,h9,h10⟩
 ·cases h4
 ·cases h4
  obtain⟨cs',a1,a2,a3⟩:=setCells_own zs (i * k) w cur h6
  have hl:(css.take i).length=i:=by rw[List.length_take];omega
  have hfl:(css.take i).flatten=css.flatten.take (i * k):=by
   have e1:css.flatten=(css.take i).flatten++(css.drop i).flatten:=by rw[←List.flatten_append,List.take_append_drop]
   have e2:(css.take i).flatten.length=i * k:=by rw[flat_len (k:=k) (fun c hc=>h1.each c (List.mem_of_mem_take hc)),hl]
   rw[e1,List.take_left' e2]
  refine⟨by rw[hfl,hl,List.length_take,h0];have:=Nat.mul_le_mul_right k hi;omega,Or.inr ⟨g,cap,cs',by rw[hl],h5,a1,by omega,h8,by rw[a2];exact h9,?_⟩⟩
  have hik:i * k≤css.length * k:=Nat.mul_le_mul_right k hi
  rw[hl,a3,hfl,←h10,List.take_take,Nat.min_eq_left hik]
theorem TOwnC.thereIn {k:Nat} {e:TypeId} {lo B:Nat} {w:World} {g n cap:Nat} {css:List (List Value)} (h:TOwnC k rCel e lo B w (.slice (some ⟨g,0,none⟩) n cap) css css) (hn:0 < css.length) {o len:Nat} (ho:o+len≤css.length * k):w.there g o len:=fun q hq=>by
 obtain⟨g',cap',e1,_,hg,_,_,hc,hf⟩:=own_cell h.owns hn
 cases e1
 have hl:css.flatten.length=css.length * k:=flat_len h.rows.each
 obtain⟨u,hu⟩:∃ u,css.flatten[o+q]? =some u:=⟨_,List.getElem?_eq_getElem (by omega)⟩
 exact⟨by rw[hc _ u hu];rfl,hf _⟩
theorem filter_none {α:Type} {p:α→Bool} {xs:List α} (h:∀ (j:Nat) (y:α),xs[j]? =some y→p y=false):xs.filter (fun x=> !p x)=xs:=List.filter_eq_self.2 fun x hx=>by
 obtain⟨j,hj⟩:=List.mem_iff_getElem?.1 hx
 rw[h j x hj];rfl
def keepN {α:Type} (f:α→ByteArray) (nm:ByteArray) (xs:List α):List α:=xs.filter fun x=> !sameN (f x) nm
theorem keepN_snoc {α:Type} {f:α→ByteArray} {nm:ByteArray} {xs:List α} {j:Nat} {x:α} (h:xs[j]? =some x):keepN f nm (xs.take (j+1))=keepN f nm (xs.take j)++(if sameN (f x) nm then [] else [x]):=by
 unfold keepN
 rw[List.take_add_one,h,List.filter_append]
 cases e:sameN (f x) nm<;>simp[e]
theorem keepN_len {α:Type} {f:α→ByteArray} {nm:ByteArray} {xs:List α}:(keepN f nm xs).length≤xs.length:=List.length_filter_le _ _

theorem I_own_one (x:DClsClass) (nm:ByteArray) (B:Nat) (w:World) (a1:Option Addr) (l1 c1:Nat) (a2:Option Addr) (l2 c2:Nat) (hc:w.cell? ⟨B,0,none⟩=some (.string nm)) :
  Calls Tryz.prog 189 #[.agg #[.string x.fName,.string x.fSuper,.slice a1 l1 c1,.slice a2 l2 c2],.pointer (some ⟨B,0,none⟩)] w fun e w'=>e=.returned (.bool (sameN x.fName nm))∧Below w.heap.size w w':=by
 have hB:=block_lt_of_cell hc
 refine qac fun R HR=>?_
 go_enter Tryz.func189,Tryz.ntmps189
 go_wp2
 all_goals (try go_returns)
 all_goals exact HR.out _ _ ⟨by first|rfl|(simp[sameN];done),bbel⟩

theorem I_own_index (xs:List DClsClass) (v:Value) (nm:ByteArray) (B:Nat) (w:World) (hv:Sl 4 rClsClass 0 w v xs) (hc:w.cell? ⟨B,0,none⟩=some (.string nm)) :
  Calls Tryz.prog 190 #[v,.func (.func 189) #[] #[.pointer (some ⟨B,0,none⟩)]] w fun e w'=>e=.returned (.int .i64 (firstAt (fun f=>sameN f.fName nm) xs))∧Below w.heap.size w w':=by
 obtain⟨a,len,cap,rfl,hl,h1,h2,h3⟩:=id hv
 have m1:len≤9223372036854775807:=by unfold maxLen at h2;omega
 have HL:=qhd hl
 have H3:=qhd h3
 clear h2 hl h1 h3
 refine qac fun R HR=>?_
 go_enter Tryz.func190,Tryz.ntmps190
 go_wp2_with fail
 go_loopw [5,8] (fun _ zi wr=>∃ k:Nat,k≤len∧zi=.int .i64 k∧EachTo (nots fun f=>sameN f.fName nm) xs k=true∧Below w.heap.size w wr) (fun _ zi _=>len-(intOf zi).toNat)
 case atStart=>exact⟨0,Nat.zero_le _,rfl,rfl,bbel⟩
 case round=>
  obtain⟨k,hk,rfl,ha,hb⟩:=hrel
  have HA:=qhd ha
  clear ha
  have hbx:=hb.size
  by_cases hlt:k < len
  ·obtain⟨b,off,rfl,_,_,hr⟩:=(H3.out.stays rClsClass_good (Keeps.of_below hb)) (by omega)
   obtain⟨x,cs,e0,e1,e2,e3⟩:=hr k hlt
   obtain⟨u1',u2',rfl,s1,s2,bx1,bx2⟩:=e3
   obtain⟨a1,l1,c1,rfl⟩:=s1.form
   obtain⟨a2,l2,c2,rfl⟩:=s2.form
   have q0:wr.cell? ⟨b,off+k * 4,none⟩=some (.string x.fName):=e2 0 _ rfl
   have q1:wr.cell? ⟨b,off+k * 4+1,none⟩=some (.string x.fSuper):=e2 1 _ rfl
   have q2:wr.cell? ⟨b,off+k * 4+2,none⟩=some (.slice a1 l1 c1):=e2 2 _ rfl
   have q3:wr.cell? ⟨b,off+k * 4+3,none⟩=some (.slice a2 l2 c2):=e2 3 _ rfl
   have E0:=qhd e0
   have hcw:=qaa hb hc
   have CO:=I_own_one x nm B wr a1 l1 c1 a2 l2 c2 hcw
   clear e0 e1 e2 hr
   cases hx:sameN x.fName nm
   ·have HX:=qhd hx
    rw[hx] at CO
    clear hx
    go_wp2_with fail
    refine CO.mono ?_
    rintro _ w2 ⟨rfl,hb2⟩
    go_wp2
    go_roundw
    case rel=>exact⟨k+1,by omega,by go_num,EachTo.step HA.out E0.out (by simp[nots,HX.out]),hb.trans (hb2.mono hbx)⟩
    case measure=>simp[intOf];omega
   ·have HX:=qhd hx
    rw[hx] at CO
    clear hx
    go_wp2_with fail
    refine CO.mono ?_
    rintro _ w2 ⟨rfl,hb2⟩
    go_wp2
    all_goals (try go_returns)
    all_goals exact HR.out _ _ ⟨by rw[firstAt_hit' HA.out E0.out HX.out];rfl,hb.trans (hb2.mono hbx)⟩
  ·obtain rfl:k=len:=by omega
   go_wp2
   all_goals (try go_returns)
   all_goals exact HR.out _ _ ⟨by rw[firstAt_none' HA.out HL.out];rfl,hb⟩

theorem I_own_delete (xs:List DClsClass) (nm:ByteArray) (BX:Nat) (a:Option Addr) (n cap:Nat) (css:List (List Value)) (lo:Nat) (w:World) (hlo:lo≤w.heap.size) (hT:TOwnC 4 rCel 29 lo lo w (.slice a n cap) css css) (hr:Rows 4 tClsClass lo w css xs) (hc:w.cell? ⟨BX,0,none⟩=some (.string nm)) (hBX:∀ g,(.slice a n cap:Value).ownBlock=some g→BX≠g) (hm:css.length=n) :
  Calls Tryz.prog 188 #[.slice a n cap,.func (.func 189) #[] #[.pointer (some ⟨BX,0,none⟩)]] w fun e w'=>(∃ m cs',e=.returned (.slice a m cap)∧TOwnC 4 rCel 29 lo lo w' (.slice a m cap) cs' cs'∧Rows 4 tClsClass lo w' cs' (keepN (·.fName) nm xs))∧Below lo w w'∧(∀ b,b < w.heap.size→(.slice a n cap:Value).ownBlock≠some b→w'.heap[b]? =w.heap[b]?):=by
 have HT:=qhd hT
 have HRR:=qhd hr
 have HM:=qhd hm
 have hsl:Sl 4 rClsClass 0 w (.slice a n cap) xs:=(((hT.toT hr).plain.sl).sl (R':=rClsClass) (fun cs x h=>tClsClass_r h)).low rClsClass_good (Nat.zero_le _)
 have hxl:xs.length=n:=by rw[←hr.len];exact hm
 have HXL:=qhd hxl
 obtain⟨_,cap',e9,hnc,hcm⟩:=own_form hT.owns
 rw[hm] at e9 hnc
 cases e9
 have hn9:n≤9223372036854775807:=by unfold maxLen at hcm;omega
 have hc9:cap≤9223372036854775807:=by unfold maxLen at hcm;omega
 have HBX:=qhd hBX
 have HSL:=qhd hsl
 clear hT hr hm hsl hxl hBX
 refine qac fun R HR=>?_
 go_enter Tryz.func188,Tryz.ntmps188
 go_wp2_with fail
 refine(I_own_index xs _ nm BX w HSL.out hc).mono ?_
 rintro _ w1 ⟨rfl,h1⟩
 rcases firstAt_cases (fun f:DClsClass=>sameN f.fName nm) xs with ⟨hf,hno⟩|⟨i0,x0,hf,hx0,hp0,hbef⟩
 ·rw[hf]
  have HNO:Hid (keepN (·.fName) nm xs=xs):=qhd (filter_none hno)
  have H1:=qhd h1
  clear hno hf h1
  go_wp2
  all_goals (try go_returns)
  all_goals exact HR.out _ _ ⟨⟨n,css,rfl,HT.out.belowB H1.out,by rw[HNO.out];exact HRR.out.mono fun cs x h=>(tClsClass_goodT).stays _ _ _ _ _ (KeepsT.of_below H1.out) h⟩,H1.out.mono hlo,fun b hb _=>H1.out.block b hb⟩
 have hil:i0 < xs.length:=(List.getElem?_eq_some_iff.1 hx0).1
 have hin:i0 < n:=by have:=HXL.out;omega
 obtain⟨G,rfl,hG1,hG2, -, -⟩:=HT.out.slot (by have:=HM.out;omega)
 have hBG:BX≠G:=HBX.out G rfl
 rw[hf]
 have H1:=qhd h1
 have hk0:keepN (·.fName) nm (xs.take i0)=xs.take i0:=filter_none fun j y hy=>by
  by_cases hj:j < i0
  ·rw[List.getElem?_take_of_lt hj] at hy;exact hbef j y hj hy
  ·rw[List.getElem?_take,if_neg hj] at hy;cases hy
 have hk1:keepN (·.fName) nm (xs.take (i0+1))=xs.take i0:=by
  rw[keepN_snoc hx0,hk0,if_pos hp0,List.append_nil]
 have T1:=qhd (HT.out.belowB h1)
 have R1:Hid (Rows 4 tClsClass lo w1 css xs):=qhd (HRR.out.mono fun cs x h=>(tClsClass_goodT).stays _ _ _ _ _ (KeepsT.of_below h1) h)
 have R1i:Hid (Rows 4 tClsClass lo w1 (css.take i0) (keepN (·.fName) nm (xs.take (i0+1)))):=qhd (by rw[hk1];exact R1.out.take i0)
 have HK1:Hid ((keepN (·.fName) nm (xs.take (i0+1))).length=i0):=qhd (by rw[hk1,List.length_take];omega)
 have hc1:=qhd (qbc h1 (block_lt_of_cell hc) hc)
 have hz1:=h1.size
 have HIL:=qhd hil
 have hB1:Hid (Below lo w w1):=qhd (h1.mono hlo)
 have hK1:Hid (KeepsT (NotT 29) 0 w w1):=qhd (KeepsT.of_below h1)
 have hG3:G < w1.heap.size:=by omega
 have HC:=qhd hc
 clear h1 hk0 hk1 hx0 hp0 hbef hf hil hc
 go_wp2_with fail
 have e12:((i0:Int) == -1)=false:=by rw[beq_eq_false_iff_ne];omega
 rw[e12]
 clear e12
 go_loopw [5,6] (fun zi zj wr=>∃ (i j:Nat) (cs9:List (List Value)),i < j∧j≤n∧zi=.int .i64 (i:Int)∧zj=.int .i64 (j:Int)∧TOwnC 4 rCel 29 lo lo wr (.slice (some ⟨G,0,none⟩) n cap) cs9 cs9∧cs9.length=css.length∧(keepN (·.fName) nm (xs.take j)).length=i∧Rows 4 tClsClass lo wr (cs9.take i) (keepN (·.fName) nm (xs.take j))∧(∀ m,j≤m→cs9[m]? =css[m]?)∧Below lo w wr∧KeepsT (NotT 29) 0 w wr∧(∀ b,b < w.heap.size→b≠G→wr.heap[b]? =w.heap[b]?)) (fun _ zj _=>n-(intOf zj).toNat)
 case atStart=>exact⟨i0,i0+1,css,by omega,by omega,rfl,by go_num,T1.out,rfl,HK1.out,R1i.out,fun m _=>rfl,hB1.out,hK1.out,fun b hb _=>H1.out.block b hb⟩
 case round=>
  obtain⟨i,j,cs9,hij,hj,rfl,rfl,hT,hcl,hkl,hrows,hrest,hB,hK,hO⟩:=hrel
  obtain⟨wk,hwk⟩:∃ x,x=wr:=⟨_,rfl⟩
  subst hwk
  have HT9:=qhd hT
  have HCL:=qhd hcl
  have HKL:=qhd hkl
  have HR9:=qhd hrows
  have HRE:=qhd hrest
  have HB:=qhd hB
  have HK:=qhd hK
  have HO:=qhd hO
  have hks:=hK.size
  have hloK:lo≤wk.heap.size:=by omega
  have hGr:G < wk.heap.size:=by omega
  by_cases hlt:j < n
  rotate_left
  ·obtain rfl:j=n:=by omega
   clear hT hcl hkl hrows hrest hB hK hO
   go_wp2_with fail
   have hil9:i≤cs9.length:=by have:=HCL.out;have:=HM.out;omega
   have hlen9:cs9.length=j:=by have:=HCL.out;have:=HM.out;omega
   obtain⟨zs,hzs⟩:∃ zs,zs=(Builtin.zeroCells ((.agg #[.string ⟨#[]⟩,.string ⟨#[]⟩,.slice none 0 0,.slice none 0 0]):Value).cells (j-i)).toList:=⟨_,rfl⟩
   have CL:(Builtin.clear_ #[43] 0 #[.slice (some ⟨G,i * 4,none⟩) (j-i) (cap-i)]).run Tryz.prog wk=.ok (.tuple #[]) (wk.setCells G (i * 4) zs):=by
    rw[hzs]
    exact run_clear_rows wk _ 29 0 (.agg #[.string ⟨#[]⟩,.string ⟨#[]⟩,.slice none 0 0,.slice none 0 0]) Tryz.underlying43 (fun w=>by go_simp) (by intro v hv;simp[Value.cells] at hv;rcases hv with rfl|rfl|rfl|rfl<;>rfl) G (i * 4) (j-i) (cap-i) (by omega) (HT9.out.thereIn (by omega) (by
     show i * 4+(j-i) * 4≤_
     rw[hlen9];omega))
   rw[CL]
   clear CL
   obtain⟨wz,hwz⟩:∃ W,W=wk.setCells G (i * 4) zs:=⟨_,rfl⟩
   have hBz:Below lo w wz:=by
    rw[hwz]
    exact HB.out.trans ((Turn.setCells G _ _ _).below (by have:=HT9.out.own G rfl;omega))
   have hTz:TOwnC 4 rCel 29 lo lo wz (.slice (some ⟨G,0,none⟩) i cap) (cs9.take i) (cs9.take i):=by rw[hwz];exact HT9.out.cut hil9 zs
   have hKz:KeepsT (NotT 29) 0 wk wz:=by
    rw[hwz]
    obtain⟨cur,hcur⟩:=HT9.out.typeAt
    exact KeepsT.setCells (notT _) _ _ _ ⟨cur,_,hcur⟩
   have hOz:∀ b,b≠G→wz.heap[b]? =wk.heap[b]? :=fun b hb=>by rw[hwz];exact heap_setCells G _ _ _ _ hb
   have TZ:=qhd hTz
   have KZ:=qhd hKz
   have BZ:=qhd hBz
   have OZ:=qhd hOz
   rw[←hwz]
   clear hwz hzs hTz hKz hBz hOz
   go_wp2
   all_goals (try go_returns)
   all_goals exact HR.out _ _ ⟨⟨i,cs9.take i,rfl,TZ.out,by
    have h9:=HR9.out
    have e9:xs.take j=xs:=List.take_of_length_le (by have:=HXL.out;omega)
    rw[e9] at h9
    exact h9.mono fun cs x h=>(tClsClass_goodT).stays _ _ _ _ _ ((KZ.out.weaken (fun e he=>by rcases he with rfl|rfl|rfl|rfl|rfl|rfl<;>(show _≠_;decide))).lift (Nat.zero_le _)) h⟩,BZ.out,fun b hb hne=>(OZ.out b (fun h=>hne (by rw[h];rfl))).trans (HO.out b hb (fun h=>hne (by rw[h];rfl)))⟩
  have hlt2:(j:Int) < (n:Int):=by omega
  obtain⟨x,hx⟩:∃ x,xs[j]? =some x:=⟨_,List.getElem?_eq_getElem (by rw[HXL.out];exact hlt)⟩
  obtain⟨cs,hcs⟩:∃ cs,css[j]? =some cs:=⟨_,List.getElem?_eq_getElem (by rw[HM.out];exact hlt)⟩
  have hcss:=(hrest j (Nat.le_refl _)).trans hcs
  obtain⟨hck,hrow⟩:=HRR.out.row j x cs hx hcs
  have hrow':=qhd ((tClsClass_goodT).stays _ _ _ _ _ ((hK.weaken (fun e he=>by rcases he with rfl|rfl|rfl|rfl|rfl|rfl<;>(show _≠_;decide))).lift (Nat.zero_le _)) hrow)
  obtain⟨u1',u2',rfl,s1,s2,bx1,bx2⟩:=hrow
  obtain⟨a1,l1,c1,rfl⟩:=s1.form3
  obtain⟨a2,l2,c2,rfl⟩:=s2.form3
  obtain⟨g0,_,_⟩:=hT.cellAt (j:=0) hcss rfl
  obtain⟨g1,_,_⟩:=hT.cellAt (j:=1) hcss rfl
  obtain⟨g2,_,_⟩:=hT.cellAt (j:=2) hcss rfl
  obtain⟨g3,_,_⟩:=hT.cellAt (j:=3) hcss rfl
  rw[Nat.add_zero] at g0
  have HX:=qhd hx
  have HCS:=qhd hcss
  have hin2:(n:Int)≤(cap:Int):=by omega
  have hcw:wk.cell? ⟨BX,0,none⟩=some (.string nm):=by
   have:=HO.out BX (block_lt_of_cell HC.out) hBG
   rw[←HC.out]
   simp only[World.cell?,this]
  have HCW:=qhd hcw
  clear hT hcl hkl hrows hrest hB hK hO hx hcs hcss hck s1 s2 bx1 bx2 hcw
  go_wp2_with fail
  refine nameW (P:=fun W=>Calls Tryz.prog 189 #[.agg #[.string x.fName,.string x.fSuper,.slice a1 l1 c1,.slice a2 l2 c2],.pointer (some ⟨BX,0,none⟩)] W _) _ (fun wq hwq=>?_)
  have hBq:Below wk.heap.size wk wq:=by rw[hwq];exact bbel
  have f0:wq.cell? ⟨wk.heap.size,0,none⟩=some (.string x.fName):=by rw[hwq];go_simp
  have f1:wq.cell? ⟨wk.heap.size,1,none⟩=some (.string x.fSuper):=by rw[hwq];go_simp
  have f2:wq.cell? ⟨wk.heap.size,2,none⟩=some (.slice a1 l1 c1):=by rw[hwq];go_simp
  have f3:wq.cell? ⟨wk.heap.size,3,none⟩=some (.slice a2 l2 c2):=by rw[hwq];go_simp
  have hzq:wq.heap.size=wk.heap.size+1:=by rw[hwq];simp[World.setCell]
  clear hwq g0 g1 g2 g3
  refine(I_own_one x nm BX wq a1 l1 c1 a2 l2 c2 (qaa hBq HCW.out)).mono ?_
  rintro _ wz ⟨rfl,hz⟩
  have h0:=qaa hz f0
  have h1:=qaa hz f1
  have h2:=qaa hz f2
  have h3:=qaa hz f3
  have hszz:=hz.size
  have HZ:=qhd (hBq.trans (hz.mono hBq.size))
  clear hz hBq f0 f1 f2 f3
  have RZ:=qhd ((tClsClass_goodT).stays _ _ _ _ _ (KeepsT.of_below HZ.out) hrow'.out)
  cases hsx:sameN x.fName nm
  ·have HSX:=qhd hsx
   clear hsx
   have hil9:i < cs9.length:=by have:=HCL.out;have:=HM.out;omega
   obtain⟨csi,hcsi⟩:∃ cs,cs9[i]? =some cs:=⟨_,List.getElem?_eq_getElem hil9⟩
   have TZ:=qhd (HT9.out.belowB HZ.out)
   have hli:=(TZ.out.rows.row i _ _ hcsi hcsi).1
   obtain⟨v0,hv0⟩:∃ u,csi[0]? =some u:=⟨_,List.getElem?_eq_getElem (by omega)⟩
   obtain⟨p0,r0,_⟩:=TZ.out.cellAt (j:=0) hcsi hv0
   obtain⟨v1,hv1⟩:∃ u,csi[1]? =some u:=⟨_,List.getElem?_eq_getElem (by omega)⟩
   obtain⟨p1,r1,_⟩:=TZ.out.cellAt (j:=1) hcsi hv1
   obtain⟨v2,hv2⟩:∃ u,csi[2]? =some u:=⟨_,List.getElem?_eq_getElem (by omega)⟩
   obtain⟨p2,r2,_⟩:=TZ.out.cellAt (j:=2) hcsi hv2
   obtain⟨v3,hv3⟩:∃ u,csi[3]? =some u:=⟨_,List.getElem?_eq_getElem (by omega)⟩
   obtain⟨p3,r3,_⟩:=TZ.out.cellAt (j:=3) hcsi hv3
   rw[Nat.add_zero] at p0 r0
   have HCI:=qhd hcsi
   have HLI:=qhd hli
   clear hcsi hli
   go_wp2
   go_roundw
   case measure=>simp[intOf];omega
   case rel=>
    have tyS:TypeAt wz G 29:=by
     obtain⟨cur,h9⟩:=TZ.out.typeAt
     exact⟨cur,_,h9⟩
    have hKt:=KeepsT.setCells (E:=NotT 29) (lo:=0) (notT _) ([.string x.fName,.string x.fSuper,.slice a1 l1 c1,.slice a2 l2 c2]) (i * 4) _ tyS
    have hBt:Below lo wz (wz.setCells G (i * 4) ([.string x.fName,.string x.fSuper,.slice a1 l1 c1,.slice a2 l2 c2])):=(Turn.setCells G _ _ _).below (by have:=TZ.out.own G rfl;omega)
    have hTt:=TZ.out.setRow (vs:=[.string x.fName,.string x.fSuper,.slice a1 l1 c1,.slice a2 l2 c2]) HCI.out rfl (by intro u hu;simp at hu;rcases hu with rfl|rfl|rfl|rfl<;>rfl)
    have hOt:∀ b,b≠G→(wz.setCells G (i * 4) ([.string x.fName,.string x.fSuper,.slice a1 l1 c1,.slice a2 l2 c2])).heap[b]? =wz.heap[b]? :=fun b hb=>heap_setCells G _ _ _ _ hb
    refine⟨i+1,j+1,cs9.set i ([.string x.fName,.string x.fSuper,.slice a1 l1 c1,.slice a2 l2 c2]),by omega,by omega,by go_num,by go_num,hTt,by rw[List.length_set];exact HCL.out,?_,?_,fun m hm=>by rw[List.getElem?_set_ne (by omega)];exact HRE.out m (by omega),(HB.out.trans (HZ.out.mono hloK)).trans hBt,(HK.out.trans (KeepsT.of_below HZ.out)).trans hKt,fun b hb hg=>(hOt b hg).trans ((HZ.out.block b (by omega)).trans (HO.out b hb hg))⟩
    ·rw[keepN_snoc HX.out,if_neg (by rw[HSX.out];decide),List.length_append,HKL.out];rfl
    ·rw[keepN_snoc HX.out,if_neg (by rw[HSX.out];decide),List.take_add_one,List.take_set_of_le (Nat.le_refl _),List.getElem?_set_self hil9]
     have h9:=HR9.out.mono fun cs x h=>(tClsClass_goodT).stays _ _ _ _ _ (((KeepsT.of_below HZ.out).trans (hKt.weaken (fun e he=>by rcases he with rfl|rfl|rfl|rfl|rfl|rfl<;>(show _≠_;decide)))).lift (Nat.zero_le _)) h
     exact h9.append (Rows.one rfl <|(tClsClass_goodT).stays _ _ _ _ _ ((hKt.weaken (fun e he=>by rcases he with rfl|rfl|rfl|rfl|rfl|rfl<;>(show _≠_;decide))).lift (Nat.zero_le _)) RZ.out)
  ·have HSX:=qhd hsx
   clear hsx h0 h1 h2 h3
   go_wp2
   go_roundw
   case measure=>simp[intOf];omega
   case rel=>
    refine⟨i,j+1,cs9,by omega,by omega,rfl,by go_num,HT9.out.belowB HZ.out,HCL.out,?_,?_,fun m hm=>HRE.out m (by omega),HB.out.trans (HZ.out.mono hloK),HK.out.trans (KeepsT.of_below HZ.out),fun b hb hg=>(HZ.out.block b (by omega)).trans (HO.out b hb hg)⟩
    ·rw[keepN_snoc HX.out,if_pos HSX.out,List.append_nil];exact HKL.out
    ·rw[keepN_snoc HX.out,if_pos HSX.out,List.append_nil]
     exact HR9.out.mono fun cs x h=>(tClsClass_goodT).stays _ _ _ _ _ (KeepsT.of_below HZ.out) h

theorem I_ask_one (x:DLodAsk) (nm:ByteArray) (B:Nat) (w:World) (hc:w.cell? ⟨B,0,none⟩=some (.string nm)) :
  Calls Tryz.prog 194 #[.agg #[.string x.fName,.int .i64 x.fKeeper],.pointer (some ⟨B,0,none⟩)] w fun e w'=>e=.returned (.bool (sameN x.fName nm))∧Below w.heap.size w w':=by
 have hB:=block_lt_of_cell hc
 refine qac fun R HR=>?_
 go_enter Tryz.func194,Tryz.ntmps194
 go_wp2
 all_goals (try go_returns)
 all_goals exact HR.out _ _ ⟨by first|rfl|(simp[sameN];done),bbel⟩

theorem I_ask_index (xs:List DLodAsk) (v:Value) (nm:ByteArray) (B:Nat) (w:World) (hv:Sl 2 rLodAsk 0 w v xs) (hc:w.cell? ⟨B,0,none⟩=some (.string nm)) :
  Calls Tryz.prog 195 #[v,.func (.func 194) #[] #[.pointer (some ⟨B,0,none⟩)]] w fun e w'=>e=.returned (.int .i64 (firstAt (fun f=>sameN f.fName nm) xs))∧Below w.heap.size w w':=by
 obtain⟨a,len,cap,rfl,hl,h1,h2,h3⟩:=id hv
 have m1:len≤9223372036854775807:=by unfold maxLen at h2;omega
 have HL:=qhd hl
 have H3:=qhd h3
 clear h2 hl h1 h3
 refine qac fun R HR=>?_
 go_enter Tryz.func195,Tryz.ntmps195
 go_wp2_with fail
 go_loopw [5,8] (fun _ zi wr=>∃ k:Nat,k≤len∧zi=.int .i64 k∧EachTo (nots fun f=>sameN f.fName nm) xs k=true∧Below w.heap.size w wr) (fun _ zi _=>len-(intOf zi).toNat)
 case atStart=>exact⟨0,Nat.zero_le _,rfl,rfl,bbel⟩
 case round=>
  obtain⟨k,hk,rfl,ha,hb⟩:=hrel
  have HA:=qhd ha
  clear ha
  have hbx:=hb.size
  by_cases hlt:k < len
  ·obtain⟨b,off,rfl,_,_,hr⟩:=(H3.out.stays rLodAsk_good (Keeps.of_below hb)) (by omega)
   obtain⟨x,cs,e0,e1,e2,e3⟩:=hr k hlt
   obtain⟨rfl,bx1⟩:=e3
   have q0:wr.cell? ⟨b,off+k * 2,none⟩=some (.string x.fName):=e2 0 _ rfl
   have q1:wr.cell? ⟨b,off+k * 2+1,none⟩=some (.int .i64 x.fKeeper):=e2 1 _ rfl
   have E0:=qhd e0
   have hcw:=qaa hb hc
   have CO:=I_ask_one x nm B wr hcw
   clear e0 e1 e2 hr
   cases hx:sameN x.fName nm
   ·have HX:=qhd hx
    rw[hx] at CO
    clear hx
    go_wp2_with fail
    refine CO.mono ?_
    rintro _ w2 ⟨rfl,hb2⟩
    go_wp2
    go_roundw
    case rel=>exact⟨k+1,by omega,by go_num,EachTo.step HA.out E0.out (by simp[nots,HX.out]),hb.trans (hb2.mono hbx)⟩
    case measure=>simp[intOf];omega
   ·have HX:=qhd hx
    rw[hx] at CO
    clear hx
    go_wp2_with fail
    refine CO.mono ?_
    rintro _ w2 ⟨rfl,hb2⟩
    go_wp2
    all_goals (try go_returns)
    all_goals exact HR.out _ _ ⟨by rw[firstAt_hit' HA.out E0.out HX.out];rfl,hb.trans (hb2.mono hbx)⟩
  ·obtain rfl:k=len:=by omega
   go_wp2
   all_goals (try go_returns)
   all_goals exact HR.out _ _ ⟨by rw[firstAt_none' HA.out HL.out];rfl,hb⟩

theorem I_ask_delete (xs:List DLodAsk) (nm:ByteArray) (BX:Nat) (a:Option Addr) (n cap:Nat) (css:List (List Value)) (lo:Nat) (w:World) (hlo:lo≤w.heap.size) (hT:TOwnC 2 rCel 48 lo lo w (.slice a n cap) css css) (hr:Rows 2 rLodAsk lo w css xs) (hc:w.cell? ⟨BX,0,none⟩=some (.string nm)) (hBX:∀ g,(.slice a n cap:Value).ownBlock=some g→BX≠g) (hm:css.length=n) :
  Calls Tryz.prog 193 #[.slice a n cap,.func (.func 194) #[] #[.pointer (some ⟨BX,0,none⟩)]] w fun e w'=>(∃ m cs',e=.returned (.slice a m cap)∧TOwnC 2 rCel 48 lo lo w' (.slice a m cap) cs' cs'∧Rows 2 rLodAsk lo w' cs' (keepN (·.fName) nm xs))∧Below lo w w'∧(∀ b,b < w.heap.size→(.slice a n cap:Value).ownBlock≠some b→w'.heap[b]? =w.heap[b]?):=by
 have HT:=qhd hT
 have HRR:=qhd hr
 have HM:=qhd hm
 have hsl:Sl 2 rLodAsk 0 w (.slice a n cap) xs:=(((hT.toT hr).plain.sl).sl (R':=rLodAsk) (fun cs x h=>h)).low rLodAsk_good (Nat.zero_le _)
 have hxl:xs.length=n:=by rw[←hr.len];exact hm
 have HXL:=qhd hxl
 obtain⟨_,cap',e9,hnc,hcm⟩:=own_form hT.owns
 rw[hm] at e9 hnc
 cases e9
 have hn9:n≤9223372036854775807:=by unfold maxLen at hcm;omega
 have hc9:cap≤9223372036854775807:=by unfold maxLen at hcm;omega
 have HBX:=qhd hBX
 have HSL:=qhd hsl
 clear hT hr hm hsl hxl hBX
 refine qac fun R HR=>?_
 go_enter Tryz.func193,Tryz.ntmps193
 go_wp2_with fail
 refine(I_ask_index xs _ nm BX w HSL.out hc).mono ?_
 rintro _ w1 ⟨rfl,h1⟩
 rcases firstAt_cases (fun f:DLodAsk=>sameN f.fName nm) xs with ⟨hf,hno⟩|⟨i0,x0,hf,hx0,hp0,hbef⟩
 ·rw[hf]
  have HNO:Hid (keepN (·.fName) nm xs=xs):=qhd (filter_none hno)
  have H1:=qhd h1
  clear hno hf h1
  go_wp2
  all_goals (try go_returns)
  all_goals exact HR.out _ _ ⟨⟨n,css,rfl,HT.out.belowB H1.out,by rw[HNO.out];exact HRR.out.mono fun cs x h=>(rLodAsk_goodT).stays _ _ _ _ _ (KeepsT.of_below H1.out) h⟩,H1.out.mono hlo,fun b hb _=>H1.out.block b hb⟩
 have hil:i0 < xs.length:=(List.getElem?_eq_some_iff.1 hx0).1
 have hin:i0 < n:=by have:=HXL.out;omega
 obtain⟨G,rfl,hG1,hG2, -, -⟩:=HT.out.slot (by have:=HM.out;omega)
 have hBG:BX≠G:=HBX.out G rfl
 rw[hf]
 have H1:=qhd h1
 have hk0:keepN (·.fName) nm (xs.take i0)=xs.take i0:=filter_none fun j y hy=>by
  by_cases hj:j < i0
  ·rw[List.getElem?_take_of_lt hj] at hy;exact hbef j y hj hy
  ·rw[List.getElem?_take,if_neg hj] at hy;cases hy
 have hk1:keepN (·.fName) nm (xs.take (i0+1))=xs.take i0:=by
  rw[keepN_snoc hx0,hk0,if_pos hp0,List.append_nil]
 have T1:=qhd (HT.out.belowB h1)
 have R1:Hid (Rows 2 rLodAsk lo w1 css xs):=qhd (HRR.out.mono fun cs x h=>(rLodAsk_goodT).stays _ _ _ _ _ (KeepsT.of_below h1) h)
 have R1i:Hid (Rows 2 rLodAsk lo w1 (css.take i0) (keepN (·.fName) nm (xs.take (i0+1)))):=qhd (by rw[hk1];exact R1.out.take i0)
 have HK1:Hid ((keepN (·.fName) nm (xs.take (i0+1))).length=i0):=qhd (by rw[hk1,List.length_take];omega)
 have hc1:=qhd (qbc h1 (block_lt_of_cell hc) hc)
 have hz1:=h1.size
 have HIL:=qhd hil
 have hB1:Hid (Below lo w w1):=qhd (h1.mono hlo)
 have hK1:Hid (KeepsT (NotT 48) 0 w w1):=qhd (KeepsT.of_below h1)
 have hG3:G < w1.heap.size:=by omega
 have HC:=qhd hc
 clear h1 hk0 hk1 hx0 hp0 hbef hf hil hc
 go_wp2_with fail
 have e12:((i0:Int) == -1)=false:=by rw[beq_eq_false_iff_ne];omega
 rw[e12]
 clear e12
 go_loopw [5,6] (fun zi zj wr=>∃ (i j:Nat) (cs9:List (List Value)),i < j∧j≤n∧zi=.int .i64 (i:Int)∧zj=.int .i64 (j:Int)∧TOwnC 2 rCel 48 lo lo wr (.slice (some ⟨G,0,none⟩) n cap) cs9 cs9∧cs9.length=css.length∧(keepN (·.fName) nm (xs.take j)).length=i∧Rows 2 rLodAsk lo wr (cs9.take i) (keepN (·.fName) nm (xs.take j))∧(∀ m,j≤m→cs9[m]? =css[m]?)∧Below lo w wr∧KeepsT (NotT 48) 0 w wr∧(∀ b,b < w.heap.size→b≠G→wr.heap[b]? =w.heap[b]?)) (fun _ zj _=>n-(intOf zj).toNat)
 case atStart=>exact⟨i0,i0+1,css,by omega,by omega,rfl,by go_num,T1.out,rfl,HK1.out,R1i.out,fun m _=>rfl,hB1.out,hK1.out,fun b hb _=>H1.out.block b hb⟩
 case round=>
  obtain⟨i,j,cs9,hij,hj,rfl,rfl,hT,hcl,hkl,hrows,hrest,hB,hK,hO⟩:=hrel
  obtain⟨wk,hwk⟩:∃ x,x=wr:=⟨_,rfl⟩
  subst hwk
  have HT9:=qhd hT
  have HCL:=qhd hcl
  have HKL:=qhd hkl
  have HR9:=qhd hrows
  have HRE:=qhd hrest
  have HB:=qhd hB
  have HK:=qhd hK
  have HO:=qhd hO
  have hks:=hK.size
  have hloK:lo≤wk.heap.size:=by omega
  have hGr:G < wk.heap.size:=by omega
  by_cases hlt:j < n
  rotate_left
  ·obtain rfl:j=n:=by omega
   clear hT hcl hkl hrows hrest hB hK hO
   go_wp2_with fail
   have hil9:i≤cs9.length:=by have:=HCL.out;have:=HM.out;omega
   have hlen9:cs9.length=j:=by have:=HCL.out;have:=HM.out;omega
   obtain⟨zs,hzs⟩:∃ zs,zs=(Builtin.zeroCells ((.agg #[.string ⟨#[]⟩,.int .i64 0]):Value).cells (j-i)).toList:=⟨_,rfl⟩
   have CL:(Builtin.clear_ #[44] 0 #[.slice (some ⟨G,i * 2,none⟩) (j-i) (cap-i)]).run Tryz.prog wk=.ok (.tuple #[]) (wk.setCells G (i * 2) zs):=by
    rw[hzs]
    exact run_clear_rows wk _ 48 0 (.agg #[.string ⟨#[]⟩,.int .i64 0]) Tryz.underlying44 (fun w=>by go_simp) (by intro v hv;simp[Value.cells] at hv;rcases hv with rfl|rfl<;>rfl) G (i * 2) (j-i) (cap-i) (by omega) (HT9.out.thereIn (by omega) (by
     show i * 2+(j-i) * 2≤_
     rw[hlen9];omega))
   rw[CL]
   clear CL
   obtain⟨wz,hwz⟩:∃ W,W=wk.setCells G (i * 2) zs:=⟨_,rfl⟩
   have hBz:Below lo w wz:=by
    rw[hwz]
    exact HB.out.trans ((Turn.setCells G _ _ _).below (by have:=HT9.out.own G rfl;omega))
   have hTz:TOwnC 2 rCel 48 lo lo wz (.slice (some ⟨G,0,none⟩) i cap) (cs9.take i) (cs9.take i):=by rw[hwz];exact HT9.out.cut hil9 zs
   have hKz:KeepsT (NotT 48) 0 wk wz:=by
    rw[hwz]
    obtain⟨cur,hcur⟩:=HT9.out.typeAt
    exact KeepsT.setCells (notT _) _ _ _ ⟨cur,_,hcur⟩
   have hOz:∀ b,b≠G→wz.heap[b]? =wk.heap[b]? :=fun b hb=>by rw[hwz];exact heap_setCells G _ _ _ _ hb
   have TZ:=qhd hTz
   have KZ:=qhd hKz
   have BZ:=qhd hBz
   have OZ:=qhd hOz
   rw[←hwz]
   clear hwz hzs hTz hKz hBz hOz
   go_wp2
   all_goals (try go_returns)
   all_goals exact HR.out _ _ ⟨⟨i,cs9.take i,rfl,TZ.out,by
    have h9:=HR9.out
    have e9:xs.take j=xs:=List.take_of_length_le (by have:=HXL.out;omega)
    rw[e9] at h9
    exact h9.mono fun cs x h=>(rLodAsk_goodT).stays _ _ _ _ _ ((KZ.out.weaken (fun e he=>he.elim)).lift (Nat.zero_le _)) h⟩,BZ.out,fun b hb hne=>(OZ.out b (fun h=>hne (by rw[h];rfl))).trans (HO.out b hb (fun h=>hne (by rw[h];rfl)))⟩
  have hlt2:(j:Int) < (n:Int):=by omega
  obtain⟨x,hx⟩:∃ x,xs[j]? =some x:=⟨_,List.getElem?_eq_getElem (by rw[HXL.out];exact hlt)⟩
  obtain⟨cs,hcs⟩:∃ cs,css[j]? =some cs:=⟨_,List.getElem?_eq_getElem (by rw[HM.out];exact hlt)⟩
  have hcss:=(hrest j (Nat.le_refl _)).trans hcs
  obtain⟨hck,hrow⟩:=HRR.out.row j x cs hx hcs
  have hrow':=qhd ((rLodAsk_goodT).stays _ _ _ _ _ ((hK.weaken (fun e he=>he.elim)).lift (Nat.zero_le _)) hrow)
  obtain⟨rfl,bx1⟩:=hrow
  obtain⟨g0,_,_⟩:=hT.cellAt (j:=0) hcss rfl
  obtain⟨g1,_,_⟩:=hT.cellAt (j:=1) hcss rfl
  rw[Nat.add_zero] at g0
  have HX:=qhd hx
  have HCS:=qhd hcss
  have hin2:(n:Int)≤(cap:Int):=by omega
  have hcw:wk.cell? ⟨BX,0,none⟩=some (.string nm):=by
   have:=HO.out BX (block_lt_of_cell HC.out) hBG
   rw[←HC.out]
   simp only[World.cell?,this]
  have HCW:=qhd hcw
  clear hT hcl hkl hrows hrest hB hK hO hx hcs hcss hck bx1 hcw
  go_wp2_with fail
  refine nameW (P:=fun W=>Calls Tryz.prog 194 #[.agg #[.string x.fName,.int .i64 x.fKeeper],.pointer (some ⟨BX,0,none⟩)] W _) _ (fun wq hwq=>?_)
  have hBq:Below wk.heap.size wk wq:=by rw[hwq];exact bbel
  have f0:wq.cell? ⟨wk.heap.size,0,none⟩=some (.string x.fName):=by rw[hwq];go_simp
  have f1:wq.cell? ⟨wk.heap.size,1,none⟩=some (.int .i64 x.fKeeper):=by rw[hwq];go_simp
  have hzq:wq.heap.size=wk.heap.size+1:=by rw[hwq];simp[World.setCell]
  clear hwq g0 g1
  refine(I_ask_one x nm BX wq (qaa hBq HCW.out)).mono ?_
  rintro _ wz ⟨rfl,hz⟩
  have h0:=qaa hz f0
  have h1:=qaa hz f1
  have hszz:=hz.size
  have HZ:=qhd (hBq.trans (hz.mono hBq.size))
  clear hz hBq f0 f1
  have RZ:=qhd ((rLodAsk_goodT).stays _ _ _ _ _ (KeepsT.of_below HZ.out) hrow'.out)
  cases hsx:sameN x.fName nm
  ·have HSX:=qhd hsx
   clear hsx
   have hil9:i < cs9.length:=by have:=HCL.out;have:=HM.out;omega
   obtain⟨csi,hcsi⟩:∃ cs,cs9[i]? =some cs:=⟨_,List.getElem?_eq_getElem hil9⟩
   have TZ:=qhd (HT9.out.belowB HZ.out)
   have hli:=(TZ.out.rows.row i _ _ hcsi hcsi).1
   obtain⟨v0,hv0⟩:∃ u,csi[0]? =some u:=⟨_,List.getElem?_eq_getElem (by omega)⟩
   obtain⟨p0,r0,_⟩:=TZ.out.cellAt (j:=0) hcsi hv0
   obtain⟨v1,hv1⟩:∃ u,csi[1]? =some u:=⟨_,List.getElem?_eq_getElem (by omega)⟩
   obtain⟨p1,r1,_⟩:=TZ.out.cellAt (j:=1) hcsi hv1
   rw[Nat.add_zero] at p0 r0
   have HCI:=qhd hcsi
   have HLI:=qhd hli
   clear hcsi hli
   go_wp2
   go_roundw
   case measure=>simp[intOf];omega
   case rel=>
    have tyS:TypeAt wz G 48:=by
     obtain⟨cur,h9⟩:=TZ.out.typeAt
     exact⟨cur,_,h9⟩
    have hKt:=KeepsT.setCells (E:=NotT 48) (lo:=0) (notT _) ([.string x.fName,.int .i64 x.fKeeper]) (i * 2) _ tyS
    have hBt:Below lo wz (wz.setCells G (i * 2) ([.string x.fName,.int .i64 x.fKeeper])):=(Turn.setCells G _ _ _).below (by have:=TZ.out.own G rfl;omega)
    have hTt:=TZ.out.setRow (vs:=[.string x.fName,.int .i64 x.fKeeper]) HCI.out rfl (by intro u hu;simp at hu;rcases hu with rfl|rfl<;>rfl)
    have hOt:∀ b,b≠G→(wz.setCells G (i * 2) ([.string x.fName,.int .i64 x.fKeeper])).heap[b]? =wz.heap[b]? :=fun b hb=>heap_setCells G _ _ _ _ hb
    refine⟨i+1,j+1,cs9.set i ([.string x.fName,.int .i64 x.fKeeper]),by omega,by omega,by go_num,by go_num,hTt,by rw[List.length_set];exact HCL.out,?_,?_,fun m hm=>by rw[List.getElem?_set_ne (by omega)];exact HRE.out m (by omega),(HB.out.trans (HZ.out.mono hloK)).trans hBt,(HK.out.trans (KeepsT.of_below HZ.out)).trans hKt,fun b hb hg=>(hOt b hg).trans ((HZ.out.block b (by omega)).trans (HO.out b hb hg))⟩
    ·rw[keepN_snoc HX.out,if_neg (by rw[HSX.out];decide),List.length_append,HKL.out];rfl
    ·rw[keepN_snoc HX.out,if_neg (by rw[HSX.out];decide),List.take_add_one,List.take_set_of_le (Nat.le_refl _),List.getElem?_set_self hil9]
     have h9:=HR9.out.mono fun cs x h=>(rLodAsk_goodT).stays _ _ _ _ _ (((KeepsT.of_below HZ.out).trans (hKt.weaken (fun e he=>he.elim))).lift (Nat.zero_le _)) h
     exact h9.append (Rows.one rfl <|(rLodAsk_goodT).stays _ _ _ _ _ ((hKt.weaken (fun e he=>he.elim)).lift (Nat.zero_le _)) RZ.out)
  ·have HSX:=qhd hsx
   clear hsx h0 h1
   go_wp2
   go_roundw
   case measure=>simp[intOf];omega
   case rel=>
    refine⟨i,j+1,cs9,by omega,by omega,rfl,by go_num,HT9.out.belowB HZ.out,HCL.out,?_,?_,fun m hm=>HRE.out m (by omega),HB.out.trans (HZ.out.mono hloK),HK.out.trans (KeepsT.of_below HZ.out),fun b hb hg=>(HZ.out.block b (by omega)).trans (HO.out b hb hg)⟩
    ·rw[keepN_snoc HX.out,if_pos HSX.out,List.append_nil];exact HKL.out
    ·rw[keepN_snoc HX.out,if_pos HSX.out,List.append_nil]
     exact HR9.out.mono fun cs x h=>(rLodAsk_goodT).stays _ _ _ _ _ (KeepsT.of_below HZ.out) h

theorem cell_same {w w':World} {b o:Nat} (h:w'.heap[b]? =w.heap[b]?):w'.cell? ⟨b,o,none⟩=w.cell? ⟨b,o,none⟩:=by simp only[World.cell?,h]
theorem frozen_same {w w':World} {b o:Nat} (h:w'.heap[b]? =w.heap[b]?):w'.frozen? ⟨b,o,none⟩=w.frozen? ⟨b,o,none⟩:=by simp only[World.frozen?,h]
theorem setCell_block {w w':World} {b o:Nat} {v:Value} (h:w'.heap[b]? =w.heap[b]?):(w'.setCell ⟨b,o,none⟩ v).heap[b]? =(w.setCell ⟨b,o,none⟩ v).heap[b]? :=by
 show(w'.heap.modify b _)[b]? =(w.heap.modify b _)[b]?
 rw[Array.getElem?_modify,Array.getElem?_modify,if_pos rfl,if_pos rfl,h]
theorem cell_ofBlock {w:World} {b o:Nat} {cs:Array Value} {t:TypeId} {v:Value} (h:w.heap[b]? =some (.cells cs t (0,0))) (hv:cs[o]? =some v):w.cell? ⟨b,o,none⟩=some v∧w.frozen? ⟨b,o,none⟩=false:=by
 refine⟨?_,?_⟩<;>simp[World.cell?,World.frozen?,h,hv]
theorem block_ofCell {w:World} {b o:Nat} {cs:Array Value} {t:TypeId} {v:Value} (h:w.heap[b]? =some (.cells cs t (0,0))) (hc:w.cell? ⟨b,o,none⟩=some v):cs[o]? =some v:=by
 simpa[World.cell?,h] using hc
theorem TOwnC.keptR {α:Type} {k:Nat} {E:TypeId→Prop} {R:RowRel α} (hR:GoodT E R) {e:TypeId} {lo B:Nat} {w w':World} {v:Value} {css:List (List Value)} {xs:List α} (h:TOwnC k R e lo B w v css xs) (hk:KeepsT E lo w w') (hb:∀ b,v.ownBlock=some b→w'.heap[b]? =w.heap[b]?):TOwnC k R e lo B w' v css xs:=
 ⟨h.rows.mono fun _ _ h=>hR.stays _ _ _ _ _ hk h,own_kept h.owns (fun g cs fr hg _ _=>hb g hg),h.own⟩
theorem set_set_block {w w1:World} {b o:Nat} {cs:Array Value} {t:TypeId} {u v:Value} (h:w.heap[b]? =some (.cells cs t (0,0))) (h1:w1.heap[b]? =(w.setCell ⟨b,o,none⟩ u).heap[b]?):(w1.setCell ⟨b,o,none⟩ v).heap[b]? =(w.setCell ⟨b,o,none⟩ v).heap[b]? :=by
 rw[qar h] at h1
 rw[qar h1,qar h]
 congr 2
 apply Array.ext_getElem?
 intro i
 simp only[Array.getElem?_setIfInBounds]
 split<;>simp_all
structure Kp (s : Option Nat) (w w' : World) : Prop where
 os:w'.os=w.os
 tape:w'.tape=w.tape
 output:w'.output=w.output
 size:w.heap.size≤w'.heap.size
 block:∀ b,b < w.heap.size→s≠some b→w'.heap[b]? =w.heap[b]?
theorem Kp.rfl (s:Option Nat) (w:World):Kp s w w:=⟨_root_.rfl,_root_.rfl,_root_.rfl,Nat.le_refl _,fun _ _ _=>_root_.rfl⟩
theorem Kp.of_below {s:Option Nat} {w w':World} (h:Below w.heap.size w w'):Kp s w w':=⟨h.os,h.tape,h.output,h.size,fun b hb _=>h.block b hb⟩
theorem Kp.of_grown {s:Option Nat} {w w':World} (h:w.grownBy w' s):Kp s w w':=⟨h.os,h.tape,h.output,h.size,fun b hb hs=>h.block b hb (fun e=>hs e.symm)⟩
theorem Kp.trans {s:Option Nat} {w w' w'':World} (h:Kp s w w') (h':Kp s w' w''):Kp s w w'':=⟨h'.os.trans h.os,h'.tape.trans h.tape,h'.output.trans h.output,Nat.le_trans h.size h'.size,fun b hb hs=>(h'.block b (Nat.lt_of_lt_of_le hb h.size) hs).trans (h.block b hb hs)⟩
theorem Kp.below {s:Option Nat} {lo:Nat} {w w':World} (h:Kp s w w') (hl:lo≤w.heap.size) (hs:∀ b,s=some b→lo≤b):Below lo w w':=⟨h.os,h.tape,h.output,h.size,fun b hb=>h.block b (Nat.lt_of_lt_of_le hb hl) (fun e=>by have:=hs b e;omega)⟩
def apG (E:TypeId→Prop) (s:Option Nat) (n j:Nat) (w w':World):Prop:=(j≠n∧Below w.heap.size w w')∨(j=n∧Kp s w w'∧KeepsT E 0 w w')
theorem apG_of {E:TypeId→Prop} {s:Option Nat} {n j:Nat} {w w':World} (hj:j≠n) (h:Below w.heap.size w w'):apG E s n j w w':=Or.inl ⟨hj,h⟩
theorem apG_rfl (E:TypeId→Prop) (s:Option Nat) (n j:Nat) (w:World):apG E s n j w w:=by
 by_cases h:j=n
 ·exact Or.inr ⟨h,Kp.rfl _ _,KeepsT.refl _ _ _⟩
 ·exact Or.inl ⟨h,Below.refl _ _⟩
theorem apG_keeps {E:TypeId→Prop} {s:Option Nat} {n j:Nat} {w w':World} (h:apG E s n j w w'):KeepsT E 0 w w':=by
 rcases h with ⟨_,h⟩|⟨_,_,h⟩
 ·exact KeepsT.of_below h
 ·exact h
theorem apG_block {E:TypeId→Prop} {s:Option Nat} {n j:Nat} {w w':World} (h:apG E s n j w w') {b:Nat} (hb:b < w.heap.size) (hs:s≠some b):w'.heap[b]? =w.heap[b]? :=by
 rcases h with ⟨_,h⟩|⟨_,h,_⟩
 ·exact h.block b hb
 ·exact h.block b hb hs
theorem src_row {k:Nat} {w:World} {g:Nat} {row:List Value} {t:TypeId} (h:w.heap[g]? =some (.cells row.toArray t (0,0))):Src k w (.slice (some ⟨g,0,none⟩) 1 1) [row]:=Src.one fun j u hj=>by
 simpa[World.cell?,h] using hj
structure Held (k : Nat) {α : Type} (R : RowRel α) (t : TypeId) (lo Q o : Nat) (w w' : World) (old new : Value) (xs : List α) : Prop where
 holds:∃ cs,TOwnC k R t lo lo w' new cs xs
 below:Below lo w w'
 here:w'.heap[Q]? =(w.setCell ⟨Q,o,none⟩ new).heap[Q]?
 there:∀ b,b < w.heap.size→b≠Q→old.ownBlock≠some b→w'.heap[b]? =w.heap[b]?
 block:∀ g,new.ownBlock=some g→old.ownBlock=some g∨w.heap.size≤g

theorem I_own_apply (xs:List DClsClass) (nm:ByteArray) (Q o:Nat) (a:Option Addr) (n cap:Nat) (css:List (List Value)) (lo:Nat) (w:World) (hlo:lo≤w.heap.size) (hT:TOwnC 4 rCel 29 lo lo w (.slice a n cap) css css) (hr:Rows 4 tClsClass lo w css xs) (cq:Array Value) (hQb:w.heap[Q]? =some (.cells cq 46 (0,0))) (hq:cq[o]? =some (.slice a n cap)) (hQlo:lo≤Q) (hne:∀ g,(.slice a n cap:Value).ownBlock=some g→Q≠g) :
  Calls Tryz.prog 187 #[.agg #[.string nm],.pointer (some ⟨Q,o,none⟩)] w fun e w'=>(∃ u,e=.returned u)∧∃ (m:Nat),Held 4 tClsClass 29 lo Q (o) w w' (.slice a n cap) (.slice a m cap) (keepN (·.fName) nm xs):=by
 obtain⟨_,_,e9,hnc,hcm⟩:=own_form hT.owns
 have hm:css.length=n:=by cases e9;rfl
 have hQ:Q < w.heap.size:=heapLt hQb
 obtain⟨hqc,hqf⟩:=cell_ofBlock hQb hq
 have HQB:=qhd hQb
 have HT:=qhd hT
 have HRR:=qhd hr
 have HM:=qhd hm
 have HNE:=qhd hne
 have HQ:=qhd hqc
 have HQF:=qhd hqf
 clear hT hr hm hne e9 hnc hcm hq hQb
 refine qac fun R HR=>?_
 go_enter Tryz.func187,Tryz.ntmps187
 go_wp2_with fail
 refine nameW (P:=fun W=>Calls Tryz.prog 188 #[.slice a n cap,.func (.func 189) #[] #[.pointer (some ⟨w.heap.size,0,none⟩)]] W _) _ (fun wq hwq=>?_)
 have hBq:Below w.heap.size w wq:=by rw[hwq];exact bbel
 have f0:wq.cell? ⟨w.heap.size,0,none⟩=some (.string nm):=by rw[hwq];go_simp
 have hzq:wq.heap.size=w.heap.size+1:=by rw[hwq];simp
 have hwB:∀ b,b < w.heap.size→wq.heap[b]? =w.heap[b]? :=fun b hb=>hBq.block b hb
 clear hwq hqc hqf
 refine(I_own_delete xs nm w.heap.size a n cap css lo wq (by omega) (HT.out.belowB hBq) (HRR.out.mono fun cs x h=>(tClsClass_goodT).stays _ _ _ _ _ (KeepsT.of_below hBq) h) f0 (fun g hg=>by have:=(HT.out.owns.lt g hg).2;omega) HM.out).mono ?_
 rintro _ w3 ⟨⟨m,cs',rfl,hT3,hR3⟩,hB3,hO3⟩
 have hO:∀ b,b < w.heap.size→(.slice a n cap:Value).ownBlock≠some b→w3.heap[b]? =w.heap[b]? :=fun b hb hg=>(hO3 b (by omega) hg).trans (hwB b hb)
 have hQ3:=hO Q hQ (fun h=>HNE.out Q h rfl)
 have c3:w3.cell? ⟨Q,o,none⟩=some (.slice a n cap):=(cell_same hQ3).trans HQ.out
 have z3:w3.frozen? ⟨Q,o,none⟩=false:=(frozen_same hQ3).trans HQF.out
 have T3:=qhd hT3
 have R3:=qhd hR3
 have B3:=qhd ((hBq.mono hlo).trans hB3)
 have O3:=qhd hO
 have HQ3:=qhd hQ3
 have HTY:Hid (TypeAt w3 Q 46):=qhd ⟨_,_,hQ3.trans HQB.out⟩
 clear hT3 hR3 hB3 hO3 hO hBq hwB f0 hQ3
 go_wp2
 all_goals (try go_returns)
 all_goals exact HR.out _ _ ⟨⟨_,rfl⟩,m,⟨cs',(T3.out.keptB fun g hg=>Below.heap_setCell _ _ _ _ (by have:=HNE.out g (by cases a with|none=>exact hg|some _=>exact hg);show g≠Q;omega)).toT (R3.out.mono fun cs x h=>(tClsClass_goodT).stays _ _ _ _ _ (KeepsT.set HTY.out (by unfold EClsClass;decide)) h)⟩,B3.out.setCell (by show lo≤Q;exact hQlo) _,setCell_block HQ3.out,fun b hb hbQ hg=>(Below.heap_setCell _ _ _ _ (by show b≠Q;exact hbQ)).trans (O3.out b hb hg),fun g hg=>Or.inl (by cases a with|none=>exact hg|some _=>exact hg)⟩

theorem I_ask_apply (xs:List DLodAsk) (nm:ByteArray) (Q o:Nat) (a:Option Addr) (n cap:Nat) (css:List (List Value)) (lo:Nat) (w:World) (hlo:lo≤w.heap.size) (hT:TOwnC 2 rCel 48 lo lo w (.slice a n cap) css css) (hr:Rows 2 rLodAsk lo w css xs) (cq:Array Value) (hQb:w.heap[Q]? =some (.cells cq 46 (0,0))) (hq:cq[o+1]? =some (.slice a n cap)) (hQlo:lo≤Q) (hne:∀ g,(.slice a n cap:Value).ownBlock=some g→Q≠g) :
  Calls Tryz.prog 192 #[.agg #[.string nm],.pointer (some ⟨Q,o,none⟩)] w fun e w'=>(∃ u,e=.returned u)∧∃ (m:Nat),Held 2 rLodAsk 48 lo Q (o+1) w w' (.slice a n cap) (.slice a m cap) (keepN (·.fName) nm xs):=by
 obtain⟨_,_,e9,hnc,hcm⟩:=own_form hT.owns
 have hm:css.length=n:=by cases e9;rfl
 have hQ:Q < w.heap.size:=heapLt hQb
 obtain⟨hqc,hqf⟩:=cell_ofBlock hQb hq
 have HQB:=qhd hQb
 have HT:=qhd hT
 have HRR:=qhd hr
 have HM:=qhd hm
 have HNE:=qhd hne
 have HQ:=qhd hqc
 have HQF:=qhd hqf
 clear hT hr hm hne e9 hnc hcm hq hQb
 refine qac fun R HR=>?_
 go_enter Tryz.func192,Tryz.ntmps192
 go_wp2_with fail
 refine nameW (P:=fun W=>Calls Tryz.prog 193 #[.slice a n cap,.func (.func 194) #[] #[.pointer (some ⟨w.heap.size,0,none⟩)]] W _) _ (fun wq hwq=>?_)
 have hBq:Below w.heap.size w wq:=by rw[hwq];exact bbel
 have f0:wq.cell? ⟨w.heap.size,0,none⟩=some (.string nm):=by rw[hwq];go_simp
 have hzq:wq.heap.size=w.heap.size+1:=by rw[hwq];simp
 have hwB:∀ b,b < w.heap.size→wq.heap[b]? =w.heap[b]? :=fun b hb=>hBq.block b hb
 clear hwq hqc hqf
 refine(I_ask_delete xs nm w.heap.size a n cap css lo wq (by omega) (HT.out.belowB hBq) (HRR.out.mono fun cs x h=>(rLodAsk_goodT).stays _ _ _ _ _ (KeepsT.of_below hBq) h) f0 (fun g hg=>by have:=(HT.out.owns.lt g hg).2;omega) HM.out).mono ?_
 rintro _ w3 ⟨⟨m,cs',rfl,hT3,hR3⟩,hB3,hO3⟩
 have hO:∀ b,b < w.heap.size→(.slice a n cap:Value).ownBlock≠some b→w3.heap[b]? =w.heap[b]? :=fun b hb hg=>(hO3 b (by omega) hg).trans (hwB b hb)
 have hQ3:=hO Q hQ (fun h=>HNE.out Q h rfl)
 have c3:w3.cell? ⟨Q,o+1,none⟩=some (.slice a n cap):=(cell_same hQ3).trans HQ.out
 have z3:w3.frozen? ⟨Q,o+1,none⟩=false:=(frozen_same hQ3).trans HQF.out
 have T3:=qhd hT3
 have R3:=qhd hR3
 have B3:=qhd ((hBq.mono hlo).trans hB3)
 have O3:=qhd hO
 have HQ3:=qhd hQ3
 have HTY:Hid (TypeAt w3 Q 46):=qhd ⟨_,_,hQ3.trans HQB.out⟩
 clear hT3 hR3 hB3 hO3 hO hBq hwB f0 hQ3
 go_wp2
 all_goals (try go_returns)
 all_goals exact HR.out _ _ ⟨⟨_,rfl⟩,m,⟨cs',(T3.out.keptB fun g hg=>Below.heap_setCell _ _ _ _ (by have:=HNE.out g (by cases a with|none=>exact hg|some _=>exact hg);show g≠Q;omega)).toT (R3.out.mono fun cs x h=>(rLodAsk_goodT).stays _ _ _ _ _ (KeepsT.set HTY.out (by exact fun h=>h)) h)⟩,B3.out.setCell (by show lo≤Q;exact hQlo) _,setCell_block HQ3.out,fun b hb hbQ hg=>(Below.heap_setCell _ _ _ _ (by show b≠Q;exact hbQ)).trans (O3.out b hb hg),fun g hg=>Or.inl (by cases a with|none=>exact hg|some _=>exact hg)⟩
def gvF (B:Nat) (s:Option Nat) (Q o BX lo:Nat) (qv:Value) (row0:Array Value) (xs:List DClsClass) (c:DClsClass):Nat→Value→World→Prop
 | 0,v,w=>v=.pointer (some ⟨Q,o,none⟩)
 | 1,v,w=>v=.pointer (some ⟨Q,o,none⟩)
 | 2,v,w=>v=.pointer (some ⟨Q,o,none⟩)
 | 3,v,w=>v=.pointer (some ⟨Q,o,none⟩)
 | 4,v,w=>v=qv
 | 5,v,w=>v=.pointer (some ⟨BX,0,none⟩)
 | 6,v,w=>v=.agg row0
 | 7,v,w=>∃ row:List Value,v=.agg row.toArray∧tClsClass lo w row c
 | 8,v,w=>∃ (g9:Nat) (row:List Value),v=.slice (some ⟨g9,0,none⟩) 1 1∧B≤g9∧w.heap[g9]? =some (.cells row.toArray 29 (0,0))∧tClsClass lo w row c
 | 9,v,w=>∃ cs,TOwnC 4 tClsClass 29 lo lo w v cs (xs++[c])∧∀ b,v.ownBlock=some b→s=some b∨B≤b
 | _,_,_=>True
theorem gvF_stays {B:Nat} {s:Option Nat} {Q o BX lo:Nat} {qv:Value} {row0:Array Value} {xs:List DClsClass} {c:DClsClass} (hrow:∀ g,B≤g→s≠some g):∀ i j u w w',i≠j→apG EClsClass s 9 j w w'→gvF B s Q o BX lo qv row0 xs c i u w→gvF B s Q o BX lo qv row0 xs c i u w':=by
 intro i j u w w' hne hg h
 match i with
 | 0|1|2|3|4|5|6=>exact h
 | 7=>
   obtain⟨row,h1,h2⟩:=h
   exact⟨row,h1,tClsClass_goodT.stays _ _ _ _ _ ((apG_keeps hg).lift (Nat.zero_le _)) h2⟩
 | 8=>
   obtain⟨g9,row,h1,h2,h3,h4⟩:=h
   exact⟨g9,row,h1,h2,(apG_block hg (heapLt h3) (hrow g9 h2)).trans h3,tClsClass_goodT.stays _ _ _ _ _ ((apG_keeps hg).lift (Nat.zero_le _)) h4⟩
 | 9=>
   obtain⟨cs,h1,h2⟩:=h
   rcases hg with ⟨_,hg⟩|⟨h9,_⟩
   ·exact⟨cs,h1.below tClsClass_goodT hg,h2⟩
   ·exact absurd h9.symm hne
 | n+10=>trivial

theorem I_give_apply (xs:List DClsClass) (c:DClsClass) (a1:Option Addr) (n1 d1:Nat) (a2:Option Addr) (n2 d2:Nat) (Q o:Nat) (a:Option Addr) (n cap:Nat) (css:List (List Value)) (lo:Nat) (W0 w:World) (hlo:lo≤w.heap.size) (hW:Below W0.heap.size W0 w) (hW0:W0.heap.size≤lo) (hT:TOwnC 4 rCel 29 lo lo w (.slice a n cap) css css) (hr:Rows 4 tClsClass lo w css xs) (cq:Array Value) (hQb:w.heap[Q]? =some (.cells cq 46 (0,0))) (hq:cq[o]? =some (.slice a n cap)) (hQlo:lo≤Q) (hne:∀ g,(.slice a n cap:Value).ownBlock=some g→Q≠g) (hxl:xs.length≤999999) (s1:Sl 3 rClsField 0 W0 (.slice a1 n1 d1) c.fFields) (s2:Sl 8 rClsMethod 0 W0 (.slice a2 n2 d2) c.fMethods) (hnm:c.fName.size≤maxLen) (hsm:c.fSuper.size≤maxLen) (hsh:ShortC c) :
  Calls Tryz.prog 186 #[.agg #[.string c.fName,.string c.fSuper,.slice a1 n1 d1,.slice a2 n2 d2],.pointer (some ⟨Q,o,none⟩)] w fun e w'=>(∃ u,e=.returned u)∧∃ new,Held 4 tClsClass 29 lo Q (o) w w' (.slice a n cap) new (keepN (·.fName) c.fName xs++[c]):=by
 have hQ:Q < w.heap.size:=heapLt hQb
 have HQB:=qhd hQb
 have HT:=qhd hT
 have HRR:=qhd hr
 have HNE:=qhd hne
 have HQC:=qhd hq
 have HW:=qhd hW
 have S1:=qhd s1
 have S2:=qhd s2
 clear s1 s2
 clear hT hr hne hQb hq hW
 refine qac fun R HR=>?_
 go_enter Tryz.func186,Tryz.ntmps186
 go_wp2_with fail
 refine nameW (P:=fun W=>Calls Tryz.prog 187 #[.agg #[.string c.fName],.pointer (some ⟨Q,o,none⟩)] W _) _ (fun wq hwq=>?_)
 have hBq:Below w.heap.size w wq:=by rw[hwq];exact bbel
 have f0:wq.cell? ⟨w.heap.size,0,none⟩=some (.string c.fName):=by rw[hwq];go_simp
 have f1:wq.cell? ⟨w.heap.size,1,none⟩=some (.string c.fSuper):=by rw[hwq];go_simp
 have f2:wq.cell? ⟨w.heap.size,2,none⟩=some (.slice a1 n1 d1):=by rw[hwq];go_simp
 have f3:wq.cell? ⟨w.heap.size,3,none⟩=some (.slice a2 n2 d2):=by rw[hwq];go_simp
 have hzq:wq.heap.size=w.heap.size+1:=by rw[hwq];simp
 clear hwq
 refine(I_own_apply xs c.fName Q o a n cap css lo wq (by omega) (HT.out.belowB hBq) (HRR.out.mono fun cs x h=>(tClsClass_goodT).stays _ _ _ _ _ (KeepsT.of_below hBq) h) cq ((hBq.block _ hQ).trans HQB.out) HQC.out hQlo HNE.out).mono ?_
 rintro _ w1 ⟨⟨u0,rfl⟩,m,H1⟩
 have hold:∀ g,(.slice a n cap:Value).ownBlock=some g→g < w.heap.size:=fun g hg=>(HT.out.owns.lt g hg).2
 have hbx:w1.heap[w.heap.size]? =wq.heap[w.heap.size]? :=H1.there _ (by omega) (by omega) (fun h=>by have:=hold _ h;omega)
 have h0:=(cell_same (o:=0) hbx).trans f0
 have h1:=(cell_same (o:=1) hbx).trans f1
 have h2:=(cell_same (o:=2) hbx).trans f2
 have h3:=(cell_same (o:=3) hbx).trans f3
 have hQ1:w1.heap[Q]? =some (.cells (cq.setIfInBounds (o) (.slice a m cap)) 46 (0,0)):=H1.here.trans (qar ((hBq.block _ hQ).trans HQB.out))
 have hin:o < cq.size:=(Array.getElem?_eq_some_iff.1 HQC.out).1
 obtain⟨rQ,rQf⟩:=cell_ofBlock (v:=.slice a m cap) hQ1 (by rw[Array.getElem?_setIfInBounds,if_pos rfl,if_pos hin])
 have hz1:=H1.below.size
 have hQw1:Q < w1.heap.size:=heapLt hQ1
 have hBw:Below lo w w1:=(hBq.mono hlo).trans H1.below
 have HBW:=qhd hBw
 have HH1:=qhd H1
 have HQ1:=qhd hQ1
 have HBq:=qhd hBq
 have HRQ:=qhd rQ
 have hQn:(.slice a m cap:Value).ownBlock≠some Q:=fun h=>by
  rcases H1.block Q h with h|h
  ·exact HNE.out Q h rfl
  ·omega
 have hown:∀ b,(.slice a m cap:Value).ownBlock=some b→lo≤b:=fun b hb=>by
  obtain⟨cx,h⟩:=H1.holds
  exact h.own b hb
 have hownl:∀ b,(.slice a m cap:Value).ownBlock=some b→b < w1.heap.size:=fun b hb=>by
  obtain⟨cx,h⟩:=H1.holds
  exact(h.owns.lt b hb).2
 have hXn:(.slice a m cap:Value).ownBlock≠some w.heap.size:=fun h=>by
  rcases H1.block _ h with h|h
  ·have:=hold _ h;omega
  ·omega
 have hrow:∀ g,w1.heap.size≤g→(.slice a m cap:Value).ownBlock≠some g:=fun g hg e=>by have:=hownl g e;omega
 have hGQ:Hid (∀ W,Kp (.slice a m cap:Value).ownBlock w1 W→W.cell? ⟨Q,o,none⟩=some (.slice a m cap)):=qhd fun W hW9=>(cell_same (hW9.block Q hQw1 hQn)).trans rQ
 have hGX:Hid (∀ W,Kp (.slice a m cap:Value).ownBlock w1 W→W.cell? ⟨w.heap.size,0,none⟩=some (.string c.fName)∧W.cell? ⟨w.heap.size,1,none⟩=some (.string c.fSuper)∧W.cell? ⟨w.heap.size,2,none⟩=some (.slice a1 n1 d1)∧W.cell? ⟨w.heap.size,3,none⟩=some (.slice a2 n2 d2)):=qhd fun W hW9=>by
  have h9:W.heap[w.heap.size]? =w1.heap[w.heap.size]? :=hW9.block _ (by omega) hXn
  exact⟨(cell_same h9).trans h0,(cell_same h9).trans h1,(cell_same h9).trans h2,(cell_same h9).trans h3⟩
 have hlq:Hid (lo≤w1.heap.size):=qhd (by omega)
 have hlen:(keepN (·.fName) c.fName xs).length+[c].length≤1000000:=by
  have:=keepN_len (f:=(·.fName)) (nm:=c.fName) (xs:=xs)
  simp only[List.length_cons,List.length_nil];omega
 have CPY:Hid (∀ W,Kp (.slice a m cap:Value).ownBlock w1 W→Calls Tryz.prog 67 #[.agg #[.string c.fName,.string c.fSuper,.slice a1 n1 d1,.slice a2 n2 d2]] W fun e w'=>(∃ row:List Value,e=.returned (.agg row.toArray)∧tClsClass lo w' row c)∧Below W.heap.size W w'):=qhd fun W hWW=>by
  have hB9:Below lo w1 W:=hWW.below (by omega) hown
  have hk:=Keeps.of_below (lo:=0) (HW.out.trans ((HBW.out.trans hB9).mono hW0))
  have hzz:=hB9.size
  exact(I_copyClass c a1 n1 d1 a2 n2 d2 W (S1.out.stays qah hk) (S2.out.stays qag hk) hnm hsm hsh).mono fun e w' h=>by
   obtain⟨⟨row,h1,h2⟩,h3⟩:=h
   exact⟨⟨row,h1,tClsClass_goodT.low _ _ _ _ _ (by omega) h2⟩,h3⟩
 clear H1 hbx hQ1 hBw hBq f0 f1 f2 f3 h0 h1 h2 h3
 go_wp2_with fail
 refine qav 10 (fun W=>Kp (.slice a m cap:Value).ownBlock w1 W) (fun i=>apG EClsClass (.slice a m cap:Value).ownBlock 9 i) (fun _=>gvF w1.heap.size (.slice a m cap:Value).ownBlock Q o w.heap.size lo (.slice a m cap) #[.string c.fName,.string c.fSuper,.slice a1 n1 d1,.slice a2 n2 d2] (keepN (·.fName) c.fName xs) c) (fun i W=>i=9→∃ cx,TOwnC 4 tClsClass 29 lo lo W (.slice a m cap) cx (keepN (·.fName) c.fName xs)) noDead (by kernel_rfl) (by decide) (by kernel_rfl) (Or.inr ⟨by kernel_rfl,by kernel_rfl⟩) (by kernel_rfl) ⟨rfl,rfl,rfl,Nat.le_refl _,fun _ _ _=>rfl⟩ (fun _ _ _ _ _ _ _ _ _ h=>h) noDead_dead (fun i _=>by obtain⟨cx,h⟩:=HH1.out.holds;exact⟨cx,h.below tClsClass_goodT ((Below.refl _ _).drew)⟩) ?hI (fun _ i j u w1 w2 hne _ _ hg hF=>gvF_stays hrow i j u w1 w2 hne hg hF) (fun _ _ _=>apG_rfl _ _ _ _ _) ?_
 case hI=>
  intro i j w1 w2 hne _ hg h e
  rcases hg with ⟨_,hg⟩|⟨h9,_⟩
  ·obtain⟨cx,h⟩:=h e
   exact⟨cx,h.below tClsClass_goodT hg⟩
  ·exact absurd (e.trans h9.symm) hne
 refine qab (d:=10) rfl rfl (fun wx hC hI hd S0 hS=>?_) (fun v0=>?_)
 ·have HSS:=qhd hS;clear hS hd hI
  go_simp
  exact HSS.out _ _ hC (apG_rfl _ _ _ _ _) (by simp[gvF])
 simp only[qnr]
 refine qab (d:=11) rfl rfl (fun wx hC hI hd S0 hS=>?_) (fun v1=>?_)
 ·have HSS:=qhd hS;clear hS hd hI
  go_simp
  exact HSS.out _ _ hC (apG_rfl _ _ _ _ _) (by simp[gvF])
 simp only[qnr]
 refine qab (d:=12) rfl rfl (fun wx hC hI hd S0 hS=>?_) (fun v2=>?_)
 ·have d1:=hd ⟨1,.data⟩ (by simp) rfl v1 (by simp)
  simp only[gvF] at d1
  subst d1
  have HSS:=qhd hS;clear hS hd hI
  go_simp
  exact HSS.out _ _ hC (apG_rfl _ _ _ _ _) (by simp[gvF])
 simp only[qnr]
 refine qab (d:=13) rfl rfl (fun wx hC hI hd S0 hS=>?_) (fun v3=>?_)
 ·have d2:=hd ⟨2,.data⟩ (by simp) rfl v2 (by simp)
  simp only[gvF] at d2
  subst d2
  have HSS:=qhd hS;clear hS hd hI
  go_simp
  exact HSS.out _ _ hC (apG_rfl _ _ _ _ _) (by simp[gvF])
 simp only[qnr]
 refine qab (d:=14) rfl rfl (fun wx hC hI hd S0 hS=>?_) (fun v4=>?_)
 ·have d3:=hd ⟨3,.data⟩ (by simp) rfl v3 (by simp)
  simp only[gvF] at d3
  subst d3
  have c0':=hGQ.out _ hC
  have HSS:=qhd hS;clear hS hd hI
  go_simp
  exact HSS.out _ _ hC (apG_rfl _ _ _ _ _) (by simp[gvF])
 simp only[qnr]
 refine qab (d:=15) rfl rfl (fun wx hC hI hd S0 hS=>?_) (fun v5=>?_)
 ·have HSS:=qhd hS;clear hS hd hI
  go_simp
  exact HSS.out _ _ hC (apG_rfl _ _ _ _ _) (by simp[gvF])
 simp only[qnr]
 refine qab (d:=16) rfl rfl (fun wx hC hI hd S0 hS=>?_) (fun v6=>?_)
 ·have d5:=hd ⟨5,.data⟩ (by simp) rfl v5 (by simp)
  simp only[gvF] at d5
  subst d5
  obtain⟨e0,e1,e2,e3⟩:=hGX.out _ hC
  have HSS:=qhd hS;clear hS hd hI
  go_simp
  exact HSS.out _ _ hC (apG_rfl _ _ _ _ _) (by simp[gvF])
 simp only[qnr]
 refine qab (d:=17) rfl rfl (fun wx hC hI hd S0 hS=>?_) (fun v7=>?_)
 ·have d6:=hd ⟨6,.data⟩ (by simp) rfl v6 (by simp)
  simp only[gvF] at d6
  subst d6
  have HSS:=qhd hS;clear hS hd hI
  go_simp
  refine(CPY.out _ hC).mono ?_
  rintro _ w' ⟨⟨row,rfl,ht'⟩,hX⟩
  refine HSS.out _ _ (hC.trans (Kp.of_below hX)) (apG_of (by simp) hX) ?_
  (simp only[qls,Nat.reduceAdd,gvF])
  exact⟨row,rfl,ht'⟩
 simp only[qnr]
 refine qab (d:=18) rfl rfl (fun wx hC hI hd S0 hS=>?_) (fun v8=>?_)
 ·have d7:=hd ⟨7,.data⟩ (by simp) rfl v7 (by simp)
  simp only[gvF] at d7
  obtain⟨rw7,rfl,h7⟩:=d7
  have HSS:=qhd hS;clear hS hd hI
  have hzx:=hC.size
  have h9:=run_one sty_Cls rw7 (tClsClass_len h7) (by decide) wx
  refine wp_buildOne rfl rfl h9 ⟨put_defers' _ _ _,?_⟩
  rw[qae (by simp)]
  refine HSS.out _ _ (hC.trans (Kp.of_below ((Below.refl _ _).alloc (Nat.le_refl _) _))) (apG_of (by simp) ((Below.refl _ _).alloc (Nat.le_refl _) _)) ?_
  (simp only[qls,Nat.reduceAdd,gvF])
  exact⟨_,rw7,rfl,hzx,heap_alloc_new wx _,tClsClass_goodT.stays _ _ _ _ _ (KeepsT.of_below ((Below.refl _ _).alloc (Nat.le_refl _) _)) h7⟩
 simp only[qnr]
 refine qab (d:=19) rfl rfl (fun wx hC hI hd S0 hS=>?_) (fun v9=>?_)
 ·have d4:=hd ⟨4,.data⟩ (by simp) rfl v4 (by simp)
  simp only[gvF] at d4
  subst d4
  have d8:=hd ⟨8,.data⟩ (by simp) rfl v8 (by simp)
  simp only[gvF] at d8
  obtain⟨g9,row,rfl,h2,h3,h4⟩:=d8
  obtain⟨cx,hO⟩:=hI rfl
  have HSS:=qhd hS;clear hS hd hI
  have hzx:=hC.size
  have hlx:lo≤wx.heap.size:=Nat.le_trans hlq.out hzx
  obtain⟨v',w',hr,hT',hb',hg',hk',ha'⟩:=run_append_FC (ty:=43) sty_Cls (tClsClass_goodT) (E:=EClsClass) (by unfold EClsClass;decide) qbd hO (src_row h3) (Rows.one (tClsClass_len h4) h4) hlen (Nat.le_refl _) hlx
  refine wp_of_append (.tmp 14) (.tmp 18) 43 (by rfl) (by rfl) (by rfl) hr ⟨put_defers' _ _ _,?_⟩
  rw[qae (by simp)]
  refine HSS.out _ _ (hC.trans (Kp.of_grown hg')) (Or.inr ⟨by simp,Kp.of_grown hg',hk'⟩) ?_
  (simp only[qls,Nat.reduceAdd,gvF])
  exact⟨_,hT',fun b hb=>(ha' b hb).imp id fun h=>by have:=hzx;omega⟩
 simp only[qnr]
 intro wF hC hF
 have f0:=hF 0 v0 (by simp) (fun _ _=>rfl)
 have f9:=hF 9 v9 (by simp) (fun _ _=>rfl)
 simp only[gvF] at f0 f9
 subst f0
 obtain⟨cg,htG,hatG⟩:=f9
 have hCs:=hC.size
 have hQF:wF.heap[Q]? =w1.heap[Q]? :=hC.block Q hQw1 hQn
 obtain⟨c9,z9⟩:=cell_ofBlock (v:=.slice a m cap) (hQF.trans HQ1.out) (by rw[Array.getElem?_setIfInBounds,if_pos rfl,if_pos hin])
 obtain⟨ga,gn,gc,hg9⟩:∃ ga gn gc,v9=.slice ga gn gc:=htG.plain.sl.form3
 subst hg9
 have hCz:w1.heap.size≤wF.heap.size:=hCs
 have HTG:=qhd htG
 have HGG:=qhd hC
 have HAT:=qhd hatG
 have HQ9:=qhd hQF
 have HTY:Hid (TypeAt wF Q 46):=qhd ⟨_,_,hQF.trans HQ1.out⟩
 have hgne:∀ g,(.slice ga gn gc:Value).ownBlock=some g→g≠Q:=fun g hg e=>by
  subst e
  rcases hatG g hg with h|h
  ·exact hQn h
  ·omega
 have HGN:=qhd hgne
 have HBF:Hid (Below lo w wF):=qhd (HBW.out.trans (hC.below (by omega) hown))
 clear htG hC hatG hQF hgne hF hGQ hGX
 simp only[List.drop_succ_cons,List.drop_zero]
 go_wp2
 all_goals (try go_returns)
 all_goals exact HR.out _ _ ⟨⟨_,rfl⟩,.slice ga gn gc,⟨_,HTG.out.keptR (tClsClass_goodT) (KeepsT.set HTY.out (by unfold EClsClass;decide)) fun g hg=>Below.heap_setCell _ _ _ _ (by show g≠Q;exact HGN.out g hg)⟩,
  HBF.out.setCell (by show lo≤Q;exact hQlo) _,
  set_set_block HQB.out (HQ9.out.trans (HH1.out.here.trans (setCell_block (HBq.out.block _ hQ)))),
  fun b hb hbQ hg=>(Below.heap_setCell _ _ _ _ (by show b≠Q;exact hbQ)).trans ((HGG.out.block b (by omega) (fun h=>by
   rcases HH1.out.block b h with h|h
   ·exact hg h
   ·omega)).trans ((HH1.out.there b (by omega) hbQ hg).trans (HBq.out.block _ hb))),
  fun g hg=>by
   rcases HAT.out g hg with h|h
   ·rcases HH1.out.block g h with h|h
    ·exact Or.inl h
    ·exact Or.inr (by omega)
   ·exact Or.inr (by omega)⟩
def akF (B:Nat) (s:Option Nat) (Q o BX lo:Nat) (qv:Value) (row0:Array Value) (xs:List DLodAsk) (c:DLodAsk):Nat→Value→World→Prop
 | 0,v,w=>v=.pointer (some ⟨Q,o,none⟩)
 | 1,v,w=>v=.pointer (some ⟨Q,o,none⟩)
 | 2,v,w=>v=.pointer (some ⟨Q,o,none⟩)
 | 3,v,w=>v=.pointer (some ⟨Q,o+1,none⟩)
 | 4,v,w=>v=qv
 | 5,v,w=>v=.pointer (some ⟨BX,0,none⟩)
 | 6,v,w=>v=.agg row0
 | 7,v,w=>∃ (g9:Nat) (row:List Value),v=.slice (some ⟨g9,0,none⟩) 1 1∧B≤g9∧w.heap[g9]? =some (.cells row.toArray 48 (0,0))∧rLodAsk lo w row c
 | 8,v,w=>∃ cs,TOwnC 2 rLodAsk 48 lo lo w v cs (xs++[c])∧∀ b,v.ownBlock=some b→s=some b∨B≤b
 | _,_,_=>True
theorem akF_stays {B:Nat} {s:Option Nat} {Q o BX lo:Nat} {qv:Value} {row0:Array Value} {xs:List DLodAsk} {c:DLodAsk} (hrow:∀ g,B≤g→s≠some g):∀ i j u w w',i≠j→apG NoT s 8 j w w'→akF B s Q o BX lo qv row0 xs c i u w→akF B s Q o BX lo qv row0 xs c i u w':=by
 intro i j u w w' hne hg h
 match i with
 | 0|1|2|3|4|5|6=>exact h
 | 7=>
   obtain⟨g9,row,h1,h2,h3,h4⟩:=h
   exact⟨g9,row,h1,h2,(apG_block hg (heapLt h3) (hrow g9 h2)).trans h3,h4⟩
 | 8=>
   obtain⟨cs,h1,h2⟩:=h
   rcases hg with ⟨_,hg⟩|⟨h9,_⟩
   ·exact⟨cs,h1.below rLodAsk_goodT hg,h2⟩
   ·exact absurd h9.symm hne
 | n+9=>trivial

theorem I_askc_apply (xs:List DLodAsk) (c:DLodAsk) (Q o:Nat) (a:Option Addr) (n cap:Nat) (css:List (List Value)) (lo:Nat) (W0 w:World) (hlo:lo≤w.heap.size) (hW:Below W0.heap.size W0 w) (hW0:W0.heap.size≤lo) (hT:TOwnC 2 rCel 48 lo lo w (.slice a n cap) css css) (hr:Rows 2 rLodAsk lo w css xs) (cq:Array Value) (hQb:w.heap[Q]? =some (.cells cq 46 (0,0))) (hq:cq[o+1]? =some (.slice a n cap)) (hQlo:lo≤Q) (hne:∀ g,(.slice a n cap:Value).ownBlock=some g→Q≠g) (hxl:xs.length≤999999) (hnm:c.fName.size≤maxLen) :
  Calls Tryz.prog 191 #[.agg #[.string c.fName,.int .i64 c.fKeeper],.pointer (some ⟨Q,o,none⟩)] w fun e w'=>(∃ u,e=.returned u)∧∃ new,Held 2 rLodAsk 48 lo Q (o+1) w w' (.slice a n cap) new (keepN (·.fName) c.fName xs++[c]):=by
 have hQ:Q < w.heap.size:=heapLt hQb
 have HQB:=qhd hQb
 have HT:=qhd hT
 have HRR:=qhd hr
 have HNE:=qhd hne
 have HQC:=qhd hq
 have HW:=qhd hW
 clear hT hr hne hQb hq hW
 refine qac fun R HR=>?_
 go_enter Tryz.func191,Tryz.ntmps191
 go_wp2_with fail
 refine nameW (P:=fun W=>Calls Tryz.prog 192 #[.agg #[.string c.fName],.pointer (some ⟨Q,o,none⟩)] W _) _ (fun wq hwq=>?_)
 have hBq:Below w.heap.size w wq:=by rw[hwq];exact bbel
 have f0:wq.cell? ⟨w.heap.size,0,none⟩=some (.string c.fName):=by rw[hwq];go_simp
 have f1:wq.cell? ⟨w.heap.size,1,none⟩=some (.int .i64 c.fKeeper):=by rw[hwq];go_simp
 have hzq:wq.heap.size=w.heap.size+1:=by rw[hwq];simp
 clear hwq
 refine(I_ask_apply xs c.fName Q o a n cap css lo wq (by omega) (HT.out.belowB hBq) (HRR.out.mono fun cs x h=>(rLodAsk_goodT).stays _ _ _ _ _ (KeepsT.of_below hBq) h) cq ((hBq.block _ hQ).trans HQB.out) HQC.out hQlo HNE.out).mono ?_
 rintro _ w1 ⟨⟨u0,rfl⟩,m,H1⟩
 have hold:∀ g,(.slice a n cap:Value).ownBlock=some g→g < w.heap.size:=fun g hg=>(HT.out.owns.lt g hg).2
 have hbx:w1.heap[w.heap.size]? =wq.heap[w.heap.size]? :=H1.there _ (by omega) (by omega) (fun h=>by have:=hold _ h;omega)
 have h0:=(cell_same (o:=0) hbx).trans f0
 have h1:=(cell_same (o:=1) hbx).trans f1
 have hQ1:w1.heap[Q]? =some (.cells (cq.setIfInBounds (o+1) (.slice a m cap)) 46 (0,0)):=H1.here.trans (qar ((hBq.block _ hQ).trans HQB.out))
 have hin:o+1 < cq.size:=(Array.getElem?_eq_some_iff.1 HQC.out).1
 obtain⟨rQ,rQf⟩:=cell_ofBlock (v:=.slice a m cap) hQ1 (by rw[Array.getElem?_setIfInBounds,if_pos rfl,if_pos hin])
 have hz1:=H1.below.size
 have hQw1:Q < w1.heap.size:=heapLt hQ1
 have hBw:Below lo w w1:=(hBq.mono hlo).trans H1.below
 have HBW:=qhd hBw
 have HH1:=qhd H1
 have HQ1:=qhd hQ1
 have HBq:=qhd hBq
 have HRQ:=qhd rQ
 have hQn:(.slice a m cap:Value).ownBlock≠some Q:=fun h=>by
  rcases H1.block Q h with h|h
  ·exact HNE.out Q h rfl
  ·omega
 have hown:∀ b,(.slice a m cap:Value).ownBlock=some b→lo≤b:=fun b hb=>by
  obtain⟨cx,h⟩:=H1.holds
  exact h.own b hb
 have hownl:∀ b,(.slice a m cap:Value).ownBlock=some b→b < w1.heap.size:=fun b hb=>by
  obtain⟨cx,h⟩:=H1.holds
  exact(h.owns.lt b hb).2
 have hXn:(.slice a m cap:Value).ownBlock≠some w.heap.size:=fun h=>by
  rcases H1.block _ h with h|h
  ·have:=hold _ h;omega
  ·omega
 have hrow:∀ g,w1.heap.size≤g→(.slice a m cap:Value).ownBlock≠some g:=fun g hg e=>by have:=hownl g e;omega
 have hGQ:Hid (∀ W,Kp (.slice a m cap:Value).ownBlock w1 W→W.cell? ⟨Q,o+1,none⟩=some (.slice a m cap)):=qhd fun W hW9=>(cell_same (hW9.block Q hQw1 hQn)).trans rQ
 have hGX:Hid (∀ W,Kp (.slice a m cap:Value).ownBlock w1 W→W.cell? ⟨w.heap.size,0,none⟩=some (.string c.fName)∧W.cell? ⟨w.heap.size,1,none⟩=some (.int .i64 c.fKeeper)):=qhd fun W hW9=>by
  have h9:W.heap[w.heap.size]? =w1.heap[w.heap.size]? :=hW9.block _ (by omega) hXn
  exact⟨(cell_same h9).trans h0,(cell_same h9).trans h1⟩
 have hlq:Hid (lo≤w1.heap.size):=qhd (by omega)
 have hlen:(keepN (·.fName) c.fName xs).length+[c].length≤1000000:=by
  have:=keepN_len (f:=(·.fName)) (nm:=c.fName) (xs:=xs)
  simp only[List.length_cons,List.length_nil];omega
 clear H1 hbx hQ1 hBw hBq f0 f1 h0 h1
 go_wp2_with fail
 refine qav 9 (fun W=>Kp (.slice a m cap:Value).ownBlock w1 W) (fun i=>apG NoT (.slice a m cap:Value).ownBlock 8 i) (fun _=>akF w1.heap.size (.slice a m cap:Value).ownBlock Q o w.heap.size lo (.slice a m cap) #[.string c.fName,.int .i64 c.fKeeper] (keepN (·.fName) c.fName xs) c) (fun i W=>i=8→∃ cx,TOwnC 2 rLodAsk 48 lo lo W (.slice a m cap) cx (keepN (·.fName) c.fName xs)) noDead (by kernel_rfl) (by decide) (by kernel_rfl) (Or.inr ⟨by kernel_rfl,by kernel_rfl⟩) (by kernel_rfl) ⟨rfl,rfl,rfl,Nat.le_refl _,fun _ _ _=>rfl⟩ (fun _ _ _ _ _ _ _ _ _ h=>h) noDead_dead (fun i _=>by obtain⟨cx,h⟩:=HH1.out.holds;exact⟨cx,h.below rLodAsk_goodT ((Below.refl _ _).drew)⟩) ?hI (fun _ i j u w1 w2 hne _ _ hg hF=>akF_stays hrow i j u w1 w2 hne hg hF) (fun _ _ _=>apG_rfl _ _ _ _ _) ?_
 case hI=>
  intro i j w1 w2 hne _ hg h e
  rcases hg with ⟨_,hg⟩|⟨h9,_⟩
  ·obtain⟨cx,h⟩:=h e
   exact⟨cx,h.below rLodAsk_goodT hg⟩
  ·exact absurd (e.trans h9.symm) hne
 refine qab (d:=10) rfl rfl (fun wx hC hI hd S0 hS=>?_) (fun v0=>?_)
 ·have HSS:=qhd hS;clear hS hd hI
  go_simp
  exact HSS.out _ _ hC (apG_rfl _ _ _ _ _) (by simp[akF])
 simp only[qnr]
 refine qab (d:=11) rfl rfl (fun wx hC hI hd S0 hS=>?_) (fun v1=>?_)
 ·have HSS:=qhd hS;clear hS hd hI
  go_simp
  exact HSS.out _ _ hC (apG_rfl _ _ _ _ _) (by simp[akF])
 simp only[qnr]
 refine qab (d:=12) rfl rfl (fun wx hC hI hd S0 hS=>?_) (fun v2=>?_)
 ·have d1:=hd ⟨1,.data⟩ (by simp) rfl v1 (by simp)
  simp only[akF] at d1
  subst d1
  have HSS:=qhd hS;clear hS hd hI
  go_simp
  exact HSS.out _ _ hC (apG_rfl _ _ _ _ _) (by simp[akF])
 simp only[qnr]
 refine qab (d:=13) rfl rfl (fun wx hC hI hd S0 hS=>?_) (fun v3=>?_)
 ·have d2:=hd ⟨2,.data⟩ (by simp) rfl v2 (by simp)
  simp only[akF] at d2
  subst d2
  have HSS:=qhd hS;clear hS hd hI
  go_simp
  exact HSS.out _ _ hC (apG_rfl _ _ _ _ _) (by simp[akF])
 simp only[qnr]
 refine qab (d:=14) rfl rfl (fun wx hC hI hd S0 hS=>?_) (fun v4=>?_)
 ·have d3:=hd ⟨3,.data⟩ (by simp) rfl v3 (by simp)
  simp only[akF] at d3
  subst d3
  have c0':=hGQ.out _ hC
  have HSS:=qhd hS;clear hS hd hI
  go_simp
  exact HSS.out _ _ hC (apG_rfl _ _ _ _ _) (by simp[akF])
 simp only[qnr]
 refine qab (d:=15) rfl rfl (fun wx hC hI hd S0 hS=>?_) (fun v5=>?_)
 ·have HSS:=qhd hS;clear hS hd hI
  go_simp
  exact HSS.out _ _ hC (apG_rfl _ _ _ _ _) (by simp[akF])
 simp only[qnr]
 refine qab (d:=16) rfl rfl (fun wx hC hI hd S0 hS=>?_) (fun v6=>?_)
 ·have d5:=hd ⟨5,.data⟩ (by simp) rfl v5 (by simp)
  simp only[akF] at d5
  subst d5
  obtain⟨e0,e1⟩:=hGX.out _ hC
  have HSS:=qhd hS;clear hS hd hI
  go_simp
  exact HSS.out _ _ hC (apG_rfl _ _ _ _ _) (by simp[akF])
 simp only[qnr]
 refine qab (d:=17) rfl rfl (fun wx hC hI hd S0 hS=>?_) (fun v7=>?_)
 ·have d6:=hd ⟨6,.data⟩ (by simp) rfl v6 (by simp)
  simp only[akF] at d6
  subst d6
  have HSS:=qhd hS;clear hS hd hI
  have hzx:=hC.size
  have h9:=run_one sty_Ask [.string c.fName,.int .i64 c.fKeeper] rfl (by decide) wx
  refine wp_buildOne rfl rfl h9 ⟨put_defers' _ _ _,?_⟩
  rw[qae (by simp)]
  refine HSS.out _ _ (hC.trans (Kp.of_below ((Below.refl _ _).alloc (Nat.le_refl _) _))) (apG_of (by simp) ((Below.refl _ _).alloc (Nat.le_refl _) _)) ?_
  (simp only[qls,Nat.reduceAdd,akF])
  exact⟨_,[.string c.fName,.int .i64 c.fKeeper],rfl,hzx,heap_alloc_new wx _,⟨rfl,hnm⟩⟩
 simp only[qnr]
 refine qab (d:=18) rfl rfl (fun wx hC hI hd S0 hS=>?_) (fun v8=>?_)
 ·have d4:=hd ⟨4,.data⟩ (by simp) rfl v4 (by simp)
  simp only[akF] at d4
  subst d4
  have d7:=hd ⟨7,.data⟩ (by simp) rfl v7 (by simp)
  simp only[akF] at d7
  obtain⟨g9,row,rfl,h2,h3,h4⟩:=d7
  obtain⟨cx,hO⟩:=hI rfl
  have HSS:=qhd hS;clear hS hd hI
  have hzx:=hC.size
  have hlx:lo≤wx.heap.size:=Nat.le_trans hlq.out hzx
  obtain⟨v',w',hr,hT',hb',hg',hk',ha'⟩:=run_append_FC (ty:=44) sty_Ask (rLodAsk_goodT) (E:=NoT) (by exact fun h=>h) rLodAsk_one hO (src_row h3) (Rows.one (by obtain⟨rfl,_⟩:=h4;rfl) h4) hlen (Nat.le_refl _) hlx
  refine wp_of_append (.tmp 14) (.tmp 17) 44 (by rfl) (by rfl) (by rfl) hr ⟨put_defers' _ _ _,?_⟩
  rw[qae (by simp)]
  refine HSS.out _ _ (hC.trans (Kp.of_grown hg')) (Or.inr ⟨by simp,Kp.of_grown hg',hk'⟩) ?_
  (simp only[qls,Nat.reduceAdd,akF])
  exact⟨_,hT',fun b hb=>(ha' b hb).imp id fun h=>by have:=hzx;omega⟩
 simp only[qnr]
 intro wF hC hF
 have f0:=hF 0 v0 (by simp) (fun _ _=>rfl)
 have f8:=hF 8 v8 (by simp) (fun _ _=>rfl)
 simp only[akF] at f0 f8
 subst f0
 obtain⟨cg,htG,hatG⟩:=f8
 have hCs:=hC.size
 have hQF:wF.heap[Q]? =w1.heap[Q]? :=hC.block Q hQw1 hQn
 obtain⟨c9,z9⟩:=cell_ofBlock (v:=.slice a m cap) (hQF.trans HQ1.out) (by rw[Array.getElem?_setIfInBounds,if_pos rfl,if_pos hin])
 obtain⟨ga,gn,gc,hg9⟩:∃ ga gn gc,v8=.slice ga gn gc:=htG.plain.sl.form3
 subst hg9
 have hCz:w1.heap.size≤wF.heap.size:=hCs
 have HTG:=qhd htG
 have HGG:=qhd hC
 have HAT:=qhd hatG
 have HQ9:=qhd hQF
 have HTY:Hid (TypeAt wF Q 46):=qhd ⟨_,_,hQF.trans HQ1.out⟩
 have hgne:∀ g,(.slice ga gn gc:Value).ownBlock=some g→g≠Q:=fun g hg e=>by
  subst e
  rcases hatG g hg with h|h
  ·exact hQn h
  ·omega
 have HGN:=qhd hgne
 have HBF:Hid (Below lo w wF):=qhd (HBW.out.trans (hC.below (by omega) hown))
 clear htG hC hatG hQF hgne hF hGQ hGX
 simp only[List.drop_succ_cons,List.drop_zero]
 go_wp2
 all_goals (try go_returns)
 all_goals exact HR.out _ _ ⟨⟨_,rfl⟩,.slice ga gn gc,⟨_,HTG.out.keptR (rLodAsk_goodT) (KeepsT.set HTY.out (by exact fun h=>h)) fun g hg=>Below.heap_setCell _ _ _ _ (by show g≠Q;exact HGN.out g hg)⟩,
  HBF.out.setCell (by show lo≤Q;exact hQlo) _,
  set_set_block HQB.out (HQ9.out.trans (HH1.out.here.trans (setCell_block (HBq.out.block _ hQ)))),
  fun b hb hbQ hg=>(Below.heap_setCell _ _ _ _ (by show b≠Q;exact hbQ)).trans ((HGG.out.block b (by omega) (fun h=>by
   rcases HH1.out.block b h with h|h
   ·exact hg h
   ·omega)).trans ((HH1.out.there b (by omega) hbQ hg).trans (HBq.out.block _ hb))),
  fun g hg=>by
   rcases HAT.out g hg with h|h
   ·rcases HH1.out.block g h with h|h
    ·exact Or.inl h
    ·exact Or.inr (by omega)
   ·exact Or.inr (by omega)⟩

def turnK (c:DChgChange) (k:DLodKeeper):DLodKeeper:=
 if c.fKind == 1 then ⟨keepN (·.fName) c.fClass.fName k.fOwns++[c.fClass],k.fAsks⟩
 else if c.fKind == 3 then ⟨k.fOwns,keepN (·.fName) c.fName k.fAsks++[⟨c.fName,c.fTo⟩]⟩
 else if c.fKind == 2 then ⟨keepN (·.fName) c.fName k.fOwns,k.fAsks⟩
 else ⟨k.fOwns,keepN (·.fName) c.fName k.fAsks⟩
def planMove (p:DLodPlan) (c:DChgChange):DLodPlan:=⟨p.fKeepers.set c.fKeeper.toNat (turnK c (p.fKeepers.getD c.fKeeper.toNat ⟨[],[]⟩))⟩
theorem TSl.typeO {α:Type} {k:Nat} {R:RowRel α} {e:TypeId} {lo:Nat} {w:World} {v:Value} {xs:List α} (h:TSl k R e lo w v xs) {g:Nat} (hg:v.ownBlock=some g):∃ cs,w.heap[g]? =some (.cells cs e (0,0)):=by
 obtain⟨css,_,_,h2⟩:=h
 rcases h2 with ⟨h2,_⟩|⟨g',cap,cur,h2,_,h3,_⟩
 ·rw[h2] at hg;cases hg
 ·rw[h2] at hg;cases hg;exact⟨cur,h3⟩
theorem Held.keeps {k:Nat} {α:Type} {R:RowRel α} {t:TypeId} {lo Q o:Nat} {w w':World} {old new:Value} {xs:List α} {ys:List α} (h:Held k R t lo Q o w w' old new xs) {cq:Array Value} (hQ:w.heap[Q]? =some (.cells cq 46 (0,0))) (ho:TSl k R t lo w old ys):KeepsT (fun s=>s≠t∧s≠46) 0 w w':=
 ⟨h.below.size,fun g cs e fr _ he hg=>(h.there g (heapLt hg) (fun e1=>by rw[e1,hQ] at hg;cases hg;exact he.2 rfl) (fun e1=>by
  obtain⟨cs',h1⟩:=ho.typeO e1
  rw[h1] at hg;cases hg;exact he.1 rfl))⟩
theorem Held.cells {k:Nat} {α:Type} {R:RowRel α} {t:TypeId} {lo Q o:Nat} {w w':World} {old new:Value} {xs:List α} (h:Held k R t lo Q o w w' old new xs) {cq:Array Value} (hQ:w.heap[Q]? =some (.cells cq 46 (0,0))) (ho:o < cq.size) (j:Nat):w'.cell? ⟨Q,j,none⟩=if j=o then some new else w.cell? ⟨Q,j,none⟩:=by
 have h1:=h.here.trans (qar hQ)
 simp only[World.cell?,h1,hQ]
 by_cases e:j=o
 ·subst e
  simp[ho]
 ·rw[if_neg e]
  simp[Array.getElem?_setIfInBounds,Ne.symm e]
theorem Held.planO {lo Q n cap i:Nat} {w w':World} {xo xa new:Value} {css:List (List Value)} {p:DLodPlan} {kx:DLodKeeper} {xs:List DClsClass} (hP:PlanC lo w (.slice (some ⟨Q,0,none⟩) n cap) css p) (hi:css[i]? =some [xo,xa]) (hx:p.fKeepers[i]? =some kx) (h:Held 4 tClsClass 29 lo Q (i * 2) w w' xo new xs) :
  Sl 2 rLodKeeper lo w' (.slice (some ⟨Q,0,none⟩) n cap) (p.fKeepers.set i ⟨xs,kx.fAsks⟩):=by
 have hpl:i < p.fKeepers.length:=(List.getElem?_eq_some_iff.1 hx).1
 obtain⟨Q',cap',e,hlo,hbl,hc,hm,hcell,_⟩:=own_cell hP.owns (by omega)
 cases e
 obtain⟨cq,hQ⟩:∃ cq,w.heap[Q]? =some (.cells cq 46 (0,0)):=by
  obtain⟨_,h2⟩:=hP.owns
  rcases h2 with ⟨_,h2⟩|⟨g,cap,cur,h1,_,h3,_⟩
  ·omega
  ·cases h1;exact⟨cur,h3⟩
 obtain⟨y1,y2,e1,s1,s2⟩:=(hP.rows.row i kx _ hx hi).2
 cases e1
 have hin:i * 2 < cq.size:=by
  have h9:=hcell (i * 2+0) _ ((flat_at hP.rows.each hi (by omega)).trans rfl)
  exact(Array.getElem?_eq_some_iff.1 (block_ofCell hQ h9)).1
 have hk:=h.keeps hQ s1
 have hkC:KeepsT EClsClass lo w w':=(hk.weaken fun e he=>by rcases he with rfl|rfl|rfl|rfl|rfl|rfl<;>(constructor<;>decide)).lift (Nat.zero_le _)
 have hQt:∀ {o:Value} {ys:List DClsClass},TSl 4 tClsClass 29 lo w o ys→o.ownBlock≠some Q:=fun ht e=>by
  obtain⟨cs',h1⟩:=ht.typeO e
  rw[hQ] at h1;cases h1
 refine⟨_,_,_,rfl,by rw[List.length_set],hc,hm,fun _=>⟨Q,0,rfl,hlo,Nat.lt_of_lt_of_le hbl h.below.size,fun j hj=>?_⟩⟩
 obtain⟨x,hxj⟩:∃ x,p.fKeepers[j]? =some x:=⟨_,List.getElem?_eq_getElem hj⟩
 by_cases hij:j=i
 ·subst hij
  obtain rfl:kx=x:=Option.some.inj (hx.symm.trans hxj)
  obtain⟨cn,tn⟩:=h.holds
  refine⟨⟨xs,kx.fAsks⟩,[new,xa],by rw[List.getElem?_set,if_pos rfl,if_pos hj],rfl,fun u v hv=>?_,(tLodKeeper_r ⟨_,_,rfl,tn.plain.sl,s2.stays (E:=fun s=>s≠29∧s≠46) (rLodAsk_goodT.mono fun _ h=>h.elim) (by constructor<;>decide) (hk.lift (Nat.zero_le _))⟩)⟩
  rw[Nat.zero_add,h.cells hQ hin]
  match u,hv with
  | 0,hv=>cases hv;simp
  | 1,hv=>
    cases hv
    rw[if_neg (by omega)]
    exact hcell (j * 2+1) _ ((flat_at hP.rows.each hi (by omega)).trans rfl)
  | u+2,hv=>simp at hv
 ·obtain⟨cs,hcs⟩:∃ cs,css[j]? =some cs:=⟨_,List.getElem?_eq_getElem (by rw[hP.rows.len];exact hj)⟩
  obtain⟨hz,o,a,rfl,t1,t2⟩:=hP.rows.row j x cs hxj hcs
  have hne:∀ b,xo.ownBlock=some b→o.ownBlock≠some b:=by
   rcases Nat.lt_or_gt_of_ne hij with hlt|hgt
   ·exact fun b h1 h2=>(hP.apart j i o a xo xa hlt hcs hi).1 b h2 h1
   ·exact(hP.apart i j xo xa o a hgt hi hcs).1
  refine⟨x,[o,a],by rw[List.getElem?_set,if_neg (fun e=>hij e.symm)];exact hxj,rfl,fun u v hv=>?_,(tLodKeeper_r ⟨_,_,rfl,t1.kept (fun g cs fr hg2 _ hgc=>h.there g (heapLt hgc) (fun e=>hQt t1 (e ▸ hg2)) (fun e=>hne g e hg2)) (fun cs y hy=>tClsClass_goodT.stays _ _ _ _ _ hkC hy),t2.stays (E:=fun s=>s≠29∧s≠46) (rLodAsk_goodT.mono fun _ h=>h.elim) (by constructor<;>decide) (hk.lift (Nat.zero_le _))⟩)⟩
  have hu2:u < 2:=by have:=(List.getElem?_eq_some_iff.1 hv).1;simpa using this
  rw[Nat.zero_add,h.cells hQ hin,if_neg (by omega)]
  exact hcell _ v ((flat_at hP.rows.each hcs hu2).trans hv)
theorem Held.planA {lo Q n cap i:Nat} {w w':World} {xo xa new:Value} {css:List (List Value)} {p:DLodPlan} {kx:DLodKeeper} {xs:List DLodAsk} (hP:PlanC lo w (.slice (some ⟨Q,0,none⟩) n cap) css p) (hi:css[i]? =some [xo,xa]) (hx:p.fKeepers[i]? =some kx) (h:Held 2 rLodAsk 48 lo Q (i * 2+1) w w' xa new xs) :
  Sl 2 rLodKeeper lo w' (.slice (some ⟨Q,0,none⟩) n cap) (p.fKeepers.set i ⟨kx.fOwns,xs⟩):=by
 have hpl:i < p.fKeepers.length:=(List.getElem?_eq_some_iff.1 hx).1
 obtain⟨Q',cap',e,hlo,hbl,hc,hm,hcell,_⟩:=own_cell hP.owns (by omega)
 cases e
 obtain⟨cq,hQ⟩:∃ cq,w.heap[Q]? =some (.cells cq 46 (0,0)):=by
  obtain⟨_,h2⟩:=hP.owns
  rcases h2 with ⟨_,h2⟩|⟨g,cap,cur,h1,_,h3,_⟩
  ·omega
  ·cases h1;exact⟨cur,h3⟩
 obtain⟨y1,y2,e1,s1,s2⟩:=(hP.rows.row i kx _ hx hi).2
 cases e1
 have hin:i * 2+1 < cq.size:=by
  have h9:=hcell (i * 2+1) _ ((flat_at hP.rows.each hi (by omega)).trans rfl)
  exact(Array.getElem?_eq_some_iff.1 (block_ofCell hQ h9)).1
 have hk:=h.keeps hQ s2
 have hkE:KeepsT (fun s=>s≠48∧s≠46) lo w w':=hk.lift (Nat.zero_le _)
 have hEC:∀ e,EClsClass e→e≠48∧e≠46:=fun e he=>by rcases he with rfl|rfl|rfl|rfl|rfl|rfl<;>(constructor<;>decide)
 have hQt:∀ {o:Value} {ys:List DLodAsk},TSl 2 rLodAsk 48 lo w o ys→o.ownBlock≠some Q:=fun ht e=>by
  obtain⟨cs',h1⟩:=ht.typeO e
  rw[hQ] at h1;cases h1
 refine⟨_,_,_,rfl,by rw[List.length_set],hc,hm,fun _=>⟨Q,0,rfl,hlo,Nat.lt_of_lt_of_le hbl h.below.size,fun j hj=>?_⟩⟩
 obtain⟨x,hxj⟩:∃ x,p.fKeepers[j]? =some x:=⟨_,List.getElem?_eq_getElem hj⟩
 by_cases hij:j=i
 ·subst hij
  obtain rfl:kx=x:=Option.some.inj (hx.symm.trans hxj)
  obtain⟨cn,tn⟩:=h.holds
  refine⟨⟨kx.fOwns,xs⟩,[xo,new],by rw[List.getElem?_set,if_pos rfl,if_pos hj],rfl,fun u v hv=>?_,(tLodKeeper_r ⟨_,_,rfl,s1.stays (E:=fun s=>s≠48∧s≠46) (tClsClass_goodT.mono hEC) (by constructor<;>decide) hkE,tn.plain.sl⟩)⟩
  rw[Nat.zero_add,h.cells hQ hin]
  match u,hv with
  | 0,hv=>
    cases hv
    rw[if_neg (by omega)]
    exact hcell (j * 2+0) _ ((flat_at hP.rows.each hi (by omega)).trans rfl)
  | 1,hv=>cases hv;simp
  | u+2,hv=>simp at hv
 ·obtain⟨cs,hcs⟩:∃ cs,css[j]? =some cs:=⟨_,List.getElem?_eq_getElem (by rw[hP.rows.len];exact hj)⟩
  obtain⟨hz,o,a,rfl,t1,t2⟩:=hP.rows.row j x cs hxj hcs
  have hne:∀ b,xa.ownBlock=some b→a.ownBlock≠some b:=by
   rcases Nat.lt_or_gt_of_ne hij with hlt|hgt
   ·exact fun b h1 h2=>(hP.apart j i o a xo xa hlt hcs hi).2 b h2 h1
   ·exact(hP.apart i j xo xa o a hgt hi hcs).2
  refine⟨x,[o,a],by rw[List.getElem?_set,if_neg (fun e=>hij e.symm)];exact hxj,rfl,fun u v hv=>?_,(tLodKeeper_r ⟨_,_,rfl,t1.stays (E:=fun s=>s≠48∧s≠46) (tClsClass_goodT.mono hEC) (by constructor<;>decide) hkE,t2.kept (fun g cs fr hg2 _ hgc=>h.there g (heapLt hgc) (fun e=>hQt t2 (e ▸ hg2)) (fun e=>hne g e hg2)) (fun _ _ h=>h)⟩)⟩
  have hu2:u < 2:=by have:=(List.getElem?_eq_some_iff.1 hv).1;simpa using this
  rw[Nat.zero_add,h.cells hQ hin,if_neg (by omega)]
  exact hcell _ v ((flat_at hP.rows.each hcs hu2).trans hv)

end Go.Proofs.YtmbfpbgkchncgaaGreat
