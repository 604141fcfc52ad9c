/-
  Texts of mine, packed: LoOf. No condition beside those of the single theorems.
-/
import Derived.Test.YtmbfpbgkchncgaaGreatK22
import Derived.Test.YtmbfpbgkchncgaaGreatK23
set_option linter.unusedSimpArgs false
set_option linter.unusedVariables false
set_option maxHeartbeats 16000000
set_option maxRecDepth 100000
namespace Go.Proofs.YtmbfpbgkchncgaaGreat
open Go.RowKit
theorem Below.drewN {B:Nat} {a w:World} (h:Below B a w) (q:Nat):Below B a (w.drewN q):=⟨h.os,h.tape,h.output,h.size,h.block⟩

theorem L_loOk' (w:World):Calls Tryz.prog 11 #[] w fun e w'=>e=.returned (.bool true)∧Below w.heap.size w w':=by
 refine qac fun R HR=>?_
 go_enter Tryz.func11,Tryz.ntmps11
 go_wp2_with (go_at_call 40;refine(I_NamOk _ _ (by decide)).mono ?_;rintro _ _ ⟨rfl,rfl⟩)
 all_goals (try go_returns)
 all_goals exact HR.out _ _ ⟨rfl,bbel⟩

theorem loOf_hit {p:DLodPlan} {i:Nat} {k:DLodKeeper} {nm:ByteArray} {j:Nat} {c:DClsClass} (hk:p.fKeepers[i]? =some k) (h:EachTo (nots fun c=>sameN c.fName nm) k.fOwns j=true) (hc:k.fOwns[j]? =some c) (hs:sameN c.fName nm=true):loOfP p ⟨(i:Int),nm⟩=c:=by
 have hi:=(List.getElem?_eq_some_iff.1 hk).1
 unfold loOfP
 rw[if_pos (by unfold inPlan;simp;omega)]
 simp only[Int.toNat_natCast,hk]
 rw[find_first,firstAt_hit' h hc hs]
 rw[if_pos (by omega),Int.toNat_natCast,hc]
theorem loOf_miss {p:DLodPlan} {i:Nat} {k:DLodKeeper} {nm:ByteArray} {j:Nat} (hk:p.fKeepers[i]? =some k) (h:EachTo (nots fun c=>sameN c.fName nm) k.fOwns j=true) (hl:k.fOwns.length=j):loOfP p ⟨(i:Int),nm⟩=nilCls:=by
 have hi:=(List.getElem?_eq_some_iff.1 hk).1
 unfold loOfP
 rw[if_pos (by unfold inPlan;simp;omega)]
 simp only[Int.toNat_natCast,hk]
 rw[find_first,firstAt_none' h hl]
 rw[if_neg (by omega)]
theorem loOf_out {p:DLodPlan} {r:DLodRef} (h:inPlan p r.fKeeper=false):loOfP p r=nilCls:=by
 unfold loOfP;rw[h];rfl

def LoV (c:DClsClass) (w:World) (v:Value):Prop:=∃ (a1:Option Addr) (l1 c1:Nat) (a2:Option Addr) (l2 c2:Nat),v=.agg #[.string c.fName,.string c.fSuper,.slice a1 l1 c1,.slice a2 l2 c2]∧Sl 3 rClsField 0 w (.slice a1 l1 c1) c.fFields∧Sl 8 rClsMethod 0 w (.slice a2 l2 c2) c.fMethods
theorem LoV.nil {w:World}:LoV nilCls w (.agg #[.string ⟨#[]⟩,.string ⟨#[]⟩,.slice none 0 0,.slice none 0 0]):=⟨_,_,_,_,_,_,rfl,⟨none,0,0,rfl,rfl,Nat.le_refl _,Nat.zero_le _,fun h=>absurd h (by omega)⟩,⟨none,0,0,rfl,rfl,Nat.le_refl _,Nat.zero_le _,fun h=>absurd h (by omega)⟩⟩
def LoOfX (p:DLodPlan) (v1:Value) (r:DLodRef) (w:World):Prop:=∃ v,LoV (loOfP p r) w v∧∀ W,Below w.heap.size w W→Calls Tryz.prog 14 #[.agg #[v1],.agg #[.int .i64 r.fKeeper,.string r.fName]] W fun e w'=>e=.returned v∧Below W.heap.size W w'
theorem L_loOf_far (p:DLodPlan) (a:Option Addr) (len cap:Nat) (rk:Int) (rn:ByteArray) (w:World) (m1:len≤9223372036854775807) (h:rk < 0∨(len:Int)≤rk):Calls Tryz.prog 14 #[.agg #[.slice a len cap],.agg #[.int .i64 rk,.string rn]] w fun e w'=>e=.returned (.agg #[.string ⟨#[]⟩,.string ⟨#[]⟩,.slice none 0 0,.slice none 0 0])∧Below w.heap.size w w':=by
 by_cases k0:rk < 0
 ·clear h
  refine qac fun R HR=>?_
  go_enter Tryz.func14,Tryz.ntmps14
  go_wp2
  all_goals
   refine bodyPost_ret (v:=?_) ?hrun rfl ?_
   case hrun=>(simp only[results,Tryz.results14];go_simp;first|done|exact rfl)
   exact HR.out _ _ ⟨rfl,bbel⟩
 ·have hi2:(len:Int)≤rk:=by omega
  clear h
  refine qac fun R HR=>?_
  go_enter Tryz.func14,Tryz.ntmps14
  go_wp2
  all_goals
   refine bodyPost_ret (v:=?_) ?hrun rfl ?_
   case hrun=>(simp only[results,Tryz.results14];go_simp;first|done|exact rfl)
   exact HR.out _ _ ⟨rfl,bbel⟩

theorem L_loOfX (p:DLodPlan) (v1:Value) (r:DLodRef) (w0:World) (s1:Sl 2 rLodKeeper 0 w0 v1 p.fKeepers):LoOfX p v1 r w0:=by
 obtain⟨a,len,cap,rfl,hl,h1,h2,h3⟩:=id s1
 have m1:len≤9223372036854775807:=by unfold maxLen at h2;omega
 obtain⟨rk,rn⟩:=r
 have HL:=qhd hl
 clear h2 hl h1
 by_cases k0:rk < 0∨(len:Int)≤rk
 ·exact⟨_,by rw[show loOfP p ⟨rk,rn⟩=nilCls from loOf_out (by unfold inPlan;rw[HL.out];simp;omega)];exact LoV.nil,fun W hW=>L_loOf_far p a len cap rk rn W m1 k0⟩
 obtain⟨i,rfl⟩:∃ i:Nat,rk=(i:Int):=⟨rk.toNat,by omega⟩
 have hi:i < len:=by omega
 have hi2:(i:Int) < (len:Int):=by omega
 clear k0
 obtain⟨b,off,rfl,hlo,hbl,hr⟩:=h3 (by omega)
 obtain⟨k,cs,e0,e1,e2,e3⟩:=hr i hi
 obtain⟨x1,x2,rfl,t1,t2⟩:=e3
 obtain⟨xa2,xl2,xc2,rfl⟩:=t2.form
 obtain⟨ya,yl,yc,rfl,yh,yc1,yc2,y3⟩:=id t1
 have my:yl≤9223372036854775807:=by unfold maxLen at yc2;omega
 have q1:w0.cell? ⟨b,off+i * 2,none⟩=some (.slice ya yl yc):=e2 0 _ rfl
 have q2:w0.cell? ⟨b,off+i * 2+1,none⟩=some (.slice xa2 xl2 xc2):=e2 1 _ rfl
 have E0:=qhd e0
 have YH:=qhd yh
 clear e0 e1 e2 hr yh yc1 yc2 t2 t1 s1 h3
 rcases firstAt_cases (fun c:DClsClass=>sameN c.fName rn) k.fOwns with ⟨hno,hall⟩|⟨z,c,hz,hc,hs,hbef⟩
 ·have hE:EachTo (nots fun c:DClsClass=>sameN c.fName rn) k.fOwns yl=true:=EachTo.mk fun j x hj hx=>by simp[nots,hall j x hx]
  refine⟨.agg #[.string ⟨#[]⟩,.string ⟨#[]⟩,.slice none 0 0,.slice none 0 0],by rw[loOf_miss E0.out hE YH.out];exact LoV.nil,fun w hW=>?_⟩
  have HALL:=qhd hall
  clear hall hno hE
  replace q1:=qaa hW q1
  replace q2:=qaa hW q2
  have hblw:b < w.heap.size:=Nat.lt_of_lt_of_le hbl hW.size
  refine qac fun R HR=>?_
  go_enter Tryz.func14,Tryz.ntmps14
  go_wp2_with fail
  obtain⟨wE,hwE⟩:∃ wE,wE=((w.alloc (.cells #[.slice (some ⟨b,off,none⟩) len cap] 25)).alloc (.cells #[.int .i64 (i:Int),.string rn] 42)).alloc (.cells #[.string ⟨#[]⟩,.string ⟨#[]⟩,.slice none 0 0,.slice none 0 0] 29):=⟨_,rfl⟩
  rw[←hwE]
  have hBE:Below w.heap.size w wE:=by rw[hwE];exact bbel
  have c0:wE.cell? ⟨w.heap.size,0,none⟩=some (.slice (some ⟨b,off,none⟩) len cap):=by rw[hwE];go_simp
  have c1:wE.cell? ⟨w.heap.size+1,0,none⟩=some (.int .i64 (i:Int)):=by rw[hwE];go_simp
  have c2:wE.cell? ⟨w.heap.size+1,1,none⟩=some (.string rn):=by rw[hwE];go_simp
  have r0:wE.cell? ⟨w.heap.size+1+1,0,none⟩=some (.string ⟨#[]⟩):=by rw[hwE];go_simp
  have r1:wE.cell? ⟨w.heap.size+1+1,1,none⟩=some (.string ⟨#[]⟩):=by rw[hwE];go_simp
  have r2:wE.cell? ⟨w.heap.size+1+1,2,none⟩=some (.slice none 0 0):=by rw[hwE];go_simp
  have r3:wE.cell? ⟨w.heap.size+1+1,3,none⟩=some (.slice none 0 0):=by rw[hwE];go_simp
  have f0:wE.frozen? ⟨w.heap.size+1+1,0,none⟩=false:=by rw[hwE];go_simp
  have f1:wE.frozen? ⟨w.heap.size+1+1,1,none⟩=false:=by rw[hwE];go_simp
  have f2:wE.frozen? ⟨w.heap.size+1+1,2,none⟩=false:=by rw[hwE];go_simp
  have f3:wE.frozen? ⟨w.heap.size+1+1,3,none⟩=false:=by rw[hwE];go_simp
  have hsE:wE.heap.size=w.heap.size+1+1+1:=by rw[hwE];simp
  clear hwE
  go_loopw [5] (fun z wr=>∃ j:Nat,j≤yl∧z=.int .i64 j∧Below wE.heap.size wE wr) (fun z _=>yl-(intOf z).toNat)
  case atStart=>exact⟨0,Nat.zero_le _,rfl,by(repeat' (first|(with_reducible exact Below.refl _ _)|(with_reducible refine Below.drewN ?_ _)|(with_reducible refine Below.alloc ?_ ?_ _)|(with_reducible refine Below.setCell ?_ ?_ _)|(with_reducible refine Below.drew ?_)|(refine below_hyp (by assumption) ?_ ?_)|go_size))⟩
  case round=>
   obtain⟨j,hj,rfl,hb⟩:=hrel
   have hsE2:w.heap.size+3≤wr.heap.size:=by have:=hb.size;omega
   have F0:=keep_frozen hb r0 f0
   have F1:=keep_frozen hb r1 f1
   have F2:=keep_frozen hb r2 f2
   have F3:=keep_frozen hb r3 f3
   have C0:=qaa hb c0
   have C1:=qaa hb c1
   have C2:=qaa hb c2
   have R0:=qaa hb r0
   have R1:=qaa hb r1
   have R2:=qaa hb r2
   have R3:=qaa hb r3
   have hbw:=hBE.trans (hb.mono hBE.size)
   have q1r:wr.cell? ⟨b,off+i * 2,none⟩=some (.slice ya yl yc):=qaa hbw q1
   have q2r:wr.cell? ⟨b,off+i * 2+1,none⟩=some (.slice xa2 xl2 xc2):=qaa hbw q2
   by_cases hlt:j < yl
   ·obtain⟨b',off',rfl,_,hbl',hr'⟩:=y3 (by omega)
    obtain⟨c',cs',g0,g1,g2,g3⟩:=hr' j hlt
    obtain⟨u1,u2,rfl,d1,d2,bx1,bx2⟩:=g3
    have p1:wr.cell? ⟨b',off'+j * 4,none⟩=some (.string c'.fName):=qaa hbw (qaa hW (g2 0 _ rfl))
    have hws:=hW.size
    have hbl2:b' < wr.heap.size:=by omega
    have hx2:(c'.fName.toList == rn.toList)=false:=HALL.out j c' g0
    clear g0 g1 g2 hr' d1 d2
    have hjl:(j:Int) < (yl:Int):=by omega
    go_wp2_with fail
    go_quiet (fail)
    go_wp2
    go_roundw
    case measure=>simp[intOf];omega
    case rel=>exact⟨j+1,by omega,by go_num,Below.drewN hb _⟩
   ·obtain rfl:j=yl:=by omega
    go_wp2
    all_goals
     refine bodyPost_ret (v:=?_) ?hrun rfl ?_
     case hrun=>(simp only[results,Tryz.results14];go_simp;first|done|exact rfl)
     exact HR.out _ _ ⟨rfl,by(repeat' (first|(with_reducible exact Below.refl _ _)|(with_reducible refine Below.drewN ?_ _)|(with_reducible refine Below.alloc ?_ ?_ _)|(with_reducible refine Below.setCell ?_ ?_ _)|(with_reducible refine Below.drew ?_)|(refine below_hyp (by assumption) ?_ ?_)|go_size))⟩
 ·have hE:EachTo (nots fun c:DClsClass=>sameN c.fName rn) k.fOwns z=true:=EachTo.mk fun j x hj hx=>by simp[nots,hbef j x hj hx]
  have hzl:z < yl:=by have:=(List.getElem?_eq_some_iff.1 hc).1;have:=YH.out;omega
  obtain⟨b',off',rfl,_,hbl',hr'⟩:=y3 (by omega)
  obtain⟨c',cs',g0,g1,g2,g3⟩:=hr' z hzl
  obtain rfl:c=c':=Option.some.inj (hc.symm.trans g0)
  obtain⟨u1,u2,rfl,d1,d2,bx1,bx2⟩:=g3
  obtain⟨za1,zl1,zc1,rfl⟩:=d1.form
  obtain⟨za2,zl2,zc2,rfl⟩:=d2.form
  refine⟨.agg #[.string c.fName,.string c.fSuper,.slice za1 zl1 zc1,.slice za2 zl2 zc2],by rw[loOf_hit E0.out hE hc hs];exact⟨_,_,_,_,_,_,rfl,d1,d2⟩,fun w hW=>?_⟩
  have HB:=qhd hbef
  have hws:=hW.size
  replace q1:=qaa hW q1
  replace q2:=qaa hW q2
  have q3:=qaa hW (show w0.cell? ⟨b',off'+z * 4,none⟩=some (.string c.fName) from g2 0 _ rfl)
  have q4:=qaa hW (show w0.cell? ⟨b',off'+z * 4+1,none⟩=some (.string c.fSuper) from g2 1 _ rfl)
  have q5:=qaa hW (show w0.cell? ⟨b',off'+z * 4+2,none⟩=some (.slice za1 zl1 zc1) from g2 2 _ rfl)
  have q6:=qaa hW (show w0.cell? ⟨b',off'+z * 4+3,none⟩=some (.slice za2 zl2 zc2) from g2 3 _ rfl)
  have hblw:b < w.heap.size:=Nat.lt_of_lt_of_le hbl hW.size
  have hblw':b' < w.heap.size:=Nat.lt_of_lt_of_le hbl' hW.size
  have hs2:(c.fName.toList == rn.toList)=true:=hs
  clear g0 g1 g2 d1 d2 hbef hz hc hs hE
  refine qac fun R HR=>?_
  go_enter Tryz.func14,Tryz.ntmps14
  go_wp2_with fail
  obtain⟨wE,hwE⟩:∃ wE,wE=((w.alloc (.cells #[.slice (some ⟨b,off,none⟩) len cap] 25)).alloc (.cells #[.int .i64 (i:Int),.string rn] 42)).alloc (.cells #[.string ⟨#[]⟩,.string ⟨#[]⟩,.slice none 0 0,.slice none 0 0] 29):=⟨_,rfl⟩
  rw[←hwE]
  have hBE:Below w.heap.size w wE:=by rw[hwE];exact bbel
  have c0:wE.cell? ⟨w.heap.size,0,none⟩=some (.slice (some ⟨b,off,none⟩) len cap):=by rw[hwE];go_simp
  have c1:wE.cell? ⟨w.heap.size+1,0,none⟩=some (.int .i64 (i:Int)):=by rw[hwE];go_simp
  have c2:wE.cell? ⟨w.heap.size+1,1,none⟩=some (.string rn):=by rw[hwE];go_simp
  have r0:wE.cell? ⟨w.heap.size+1+1,0,none⟩=some (.string ⟨#[]⟩):=by rw[hwE];go_simp
  have r1:wE.cell? ⟨w.heap.size+1+1,1,none⟩=some (.string ⟨#[]⟩):=by rw[hwE];go_simp
  have r2:wE.cell? ⟨w.heap.size+1+1,2,none⟩=some (.slice none 0 0):=by rw[hwE];go_simp
  have r3:wE.cell? ⟨w.heap.size+1+1,3,none⟩=some (.slice none 0 0):=by rw[hwE];go_simp
  have f0:wE.frozen? ⟨w.heap.size+1+1,0,none⟩=false:=by rw[hwE];go_simp
  have f1:wE.frozen? ⟨w.heap.size+1+1,1,none⟩=false:=by rw[hwE];go_simp
  have f2:wE.frozen? ⟨w.heap.size+1+1,2,none⟩=false:=by rw[hwE];go_simp
  have f3:wE.frozen? ⟨w.heap.size+1+1,3,none⟩=false:=by rw[hwE];go_simp
  have hsE:wE.heap.size=w.heap.size+1+1+1:=by rw[hwE];simp
  clear hwE
  go_loopw [5] (fun y wr=>∃ j:Nat,j≤z∧y=.int .i64 j∧Below wE.heap.size wE wr) (fun z _=>yl-(intOf z).toNat)
  case atStart=>exact⟨0,Nat.zero_le _,rfl,by(repeat' (first|(with_reducible exact Below.refl _ _)|(with_reducible refine Below.drewN ?_ _)|(with_reducible refine Below.alloc ?_ ?_ _)|(with_reducible refine Below.setCell ?_ ?_ _)|(with_reducible refine Below.drew ?_)|(refine below_hyp (by assumption) ?_ ?_)|go_size))⟩
  case round=>
   obtain⟨j,hj,rfl,hb⟩:=hrel
   have hsE2:w.heap.size+3≤wr.heap.size:=by have:=hb.size;omega
   have F0:=keep_frozen hb r0 f0
   have F1:=keep_frozen hb r1 f1
   have F2:=keep_frozen hb r2 f2
   have F3:=keep_frozen hb r3 f3
   have C0:=qaa hb c0
   have C1:=qaa hb c1
   have C2:=qaa hb c2
   have R0:=qaa hb r0
   have R1:=qaa hb r1
   have R2:=qaa hb r2
   have R3:=qaa hb r3
   have hbw:=hBE.trans (hb.mono hBE.size)
   have q1r:=qaa hbw q1
   have q2r:=qaa hbw q2
   have hbl2:b' < wr.heap.size:=by omega
   have hjy:j < yl:=by omega
   by_cases hlt:j < z
   ·obtain⟨c',cs',g0,g1,g2,g3⟩:=hr' j (by omega)
    obtain⟨u1,u2,rfl,d1,d2,bx1,bx2⟩:=g3
    have p1:wr.cell? ⟨b',off'+j * 4,none⟩=some (.string c'.fName):=qaa hbw (qaa hW (g2 0 _ rfl))
    have hx2:(c'.fName.toList == rn.toList)=false:=HB.out j c' hlt g0
    clear g0 g1 g2 d1 d2 q3 q4 q5 q6
    have hjl:(j:Int) < (yl:Int):=by omega
    go_wp2_with fail
    go_quiet (fail)
    go_wp2
    go_roundw
    case measure=>simp[intOf];omega
    case rel=>exact⟨j+1,by omega,by go_num,Below.drewN hb _⟩
   ·obtain rfl:j=z:=by omega
    have q3r:=qaa hbw q3
    have q4r:=qaa hbw q4
    have q5r:=qaa hbw q5
    have q6r:=qaa hbw q6
    have hjl:(j:Int) < (yl:Int):=by omega
    go_wp2_with fail
    go_quiet (fail)
    go_wp2
    all_goals
     refine bodyPost_ret (v:=?_) ?hrun rfl ?_
     case hrun=>(simp only[results,Tryz.results14];go_simp;first|done|exact rfl)
     exact HR.out _ _ ⟨rfl,by(repeat' (first|(with_reducible exact Below.refl _ _)|(with_reducible refine Below.drewN ?_ _)|(with_reducible refine Below.alloc ?_ ?_ _)|(with_reducible refine Below.setCell ?_ ?_ _)|(with_reducible refine Below.drew ?_)|(refine below_hyp (by assumption) ?_ ?_)|go_size))⟩

end Go.Proofs.YtmbfpbgkchncgaaGreat
