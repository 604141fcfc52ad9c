/-
  Texts of mine, packed: Clone, OwnSet, CopyM, CopyC, CopyP. No condition beside those of the single theorems.
-/
import Derived.Test.YtmbfpbgkchncgaaGreatK7
import Derived.Lib.SliceRun
import Derived.Test.YtmbfpbgkchncgaaGreatK8
import Derived.Test.YtmbfpbgkchncgaaGreatK10
set_option linter.unusedSimpArgs false
set_option linter.unusedVariables false
set_option maxHeartbeats 16000000
set_option maxRecDepth 100000
namespace Go.Proofs.YtmbfpbgkchncgaaGreat
open Go.RowKit
def rCel:RowRel (List Value):=fun _ _ cs x=>cs=x∧∀ u∈cs,u.oneCell'=true
theorem rCel_goodT {E:TypeId→Prop}:GoodT E rCel:=⟨fun _ _ _ _ _ _ h=>h,fun _ _ _ _ _ _ h=>h⟩
theorem rCel_one:∀ lo w cs x,rCel lo w cs x→∀ u∈cs,u.oneCell'=true:=fun _ _ _ _ h=>h.2
theorem rClsMap_one:∀ lo w cs x,rClsMap lo w cs x→∀ u∈cs,u.oneCell'=true:=by
 rintro lo w cs x ⟨v1,v2,rfl,s1,s2⟩ u hu
 obtain⟨_,_,_,rfl⟩:=s1.form
 obtain⟨_,_,_,rfl⟩:=s2.form
 simp at hu
 rcases hu with rfl|rfl|rfl<;>rfl
theorem rClsMethod_one:∀ lo w cs x,rClsMethod lo w cs x→∀ u∈cs,u.oneCell'=true:=by
 rintro lo w cs x ⟨v1,v2,v3,rfl,s1,s2,s3,_,_⟩ u hu
 obtain⟨_,_,_,rfl⟩:=s1.form
 obtain⟨_,_,_,rfl⟩:=s2.form
 obtain⟨_,_,_,rfl⟩:=s3.form
 simp at hu
 rcases hu with rfl|rfl|rfl|rfl|rfl|rfl|rfl|rfl<;>rfl
theorem rClsClass_one:∀ lo w cs x,rClsClass lo w cs x→∀ u∈cs,u.oneCell'=true:=by
 rintro lo w cs x ⟨v1,v2,rfl,s1,s2,_,_⟩ u hu
 obtain⟨_,_,_,rfl⟩:=s1.form
 obtain⟨_,_,_,rfl⟩:=s2.form
 simp at hu
 rcases hu with rfl|rfl|rfl|rfl<;>rfl
theorem Sl.cel {α:Type} {k:Nat} {R:RowRel α} (h1:∀ lo w cs x,R lo w cs x→∀ u∈cs,u.oneCell'=true) (hk:0 < k) {w:World} {ad:Addr} {n cap:Nat} {xs:List α} (h:Sl k R 0 w (.slice (some ad) n cap) xs) :
  ∃ css:List (List Value),Src k w (.slice (some ad) n cap) css∧Rows k rCel 0 w css css∧Rows k R 0 w css xs:=by
 obtain⟨a',n',cap',e,hl,h1',h2,h3⟩:=h
 cases e
 by_cases hn:0 < n
 rotate_left
 ·obtain rfl:n=0:=by omega
  have hx:xs=[]:=List.eq_nil_of_length_eq_zero hl
  subst hx
  exact⟨[],Or.inr ⟨ad,cap,rfl,fun j u hj=>by simp at hj⟩,Rows.nil,Rows.nil⟩
 obtain⟨b,off,e,_,hb,hr⟩:=h3 hn
 cases e
 have hc:∀ i,∃ cs:List Value,i < n→∃ x,xs[i]? =some x∧cs.length=k∧w.rangeAt b (off+i * k) cs∧R 0 w cs x:=fun i=>by
  by_cases hi:i < n
  ·obtain⟨x,cs,e0,e1,e2,e3⟩:=hr i hi
   exact⟨cs,fun _=>⟨x,e0,e1,e2,e3⟩⟩
  ·exact⟨[],fun h=>absurd h hi⟩
 obtain⟨f,hf⟩:=Classical.skolem.1 hc
 have hat:∀ i,i < n→((List.range n).map f)[i]? =some (f i):=fun i hi=>by simp[hi]
 have hlen:((List.range n).map f).length=n:=by simp
 have heach:∀ c∈(List.range n).map f,c.length=k:=fun c hc=>by
  obtain⟨i,hi,rfl⟩:=List.mem_map.1 hc
  obtain⟨_,_,h,_⟩:=hf i (List.mem_range.1 hi)
  exact h
 refine⟨(List.range n).map f,Or.inr ⟨⟨b,off,none⟩,cap,by rw[hlen],fun j u hj=>?_⟩,⟨rfl,fun i x cs e1 e2=>?_⟩,⟨by rw[hlen,hl],fun i x cs e1 e2=>?_⟩⟩
 ·have hjl:j < n * k:=by
   have:=(List.getElem?_eq_some_iff.1 hj).1
   rw[flat_len heach,hlen] at this
   exact this
  have hi:j / k < n:=Nat.div_lt_of_lt_mul (by rw[Nat.mul_comm];exact hjl)
  have hm:j % k < k:=Nat.mod_lt _ hk
  have hdm:j / k * k+j % k=j:=by rw[Nat.mul_comm];exact Nat.div_add_mod j k
  have hfl:=flat_at heach (hat _ hi) (j:=j % k) hm
  rw[hdm,hj] at hfl
  obtain⟨_,_,_,hrg,_⟩:=hf _ hi
  have:=hrg (j % k) u hfl.symm
  rw[Addr.add_mid]
  rw[Nat.add_assoc,hdm] at this
  exact this
 ·rw[e1] at e2
  cases e2
  have hi:i < n:=by have:=(List.getElem?_eq_some_iff.1 e1).1;rw[hlen] at this;exact this
  rw[hat i hi] at e1
  cases e1
  obtain⟨_,_,h4,_,h5⟩:=hf i hi
  exact⟨h4,rfl,h1 _ _ _ _ h5⟩
 ·have hi:i < n:=by have:=(List.getElem?_eq_some_iff.1 e2).1;rw[hlen] at this;exact this
  rw[hat i hi] at e2
  cases e2
  obtain⟨y,e0,h4,_,h5⟩:=hf i hi
  rw[e1] at e0
  cases e0
  exact⟨h4,h5⟩
theorem TOwnC.toT {α:Type} {k:Nat} {R:RowRel α} {e:TypeId} {lo B:Nat} {w:World} {v:Value} {css:List (List Value)} {xs:List α} (h:TOwnC k rCel e lo B w v css css) (hr:Rows k R lo w css xs):TOwnC k R e lo B w v css xs:=
 ⟨hr,by rw[←hr.len];exact h.owns,h.own⟩
def Cloned {α:Type} (k:Nat) (R:RowRel α) (t:TypeId) (W0 w:World) (xs:List α) (e:Ending) (w':World):Prop:=
 (∃ v css,e=.returned v∧TOwnC k rCel t w.heap.size w.heap.size w' v css css∧Rows k R 0 W0 css xs)∧Below w.heap.size w w'
theorem TOwnC.nilc {k:Nat} {e:TypeId} {lo B:Nat} {w:World}:TOwnC k rCel e lo B w (.slice none 0 0) [] []:=⟨Rows.nil,⟨by simp,Or.inl ⟨rfl,rfl⟩⟩,fun b hb=>by cases hb⟩

theorem I_CloneKndKind (xs:List DKndKind) (v:Value) (W0 w:World) (hW:Below W0.heap.size W0 w) (hs:Sl 2 rKndKind 0 W0 v xs) (hl:xs.length≤1000000) :
  Calls Tryz.prog 136 #[v] w (Cloned 2 rKndKind 59 W0 w xs):=by
 obtain⟨a,n,cap,rfl⟩:=hs.form
 have HS:=qhd hs
 have HL:=qhd hl
 have HW:=qhd hW
 clear hs hl hW
 cases a with
 | none=>
   have hx:xs=[]:=by
    obtain⟨a',n',c',e,h1,h2,h3,h4⟩:=HS.out
    cases e
    by_cases h0:0 < n
    ·obtain⟨b,off,e,_⟩:=h4 h0
     cases e
    ·exact List.eq_nil_of_length_eq_zero (by omega)
   subst hx
   have hq:∀ W,(binOp .eql 72 (.slice none n cap) (.slice none 0 0)).run Tryz.prog W=.ok (.bool true) W:=fun W=>Lib.run_eql_slice_nil W _ _ _ _ _ _ _ Tryz.underlying72
   refine qac fun R HR=>?_
   go_enter Tryz.func136,Tryz.ntmps136
   go_wp2
   all_goals (try go_returns)
   all_goals exact HR.out _ _ ⟨⟨_,[],rfl,TOwnC.nilc,Rows.nil⟩,Below.refl _ _⟩
 | some ad=>
   obtain⟨css,hsrc,hc,hr⟩:=HS.out.cel rKndKind_one (by decide)
   have HSRC:=qhd hsrc
   have HC:=qhd hc
   have HRW:=qhd hr
   clear hsrc hc hr
   have hq:∀ W,(binOp .eql 72 (.slice (some ad) n cap) (.slice none 0 0)).run Tryz.prog W=.ok (.bool false) W:=fun W=>Lib.run_eql_slice_nil W _ _ _ _ _ _ _ Tryz.underlying72
   refine qac fun R HR=>?_
   go_enter Tryz.func136,Tryz.ntmps136
   have hB0:Below w.heap.size w (w.alloc (.cells #[] 59)):=(Below.refl _ _).alloc (Nat.le_refl _) _
   have HB0:=qhd hB0
   clear hB0
   go_wp2_with (at_builtin;refine qas (B:=w.heap.size) (lo:=w.heap.size) (R:=rCel) (E:=NoT) (ys:=css) (css:=css) (by rfl) (.tmp 5) (.tmp 6) 72 (by rfl) sty_Knd rCel_goodT rCel_one (by rfl) (by rfl) (Empty0.new w _ (Nat.le_refl _)) (HSRC.out.kept (HW.out.trans (HB0.out.mono HW.out.size))) (HC.out.mono fun _ _ h=>h) (by rw[HRW.out.len];exact HL.out) (Nat.le_refl _) HB0.out.size ?_;intro v' w' ht hb;have HT:=qhd ht;have HBB:=qhd (HB0.out.trans (hb.mono HB0.out.size));obtain⟨va,vn,vc,hv⟩:=ht.plain.sl.form3;subst hv;clear ht hb)
   all_goals (try go_returns)
   all_goals exact HR.out _ _ ⟨⟨_,css,rfl,HT.out,HRW.out⟩,HBB.out⟩

theorem I_CloneClsField (xs:List DClsField) (v:Value) (W0 w:World) (hW:Below W0.heap.size W0 w) (hs:Sl 3 rClsField 0 W0 v xs) (hl:xs.length≤1000000) :
  Calls Tryz.prog 104 #[v] w (Cloned 3 rClsField 61 W0 w xs):=by
 obtain⟨a,n,cap,rfl⟩:=hs.form
 have HS:=qhd hs
 have HL:=qhd hl
 have HW:=qhd hW
 clear hs hl hW
 cases a with
 | none=>
   have hx:xs=[]:=by
    obtain⟨a',n',c',e,h1,h2,h3,h4⟩:=HS.out
    cases e
    by_cases h0:0 < n
    ·obtain⟨b,off,e,_⟩:=h4 h0
     cases e
    ·exact List.eq_nil_of_length_eq_zero (by omega)
   subst hx
   have hq:∀ W,(binOp .eql 26 (.slice none n cap) (.slice none 0 0)).run Tryz.prog W=.ok (.bool true) W:=fun W=>Lib.run_eql_slice_nil W _ _ _ _ _ _ _ Tryz.underlying26
   refine qac fun R HR=>?_
   go_enter Tryz.func104,Tryz.ntmps104
   go_wp2
   all_goals (try go_returns)
   all_goals exact HR.out _ _ ⟨⟨_,[],rfl,TOwnC.nilc,Rows.nil⟩,Below.refl _ _⟩
 | some ad=>
   obtain⟨css,hsrc,hc,hr⟩:=HS.out.cel rClsField_one (by decide)
   have HSRC:=qhd hsrc
   have HC:=qhd hc
   have HRW:=qhd hr
   clear hsrc hc hr
   have hq:∀ W,(binOp .eql 26 (.slice (some ad) n cap) (.slice none 0 0)).run Tryz.prog W=.ok (.bool false) W:=fun W=>Lib.run_eql_slice_nil W _ _ _ _ _ _ _ Tryz.underlying26
   refine qac fun R HR=>?_
   go_enter Tryz.func104,Tryz.ntmps104
   have hB0:Below w.heap.size w (w.alloc (.cells #[] 61)):=(Below.refl _ _).alloc (Nat.le_refl _) _
   have HB0:=qhd hB0
   clear hB0
   go_wp2_with (at_builtin;refine qas (B:=w.heap.size) (lo:=w.heap.size) (R:=rCel) (E:=NoT) (ys:=css) (css:=css) (by rfl) (.tmp 5) (.tmp 6) 26 (by rfl) sty_Fld rCel_goodT rCel_one (by rfl) (by rfl) (Empty0.new w _ (Nat.le_refl _)) (HSRC.out.kept (HW.out.trans (HB0.out.mono HW.out.size))) (HC.out.mono fun _ _ h=>h) (by rw[HRW.out.len];exact HL.out) (Nat.le_refl _) HB0.out.size ?_;intro v' w' ht hb;have HT:=qhd ht;have HBB:=qhd (HB0.out.trans (hb.mono HB0.out.size));obtain⟨va,vn,vc,hv⟩:=ht.plain.sl.form3;subst hv;clear ht hb)
   all_goals (try go_returns)
   all_goals exact HR.out _ _ ⟨⟨_,css,rfl,HT.out,HRW.out⟩,HBB.out⟩

theorem I_CloneClsIns (xs:List DClsIns) (v:Value) (W0 w:World) (hW:Below W0.heap.size W0 w) (hs:Sl 4 rClsIns 0 W0 v xs) (hl:xs.length≤1000000) :
  Calls Tryz.prog 137 #[v] w (Cloned 4 rClsIns 136 W0 w xs):=by
 obtain⟨a,n,cap,rfl⟩:=hs.form
 have HS:=qhd hs
 have HL:=qhd hl
 have HW:=qhd hW
 clear hs hl hW
 cases a with
 | none=>
   have hx:xs=[]:=by
    obtain⟨a',n',c',e,h1,h2,h3,h4⟩:=HS.out
    cases e
    by_cases h0:0 < n
    ·obtain⟨b,off,e,_⟩:=h4 h0
     cases e
    ·exact List.eq_nil_of_length_eq_zero (by omega)
   subst hx
   have hq:∀ W,(binOp .eql 73 (.slice none n cap) (.slice none 0 0)).run Tryz.prog W=.ok (.bool true) W:=fun W=>Lib.run_eql_slice_nil W _ _ _ _ _ _ _ Tryz.underlying73
   refine qac fun R HR=>?_
   go_enter Tryz.func137,Tryz.ntmps137
   go_wp2
   all_goals (try go_returns)
   all_goals exact HR.out _ _ ⟨⟨_,[],rfl,TOwnC.nilc,Rows.nil⟩,Below.refl _ _⟩
 | some ad=>
   obtain⟨css,hsrc,hc,hr⟩:=HS.out.cel rClsIns_one (by decide)
   have HSRC:=qhd hsrc
   have HC:=qhd hc
   have HRW:=qhd hr
   clear hsrc hc hr
   have hq:∀ W,(binOp .eql 73 (.slice (some ad) n cap) (.slice none 0 0)).run Tryz.prog W=.ok (.bool false) W:=fun W=>Lib.run_eql_slice_nil W _ _ _ _ _ _ _ Tryz.underlying73
   refine qac fun R HR=>?_
   go_enter Tryz.func137,Tryz.ntmps137
   have hB0:Below w.heap.size w (w.alloc (.cells #[] 136)):=(Below.refl _ _).alloc (Nat.le_refl _) _
   have HB0:=qhd hB0
   clear hB0
   go_wp2_with (at_builtin;refine qas (B:=w.heap.size) (lo:=w.heap.size) (R:=rCel) (E:=NoT) (ys:=css) (css:=css) (by rfl) (.tmp 5) (.tmp 6) 73 (by rfl) sty_Ins rCel_goodT rCel_one (by rfl) (by rfl) (Empty0.new w _ (Nat.le_refl _)) (HSRC.out.kept (HW.out.trans (HB0.out.mono HW.out.size))) (HC.out.mono fun _ _ h=>h) (by rw[HRW.out.len];exact HL.out) (Nat.le_refl _) HB0.out.size ?_;intro v' w' ht hb;have HT:=qhd ht;have HBB:=qhd (HB0.out.trans (hb.mono HB0.out.size));obtain⟨va,vn,vc,hv⟩:=ht.plain.sl.form3;subst hv;clear ht hb)
   all_goals (try go_returns)
   all_goals exact HR.out _ _ ⟨⟨_,css,rfl,HT.out,HRW.out⟩,HBB.out⟩

theorem I_CloneTagTag (xs:List DTagTag) (v:Value) (W0 w:World) (hW:Below W0.heap.size W0 w) (hs:Sl 2 rTagTag 0 W0 v xs) (hl:xs.length≤1000000) :
  Calls Tryz.prog 139 #[v] w (Cloned 2 rTagTag 165 W0 w xs):=by
 obtain⟨a,n,cap,rfl⟩:=hs.form
 have HS:=qhd hs
 have HL:=qhd hl
 have HW:=qhd hW
 clear hs hl hW
 cases a with
 | none=>
   have hx:xs=[]:=by
    obtain⟨a',n',c',e,h1,h2,h3,h4⟩:=HS.out
    cases e
    by_cases h0:0 < n
    ·obtain⟨b,off,e,_⟩:=h4 h0
     cases e
    ·exact List.eq_nil_of_length_eq_zero (by omega)
   subst hx
   have hq:∀ W,(binOp .eql 137 (.slice none n cap) (.slice none 0 0)).run Tryz.prog W=.ok (.bool true) W:=fun W=>Lib.run_eql_slice_nil W _ _ _ _ _ _ _ Tryz.underlying137
   refine qac fun R HR=>?_
   go_enter Tryz.func139,Tryz.ntmps139
   go_wp2
   all_goals (try go_returns)
   all_goals exact HR.out _ _ ⟨⟨_,[],rfl,TOwnC.nilc,Rows.nil⟩,Below.refl _ _⟩
 | some ad=>
   obtain⟨css,hsrc,hc,hr⟩:=HS.out.cel rTagTag_one (by decide)
   have HSRC:=qhd hsrc
   have HC:=qhd hc
   have HRW:=qhd hr
   clear hsrc hc hr
   have hq:∀ W,(binOp .eql 137 (.slice (some ad) n cap) (.slice none 0 0)).run Tryz.prog W=.ok (.bool false) W:=fun W=>Lib.run_eql_slice_nil W _ _ _ _ _ _ _ Tryz.underlying137
   refine qac fun R HR=>?_
   go_enter Tryz.func139,Tryz.ntmps139
   have hB0:Below w.heap.size w (w.alloc (.cells #[] 165)):=(Below.refl _ _).alloc (Nat.le_refl _) _
   have HB0:=qhd hB0
   clear hB0
   go_wp2_with (at_builtin;refine qas (B:=w.heap.size) (lo:=w.heap.size) (R:=rCel) (E:=NoT) (ys:=css) (css:=css) (by rfl) (.tmp 5) (.tmp 6) 137 (by rfl) sty_Tag rCel_goodT rCel_one (by rfl) (by rfl) (Empty0.new w _ (Nat.le_refl _)) (HSRC.out.kept (HW.out.trans (HB0.out.mono HW.out.size))) (HC.out.mono fun _ _ h=>h) (by rw[HRW.out.len];exact HL.out) (Nat.le_refl _) HB0.out.size ?_;intro v' w' ht hb;have HT:=qhd ht;have HBB:=qhd (HB0.out.trans (hb.mono HB0.out.size));obtain⟨va,vn,vc,hv⟩:=ht.plain.sl.form3;subst hv;clear ht hb)
   all_goals (try go_returns)
   all_goals exact HR.out _ _ ⟨⟨_,css,rfl,HT.out,HRW.out⟩,HBB.out⟩

theorem I_CloneClsMap (xs:List DClsMap) (v:Value) (W0 w:World) (hW:Below W0.heap.size W0 w) (hs:Sl 3 rClsMap 0 W0 v xs) (hl:xs.length≤1000000) :
  Calls Tryz.prog 138 #[v] w (Cloned 3 rClsMap 139 W0 w xs):=by
 obtain⟨a,n,cap,rfl⟩:=hs.form
 have HS:=qhd hs
 have HL:=qhd hl
 have HW:=qhd hW
 clear hs hl hW
 cases a with
 | none=>
   have hx:xs=[]:=by
    obtain⟨a',n',c',e,h1,h2,h3,h4⟩:=HS.out
    cases e
    by_cases h0:0 < n
    ·obtain⟨b,off,e,_⟩:=h4 h0
     cases e
    ·exact List.eq_nil_of_length_eq_zero (by omega)
   subst hx
   have hq:∀ W,(binOp .eql 74 (.slice none n cap) (.slice none 0 0)).run Tryz.prog W=.ok (.bool true) W:=fun W=>Lib.run_eql_slice_nil W _ _ _ _ _ _ _ Tryz.underlying74
   refine qac fun R HR=>?_
   go_enter Tryz.func138,Tryz.ntmps138
   go_wp2
   all_goals (try go_returns)
   all_goals exact HR.out _ _ ⟨⟨_,[],rfl,TOwnC.nilc,Rows.nil⟩,Below.refl _ _⟩
 | some ad=>
   obtain⟨css,hsrc,hc,hr⟩:=HS.out.cel rClsMap_one (by decide)
   have HSRC:=qhd hsrc
   have HC:=qhd hc
   have HRW:=qhd hr
   clear hsrc hc hr
   have hq:∀ W,(binOp .eql 74 (.slice (some ad) n cap) (.slice none 0 0)).run Tryz.prog W=.ok (.bool false) W:=fun W=>Lib.run_eql_slice_nil W _ _ _ _ _ _ _ Tryz.underlying74
   refine qac fun R HR=>?_
   go_enter Tryz.func138,Tryz.ntmps138
   have hB0:Below w.heap.size w (w.alloc (.cells #[] 139)):=(Below.refl _ _).alloc (Nat.le_refl _) _
   have HB0:=qhd hB0
   clear hB0
   go_wp2_with (at_builtin;refine qas (B:=w.heap.size) (lo:=w.heap.size) (R:=rCel) (E:=NoT) (ys:=css) (css:=css) (by rfl) (.tmp 5) (.tmp 6) 74 (by rfl) sty_Map rCel_goodT rCel_one (by rfl) (by rfl) (Empty0.new w _ (Nat.le_refl _)) (HSRC.out.kept (HW.out.trans (HB0.out.mono HW.out.size))) (HC.out.mono fun _ _ h=>h) (by rw[HRW.out.len];exact HL.out) (Nat.le_refl _) HB0.out.size ?_;intro v' w' ht hb;have HT:=qhd ht;have HBB:=qhd (HB0.out.trans (hb.mono HB0.out.size));obtain⟨va,vn,vc,hv⟩:=ht.plain.sl.form3;subst hv;clear ht hb)
   all_goals (try go_returns)
   all_goals exact HR.out _ _ ⟨⟨_,css,rfl,HT.out,HRW.out⟩,HBB.out⟩

theorem I_CloneClsMethod (xs:List DClsMethod) (v:Value) (W0 w:World) (hW:Below W0.heap.size W0 w) (hs:Sl 8 rClsMethod 0 W0 v xs) (hl:xs.length≤1000000) :
  Calls Tryz.prog 105 #[v] w (Cloned 8 rClsMethod 76 W0 w xs):=by
 obtain⟨a,n,cap,rfl⟩:=hs.form
 have HS:=qhd hs
 have HL:=qhd hl
 have HW:=qhd hW
 clear hs hl hW
 cases a with
 | none=>
   have hx:xs=[]:=by
    obtain⟨a',n',c',e,h1,h2,h3,h4⟩:=HS.out
    cases e
    by_cases h0:0 < n
    ·obtain⟨b,off,e,_⟩:=h4 h0
     cases e
    ·exact List.eq_nil_of_length_eq_zero (by omega)
   subst hx
   have hq:∀ W,(binOp .eql 27 (.slice none n cap) (.slice none 0 0)).run Tryz.prog W=.ok (.bool true) W:=fun W=>Lib.run_eql_slice_nil W _ _ _ _ _ _ _ Tryz.underlying27
   refine qac fun R HR=>?_
   go_enter Tryz.func105,Tryz.ntmps105
   go_wp2
   all_goals (try go_returns)
   all_goals exact HR.out _ _ ⟨⟨_,[],rfl,TOwnC.nilc,Rows.nil⟩,Below.refl _ _⟩
 | some ad=>
   obtain⟨css,hsrc,hc,hr⟩:=HS.out.cel rClsMethod_one (by decide)
   have HSRC:=qhd hsrc
   have HC:=qhd hc
   have HRW:=qhd hr
   clear hsrc hc hr
   have hq:∀ W,(binOp .eql 27 (.slice (some ad) n cap) (.slice none 0 0)).run Tryz.prog W=.ok (.bool false) W:=fun W=>Lib.run_eql_slice_nil W _ _ _ _ _ _ _ Tryz.underlying27
   refine qac fun R HR=>?_
   go_enter Tryz.func105,Tryz.ntmps105
   have hB0:Below w.heap.size w (w.alloc (.cells #[] 76)):=(Below.refl _ _).alloc (Nat.le_refl _) _
   have HB0:=qhd hB0
   clear hB0
   go_wp2_with (at_builtin;refine qas (B:=w.heap.size) (lo:=w.heap.size) (R:=rCel) (E:=NoT) (ys:=css) (css:=css) (by rfl) (.tmp 5) (.tmp 6) 27 (by rfl) sty_Mth rCel_goodT rCel_one (by rfl) (by rfl) (Empty0.new w _ (Nat.le_refl _)) (HSRC.out.kept (HW.out.trans (HB0.out.mono HW.out.size))) (HC.out.mono fun _ _ h=>h) (by rw[HRW.out.len];exact HL.out) (Nat.le_refl _) HB0.out.size ?_;intro v' w' ht hb;have HT:=qhd ht;have HBB:=qhd (HB0.out.trans (hb.mono HB0.out.size));obtain⟨va,vn,vc,hv⟩:=ht.plain.sl.form3;subst hv;clear ht hb)
   all_goals (try go_returns)
   all_goals exact HR.out _ _ ⟨⟨_,css,rfl,HT.out,HRW.out⟩,HBB.out⟩

theorem I_CloneClsClass (xs:List DClsClass) (v:Value) (W0 w:World) (hW:Below W0.heap.size W0 w) (hs:Sl 4 rClsClass 0 W0 v xs) (hl:xs.length≤1000000) :
  Calls Tryz.prog 66 #[v] w (Cloned 4 rClsClass 29 W0 w xs):=by
 obtain⟨a,n,cap,rfl⟩:=hs.form
 have HS:=qhd hs
 have HL:=qhd hl
 have HW:=qhd hW
 clear hs hl hW
 cases a with
 | none=>
   have hx:xs=[]:=by
    obtain⟨a',n',c',e,h1,h2,h3,h4⟩:=HS.out
    cases e
    by_cases h0:0 < n
    ·obtain⟨b,off,e,_⟩:=h4 h0
     cases e
    ·exact List.eq_nil_of_length_eq_zero (by omega)
   subst hx
   have hq:∀ W,(binOp .eql 43 (.slice none n cap) (.slice none 0 0)).run Tryz.prog W=.ok (.bool true) W:=fun W=>Lib.run_eql_slice_nil W _ _ _ _ _ _ _ Tryz.underlying43
   refine qac fun R HR=>?_
   go_enter Tryz.func66,Tryz.ntmps66
   go_wp2
   all_goals (try go_returns)
   all_goals exact HR.out _ _ ⟨⟨_,[],rfl,TOwnC.nilc,Rows.nil⟩,Below.refl _ _⟩
 | some ad=>
   obtain⟨css,hsrc,hc,hr⟩:=HS.out.cel rClsClass_one (by decide)
   have HSRC:=qhd hsrc
   have HC:=qhd hc
   have HRW:=qhd hr
   clear hsrc hc hr
   have hq:∀ W,(binOp .eql 43 (.slice (some ad) n cap) (.slice none 0 0)).run Tryz.prog W=.ok (.bool false) W:=fun W=>Lib.run_eql_slice_nil W _ _ _ _ _ _ _ Tryz.underlying43
   refine qac fun R HR=>?_
   go_enter Tryz.func66,Tryz.ntmps66
   have hB0:Below w.heap.size w (w.alloc (.cells #[] 29)):=(Below.refl _ _).alloc (Nat.le_refl _) _
   have HB0:=qhd hB0
   clear hB0
   go_wp2_with (at_builtin;refine qas (B:=w.heap.size) (lo:=w.heap.size) (R:=rCel) (E:=NoT) (ys:=css) (css:=css) (by rfl) (.tmp 5) (.tmp 6) 43 (by rfl) sty_Cls rCel_goodT rCel_one (by rfl) (by rfl) (Empty0.new w _ (Nat.le_refl _)) (HSRC.out.kept (HW.out.trans (HB0.out.mono HW.out.size))) (HC.out.mono fun _ _ h=>h) (by rw[HRW.out.len];exact HL.out) (Nat.le_refl _) HB0.out.size ?_;intro v' w' ht hb;have HT:=qhd ht;have HBB:=qhd (HB0.out.trans (hb.mono HB0.out.size));obtain⟨va,vn,vc,hv⟩:=ht.plain.sl.form3;subst hv;clear ht hb)
   all_goals (try go_returns)
   all_goals exact HR.out _ _ ⟨⟨_,css,rfl,HT.out,HRW.out⟩,HBB.out⟩

theorem I_CloneLodAsk (xs:List DLodAsk) (v:Value) (W0 w:World) (hW:Below W0.heap.size W0 w) (hs:Sl 2 rLodAsk 0 W0 v xs) (hl:xs.length≤1000000) :
  Calls Tryz.prog 68 #[v] w (Cloned 2 rLodAsk 48 W0 w xs):=by
 obtain⟨a,n,cap,rfl⟩:=hs.form
 have HS:=qhd hs
 have HL:=qhd hl
 have HW:=qhd hW
 clear hs hl hW
 cases a with
 | none=>
   have hx:xs=[]:=by
    obtain⟨a',n',c',e,h1,h2,h3,h4⟩:=HS.out
    cases e
    by_cases h0:0 < n
    ·obtain⟨b,off,e,_⟩:=h4 h0
     cases e
    ·exact List.eq_nil_of_length_eq_zero (by omega)
   subst hx
   have hq:∀ W,(binOp .eql 44 (.slice none n cap) (.slice none 0 0)).run Tryz.prog W=.ok (.bool true) W:=fun W=>Lib.run_eql_slice_nil W _ _ _ _ _ _ _ Tryz.underlying44
   refine qac fun R HR=>?_
   go_enter Tryz.func68,Tryz.ntmps68
   go_wp2
   all_goals (try go_returns)
   all_goals exact HR.out _ _ ⟨⟨_,[],rfl,TOwnC.nilc,Rows.nil⟩,Below.refl _ _⟩
 | some ad=>
   obtain⟨css,hsrc,hc,hr⟩:=HS.out.cel rLodAsk_one (by decide)
   have HSRC:=qhd hsrc
   have HC:=qhd hc
   have HRW:=qhd hr
   clear hsrc hc hr
   have hq:∀ W,(binOp .eql 44 (.slice (some ad) n cap) (.slice none 0 0)).run Tryz.prog W=.ok (.bool false) W:=fun W=>Lib.run_eql_slice_nil W _ _ _ _ _ _ _ Tryz.underlying44
   refine qac fun R HR=>?_
   go_enter Tryz.func68,Tryz.ntmps68
   have hB0:Below w.heap.size w (w.alloc (.cells #[] 48)):=(Below.refl _ _).alloc (Nat.le_refl _) _
   have HB0:=qhd hB0
   clear hB0
   go_wp2_with (at_builtin;refine qas (B:=w.heap.size) (lo:=w.heap.size) (R:=rCel) (E:=NoT) (ys:=css) (css:=css) (by rfl) (.tmp 5) (.tmp 6) 44 (by rfl) sty_Ask rCel_goodT rCel_one (by rfl) (by rfl) (Empty0.new w _ (Nat.le_refl _)) (HSRC.out.kept (HW.out.trans (HB0.out.mono HW.out.size))) (HC.out.mono fun _ _ h=>h) (by rw[HRW.out.len];exact HL.out) (Nat.le_refl _) HB0.out.size ?_;intro v' w' ht hb;have HT:=qhd ht;have HBB:=qhd (HB0.out.trans (hb.mono HB0.out.size));obtain⟨va,vn,vc,hv⟩:=ht.plain.sl.form3;subst hv;clear ht hb)
   all_goals (try go_returns)
   all_goals exact HR.out _ _ ⟨⟨_,css,rfl,HT.out,HRW.out⟩,HBB.out⟩

theorem qar {w:World} {b i:Nat} {cs:Array Value} {t:TypeId} {fr:Nat × Nat} {v:Value} (h:w.heap[b]? =some (.cells cs t fr)):(w.setCell ⟨b,i,none⟩ v).heap[b]? =some (.cells (cs.setIfInBounds i v) t fr):=by
 show(w.heap.modify b _)[b]? =_
 rw[Array.getElem?_modify,if_pos rfl,h];rfl
theorem flat_set {k:Nat} {u:Value}:∀ {css:List (List Value)} {i j:Nat} {cs:List Value},(∀ c∈css,c.length=k)→css[i]? =some cs→j < k→(css.set i (cs.set j u)).flatten=css.flatten.set (i * k+j) u
 | [],i,j,cs,_,e,_=>by simp at e
 | c :: r,0,j,cs,hk,e,hj=>by
   simp at e;subst e
   have:=hk c (by simp)
   rw[List.set_cons_zero,List.flatten_cons,List.flatten_cons,Nat.zero_mul,Nat.zero_add,List.set_append_left _ _ (by omega)]
 | c :: r,i+1,j,cs,hk,e,hj=>by
   have h1:=hk c (by simp)
   have h2:=flat_set (u:=u) (css:=r) (i:=i) (j:=j) (cs:=cs) (fun x hx=>hk x (by simp[hx])) (by simpa using e) hj
   rw[List.set_cons_succ,List.flatten_cons,List.flatten_cons,h2,List.set_append_right _ _ (by rw[Nat.add_mul];omega)]
   congr 2
   rw[Nat.add_mul];omega
theorem TOwnC.setAt {k:Nat} {e:TypeId} {lo B:Nat} {w:World} {g n cap:Nat} {css:List (List Value)} (h:TOwnC k rCel e lo B w (.slice (some ⟨g,0,none⟩) n cap) css css) {i j:Nat} {cs:List Value} {u:Value} (hi:css[i]? =some cs) (hj:j < k) (hu:u.oneCell'=true) :
  TOwnC k rCel e lo B (w.setCell ⟨g,i * k+j,none⟩ u) (.slice (some ⟨g,0,none⟩) n cap) (css.set i (cs.set j u)) (css.set i (cs.set j u)):=by
 obtain⟨h1,h2,h3⟩:=h
 obtain⟨hck,hcr⟩:=h1.row i cs cs hi hi
 have hil:=(List.getElem?_eq_some_iff.1 hi).1
 refine⟨⟨rfl,fun a x ds e1 e2=>?_⟩,?_,h3⟩
 ·rw[e1] at e2
  cases e2
  by_cases ha:a=i
  ·subst ha
   rw[List.getElem?_set_self hil] at e1
   cases e1
   refine⟨by rw[List.length_set];exact hck,rfl,fun v hv=>?_⟩
   rcases List.mem_or_eq_of_mem_set hv with hv|rfl
   ·exact hcr.2 v hv
   ·exact hu
  ·rw[List.getElem?_set_ne (by omega)] at e1
   exact h1.row a _ _ e1 e1
 ·have hfl:=flat_set (u:=u) h1.each hi hj
  obtain⟨h0,h4⟩:=h2
  refine⟨by rw[hfl,List.length_set,List.length_set];exact h0,Or.inr ?_⟩
  rcases h4 with ⟨h4,_⟩|⟨g',cap',cur,h4,h5,h6,h7,h8,h9,h10⟩
  ·cases h4
  ·cases h4
   refine⟨g,cap,cur.setIfInBounds (i * k+j) u,by rw[List.length_set],h5,qar h6,by rw[List.length_set];exact h7,h8,by rw[Array.size_setIfInBounds];exact h9,?_⟩
   rw[List.length_set,hfl,←h10,Array.toList_setIfInBounds,List.take_set]
theorem setCells_head (b o:Nat) (v:Value) (r:List Value) (w:World):w.setCells b o (v :: r)=(w.setCell ⟨b,o,none⟩ v).setCells b (o+1) r:=rfl
theorem TOwnC.setFrom {k:Nat} {e:TypeId} {lo B:Nat} {g n cap i:Nat}:∀ (vs pre:List Value) (w:World) (css:List (List Value)) (cs:List Value),TOwnC k rCel e lo B w (.slice (some ⟨g,0,none⟩) n cap) css css→css[i]? =some cs→cs.length=k→pre.length+vs.length=k→cs.take pre.length=pre→(∀ u∈vs,u.oneCell'=true) →
  TOwnC k rCel e lo B (w.setCells g (i * k+pre.length) vs) (.slice (some ⟨g,0,none⟩) n cap) (css.set i (pre++vs)) (css.set i (pre++vs))
 | [],pre,w,css,cs,h,hi,hc,hl,hp,_=>by
   have h1:pre=cs:=by
    rw[←hp,List.take_of_length_le]
    simp at hl
    omega
   subst h1
   have h2:css.set i (pre++[])=css:=by
    rw[List.append_nil]
    apply List.ext_getElem?
    intro m
    by_cases hm:m=i
    ·subst hm
     rw[List.getElem?_set_self (List.getElem?_eq_some_iff.1 hi).1,hi]
    ·rw[List.getElem?_set_ne (by omega)]
   rw[h2]
   exact h
 | v :: vs,pre,w,css,cs,h,hi,hc,hl,hp,ho=>by
   simp only[List.length_cons] at hl
   rw[setCells_head]
   have h1:=h.setAt (j:=pre.length) (u:=v) hi (by omega) (ho v (by simp))
   have hil:=(List.getElem?_eq_some_iff.1 hi).1
   have h2:=TOwnC.setFrom (i:=i) vs (pre++[v]) _ _ (cs.set pre.length v) h1 (List.getElem?_set_self hil) (by rw[List.length_set];exact hc) (by rw[List.length_append,List.length_singleton];omega) (by
    rw[List.length_append,List.length_singleton,List.take_add_one,List.take_set_of_le (Nat.le_refl _),hp,List.getElem?_set_self (by omega)]
    rfl) (fun u hu=>ho u (by simp[hu]))
   rw[List.length_append,List.length_singleton,List.set_set,List.append_assoc,List.singleton_append] at h2
   rw[show i * k+pre.length+1=i * k+(pre.length+1) by omega]
   exact h2
theorem TOwnC.setRow {k:Nat} {e:TypeId} {lo B:Nat} {w:World} {g n cap i:Nat} {css:List (List Value)} {cs vs:List Value} (h:TOwnC k rCel e lo B w (.slice (some ⟨g,0,none⟩) n cap) css css) (hi:css[i]? =some cs) (hv:vs.length=k) (ho:∀ u∈vs,u.oneCell'=true) :
  TOwnC k rCel e lo B (w.setCells g (i * k) vs) (.slice (some ⟨g,0,none⟩) n cap) (css.set i vs) (css.set i vs):=by
 have:=TOwnC.setFrom (i:=i) vs [] w css cs h hi (h.rows.row i cs cs hi hi).1 (by simpa using hv) rfl ho
 simpa using this
theorem TOwnC.cellAt {k:Nat} {e:TypeId} {lo B:Nat} {w:World} {g n cap:Nat} {css:List (List Value)} (h:TOwnC k rCel e lo B w (.slice (some ⟨g,0,none⟩) n cap) css css) {i j:Nat} {cs:List Value} {u:Value} (hi:css[i]? =some cs) (hu:cs[j]? =some u):w.cell? ⟨g,i * k+j,none⟩=some u∧w.frozen? ⟨g,i * k+j,none⟩=false∧g < w.heap.size:=by
 have hil:=(List.getElem?_eq_some_iff.1 hi).1
 obtain⟨g',cap',e1,_,hg,_,_,hc,hf⟩:=own_cell h.owns (by omega)
 cases e1
 have hck:=(h.rows.row i cs cs hi hi).1
 exact⟨hc _ u ((flat_at h.rows.each hi (by rw[←hck];exact(List.getElem?_eq_some_iff.1 hu).1)).trans hu),hf _,hg⟩
theorem TOwnC.typeAt {k:Nat} {e:TypeId} {lo B:Nat} {w:World} {g n cap:Nat} {css:List (List Value)} (h:TOwnC k rCel e lo B w (.slice (some ⟨g,0,none⟩) n cap) css css):∃ cur,w.heap[g]? =some (.cells cur e (0,0)):=by
 obtain⟨_,h4⟩:=h.owns
 rcases h4 with ⟨h4,_⟩|⟨g',cap',cur,h4,_,h6,_⟩
 ·cases h4
 ·cases h4;exact⟨cur,h6⟩
theorem KeepsT.setCells {E:TypeId→Prop} {lo:Nat} {c:Nat} {t:TypeId} (hn:¬E t):∀ (vs:List Value) (o:Nat) (w:World),TypeAt w c t→KeepsT E lo w (w.setCells c o vs)
 | [],_,w,_=>KeepsT.refl _ _ _
 | v :: r,o,w,h=>by
   rw[setCells_head]
   exact(KeepsT.set h hn).trans (KeepsT.setCells hn r _ _ (h.set _ _))

theorem eightC {w:World} {b:Nat} {x0 x1 x2 x3 x4 x5 x6 x7:Value} {t:TypeId} (h:w.heap[b]? =some (.cells #[x0,x1,x2,x3,x4,x5,x6,x7] t (0,0))) :
  (w.cell? ⟨b,0,none⟩=some x0∧w.cell? ⟨b,1,none⟩=some x1∧w.cell? ⟨b,2,none⟩=some x2∧w.cell? ⟨b,3,none⟩=some x3∧w.cell? ⟨b,4,none⟩=some x4∧w.cell? ⟨b,5,none⟩=some x5∧w.cell? ⟨b,6,none⟩=some x6∧w.cell? ⟨b,7,none⟩=some x7)∧∀ j,w.frozen? ⟨b,j,none⟩=false:=by
 refine⟨⟨?_,?_,?_,?_,?_,?_,?_,?_⟩,fun j=>?_⟩<;>simp[World.cell?,World.frozen?,h]
theorem heapLt {w:World} {b:Nat} {o:Obj} (h:w.heap[b]? =some o):b < w.heap.size:=(Array.getElem?_eq_some_iff.1 h).1
def NotT (t:TypeId):TypeId→Prop:=fun s=>s≠t
theorem notT (t:TypeId):¬NotT t t:=fun h=>h rfl
theorem TOwnC.keptB {k:Nat} {e:TypeId} {lo B:Nat} {w w':World} {v:Value} {css:List (List Value)} (h:TOwnC k rCel e lo B w v css css) (hk:∀ b,v.ownBlock=some b→w'.heap[b]? =w.heap[b]?):TOwnC k rCel e lo B w' v css css:=
 ⟨h.rows.mono fun _ _ h=>h,own_kept h.owns (fun g cs fr hg _ _=>hk g hg),h.own⟩
theorem TOwnC.belowB {k:Nat} {e:TypeId} {lo B:Nat} {w w':World} {v:Value} {css:List (List Value)} (h:TOwnC k rCel e lo B w v css css) (hb:Below w.heap.size w w'):TOwnC k rCel e lo B w' v css css:=h.below (E:=NoT) rCel_goodT hb
theorem KeepsT.weaken {E E':TypeId→Prop} {lo:Nat} {w w':World} (h:KeepsT E' lo w w') (hE:∀ e,E e→E' e):KeepsT E lo w w':=⟨h.size,fun g cs e fr hl he=>h.block g cs e fr hl (hE e he)⟩
theorem KeepsT.lift {E:TypeId→Prop} {lo lo':Nat} {w w':World} (h:KeepsT E lo w w') (hl:lo≤lo'):KeepsT E lo' w w':=⟨h.size,fun g cs e fr hg=>h.block g cs e fr (Nat.le_trans hl hg)⟩
theorem TOwnC.slot {k:Nat} {e:TypeId} {lo B:Nat} {w:World} {a:Option Addr} {n cap:Nat} {css:List (List Value)} (h:TOwnC k rCel e lo B w (.slice a n cap) css css) (hn:0 < css.length):∃ g,a=some ⟨g,0,none⟩∧B≤g∧g < w.heap.size∧n≤cap∧n=css.length:=by
 obtain⟨g,cap',e1,_,hg,hc,_,_,_⟩:=own_cell h.owns hn
 cases e1
 exact⟨g,rfl,h.own g rfl,hg,hc,rfl⟩
theorem TSl.staysN {α:Type} {k:Nat} {R:RowRel α} (hR:GoodT NoT R) {t e:TypeId} (he:e≠t) {lo:Nat} {w w':World} {v:Value} {xs:List α} (h:TSl k R e lo w v xs) (hk:KeepsT (NotT t) 0 w w'):TSl k R e lo w' v xs:=
 h.stays (E:=NotT t) (hR.mono fun _ h=>h.elim) he (hk.lift (Nat.zero_le _))
theorem nameW {P:World→Prop} (w:World) (h:∀ W,W=w→P W):P w:=h w rfl
def ShortM (m:DClsMethod):Prop:=m.fArgs.length≤1000000∧m.fCode.length≤1000000∧m.fMaps.length≤1000000∧∀ x∈m.fMaps,x.fLocals.length≤1000000∧x.fStack.length≤1000000
def CopyM (w:World) (m:DClsMethod) (e:Ending) (w':World):Prop:=(∃ row:List Value,e=.returned (.agg row.toArray)∧tClsMethod w.heap.size w' row m)∧Below w.heap.size w w'
theorem cloned_leaf {α:Type} {k:Nat} {R:RowRel α} (hR:GoodT NoT R) {t:TypeId} {W0 W w':World} {xs:List α} {e:Ending} (hlow:∀ lo lo' w w' cs x,R lo w cs x→R lo' w' cs x) (h:Cloned k R t W0 W xs e w'):(∃ v,e=.returned v∧TOwn k R t W.heap.size W.heap.size w' v xs)∧Below W.heap.size W w':=by
 obtain⟨⟨v,css,h1,h2,h3⟩,h4⟩:=h
 exact⟨⟨v,h1,(h2.toT (h3.mono fun cs x hx=>hlow _ _ _ _ _ _ hx)).plain⟩,h4⟩
def mcF (M G FB n c3 ii ci lo:Nat) (sv:Value) (xs:List DTagTag):Nat→Value→World→Prop
 | 0,v,w=>v=.pointer (some ⟨M,7,none⟩)
 | 1,v,w=>v=.slice (some ⟨G,0,none⟩) n c3
 | 2,v,w=>v=.int .i64 (ii:Int)
 | 3,v,w=>v=.pointer (some ⟨FB,ci,none⟩)
 | 4,v,w=>v=sv
 | 5,v,w=>TOwn 2 rTagTag 165 lo lo w v xs
 | 6,v,w=>v=.pointer (some ⟨G,ii * 3,none⟩)
 | 7,v,w=>v=.pointer (some ⟨G,ii * 3+ci,none⟩)
 | _,_,_=>True
theorem mcF_stays {M G FB n c3 ii ci lo:Nat} {sv:Value} {xs:List DTagTag}:∀ i j u w w',i≠j→Below w.heap.size w w'→mcF M G FB n c3 ii ci lo sv xs i u w→mcF M G FB n c3 ii ci lo sv xs i u w':=by
 intro i j u w w' hne hg h
 match i with
 | 0|1|2|3|4|6|7=>exact h
 | 5=>
   exact h.below (E:=NoT) (rTagTag_goodT.mono fun _ h=>h) hg
 | n+8=>trivial

theorem I_copyMethod (m:DClsMethod) (a1:Option Addr) (n1 d1:Nat) (a2:Option Addr) (n2 d2:Nat) (a3:Option Addr) (n3 d3:Nat) (w:World) (s1:Sl 2 rKndKind 0 w (.slice a1 n1 d1) m.fArgs) (s2:Sl 4 rClsIns 0 w (.slice a2 n2 d2) m.fCode) (s3:Sl 3 rClsMap 0 w (.slice a3 n3 d3) m.fMaps) (hnm:m.fName.size≤maxLen) (hrn:m.fRet.fName.size≤maxLen) (hsh:ShortM m) :
  Calls Tryz.prog 106 #[.agg #[.string m.fName,.slice a1 n1 d1,.int .i64 m.fRet.fKind,.string m.fRet.fName,.int .i64 m.fLocals,.int .i64 m.fStack,.slice a2 n2 d2,.slice a3 n3 d3]] w (CopyM w m):=by
 obtain⟨q1,q2,q3,q4⟩:=hsh
 have HQ4:=qhd q4
 have CA:Hid (∀ W,Below w.heap.size w W→Calls Tryz.prog 136 #[.slice a1 n1 d1] W fun e w'=>(∃ v,e=.returned v∧TOwn 2 rKndKind 59 W.heap.size W.heap.size w' v m.fArgs)∧Below W.heap.size W w'):=qhd fun W hW=>(I_CloneKndKind m.fArgs _ w W hW s1 q1).mono fun e w' h=>cloned_leaf (rKndKind_goodT.mono fun _ h=>h) (fun _ _ _ _ _ _ h=>h) h
 have CB:Hid (∀ W,Below w.heap.size w W→Calls Tryz.prog 137 #[.slice a2 n2 d2] W fun e w'=>(∃ v,e=.returned v∧TOwn 4 rClsIns 136 W.heap.size W.heap.size w' v m.fCode)∧Below W.heap.size W w'):=qhd fun W hW=>(I_CloneClsIns m.fCode _ w W hW s2 q2).mono fun e w' h=>cloned_leaf (rClsIns_goodT.mono fun _ h=>h) (fun _ _ _ _ _ _ h=>h) h
 have CC:Hid (∀ W,Below w.heap.size w W→Calls Tryz.prog 138 #[.slice a3 n3 d3] W (Cloned 3 rClsMap 139 w W m.fMaps)):=qhd fun W hW=>I_CloneClsMap m.fMaps _ w W hW s3 q3
 have CT:Hid (∀ (W:World) (v:Value) (xs:List DTagTag),Sl 2 rTagTag 0 W v xs→xs.length≤1000000→Calls Tryz.prog 139 #[v] W fun e w'=>(∃ v,e=.returned v∧TOwn 2 rTagTag 165 W.heap.size W.heap.size w' v xs)∧Below W.heap.size W w'):=qhd fun W v xs hs hl=>(I_CloneTagTag xs _ W W (Below.refl _ _) hs hl).mono fun e w' h=>cloned_leaf (rTagTag_goodT.mono fun _ h=>h) (fun _ _ _ _ _ _ h=>h) h
 have HNM:=qhd hnm
 have HRN:=qhd hrn
 clear s1 s2 s3 hnm hrn q1 q2 q3 q4
 refine qac fun R HR=>?_
 go_enter Tryz.func106,Tryz.ntmps106
 go_wp2_with fail
 obtain⟨wA,hwA⟩:∃ W,W=(w.alloc (.cells #[.string m.fName,.slice a1 n1 d1,.int .i64 m.fRet.fKind,.string m.fRet.fName,.int .i64 m.fLocals,.int .i64 m.fStack,.slice a2 n2 d2,.slice a3 n3 d3] 76)).alloc (.cells #[.string ⟨#[]⟩,.slice none 0 0,.int .i64 0,.string ⟨#[]⟩,.int .i64 0,.int .i64 0,.slice none 0 0,.slice none 0 0] 76):=⟨_,rfl⟩
 have hBA:Below w.heap.size w wA:=by rw[hwA];exact bbel
 have hzA:wA.heap.size=w.heap.size+1+1:=by rw[hwA];simp
 have hMA:wA.heap[w.heap.size]? =some (.cells #[.string m.fName,.slice a1 n1 d1,.int .i64 m.fRet.fKind,.string m.fRet.fName,.int .i64 m.fLocals,.int .i64 m.fStack,.slice a2 n2 d2,.slice a3 n3 d3] 76 (0,0)):=by
  rw[hwA];exact(Below.heap_alloc _ _ _ (by simp)).trans (heap_alloc_new w _)
 have hRA:wA.heap[w.heap.size+1]? =some (.cells #[.string ⟨#[]⟩,.slice none 0 0,.int .i64 0,.string ⟨#[]⟩,.int .i64 0,.int .i64 0,.slice none 0 0,.slice none 0 0] 76 (0,0)):=by
  rw[hwA];have:=heap_alloc_new (w.alloc (.cells #[.string m.fName,.slice a1 n1 d1,.int .i64 m.fRet.fKind,.string m.fRet.fName,.int .i64 m.fLocals,.int .i64 m.fStack,.slice a2 n2 d2,.slice a3 n3 d3] 76)) (.cells #[.string ⟨#[]⟩,.slice none 0 0,.int .i64 0,.string ⟨#[]⟩,.int .i64 0,.int .i64 0,.slice none 0 0,.slice none 0 0] 76);rw[World.size_alloc] at this;exact this
 rw[←hwA]
 clear hwA
 refine(CA.out _ hBA).mono ?_
 rintro _ wB ⟨⟨v1,rfl,t1⟩,hB⟩
 obtain⟨b1,e1,rfl,_,_⟩:=t1.sl.form
 have hzB:=hB.size
 have hMB:=(hB.block _ (by omega)).trans hMA
 have hRB:=(hB.block _ (by omega)).trans hRA
 have hBB:Below w.heap.size w wB:=hBA.trans (hB.mono hBA.size)
 obtain⟨⟨c0,c1,c2,c3,c4,c5,c6,c7⟩,cf⟩:=eightC hMB
 have f1:=cf 1
 have T1:=qhd t1
 have hMl:w.heap.size < wB.heap.size:=by omega
 clear hMA hRA hB t1 hBA cf
 go_wp2_with fail
 obtain⟨wC,hwC⟩:∃ W,W=wB.setCell ⟨w.heap.size,1,none⟩ (.slice b1 m.fArgs.length e1):=⟨_,rfl⟩
 have hzC:wC.heap.size=wB.heap.size:=by rw[hwC];simp[World.setCell]
 have hBC:Below w.heap.size w wC:=by rw[hwC];exact hBB.setCell (Nat.le_refl _) _
 have hMC:wC.heap[w.heap.size]? =some (.cells #[.string m.fName,.slice b1 m.fArgs.length e1,.int .i64 m.fRet.fKind,.string m.fRet.fName,.int .i64 m.fLocals,.int .i64 m.fStack,.slice a2 n2 d2,.slice a3 n3 d3] 76 (0,0)):=by rw[hwC];exact qar hMB
 have hRC:=(show wC.heap[w.heap.size+1]? =wB.heap[w.heap.size+1]? by rw[hwC];exact Below.heap_setCell _ _ _ _ (by show w.heap.size+1≠w.heap.size;omega)).trans hRB
 have T1C:Hid (TOwn 2 rKndKind 59 wA.heap.size wA.heap.size wC (.slice b1 m.fArgs.length e1) m.fArgs):=qhd (by rw[hwC];exact T1.out.set (rKndKind_goodT.mono fun _ h=>h.elim) (by omega))
 obtain⟨⟨_,_,_,_,_,_,c6,_⟩,_⟩:=eightC hMC
 have hlC:w.heap.size < wC.heap.size:=by omega
 rw[←hwC]
 clear hwC c0 c1 c2 c3 c4 c5 c7 f1 hMB hRB hBB hMl T1
 refine(CB.out _ hBC).mono ?_
 rintro _ wD ⟨⟨v2,rfl,t2⟩,hD⟩
 obtain⟨b2,e2,rfl,_,_⟩:=t2.sl.form
 have hzD:=hD.size
 have hMD:=(hD.block _ (by omega)).trans hMC
 have hRD:=(hD.block _ (by omega)).trans hRC
 have hBD:Below w.heap.size w wD:=hBC.trans (hD.mono hBC.size)
 have T1D:=qhd (T1C.out.below (E:=NoT) rKndKind_goodT hD)
 obtain⟨⟨_,_,_,_,_,_,c6',c7⟩,cf⟩:=eightC hMD
 have f6:=cf 6
 have T2:=qhd t2
 have hlD:w.heap.size < wD.heap.size:=by omega
 clear c6 hMC hRC hD t2 hBC cf T1C hlC
 go_wp2_with fail
 obtain⟨wE,hwE⟩:∃ W,W=wD.setCell ⟨w.heap.size,6,none⟩ (.slice b2 m.fCode.length e2):=⟨_,rfl⟩
 have hzE:wE.heap.size=wD.heap.size:=by rw[hwE];simp[World.setCell]
 have hBE:Below w.heap.size w wE:=by rw[hwE];exact hBD.setCell (Nat.le_refl _) _
 have hME:wE.heap[w.heap.size]? =some (.cells #[.string m.fName,.slice b1 m.fArgs.length e1,.int .i64 m.fRet.fKind,.string m.fRet.fName,.int .i64 m.fLocals,.int .i64 m.fStack,.slice b2 m.fCode.length e2,.slice a3 n3 d3] 76 (0,0)):=by rw[hwE];exact qar hMD
 have hRE:=(show wE.heap[w.heap.size+1]? =wD.heap[w.heap.size+1]? by rw[hwE];exact Below.heap_setCell _ _ _ _ (by show w.heap.size+1≠w.heap.size;omega)).trans hRD
 have T1E:Hid (TOwn 2 rKndKind 59 wA.heap.size wA.heap.size wE (.slice b1 m.fArgs.length e1) m.fArgs):=qhd (by rw[hwE];exact T1D.out.set (rKndKind_goodT.mono fun _ h=>h.elim) (by omega))
 have T2E:Hid (TOwn 4 rClsIns 136 wC.heap.size wC.heap.size wE (.slice b2 m.fCode.length e2) m.fCode):=qhd (by rw[hwE];exact T2.out.set (rClsIns_goodT.mono fun _ h=>h.elim) (by omega))
 have hlE:w.heap.size < wE.heap.size:=by omega
 rw[←hwE]
 clear hwE c6' c7 f6 hMD hRD hBD T2 T1D hlD
 refine(CC.out _ hBE).mono ?_
 rintro _ wF ⟨⟨v3,css0,rfl,t3,rr3⟩,hF⟩
 obtain⟨b3,e3,rfl,he3,hm3⟩:=t3.plain.sl.form
 have hln:=rr3.len
 obtain⟨n,hn⟩:∃ n,n=m.fMaps.length:=⟨_,rfl⟩
 rw[←hn] at hln
 rw[hln] at t3 he3 ⊢
 have hzF:=hF.size
 have hMF:=(hF.block _ (by omega)).trans hME
 have hRF:=(hF.block _ (by omega)).trans hRE
 have hBF:Below w.heap.size w wF:=hBE.trans (hF.mono hBE.size)
 have T1F:=qhd (T1E.out.below (E:=NoT) rKndKind_goodT hF)
 have T2F:=qhd (T2E.out.below (E:=NoT) rClsIns_goodT hF)
 obtain⟨⟨_,_,_,_,_,_,_,c7⟩,cf⟩:=eightC hMF
 have f7:=cf 7
 have HBE:=qhd hBE
 have RR3:=qhd rr3
 have HLN:=qhd hln
 have HN:=qhd hn
 have T3:=qhd t3
 have hlF:w.heap.size < wF.heap.size:=by omega
 clear hME hRE hF t3 hBE cf T1E T2E hlE rr3 hln hn
 go_wp2_with fail
 obtain⟨wG,hwG⟩:∃ W,W=wF.setCell ⟨w.heap.size,7,none⟩ (.slice b3 n e3):=⟨_,rfl⟩
 have hzG:wG.heap.size=wF.heap.size:=by rw[hwG];simp[World.setCell]
 have hBG:Below w.heap.size w wG:=by rw[hwG];exact hBF.setCell (Nat.le_refl _) _
 have hMG:wG.heap[w.heap.size]? =some (.cells #[.string m.fName,.slice b1 m.fArgs.length e1,.int .i64 m.fRet.fKind,.string m.fRet.fName,.int .i64 m.fLocals,.int .i64 m.fStack,.slice b2 m.fCode.length e2,.slice b3 n e3] 76 (0,0)):=by rw[hwG];exact qar hMF
 have hRG:=(show wG.heap[w.heap.size+1]? =wF.heap[w.heap.size+1]? by rw[hwG];exact Below.heap_setCell _ _ _ _ (by show w.heap.size+1≠w.heap.size;omega)).trans hRF
 have T1G:Hid (TOwn 2 rKndKind 59 wA.heap.size wA.heap.size wG (.slice b1 m.fArgs.length e1) m.fArgs):=qhd (by rw[hwG];exact T1F.out.set (rKndKind_goodT.mono fun _ h=>h.elim) (by omega))
 have T2G:Hid (TOwn 4 rClsIns 136 wC.heap.size wC.heap.size wG (.slice b2 m.fCode.length e2) m.fCode):=qhd (by rw[hwG];exact T2F.out.set (rClsIns_goodT.mono fun _ h=>h.elim) (by omega))
 have T3G:Hid (TOwnC 3 rCel 139 wE.heap.size wE.heap.size wG (.slice b3 n e3) css0 css0):=qhd (by rw[hwG];exact T3.out.keptB fun b hb=>Below.heap_setCell _ _ _ _ (by have:=T3.out.own b hb;show b≠w.heap.size;omega))
 have hn9:n≤9223372036854775807:=by unfold maxLen at hm3;omega
 have hlG:w.heap.size+1 < wG.heap.size:=by omega
 rw[←hwG]
 clear hwG c7 f7 hMF hRF hBF T1F T2F T3 hlF
 go_loopw [20] (fun zi wr=>∃ (i:Nat) (css:List (List Value)),i≤n∧zi=.int .i64 (i:Int)∧wr.heap[w.heap.size]? =some (.cells #[.string m.fName,.slice b1 m.fArgs.length e1,.int .i64 m.fRet.fKind,.string m.fRet.fName,.int .i64 m.fLocals,.int .i64 m.fStack,.slice b2 m.fCode.length e2,.slice b3 n e3] 76 (0,0))∧wr.heap[w.heap.size+1]? =some (.cells #[.string ⟨#[]⟩,.slice none 0 0,.int .i64 0,.string ⟨#[]⟩,.int .i64 0,.int .i64 0,.slice none 0 0,.slice none 0 0] 76 (0,0))∧TOwnC 3 rCel 139 wE.heap.size wE.heap.size wr (.slice b3 n e3) css css∧css.length=n∧(∀ j x cs,j < i→m.fMaps[j]? =some x→css[j]? =some cs→cs.length=3∧tClsMap wE.heap.size wr cs x)∧(∀ j,i≤j→css[j]? =css0[j]?)∧Below w.heap.size w wr∧KeepsT (NotT 139) 0 wG wr) (fun zi _=>n-(intOf zi).toNat)
 case atStart=>exact⟨0,css0,Nat.zero_le _,rfl,hMG,hRG,T3G.out,HLN.out,fun j x cs h=>absurd h (by omega),fun j _=>rfl,hBG,KeepsT.refl _ _ _⟩
 case round=>
  obtain⟨i,css,hi,rfl,hM,hR,hT,hcl,hdone,hrest,hB,hK⟩:=hrel
  have HT:=qhd hT
  have HB:=qhd hB
  have HK:=qhd hK
  have HM:=qhd hM
  have HRS:=qhd hR
  have HD:=qhd hdone
  have HRE:=qhd hrest
  have HCL:=qhd hcl
  have hks:=hK.size
  have hMr:w.heap.size < wr.heap.size:=by omega
  by_cases hlt:i < n
  rotate_left
  ·obtain rfl:i=n:=by omega
   have hrows:Rows 3 tClsMap wE.heap.size wr css m.fMaps:=⟨by rw[hcl];exact HN.out,fun j x cs hx hc=>hdone j x cs (by have:=(List.getElem?_eq_some_iff.1 hx).1;have:=HN.out;omega) hx hc⟩
   have T3R:=qhd (hT.toT hrows).plain.sl
   have T1R:=qhd (T1G.out.sl.staysN rKndKind_goodT (t:=139) (by decide) hK)
   have T2R:=qhd (T2G.out.sl.staysN rClsIns_goodT (t:=139) (by decide) hK)
   obtain⟨⟨c0,c1,c2,c3,c4,c5,c6,c7⟩,_⟩:=eightC hM
   obtain⟨⟨z0,z1,z2,z3,z4,z5,z6,z7⟩,zf⟩:=eightC hR
   have TH:Hid (wr.there (w.heap.size+1) 0 8):=qhd (fun j hj=>by
    rw[Nat.zero_add]
    refine⟨?_,zf j⟩
    match j,hj with
    | 0,_=>rw[z0];rfl
    | 1,_=>rw[z1];rfl
    | 2,_=>rw[z2];rfl
    | 3,_=>rw[z3];rfl
    | 4,_=>rw[z4];rfl
    | 5,_=>rw[z5];rfl
    | 6,_=>rw[z6];rfl
    | 7,_=>rw[z7];rfl)
   have HI:Hid ((Tryz.prog.info? 76).map (·.size)=some 8):=qhd (by kernel_rfl)
   have hR1:w.heap.size+1 < wr.heap.size:=heapLt hR
   clear z0 z1 z2 z3 z4 z5 z6 z7 zf hM hR hT hdone hrest hB hK hcl hrows
   go_wp2_with (refine wpList_store_row (by rfl) 76 (.tmp 2) (.tmp 42) (by rfl) (w.heap.size+1) [.string m.fName,.slice b1 m.fArgs.length e1,.int .i64 m.fRet.fKind,.string m.fRet.fName,.int .i64 m.fLocals,.int .i64 m.fStack,.slice b2 m.fCode.length e2,.slice b3 i e3] (by rfl) (by rfl) TH.out HI.out (by simp[Value.oneCell']) ?_)
   intro w5 hr5 ht5 hT5
   have hb5:Below w.heap.size w w5:=HB.out.trans (hT5.below (by omega))
   have hz5:=hT5.size
   obtain⟨_,x0,x1,x2,x3,x4,x5,x6,x7,_⟩:=Eight.of (by omega) hr5 ht5
   have hK5:KeepsT (NotT 76) 0 wr w5:=⟨Nat.le_of_eq hz5,fun g cs e fr _ he hg=>hT5.block g (by
    intro e9
    subst e9
    rw[HRS.out] at hg
    cases hg
    exact he rfl)⟩
   have T1E:=qhd ((T1R.out.staysN rKndKind_goodT (t:=76) (by decide) hK5).low' (E:=NoT) rKndKind_goodT (lo':=w.heap.size) (by omega))
   have T2E:=qhd ((T2R.out.staysN rClsIns_goodT (t:=76) (by decide) hK5).low' (E:=NoT) rClsIns_goodT (lo':=w.heap.size) (by omega))
   have T3E:=qhd ((T3R.out.stays (E:=NotT 76) (tClsMap_goodT.mono fun e he=>by cases he;show _≠_;decide) (by show _≠_;decide) (hK5.lift (Nat.zero_le _))).low' tClsMap_goodT (lo':=w.heap.size) (by omega))
   clear hr5 ht5 hT5 hK5 T1R T2R T3R c0 c1 c2 c3 c4 c5 c6 c7
   go_wp2
   all_goals
    refine bodyPost_ret (v:=?_) ?hrun rfl ?_
    case hrun=>(simp only[results,Tryz.results106];go_simp;first|done|exact rfl)
    exact HR.out _ _ ⟨⟨_,rfl,_,_,_,rfl,T1E.out,T2E.out,T3E.out,HNM.out,HRN.out⟩,hb5⟩
  have hlt2:(i:Int) < (n:Int):=by omega
  obtain⟨x,hx⟩:∃ x,m.fMaps[i]? =some x:=⟨_,List.getElem?_eq_getElem (by rw[←HN.out];exact hlt)⟩
  obtain⟨cs,hcs⟩:∃ cs,css0[i]? =some cs:=⟨_,List.getElem?_eq_getElem (by rw[HLN.out];exact hlt)⟩
  obtain⟨hc3,u1,u2,rfl,q1,q2⟩:=RR3.out.row i x cs hx hcs
  obtain⟨sa,sn,sc,rfl⟩:=q1.form
  obtain⟨ta,tn,tc,rfl⟩:=q2.form
  have hcss:=(hrest i (Nat.le_refl _)).trans hcs
  obtain⟨G,rfl,hG1,hG2,hG3, -⟩:=hT.slot (by omega)
  obtain⟨g0,_,_⟩:=hT.cellAt (j:=0) hcss rfl
  obtain⟨g1,_,_⟩:=hT.cellAt (j:=1) hcss rfl
  obtain⟨g2,_,_⟩:=hT.cellAt (j:=2) hcss rfl
  rw[Nat.add_zero] at g0
  obtain⟨⟨_,_,_,_,_,_,_,r7⟩,_⟩:=eightC hM
  obtain⟨hxl,hxs⟩:=HQ4.out x (List.mem_of_getElem? hx)
  have HCS:=qhd hcss
  have HX:=qhd hx
  have Q1:=qhd q1
  have Q2:=qhd q2
  clear hM hR hT hdone hrest hB hK hx hcs hcss q1 q2 hc3 hcl
  go_wp2_with fail
  refine nameW (P:=fun W=>Code.wp _ _ _ _ W) _ (fun wq hwq=>?_)
  have hBq:Below wr.heap.size wr wq:=by rw[hwq];exact bbel
  have hzq:wq.heap.size=wr.heap.size+1:=by rw[hwq];simp[World.setCell]
  have rF1:wq.cell? ⟨wr.heap.size,1,none⟩=some (.slice sa sn sc):=by rw[hwq];go_simp
  have rF2:wq.cell? ⟨wr.heap.size,2,none⟩=some (.slice ta tn tc):=by rw[hwq];go_simp
  clear hwq g0 g1 g2
  have r7q:=qaa hBq r7
  have hlo:wE.heap.size≤wG.heap.size:=by omega
  have hBwq:Below w.heap.size w wq:=HB.out.trans (hBq.mono HB.out.size)
  have HBq:=qhd hBwq
  have hGq:G < wq.heap.size:=by omega
  have hin:(i:Int)≤(e3:Int):=by omega
  have CLX:Hid (∀ W,Below wq.heap.size wq W→Calls Tryz.prog 139 #[.slice sa sn sc] W fun e w'=>(∃ v,e=.returned v∧TOwn 2 rTagTag 165 wE.heap.size wE.heap.size w' v x.fLocals)∧Below W.heap.size W w'):=qhd fun W hW=>(CT.out W _ _ (Q1.out.stays qat (Keeps.of_below (HBq.out.trans (hW.mono HBq.out.size)))) hxl).mono fun e w' h=>by
   obtain⟨⟨v,h1,h2⟩,h3⟩:=h
   have:=hW.size
   exact⟨⟨v,h1,h2.sl.low' (E:=NoT) rTagTag_goodT (by omega),fun b hb=>by have:=h2.own b hb;omega⟩,h3⟩
  have CLN:=CLX
  have r6:=r7q
  have rF:=rF1
  go_wp2_with fail
  refine qav 8 (Below wq.heap.size wq) (fun _ w1 w2=>Below w1.heap.size w1 w2) (fun _=>mcF w.heap.size G wr.heap.size n e3 i 1 wE.heap.size (.slice sa sn sc) x.fLocals) (fun _ _=>True) noDead (by kernel_rfl) (by decide) (by kernel_rfl) (Or.inr ⟨by kernel_rfl,by kernel_rfl⟩) (by kernel_rfl) ((Below.refl _ _).drew) (fun _ _ _ _ _ _ _ _ _ h=>h) noDead_dead (fun _=>trivial) (fun _ _ _ _ _ _ _ _=>trivial) (fun _ i j u w1 w2 hne _ _ hg hF=>mcF_stays i j u w1 w2 hne hg hF) (fun _ _ _=>Below.refl _ _) ?_
  refine qab (d:=25) rfl rfl (fun wx hC hI hd S0 hS=>?_) (fun v0=>?_)
  ·have HSS:=qhd hS;clear hS hd hI
   go_simp
   exact HSS.out _ _ hC (Below.refl _ _) (by simp[mcF])
  simp only[qnr]
  refine qab (d:=26) rfl rfl (fun wx hC hI hd S0 hS=>?_) (fun v1=>?_)
  ·have d0:=hd ⟨0,.data⟩ (by simp) rfl v0 (by simp)
   simp only[mcF] at d0
   subst d0
   have c0':=qaa hC r6
   have HSS:=qhd hS;clear hS hd hI
   go_simp
   exact HSS.out _ _ hC (Below.refl _ _) (by simp[mcF])
  simp only[qnr]
  refine qab (d:=27) rfl rfl (fun wx hC hI hd S0 hS=>?_) (fun v2=>?_)
  ·have HSS:=qhd hS;clear hS hd hI
   go_simp
   exact HSS.out _ _ hC (Below.refl _ _) (by simp[mcF])
  simp only[qnr]
  refine qab (d:=28) rfl rfl (fun wx hC hI hd S0 hS=>?_) (fun v3=>?_)
  ·have HSS:=qhd hS;clear hS hd hI
   go_simp
   exact HSS.out _ _ hC (Below.refl _ _) (by simp[mcF])
  simp only[qnr]
  refine qab (d:=29) rfl rfl (fun wx hC hI hd S0 hS=>?_) (fun v4=>?_)
  ·have d3:=hd ⟨3,.data⟩ (by simp) rfl v3 (by simp)
   simp only[mcF] at d3
   subst d3
   have c1':=qaa hC rF
   have HSS:=qhd hS;clear hS hd hI
   go_simp
   exact HSS.out _ _ hC (Below.refl _ _) (by simp[mcF])
  simp only[qnr]
  refine qab (d:=30) rfl rfl (fun wx hC hI hd S0 hS=>?_) (fun v5=>?_)
  ·have d4:=hd ⟨4,.data⟩ (by simp) rfl v4 (by simp)
   simp only[mcF] at d4
   subst d4
   have HSS:=qhd hS;clear hS hd hI
   go_simp
   refine(CLN.out _ hC).mono ?_
   rintro _ w' ⟨⟨v',rfl,ht'⟩,hX⟩
   refine HSS.out _ _ (hC.trans (hX.mono hC.size)) hX ?_
   (simp only[qls,Nat.reduceAdd,mcF])
   exact ht'
  simp only[qnr]
  refine qab (d:=31) rfl rfl (fun wx hC hI hd S0 hS=>?_) (fun v6=>?_)
  ·have d1:=hd ⟨1,.data⟩ (by simp) rfl v1 (by simp)
   simp only[mcF] at d1
   subst d1
   have d2:=hd ⟨2,.data⟩ (by simp) rfl v2 (by simp)
   simp only[mcF] at d2
   subst d2
   have HSS:=qhd hS;clear hS hd hI
   go_simp
   exact HSS.out _ _ hC (Below.refl _ _) (by simp[mcF])
  simp only[qnr]
  refine qab (d:=32) rfl rfl (fun wx hC hI hd S0 hS=>?_) (fun v7=>?_)
  ·have d6:=hd ⟨6,.data⟩ (by simp) rfl v6 (by simp)
   simp only[mcF] at d6
   subst d6
   have HSS:=qhd hS;clear hS hd hI
   go_simp
   exact HSS.out _ _ hC (Below.refl _ _) (by simp[mcF])
  simp only[qnr]
  intro wS hC hF
  have f5:=hF 5 v5 (by simp) (fun _ _=>rfl)
  have f7:=hF 7 v7 (by simp) (fun _ _=>rfl)
  simp only[mcF] at f5 f7
  subst f7
  obtain⟨xa,xn,xc,rfl⟩:=f5.sl.form3
  have F5:=qhd f5
  have hCs:=hC.size
  have hqS:Below wr.heap.size wr wS:=hBq.trans (hC.mono hBq.size)
  have TS:=HT.out.belowB hqS
  obtain⟨w1c,w1f,hGS⟩:=TS.cellAt (j:=1) HCS.out rfl
  have HqS:=qhd hqS
  have r7S:=qaa hC r7q
  have rF2S:=qaa hC rF2
  have hMS:w.heap.size < wS.heap.size:=by omega
  clear hF hC f5 r7q rF1 rF2 CLN CLX r6 rF TS
  simp only[List.drop_succ_cons,List.drop_zero]
  go_wp2_with fail
  refine nameW (P:=fun W=>Code.wp _ _ _ _ W) _ (fun wT hwT=>?_)
  have hzT:wT.heap.size=wS.heap.size:=by rw[hwT];simp[World.setCell]
  have TT1:Hid (TOwnC 3 rCel 139 wE.heap.size wE.heap.size wT (.slice (some ⟨G,0,none⟩) n e3) (css.set i [.int .i64 x.fAt,.slice xa xn xc,.slice ta tn tc]) (css.set i [.int .i64 x.fAt,.slice xa xn xc,.slice ta tn tc])):=qhd (by
   rw[hwT]
   exact(HT.out.belowB HqS.out).setAt (j:=1) HCS.out (by omega) rfl)
  have tyS:TypeAt wS G 139:=by
   obtain⟨cur,h9⟩:=(HT.out.belowB HqS.out).typeAt
   exact⟨cur,_,h9⟩
  have hKT:KeepsT (NotT 139) 0 wS wT:=by rw[hwT];exact KeepsT.set tyS (notT _)
  have hGM:G≠w.heap.size:=by omega
  have hkT:∀ b,b≠G→wT.heap[b]? =wS.heap[b]? :=fun b hb=>by rw[hwT];exact Below.heap_setCell _ _ _ _ hb
  have hBT:Below w.heap.size w wT:=by
   have h1:=HB.out.trans (HqS.out.mono HB.out.size)
   rw[hwT];exact h1.setCell (by show w.heap.size≤G;omega) _
  have r7T:wT.cell? ⟨w.heap.size,7,none⟩=some (.slice (some ⟨G,0,none⟩) n e3):=(qai (hkT _ (by omega))).trans r7S
  have rF2T:wT.cell? ⟨wr.heap.size,2,none⟩=some (.slice ta tn tc):=(qai (hkT _ (by omega))).trans rF2S
  have hGT:G < wT.heap.size:=by omega
  have F5T:Hid (TSl 2 rTagTag 165 wE.heap.size wT (.slice xa xn xc) x.fLocals):=qhd (F5.out.sl.staysN rTagTag_goodT (t:=139) (by decide) hKT)
  have HKT:=qhd hKT
  have HBT:=qhd hBT
  have HkT:=qhd hkT
  clear hwT w1c w1f r7S rF2S F5 hKT hkT
  have CLX:Hid (∀ W,Below wT.heap.size wT W→Calls Tryz.prog 139 #[.slice ta tn tc] W fun e w'=>(∃ v,e=.returned v∧TOwn 2 rTagTag 165 wE.heap.size wE.heap.size w' v x.fStack)∧Below W.heap.size W w'):=qhd fun W hW=>(CT.out W _ _ (Q2.out.stays qat (Keeps.of_below (HBT.out.trans (hW.mono HBT.out.size)))) hxs).mono fun e w' h=>by
   obtain⟨⟨v,h1,h2⟩,h3⟩:=h
   have:=hW.size
   exact⟨⟨v,h1,h2.sl.low' (E:=NoT) rTagTag_goodT (by omega),fun b hb=>by have:=h2.own b hb;omega⟩,h3⟩
  have CLN:=CLX
  have r6:=r7T
  have rF:=rF2T
  go_wp2_with fail
  refine qav 8 (Below wT.heap.size wT) (fun _ w1 w2=>Below w1.heap.size w1 w2) (fun _=>mcF w.heap.size G wr.heap.size n e3 i 2 wE.heap.size (.slice ta tn tc) x.fStack) (fun _ _=>True) noDead (by kernel_rfl) (by decide) (by kernel_rfl) (Or.inr ⟨by kernel_rfl,by kernel_rfl⟩) (by kernel_rfl) ((Below.refl _ _).drew) (fun _ _ _ _ _ _ _ _ _ h=>h) noDead_dead (fun _=>trivial) (fun _ _ _ _ _ _ _ _=>trivial) (fun _ i j u w1 w2 hne _ _ hg hF=>mcF_stays i j u w1 w2 hne hg hF) (fun _ _ _=>Below.refl _ _) ?_
  refine qab (d:=33) rfl rfl (fun wx hC hI hd S0 hS=>?_) (fun y0=>?_)
  ·have HSS:=qhd hS;clear hS hd hI
   go_simp
   exact HSS.out _ _ hC (Below.refl _ _) (by simp[mcF])
  simp only[qnr]
  refine qab (d:=34) rfl rfl (fun wx hC hI hd S0 hS=>?_) (fun y1=>?_)
  ·have d0:=hd ⟨0,.data⟩ (by simp) rfl y0 (by simp)
   simp only[mcF] at d0
   subst d0
   have c0':=qaa hC r6
   have HSS:=qhd hS;clear hS hd hI
   go_simp
   exact HSS.out _ _ hC (Below.refl _ _) (by simp[mcF])
  simp only[qnr]
  refine qab (d:=35) rfl rfl (fun wx hC hI hd S0 hS=>?_) (fun y2=>?_)
  ·have HSS:=qhd hS;clear hS hd hI
   go_simp
   exact HSS.out _ _ hC (Below.refl _ _) (by simp[mcF])
  simp only[qnr]
  refine qab (d:=36) rfl rfl (fun wx hC hI hd S0 hS=>?_) (fun y3=>?_)
  ·have HSS:=qhd hS;clear hS hd hI
   go_simp
   exact HSS.out _ _ hC (Below.refl _ _) (by simp[mcF])
  simp only[qnr]
  refine qab (d:=37) rfl rfl (fun wx hC hI hd S0 hS=>?_) (fun y4=>?_)
  ·have d3:=hd ⟨3,.data⟩ (by simp) rfl y3 (by simp)
   simp only[mcF] at d3
   subst d3
   have c1':=qaa hC rF
   have HSS:=qhd hS;clear hS hd hI
   go_simp
   exact HSS.out _ _ hC (Below.refl _ _) (by simp[mcF])
  simp only[qnr]
  refine qab (d:=38) rfl rfl (fun wx hC hI hd S0 hS=>?_) (fun y5=>?_)
  ·have d4:=hd ⟨4,.data⟩ (by simp) rfl y4 (by simp)
   simp only[mcF] at d4
   subst d4
   have HSS:=qhd hS;clear hS hd hI
   go_simp
   refine(CLN.out _ hC).mono ?_
   rintro _ w' ⟨⟨v',rfl,ht'⟩,hX⟩
   refine HSS.out _ _ (hC.trans (hX.mono hC.size)) hX ?_
   (simp only[qls,Nat.reduceAdd,mcF])
   exact ht'
  simp only[qnr]
  refine qab (d:=39) rfl rfl (fun wx hC hI hd S0 hS=>?_) (fun y6=>?_)
  ·have d1:=hd ⟨1,.data⟩ (by simp) rfl y1 (by simp)
   simp only[mcF] at d1
   subst d1
   have d2:=hd ⟨2,.data⟩ (by simp) rfl y2 (by simp)
   simp only[mcF] at d2
   subst d2
   have HSS:=qhd hS;clear hS hd hI
   go_simp
   exact HSS.out _ _ hC (Below.refl _ _) (by simp[mcF])
  simp only[qnr]
  refine qab (d:=40) rfl rfl (fun wx hC hI hd S0 hS=>?_) (fun y7=>?_)
  ·have d6:=hd ⟨6,.data⟩ (by simp) rfl y6 (by simp)
   simp only[mcF] at d6
   subst d6
   have HSS:=qhd hS;clear hS hd hI
   go_simp
   exact HSS.out _ _ hC (Below.refl _ _) (by simp[mcF])
  simp only[qnr]
  intro wU hC hF
  have f5:=hF 5 y5 (by simp) (fun _ _=>rfl)
  have f7:=hF 7 y7 (by simp) (fun _ _=>rfl)
  simp only[mcF] at f5 f7
  subst f7
  obtain⟨za,zn,zc,rfl⟩:=f5.sl.form3
  have F6:=qhd f5
  have hCs:=hC.size
  have HTU:=qhd hC
  have TU:=TT1.out.belowB hC
  have hil:i < css.length:=by have:=HCL.out;omega
  obtain⟨w2c,w2f,hGU⟩:=TU.cellAt (j:=2) (List.getElem?_set_self hil) rfl
  have hMU:w.heap.size < wU.heap.size:=by omega
  clear hF hC f5 r7T rF2T CLN CLX r6 rF TU
  simp only[List.drop_succ_cons,List.drop_zero]
  go_wp2
  go_roundw
  case measure=>simp[intOf];omega
  case rel=>
   have TU:=TT1.out.belowB HTU.out
   have TV:=TU.setAt (j:=2) (u:=.slice za zn zc) (List.getElem?_set_self hil) (by omega) rfl
   rw[List.set_set] at TV
   have tyU:TypeAt wU G 139:=by
    obtain⟨cur,h9⟩:=TU.typeAt
    exact⟨cur,_,h9⟩
   have hkV:∀ b,b≠G→(wU.setCell ⟨G,i * 3+2,none⟩ (.slice za zn zc)).heap[b]? =wU.heap[b]? :=fun b hb=>Below.heap_setCell _ _ _ _ hb
   have hKV:KeepsT (NotT 139) 0 wU (wU.setCell ⟨G,i * 3+2,none⟩ (.slice za zn zc)):=KeepsT.set tyU (notT _)
   have hall:∀ b,b < wr.heap.size→b≠G→(wU.setCell ⟨G,i * 3+2,none⟩ (.slice za zn zc)).heap[b]? =wr.heap[b]? :=fun b hb hg=>(hkV b hg).trans ((HTU.out.block b (by omega)).trans ((HkT.out b hg).trans (HqS.out.block b hb)))
   have hKall:KeepsT (NotT 139) 0 wr (wU.setCell ⟨G,i * 3+2,none⟩ (.slice za zn zc)):=(KeepsT.of_below HqS.out).trans (HKT.out.trans ((KeepsT.of_below HTU.out).trans hKV))
   refine⟨i+1,_,by omega,by go_num,(hall _ hMr (by omega)).trans HM.out,(hall _ (heapLt HRS.out) (by omega)).trans HRS.out,TV,by rw[List.length_set];exact HCL.out,fun j y ds hj hy hds=>?_,fun j hj=>?_,(HBT.out.trans (HTU.out.mono HBT.out.size)).setCell (by show w.heap.size≤G;omega) _,HK.out.trans hKall⟩
   ·by_cases hji:j=i
    ·subst hji
     rw[List.getElem?_set_self hil] at hds
     cases hds
     rw[HX.out] at hy
     cases hy
     exact⟨rfl,_,_,rfl,(F5T.out.below (E:=NoT) rTagTag_goodT HTU.out).staysN rTagTag_goodT (t:=139) (by decide) hKV,F6.out.sl.staysN rTagTag_goodT (t:=139) (by decide) hKV⟩
    ·rw[List.getElem?_set_ne (by omega)] at hds
     obtain⟨h1,h2⟩:=HD.out j y ds (by omega) hy hds
     exact⟨h1,tClsMap_goodT.stays _ _ _ _ _ ((hKall.weaken (E:=EClsMap) (fun e he=>by cases he;show _≠_;decide)).lift (Nat.zero_le _)) h2⟩
   ·rw[List.getElem?_set_ne (by omega)]
    exact HRE.out j (by omega)

theorem fourC {w:World} {b:Nat} {x0 x1 x2 x3:Value} {t:TypeId} (h:w.heap[b]? =some (.cells #[x0,x1,x2,x3] t (0,0))) :
  (w.cell? ⟨b,0,none⟩=some x0∧w.cell? ⟨b,1,none⟩=some x1∧w.cell? ⟨b,2,none⟩=some x2∧w.cell? ⟨b,3,none⟩=some x3)∧∀ j,w.frozen? ⟨b,j,none⟩=false:=by
 refine⟨⟨?_,?_,?_,?_⟩,fun j=>?_⟩<;>simp[World.cell?,World.frozen?,h]
def ShortC (c:DClsClass):Prop:=c.fFields.length≤1000000∧c.fMethods.length≤1000000∧∀ m∈c.fMethods,ShortM m
def CopyC (w:World) (c:DClsClass) (e:Ending) (w':World):Prop:=(∃ row:List Value,e=.returned (.agg row.toArray)∧tClsClass w.heap.size w' row c)∧Below w.heap.size w w'
theorem tClsMethod_len {lo:Nat} {w:World} {cs:List Value} {x:DClsMethod} (h:tClsMethod lo w cs x):cs.length=8:=by
 obtain⟨_,_,_,rfl,_⟩:=h;rfl
theorem TOwnC.thereRow {k:Nat} {e:TypeId} {lo B:Nat} {w:World} {g n cap:Nat} {css:List (List Value)} (h:TOwnC k rCel e lo B w (.slice (some ⟨g,0,none⟩) n cap) css css) {i:Nat} {cs:List Value} (hi:css[i]? =some cs):w.there g (i * k) k:=fun j hj=>by
 have hc:=(h.rows.row i cs cs hi hi).1
 obtain⟨u,hu⟩:∃ u,cs[j]? =some u:=⟨_,List.getElem?_eq_getElem (by omega)⟩
 obtain⟨h1,h2,_⟩:=h.cellAt hi hu
 exact⟨by rw[h1];rfl,h2⟩
theorem World.rangeAt.kept {w w':World} {b o:Nat} {cs:List Value} (h:w.rangeAt b o cs) (hb:Below w.heap.size w w') (hl:b < w.heap.size):w'.rangeAt b o cs:=range_below h hb hl
def ccF (M G n c3 ii lo:Nat) (row:List Value) (x:DClsMethod):Nat→Value→World→Prop
 | 0,v,w=>v=.pointer (some ⟨M,3,none⟩)
 | 1,v,w=>v=.slice (some ⟨G,0,none⟩) n c3
 | 2,v,w=>v=.int .i64 (ii:Int)
 | 3,v,w=>v=.agg row.toArray
 | 4,v,w=>∃ cs:List Value,v=.agg cs.toArray∧tClsMethod lo w cs x
 | 5,v,w=>v=.pointer (some ⟨G,ii * 8,none⟩)
 | _,_,_=>True
theorem ccF_stays {M G n c3 ii lo:Nat} {row:List Value} {x:DClsMethod}:∀ i j u w w',i≠j→Below w.heap.size w w'→ccF M G n c3 ii lo row x i u w→ccF M G n c3 ii lo row x i u w':=by
 intro i j u w w' hne hg h
 match i with
 | 0|1|2|3|5=>exact h
 | 4=>
   obtain⟨cs,h1,h2⟩:=h
   exact⟨cs,h1,tClsMethod_goodT.stays _ _ _ _ _ (KeepsT.of_below hg) h2⟩
 | n+6=>trivial

theorem I_copyClass (c:DClsClass) (a1:Option Addr) (n1 d1:Nat) (a2:Option Addr) (n2 d2:Nat) (w:World) (s1:Sl 3 rClsField 0 w (.slice a1 n1 d1) c.fFields) (s2:Sl 8 rClsMethod 0 w (.slice a2 n2 d2) c.fMethods) (hnm:c.fName.size≤maxLen) (hsm:c.fSuper.size≤maxLen) (hsh:ShortC c) :
  Calls Tryz.prog 67 #[.agg #[.string c.fName,.string c.fSuper,.slice a1 n1 d1,.slice a2 n2 d2]] w (CopyC w c):=by
 obtain⟨q1,q2,q3⟩:=hsh
 have HQ3:=qhd q3
 have CA:Hid (∀ W,Below w.heap.size w W→Calls Tryz.prog 104 #[.slice a1 n1 d1] W fun e w'=>(∃ v,e=.returned v∧TOwn 3 rClsField 61 W.heap.size W.heap.size w' v c.fFields)∧Below W.heap.size W w'):=qhd fun W hW=>(I_CloneClsField c.fFields _ w W hW s1 q1).mono fun e w' h=>cloned_leaf (rClsField_goodT.mono fun _ h=>h) (fun _ _ _ _ _ _ h=>h) h
 have CC:Hid (∀ W,Below w.heap.size w W→Calls Tryz.prog 105 #[.slice a2 n2 d2] W (Cloned 8 rClsMethod 76 w W c.fMethods)):=qhd fun W hW=>I_CloneClsMethod c.fMethods _ w W hW s2 q2
 have HNM:=qhd hnm
 have HSM:=qhd hsm
 have HK8:Hid ((Tryz.prog.info? 76).map (·.size)=some 8):=qhd (by kernel_rfl)
 clear s1 s2 hnm hsm q1 q2 q3
 refine qac fun R HR=>?_
 go_enter Tryz.func67,Tryz.ntmps67
 go_wp2_with fail
 obtain⟨wA,hwA⟩:∃ W,W=(w.alloc (.cells #[.string c.fName,.string c.fSuper,.slice a1 n1 d1,.slice a2 n2 d2] 29)).alloc (.cells #[.string ⟨#[]⟩,.string ⟨#[]⟩,.slice none 0 0,.slice none 0 0] 29):=⟨_,rfl⟩
 have hBA:Below w.heap.size w wA:=by rw[hwA];exact bbel
 have hzA:wA.heap.size=w.heap.size+1+1:=by rw[hwA];simp
 have hMA:wA.heap[w.heap.size]? =some (.cells #[.string c.fName,.string c.fSuper,.slice a1 n1 d1,.slice a2 n2 d2] 29 (0,0)):=by
  rw[hwA];exact(Below.heap_alloc _ _ _ (by simp)).trans (heap_alloc_new w _)
 have hRA:wA.heap[w.heap.size+1]? =some (.cells #[.string ⟨#[]⟩,.string ⟨#[]⟩,.slice none 0 0,.slice none 0 0] 29 (0,0)):=by
  rw[hwA];have:=heap_alloc_new (w.alloc (.cells #[.string c.fName,.string c.fSuper,.slice a1 n1 d1,.slice a2 n2 d2] 29)) (.cells #[.string ⟨#[]⟩,.string ⟨#[]⟩,.slice none 0 0,.slice none 0 0] 29);rw[World.size_alloc] at this;exact this
 rw[←hwA]
 clear hwA
 refine(CA.out _ hBA).mono ?_
 rintro _ wD ⟨⟨v1,rfl,t1⟩,hD⟩
 obtain⟨b1,e1,rfl,_,_⟩:=t1.sl.form
 have hzD:=hD.size
 have hMD:=(hD.block _ (by omega)).trans hMA
 have hRD:=(hD.block _ (by omega)).trans hRA
 have hBD:Below w.heap.size w wD:=hBA.trans (hD.mono hBA.size)
 obtain⟨⟨c0,c1,c2,c3⟩,cf⟩:=fourC hMD
 have f2:=cf 2
 have T1:=qhd t1
 have hlD:w.heap.size < wD.heap.size:=by omega
 clear hMA hRA hD t1 hBA cf
 go_wp2_with fail
 obtain⟨wE,hwE⟩:∃ W,W=wD.setCell ⟨w.heap.size,2,none⟩ (.slice b1 c.fFields.length e1):=⟨_,rfl⟩
 have hzE:wE.heap.size=wD.heap.size:=by rw[hwE];simp[World.setCell]
 have hBE:Below w.heap.size w wE:=by rw[hwE];exact hBD.setCell (Nat.le_refl _) _
 have hME:wE.heap[w.heap.size]? =some (.cells #[.string c.fName,.string c.fSuper,.slice b1 c.fFields.length e1,.slice a2 n2 d2] 29 (0,0)):=by rw[hwE];exact qar hMD
 have hRE:=(show wE.heap[w.heap.size+1]? =wD.heap[w.heap.size+1]? by rw[hwE];exact Below.heap_setCell _ _ _ _ (by show w.heap.size+1≠w.heap.size;omega)).trans hRD
 have T1E:Hid (TOwn 3 rClsField 61 wA.heap.size wA.heap.size wE (.slice b1 c.fFields.length e1) c.fFields):=qhd (by rw[hwE];exact T1.out.set (rClsField_goodT.mono fun _ h=>h.elim) (by omega))
 have hlE:w.heap.size < wE.heap.size:=by omega
 rw[←hwE]
 clear hwE c0 c1 c2 c3 f2 hMD hRD hBD T1 hlD
 refine(CC.out _ hBE).mono ?_
 rintro _ wF ⟨⟨v3,css0,rfl,t3,rr3⟩,hF⟩
 obtain⟨b3,e3,rfl,he3,hm3⟩:=t3.plain.sl.form
 have hln:=rr3.len
 obtain⟨n,hn⟩:∃ n,n=c.fMethods.length:=⟨_,rfl⟩
 rw[←hn] at hln
 rw[hln] at t3 he3 ⊢
 have hzF:=hF.size
 have hMF:=(hF.block _ (by omega)).trans hME
 have hRF:=(hF.block _ (by omega)).trans hRE
 have hBF:Below w.heap.size w wF:=hBE.trans (hF.mono hBE.size)
 have T1F:=qhd (T1E.out.below (E:=NoT) rClsField_goodT hF)
 obtain⟨⟨_,_,_,c3⟩,cf⟩:=fourC hMF
 have f3:=cf 3
 have HBE:=qhd hBE
 have RR3:=qhd rr3
 have HLN:=qhd hln
 have HN:=qhd hn
 have T3:=qhd t3
 have hlF:w.heap.size < wF.heap.size:=by omega
 clear hME hRE hF t3 hBE cf T1E hlE rr3 hln hn
 go_wp2_with fail
 obtain⟨wG,hwG⟩:∃ W,W=wF.setCell ⟨w.heap.size,3,none⟩ (.slice b3 n e3):=⟨_,rfl⟩
 have hzG:wG.heap.size=wF.heap.size:=by rw[hwG];simp[World.setCell]
 have hBG:Below w.heap.size w wG:=by rw[hwG];exact hBF.setCell (Nat.le_refl _) _
 have hMG:wG.heap[w.heap.size]? =some (.cells #[.string c.fName,.string c.fSuper,.slice b1 c.fFields.length e1,.slice b3 n e3] 29 (0,0)):=by rw[hwG];exact qar hMF
 have hRG:=(show wG.heap[w.heap.size+1]? =wF.heap[w.heap.size+1]? by rw[hwG];exact Below.heap_setCell _ _ _ _ (by show w.heap.size+1≠w.heap.size;omega)).trans hRF
 have T1G:Hid (TOwn 3 rClsField 61 wA.heap.size wA.heap.size wG (.slice b1 c.fFields.length e1) c.fFields):=qhd (by rw[hwG];exact T1F.out.set (rClsField_goodT.mono fun _ h=>h.elim) (by omega))
 have T3G:Hid (TOwnC 8 rCel 76 wE.heap.size wE.heap.size wG (.slice b3 n e3) css0 css0):=qhd (by rw[hwG];exact T3.out.keptB fun b hb=>Below.heap_setCell _ _ _ _ (by have:=T3.out.own b hb;show b≠w.heap.size;omega))
 have hn9:n≤9223372036854775807:=by unfold maxLen at hm3;omega
 have hlG:w.heap.size+1 < wG.heap.size:=by omega
 rw[←hwG]
 clear hwG c3 f3 hMF hRF hBF T1F T3 hlF
 go_loopw [16] (fun zi wr=>∃ (i:Nat) (css:List (List Value)),i≤n∧zi=.int .i64 (i:Int)∧wr.heap[w.heap.size]? =some (.cells #[.string c.fName,.string c.fSuper,.slice b1 c.fFields.length e1,.slice b3 n e3] 29 (0,0))∧wr.heap[w.heap.size+1]? =some (.cells #[.string ⟨#[]⟩,.string ⟨#[]⟩,.slice none 0 0,.slice none 0 0] 29 (0,0))∧TOwnC 8 rCel 76 wE.heap.size wE.heap.size wr (.slice b3 n e3) css css∧css.length=n∧(∀ j x cs,j < i→c.fMethods[j]? =some x→css[j]? =some cs→cs.length=8∧tClsMethod wE.heap.size wr cs x)∧(∀ j,i≤j→css[j]? =css0[j]?)∧Below w.heap.size w wr∧KeepsT (NotT 76) 0 wG wr) (fun zi _=>n-(intOf zi).toNat)
 case atStart=>exact⟨0,css0,Nat.zero_le _,rfl,hMG,hRG,T3G.out,HLN.out,fun j x cs h=>absurd h (by omega),fun j _=>rfl,hBG,KeepsT.refl _ _ _⟩
 case round=>
  obtain⟨i,css,hi,rfl,hM,hR,hT,hcl,hdone,hrest,hB,hK⟩:=hrel
  have HT:=qhd hT
  have HB:=qhd hB
  have HK:=qhd hK
  have HM:=qhd hM
  have HRS:=qhd hR
  have HD:=qhd hdone
  have HRE:=qhd hrest
  have HCL:=qhd hcl
  have hks:=hK.size
  have hMr:w.heap.size < wr.heap.size:=by omega
  by_cases hlt:i < n
  rotate_left
  ·obtain rfl:i=n:=by omega
   have hrows:Rows 8 tClsMethod wE.heap.size wr css c.fMethods:=⟨by rw[hcl];exact HN.out,fun j x cs hx hc=>hdone j x cs (by have:=(List.getElem?_eq_some_iff.1 hx).1;have:=HN.out;omega) hx hc⟩
   have T3R:=qhd (hT.toT hrows).plain.sl
   have T1R:=qhd (T1G.out.sl.staysN rClsField_goodT (t:=76) (by decide) hK)
   obtain⟨⟨c0,c1,c2,c3⟩,_⟩:=fourC hM
   obtain⟨⟨z0,z1,z2,z3⟩,zf⟩:=fourC hR
   have zf0:=zf 0
   have zf1:=zf 1
   have zf2:=zf 2
   have zf3:=zf 3
   have hR1:w.heap.size+1 < wr.heap.size:=heapLt hR
   clear zf hM hR hT hdone hrest hB hK hcl hrows
   go_wp2_with fail
   all_goals
    obtain⟨w5,hw5⟩:∃ W,W=(((wr.setCell ⟨w.heap.size+1,0,none⟩ (.string c.fName)).setCell ⟨w.heap.size+1,1,none⟩ (.string c.fSuper)).setCell ⟨w.heap.size+1,2,none⟩ (.slice b1 c.fFields.length e1)).setCell ⟨w.heap.size+1,3,none⟩ (.slice b3 i e3):=⟨_,rfl⟩
    have hb5:Below w.heap.size w w5:=by
     rw[hw5]
     exact(((HB.out.setCell (by show w.heap.size≤w.heap.size+1;omega) _).setCell (by show w.heap.size≤w.heap.size+1;omega) _).setCell (by show w.heap.size≤w.heap.size+1;omega) _).setCell (by show w.heap.size≤w.heap.size+1;omega) _
    have tyR:TypeAt wr (w.heap.size+1) 29:=⟨_,_,HRS.out⟩
    have hK5:KeepsT (NotT 29) 0 wr w5:=by
     rw[hw5]
     exact(((KeepsT.set tyR (notT _)).setB (tyR.set _ _) (notT _) _).setB ((tyR.set _ _).set _ _) (notT _) _).setB (((tyR.set _ _).set _ _).set _ _) (notT _) _
    have T1E:=qhd ((T1R.out.staysN rClsField_goodT (t:=29) (by decide) hK5).low' (E:=NoT) rClsField_goodT (lo':=w.heap.size) (by omega))
    have T3E:=qhd ((T3R.out.stays (E:=NotT 29) (tClsMethod_goodT.mono fun e he=>by rcases he with rfl|rfl|rfl|rfl<;>(show _≠_;decide)) (by show _≠_;decide) (hK5.lift (Nat.zero_le _))).low' tClsMethod_goodT (lo':=w.heap.size) (by omega))
    refine bodyPost_ret (v:=?_) ?hrun rfl ?_
    case hrun=>(simp only[results,Tryz.results67];go_simp;first|done|exact rfl)
    rw[←hw5]
    exact HR.out _ _ ⟨⟨_,rfl,_,_,rfl,T1E.out,T3E.out,HNM.out,HSM.out⟩,hb5⟩
  have hlt2:(i:Int) < (n:Int):=by omega
  obtain⟨x,hx⟩:∃ x,c.fMethods[i]? =some x:=⟨_,List.getElem?_eq_getElem (by rw[←HN.out];exact hlt)⟩
  obtain⟨cs,hcs⟩:∃ cs,css0[i]? =some cs:=⟨_,List.getElem?_eq_getElem (by rw[HLN.out];exact hlt)⟩
  obtain⟨hc3,v1,v2,v3,rfl,q1,q2,q3,b1',b2'⟩:=RR3.out.row i x cs hx hcs
  obtain⟨sa,sn,sc,rfl⟩:=q1.form
  obtain⟨ta,tn,tc,rfl⟩:=q2.form
  obtain⟨ua,un,uc,rfl⟩:=q3.form
  have hcss:=(hrest i (Nat.le_refl _)).trans hcs
  obtain⟨G,rfl,hG1,hG2,hG3, -⟩:=hT.slot (by omega)
  obtain⟨g0,_,_⟩:=hT.cellAt (j:=0) hcss rfl
  obtain⟨g1,_,_⟩:=hT.cellAt (j:=1) hcss rfl
  obtain⟨g2,_,_⟩:=hT.cellAt (j:=2) hcss rfl
  obtain⟨g3,_,_⟩:=hT.cellAt (j:=3) hcss rfl
  obtain⟨g4,_,_⟩:=hT.cellAt (j:=4) hcss rfl
  obtain⟨g5,_,_⟩:=hT.cellAt (j:=5) hcss rfl
  obtain⟨g6,_,_⟩:=hT.cellAt (j:=6) hcss rfl
  obtain⟨g7,_,_⟩:=hT.cellAt (j:=7) hcss rfl
  rw[Nat.add_zero] at g0
  obtain⟨⟨_,_,_,r3'⟩,_⟩:=fourC hM
  have hqs:=HQ3.out x (List.mem_of_getElem? hx)
  have HCS:=qhd hcss
  have HX:=qhd hx
  have Q1:=qhd q1
  have Q2:=qhd q2
  have Q3:=qhd q3
  clear hM hR hT hdone hrest hB hK hx hcs hcss q1 q2 q3 hc3 hcl
  go_wp2_with fail
  refine nameW (P:=fun W=>Code.wp _ _ _ _ W) _ (fun wq hwq=>?_)
  have hBq:Below wr.heap.size wr wq:=by rw[hwq];exact bbel
  have hzq:wq.heap.size=wr.heap.size+1:=by rw[hwq];simp[World.setCell]
  have rF:wq.rangeAt wr.heap.size 0 [.string x.fName,.slice sa sn sc,.int .i64 x.fRet.fKind,.string x.fRet.fName,.int .i64 x.fLocals,.int .i64 x.fStack,.slice ta tn tc,.slice ua un uc]:=by
   intro j u hj
   rw[Nat.zero_add]
   match j,hj with
   | 0,hj=>cases hj;rw[hwq];go_simp
   | 1,hj=>cases hj;rw[hwq];go_simp
   | 2,hj=>cases hj;rw[hwq];go_simp
   | 3,hj=>cases hj;rw[hwq];go_simp
   | 4,hj=>cases hj;rw[hwq];go_simp
   | 5,hj=>cases hj;rw[hwq];go_simp
   | 6,hj=>cases hj;rw[hwq];go_simp
   | 7,hj=>cases hj;rw[hwq];go_simp
   | j+8,hj=>simp at hj
  clear hwq g0 g1 g2 g3 g4 g5 g6 g7
  have r3:=qaa hBq r3'
  have hFB:wr.heap.size < wq.heap.size:=by omega
  have hBwq:Below w.heap.size w wq:=HB.out.trans (hBq.mono HB.out.size)
  have HBq:=qhd hBwq
  have hGq:G < wq.heap.size:=by omega
  have hin:(i:Int)≤(e3:Int):=by omega
  have CLN:Hid (∀ W,Below wq.heap.size wq W→Calls Tryz.prog 106 #[.agg #[.string x.fName,.slice sa sn sc,.int .i64 x.fRet.fKind,.string x.fRet.fName,.int .i64 x.fLocals,.int .i64 x.fStack,.slice ta tn tc,.slice ua un uc]] W fun e w'=>(∃ cs:List Value,e=.returned (.agg cs.toArray)∧tClsMethod wE.heap.size w' cs x)∧Below W.heap.size W w'):=qhd fun W hW=>by
   have hk:=Keeps.of_below (lo:=0) (HBq.out.trans (hW.mono HBq.out.size))
   have hWs:=hW.size
   refine(I_copyMethod x sa sn sc ta tn tc ua un uc W (Q1.out.stays qau hk) (Q2.out.stays qaw hk) (Q3.out.stays qax hk) b1' b2' hqs).mono fun e w' h=>?_
   obtain⟨⟨row,h1,h2⟩,h3⟩:=h
   exact⟨⟨row,h1,tClsMethod_goodT.low _ _ _ _ _ (by omega) h2⟩,h3⟩
  clear r3'
  go_wp2_with fail
  refine qav 6 (Below wq.heap.size wq) (fun _ w1 w2=>Below w1.heap.size w1 w2) (fun _=>ccF w.heap.size G n e3 i wE.heap.size [.string x.fName,.slice sa sn sc,.int .i64 x.fRet.fKind,.string x.fRet.fName,.int .i64 x.fLocals,.int .i64 x.fStack,.slice ta tn tc,.slice ua un uc] x) (fun _ _=>True) noDead (by kernel_rfl) (by decide) (by kernel_rfl) (Or.inr ⟨by kernel_rfl,by kernel_rfl⟩) (by kernel_rfl) ((Below.refl _ _).drew) (fun _ _ _ _ _ _ _ _ _ h=>h) noDead_dead (fun _=>trivial) (fun _ _ _ _ _ _ _ _=>trivial) (fun _ i j u w1 w2 hne _ _ hg hF=>ccF_stays i j u w1 w2 hne hg hF) (fun _ _ _=>Below.refl _ _) ?_
  refine qab (d:=21) rfl rfl (fun wx hC hI hd S0 hS=>?_) (fun v0=>?_)
  ·have HSS:=qhd hS;clear hS hd hI
   go_simp
   exact HSS.out _ _ hC (Below.refl _ _) (by simp[ccF])
  simp only[qnr]
  refine qab (d:=22) rfl rfl (fun wx hC hI hd S0 hS=>?_) (fun v1=>?_)
  ·have d0:=hd ⟨0,.data⟩ (by simp) rfl v0 (by simp)
   simp only[ccF] at d0
   subst d0
   have c0':=qaa hC r3
   have HSS:=qhd hS;clear hS hd hI
   go_simp
   exact HSS.out _ _ hC (Below.refl _ _) (by simp[ccF])
  simp only[qnr]
  refine qab (d:=23) rfl rfl (fun wx hC hI hd S0 hS=>?_) (fun v2=>?_)
  ·have HSS:=qhd hS;clear hS hd hI
   go_simp
   exact HSS.out _ _ hC (Below.refl _ _) (by simp[ccF])
  simp only[qnr]
  refine qab (d:=24) rfl rfl (fun wx hC hI hd S0 hS=>?_) (fun v3=>?_)
  ·have HRX:=World.rangeAt.kept rF hC hFB
   have HSS:=qhd hS;clear hS hd hI
   refine wp_loadAt rfl rfl (run_loadAt_mid wx wr.heap.size 0 76 _ _ HRX Tryz.underlying76 rfl HK8.out) ⟨put_defers' _ _ _,?_⟩
   rw[qae (by simp)]
   exact HSS.out _ _ hC (Below.refl _ _) (by simp[ccF])
  simp only[qnr]
  refine qab (d:=25) rfl rfl (fun wx hC hI hd S0 hS=>?_) (fun v4=>?_)
  ·have d3:=hd ⟨3,.data⟩ (by simp) rfl v3 (by simp)
   simp only[ccF] at d3
   subst d3
   have HSS:=qhd hS;clear hS hd hI
   go_simp
   refine(CLN.out _ hC).mono ?_
   rintro _ w' ⟨⟨cs,rfl,ht'⟩,hX⟩
   refine HSS.out _ _ (hC.trans (hX.mono hC.size)) hX ?_
   (simp only[qls,Nat.reduceAdd,ccF])
   exact⟨cs,rfl,ht'⟩
  simp only[qnr]
  refine qab (d:=26) rfl rfl (fun wx hC hI hd S0 hS=>?_) (fun v5=>?_)
  ·have d1:=hd ⟨1,.data⟩ (by simp) rfl v1 (by simp)
   simp only[ccF] at d1
   subst d1
   have d2:=hd ⟨2,.data⟩ (by simp) rfl v2 (by simp)
   simp only[ccF] at d2
   subst d2
   have HSS:=qhd hS;clear hS hd hI
   go_simp
   exact HSS.out _ _ hC (Below.refl _ _) (by simp[ccF])
  simp only[qnr]
  intro wS hC hF
  have f4:=hF 4 v4 (by simp) (fun _ _=>rfl)
  have f5:=hF 5 v5 (by simp) (fun _ _=>rfl)
  simp only[ccF] at f4 f5
  subst f5
  obtain⟨cs,rfl,f4⟩:=f4
  have F4:=qhd f4
  have hCs:=hC.size
  have hqS:Below wr.heap.size wr wS:=hBq.trans (hC.mono hBq.size)
  have HqS:=qhd hqS
  have TS:=qhd (HT.out.belowB hqS)
  have hMS:w.heap.size < wS.heap.size:=by omega
  have hl8:Hid (cs.length=8):=qhd (tClsMethod_len f4)
  have TH:Hid (wS.there G (i * 8) cs.length):=qhd (by rw[hl8.out];exact TS.out.thereRow HCS.out)
  have hGS:G < wS.heap.size:=by omega
  clear hF hC f4 rF r3 CLN hBq
  simp only[List.drop_succ_cons,List.drop_zero]
  refine wpList_store_mid (by rfl) 76 (.tmp 26) (.tmp 25) (by rfl) G (i * 8) cs.toArray (by rfl) (by rfl) (by simpa using TH.out) (by rw[HK8.out];simp[hl8.out]) (all_oneCell_toArray (tClsMethod_one _ _ _ _ F4.out)) ?_
  obtain⟨wT,hwT⟩:∃ W,W=wS.setCells G (i * 8) cs.toArray.toList:=⟨_,rfl⟩
  rw[←hwT]
  have hzT:wT.heap.size=wS.heap.size:=by rw[hwT];exact size_setCells G _ _ _
  have tyS:TypeAt wS G 76:=by
   obtain⟨cur,h9⟩:=TS.out.typeAt
   exact⟨cur,_,h9⟩
  have HkT:Hid (∀ b,b≠G→wT.heap[b]? =wS.heap[b]?):=qhd fun b hb=>by rw[hwT];exact heap_setCells G _ _ _ _ hb
  have HKT:Hid (KeepsT (NotT 76) 0 wS wT):=qhd (by rw[hwT];exact KeepsT.setCells (notT _) _ _ _ tyS)
  have TT1:Hid (TOwnC 8 rCel 76 wE.heap.size wE.heap.size wT (.slice (some ⟨G,0,none⟩) n e3) (css.set i cs) (css.set i cs)):=qhd (by
   rw[hwT]
   exact TS.out.setRow HCS.out hl8.out (tClsMethod_one _ _ _ _ F4.out))
  have hBT:Hid (Below w.heap.size w wT):=qhd (by
   have h1:=HB.out.trans (HqS.out.mono HB.out.size)
   have h2:Below w.heap.size wS wT:=by
    rw[hwT]
    exact(Turn.setCells G _ _ _).below (by omega)
   exact h1.trans h2)
  have hil:i < css.length:=by have:=HCL.out;omega
  clear hwT TH tyS hqS
  go_wp2
  go_roundw
  case measure=>simp[intOf];omega
  case rel=>
   have hall:∀ b,b < wr.heap.size→b≠G→wT.heap[b]? =wr.heap[b]? :=fun b hb hg=>(HkT.out b hg).trans (HqS.out.block b hb)
   have hKall:KeepsT (NotT 76) 0 wr wT:=(KeepsT.of_below HqS.out).trans HKT.out
   refine⟨i+1,_,by omega,by go_num,(hall _ hMr (by omega)).trans HM.out,(hall _ (heapLt HRS.out) (by omega)).trans HRS.out,TT1.out,by rw[List.length_set];exact HCL.out,fun j y ds hj hy hds=>?_,fun j hj=>?_,hBT.out,HK.out.trans hKall⟩
   ·by_cases hji:j=i
    ·subst hji
     rw[List.getElem?_set_self hil] at hds
     cases hds
     rw[HX.out] at hy
     cases hy
     exact⟨hl8.out,tClsMethod_goodT.stays _ _ _ _ _ ((HKT.out.weaken (E:=EClsMethod) (fun e he=>by rcases he with rfl|rfl|rfl|rfl<;>(show _≠_;decide))).lift (Nat.zero_le _)) F4.out⟩
    ·rw[List.getElem?_set_ne (by omega)] at hds
     obtain⟨h1,h2⟩:=HD.out j y ds (by omega) hy hds
     exact⟨h1,tClsMethod_goodT.stays _ _ _ _ _ ((hKall.weaken (E:=EClsMethod) (fun e he=>by rcases he with rfl|rfl|rfl|rfl<;>(show _≠_;decide))).lift (Nat.zero_le _)) h2⟩
   ·rw[List.getElem?_set_ne (by omega)]
    exact HRE.out j (by omega)

def ShortP (p:DLodPlan):Prop:=p.fKeepers.length≤1000∧∀ k∈p.fKeepers,k.fOwns.length≤1000000∧k.fAsks.length≤1000000∧∀ c∈k.fOwns,ShortC c
theorem oneC {w:World} {b:Nat} {x0:Value} {t:TypeId} (h:w.heap[b]? =some (.cells #[x0] t (0,0))):w.cell? ⟨b,0,none⟩=some x0∧w.frozen? ⟨b,0,none⟩=false:=by
 refine⟨?_,?_⟩<;>simp[World.cell?,World.frozen?,h]
theorem tClsClass_len {lo:Nat} {w:World} {cs:List Value} {x:DClsClass} (h:tClsClass lo w cs x):cs.length=4:=by
 obtain⟨_,_,rfl,_⟩:=h;rfl
theorem PlanC.low {lo lo':Nat} {w:World} {v:Value} {css:List (List Value)} {p:DLodPlan} (h:PlanC lo w v css p) (hl:lo'≤lo):PlanC lo' w v css p:=
 ⟨h.rows.mono fun cs x hx=>tLodKeeper_goodT.low _ _ _ _ _ hl hx,own_low h.owns hl,h.apart⟩
theorem PlanC.toC {lo:Nat} {w:World} {v:Value} {css:List (List Value)} {ks:List DLodKeeper} (h:PlanC lo w v css ⟨ks⟩):TOwnC 2 tLodKeeper 46 lo lo w v css ks:=⟨h.rows,h.owns,fun b hb=>(h.owns.lt b hb).1⟩
theorem kpr_row {w:World} {va:Option Addr} {vn vc:Nat} {ks:List DLodKeeper} (h:Sl 2 rLodKeeper 0 w (.slice va vn vc) ks) {j:Nat} {x:DLodKeeper} (hk:ks[j]? =some x):∃ (vb vo:Nat) (oa:Option Addr) (on oc:Nat) (aa:Option Addr) (an ac:Nat),va=some ⟨vb,vo,none⟩∧vb < w.heap.size∧w.cell? ⟨vb,vo+j * 2,none⟩=some (.slice oa on oc)∧w.cell? ⟨vb,vo+j * 2+1,none⟩=some (.slice aa an ac)∧Sl 4 rClsClass 0 w (.slice oa on oc) x.fOwns∧Sl 2 rLodAsk 0 w (.slice aa an ac) x.fAsks:=by
 obtain⟨a,len,cap,e,hl,h1,h2,h3⟩:=h
 cases e
 have hs:=(List.getElem?_eq_some_iff.1 hk).1
 obtain⟨b,off,rfl,_,hbl,hr⟩:=h3 (by omega)
 obtain⟨m',cs,g0,g1,g2,g3⟩:=hr j (by omega)
 obtain rfl:x=m':=Option.some.inj (hk.symm.trans g0)
 obtain⟨v1,v2,rfl,t1,t2⟩:=g3
 obtain⟨oa,on,oc,rfl⟩:=t1.form
 obtain⟨aa,an,ac,rfl⟩:=t2.form
 exact⟨b,off,oa,on,oc,aa,an,ac,rfl,hbl,g2 0 _ rfl,g2 1 _ rfl,t1,t2⟩
theorem kpr_len {w:World} {va:Option Addr} {vn vc:Nat} {ks:List DLodKeeper} (h:Sl 2 rLodKeeper 0 w (.slice va vn vc) ks):ks.length=vn∧vn≤vc∧vc≤9223372036854775807:=by
 obtain⟨a,len,cap,e,hl,h1,h2,h3⟩:=h
 cases e
 exact⟨hl,h1,by unfold maxLen at h2;omega⟩
def cpF (vs:Nat→Value) (Q FB lo:Nat) (qv ov av:Value) (xs:List DLodAsk):Nat→Value→World→Prop
 | 0,v,w=>v=.pointer (some ⟨Q,0,none⟩)
 | 1,v,w=>v=qv
 | 2,v,w=>v=ov
 | 3,v,w=>v=.pointer (some ⟨FB,1,none⟩)
 | 4,v,w=>v=av
 | 5,v,w=>TOwn 2 rLodAsk 48 lo lo w v xs
 | 6,v,w=>v=.agg #[ov,vs 5]
 | 7,v,w=>∃ a b:Value,vs 6=.agg #[a,b]∧Src 2 w v [[a,b]]
 | _,_,_=>True
theorem cpF_stays {vs:Nat→Value} {Q FB lo:Nat} {qv ov av:Value} {xs:List DLodAsk}:∀ i j u w w',i≠j→Below w.heap.size w w'→cpF vs Q FB lo qv ov av xs i u w→cpF vs Q FB lo qv ov av xs i u w':=by
 intro i j u w w' hne hg h
 match i with
 | 0|1|2|3|4|6=>exact h
 | 5=>
   exact h.below (E:=NoT) rLodAsk_goodT hg
 | 7=>
   obtain⟨a,b,h1,h2⟩:=h
   exact⟨a,b,h1,h2.kept hg⟩
 | n+8=>trivial

theorem cpF_dep {l:List Oper} {m:Nat} {Q FB lo:Nat} {qv ov av:Value} {xs:List DLodAsk} (h6:∀ o,l[6]? =some o→∃ e∈o.after,Region.binds .any e=true∧e.on=5) (h7:∀ o,l[7]? =some o→∃ e∈o.after,Region.binds .any e=true∧e.on=6):DepF (fun vs=>cpF vs Q FB lo qv ov av xs) l m:=by
 intro i o vs vs' u w hi ho he hf
 match i with
 | 0|1|2|3|4|5=>exact hf
 | 6=>
   obtain⟨e,h1,h2,h3⟩:=h6 o ho
   have h4:=he e h1 h2
   rw[h3] at h4
   show u=.agg #[ov,vs' 5]
   rw[←h4]
   exact hf
 | 7=>
   obtain⟨e,h1,h2,h3⟩:=h7 o ho
   have h4:=he e h1 h2
   rw[h3] at h4
   obtain⟨a,b,h5,h8⟩:=hf
   exact⟨a,b,by rw[←h4];exact h5,h8⟩
 | n+8=>trivial

theorem I_copyPlan (p:DLodPlan) (pa:Option Addr) (pn pc:Nat) (w:World) (s:Sl 2 rLodKeeper 0 w (.slice pa pn pc) p.fKeepers) (hsh:ShortP p) :
  Calls Tryz.prog 35 #[.agg #[.slice pa pn pc]] w fun e w'=>(∃ v,e=.returned (.agg #[v])∧TPlan w.heap.size w' v p)∧Below w.heap.size w w':=by
 obtain⟨q1,q2⟩:=hsh
 have HQ2:=qhd q2
 obtain⟨hpl,hpc,hp9⟩:=kpr_len s
 have HS:=qhd s
 have HPL:=qhd hpl
 have hpn:pn≤1000:=by omega
 have HK4:Hid ((Tryz.prog.info? 29).map (·.size)=some 4):=qhd (by kernel_rfl)
 clear s hpl q1 q2
 refine qac fun R HR=>?_
 go_enter Tryz.func35,Tryz.ntmps35
 go_wp2_with fail
 obtain⟨wA,hwA⟩:∃ W,W=((w.alloc (.cells #[.slice pa pn pc] 25)).alloc (.cells #[.slice none 0 0] 25)).alloc (.cells #[.slice none 0 0] 25):=⟨_,rfl⟩
 have hBA:Below w.heap.size w wA:=by rw[hwA];exact bbel
 have hzA:wA.heap.size=w.heap.size+1+1+1:=by rw[hwA];simp
 have hRA:wA.heap[w.heap.size+1]? =some (.cells #[.slice none 0 0] 25 (0,0)):=by
  rw[hwA]
  refine(Below.heap_alloc _ _ _ (by simp)).trans ?_
  have:=heap_alloc_new (w.alloc (.cells #[.slice pa pn pc] 25)) (.cells #[.slice none 0 0] 25)
  rw[World.size_alloc] at this;exact this
 have hQA:wA.heap[w.heap.size+1+1]? =some (.cells #[.slice none 0 0] 25 (0,0)):=by
  rw[hwA]
  have:=heap_alloc_new ((w.alloc (.cells #[.slice pa pn pc] 25)).alloc (.cells #[.slice none 0 0] 25)) (.cells #[.slice none 0 0] 25)
  rw[World.size_alloc,World.size_alloc] at this;exact this
 (try rw[←hwA])
 clear hwA
 go_loopw [12] (fun zi wr=>∃ (k:Nat) (qv:Value) (css:List (List Value)),k≤pn∧zi=.int .i64 (k:Int)∧wr.heap[w.heap.size+1]? =some (.cells #[.slice none 0 0] 25 (0,0))∧wr.heap[w.heap.size+1+1]? =some (.cells #[qv] 25 (0,0))∧PlanC wA.heap.size wr qv css ⟨p.fKeepers.take k⟩∧Below w.heap.size w wr) (fun zi _=>pn-(intOf zi).toNat)
 case atStart=>exact⟨0,_,[],Nat.zero_le _,rfl,hRA,hQA,⟨Rows.nil,⟨by simp,Or.inl ⟨rfl,rfl⟩⟩,fun i j o a o' a' _ h=>by simp at h⟩,hBA⟩
 case round=>
  obtain⟨k,qv,css,hk,rfl,hR,hQ,hP,hB⟩:=hrel
  obtain⟨wk,hwk⟩:∃ x,x=wr:=⟨_,rfl⟩
  subst hwk
  obtain⟨qa,qn,qc,hqv⟩:∃ qa qn qc,qv=.slice qa qn qc:=by
   obtain⟨a,c,e,_⟩:=own_form hP.owns
   exact⟨a,_,c,e⟩
  subst hqv
  have HP:=qhd hP
  have HB:=qhd hB
  have HR2:=qhd hR
  have HQ:=qhd hQ
  have hQr:w.heap.size+1+1 < wk.heap.size:=heapLt hQ
  have hAr:wA.heap.size≤wk.heap.size:=by omega
  by_cases hlt:k < pn
  rotate_left
  ·obtain rfl:k=pn:=by omega
   have hfull:p.fKeepers.take k=p.fKeepers:=List.take_of_length_le (by rw[HPL.out];exact Nat.le_refl _)
   obtain⟨c0,_⟩:=oneC hQ
   obtain⟨z0,zf0⟩:=oneC hR
   have hPP:PlanC wA.heap.size wk (.slice qa qn qc) css p:=by
    have:=hP;rw[hfull] at this;exact this
   have HPP:=qhd hPP
   have tyR:TypeAt wk (w.heap.size+1) 25:=⟨_,_,hR⟩
   have HTR:=qhd tyR
   clear hP hPP hR hQ hfull tyR HP
   go_wp2
   all_goals
    refine bodyPost_ret (v:=?_) ?hrun rfl ?_
    case hrun=>(simp only[results,Tryz.results35];go_simp;first|done|exact rfl)
    exact HR.out _ _ ⟨⟨_,rfl,css,PlanC.low (lo:=wA.heap.size) (HPP.out.keeps (KeepsT.set HTR.out EPlan_plan)) (by omega)⟩,HB.out.setCell (by show w.heap.size≤w.heap.size+1;omega) _⟩
  have hlt2:(k:Int) < (pn:Int):=by omega
  obtain⟨x,hx⟩:∃ x,p.fKeepers[k]? =some x:=⟨_,List.getElem?_eq_getElem (by rw[HPL.out];exact hlt)⟩
  obtain⟨vb,vo,oa,on,oc,aa,an,ac,rfl,hvb,g0',g1',t1,t2⟩:=kpr_row HS.out hx
  obtain⟨hol,hal,hcs⟩:=HQ2.out x (List.mem_of_getElem? hx)
  have g0:=qaa hB g0'
  have g1:=qaa hB g1'
  have hvr:vb < wk.heap.size:=Nat.lt_of_lt_of_le hvb hB.size
  have HX:=qhd hx
  have T1:=qhd t1
  have T2:=qhd t2
  have HCS:=qhd hcs
  have hpc2:(pn:Int)≤(pc:Int):=by omega
  clear hP hR hQ hx g0' g1' t1 t2 hcs hB
  go_wp2_with fail
  refine nameW (P:=fun W=>Calls Tryz.prog 66 #[.slice oa on oc] W _) _ (fun wq hwq=>?_)
  have hBq:Below wk.heap.size wk wq:=by rw[hwq];exact bbel
  have hzq:wq.heap.size=wk.heap.size+1:=by rw[hwq];simp[World.setCell]
  have rF0:wq.cell? ⟨wk.heap.size,0,none⟩=some (.slice oa on oc):=by rw[hwq];go_simp
  have rF1:wq.cell? ⟨wk.heap.size,1,none⟩=some (.slice aa an ac):=by rw[hwq];go_simp
  have HBq:=qhd (HB.out.trans (hBq.mono HB.out.size))
  have HBrq:=qhd hBq
  clear hwq g0 g1 rF0 hBq
  refine(I_CloneClsClass x.fOwns _ w wq HBq.out T1.out hol).mono ?_
  rintro _ wI ⟨⟨v6,css0,rfl,t3,rr3⟩,hI⟩
  obtain⟨b3,e3,rfl,he3,hm3⟩:=t3.plain.sl.form
  have hln:=rr3.len
  obtain⟨n,hn⟩:∃ n,n=x.fOwns.length:=⟨_,rfl⟩
  rw[←hn] at hln
  rw[hln] at t3 he3 ⊢
  have hzI:=hI.size
  have HBI:=qhd (HBrq.out.trans (hI.mono HBrq.out.size))
  have RR3:=qhd rr3
  have HLN:=qhd hln
  have HN:=qhd hn
  have T3:=qhd t3
  have rA:=qaa hI rF1
  have hn9:n≤9223372036854775807:=by unfold maxLen at hm3;omega
  have RA:=qhd rA
  have hlI:wk.heap.size < wI.heap.size:=by omega
  have hzq1:wk.heap.size+1≤wq.heap.size:=by omega
  have hzq2:wq.heap.size≤wk.heap.size+1:=by omega
  clear hI rF1 t3 rr3 hln hn rA hzq
  go_wp2_with fail
  go_loopw [21] (fun zi ws=>∃ (i:Nat) (css:List (List Value)),i≤n∧zi=.int .i64 (i:Int)∧TOwnC 4 rCel 29 wq.heap.size wq.heap.size ws (.slice b3 n e3) css css∧css.length=n∧(∀ j y cs,j < i→x.fOwns[j]? =some y→css[j]? =some cs→cs.length=4∧tClsClass wq.heap.size ws cs y)∧(∀ j,i≤j→css[j]? =css0[j]?)∧Below wq.heap.size wI ws) (fun zi _=>n-(intOf zi).toNat)
  case atStart=>exact⟨0,css0,Nat.zero_le _,rfl,T3.out,HLN.out,fun j y cs h=>absurd h (by omega),fun j _=>rfl,Below.refl _ _⟩
  case round=>
   obtain⟨i,cs9,hi,rfl,hT,hcl,hdone,hrest,hbI⟩:=hrel
   have HT:=qhd hT
   have HD:=qhd hdone
   have HRE:=qhd hrest
   have HCL:=qhd hcl
   have HbI:=qhd hbI
   have hsI:=hbI.size
   have HCX:=qhd HCS.out
   by_cases hlt9:i < n
   rotate_left
   ·obtain rfl:i=n:=by omega
    have hrows:Rows 4 tClsClass wq.heap.size wr cs9 x.fOwns:=⟨by rw[hcl];exact HN.out,fun j y cs hy hc=>hdone j y cs (by have:=(List.getElem?_eq_some_iff.1 hy).1;have:=HN.out;omega) hy hc⟩
    have T6:=qhd (hT.toT hrows).plain
    have hkr:Below wk.heap.size wk wr:=HBI.out.trans (hbI.mono (by omega))
    have HKR:=qhd hkr
    have HPi:=qhd (HP.out.below hkr)
    have hQi:=(hkr.block _ hQr).trans HQ.out
    have hRi:=(hkr.block _ (by omega)).trans HR2.out
    obtain⟨rQ,_⟩:=oneC hQi
    have rA:=qbc hbI (by omega) RA.out
    have hrs:=hkr.size
    have HWr:Hid (Below w.heap.size w wr):=qhd (HB.out.trans (hkr.mono HB.out.size))
    have CLA:Hid (∀ W,Below wr.heap.size wr W→Calls Tryz.prog 68 #[.slice aa an ac] W fun e w'=>(∃ v,e=.returned v∧TOwn 2 rLodAsk 48 wq.heap.size wq.heap.size w' v x.fAsks)∧Below W.heap.size W w'):=qhd fun W hW=>(I_CloneLodAsk x.fAsks _ w W (HWr.out.trans (hW.mono HWr.out.size)) T2.out hal).mono fun e w' h=>by
     obtain⟨⟨v,h1,h2⟩,h3⟩:=cloned_leaf (rLodAsk_goodT.mono fun _ h=>h) (fun _ _ _ _ _ _ h=>h) h
     have:=hW.size
     exact⟨⟨v,h1,h2.sl.low' (E:=NoT) rLodAsk_goodT (by omega),fun b hb=>by have:=h2.own b hb;omega⟩,h3⟩
    have hQw:w.heap.size+1+1 < wr.heap.size:=by omega
    have HQI:=qhd hQi
    have HRI:=qhd hRi
    clear hT hdone hrest hbI hcl hrows hkr hQi hRi
    go_wp2_with fail
    refine qav 8 (Below wr.heap.size wr) (fun _ w1 w2=>Below w1.heap.size w1 w2) (fun vs=>cpF vs (w.heap.size+1+1) wk.heap.size wq.heap.size (.slice qa qn qc) (.slice b3 i e3) (.slice aa an ac) x.fAsks) (fun _ _=>True) noDead (by kernel_rfl) (by decide) (by kernel_rfl) (Or.inr ⟨by kernel_rfl,by kernel_rfl⟩) (by kernel_rfl) ((Below.refl _ _).drew) ?hdep noDead_dead (fun _=>trivial) (fun _ _ _ _ _ _ _ _=>trivial) (fun _ i j u w1 w2 hne _ _ hg hF=>cpF_stays i j u w1 w2 hne hg hF) (fun _ _ _=>Below.refl _ _) ?_
    case hdep=>exact cpF_dep (fun o ho=>by cases ho;exact⟨⟨5,.data⟩,by simp,rfl,rfl⟩) (fun o ho=>by cases ho;exact⟨⟨6,.data⟩,by simp,rfl,rfl⟩)
    refine qab (d:=32) rfl rfl (fun wx hC hI hd S0 hS=>?_) (fun v0=>?_)
    ·have HSS:=qhd hS;clear hS hd hI
     go_simp
     exact HSS.out _ _ hC (Below.refl _ _) (by simp[cpF])
    simp only[qnr]
    refine qab (d:=33) rfl rfl (fun wx hC hI hd S0 hS=>?_) (fun v1=>?_)
    ·have d0:=hd ⟨0,.data⟩ (by simp) rfl v0 (by simp)
     simp only[cpF] at d0
     subst d0
     have c0':=qaa hC rQ
     have HSS:=qhd hS;clear hS hd hI
     go_simp
     exact HSS.out _ _ hC (Below.refl _ _) (by simp[cpF])
    simp only[qnr]
    refine qab (d:=34) rfl rfl (fun wx hC hI hd S0 hS=>?_) (fun v2=>?_)
    ·have HSS:=qhd hS;clear hS hd hI
     go_simp
     exact HSS.out _ _ hC (Below.refl _ _) (by simp[cpF])
    simp only[qnr]
    refine qab (d:=35) rfl rfl (fun wx hC hI hd S0 hS=>?_) (fun v3=>?_)
    ·have HSS:=qhd hS;clear hS hd hI
     go_simp
     exact HSS.out _ _ hC (Below.refl _ _) (by simp[cpF])
    simp only[qnr]
    refine qab (d:=36) rfl rfl (fun wx hC hI hd S0 hS=>?_) (fun v4=>?_)
    ·have d3:=hd ⟨3,.data⟩ (by simp) rfl v3 (by simp)
     simp only[cpF] at d3
     subst d3
     have c1':=qaa hC rA
     have HSS:=qhd hS;clear hS hd hI
     go_simp
     exact HSS.out _ _ hC (Below.refl _ _) (by simp[cpF])
    simp only[qnr]
    refine qab (d:=37) rfl rfl (fun wx hC hI hd S0 hS=>?_) (fun v5=>?_)
    ·have d4:=hd ⟨4,.data⟩ (by simp) rfl v4 (by simp)
     simp only[cpF] at d4
     subst d4
     have HSS:=qhd hS;clear hS hd hI
     go_simp
     refine(CLA.out _ hC).mono ?_
     rintro _ w' ⟨⟨v',rfl,ht'⟩,hX⟩
     refine HSS.out _ _ (hC.trans (hX.mono hC.size)) hX ?_
     (simp only[qls,Nat.reduceAdd,cpF])
     exact ht'
    simp only[qnr]
    refine qab (d:=38) rfl rfl (fun wx hC hI hd S0 hS=>?_) (fun v6=>?_)
    ·have d2:=hd ⟨2,.data⟩ (by simp) rfl v2 (by simp)
     simp only[cpF] at d2
     subst d2
     have d5:=hd ⟨5,.data⟩ (by simp) rfl v5 (by simp)
     simp only[cpF] at d5
     have HSS:=qhd hS;clear hS hd hI
     obtain⟨za,zn,zc,rfl⟩:=d5.sl.form3
     go_simp
     refine HSS.out _ _ hC (Below.refl _ _) ?_
     (simp only[qls,Nat.reduceAdd,cpF])
     rfl
    simp only[qnr]
    refine qab (d:=39) rfl rfl (fun wx hC hI hd S0 hS=>?_) (fun v7=>?_)
    ·have d6:=hd ⟨6,.data⟩ (by simp) rfl v6 (by simp)
     simp only[cpF] at d6
     have hzx:=hC.size
     simp only[getv,List.nil_append,List.cons_append,List.getD_cons_succ,List.getD_cons_zero] at d6
     subst d6
     have HSS:=qhd hS;clear hS hd hI
     have h9:=run_one sty_Kpr [.slice b3 i e3,v5] rfl (by decide) wx
     refine wp_buildOne rfl rfl h9 ⟨put_defers' _ _ _,?_⟩
     rw[qae (by simp)]
     refine HSS.out _ _ (hC.trans (((Below.refl _ _).alloc (Nat.le_refl _) _).mono hC.size)) ((Below.refl _ _).alloc (Nat.le_refl _) _) ?_
     (simp only[qls,Nat.reduceAdd,cpF])
     exact⟨_,_,rfl,Src.new (k:=2)⟩
    simp only[qnr]
    intro wF hC hF
    have f1:=hF 1 v1 (by simp) (fun _ _=>rfl)
    have f5:=hF 5 v5 (by simp) (fun _ _=>rfl)
    have f6:=hF 6 v6 (by simp) (fun _ _=>rfl)
    have f7:=hF 7 v7 (by simp) (fun _ _=>rfl)
    simp only[cpF,getv,List.nil_append,List.cons_append,List.getD_cons_succ,List.getD_cons_zero] at f1 f5 f6 f7
    subst f1
    subst f6
    obtain⟨ka,kb,hab,hsrc⟩:=f7
    cases hab
    have hCs:=hC.size
    have PF:=HPi.out.below hC
    have T6F:=T6.out.below (E:=EClsClass) tClsClass_goodT hC
    have hrow:Rows 2 tLodKeeper wA.heap.size wF [[.slice b3 i e3,v5]] [x]:=Rows.one rfl ⟨_,_,rfl,T6F.sl.low' tClsClass_goodT (by omega),f5.sl.low' (E:=NoT) rLodAsk_goodT (by omega)⟩
    have hQF:=(hC.block _ hQw).trans HQI.out
    have hRF:=(hC.block _ (by omega)).trans HRI.out
    have hBF:Below w.heap.size w wF:=HWr.out.trans (hC.mono HWr.out.size)
    have hlenk:(p.fKeepers.take k).length+[x].length≤1000000:=by
     rw[List.length_take];simp only[List.length_cons,List.length_nil];omega
    have APT:Apart (css++[[.slice b3 i e3,v5]]):=HP.out.apart.snoc fun o' a' hm=>by
     obtain⟨h1,h2⟩:=HP.out.lt hm
     exact⟨fun b hb e=>by have:=h1 b hb;have:=T6.out.own b e;omega,fun b hb e=>by have:=h2 b hb;have:=f5.own b e;omega⟩
    have HAPT:=qhd APT
    clear hF hC rQ rA T6F APT
    simp only[List.drop_succ_cons,List.drop_zero]
    refine wpList_append_FC (by rfl) (.tmp 33) (.tmp 39) 23 (by rfl) sty_Kpr tLodKeeper_goodT (by unfold ELodKeeper;decide) tLodKeeper_one (by rfl) (by rfl) PF.toC hsrc hrow hlenk (Nat.le_refl _) (by omega) ?_
    intro v9 wG htG hbG hgG hkG hatG
    obtain⟨ga,gn,gc,hg9⟩:∃ ga gn gc,v9=.slice ga gn gc:=htG.plain.sl.form3
    subst hg9
    have PG:Hid (PlanC wA.heap.size wG (.slice ga gn gc) (css++[[.slice b3 i e3,v5]]) ⟨p.fKeepers.take k++[x]⟩):=qhd ⟨htG.rows,htG.owns,HAPT.out⟩
    have hQG:=(hbG.block _ (by omega)).trans hQF
    have hRG:=(hbG.block _ (by omega)).trans hRF
    obtain⟨cQ,fQ⟩:=oneC hQG
    have HBG:Hid (Below w.heap.size w wG):=qhd (hBF.trans (hbG.mono (by omega)))
    have HQG:=qhd hQG
    have HRG:=qhd hRG
    have hQl:w.heap.size+1+1 < wG.heap.size:=heapLt hQG
    clear htG hbG hgG hkG hatG PF hsrc hrow f5 hQF hRF hBF hQG hRG
    go_wp2
    go_roundw
    case measure=>simp[intOf];omega
    case rel=>
     refine⟨k+1,.slice ga gn gc,css++[[.slice b3 i e3,v5]],by omega,by go_num,?_,?_,?_,HBG.out.setCell (by show w.heap.size≤w.heap.size+1+1;omega) _⟩
     ·rw[Below.heap_setCell _ _ _ _ (by show w.heap.size+1≠w.heap.size+1+1;omega)];exact HRG.out
     ·exact(qar HQG.out).trans (by simp)
     ·have e9:p.fKeepers.take (k+1)=p.fKeepers.take k++[x]:=by rw[List.take_add_one,HX.out];rfl
      rw[e9]
      exact PG.out.keeps (KeepsT.set ⟨_,_,HQG.out⟩ EPlan_plan)
   have hlt3:(i:Int) < (n:Int):=by omega
   obtain⟨c,hc⟩:∃ c,x.fOwns[i]? =some c:=⟨_,List.getElem?_eq_getElem (by rw[←HN.out];exact hlt9)⟩
   obtain⟨cs,hcs⟩:∃ cs,css0[i]? =some cs:=⟨_,List.getElem?_eq_getElem (by rw[HLN.out];exact hlt9)⟩
   obtain⟨hc3,v1,v2,rfl,m1,m2,bb1,bb2⟩:=RR3.out.row i c cs hc hcs
   obtain⟨sa,sn,sc,rfl⟩:=m1.form
   obtain⟨ta,tn,tc,rfl⟩:=m2.form
   have hcss:=(hrest i (Nat.le_refl _)).trans hcs
   obtain⟨G,rfl,hG1,hG2,hG3, -⟩:=hT.slot (by omega)
   obtain⟨y0,_,_⟩:=hT.cellAt (j:=0) hcss rfl
   obtain⟨y1,_,_⟩:=hT.cellAt (j:=1) hcss rfl
   obtain⟨y2,_,_⟩:=hT.cellAt (j:=2) hcss rfl
   obtain⟨y3,_,_⟩:=hT.cellAt (j:=3) hcss rfl
   rw[Nat.add_zero] at y0
   have hcsh:=HCX.out c (List.mem_of_getElem? hc)
   have HCSS:=qhd hcss
   have HCC:=qhd hc
   have M1:=qhd m1
   have M2:=qhd m2
   have HWr:Hid (Below w.heap.size w wr):=qhd (HB.out.trans ((HBI.out.trans (hbI.mono (by omega))).mono HB.out.size))
   clear hT hdone hrest hbI hc hcs hcss m1 m2 hc3 hcl
   go_wp2_with fail
   refine nameW (P:=fun W=>Calls Tryz.prog 67 #[.agg #[.string c.fName,.string c.fSuper,.slice sa sn sc,.slice ta tn tc]] W _) _ (fun wy hwy=>?_)
   have hBy:Below wr.heap.size wr wy:=by rw[hwy];exact bbel
   have hzy:wr.heap.size≤wy.heap.size:=hBy.size
   have HBy:=qhd hBy
   have HWy:Hid (Below w.heap.size w wy):=qhd (HWr.out.trans (hBy.mono HWr.out.size))
   clear hwy y0 y1 y2 y3 hBy
   refine(I_copyClass c sa sn sc ta tn tc wy (M1.out.stays qah (Keeps.of_below HWy.out)) (M2.out.stays qag (Keeps.of_below HWy.out)) bb1 bb2 hcsh).mono ?_
   rintro _ wZ ⟨⟨cs,rfl,ht⟩,hZ⟩
   have hzZ:=hZ.size
   have HrZ:Hid (Below wr.heap.size wr wZ):=qhd (HBy.out.trans (hZ.mono HBy.out.size))
   have TS:=qhd (HT.out.belowB HrZ.out)
   have F4:=qhd (tClsClass_goodT.low _ wq.heap.size _ _ _ (by omega) ht)
   have hl4:Hid (cs.length=4):=qhd (tClsClass_len ht)
   have TH:Hid (wZ.there G (i * 4) cs.length):=qhd (by rw[hl4.out];exact TS.out.thereRow HCSS.out)
   have hGZ:G < wZ.heap.size:=by omega
   have hin:(i:Int)≤(e3:Int):=by omega
   clear ht hZ
   go_wp2_with (refine wpList_store_mid (by rfl) 29 (.tmp 30) (.tmp 29) (by rfl) G (i * 4) cs.toArray (by rfl) (by rfl) (by simpa using TH.out) (by rw[HK4.out];simp[hl4.out]) (all_oneCell_toArray (qbd _ _ _ _ F4.out)) ?_)
   obtain⟨wT,hwT⟩:∃ W,W=wZ.setCells G (i * 4) cs.toArray.toList:=⟨_,rfl⟩
   rw[←hwT]
   have hzT:wT.heap.size=wZ.heap.size:=by rw[hwT];exact size_setCells G _ _ _
   have tyS:TypeAt wZ G 29:=by
    obtain⟨cur,h9⟩:=TS.out.typeAt
    exact⟨cur,_,h9⟩
   have HKT:Hid (KeepsT (NotT 29) 0 wZ wT):=qhd (by rw[hwT];exact KeepsT.setCells (notT _) _ _ _ tyS)
   have TT1:Hid (TOwnC 4 rCel 29 wq.heap.size wq.heap.size wT (.slice (some ⟨G,0,none⟩) n e3) (cs9.set i cs) (cs9.set i cs)):=qhd (by
    rw[hwT]
    exact TS.out.setRow HCSS.out hl4.out (qbd _ _ _ _ F4.out))
   have HBT:Hid (Below wq.heap.size wI wT):=qhd (by
    have h2:Below wq.heap.size wZ wT:=by
     rw[hwT]
     exact(Turn.setCells G _ _ _).below (by omega)
    exact(HbI.out.trans (HrZ.out.mono (by omega))).trans h2)
   have hil:i < cs9.length:=by have:=HCL.out;omega
   have hzT2:wZ.heap.size≤wT.heap.size:=by omega
   clear hwT TH tyS hzT
   go_wp2
   go_roundw
   case measure=>simp[intOf];omega
   case rel=>
    have hKall:KeepsT (NotT 29) 0 wr wT:=(KeepsT.of_below HrZ.out).trans HKT.out
    refine⟨i+1,_,by omega,by go_num,TT1.out,by rw[List.length_set];exact HCL.out,fun j y ds hj hy hds=>?_,fun j hj=>?_,HBT.out⟩
    ·by_cases hji:j=i
     ·subst hji
      rw[List.getElem?_set_self hil] at hds
      cases hds
      rw[HCC.out] at hy
      cases hy
      exact⟨hl4.out,tClsClass_goodT.stays _ _ _ _ _ ((HKT.out.weaken (E:=EClsClass) (fun e he=>by rcases he with rfl|rfl|rfl|rfl|rfl|rfl<;>(show _≠_;decide))).lift (Nat.zero_le _)) F4.out⟩
     ·rw[List.getElem?_set_ne (by omega)] at hds
      obtain⟨h1,h2⟩:=HD.out j y ds (by omega) hy hds
      exact⟨h1,tClsClass_goodT.stays _ _ _ _ _ ((hKall.weaken (E:=EClsClass) (fun e he=>by rcases he with rfl|rfl|rfl|rfl|rfl|rfl<;>(show _≠_;decide))).lift (Nat.zero_le _)) h2⟩
    ·rw[List.getElem?_set_ne (by omega)]
     exact HRE.out j (by omega)

end Go.Proofs.YtmbfpbgkchncgaaGreat
