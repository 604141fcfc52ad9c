/-
  Texts of mine, packed: Picks, ChgE. No condition beside those of the single theorems.
-/
import Derived.Test.YtmbfpbgkchncgaaGreatK10
import Derived.Test.YtmbfpbgkchncgaaGreatK14
set_option linter.unusedSimpArgs false
set_option linter.unusedVariables false
set_option maxHeartbeats 16000000
set_option maxRecDepth 100000
namespace Go.Proofs.YtmbfpbgkchncgaaGreat
open Go.RowKit
theorem Rd.uniq {w:World} {r p q:Nat} (h:Rd w r p) (h':Rd w r q):p=q:=by
 obtain⟨_,_,_,_,_,h1,_⟩:=h
 obtain⟨_,_,_,_,_,h2,_⟩:=h'
 rw[h1] at h2
 simp at h2
 omega
def pkR (r lo hi:Nat) (w:World):Prop:=∃ q,lo≤q∧q≤hi∧Rd w r q
def pkG (L:Nat→Nat) (r p j:Nat) (w w':World):Prop:=Below w.heap.size w w'∨∃ k,L j=k+1∧Ex r w.heap.size w w'∧Rd w r (p+k)∧Rd w' r (p+k+1)
def pkI (L:Nat→Nat) (r p i:Nat) (w:World):Prop:=∀ k,L i=k+1→pkR r p (p+k) w
theorem pkR_below {r lo hi:Nat} {w w':World} (h:pkR r lo hi w) (hb:Below w.heap.size w w'):pkR r lo hi w':=by
 obtain⟨q,h1,h2,h3⟩:=h
 exact⟨q,h1,h2,qay hb h3 h3.lt⟩
theorem pkI_stays {L:Nat→Nat} {r p:Nat} (hL:∀ i j k,L i=k+1→L j=k+1→i=j):∀ i j w w',i≠j→pkG L r p j w w'→pkI L r p i w→pkI L r p i w':=by
 intro i j w w' hne hg h k hk
 rcases hg with g|⟨m,hm,_,h1,h2⟩
 ·exact pkR_below (h k hk) g
 ·obtain⟨q,h3,h4,h5⟩:=h k hk
  have:=Rd.uniq h1 h5
  have hmk:m≠k:=fun e=>hne (hL i j k hk (by rw[hm,e]))
  exact⟨p+m+1,by omega,by omega,h2⟩
theorem pkR_stays {L:Nat→Nat} {r p lo hi:Nat} (hn:∀ j k,L j=k+1→p+k+1≤hi) {j:Nat} {w w':World} (hg:pkG L r p j w w') (h:pkR r lo hi w):pkR r lo hi w':=by
 rcases hg with g|⟨m,hm,_,h1,h2⟩
 ·exact pkR_below h g
 ·obtain⟨q,h3,h4,h5⟩:=h
  have:=Rd.uniq h1 h5
  exact⟨p+m+1,by omega,hn j m hm,h2⟩
theorem pk_now {r p k hi:Nat} {w:World} (h:pkR r p (p+k) w) (h2:pkR r (p+k) hi w):Rd w r (p+k):=by
 obtain⟨q,_,h3,h4⟩:=h
 obtain⟨q',h5,_,h6⟩:=h2
 have:=Rd.uniq h4 h6
 have e:q=p+k:=by omega
 rwa [←e]
theorem pk_first {r p:Nat} {w:World} (h:pkR r p (p+0) w):Rd w r p:=by
 obtain⟨q,h2,h3,h4⟩:=h
 have e:q=p:=by omega
 rwa [←e]
theorem pk_block {L:Nat→Nat} {r p B c j:Nat} {w w':World} (hr:r < B) (hg:pkG L r p j w w') (hc:B≤c) {o:Obj} (h:w.heap[c]? =some o):w'.heap[c]? =some o:=by
 have hl:=(Array.getElem?_eq_some_iff.1 h).1
 rcases hg with g|⟨_,_,g,_,_⟩
 ·exact(g.block c hl).trans h
 ·exact(g.block c (by omega) hl).trans h
theorem pkG_of {L:Nat→Nat} {r p j:Nat} {w w':World} (h:Below w.heap.size w w'):pkG L r p j w w':=Or.inl h
theorem lits_at {w:World} {c:Nat} {cs:List Value} {t:TypeId} {fr:Nat × Nat} (h:w.heap[c]? =some (.cells cs.toArray t fr)) {P:Value→Prop} (hall:∀ v∈cs,P v) {x:Nat} (hx:x < cs.length):∃ v,P v∧w.cell? ⟨c,x,none⟩=some v:=
 ⟨cs[x],hall _ (List.getElem_mem hx),cell_at h (by simp)⟩
def IntIn (a b:Int) (v:Value):Prop:=∃ i:Int,a≤i∧i≤b∧v=.int .i64 i
def StrIn (n:Nat) (v:Value):Prop:=∃ s:ByteArray,s.size≤n∧v=.string s

def chL (j:Nat):Nat:=if j=1 then 1 else if j=5 then 2 else if j=10 then 3 else 0
theorem chL_at {j k:Nat} (h:chL j=k+1):(j=1∧k=0)∨(j=5∧k=1)∨(j=10∧k=2):=by
 unfold chL at h
 split at h
 ·omega
 ·split at h
  ·omega
  ·split at h<;>omega
theorem chL_one:∀ i j k,chL i=k+1→chL j=k+1→i=j:=fun i j k h1 h2=>by
 rcases chL_at h1 with a|a|a<;>rcases chL_at h2 with b|b|b<;>omega
theorem chL_most {p:Nat}:∀ j k,chL j=k+1→p+k+1≤p+3:=fun j k h=>by
 rcases chL_at h with a|a|a<;>omega
def cnL (j:Nat):Nat:=if j=4 then 1 else 0
theorem cnL_four:∀ j k,cnL j=k+1→j=4:=by
 intro j k h
 unfold cnL at h
 split at h<;>omega
theorem cnL_one:∀ i j k,cnL i=k+1→cnL j=k+1→i=j:=fun i j k h1 h2=>by rw[cnL_four i k h1,cnL_four j k h2]
def cgF (B r p:Nat):Nat→Value→World→Prop
 | 0,v,w=>v=.pointer (some ⟨r,0,none⟩)
 | 1,v,w=>(∃ x:Nat,x < 4∧v=.int .i64 (x:Int))∧pkR r (p+1) (p+3) w
 | 2,v,w=>∃ x:Nat,x < 4∧v=.int .i64 (1+(x:Int))
 | 3,v,w=>∃ c:Nat,v=.slice (some ⟨c,0,none⟩) 4 4∧B≤c∧w.heap[c]? =some (.cells #[.int .i64 0,.int .i64 0,.int .i64 1,.int .i64 2] 3 (0,0))
 | 4,v,w=>v=.pointer (some ⟨r,0,none⟩)
 | 5,v,w=>(∃ x:Nat,x < 4∧v=.int .i64 (x:Int))∧pkR r (p+2) (p+3) w
 | 6,v,w=>∃ (c x:Nat),x < 4∧v=.pointer (some ⟨c,x,none⟩)∧B≤c∧w.heap[c]? =some (.cells #[.int .i64 0,.int .i64 0,.int .i64 1,.int .i64 2] 3 (0,0))
 | 7,v,w=>∃ k:Int,0≤k∧k≤2∧v=.int .i64 k
 | 8,v,w=>∃ c:Nat,v=.slice (some ⟨c,0,none⟩) 5 5∧B≤c∧w.heap[c]? =some (.cells #[.string ⟨#[116,111,112]⟩,.string ⟨#[99,101,108,108]⟩,.string ⟨#[109,97,105,110]⟩,.string ⟨#[110,111,110,101]⟩,.string ⟨#[111,116,104,101,114]⟩] 9 (0,0))
 | 9,v,w=>v=.pointer (some ⟨r,0,none⟩)
 | 10,v,w=>(∃ x:Nat,x < 5∧v=.int .i64 (x:Int))∧pkR r (p+3) (p+3) w
 | 11,v,w=>∃ (c x:Nat),x < 5∧v=.pointer (some ⟨c,x,none⟩)∧B≤c∧w.heap[c]? =some (.cells #[.string ⟨#[116,111,112]⟩,.string ⟨#[99,101,108,108]⟩,.string ⟨#[109,97,105,110]⟩,.string ⟨#[110,111,110,101]⟩,.string ⟨#[111,116,104,101,114]⟩] 9 (0,0))
 | 12,v,w=>∃ s:ByteArray,s.size≤10∧v=.string s
 | 13,v,w=>∃ (x:Nat) (k:Int) (s:ByteArray),x < 4∧0≤k∧k≤2∧s.size≤10∧v=.agg #[.int .i64 (1+(x:Int)),.int .i64 k,.string s,.int .i64 0,.string ⟨#[]⟩,.string ⟨#[]⟩,.slice none 0 0,.slice none 0 0]
 | 14,v,w=>∃ (c:Nat) (cs:Array Value),v=.pointer (some ⟨c,0,none⟩)∧B≤c∧w.heap[c]? =some (.cells cs 31 (0,0))∧cs.size=8
 | _,_,_=>True
theorem cgF_stays {B r p:Nat} {L:Nat→Nat} (hr:r < B) (hn:∀ j k,L j=k+1→p+k+1≤p+3):∀ i j u w w',i≠j→pkG L r p j w w'→cgF B r p i u w→cgF B r p i u w':=by
 intro i j u w w' hne hg h
 match i with
 | 0|2|4|7|9|12|13=>exact h
 | 1=>
   exact⟨h.1,pkR_stays hn hg h.2⟩
 | 3=>
   obtain⟨c,h1,hc,hh⟩:=h
   exact⟨c,h1,hc,pk_block hr hg hc hh⟩
 | 5=>
   exact⟨h.1,pkR_stays hn hg h.2⟩
 | 6=>
   obtain⟨c,x,hx,h1,hc,hh⟩:=h
   exact⟨c,x,hx,h1,hc,pk_block hr hg hc hh⟩
 | 8=>
   obtain⟨c,h1,hc,hh⟩:=h
   exact⟨c,h1,hc,pk_block hr hg hc hh⟩
 | 10=>
   exact⟨h.1,pkR_stays hn hg h.2⟩
 | 11=>
   obtain⟨c,x,hx,h1,hc,hh⟩:=h
   exact⟨c,x,hx,h1,hc,pk_block hr hg hc hh⟩
 | 14=>
   obtain⟨c,cs,h1,hc,hh,h2⟩:=h
   exact⟨c,cs,h1,hc,pk_block hr hg hc hh,h2⟩
 | n+15=>trivial
def cnF (B r q C:Nat) (nm:ByteArray):Nat→Value→World→Prop
 | 0,v,w=>v=.pointer (some ⟨C,2,none⟩)
 | 1,v,w=>v=.string nm
 | 2,v,w=>∃ c:Nat,v=.slice (some ⟨c,0,none⟩) 2 2∧B≤c∧w.heap[c]? =some (.cells #[.string ⟨#[]⟩,.string ⟨#[116,111,112]⟩] 9 (0,0))
 | 3,v,w=>v=.pointer (some ⟨r,0,none⟩)
 | 4,v,w=>∃ x:Nat,x < 2∧v=.int .i64 (x:Int)∧Rd w r (q+1)
 | 5,v,w=>∃ (c x:Nat),x < 2∧v=.pointer (some ⟨c,x,none⟩)∧B≤c∧w.heap[c]? =some (.cells #[.string ⟨#[]⟩,.string ⟨#[116,111,112]⟩] 9 (0,0))
 | 6,v,w=>∃ s:ByteArray,s.size≤10∧v=.string s
 | 7,v,w=>∃ s:ByteArray,s.size≤10∧v=.agg #[.string nm,.string s,.slice none 0 0,.slice none 0 0]
 | _,_,_=>True
theorem cnF_stays {B r q C:Nat} {nm:ByteArray} {L:Nat→Nat} (hr:r < B) (hL4:∀ j k,L j=k+1→j=4):∀ i j u w w',i≠j→pkG L r q j w w'→cnF B r q C nm i u w→cnF B r q C nm i u w':=by
 intro i j u w w' hne hg h
 match i with
 | 0|1|3|6|7=>exact h
 | 2=>
   obtain⟨c,h1,hc,hh⟩:=h
   exact⟨c,h1,hc,pk_block hr hg hc hh⟩
 | 4=>
   obtain⟨x,hx,h1,h2⟩:=h
   rcases hg with g|⟨m,hm,_⟩
   ·exact⟨x,hx,h1,qay g h2 h2.lt⟩
   ·exact absurd (hL4 j m hm).symm hne
 | 5=>
   obtain⟨c,x,hx,h1,hc,hh⟩:=h
   exact⟨c,x,hx,h1,hc,pk_block hr hg hc hh⟩
 | n+8=>trivial

theorem Sl.nil0 {α:Type} {k:Nat} {R:RowRel α} {lo:Nat} {w:World}:Sl k R lo w (.slice none 0 0) ([]:List α):=⟨none,0,0,rfl,rfl,Nat.le_refl _,Nat.zero_le _,fun h=>absurd h (by omega)⟩
structure CAt (C R r q : Nat) (w0 wx : World) (x : DChgChange) (v1 v2 : Value) : Prop where
 eight:Eight wx C (.int .i64 x.fKind) (.int .i64 x.fKeeper) (.string x.fName) (.int .i64 x.fTo) (.string x.fClass.fName) (.string x.fClass.fSuper) v1 v2
 res:Eight wx R (.int .i64 0) (.int .i64 0) (.string ⟨#[]⟩) (.int .i64 0) (.string ⟨#[]⟩) (.string ⟨#[]⟩) (.slice none 0 0) (.slice none 0 0)
 f1:Sl 3 rClsField (C+1) wx v1 x.fClass.fFields
 f2:Sl 8 rClsMethod (C+1) wx v2 x.fClass.fMethods
 n1:x.fName.size≤10
 n2:x.fClass.fName.size≤10
 n3:x.fClass.fSuper.size≤10
 i1: -9≤x.fKind∧x.fKind≤9
 i2: -9≤x.fKeeper∧x.fKeeper≤9
 i3: -9≤x.fTo∧x.fTo≤9
 rd:Rd wx r q
 ex:Ex r w0.heap.size w0 wx
 low:r < w0.heap.size∧w0.heap.size≤R∧R < C
theorem Keeps.of_exlo {lo r:Nat} {w w':World} (h:Ex r w.heap.size w w') (hr:r < lo):Keeps lo w w':=⟨h.size,fun k hk hl=>h.block k (by omega) hl⟩
theorem CAt.go {C R r q q2:Nat} {w0 wx wy:World} {x:DChgChange} {v1 v2:Value} (h:CAt C R r q w0 wx x v1 v2) (he:Ex r wx.heap.size wx wy) (hr:Rd wy r q2):CAt C R r q2 w0 wy x v1 v2:=by
 obtain⟨l1,l2,l3⟩:=h.low
 exact⟨h.eight.ex he (by omega) h.eight.lt,h.res.ex he (by omega) h.res.lt,h.f1.stays qah (Keeps.of_exlo he (by omega)),h.f2.stays qag (Keeps.of_exlo he (by omega)),h.n1,h.n2,h.n3,h.i1,h.i2,h.i3,hr,exC_ex h.ex he,h.low⟩
theorem CAt.turn {C R r q:Nat} {w0 wx:World} {x y:DChgChange} {v1 v2 v:Value} {o:Nat} (h:CAt C R r q w0 wx x v1 v2)
  (he:Eight (wx.setCell ⟨C,o,none⟩ v) C (.int .i64 y.fKind) (.int .i64 y.fKeeper) (.string y.fName) (.int .i64 y.fTo) (.string y.fClass.fName) (.string y.fClass.fSuper) v1 v2) (hc:y.fClass=x.fClass) (n1:y.fName.size≤10)
  (i1: -9≤y.fKind∧y.fKind≤9) (i2: -9≤y.fKeeper∧y.fKeeper≤9) (i3: -9≤y.fTo∧y.fTo≤9):CAt C R r q w0 (wx.setCell ⟨C,o,none⟩ v) y v1 v2:=by
 obtain⟨l1,l2,l3⟩:=h.low
 have hk:Keeps (C+1) wx (wx.setCell ⟨C,o,none⟩ v):=(Keeps.refl _ _).setCell (by show C < C+1;omega) v
 exact⟨he,h.res.set_other (by omega),by rw[hc];exact h.f1.stays qah hk,by rw[hc];exact h.f2.stays qag hk,n1,by rw[hc];exact h.n2,by rw[hc];exact h.n3,i1,i2,i3,h.rd.setCell (by show r < C;omega) v,h.ex.setCell (by show w0.heap.size≤C;omega) v,h.low⟩
theorem CAt.kind {C R r q:Nat} {w0 wx:World} {x:DChgChange} {v1 v2:Value} {i:Int} (h:CAt C R r q w0 wx x v1 v2) (hi: -9≤i∧i≤9):CAt C R r q w0 (wx.setCell ⟨C,0,none⟩ (.int .i64 i)) { x with fKind:=i } v1 v2:=h.turn h.eight.set0 rfl h.n1 hi h.i2 h.i3
theorem CAt.keeper {C R r q:Nat} {w0 wx:World} {x:DChgChange} {v1 v2:Value} {i:Int} (h:CAt C R r q w0 wx x v1 v2) (hi: -9≤i∧i≤9):CAt C R r q w0 (wx.setCell ⟨C,1,none⟩ (.int .i64 i)) { x with fKeeper:=i } v1 v2:=h.turn h.eight.set1 rfl h.n1 h.i1 hi h.i3
theorem CAt.name {C R r q:Nat} {w0 wx:World} {x:DChgChange} {v1 v2:Value} {s:ByteArray} (h:CAt C R r q w0 wx x v1 v2) (hs:s.size≤10):CAt C R r q w0 (wx.setCell ⟨C,2,none⟩ (.string s)) { x with fName:=s } v1 v2:=h.turn h.eight.set2 rfl hs h.i1 h.i2 h.i3
theorem CAt.to {C R r q:Nat} {w0 wx:World} {x:DChgChange} {v1 v2:Value} {i:Int} (h:CAt C R r q w0 wx x v1 v2) (hi: -9≤i∧i≤9):CAt C R r q w0 (wx.setCell ⟨C,3,none⟩ (.int .i64 i)) { x with fTo:=i } v1 v2:=h.turn h.eight.set3 rfl h.n1 h.i1 h.i2 hi
theorem CAt.cls {C R r q:Nat} {w0 wx:World} {x:DChgChange} {v1 v2 y1 y2:Value} {c:DClsClass} (h:CAt C R r q w0 wx x v1 v2) (s1:Sl 3 rClsField (C+1) wx y1 c.fFields) (s2:Sl 8 rClsMethod (C+1) wx y2 c.fMethods) (n2:c.fName.size≤10) (n3:c.fSuper.size≤10) :
  CAt C R r q w0 (wx.setCells C 4 [.string c.fName,.string c.fSuper,y1,y2]) { x with fClass:=c } y1 y2:=by
 obtain⟨l1,l2,l3⟩:=h.low
 have hk:Keeps (C+1) wx (wx.setCells C 4 [.string c.fName,.string c.fSuper,y1,y2]):=((((Keeps.refl _ _).setCell (by show C < C+1;omega) _).setCell (by show C < C+1;omega) _).setCell (by show C < C+1;omega) _).setCell (by show C < C+1;omega) _
 exact⟨h.eight.set4.set5.set6.set7,(((h.res.set_other (by omega)).set_other (by omega)).set_other (by omega)).set_other (by omega),s1.stays qah hk,s2.stays qag hk,h.n1,n2,n3,h.i1,h.i2,h.i3,
  (((h.rd.setCell (by show r < C;omega) _).setCell (by show r < C;omega) _).setCell (by show r < C;omega) _).setCell (by show r < C;omega) _,
  (((h.ex.setCell (by show w0.heap.size≤C;omega) _).setCell (by show w0.heap.size≤C;omega) _).setCell (by show w0.heap.size≤C;omega) _).setCell (by show w0.heap.size≤C;omega) _,h.low⟩
theorem Eight.there4 {w:World} {b:Nat} {x0 x1 x2 x3 x4 x5 x6 x7:Value} (h:Eight w b x0 x1 x2 x3 x4 x5 x6 x7):w.there b 4 4:=fun j hj=>by
 have:=h.there (j+4) (by omega)
 rw[Nat.zero_add] at this
 rw[Nat.add_comm 4 j]
 exact this
theorem any_cls {t:Nat} (h:t < 11):∃ c,blkCls (blk t)=some c∧clsOk c=true:=by
 have h1:IsTop t∨IsCell t∨IsMain t:=by unfold IsTop IsCell IsMain;omega
 rcases h1 with h1|h1|h1
 ·obtain⟨c,h2,h3,_⟩:=top_cls h1;exact⟨c,h2,h3⟩
 ·obtain⟨c,h2,h3,_⟩:=cell_cls h1;exact⟨c,h2,h3⟩
 ·obtain⟨c,h2,h3,_⟩:=main_cls h1;exact⟨c,h2,h3⟩
theorem namOk_short6 {n:ByteArray} (h:namOk n=true):n.size≤6:=by
 unfold namOk at h
 simp only[Bool.and_eq_true,decide_eq_true_eq] at h
 exact h.1.2
theorem cls_short {c:DClsClass} (h:clsOk c=true):c.fName.size≤10∧c.fSuper.size≤10:=by
 unfold clsOk at h
 simp only[Bool.and_eq_true,Bool.or_eq_true] at h
 have h1:=namOk_short6 h.1.1.1.1.1
 refine⟨by omega,?_⟩
 rcases h.1.1.1.1.2 with h2|h2
 ·have:c.fSuper=⟨#[]⟩:=by
   refine sameN_iff.1 ?_
   unfold sameN
   rw[List.isEmpty_iff.1 h2]
   show([] == (ByteArray.empty).toList)=true
   simp
  rw[this];decide
 ·have:=namOk_short6 h2;omega
theorem blk_parse {t:Nat} {c:DClsClass} (h:blkCls (blk t)=some c) (hc:clsOk c=true):lodParse ([tkp]++blk t)=(⟨[⟨[c],[]⟩]⟩,0):=by
 have hl:([tkp]++blk t).length≤400:=by have:=qaf t;simp;omega
 have hok:lodOk ⟨[⟨[c],[]⟩]⟩=true:=lod_ok (by simp) fun k hk=>by
  rw[List.mem_singleton] at hk
  subst hk
  exact keeper_ok (by simp) (fun x hx=>by rw[List.mem_singleton] at hx;rw[hx];exact hc) (by simp) (by rfl)
 unfold lodParse
 rw[if_neg (by omega)]
 rw[List.singleton_append,keeper_run (K:=[]) (by simp)]
 have:=blk_run (K:=[]) (owns:=[]) (asks:=[]) (rest:=[]) (k:=0+1) h
 simp only[List.append_nil,List.nil_append] at this ⊢
 rw[this]
 exact parse_end hok

def CAtQ (C R r q:Nat) (w0 wx:World):Prop:=∃ (x:DChgChange) (v1 v2:Value) (q':Nat),q'≤q∧CAt C R r q' w0 wx x v1 v2
def Chg20 (r p:Nat) (w:World) (e:Ending) (w':World):Prop:=∃ (x:DChgChange) (v1 v2:Value) (q:Nat),e=.returned (.agg #[.int .i64 x.fKind,.int .i64 x.fKeeper,.string x.fName,.int .i64 x.fTo,.string x.fClass.fName,.string x.fClass.fSuper,v1,v2]) ∧
 Sl 3 rClsField w.heap.size w' v1 x.fClass.fFields∧Sl 8 rClsMethod w.heap.size w' v2 x.fClass.fMethods∧x.fName.size≤10∧x.fClass.fName.size≤10∧x.fClass.fSuper.size≤10∧(-9≤x.fKind∧x.fKind≤9)∧(-9≤x.fKeeper∧x.fKeeper≤9)∧(-9≤x.fTo∧x.fTo≤9)∧q≤p+30∧Rd w' r q∧Ex r w.heap.size w w'

theorem S_l20Change (r p:Nat) (n:Int) (w:World) (hn: -9223372036854775808 < n) (hn2:n≤9223372036854775807) (hr:Rd w r p) (hp:p < 400000) :
  Calls Tryz.prog 33 #[.pointer (some ⟨r,0,none⟩),.int .i64 n] w fun e w'=>Chg20 r p w e w':=by
 have hlt:=hr.lt
 refine qac fun R HR=>?_
 go_enter Tryz.func33,Tryz.ntmps33
 go_upto_region 1 with fail
 obtain⟨W1,hW1⟩:∃ W,W=w.alloc (.cells #[.int .i64 0,.int .i64 0,.string ⟨#[]⟩,.int .i64 0,.string ⟨#[]⟩,.string ⟨#[]⟩,.slice none 0 0,.slice none 0 0] 31):=⟨_,rfl⟩
 rw[←hW1]
 have hz1:W1.heap.size=w.heap.size+1:=by rw[hW1];simp
 have R1:Rd W1 r p:=by rw[hW1];exact rdd
 have E1:Ex r w.heap.size w W1:=by rw[hW1];exact eexx
 have RES:Hid (Eight W1 w.heap.size (.int .i64 0) (.int .i64 0) (.string ⟨#[]⟩) (.int .i64 0) (.string ⟨#[]⟩) (.string ⟨#[]⟩) (.slice none 0 0) (.slice none 0 0)):=qhd (by rw[hW1];exact Eight.new _ _ _ _ _ _ _ _ _ _)
 clear hW1
 go_wp2_with fail
 refine qav 15 (Ex r W1.heap.size W1) (pkG chL r p) (fun _=>cgF W1.heap.size r p) (pkI chL r p) noDead (by kernel_rfl) (by decide) (by kernel_rfl) (Or.inr ⟨by kernel_rfl,by kernel_rfl⟩) (by kernel_rfl) ((Ex.refl _ _ _).drew) (fun _ _ _ _ _ _ _ _ _ h=>h) noDead_dead (fun _ _ _=>⟨p,Nat.le_refl _,by omega,R1.drew⟩) (fun i j w1 w2 hne _ hg h=>pkI_stays chL_one i j w1 w2 hne hg h) (fun _ i j u w1 w2 hne _ _ hg hF=>cgF_stays (by omega) chL_most i j u w1 w2 hne hg hF) (fun _ _ _=>pkG_of (Below.refl _ _)) ?_
 refine qab (d:=10) rfl rfl (fun wx hC hI hd S0 hS=>?_) (fun v0=>?_)
 ·have HSS:=qhd hS;clear hS hd hI
  go_simp
  exact HSS.out _ _ hC (pkG_of (Below.refl _ _)) (by simp[cgF])
 simp only[qnr]
 refine qab (d:=11) rfl rfl (fun wx hC hI hd S0 hS=>?_) (fun v1=>?_)
 ·have d0:=hd ⟨0,.data⟩ (by simp) rfl v0 (by simp)
  simp only[cgF] at d0
  subst d0
  have hRd:Rd wx r (p+0):=pk_first (hI 0 rfl)
  have HSS:=qhd hS;clear hS hd hI
  go_simp
  refine(S_pick r (p+0) 4 _ (by omega) hRd (by omega)).mono ?_
  rintro _ w' ⟨⟨x,hx,rfl⟩,hRq,hX⟩
  obtain⟨xn,hxn,rfl⟩:=pick_nat (n:=4) (by omega) hx
  refine HSS.out _ _ (exC_ex hC hX) (Or.inr ⟨0,rfl,hX,hRd,hRq⟩) ?_
  (simp only[qls,Nat.reduceAdd,cgF])
  exact⟨⟨xn,hxn,rfl⟩,_,Nat.le_refl _,by omega,hRq⟩
 simp only[qnr]
 refine qab (d:=12) rfl rfl (fun wx hC hI hd S0 hS=>?_) (fun v2=>?_)
 ·have d1:=hd ⟨1,.data⟩ (by simp) rfl v1 (by simp)
  simp only[cgF] at d1
  obtain⟨⟨x,hx,e1⟩,_⟩:=d1;subst e1;have hxi:(x:Int) < 4:=by omega
  have hwr:IntKind.i64.wrap (1+(x:Int))=1+(x:Int):=IntWalk.i64_in _ (by omega)
  have HSS:=qhd hS;clear hS hd hI
  go_simp
  refine HSS.out _ _ (hC) (pkG_of (Below.refl _ _)) ?_
  (simp only[qls,Nat.reduceAdd,cgF])
  exact⟨x,hx,rfl⟩
 simp only[qnr]
 refine qab (d:=13) rfl rfl (fun wx hC hI hd S0 hS=>?_) (fun v3=>?_)
 ·have hzx:=hC.size
  have HSS:=qhd hS;clear hS hd hI
  go_simp
  refine HSS.out _ _ (exC_next hC ((Below.refl _ _).alloc (Nat.le_refl _) _)) (pkG_of ((Below.refl _ _).alloc (Nat.le_refl _) _)) ?_
  (simp only[qls,Nat.reduceAdd,cgF])
  exact⟨_,rfl,hzx,heap_alloc_new wx _⟩
 simp only[qnr]
 refine qab (d:=14) rfl rfl (fun wx hC hI hd S0 hS=>?_) (fun v4=>?_)
 ·have HSS:=qhd hS;clear hS hd hI
  go_simp
  exact HSS.out _ _ hC (pkG_of (Below.refl _ _)) (by simp[cgF])
 simp only[qnr]
 refine qab (d:=15) rfl rfl (fun wx hC hI hd S0 hS=>?_) (fun v5=>?_)
 ·have d4:=hd ⟨4,.data⟩ (by simp) rfl v4 (by simp)
  simp only[cgF] at d4
  subst d4
  have d1:=hd ⟨1,.chain⟩ (by simp) rfl v1 (by simp)
  simp only[cgF] at d1
  have hRd:Rd wx r (p+1):=pk_now (hI 1 rfl) d1.2
  have HSS:=qhd hS;clear hS hd hI
  go_simp
  refine(S_pick r (p+1) 4 _ (by omega) hRd (by omega)).mono ?_
  rintro _ w' ⟨⟨x,hx,rfl⟩,hRq,hX⟩
  obtain⟨xn,hxn,rfl⟩:=pick_nat (n:=4) (by omega) hx
  refine HSS.out _ _ (exC_ex hC hX) (Or.inr ⟨1,rfl,hX,hRd,hRq⟩) ?_
  (simp only[qls,Nat.reduceAdd,cgF])
  exact⟨⟨xn,hxn,rfl⟩,_,Nat.le_refl _,by omega,hRq⟩
 simp only[qnr]
 refine qab (d:=16) rfl rfl (fun wx hC hI hd S0 hS=>?_) (fun v6=>?_)
 ·have d3:=hd ⟨3,.data⟩ (by simp) rfl v3 (by simp)
  simp only[cgF] at d3
  obtain⟨c3,d3,hc3,hh3⟩:=d3
  have d5:=hd ⟨5,.data⟩ (by simp) rfl v5 (by simp)
  simp only[cgF] at d5
  subst d3
  obtain⟨⟨x,hx,e5⟩,_⟩:=d5;subst e5;have hxi:(x:Int) < 4:=by omega
  have HSS:=qhd hS;clear hS hd hI
  go_simp
  refine HSS.out _ _ (hC) (pkG_of (Below.refl _ _)) ?_
  (simp only[qls,Nat.reduceAdd,cgF])
  exact⟨c3,x,hx,rfl,hc3,hh3⟩
 simp only[qnr]
 refine qab (d:=17) rfl rfl (fun wx hC hI hd S0 hS=>?_) (fun v7=>?_)
 ·have d6:=hd ⟨6,.data⟩ (by simp) rfl v6 (by simp)
  simp only[cgF] at d6
  obtain⟨c6,x,hx,d6,hc6,hh6⟩:=d6
  subst d6
  obtain⟨lv,⟨k,k1,k2,rfl⟩,hcell⟩:=lits_at (cs:=[.int .i64 0,.int .i64 0,.int .i64 1,.int .i64 2]) hh6 (P:=IntIn 0 2) (by intro v hv;simp at hv;rcases hv with rfl|rfl|rfl<;>exact⟨_,by decide,by decide,rfl⟩) hx
  have HSS:=qhd hS;clear hS hd hI
  go_simp
  refine HSS.out _ _ (hC) (pkG_of (Below.refl _ _)) ?_
  (simp only[qls,Nat.reduceAdd,cgF])
  exact⟨k,k1,k2,rfl⟩
 simp only[qnr]
 refine qab (d:=18) rfl rfl (fun wx hC hI hd S0 hS=>?_) (fun v8=>?_)
 ·have hzx:=hC.size
  have HSS:=qhd hS;clear hS hd hI
  go_simp
  refine HSS.out _ _ (exC_next hC ((Below.refl _ _).alloc (Nat.le_refl _) _)) (pkG_of ((Below.refl _ _).alloc (Nat.le_refl _) _)) ?_
  (simp only[qls,Nat.reduceAdd,cgF])
  exact⟨_,rfl,hzx,heap_alloc_new wx _⟩
 simp only[qnr]
 refine qab (d:=19) rfl rfl (fun wx hC hI hd S0 hS=>?_) (fun v9=>?_)
 ·have HSS:=qhd hS;clear hS hd hI
  go_simp
  exact HSS.out _ _ hC (pkG_of (Below.refl _ _)) (by simp[cgF])
 simp only[qnr]
 refine qab (d:=20) rfl rfl (fun wx hC hI hd S0 hS=>?_) (fun v10=>?_)
 ·have d9:=hd ⟨9,.data⟩ (by simp) rfl v9 (by simp)
  simp only[cgF] at d9
  subst d9
  have d5:=hd ⟨5,.chain⟩ (by simp) rfl v5 (by simp)
  simp only[cgF] at d5
  have hRd:Rd wx r (p+2):=pk_now (hI 2 rfl) d5.2
  have HSS:=qhd hS;clear hS hd hI
  go_simp
  refine(S_pick r (p+2) 5 _ (by omega) hRd (by omega)).mono ?_
  rintro _ w' ⟨⟨x,hx,rfl⟩,hRq,hX⟩
  obtain⟨xn,hxn,rfl⟩:=pick_nat (n:=5) (by omega) hx
  refine HSS.out _ _ (exC_ex hC hX) (Or.inr ⟨2,rfl,hX,hRd,hRq⟩) ?_
  (simp only[qls,Nat.reduceAdd,cgF])
  exact⟨⟨xn,hxn,rfl⟩,_,Nat.le_refl _,by omega,hRq⟩
 simp only[qnr]
 refine qab (d:=21) rfl rfl (fun wx hC hI hd S0 hS=>?_) (fun v11=>?_)
 ·have d8:=hd ⟨8,.data⟩ (by simp) rfl v8 (by simp)
  simp only[cgF] at d8
  obtain⟨c8,d8,hc8,hh8⟩:=d8
  have d10:=hd ⟨10,.data⟩ (by simp) rfl v10 (by simp)
  simp only[cgF] at d10
  subst d8
  obtain⟨⟨x,hx,e10⟩,_⟩:=d10;subst e10;have hxi:(x:Int) < 5:=by omega
  have HSS:=qhd hS;clear hS hd hI
  go_simp
  refine HSS.out _ _ (hC) (pkG_of (Below.refl _ _)) ?_
  (simp only[qls,Nat.reduceAdd,cgF])
  exact⟨c8,x,hx,rfl,hc8,hh8⟩
 simp only[qnr]
 refine qab (d:=22) rfl rfl (fun wx hC hI hd S0 hS=>?_) (fun v12=>?_)
 ·have d11:=hd ⟨11,.data⟩ (by simp) rfl v11 (by simp)
  simp only[cgF] at d11
  obtain⟨c11,x,hx,d11,hc11,hh11⟩:=d11
  subst d11
  obtain⟨lv,⟨k,k1,rfl⟩,hcell⟩:=lits_at (cs:=[.string ⟨#[116,111,112]⟩,.string ⟨#[99,101,108,108]⟩,.string ⟨#[109,97,105,110]⟩,.string ⟨#[110,111,110,101]⟩,.string ⟨#[111,116,104,101,114]⟩]) hh11 (P:=StrIn 10) (by intro v hv;simp at hv;rcases hv with rfl|rfl|rfl|rfl|rfl<;>exact⟨_,by decide,rfl⟩) hx
  have HSS:=qhd hS;clear hS hd hI
  go_simp
  refine HSS.out _ _ (hC) (pkG_of (Below.refl _ _)) ?_
  (simp only[qls,Nat.reduceAdd,cgF])
  exact⟨k,k1,rfl⟩
 simp only[qnr]
 refine qab (d:=23) rfl rfl (fun wx hC hI hd S0 hS=>?_) (fun v13=>?_)
 ·have d2:=hd ⟨2,.data⟩ (by simp) rfl v2 (by simp)
  simp only[cgF] at d2
  obtain⟨x2,hx2,d2⟩:=d2
  have d7:=hd ⟨7,.data⟩ (by simp) rfl v7 (by simp)
  simp only[cgF] at d7
  obtain⟨k7,k71,k72,d7⟩:=d7
  have d12:=hd ⟨12,.data⟩ (by simp) rfl v12 (by simp)
  simp only[cgF] at d12
  obtain⟨s12,hs12,d12⟩:=d12
  subst d2;subst d7;subst d12
  have HSS:=qhd hS;clear hS hd hI
  go_simp
  refine HSS.out _ _ (hC) (pkG_of (Below.refl _ _)) ?_
  (simp only[qls,Nat.reduceAdd,cgF])
  exact⟨x2,k7,s12,hx2,k71,k72,hs12,rfl⟩
 simp only[qnr]
 refine qab (d:=5) rfl rfl (fun wx hC hI hd S0 hS=>?_) (fun v14=>?_)
 ·have hzx:=hC.size
  have HSS:=qhd hS;clear hS hd hI
  go_simp
  refine HSS.out _ _ (exC_next hC ((Below.refl _ _).alloc (Nat.le_refl _) _)) (pkG_of ((Below.refl _ _).alloc (Nat.le_refl _) _)) ?_
  (simp only[qls,Nat.reduceAdd,cgF])
  exact⟨_,_,rfl,hzx,heap_alloc_new wx _,rfl⟩
 simp only[qnr]
 intro w3 hC hF
 have f10:=hF 10 v10 (by simp) (fun _ _=>rfl)
 have f13:=hF 13 v13 (by simp) (fun _ _=>rfl)
 have f14:=hF 14 v14 (by simp) (fun _ _=>rfl)
 simp only[cgF] at f10 f13 f14
 obtain⟨_,q3,hq31,hq32,R3⟩:=f10
 obtain rfl:q3=p+3:=by omega
 obtain⟨kd,kp,nm,hkd,hkp1,hkp2,hnm,rfl⟩:=f13
 obtain⟨C,cs,rfl,hCB,hcb,hcs⟩:=f14
 have hz3:=hC.size
 have hcl:C < w3.heap.size:=(Array.getElem?_eq_some_iff.1 hcb).1
 have HK:Hid ((Tryz.prog.info? 31).map (·.size)=some 8):=qhd (by kernel_rfl)
 have E3:Ex r w.heap.size w w3:=exC_ex E1 hC
 have RES3:=qhd (RES.out.ex hC (by omega) RES.out.lt)
 clear hF RES
 simp only[List.drop_succ_cons,List.drop_zero]
 go_wp2_with (refine wpList_store_row (by rfl) 31 (.tmp 5) (.tmp 23) (by rfl) C [.int .i64 (1+(kd:Int)),.int .i64 kp,.string nm,.int .i64 0,.string ⟨#[]⟩,.string ⟨#[]⟩,.slice none 0 0,.slice none 0 0] (by rfl) (by rfl) (there_of hcb hcs) HK.out (by intro v hv;simp at hv;rcases hv with rfl|rfl|rfl|rfl|rfl|rfl<;>rfl) ?_)
 intro w4 hr4 ht4 hT4
 have A4:CAt C w.heap.size r (p+3) w w4 ⟨1+(kd:Int),kp,nm,0,⟨⟨#[]⟩,⟨#[]⟩,[],[]⟩⟩ (.slice none 0 0) (.slice none 0 0):=by
  have hl4:C < w4.heap.size:=by rw[←hT4.size];exact hcl
  have E34:Ex r (C-1+1) w3 w4:=hT4.ex (by omega)
  exact⟨Eight.of hl4 hr4 ht4,RES3.out.below (hT4.below (Nat.le_refl C)) (by omega),Sl.nil0,Sl.nil0,hnm,Nat.zero_le _,Nat.zero_le _,⟨by show -9≤1+(kd:Int);omega,by show 1+(kd:Int)≤9;omega⟩,⟨by show -9≤kp;omega,by show kp≤9;omega⟩,⟨by show(-9:Int)≤0;omega,by show(0:Int)≤9;omega⟩,qay (hT4.below (Nat.le_refl C)) R3 (by omega),E3.trans (hT4.ex (by omega)),⟨hlt,Nat.le_refl _,by omega⟩⟩
 have HA4:=qhd A4
 have hCw:w.heap.size < C:=by omega
 clear hr4 ht4 hT4 A4 hcb RES3 E3 R3 E1 R1 hC
 clear hz3 hcl
 go_wp2_with fail
 refine(S_l20Blocks _).mono ?_
 rintro _ w5 ⟨B,rfl,hB,h5⟩
 have hz5:=h5.size
 have A5:=HA4.out.go (exC_next (Ex.refl r _ w4) h5) (qay h5 HA4.out.rd HA4.out.rd.lt)
 have HA5:=qhd A5
 have HB5:=qhd hB
 have hrw4:r < w4.heap.size:=HA4.out.rd.lt
 obtain⟨kl,k0,k1,k2,k3,k4,k5,k6,k7,kf0,kf1,kf2,kf3,kf4,kf5,kf6,kf7⟩:=A5.eight
 clear A5 hB h5 HA4
 go_upto_if 27 with fail
 go_cut [] from 7 to 78 (fun wx=>CAtQ C w.heap.size r (p+7) w wx)
 case first=>
  by_cases hk0:kd=0
  rotate_left
  ·have hk1:((1+(kd:Int)) == 1)=false:=by rw[beq_eq_false_iff_ne];omega
   go_wp2_with fail
   go_meet
   case rel=>exact⟨_,_,_,p+3,by omega,HA5.out⟩
  subst hk0
  go_wp2_with fail
  refine(S_pick r (p+3) 11 _ (by omega) HA5.out.rd (by omega)).mono ?_
  rintro _ w6 ⟨⟨y,hy,rfl⟩,R6,X6⟩
  obtain⟨t,ht,rfl⟩:=pick_nat (n:=11) (by omega) hy
  have HA6:=qhd (HA5.out.go X6 R6)
  obtain⟨bt,bt0,bt1,btc,bts⟩:=(HB5.out.ex X6 hrw4 HB5.out.lt).at' t ht
  have hz6:=X6.size
  have hBl6:B < w6.heap.size:=Nat.lt_of_lt_of_le HB5.out.lt hz6
  obtain⟨btn,hbtn⟩:∃ n,n=(blk t).length:=⟨_,rfl⟩
  rw[←hbtn] at btc
  have NB:=qhd hbtn
  have SB:=qhd bts
  have hsh:=qaf t
  have ht2:(t:Int) < 11:=by omega
  obtain⟨cl,hcl,hcok⟩:=any_cls ht
  have HPP:=qhd (blk_parse hcl hcok)
  obtain⟨hcn1,hcn2⟩:=cls_short hcok
  clear hy hbtn bts hcl hcok X6 R6
  go_wp2_with (at_builtin;refine qaq (lo:=w6.heap.size) (N:=w6.heap.size) (M:=w6.heap.size) (w5:=w6) (l:=blk t) (by rfl) _ _ (by rfl) (by rfl) (by rfl) (TOwn.lit w6 [tkp] _ rfl 1 rfl _ rfl (by intro x hx;rw[List.mem_singleton] at hx;subst hx;decide) (by simp) (Nat.le_refl _) (Nat.le_refl _)) (Below.refl _ _) SB.out NB.out ((Below.refl _ _).alloc (Nat.le_refl _) _) (by omega) (blk_size t) (by simp;omega) (Nat.le_refl _) (by simp) ?_)
  intro v7 w7 hT7 hb7
  have h67:Below w6.heap.size w6 w7:=((Below.refl _ _).alloc (Nat.le_refl _) _).trans hb7
  have hz7:=h67.size
  have HA7:=qhd (HA6.out.go (exC_next (Ex.refl r _ w6) h67) (qay h67 HA6.out.rd HA6.out.rd.lt))
  have HT7:=qhd hT7
  obtain⟨va,vc,rfl,_,_⟩:=hT7.sl.form
  clear hT7 hb7 h67 HA6 btc bt1
  go_wp2_with fail
  refine(S_LodParse ([tkp]++blk t) _ w7 ((HT7.out.sl.sl fun _ _ h=>h).low rStr_good (Nat.zero_le _)) (fun x hx=>by
   rcases List.mem_append.1 hx with hx|hx
   ·rw[List.mem_singleton] at hx;subst hx;decide
   ·have:=blk_size t x hx;omega)).mono ?_
  rintro _ w8 ⟨pv,rfl,hpl,h8⟩
  have hz8:=h8.size
  have HA8:=qhd (HA7.out.go (exC_next (Ex.refl r _ w7) h8) (qay h8 HA7.out.rd HA7.out.rd.lt))
  rw[HPP.out] at hpl ⊢
  have hCl7:C+1≤w7.heap.size:=HA7.out.eight.lt
  have SP:=hpl.slw
  obtain⟨_,n8,c8,rfl,hn8,hn81,hn82,hr8⟩:=SP
  obtain rfl:n8=1:=by simpa using hn8.symm
  obtain⟨b1,o1,rfl,hb11,hb12,hrow⟩:=hr8 (by omega)
  obtain⟨k1,cs1,e1,_,hrg1,hk1⟩:=hrow 0 (by omega)
  obtain rfl:k1=⟨[cl],[]⟩:=by simpa using e1.symm
  obtain⟨u1,u2,rfl,su1,su2⟩:=hk1
  obtain⟨_,n9,c9,rfl,hn9,hn91,hn92,hr9⟩:=su1
  obtain rfl:n9=1:=by simpa using hn9.symm
  obtain⟨b2,o2,rfl,hb21,hb22,hrow2⟩:=hr9 (by omega)
  obtain⟨k2,cs2,e2,_,hrg2,hk2⟩:=hrow2 0 (by omega)
  obtain rfl:cl=k2:=by simpa using e2
  obtain⟨z1,z2,rfl,sz1,sz2,_,_⟩:=hk2
  have g1:=hrg1 0 _ rfl
  simp only[Nat.zero_mul,Nat.add_zero] at g1 hrg2
  have G2:=qhd hrg2
  have SZ1:=qhd (sz1.low qah hCl7)
  have SZ2:=qhd (sz2.low qag hCl7)
  have hk48:(Tryz.prog.info? 29).map (·.size)=some 4:=by kernel_rfl
  have HK4:=qhd hk48
  clear hpl hr8 hrow e1 hrg1 hr9 hrow2 e2 hrg2 sz1 sz2 su2 h8 hk48 HPP HT7 hn8 hn9
  obtain⟨z1a,z1n,z1c,rfl⟩:=SZ1.out.form
  obtain⟨z2a,z2n,z2c,rfl⟩:=SZ2.out.form
  obtain⟨kl,k0,k1,k2,k3,k4,k5,k6,k7,kf0,kf1,kf2,kf3,kf4,kf5,kf6,kf7⟩:=HA8.out.eight
  have hCl8:C < w8.heap.size:=kl
  have hb1n:b1 < w8.heap.size:=hb12
  have hb2n:b2 < w8.heap.size:=hb22
  have hb1C:b1≠C:=by omega
  have hb2C:b2≠C:=by omega
  have hTH:=qhd HA8.out.eight.there4
  have HTH8:Hid ((w8.alloc (.cells #[.slice (some ⟨b1,o1,none⟩) 1 c8] 25)).there C 4 4):=qhd (((HA8.out.go (exC_next (Ex.refl r _ w8) ((Below.refl _ _).alloc (Nat.le_refl _) _)) (HA8.out.rd.alloc _)).eight).there4)
  go_upto_region 7 with fail
  go_wp2_with (refine wpList_load_mid (by rfl) 29 (.tmp 51) (by rfl) b2 o2 (by rfl) [.string cl.fName,.string cl.fSuper,.slice z1a z1n z1c,.slice z2a z2n z2c] _ (range_below G2.out ((Below.refl w8.heap.size w8).alloc (Nat.le_refl _) _) hb2n) Tryz.underlying29 (by rfl) HK4.out ?_)
  obtain⟨W9,hW9⟩:∃ W9,W9=(((((w8.setCell ⟨C,4,none⟩ (.string cl.fName)).setCell ⟨C,5,none⟩ (.string cl.fSuper)).setCell ⟨C,6,none⟩ (.slice z1a z1n z1c)).setCell ⟨C,7,none⟩ (.slice z2a z2n z2c)).setCell ⟨C,2,none⟩ (.string cl.fName)).alloc (.cells #[.slice (some ⟨b1,o1,none⟩) 1 c8] 25):=⟨_,rfl⟩
  have A9:=qhd (((HA8.out.cls SZ1.out SZ2.out hcn1 hcn2).name hcn1).go (exC_next (Ex.refl r _ _) ((Below.refl _ _).alloc (Nat.le_refl _) (.cells #[.slice (some ⟨b1,o1,none⟩) 1 c8] 25))) (((HA8.out.cls SZ1.out SZ2.out hcn1 hcn2).name hcn1).rd.alloc _))
  have e9:(((w8.setCells C 4 [.string cl.fName,.string cl.fSuper,.slice z1a z1n z1c,.slice z2a z2n z2c]).setCell ⟨C,2,none⟩ (.string cl.fName)).alloc (.cells #[.slice (some ⟨b1,o1,none⟩) 1 c8] 25))=W9:=hW9.symm
  rw[e9] at A9
  rw[←hW9]
  clear hW9 e9 SZ1 SZ2 HA8 g1 G2 HTH8 hTH kl k0 k1 k2 k3 k4 k5 k6 k7 kf0 kf1 kf2 kf3 kf4 kf5 kf6 kf7
  refine(S_pick r (p+3+1) 4 _ (by omega) A9.out.rd (by omega)).mono ?_
  rintro _ wB ⟨⟨y,hy,rfl⟩,RB,XB⟩
  have HAB:=qhd (A9.out.go XB RB)
  clear XB RB A9 hy
  obtain⟨kl,k0,k1,k2,k3,k4,k5,k6,k7,kf0,kf1,kf2,kf3,kf4,kf5,kf6,kf7⟩:=HAB.out.eight
  by_cases hy0:y=0
  rotate_left
  ·have hy1:(y == 0)=false:=by rw[beq_eq_false_iff_ne];exact hy0
   go_wp2_with fail
   go_meet
   case rel=>exact⟨_,_,_,_,by omega,HAB.out⟩
  subst hy0
  go_wp2_with fail
  refine(S_pick r (p+3+1+1) 2 _ (by omega) (HAB.out.rd.alloc _) (by omega)).mono ?_
  rintro _ wC ⟨⟨y2,hy2,rfl⟩,RC,XC⟩
  obtain⟨x2,hx2,rfl⟩:=pick_nat (n:=2) (by omega) hy2
  obtain⟨lv,⟨s,hs,rfl⟩,hcell⟩:=lits_at (cs:=[.string ⟨#[110,111,110,101]⟩,.string ⟨#[111,116,104,101,114]⟩]) ((XC.block wB.heap.size (by have:=HAB.out.rd.lt;omega) (by simp)).trans (heap_alloc_new wB _)) (P:=StrIn 10) (by intro v hv;simp at hv;rcases hv with rfl|rfl<;>exact⟨_,by decide,rfl⟩) hx2
  have HAC:=qhd ((HAB.out.go (exC_next (Ex.refl r _ wB) ((Below.refl _ _).alloc (Nat.le_refl _) _)) (HAB.out.rd.alloc _)).go XC RC)
  have hxi:(x2:Int) < 2:=by omega
  have hsz:=XC.size
  (try simp only[World.size_alloc] at hsz)
  have hBC:wB.heap.size < wC.heap.size:=by omega
  clear XC RC hy2 kl k0 k1 k2 k3 k4 k5 k6 k7 kf0 kf1 kf2 kf3 kf4 kf5 kf6 kf7
  obtain⟨kl,k0,k1,k2,k3,k4,k5,k6,k7,kf0,kf1,kf2,kf3,kf4,kf5,kf6,kf7⟩:=HAC.out.eight
  go_wp2_with fail
  obtain⟨WD,hWD⟩:∃ WD,WD=wC.setCell ⟨C,2,none⟩ (.string s):=⟨_,rfl⟩
  have AD:=qhd (HAC.out.name hs)
  rw[←hWD] at AD ⊢
  clear hWD kl k0 k1 k2 k3 k4 k5 k6 k7 kf0 kf1 kf2 kf3 kf4 kf5 kf6 kf7 hcell
  have hcn:=AD.out.eight.c2
  have hCr:C≠r:=by have:=AD.out.low;omega
  have hCl:C < WD.heap.size:=AD.out.eight.lt
  have hRD:r < WD.heap.size:=AD.out.rd.lt
  refine qav 8 (Ex r WD.heap.size WD) (pkG cnL r (p+3+1+1+1)) (fun _=>cnF WD.heap.size r (p+3+1+1+1) C s) (pkI cnL r (p+3+1+1+1)) noDead (by kernel_rfl) (by decide) (by kernel_rfl) (Or.inr ⟨by kernel_rfl,by kernel_rfl⟩) (by kernel_rfl) ((Ex.refl _ _ _).drew) (fun _ _ _ _ _ _ _ _ _ h=>h) noDead_dead (fun _ _ _=>⟨p+3+1+1+1,Nat.le_refl _,by omega,AD.out.rd.drew⟩) (fun i j w1 w2 hne _ hg h=>pkI_stays cnL_one i j w1 w2 hne hg h) (fun _ i j u w1 w2 hne _ _ hg hF=>cnF_stays hRD cnL_four i j u w1 w2 hne hg hF) (fun _ _ _=>pkG_of (Below.refl _ _)) ?_
  refine qab (d:=67) rfl rfl (fun wx hC hI hd S0 hS=>?_) (fun y0=>?_)
  ·have HSS:=qhd hS;clear hS hd hI
   go_simp
   exact HSS.out _ _ hC (pkG_of (Below.refl _ _)) (by simp[cnF])
  simp only[qnr]
  refine qab (d:=68) rfl rfl (fun wx hC hI hd S0 hS=>?_) (fun y1=>?_)
  ·have d0:=hd ⟨0,.data⟩ (by simp) rfl y0 (by simp)
   simp only[cnF] at d0
   subst d0
   have c0:=(qai (hC.block C hCr hCl)).trans hcn
   have HSS:=qhd hS;clear hS hd hI
   go_simp
   exact HSS.out _ _ hC (pkG_of (Below.refl _ _)) (by simp[cnF])
  simp only[qnr]
  refine qab (d:=69) rfl rfl (fun wx hC hI hd S0 hS=>?_) (fun y2=>?_)
  ·have hzx:=hC.size
   have HSS:=qhd hS;clear hS hd hI
   go_simp
   refine HSS.out _ _ (exC_next hC ((Below.refl _ _).alloc (Nat.le_refl _) _)) (pkG_of ((Below.refl _ _).alloc (Nat.le_refl _) _)) ?_
   (simp only[qls,Nat.reduceAdd,cnF])
   exact⟨_,rfl,hzx,heap_alloc_new wx _⟩
  simp only[qnr]
  refine qab (d:=70) rfl rfl (fun wx hC hI hd S0 hS=>?_) (fun y3=>?_)
  ·have HSS:=qhd hS;clear hS hd hI
   go_simp
   exact HSS.out _ _ hC (pkG_of (Below.refl _ _)) (by simp[cnF])
  simp only[qnr]
  refine qab (d:=71) rfl rfl (fun wx hC hI hd S0 hS=>?_) (fun y4=>?_)
  ·have d3:=hd ⟨3,.data⟩ (by simp) rfl y3 (by simp)
   simp only[cnF] at d3
   subst d3
   have hRd:Rd wx r (p+3+1+1+1):=pk_first (hI 0 rfl)
   have HSS:=qhd hS;clear hS hd hI
   go_simp
   refine(S_pick r (p+3+1+1+1) 2 _ (by omega) hRd (by omega)).mono ?_
   rintro _ w' ⟨⟨x,hx,rfl⟩,hRq,hX⟩
   obtain⟨xn,hxn,rfl⟩:=pick_nat (n:=2) (by omega) hx
   refine HSS.out _ _ (exC_ex hC hX) (Or.inr ⟨0,rfl,hX,hRd,hRq⟩) ?_
   (simp only[qls,Nat.reduceAdd,cnF])
   exact⟨xn,hxn,rfl,hRq⟩
  simp only[qnr]
  refine qab (d:=72) rfl rfl (fun wx hC hI hd S0 hS=>?_) (fun y5=>?_)
  ·have d2:=hd ⟨2,.data⟩ (by simp) rfl y2 (by simp)
   simp only[cnF] at d2
   obtain⟨c2,d2,hc2,hh2⟩:=d2
   have d4:=hd ⟨4,.data⟩ (by simp) rfl y4 (by simp)
   simp only[cnF] at d4
   obtain⟨x,hx,d4,_⟩:=d4
   subst d2;subst d4;have hxi:(x:Int) < 2:=by omega
   have HSS:=qhd hS;clear hS hd hI
   go_simp
   refine HSS.out _ _ (hC) (pkG_of (Below.refl _ _)) ?_
   (simp only[qls,Nat.reduceAdd,cnF])
   exact⟨c2,x,hx,rfl,hc2,hh2⟩
  simp only[qnr]
  refine qab (d:=73) rfl rfl (fun wx hC hI hd S0 hS=>?_) (fun y6=>?_)
  ·have d5:=hd ⟨5,.data⟩ (by simp) rfl y5 (by simp)
   simp only[cnF] at d5
   obtain⟨c5,x,hx,d5,hc5,hh5⟩:=d5
   subst d5
   obtain⟨lv,⟨k,k1,rfl⟩,hcell⟩:=lits_at (cs:=[.string ⟨#[]⟩,.string ⟨#[116,111,112]⟩]) hh5 (P:=StrIn 10) (by intro v hv;simp at hv;rcases hv with rfl|rfl<;>exact⟨_,by decide,rfl⟩) hx
   have HSS:=qhd hS;clear hS hd hI
   go_simp
   refine HSS.out _ _ (hC) (pkG_of (Below.refl _ _)) ?_
   (simp only[qls,Nat.reduceAdd,cnF])
   exact⟨k,k1,rfl⟩
  simp only[qnr]
  refine qab (d:=74) rfl rfl (fun wx hC hI hd S0 hS=>?_) (fun y7=>?_)
  ·have d1:=hd ⟨1,.data⟩ (by simp) rfl y1 (by simp)
   simp only[cnF] at d1
   subst d1
   have d6:=hd ⟨6,.data⟩ (by simp) rfl y6 (by simp)
   simp only[cnF] at d6
   obtain⟨s6,hs6,d6⟩:=d6
   subst d6
   have HSS:=qhd hS;clear hS hd hI
   go_simp
   refine HSS.out _ _ (hC) (pkG_of (Below.refl _ _)) ?_
   (simp only[qls,Nat.reduceAdd,cnF])
   exact⟨s6,hs6,rfl⟩
  simp only[qnr]
  intro wE hC hF
  have f4:=hF 4 y4 (by simp) (fun _ _=>rfl)
  have f7:=hF 7 y7 (by simp) (fun _ _=>rfl)
  simp only[cnF] at f4 f7
  obtain⟨_,_,_,RE⟩:=f4
  obtain⟨s2,hs2,rfl⟩:=f7
  have HAE:=qhd (AD.out.go hC RE)
  clear hF
  obtain⟨kl,k0,k1,k2,k3,k4,k5,k6,k7,kf0,kf1,kf2,kf3,kf4,kf5,kf6,kf7⟩:=HAE.out.eight
  simp only[List.drop_succ_cons,List.drop_zero]
  go_wp2_with fail
  go_meet
  case rel=>exact⟨_,_,_,_,by omega,HAE.out.cls (c:=⟨s,s2,[],[]⟩) Sl.nil0 Sl.nil0 hs hs2⟩
 case rest=>
 obtain⟨x,v1,v2,q,hq,A⟩:=hcut
 obtain⟨va,vn,vc,rfl⟩:=A.f1.form
 obtain⟨ua,un,uc,rfl⟩:=A.f2.form
 have HA:=qhd A
 obtain⟨kl,k0,k1,k2,k3,k4,k5,k6,k7,kf0,kf1,kf2,kf3,kf4,kf5,kf6,kf7⟩:=A.eight
 clear A
 go_upto_if 78 with fail
 go_cut [] from 76 to 81 (fun wx=>CAtQ C w.heap.size r (p+8) w wx)
 case first=>
  by_cases hk3:x.fKind=3
  rotate_left
  ·have hk4:(x.fKind == 3)=false:=by rw[beq_eq_false_iff_ne];exact hk3
   go_wp2_with fail
   go_meet
   case rel=>exact⟨_,_,_,_,by omega,HA.out⟩
  have hk4:(x.fKind == 3)=true:=by rw[hk3];rfl
  go_wp2_with fail
  refine(S_pick r q 3 _ (by omega) HA.out.rd (by omega)).mono ?_
  rintro _ wB ⟨⟨y,hy,rfl⟩,RB,XB⟩
  obtain⟨yn,hyn,rfl⟩:=pick_nat (n:=3) (by omega) hy
  have HAB:=qhd (HA.out.go XB RB)
  clear XB RB hy kl k0 k1 k2 k3 k4 k5 k6 k7 kf0 kf1 kf2 kf3 kf4 kf5 kf6 kf7
  obtain⟨kl,k0,k1,k2,k3,k4,k5,k6,k7,kf0,kf1,kf2,kf3,kf4,kf5,kf6,kf7⟩:=HAB.out.eight
  go_wp2_with fail
  go_meet
  case rel=>exact⟨_,_,_,_,by omega,HAB.out.to (i:=(yn:Int)) ⟨by omega,by omega⟩⟩
 case rest=>
 clear HA kl k0 k1 k2 k3 k4 k5 k6 k7 kf0 kf1 kf2 kf3 kf4 kf5 kf6 kf7
 obtain⟨x,v1,v2,q,hq,A⟩:=hcut
 obtain⟨va,vn,vc,rfl⟩:=A.f1.form
 obtain⟨ua,un,uc,rfl⟩:=A.f2.form
 have HA:=qhd A
 obtain⟨kl,k0,k1,k2,k3,k4,k5,k6,k7,kf0,kf1,kf2,kf3,kf4,kf5,kf6,kf7⟩:=A.eight
 clear A
 go_wp2_with fail
 refine(S_odd r q n _ hn hn2 HA.out.rd (by omega)).mono ?_
 rintro _ wB ⟨⟨ob,rfl⟩,RB,XB⟩
 have HAB:=qhd (HA.out.go XB RB)
 clear XB RB HA kl k0 k1 k2 k3 k4 k5 k6 k7 kf0 kf1 kf2 kf3 kf4 kf5 kf6 kf7
 obtain⟨kl,k0,k1,k2,k3,k4,k5,k6,k7,kf0,kf1,kf2,kf3,kf4,kf5,kf6,kf7⟩:=HAB.out.eight
 go_upto_if 84 with fail
 go_cut [] from 82 to 116 (fun wx=>CAtQ C w.heap.size r (p+12) w wx)
 case first=>
  cases ob
  ·go_wp2_with fail
   go_meet
   case rel=>exact⟨_,_,_,_,by omega,HAB.out⟩
  go_wp2_with fail
  refine(S_pick r (q+1) 4 _ (by omega) HAB.out.rd (by omega)).mono ?_
  rintro _ wD ⟨⟨y,hy,rfl⟩,RD,XD⟩
  have HAD:=qhd (HAB.out.go XD RD)
  have hrD:r < wD.heap.size:=HAD.out.rd.lt
  clear XD RD HAB kl k0 k1 k2 k3 k4 k5 k6 k7 kf0 kf1 kf2 kf3 kf4 kf5 kf6 kf7
  obtain⟨kl,k0,k1,k2,k3,k4,k5,k6,k7,kf0,kf1,kf2,kf3,kf4,kf5,kf6,kf7⟩:=HAD.out.eight
  rcases four hy with rfl|rfl|rfl|rfl
  ·clear hy
   go_wp2_with fail
   refine(S_pick r (q+1+1) 2 _ (by omega) (HAD.out.rd.alloc _) (by omega)).mono ?_
   rintro _ wF ⟨⟨y2,hy2,rfl⟩,RF,XF⟩
   obtain⟨x2,hx2,rfl⟩:=pick_nat (n:=2) (by omega) hy2
   obtain⟨lv,⟨s,hs,hs2,rfl⟩,hcell⟩:=lits_at (cs:=[.int .i64 0,.int .i64 5]) ((XF.block wD.heap.size (by omega) (by simp)).trans (heap_alloc_new wD _)) (P:=IntIn (-1) 5) (by intro v hv;simp at hv;rcases hv with rfl|rfl<;>exact⟨_,by decide,by decide,rfl⟩) hx2
   have HAF:=qhd ((HAD.out.go (exC_next (Ex.refl r _ wD) ((Below.refl _ _).alloc (Nat.le_refl _) _)) (HAD.out.rd.alloc _)).go XF RF)
   have hxi:(x2:Int) < 2:=by omega
   have hsz:=XF.size
   (try simp only[World.size_alloc] at hsz)
   have hDF:wD.heap.size < wF.heap.size:=by omega
   clear XF RF hy2 kl k0 k1 k2 k3 k4 k5 k6 k7 kf0 kf1 kf2 kf3 kf4 kf5 kf6 kf7
   obtain⟨kl,k0,k1,k2,k3,k4,k5,k6,k7,kf0,kf1,kf2,kf3,kf4,kf5,kf6,kf7⟩:=HAF.out.eight
   go_wp2_with fail
   go_meet
   case rel=>exact⟨_,_,_,_,by omega,HAF.out.kind ⟨by omega,by omega⟩⟩
  ·clear hy
   go_wp2_with fail
   refine(S_pick r (q+1+1) 2 _ (by omega) (HAD.out.rd.alloc _) (by omega)).mono ?_
   rintro _ wF ⟨⟨y2,hy2,rfl⟩,RF,XF⟩
   obtain⟨x2,hx2,rfl⟩:=pick_nat (n:=2) (by omega) hy2
   obtain⟨lv,⟨s,hs,hs2,rfl⟩,hcell⟩:=lits_at (cs:=[.int .i64 (-1),.int .i64 3]) ((XF.block wD.heap.size (by omega) (by simp)).trans (heap_alloc_new wD _)) (P:=IntIn (-1) 5) (by intro v hv;simp at hv;rcases hv with rfl|rfl<;>exact⟨_,by decide,by decide,rfl⟩) hx2
   have HAF:=qhd ((HAD.out.go (exC_next (Ex.refl r _ wD) ((Below.refl _ _).alloc (Nat.le_refl _) _)) (HAD.out.rd.alloc _)).go XF RF)
   have hxi:(x2:Int) < 2:=by omega
   have hsz:=XF.size
   (try simp only[World.size_alloc] at hsz)
   have hDF:wD.heap.size < wF.heap.size:=by omega
   clear XF RF hy2 kl k0 k1 k2 k3 k4 k5 k6 k7 kf0 kf1 kf2 kf3 kf4 kf5 kf6 kf7
   obtain⟨kl,k0,k1,k2,k3,k4,k5,k6,k7,kf0,kf1,kf2,kf3,kf4,kf5,kf6,kf7⟩:=HAF.out.eight
   go_wp2_with fail
   go_meet
   case rel=>exact⟨_,_,_,_,by omega,HAF.out.keeper ⟨by omega,by omega⟩⟩
  ·clear hy
   go_wp2_with fail
   refine(S_pick r (q+1+1) 2 _ (by omega) (HAD.out.rd.alloc _) (by omega)).mono ?_
   rintro _ wF ⟨⟨y2,hy2,rfl⟩,RF,XF⟩
   obtain⟨x2,hx2,rfl⟩:=pick_nat (n:=2) (by omega) hy2
   obtain⟨lv,⟨s,hs,rfl⟩,hcell⟩:=lits_at (cs:=[.string ⟨#[]⟩,.string ⟨#[65]⟩]) ((XF.block wD.heap.size (by omega) (by simp)).trans (heap_alloc_new wD _)) (P:=StrIn 10) (by intro v hv;simp at hv;rcases hv with rfl|rfl<;>exact⟨_,by decide,rfl⟩) hx2
   have HAF:=qhd ((HAD.out.go (exC_next (Ex.refl r _ wD) ((Below.refl _ _).alloc (Nat.le_refl _) _)) (HAD.out.rd.alloc _)).go XF RF)
   have hxi:(x2:Int) < 2:=by omega
   have hsz:=XF.size
   (try simp only[World.size_alloc] at hsz)
   have hDF:wD.heap.size < wF.heap.size:=by omega
   clear XF RF hy2 kl k0 k1 k2 k3 k4 k5 k6 k7 kf0 kf1 kf2 kf3 kf4 kf5 kf6 kf7
   obtain⟨kl,k0,k1,k2,k3,k4,k5,k6,k7,kf0,kf1,kf2,kf3,kf4,kf5,kf6,kf7⟩:=HAF.out.eight
   go_wp2_with fail
   go_meet
   case rel=>exact⟨_,_,_,_,by omega,HAF.out.name hs⟩
  ·clear hy
   go_wp2_with fail
   refine(S_pick r (q+1+1) 3 _ (by omega) (HAD.out.rd.alloc _) (by omega)).mono ?_
   rintro _ wF ⟨⟨y2,hy2,rfl⟩,RF,XF⟩
   obtain⟨x2,hx2,rfl⟩:=pick_nat (n:=3) (by omega) hy2
   obtain⟨lv,⟨s,hs,hs2,rfl⟩,hcell⟩:=lits_at (cs:=[.int .i64 (-1),.int .i64 3,.int .i64 1]) ((XF.block wD.heap.size (by omega) (by simp)).trans (heap_alloc_new wD _)) (P:=IntIn (-1) 5) (by intro v hv;simp at hv;rcases hv with rfl|rfl|rfl<;>exact⟨_,by decide,by decide,rfl⟩) hx2
   have HAF:=qhd ((HAD.out.go (exC_next (Ex.refl r _ wD) ((Below.refl _ _).alloc (Nat.le_refl _) _)) (HAD.out.rd.alloc _)).go XF RF)
   have hxi:(x2:Int) < 3:=by omega
   have hsz:=XF.size
   (try simp only[World.size_alloc] at hsz)
   have hDF:wD.heap.size < wF.heap.size:=by omega
   clear XF RF hy2 kl k0 k1 k2 k3 k4 k5 k6 k7 kf0 kf1 kf2 kf3 kf4 kf5 kf6 kf7
   obtain⟨kl,k0,k1,k2,k3,k4,k5,k6,k7,kf0,kf1,kf2,kf3,kf4,kf5,kf6,kf7⟩:=HAF.out.eight
   go_wp2_with fail
   go_meet
   case rel=>exact⟨_,_,_,_,by omega,HAF.out.to ⟨by omega,by omega⟩⟩
 case rest=>
 clear HAB kl k0 k1 k2 k3 k4 k5 k6 k7 kf0 kf1 kf2 kf3 kf4 kf5 kf6 kf7
 obtain⟨x,v1,v2,q,hq,A⟩:=hcut
 obtain⟨va,vn,vc,rfl⟩:=A.f1.form
 obtain⟨ua,un,uc,rfl⟩:=A.f2.form
 have HA:=qhd A
 have hrg:=A.eight.range
 have hTh:=A.res.there
 have hRl:=A.res.lt
 clear A
 go_wp2_with (first|(refine wpList_load_mid (by rfl) 31 (.tmp 5) (by rfl) C 0 ?hx [.int .i64 x.fKind,.int .i64 x.fKeeper,.string x.fName,.int .i64 x.fTo,.string x.fClass.fName,.string x.fClass.fSuper,.slice va vn vc,.slice ua un uc] _ ?hr Tryz.underlying31 (by rfl) HK.out ?_)|(refine wpList_store_rowT (by rfl) 31 (.tmp 4) (.tmp 117) (by rfl) w.heap.size [.int .i64 x.fKind,.int .i64 x.fKeeper,.string x.fName,.int .i64 x.fTo,.string x.fClass.fName,.string x.fClass.fSuper,.slice va vn vc,.slice ua un uc] (by rfl) (by rfl) hTh HK.out (by intro v hv;simp at hv;rcases hv with rfl|rfl|rfl|rfl|rfl|rfl|rfl|rfl<;>rfl) ?_))
 case hx=>rfl
 case hr=>exact hrg
 intro wz hrz htz hTz hYz
 obtain⟨lz,z0,z1,z2,z3,z4,z5,z6,z7,_,_,_,_,_,_,_,_⟩:=Eight.of (by rw[←hTz.size];exact hRl) hrz htz
 have hTz':=qhd hTz
 clear hrz htz hTz hTh hrg
 have hkz:Hid (Keeps (C+1) _ wz):=qhd ⟨Nat.le_of_eq hTz'.out.size,fun k hk hl=>hTz'.out.block k (by have:=HA.out.low;omega)⟩
 go_wp2
 all_goals
  refine bodyPost_ret (v:=?_) ?hrun rfl ?_
  case hrun=>(simp only[results,Tryz.results33];go_simp;first|done|exact rfl)
  exact HR.out _ _ ⟨x,_,_,q,rfl,(HA.out.f1.stays qah hkz.out).low qah (by omega),(HA.out.f2.stays qag hkz.out).low qag (by omega),HA.out.n1,HA.out.n2,HA.out.n3,HA.out.i1,HA.out.i2,HA.out.i3,by omega,qay (hTz'.out.below (Nat.le_refl _)) HA.out.rd hlt,HA.out.ex.trans (hTz'.out.ex (Nat.le_refl _))⟩

end Go.Proofs.YtmbfpbgkchncgaaGreat
