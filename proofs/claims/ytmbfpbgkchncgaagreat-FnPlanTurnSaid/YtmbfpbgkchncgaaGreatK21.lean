/-
  Texts of mine, packed: FindS, FindI, FindT. No condition beside those of the single theorems.
-/
import Derived.Test.YtmbfpbgkchncgaaGreatK13
import Derived.Test.YtmbfpbgkchncgaaGreatK9
import Derived.Deep.RegionHeld3
import Derived.Test.YtmbfpbgkchncgaaGreatK16
import Derived.OwnWalk
import Derived.StillTailTactics
import Derived.Maps.Own
set_option linter.unusedSimpArgs false
set_option linter.unusedVariables false
set_option maxHeartbeats 16000000
set_option maxRecDepth 100000
namespace Go.Proofs.YtmbfpbgkchncgaaGreat
open Go.RowKit
theorem keep_frozen {x x':World} {a:Addr} {f:Bool} {v:Value} (hb:Below x.heap.size x x') (hc:x.cell? a=some v) (h:x.frozen? a=f):x'.frozen? a=f:=(hb.frozen (block_lt_of_cell hc)).trans h
structure StoreOk (B n : Nat) (wB x : World) : Prop where
 below:Below B wB x
 cells:∀ i,i < n→(x.cell? ⟨B,i,none⟩).isSome=true
 free:∀ i,i < n→x.frozen? ⟨B,i,none⟩=false
def cellV (w:World) (b i:Nat):Value:=(w.cell? ⟨b,i,none⟩).getD undef
theorem StoreOk.at' {B n:Nat} {wB:World} {i:Nat} (hi:i < n):∀ W,StoreOk B n wB W→W.cell? ⟨B,i,none⟩=some (cellV W B i):=fun W h=>by
 obtain⟨u,hu⟩:=Option.isSome_iff_exists.1 (h.cells i hi)
 unfold cellV;rw[hu];rfl
theorem StoreOk.fr {B n:Nat} {wB:World} {i:Nat} (hi:i < n):∀ W,StoreOk B n wB W→W.frozen? ⟨B,i,none⟩=false:=fun W h=>h.free i hi
theorem StoreOk.rd {B n:Nat} {wB:World} {b o:Nat} {v:Value} (hb:b < B) (h:wB.cell? ⟨b,o,none⟩=some v):∀ W,StoreOk B n wB W→W.cell? ⟨b,o,none⟩=some v:=fun W hW=>(hW.below.cell (p:=⟨b,o,none⟩) hb).trans h
theorem StoreOk.drew {B n:Nat} {wB x:World} (h:StoreOk B n wB x):StoreOk B n wB x.drew:=⟨h.below.drew,h.cells,h.free⟩
theorem StoreOk.call {B n:Nat} {wB x x':World} (hb:Below x.heap.size x x') (h:StoreOk B n wB x) (hB:B≤wB.heap.size):StoreOk B n wB x':=
 ⟨h.below.trans (hb.mono (by have:=h.below.size;omega)),fun i hi=>by
  obtain⟨u,hu⟩:=Option.isSome_iff_exists.1 (h.cells i hi)
  rw[qaa hb hu];rfl,fun i hi=>by
  obtain⟨u,hu⟩:=Option.isSome_iff_exists.1 (h.cells i hi)
  exact keep_frozen hb hu (h.free i hi)⟩
theorem StoreOk.set {B n:Nat} {wB x:World} (h:StoreOk B n wB x) (i:Nat) (v:Value):StoreOk B n wB (x.setCell ⟨B,i,none⟩ v):=
 ⟨h.below.setCell (Nat.le_refl _) _,fun j hj=>World.isSome_setCells B [v] i x _ (h.cells j hj),fun j hj=>by rw[World.frozen?_setCell];exact h.free j hj⟩

def Ints (w:World) (base:Nat) (v:Value) (ns:List Nat):Prop:=w.ownsRow base 3 1 v ns.length (ns.map fun n:Nat=>Value.int .i64 (n:Int))
theorem Ints.form {w:World} {base:Nat} {v:Value} {ns:List Nat} (h:Ints w base v ns) (hn:0 < ns.length):∃ g cap,v=.slice (some ⟨g,0,none⟩) ns.length cap∧base≤g∧ns.length≤cap∧cap≤maxLen∧g < w.heap.size:=by
 obtain⟨_,h⟩:=h
 rcases h with ⟨_,h0⟩|⟨g,cap,cur,h1,h2,h3,h4,h5,_⟩
 ·omega
 ·exact⟨g,cap,h1,h2,h4,h5,(Array.getElem?_eq_some_iff.1 h3).1⟩
theorem Ints.below {w w':World} {base:Nat} {v:Value} {ns:List Nat} (h:Ints w base v ns) (hb:Below w.heap.size w w'):Ints w' base v ns:=by
 obtain⟨h0,h⟩:=h
 rcases h with h|⟨g,cap,cur,h1,h2,h3,h4⟩
 ·exact⟨h0,Or.inl h⟩
 ·exact⟨h0,Or.inr ⟨g,cap,cur,h1,h2,(hb.block g (Array.getElem?_eq_some_iff.1 h3).1).trans h3,h4⟩⟩
theorem Ints.cell {w:World} {base g len cap:Nat} {ns:List Nat} (h:Ints w base (.slice (some ⟨g,0,none⟩) len cap) ns) {q n:Nat} (hq:ns[q]? =some n):w.cell? ⟨g,q,none⟩=some (.int .i64 (n:Int)):=by
 have:=World.ownsRow.cells h (g:=g) rfl q (.int .i64 (n:Int)) (by simp[hq])
 rw[Addr.add_mid,Nat.zero_add] at this
 exact this
def flatR (rs:List DLodRef):List Value:=rs.flatMap fun r=>[.int .i64 r.fKeeper,.string r.fName]
def Refs (w:World) (base:Nat) (v:Value) (rs:List DLodRef):Prop:=w.ownsRow base 42 2 v rs.length (flatR rs)
theorem Refs.form {w:World} {base:Nat} {v:Value} {rs:List DLodRef} (h:Refs w base v rs) (hn:0 < rs.length):∃ g cap,v=.slice (some ⟨g,0,none⟩) rs.length cap∧base≤g∧rs.length≤cap∧cap≤maxLen∧g < w.heap.size:=by
 obtain⟨_,h⟩:=h
 rcases h with ⟨_,h0⟩|⟨g,cap,cur,h1,h2,h3,h4,h5,_⟩
 ·omega
 ·exact⟨g,cap,h1,h2,h4,h5,(Array.getElem?_eq_some_iff.1 h3).1⟩
theorem Refs.low {w:World} {base base':Nat} {v:Value} {rs:List DLodRef} (h:Refs w base v rs) (hb:base'≤base):Refs w base' v rs:=by
 obtain⟨h0,h⟩:=h
 rcases h with h|⟨g,cap,cur,h1,h2,h3⟩
 ·exact⟨h0,Or.inl h⟩
 ·exact⟨h0,Or.inr ⟨g,cap,cur,h1,Nat.le_trans hb h2,h3⟩⟩
theorem Refs.below {w w':World} {base:Nat} {v:Value} {rs:List DLodRef} (h:Refs w base v rs) (hb:Below w.heap.size w w'):Refs w' base v rs:=by
 obtain⟨h0,h⟩:=h
 rcases h with h|⟨g,cap,cur,h1,h2,h3,h4⟩
 ·exact⟨h0,Or.inl h⟩
 ·exact⟨h0,Or.inr ⟨g,cap,cur,h1,h2,(hb.block g (Array.getElem?_eq_some_iff.1 h3).1).trans h3,h4⟩⟩
theorem Refs.kept {w w':World} {base:Nat} {v:Value} {rs:List DLodRef} (h:Refs w base v rs) (hk:∀ g,v.ownBlock=some g→w'.heap[g]? =w.heap[g]?):Refs w' base v rs:=by
 obtain⟨h0,h⟩:=h
 rcases h with h|⟨g,cap,cur,h1,h2,h3,h4⟩
 ·exact⟨h0,Or.inl h⟩
 ·exact⟨h0,Or.inr ⟨g,cap,cur,h1,h2,(hk g (by rw[h1];rfl)).trans h3,h4⟩⟩
theorem Refs.apart {w:World} {base b:Nat} {v:Value} {rs:List DLodRef} {x y:Value} {t:TypeId} {fr:Nat × Nat} (h:Refs w base v rs) (hn:2≤rs.length) (hb:w.heap[b]? =some (.cells #[x,y] t fr)):v.ownBlock≠some b:=by
 obtain⟨_,h⟩:=h
 rcases h with ⟨_,h0⟩|⟨g,cap,cur,h1,h2,h3,h4,h5,h6,_⟩
 ·omega
 ·intro e
  rw[h1] at e
  cases e
  rw[hb] at h3
  cases h3
  simp at h6
  omega
def There (p:DLodPlan) (r:DLodRef):Prop:=∃ j:Nat,r.fKeeper=(j:Int)∧j < p.fKeepers.length∧0≤ownN p r.fName j∧r.fName.size≤maxLen
theorem There.cls {p:DLodPlan} {r:DLodRef} (h:There p r):∃ c,clsAt p r=some c:=by
 obtain⟨j,h1,h2,h3,h4⟩:=h
 obtain⟨c,hc,_⟩:=clsAt_of_own h2 h3
 obtain⟨rk,rn⟩:=r
 simp only at h1
 subst h1
 exact⟨c,hc⟩

end Go.Proofs.YtmbfpbgkchncgaaGreat
