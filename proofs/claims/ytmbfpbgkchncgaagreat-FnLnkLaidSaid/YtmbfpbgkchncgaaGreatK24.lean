/-
  Texts of mine, packed: LayI. No condition beside those of the single theorems.
-/
import Derived.Test.YtmbfpbgkchncgaaGreatK23
import Derived.Test.YtmbfpbgkchncgaaGreatK7
import Derived.Deep.AppendLies
import Derived.RangeFuncOwn
set_option linter.unusedSimpArgs false
set_option linter.unusedVariables false
set_option maxHeartbeats 16000000
set_option maxRecDepth 100000
namespace Go.Proofs.YtmbfpbgkchncgaaGreat
open Go.RowKit
def EAdd : TypeId → Prop := fun s => s ≠ 64 ∧ s ≠ 146
def adG (row : Option Nat) (j : Nat) (w w' : World) : Prop := (j ≠ 15 ∧ Below w.heap.size w w') ∨ (j = 15 ∧ w.grownBy w' row)
theorem grown_refl (w : World) (row : Option Nat) : w.grownBy w row := ⟨rfl, rfl, rfl, Nat.le_refl _, fun _ _ _ => rfl⟩
theorem grown_of {w w' : World} (h : Below w.heap.size w w') (row : Option Nat) : w.grownBy w' row := by
 obtain ⟨h1, h2, h3, h4, h5⟩ := h
 exact ⟨h1, h2, h3, h4, fun k hk _ => h5 k hk⟩
theorem adG_rfl (row : Option Nat) (j : Nat) (w : World) : adG row j w w := by
 by_cases h : j = 15
 ·exact Or.inr ⟨h, grown_refl _ _⟩
 ·exact Or.inl ⟨h, Below.refl _ _⟩
theorem adG_of {row : Option Nat} {j : Nat} {w w' : World} (hj : j ≠ 15) (h : Below w.heap.size w w') : adG row j w w' := Or.inl ⟨hj, h⟩
theorem row_ne {w : World} {lo B b : Nat} {v : Value} {xs : List DLnkField} {cs : Array Value} {t : TypeId} {fr : Nat × Nat} (h : TOwn 5 rLnkField 64 lo B w v xs) (hb : w.heap[b]? = some (.cells cs t fr)) (ht : t ≠ 64) : some b ≠ v.ownBlock := by
 obtain ⟨⟨css, _, h2⟩, _⟩ := h
 obtain ⟨_, h3⟩ := h2
 rcases h3 with ⟨e, _⟩ | ⟨g, cap, cur, e, _, h5, _⟩
 ·rw [e]; exact fun x => by cases x
 ·rw [e]
  intro x
  have : b = g := by simpa [Value.ownBlock] using x
  subst this
  rw [hb] at h5
  cases h5
  exact ht rfl
theorem others_of {w w' : World} (h : Below w.heap.size w w') : KeepsOthers w w' := KeepsOthers.of_grownBy (grown_of h none) (fun j o e => by cases e)
theorem own_cells {w : World} {lo B b : Nat} {v : Value} {xs : List DLnkField} (h : TOwn 5 rLnkField 64 lo B w v xs) (hb : v.ownBlock = some b) : ∃ cs fr, w.heap[b]? = some (.cells cs 64 fr) := by
 obtain ⟨⟨css, _, h2⟩, _⟩ := h
 obtain ⟨_, h3⟩ := h2
 rcases h3 with ⟨e, _⟩ | ⟨g, cap, cur, e, _, h5, _⟩
 ·rw [e] at hb; cases hb
 ·rw [e] at hb
  obtain rfl : g = b := by simpa [Value.ownBlock] using hb
  exact ⟨_, _, h5⟩
theorem src_at {k : Nat} {w : World} {b : Nat} {cs : List Value} {t : TypeId} {fr : Nat × Nat} (h : w.heap[b]? = some (.cells cs.toArray t fr)) : Src k w (.slice (some ⟨b, 0, none⟩) 1 1) [cs] := Src.one fun j u hj => by
 simp only [World.cell?, h]
 simpa using hj
theorem nameW {P : World → Prop} (w : World) (h : ∀ W, W = w → P W) : P w := h w rfl
theorem fld_row3 {w : World} {va : Option Addr} {vn vc : Nat} {ks : List DClsField} (h : Sl 3 rClsField 0 w (.slice va vn vc) ks) {j : Nat} {kd : DClsField} (hk : ks[j]? = some kd) : ∃ (vb vo : Nat), va = some ⟨vb, vo, none⟩ ∧ vb < w.heap.size ∧ kd.fKind.fName.size ≤ maxLen ∧ w.cell? ⟨vb, vo + j * 3, none⟩ = some (.string kd.fName) ∧ w.cell? ⟨vb, vo + j * 3 + 1, none⟩ = some (.int .i64 kd.fKind.fKind) ∧ w.cell? ⟨vb, vo + j * 3 + 2, none⟩ = some (.string kd.fKind.fName) := by
 obtain ⟨a, len, cap, e, hl, h1, h2, h3⟩ := h
 cases e
 have hs := (List.getElem?_eq_some_iff.1 hk).1
 obtain ⟨b, off, rfl, _, hbl, hr⟩ := h3 (by omega)
 obtain ⟨m', cs, g0, g1, g2, g3⟩ := hr j (by omega)
 obtain rfl : kd = m' := Option.some.inj (hk.symm.trans g0)
 obtain ⟨rfl, b1, b2⟩ := g3
 exact ⟨b, off, rfl, hbl, b2, g2 0 _ rfl, g2 1 _ rfl, g2 2 _ rfl⟩
def adF (B : Nat) (bb E lo : Nat) (oa : Option Addr) (oL oc : Nat) (xk : Int) (xn : ByteArray) (fk : Int) (fn : ByteArray) (xs : List DLnkField) : Nat → Value → World → Prop
 | 0, v, w => v = .pointer (some ⟨bb, 0, none⟩)
 | 1, v, w => v = .pointer (some ⟨bb, 0, none⟩)
 | 2, v, w => v = .pointer (some ⟨bb, 0, none⟩)
 | 3, v, w => v = .pointer (some ⟨bb, 0, none⟩)
 | 4, v, w => v = .slice oa oL oc
 | 5, v, w => v = .agg #[.int .i64 xk, .string xn]
 | 6, v, w => v = .pointer (some ⟨bb, 0, none⟩)
 | 7, v, w => v = .pointer (some ⟨bb, 0, none⟩)
 | 8, v, w => v = .pointer (some ⟨bb, 0, none⟩)
 | 9, v, w => v = .slice oa oL oc
 | 10, v, w => v = .int .i64 (oL : Int)
 | 11, v, w => v = .pointer (some ⟨E, 1, none⟩)
 | 12, v, w => v = .agg #[.int .i64 fk, .string fn]
 | 13, v, w => v = .agg #[.int .i64 xk, .string xn, .int .i64 (oL : Int), .int .i64 fk, .string fn]
 | 14, v, w => ∃ g9 : Nat, v = .slice (some ⟨g9, 0, none⟩) 1 1 ∧ B ≤ g9 ∧ w.heap[g9]? = some (.cells #[.int .i64 xk, .string xn, .int .i64 (oL : Int), .int .i64 fk, .string fn] 64 (0, 0))
 | 15, v, w => TOwn 5 rLnkField 64 lo lo w v xs
 | _, _, _ => True
theorem adF_stays {B : Nat} {bb E lo : Nat} {oa : Option Addr} {oL oc : Nat} {xk : Int} {xn : ByteArray} {fk : Int} {fn : ByteArray} {xs : List DLnkField} (hrow : ∀ g, B ≤ g → (.slice oa oL oc : Value).ownBlock ≠ some g) : ∀ i j u w w', i ≠ j → adG (.slice oa oL oc : Value).ownBlock j w w' → adF B bb E lo oa oL oc xk xn fk fn xs i u w → adF B bb E lo oa oL oc xk xn fk fn xs i u w' := by
 intro i j u w w' hne hg h
 match i with
 | 0 | 1 | 2 | 3 | 4 | 5 | 6 | 7 | 8 | 9 | 10 | 11 | 12 | 13 => exact h
 | 14 =>
   obtain ⟨g9, h1, h2, h3⟩ := h
   refine ⟨g9, h1, h2, ?_⟩
   rcases hg with ⟨_, hg⟩ | ⟨_, hg⟩
   ·exact (hg.block g9 (Array.getElem?_eq_some_iff.1 h3).1).trans h3
   ·exact (hg.block g9 (Array.getElem?_eq_some_iff.1 h3).1 (fun e => hrow g9 h2 e.symm)).trans h3
 | 15 =>
   rcases hg with ⟨_, hg⟩ | ⟨h1, _⟩
   ·exact h.below (E := NoT) qal hg
   ·exact absurd h1.symm hne
 | n + 16 => trivial

theorem I_add (p : DLodPlan) (r : DLodRef) (bs : List DLnkField) (va : Option Addr) (vn vc bb lo : Nat) (ov : Value) (W0 w : World)
  (hW : Below W0.heap.size W0 w) (hb0 : W0.heap.size ≤ bb) (hbl : bb < lo) (hlw : lo ≤ w.heap.size) (hc : w.heap[bb]? = some (.cells #[ov] 146 (0, 0)))
  (ht : TOwn 5 rLnkField 64 lo lo w ov bs) (hs : Sl 3 rClsField 0 W0 (.slice va vn vc) (loOfP p r).fFields) (hl : bs.length ≤ 1000) (h3 : (loOfP p r).fFields.length ≤ 3) (hrn : r.fName.size ≤ maxLen) :
  Calls Tryz.prog 83 #[.pointer (some ⟨bb, 0, none⟩), .agg #[.int .i64 r.fKeeper, .string r.fName], .slice va vn vc] w fun e w' => (∃ v, e = .returned v) ∧ Below W0.heap.size W0 w' ∧ KeepsT EAdd 0 w w' ∧ KeepsOthers w w' ∧
   ∃ ov', w'.heap[bb]? = some (.cells #[ov'] 146 (0, 0)) ∧ TOwn 5 rLnkField 64 lo lo w' ov' (bs ++ ownLay p r bs.length) := by
 obtain ⟨xk, xn⟩ := r
 dsimp only at hrn ⊢
 obtain ⟨hfl, hfc, hf9⟩ := fld_len hs
 have HFL := qhd hfl
 have HS := qhd hs
 have HW := qhd hW
 have hv9 : vn ≤ 9223372036854775807 := by omega
 have hv3 : vn ≤ 3 := by omega
 have hxn : Hid (xn.size ≤ maxLen) := qhd hrn
 have hOL := ownLay_len p ⟨xk, xn⟩ bs.length
 have HOL := qhd hOL
 have hW0w := hW.size
 clear hs hW hrn hfl hOL hf9
 have hc9 : vn ≤ vc := hfc
 obtain ⟨fs, hfs⟩ : ∃ fs, fs = (loOfP p ⟨xk, xn⟩).fFields := ⟨_, rfl⟩
 have HFS := qhd hfs
 rw [← hfs] at HS HFL h3
 clear hfs
 refine qab fun R HR => ?_
 go_enter Tryz.func83, Tryz.ntmps83
 go_wp2_with fail
 have hB0 : Below w.heap.size w (w.alloc (.cells #[.int .i64 xk, .string xn] 42)) := bbel
 have hbw : bb < w.heap.size := by omega
 go_loopw [10] (fun zi wr => ∃ (j : Nat) (ov : Value), j ≤ vn ∧ zi = .int .i64 (j : Int) ∧ wr.heap[bb]? = some (.cells #[ov] 146 (0, 0)) ∧ wr.heap[w.heap.size]? = some (.cells #[.int .i64 xk, .string xn] 42 (0, 0)) ∧ TOwn 5 rLnkField 64 lo lo wr ov (bs ++ (ownLay p ⟨xk, xn⟩ bs.length).take j) ∧ Below W0.heap.size W0 wr ∧ KeepsT EAdd 0 w wr ∧ KeepsOthers w wr) (fun zi _ => vn - (intOf zi).toNat)
 case atStart => exact ⟨0, ov, Nat.zero_le _, rfl, (hB0.block bb hbw).trans hc, heap_alloc_new w _, by rw [List.take_zero, List.append_nil]; exact ht.below (E := NoT) qal hB0, HW.out.trans (hB0.mono hW0w), KeepsT.of_below hB0, others_of hB0⟩
 case round =>
  clear hc ht hB0
  obtain ⟨j, ov, hj, rfl, hbb, hrb, hT, hB, hK, hKO⟩ := hrel
  have hks := hK.size
  have hlr : lo ≤ wr.heap.size := by omega
  have hwr : w.heap.size < wr.heap.size := (Array.getElem?_eq_some_iff.1 hrb).1
  have HB := qhd hB
  have HK := qhd hK
  have HKO := qhd hKO
  have HT := qhd hT
  have HBB := qhd hbb
  have HRB := qhd hrb
  obtain ⟨oa, oc, hov, hoc, hom⟩ := hT.sl.form
  have hbs := hB.size
  by_cases hlt : j < vn
  ·have hlt2 : (j : Int) < (vn : Int) := by omega
   obtain ⟨f, hf⟩ : ∃ x, fs[j]? = some x := ⟨_, List.getElem?_eq_getElem (by rw [HFL.out]; exact hlt)⟩
   obtain ⟨fb, fo, ef, hfb, hfn', f0', f1', f2'⟩ := fld_row3 HS.out hf
   subst ef
   have f0 := qaa hB f0'
   have f1 := qaa hB f1'
   have f2 := qaa hB f2'
   have hfbr : fb < wr.heap.size := by omega
   have hfn : Hid (f.fKind.fName.size ≤ maxLen) := qhd hfn'
   have hsn := ownLay_snoc (p := p) (r := ⟨xk, xn⟩) (n := bs.length) (j := j) (f := f) (by rw [← HFS.out]; exact hf)
   have HSN := qhd hsn
   have hlj : (bs ++ (ownLay p ⟨xk, xn⟩ bs.length).take j).length = bs.length + j := by
    have h8 := HOL.out
    rw [← HFS.out, HFL.out] at h8
    rw [List.length_append, List.length_take, h8]; omega
   rw [hlj] at hov hoc
   subst hov
   have hL9 : Hid ((bs ++ (ownLay p ⟨xk, xn⟩ bs.length).take j).length ≤ 999999) := qhd (by rw [hlj]; omega)
   have hLJ : Hid (bs.length + j ≤ 1003) := qhd (by omega)
   clear hf f0' f1' f2' hfb hfn' hsn hlj hbb hrb hT hB hK hKO
   go_wp2_with fail
   refine nameW (P := fun W => Code.wp _ _ _ _ W) _ (fun wq hwq => ?_)
   have hBq : Below wr.heap.size wr wq := by rw [hwq]; exact bbel
   have hEq : wq.heap.size = wr.heap.size + 1 := by rw [hwq]; simp [World.setCell]
   have e1 : wq.cell? ⟨wr.heap.size, 1, none⟩ = some (.int .i64 f.fKind.fKind) := by rw [hwq]; go_simp
   have e2 : wq.cell? ⟨wr.heap.size, 2, none⟩ = some (.string f.fKind.fName) := by rw [hwq]; go_simp
   clear hwq f0 f1 f2
   have TQ := HT.out.below (E := NoT) qal hBq
   obtain ⟨oL, hoL⟩ : ∃ oL, oL = bs.length + j := ⟨_, rfl⟩
   rw [← hoL] at TQ hoc hLJ
   have HTQ := qhd TQ
   have hqb := (hBq.block bb (by omega)).trans HBB.out
   rw [← hoL] at hqb
   have hqr := (hBq.block w.heap.size (by omega)).trans HRB.out
   have nb := row_ne TQ hqb (by decide)
   have nr := row_ne TQ hqr (by decide)
   have nE : ∀ b, wr.heap.size ≤ b → some b ≠ (.slice oa oL oc : Value).ownBlock := fun b hb e => by
    have := HT.out.lt b (by rw [← hoL]; exact e.symm)
    omega
   have hGB : Hid (∀ W, wq.drew.grownBy W (.slice oa oL oc : Value).ownBlock → W.cell? ⟨bb, 0, none⟩ = some (.slice oa oL oc)) := qhd fun W hg => by
    rw [hg.cell_far ⟨bb, 0, none⟩ (by show bb < wq.heap.size; omega) nb]
    show wq.cell? _ = _
    simp [World.cell?, hqb]
   have hGR : Hid (∀ W, wq.drew.grownBy W (.slice oa oL oc : Value).ownBlock → W.cell? ⟨w.heap.size, 0, none⟩ = some (.int .i64 xk) ∧ W.cell? ⟨w.heap.size, 1, none⟩ = some (.string xn)) := qhd fun W hg => by
    rw [hg.cell_far ⟨w.heap.size, 0, none⟩ (by show w.heap.size < wq.heap.size; omega) nr, hg.cell_far ⟨w.heap.size, 1, none⟩ (by show w.heap.size < wq.heap.size; omega) nr]
    show wq.cell? _ = _ ∧ wq.cell? _ = _
    simp [World.cell?, hqr]
   have hGE : Hid (∀ W, wq.drew.grownBy W (.slice oa oL oc : Value).ownBlock → W.cell? ⟨wr.heap.size, 1, none⟩ = some (.int .i64 f.fKind.fKind) ∧ W.cell? ⟨wr.heap.size, 2, none⟩ = some (.string f.fKind.fName)) := qhd fun W hg => by
    rw [hg.cell_far ⟨wr.heap.size, 1, none⟩ (by show wr.heap.size < wq.heap.size; omega) (nE _ (Nat.le_refl _)), hg.cell_far ⟨wr.heap.size, 2, none⟩ (by show wr.heap.size < wq.heap.size; omega) (nE _ (Nat.le_refl _))]
    exact ⟨e1, e2⟩
   have hlq : Hid (lo ≤ wq.drew.heap.size) := qhd (by show lo ≤ wq.heap.size; omega)
   have hrow : ∀ g, wq.heap.size ≤ g → (.slice oa oL oc : Value).ownBlock ≠ some g := fun g hg e => nE g (by omega) e.symm
   have HLO : Hid (oL = bs.length + j) := qhd hoL
   clear TQ e1 e2 hoL
   have hLc : (oL : Int) ≤ 9223372036854775807 := by have := hLJ.out; omega
   refine qay 16 (fun W => wq.drew.grownBy W (.slice oa oL oc : Value).ownBlock) (fun i => adG (.slice oa oL oc : Value).ownBlock i) (fun _ => adF wq.heap.size bb wr.heap.size lo oa oL oc xk xn f.fKind.fKind f.fKind.fName (bs ++ (ownLay p ⟨xk, xn⟩ bs.length).take j ++ [⟨⟨xk, xn⟩, ((oL : Nat) : Int), ⟨f.fKind.fKind, f.fKind.fName⟩⟩])) (fun i W => i = 15 → TOwn 5 rLnkField 64 lo lo W (.slice oa oL oc) (bs ++ (ownLay p ⟨xk, xn⟩ bs.length).take j)) noDead (by kernel_rfl) (by decide) (by kernel_rfl) (Or.inr ⟨by kernel_rfl, by kernel_rfl⟩) (by kernel_rfl) (grown_refl _ _) (fun _ _ _ _ _ _ _ _ _ h => h) noDead_dead (fun i _ => HTQ.out.below (E := NoT) qal (by exact (Below.refl _ _).drew)) ?hI (fun _ i j u w1 w2 hne _ _ hg hF => adF_stays hrow i j u w1 w2 hne hg hF) (fun i w1 _ => adG_rfl _ i w1) ?_
   case hI =>
    intro i j w1 w2 hne _ hg h e
    rcases hg with ⟨_, hg⟩ | ⟨h1, _⟩
    ·exact (h e).below (E := NoT) qal hg
    ·exact absurd (e.trans h1.symm) hne
   refine qac (d := 14) rfl rfl (fun wx hC hI hd S0 hS => ?_) (fun y0 => ?_)
   ·have HSS := qhd hS; clear hS hd hI
    go_simp
    exact HSS.out _ _ hC (adG_rfl _ _ _) (by simp [adF])
   simp only [qnr]
   refine qac (d := 15) rfl rfl (fun wx hC hI hd S0 hS => ?_) (fun y1 => ?_)
   ·have HSS := qhd hS; clear hS hd hI
    go_simp
    exact HSS.out _ _ hC (adG_rfl _ _ _) (by simp [adF])
   simp only [qnr]
   refine qac (d := 16) rfl rfl (fun wx hC hI hd S0 hS => ?_) (fun y2 => ?_)
   ·have d1 := hd ⟨1, .data⟩ (by simp) rfl y1 (by simp)
    simp only [adF] at d1
    subst d1
    have HSS := qhd hS; clear hS hd hI
    go_simp
    exact HSS.out _ _ hC (adG_rfl _ _ _) (by simp [adF])
   simp only [qnr]
   refine qac (d := 17) rfl rfl (fun wx hC hI hd S0 hS => ?_) (fun y3 => ?_)
   ·have d2 := hd ⟨2, .data⟩ (by simp) rfl y2 (by simp)
    simp only [adF] at d2
    subst d2
    have HSS := qhd hS; clear hS hd hI
    go_simp
    exact HSS.out _ _ hC (adG_rfl _ _ _) (by simp [adF])
   simp only [qnr]
   refine qac (d := 18) rfl rfl (fun wx hC hI hd S0 hS => ?_) (fun y4 => ?_)
   ·have d3 := hd ⟨3, .data⟩ (by simp) rfl y3 (by simp)
    simp only [adF] at d3
    subst d3
    have c0' := hGB.out _ hC
    have HSS := qhd hS; clear hS hd hI
    go_simp
    exact HSS.out _ _ hC (adG_rfl _ _ _) (by simp [adF])
   simp only [qnr]
   refine qac (d := 19) rfl rfl (fun wx hC hI hd S0 hS => ?_) (fun y5 => ?_)
   ·obtain ⟨c1', c2'⟩ := hGR.out _ hC
    have HSS := qhd hS; clear hS hd hI
    go_simp
    exact HSS.out _ _ hC (adG_rfl _ _ _) (by simp [adF])
   simp only [qnr]
   refine qac (d := 20) rfl rfl (fun wx hC hI hd S0 hS => ?_) (fun y6 => ?_)
   ·have HSS := qhd hS; clear hS hd hI
    go_simp
    exact HSS.out _ _ hC (adG_rfl _ _ _) (by simp [adF])
   simp only [qnr]
   refine qac (d := 21) rfl rfl (fun wx hC hI hd S0 hS => ?_) (fun y7 => ?_)
   ·have d6 := hd ⟨6, .data⟩ (by simp) rfl y6 (by simp)
    simp only [adF] at d6
    subst d6
    have HSS := qhd hS; clear hS hd hI
    go_simp
    exact HSS.out _ _ hC (adG_rfl _ _ _) (by simp [adF])
   simp only [qnr]
   refine qac (d := 22) rfl rfl (fun wx hC hI hd S0 hS => ?_) (fun y8 => ?_)
   ·have d7 := hd ⟨7, .data⟩ (by simp) rfl y7 (by simp)
    simp only [adF] at d7
    subst d7
    have HSS := qhd hS; clear hS hd hI
    go_simp
    exact HSS.out _ _ hC (adG_rfl _ _ _) (by simp [adF])
   simp only [qnr]
   refine qac (d := 23) rfl rfl (fun wx hC hI hd S0 hS => ?_) (fun y9 => ?_)
   ·have d8 := hd ⟨8, .data⟩ (by simp) rfl y8 (by simp)
    simp only [adF] at d8
    subst d8
    have c0' := hGB.out _ hC
    have HSS := qhd hS; clear hS hd hI
    go_simp
    exact HSS.out _ _ hC (adG_rfl _ _ _) (by simp [adF])
   simp only [qnr]
   refine qac (d := 24) rfl rfl (fun wx hC hI hd S0 hS => ?_) (fun y10 => ?_)
   ·have d9 := hd ⟨9, .data⟩ (by simp) rfl y9 (by simp)
    simp only [adF] at d9
    subst d9
    have HSS := qhd hS; clear hS hd hI
    go_simp
    exact HSS.out _ _ hC (adG_rfl _ _ _) (by simp [adF])
   simp only [qnr]
   refine qac (d := 25) rfl rfl (fun wx hC hI hd S0 hS => ?_) (fun y11 => ?_)
   ·have HSS := qhd hS; clear hS hd hI
    go_simp
    exact HSS.out _ _ hC (adG_rfl _ _ _) (by simp [adF])
   simp only [qnr]
   refine qac (d := 26) rfl rfl (fun wx hC hI hd S0 hS => ?_) (fun y12 => ?_)
   ·have d11 := hd ⟨11, .data⟩ (by simp) rfl y11 (by simp)
    simp only [adF] at d11
    subst d11
    obtain ⟨c3', c4'⟩ := hGE.out _ hC
    have HSS := qhd hS; clear hS hd hI
    go_simp
    exact HSS.out _ _ hC (adG_rfl _ _ _) (by simp [adF])
   simp only [qnr]
   refine qac (d := 27) rfl rfl (fun wx hC hI hd S0 hS => ?_) (fun y13 => ?_)
   ·have d5 := hd ⟨5, .data⟩ (by simp) rfl y5 (by simp)
    simp only [adF] at d5
    subst d5
    have d10 := hd ⟨10, .data⟩ (by simp) rfl y10 (by simp)
    simp only [adF] at d10
    subst d10
    have d12 := hd ⟨12, .data⟩ (by simp) rfl y12 (by simp)
    simp only [adF] at d12
    subst d12
    have HSS := qhd hS; clear hS hd hI
    go_simp
    exact HSS.out _ _ hC (adG_rfl _ _ _) (by simp [adF])
   simp only [qnr]
   refine qac (d := 28) rfl rfl (fun wx hC hI hd S0 hS => ?_) (fun y14 => ?_)
   ·have d13 := hd ⟨13, .data⟩ (by simp) rfl y13 (by simp)
    simp only [adF] at d13
    subst d13
    have hzx := hC.size
    have HSS := qhd hS; clear hS hd hI
    have h9 := run_one sty_Lfd [.int .i64 xk, .string xn, .int .i64 (oL : Int), .int .i64 f.fKind.fKind, .string f.fKind.fName] rfl (by decide) wx
    refine wp_buildOne rfl rfl h9 ⟨put_defers' _ _ _, ?_⟩
    rw [qag (by simp)]
    refine HSS.out _ _ (hC.trans (World.grownBy_alloc _ _ _)) (adG_of (by simp) ((Below.refl _ _).alloc (Nat.le_refl _) _)) ?_
    (simp only [qls, Nat.reduceAdd, adF])
    exact ⟨_, rfl, hzx, heap_alloc_new wx _⟩
   simp only [qnr]
   refine qac (d := 29) rfl rfl (fun wx hC hI hd S0 hS => ?_) (fun y15 => ?_)
   ·have d4 := hd ⟨4, .data⟩ (by simp) rfl y4 (by simp)
    simp only [adF] at d4
    subst d4
    have d14 := hd ⟨14, .data⟩ (by simp) rfl y14 (by simp)
    simp only [adF] at d14
    obtain ⟨g9, d14, hB9, hh9⟩ := d14
    subst d14
    have hO := hI rfl
    have hzx := hC.size
    have hlx : lo ≤ wx.heap.size := Nat.le_trans hlq.out hzx
    have HSS := qhd hS; clear hS hd hI
    obtain ⟨v', w', hr, hT', hb', hg', hk', _⟩ := run_append_F (ty := 53) (E := fun s => s ≠ 64) (ys := [⟨⟨xk, xn⟩, ((oL : Nat) : Int), ⟨f.fKind.fKind, f.fKind.fName⟩⟩]) sty_Lfd qal (fun h => h rfl) rLnkField_one hO (src_at hh9) (Rows.one rfl ⟨rfl, hxn.out, hfn.out⟩) (by have := hL9.out; simp only [List.length_cons, List.length_nil]; omega) (Nat.le_refl _) hlx
    refine wp_of_append (.tmp 18) (.tmp 28) 53 (by rfl) (by rfl) (by rfl) hr ⟨put_defers' _ _ _, ?_⟩
    rw [qag (by simp)]
    refine HSS.out _ _ (hC.trans hg') (Or.inr ⟨by simp, hg'⟩) ?_
    (simp only [qls, Nat.reduceAdd, adF])
    exact hT'
   simp only [qnr]
   intro wF hC hF
   have g0 := hF 0 y0 (by simp) (fun _ _ => rfl)
   have g15 := hF 15 y15 (by simp) (fun _ _ => rfl)
   simp only [adF] at g0 g15
   subst g0
   have hCs := hC.size
   have hCs2 : wq.heap.size ≤ wF.heap.size := hCs
   have hbF : wF.heap[bb]? = some (.cells #[.slice oa oL oc] 146 (0, 0)) := (hC.block bb (by show bb < wq.heap.size; omega) nb).trans hqb
   have hrF : wF.heap[w.heap.size]? = some (.cells #[.int .i64 xk, .string xn] 42 (0, 0)) := (hC.block w.heap.size (by show w.heap.size < wq.heap.size; omega) nr).trans hqr
   have hbelF : Below lo wr wF := (hBq.mono hlr).trans (((Below.refl lo wq).drew).grown hC (by show lo ≤ wq.heap.size; omega) (fun b hb => HTQ.out.own b hb))
   have hkF : KeepsT (fun s => s ≠ 64) 0 wr wF := by
    have h1 : KeepsT (fun s => s ≠ 64) 0 wr wq.drew := (KeepsT.of_below hBq).drewB
    obtain ⟨⟨css, _, hown⟩, _⟩ := HTQ.out
    exact h1.trans (KeepsT.of_grown (w := wq.drew) hC (show wq.drew.ownsRow _ _ _ _ _ _ from hown) (fun h => h rfl))
   have hkoF : KeepsOthers wr wF := (others_of hBq).trans ((others_of ((Below.refl _ wq).drew)).trans (KeepsOthers.of_grownBy hC (fun b o hb ho => by
    obtain ⟨cs, fr, h9⟩ := own_cells HTQ.out hb
    have h8 : wq.heap[b]? = some o := ho
    rw [h9] at h8; cases h8; rfl)))
   have cF : wF.cell? ⟨bb, 0, none⟩ = some (.slice oa oL oc) := by simp [World.cell?, hbF]
   have fF : wF.frozen? ⟨bb, 0, none⟩ = false := by simp [World.frozen?, hbF]
   have hbbF : bb < wF.heap.size := by omega
   obtain ⟨ya, yL, yc, hyv⟩ : ∃ ya yL yc, y15 = .slice ya yL yc := by
    obtain ⟨ya, yc, e, _, _⟩ := g15.sl.form
    exact ⟨ya, _, yc, e⟩
   subst hyv
   have G15 := qhd g15
   clear hF hC hGB hGR hGE hqb hqr g15
   simp only [List.drop_succ_cons, List.drop_zero]
   go_wp2
   go_roundw
   case measure => simp [intOf]; omega
   case rel =>
    refine ⟨j + 1, .slice ya yL yc, by omega, by go_num, ?_, ?_, ?_, ?_, ?_, HKO.out.trans (hkoF.trans (KeepsOthers.setCell _ _ _))⟩
    ·exact (heap_setCell_at (i := 0) hbF).trans (by simp)
    ·rw [Below.heap_setCell _ _ _ _ (by show w.heap.size ≠ bb; omega)]; exact hrF
    ·have h := G15.out
     rw [List.append_assoc, HLO.out, ← HSN.out] at h
     refine ⟨h.sl.kept (fun g cs fr _ hg hgc => ?_) (fun cs x hx => hx), h.own⟩
     exact Below.heap_setCell _ _ _ _ (by show g ≠ bb; omega)
    ·exact ((HB.out.trans (hbelF.mono (by omega))).setCell hb0 _)
    ·refine (HK.out.trans ⟨hkF.size, fun g cs e fr hg he hgc => hkF.block g cs e fr hg he.1 hgc⟩).setB ⟨_, _, hbF⟩ (fun h => h.2 rfl) _
  ·obtain rfl : j = vn := by omega
   have hfull : (ownLay p ⟨xk, xn⟩ bs.length).take j = ownLay p ⟨xk, xn⟩ bs.length := List.take_of_length_le (by
    have h8 := HOL.out
    rw [← HFS.out, HFL.out] at h8
    omega)
   clear hov
   have HTK := qhd HT.out
   rw [hfull] at HTK
   clear hT hB hK hKO hbb hrb hfull
   go_wp2
   all_goals
    (try go_returns)
    exact HR.out _ _ ⟨⟨_, rfl⟩, HB.out, HK.out, HKO.out, ov, HBB.out, HTK.out⟩

end Go.Proofs.YtmbfpbgkchncgaaGreat
