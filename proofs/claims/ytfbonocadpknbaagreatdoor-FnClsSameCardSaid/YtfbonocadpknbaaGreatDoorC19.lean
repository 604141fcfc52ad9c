/-
  Texts of mine, packed: Picks, Move, Clone, OwnSet. No condition beside those of the single theorems.
-/
import Derived.Test.YtfbonocadpknbaaGreatDoorC11
import Derived.Test.YtfbonocadpknbaaGreatDoorC14
import Derived.Test.YtfbonocadpknbaaGreatDoorC8
import Derived.Lib.SliceRun
set_option linter.unusedSimpArgs false
set_option linter.unusedVariables false
set_option maxHeartbeats 16000000
set_option maxRecDepth 100000
namespace Go.Proofs.YtfbonocadpknbaaGreatDoor
open Go.RowKit
theorem Ex.of_belowS {r : Nat} {w w' : World} (g : Below w.heap.size w w') : Ex r w.heap.size w w' := ⟨g.os, g.tape, g.output, g.size, fun j _ hl => g.block j hl⟩
theorem Src.ex {k r B : Nat} {w w' : World} {g n c : Nat} {css : List (List Value)} (h : Src k w (.slice (some ⟨g, 0, none⟩) n c) css) (he : Ex r w.heap.size w w') (hg : g ≠ r) (hl : g < w.heap.size) : Src k w' (.slice (some ⟨g, 0, none⟩) n c) css := by
 rcases h with ⟨h1, h2⟩ | ⟨ad, c2, h1, h2⟩
 ·exact Or.inl ⟨h1, h2⟩
 ·refine Or.inr ⟨ad, c2, h1, fun j u hj => ?_⟩
  cases h1
  rw [Addr.add_mid]
  have := h2 j u hj
  rw [Addr.add_mid] at this
  exact (qag (he.block g hg hl)).trans this
theorem Four.kept {w w' : World} {b : Nat} {x0 x1 x2 x3 : Value} (h : Four w b x0 x1 x2 x3) (hs : w.heap.size ≤ w'.heap.size) (hk : w'.heap[b]? = w.heap[b]?) : Four w' b x0 x1 x2 x3 :=
 ⟨Nat.lt_of_lt_of_le h.lt hs, (qag hk).trans h.c0, (qag hk).trans h.c1, (qag hk).trans h.c2, (qag hk).trans h.c3, (qao hk).trans h.f0, (qao hk).trans h.f1, (qao hk).trans h.f2, (qao hk).trans h.f3⟩
theorem Four.set {w : World} {b i : Nat} {v x0 x1 x2 x3 : Value} (h : Four w b x0 x1 x2 x3) (hi : i < 4) : Four (w.setCell ⟨b, i, none⟩ v) b (if i = 0 then v else x0) (if i = 1 then v else x1) (if i = 2 then v else x2) (if i = 3 then v else x3) := by
 have hc : ∀ j, j ≠ i → (w.setCell ⟨b, i, none⟩ v).cell? ⟨b, j, none⟩ = w.cell? ⟨b, j, none⟩ := fun j hj => World.cell?_setCell_other _ _ _ _ (by intro e; simp at e <;> omega)
 have hf : ∀ j, (w.setCell ⟨b, i, none⟩ v).frozen? ⟨b, j, none⟩ = w.frozen? ⟨b, j, none⟩ := fun j => by rw [World.frozen?_setCell]
 have h1 : ∀ u, w.cell? ⟨b, i, none⟩ = some u → (w.setCell ⟨b, i, none⟩ v).cell? ⟨b, i, none⟩ = some v := fun u hu => by rw [World.cell?_setCell_same _ _ _ hu]
 obtain ⟨h0, a0, a1, a2, a3, b0, b1, b2, b3⟩ := h
 refine ⟨by simpa [World.setCell] using h0, ?_, ?_, ?_, ?_, by rw [hf]; exact b0, by rw [hf]; exact b1, by rw [hf]; exact b2, by rw [hf]; exact b3⟩
 ·by_cases e : i = 0
  ·subst e; exact h1 _ a0
  ·rw [if_neg e, hc 0 (Ne.symm e)]; exact a0
 ·by_cases e : i = 1
  ·subst e; exact h1 _ a1
  ·rw [if_neg e, hc 1 (Ne.symm e)]; exact a1
 ·by_cases e : i = 2
  ·subst e; exact h1 _ a2
  ·rw [if_neg e, hc 2 (Ne.symm e)]; exact a2
 ·by_cases e : i = 3
  ·subst e; exact h1 _ a3
  ·rw [if_neg e, hc 3 (Ne.symm e)]; exact a3
theorem Four.there {w : World} {b : Nat} {x0 x1 x2 x3 : Value} (h : Four w b x0 x1 x2 x3) : w.there b 0 4 := fun j hj => by
 rw [Nat.zero_add]
 match j, hj with
 | 0, _ => exact ⟨by rw [h.c0]; rfl, h.f0⟩
 | 1, _ => exact ⟨by rw [h.c1]; rfl, h.f1⟩
 | 2, _ => exact ⟨by rw [h.c2]; rfl, h.f2⟩
 | 3, _ => exact ⟨by rw [h.c3]; rfl, h.f3⟩
theorem Four.ofR {w : World} {b : Nat} {x0 x1 x2 x3 : Value} (h0 : b < w.heap.size) (hr : w.rangeAt b 0 [x0, x1, x2, x3]) (ht : w.there b 0 4) : Four w b x0 x1 x2 x3 := by
 have c : ∀ j u, [x0, x1, x2, x3][j]? = some u → w.cell? ⟨b, j, none⟩ = some u := fun j u hj => by have := hr j u hj; rwa [Nat.zero_add] at this
 have f : ∀ j, j < 4 → w.frozen? ⟨b, j, none⟩ = false := fun j hj => by have := (ht j hj).2; rwa [Nat.zero_add] at this
 exact ⟨h0, c 0 _ rfl, c 1 _ rfl, c 2 _ rfl, c 3 _ rfl, f 0 (by decide), f 1 (by decide), f 2 (by decide), f 3 (by decide)⟩
theorem Four.range {w : World} {b : Nat} {x0 x1 x2 x3 : Value} (h : Four w b x0 x1 x2 x3) : w.rangeAt b 0 [x0, x1, x2, x3] := fun j u hj => by
 rw [Nat.zero_add]
 match j, hj with
 | 0, hj => cases hj; exact h.c0
 | 1, hj => cases hj; exact h.c1
 | 2, hj => cases hj; exact h.c2
 | 3, hj => cases hj; exact h.c3
 | j + 4, hj => simp at hj

structure KAt (C R r q : Nat) (w0 wx : World) (x : DClsClass) (v1 v2 : Value) : Prop where
 four : Four wx C (.string x.fName) (.string x.fSuper) v1 v2
 type : TypeAt wx C 37
 res : Four wx R (.string ⟨#[]⟩) (.string ⟨#[]⟩) (.slice none 0 0) (.slice none 0 0)
 f1 : TSl 3 rClsField 69 w0.heap.size wx v1 x.fFields
 f2 : TSl 8 tClsMethod 65 w0.heap.size wx v2 x.fMethods
 n1 : x.fName.size ≤ maxLen
 n2 : x.fSuper.size ≤ maxLen
 l1 : x.fFields.length ≤ 20
 l2 : x.fMethods.length ≤ 20
 rd : Rd wx r q
 ex : Ex r w0.heap.size w0 wx
 low : R < w0.heap.size ∧ r < w0.heap.size ∧ R ≠ r ∧ w0.heap.size ≤ C
theorem KAt.go {C R r q q2 : Nat} {w0 wx wy : World} {x : DClsClass} {v1 v2 : Value} (h : KAt C R r q w0 wx x v1 v2) (he : Ex r wx.heap.size wx wy) (hr : Rd wy r q2) : KAt C R r q2 w0 wy x v1 v2 := by
 obtain ⟨l1, l2, l3, l4⟩ := h.low
 have hC := h.four.lt
 have hz := h.ex.size
 have hb := he.block C (by omega) hC
 have hb2 := he.block R l3 (by omega)
 exact ⟨h.four.kept he.size hb, h.type.of_kept hb, h.res.kept he.size hb2, TSl.stays (E := fun _ => True) (rClsField_goodT.mono fun _ _ => trivial) trivial h.f1 (KeepsT.of_ex he l2 (Nat.le_refl _)), TSl.stays (E := fun _ => True) (tClsMethod_goodT.mono fun _ _ => trivial) trivial h.f2 (KeepsT.of_ex he l2 (Nat.le_refl _)), h.n1, h.n2, h.l1, h.l2, hr, exC_ex h.ex he, h.low⟩
theorem KAt.set {C R r q i : Nat} {w0 wx : World} {x y : DClsClass} {v1 v2 u1 u2 v : Value} (h : KAt C R r q w0 wx x v1 v2) (hi : i < 4)
  (e0 : (if i = 0 then v else .string x.fName) = .string y.fName) (e1 : (if i = 1 then v else .string x.fSuper) = .string y.fSuper) (e2 : (if i = 2 then v else v1) = u1) (e3 : (if i = 3 then v else v2) = u2)
  (s1 : TSl 3 rClsField 69 w0.heap.size wx u1 y.fFields) (s2 : TSl 8 tClsMethod 65 w0.heap.size wx u2 y.fMethods) (n1 : y.fName.size ≤ maxLen) (n2 : y.fSuper.size ≤ maxLen) (l1 : y.fFields.length ≤ 20) (l2 : y.fMethods.length ≤ 20) :
  KAt C R r q w0 (wx.setCell ⟨C, i, none⟩ v) y u1 u2 := by
 obtain ⟨k1, k2, k3, k4⟩ := h.low
 have hf := h.four.set (v := v) hi
 rw [e0, e1, e2, e3] at hf
 exact ⟨hf, h.type.set _ _, h.res.set_other (by omega), s1.stays (E := fun s => s ≠ 37) (rClsField_goodT.mono fun _ h => h.elim) (by decide) (KeepsT.set h.type (fun e => e rfl)), s2.stays (E := EClsClass) (tClsMethod_goodT.mono EClsMethod_ClsClass) (by unfold EClsClass; simp) (KeepsT.set h.type EClsClass_not), n1, n2, l1, l2,
  h.rd.setCell (by show r < C; omega) v, h.ex.setCell (by show w0.heap.size ≤ C; omega) v, h.low⟩
def rCel : RowRel (List Value) := fun _ _ cs x => cs = x ∧ ∀ u ∈ cs, u.oneCell' = true
theorem rCel_goodT {E : TypeId → Prop} : GoodT E rCel := ⟨fun _ _ _ _ _ _ h => h, fun _ _ _ _ _ _ h => h⟩
theorem rCel_one : ∀ lo w cs x, rCel lo w cs x → ∀ u ∈ cs, u.oneCell' = true := fun _ _ _ _ h => h.2
theorem rClsMethod_one : ∀ lo w cs x, rClsMethod lo w cs x → ∀ u ∈ cs, u.oneCell' = true := by
 rintro lo w cs x ⟨v1, v2, v3, rfl, s1, s2, s3, _, _⟩ u hu
 obtain ⟨_, _, _, rfl⟩ := s1.form
 obtain ⟨_, _, _, rfl⟩ := s2.form
 obtain ⟨_, _, _, rfl⟩ := s3.form
 simp at hu
 rcases hu with rfl | rfl | rfl | rfl | rfl | rfl | rfl | rfl <;> rfl
theorem heap_setCell_own {w : World} {b i : Nat} {cs : Array Value} {t : TypeId} {fr : Nat × Nat} {v : Value} (h : w.heap[b]? = some (.cells cs t fr)) : (w.setCell ⟨b, i, none⟩ v).heap[b]? = some (.cells (cs.setIfInBounds i v) t fr) := by
 show (w.heap.modify b _)[b]? = _
 rw [Array.getElem?_modify, if_pos rfl, h]; rfl
theorem flat_set {k : Nat} {u : Value} : ∀ {css : List (List Value)} {i j : Nat} {cs : List Value}, (∀ c ∈ css, c.length = k) → css[i]? = some cs → j < k → (css.set i (cs.set j u)).flatten = css.flatten.set (i * k + j) u
 | [], i, j, cs, _, e, _ => by simp at e
 | c :: r, 0, j, cs, hk, e, hj => by
   simp at e; subst e
   have := hk c (by simp)
   rw [List.set_cons_zero, List.flatten_cons, List.flatten_cons, Nat.zero_mul, Nat.zero_add, List.set_append_left _ _ (by omega)]
 | c :: r, i + 1, j, cs, hk, e, hj => by
   have h1 := hk c (by simp)
   have h2 := flat_set (u := u) (css := r) (i := i) (j := j) (cs := cs) (fun x hx => hk x (by simp [hx])) (by simpa using e) hj
   rw [List.set_cons_succ, List.flatten_cons, List.flatten_cons, h2, List.set_append_right _ _ (by rw [Nat.add_mul]; omega)]
   congr 2
   rw [Nat.add_mul]; omega
theorem TOwnC.setAt {k : Nat} {e : TypeId} {lo B : Nat} {w : World} {g n cap : Nat} {css : List (List Value)} (h : TOwnC k rCel e lo B w (.slice (some ⟨g, 0, none⟩) n cap) css css) {i j : Nat} {cs : List Value} {u : Value} (hi : css[i]? = some cs) (hj : j < k) (hu : u.oneCell' = true) :
  TOwnC k rCel e lo B (w.setCell ⟨g, i * k + j, none⟩ u) (.slice (some ⟨g, 0, none⟩) n cap) (css.set i (cs.set j u)) (css.set i (cs.set j u)) := by
 obtain ⟨h1, h2, h3⟩ := h
 obtain ⟨hck, hcr⟩ := h1.row i cs cs hi hi
 have hil := (List.getElem?_eq_some_iff.1 hi).1
 refine ⟨⟨rfl, fun a x ds e1 e2 => ?_⟩, ?_, h3⟩
 ·rw [e1] at e2
  cases e2
  by_cases ha : a = i
  ·subst ha
   rw [List.getElem?_set_self hil] at e1
   cases e1
   refine ⟨by rw [List.length_set]; exact hck, rfl, fun v hv => ?_⟩
   rcases List.mem_or_eq_of_mem_set hv with hv | rfl
   ·exact hcr.2 v hv
   ·exact hu
  ·rw [List.getElem?_set_ne (by omega)] at e1
   exact h1.row a _ _ e1 e1
 ·have hfl := flat_set (u := u) h1.each hi hj
  obtain ⟨h0, h4⟩ := h2
  refine ⟨by rw [hfl, List.length_set, List.length_set]; exact h0, Or.inr ?_⟩
  rcases h4 with ⟨h4, _⟩ | ⟨g', cap', cur, h4, h5, h6, h7, h8, h9, h10⟩
  ·cases h4
  ·cases h4
   refine ⟨g, cap, cur.setIfInBounds (i * k + j) u, by rw [List.length_set], h5, heap_setCell_own h6, by rw [List.length_set]; exact h7, h8, by rw [Array.size_setIfInBounds]; exact h9, ?_⟩
   rw [List.length_set, hfl, ← h10, Array.toList_setIfInBounds, List.take_set]
theorem setCells_head (b o : Nat) (v : Value) (r : List Value) (w : World) : w.setCells b o (v :: r) = (w.setCell ⟨b, o, none⟩ v).setCells b (o + 1) r := rfl
theorem TOwnC.setFrom {k : Nat} {e : TypeId} {lo B : Nat} {g n cap i : Nat} : ∀ (vs pre : List Value) (w : World) (css : List (List Value)) (cs : List Value), TOwnC k rCel e lo B w (.slice (some ⟨g, 0, none⟩) n cap) css css → css[i]? = some cs → cs.length = k → pre.length + vs.length = k → cs.take pre.length = pre → (∀ u ∈ vs, u.oneCell' = true) →
  TOwnC k rCel e lo B (w.setCells g (i * k + pre.length) vs) (.slice (some ⟨g, 0, none⟩) n cap) (css.set i (pre ++ vs)) (css.set i (pre ++ vs))
 | [], pre, w, css, cs, h, hi, hc, hl, hp, _ => by
   have h1 : pre = cs := by
    rw [← hp, List.take_of_length_le]
    simp at hl
    omega
   subst h1
   have h2 : css.set i (pre ++ []) = css := by
    rw [List.append_nil]
    apply List.ext_getElem?
    intro m
    by_cases hm : m = i
    ·subst hm
     rw [List.getElem?_set_self (List.getElem?_eq_some_iff.1 hi).1, hi]
    ·rw [List.getElem?_set_ne (by omega)]
   rw [h2]
   exact h
 | v :: vs, pre, w, css, cs, h, hi, hc, hl, hp, ho => by
   simp only [List.length_cons] at hl
   rw [setCells_head]
   have h1 := h.setAt (j := pre.length) (u := v) hi (by omega) (ho v (by simp))
   have hil := (List.getElem?_eq_some_iff.1 hi).1
   have h2 := TOwnC.setFrom (i := i) vs (pre ++ [v]) _ _ (cs.set pre.length v) h1 (List.getElem?_set_self hil) (by rw [List.length_set]; exact hc) (by rw [List.length_append, List.length_singleton]; omega) (by
    rw [List.length_append, List.length_singleton, List.take_add_one, List.take_set_of_le (Nat.le_refl _), hp, List.getElem?_set_self (by omega)]
    rfl) (fun u hu => ho u (by simp [hu]))
   rw [List.length_append, List.length_singleton, List.set_set, List.append_assoc, List.singleton_append] at h2
   rw [show i * k + pre.length + 1 = i * k + (pre.length + 1) by omega]
   exact h2
theorem TOwnC.setRow {k : Nat} {e : TypeId} {lo B : Nat} {w : World} {g n cap i : Nat} {css : List (List Value)} {cs vs : List Value} (h : TOwnC k rCel e lo B w (.slice (some ⟨g, 0, none⟩) n cap) css css) (hi : css[i]? = some cs) (hv : vs.length = k) (ho : ∀ u ∈ vs, u.oneCell' = true) :
  TOwnC k rCel e lo B (w.setCells g (i * k) vs) (.slice (some ⟨g, 0, none⟩) n cap) (css.set i vs) (css.set i vs) := by
 have := TOwnC.setFrom (i := i) vs [] w css cs h hi (h.rows.row i cs cs hi hi).1 (by simpa using hv) rfl ho
 simpa using this
theorem TOwnC.cellAt {k : Nat} {e : TypeId} {lo B : Nat} {w : World} {g n cap : Nat} {css : List (List Value)} (h : TOwnC k rCel e lo B w (.slice (some ⟨g, 0, none⟩) n cap) css css) {i j : Nat} {cs : List Value} {u : Value} (hi : css[i]? = some cs) (hu : cs[j]? = some u) : w.cell? ⟨g, i * k + j, none⟩ = some u ∧ w.frozen? ⟨g, i * k + j, none⟩ = false ∧ g < w.heap.size := by
 have hil := (List.getElem?_eq_some_iff.1 hi).1
 obtain ⟨g', cap', e1, _, hg, _, _, hc, hf⟩ := own_cell h.owns (by omega)
 cases e1
 have hck := (h.rows.row i cs cs hi hi).1
 exact ⟨hc _ u ((flat_at h.rows.each hi (by rw [← hck]; exact (List.getElem?_eq_some_iff.1 hu).1)).trans hu), hf _, hg⟩
theorem KeepsT.setCells {E : TypeId → Prop} {lo : Nat} {c : Nat} {t : TypeId} (hn : ¬ E t) : ∀ (vs : List Value) (o : Nat) (w : World), TypeAt w c t → KeepsT E lo w (w.setCells c o vs)
 | [], _, w, _ => KeepsT.refl _ _ _
 | v :: r, o, w, h => by
   rw [setCells_head]
   exact (KeepsT.set h hn).trans (KeepsT.setCells hn r _ _ (h.set _ _))

end Go.Proofs.YtfbonocadpknbaaGreatDoor
