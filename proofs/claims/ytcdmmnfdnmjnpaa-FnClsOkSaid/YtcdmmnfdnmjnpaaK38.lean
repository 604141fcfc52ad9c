/-
  Texts of mine, packed: Picks, Move, ClsD. No condition beside those of the single theorems.
-/
import Derived.Test.YtcdmmnfdnmjnpaaK10
import Derived.Test.YtcdmmnfdnmjnpaaK12
set_option linter.unusedSimpArgs false
set_option linter.unusedVariables false
namespace Go.Proofs.Ytcdmmnfdnmjnpaa
open Go.RowKit
theorem Rd.uniq {w : World} {r p q : Nat} (h : Rd w r p) (h' : Rd w r q) : p = q := by
  obtain ⟨_, _, _, _, _, h1, _⟩ := h
  obtain ⟨_, _, _, _, _, h2, _⟩ := h'
  rw [h1] at h2
  simp at h2
  omega
def pkR (r lo hi : Nat) (w : World) : Prop := ∃ q, lo ≤ q ∧ q ≤ hi ∧ Rd w r q
def pkG (L : Nat → Nat) (r p j : Nat) (w w' : World) : Prop := Below w.heap.size w w' ∨ ∃ k, L j = k + 1 ∧ Ex r w.heap.size w w' ∧ Rd w r (p + k) ∧ Rd w' r (p + k + 1)
def pkI (L : Nat → Nat) (r p i : Nat) (w : World) : Prop := ∀ k, L i = k + 1 → pkR r p (p + k) w
theorem pkR_below {r lo hi : Nat} {w w' : World} (h : pkR r lo hi w) (hb : Below w.heap.size w w') : pkR r lo hi w' := by
  obtain ⟨q, h1, h2, h3⟩ := h
  exact ⟨q, h1, h2, rd_below hb h3 h3.lt⟩
theorem pkI_stays {L : Nat → Nat} {r p : Nat} (hL : ∀ i j k, L i = k + 1 → L j = k + 1 → i = j) : ∀ i j w w', i ≠ j → pkG L r p j w w' → pkI L r p i w → pkI L r p i w' := by
  intro i j w w' hne hg h k hk
  rcases hg with g | ⟨m, hm, _, h1, h2⟩
  · exact pkR_below (h k hk) g
  · obtain ⟨q, h3, h4, h5⟩ := h k hk
    have := Rd.uniq h1 h5
    have hmk : m ≠ k := fun e => hne (hL i j k hk (by rw [hm, e]))
    exact ⟨p + m + 1, by omega, by omega, h2⟩
theorem pkR_stays {L : Nat → Nat} {r p lo hi : Nat} (hn : ∀ j k, L j = k + 1 → p + k + 1 ≤ hi) {j : Nat} {w w' : World} (hg : pkG L r p j w w') (h : pkR r lo hi w) : pkR r lo hi w' := by
  rcases hg with g | ⟨m, hm, _, h1, h2⟩
  · exact pkR_below h g
  · obtain ⟨q, h3, h4, h5⟩ := h
    have := Rd.uniq h1 h5
    exact ⟨p + m + 1, by omega, hn j m hm, h2⟩
theorem pk_now {r p k hi : Nat} {w : World} (h : pkR r p (p + k) w) (h2 : pkR r (p + k) hi w) : Rd w r (p + k) := by
  obtain ⟨q, _, h3, h4⟩ := h
  obtain ⟨q', h5, _, h6⟩ := h2
  have := Rd.uniq h4 h6
  have e : q = p + k := by omega
  rwa [← e]
theorem pk_first {r p : Nat} {w : World} (h : pkR r p (p + 0) w) : Rd w r p := by
  obtain ⟨q, h2, h3, h4⟩ := h
  have e : q = p := by omega
  rwa [← e]
theorem pk_block {L : Nat → Nat} {r p B c j : Nat} {w w' : World} (hr : r < B) (hg : pkG L r p j w w') (hc : B ≤ c) {o : Obj} (h : w.heap[c]? = some o) : w'.heap[c]? = some o := by
  have hl := (Array.getElem?_eq_some_iff.1 h).1
  rcases hg with g | ⟨_, _, g, _, _⟩
  · exact (g.block c hl).trans h
  · exact (g.block c (by omega) hl).trans h
theorem pkG_of {L : Nat → Nat} {r p j : Nat} {w w' : World} (h : Below w.heap.size w w') : pkG L r p j w w' := Or.inl h
theorem lits_at {w : World} {c : Nat} {cs : List Value} {t : TypeId} {fr : Nat × Nat} (h : w.heap[c]? = some (.cells cs.toArray t fr)) {P : Value → Prop} (hall : ∀ v ∈ cs, P v) {x : Nat} (hx : x < cs.length) : ∃ v, P v ∧ w.cell? ⟨c, x, none⟩ = some v :=
  ⟨cs[x], hall _ (List.getElem_mem hx), cell_at h (by simp)⟩
def IntIn (a b : Int) (v : Value) : Prop := ∃ i : Int, a ≤ i ∧ i ≤ b ∧ v = .int .i64 i
def StrIn (n : Nat) (v : Value) : Prop := ∃ s : ByteArray, s.size ≤ n ∧ v = .string s

def mvG (L : Nat → Nat × Nat) (r p j : Nat) (w w' : World) : Prop := Below w.heap.size w w' ∨ ((L j).1 < (L j).2 ∧ Ex r w.heap.size w w' ∧ Rd w r (p + (L j).1) ∧ Rd w' r (p + (L j).2))
def mvI (L : Nat → Nat × Nat) (r p i : Nat) (w : World) : Prop := (L i).1 < (L i).2 → pkR r p (p + (L i).1) w
theorem mvI_stays {L : Nat → Nat × Nat} {r p : Nat} (hL : ∀ i j, i ≠ j → (L i).1 < (L i).2 → (L j).1 < (L j).2 → (L i).2 ≤ (L j).1 ∨ (L j).2 ≤ (L i).1) : ∀ i j w w', i ≠ j → mvG L r p j w w' → mvI L r p i w → mvI L r p i w' := by
  intro i j w w' hne hg h hi
  rcases hg with g | ⟨hj, _, h1, h2⟩
  · exact pkR_below (h hi) g
  · obtain ⟨q, h3, h4, h5⟩ := h hi
    have := Rd.uniq h1 h5
    rcases hL i j hne hi hj with h6 | h6
    · omega
    · exact ⟨_, by omega, by omega, h2⟩
theorem mvR_stays {L : Nat → Nat × Nat} {r p lo hi : Nat} (hn : ∀ j, (L j).1 < (L j).2 → p + (L j).2 ≤ hi) {j : Nat} {w w' : World} (hg : mvG L r p j w w') (h : pkR r lo hi w) : pkR r lo hi w' := by
  rcases hg with g | ⟨hj, _, h1, h2⟩
  · exact pkR_below h g
  · obtain ⟨q, h3, h4, h5⟩ := h
    have := Rd.uniq h1 h5
    exact ⟨_, by omega, hn j hj, h2⟩
theorem mvG_of {L : Nat → Nat × Nat} {r p j : Nat} {w w' : World} (h : Below w.heap.size w w') : mvG L r p j w w' := Or.inl h
theorem mvG_ex {L : Nat → Nat × Nat} {r p j : Nat} {w w' : World} (hg : mvG L r p j w w') : Ex r w.heap.size w w' := by
  rcases hg with g | ⟨_, g, _, _⟩
  · exact ⟨g.os, g.tape, g.output, g.size, fun j _ hl => g.block j hl⟩
  · exact g
theorem ex_block {r B c : Nat} {w w' : World} (hr : r < B) (g : Ex r w.heap.size w w') (hc : B ≤ c) {o : Obj} (h : w.heap[c]? = some o) : w'.heap[c]? = some o :=
  (g.block c (by omega) (Array.getElem?_eq_some_iff.1 h).1).trans h
theorem Ex.of_belowS {r : Nat} {w w' : World} (g : Below w.heap.size w w') : Ex r w.heap.size w w' := ⟨g.os, g.tape, g.output, g.size, fun j _ hl => g.block j hl⟩
theorem Src.ex {k r B : Nat} {w w' : World} {g n c : Nat} {css : List (List Value)} (h : Src k w (.slice (some ⟨g, 0, none⟩) n c) css) (he : Ex r w.heap.size w w') (hg : g ≠ r) (hl : g < w.heap.size) : Src k w' (.slice (some ⟨g, 0, none⟩) n c) css := by
  rcases h with ⟨h1, h2⟩ | ⟨ad, c2, h1, h2⟩
  · exact Or.inl ⟨h1, h2⟩
  · refine Or.inr ⟨ad, c2, h1, fun j u hj => ?_⟩
    cases h1
    rw [Addr.add_mid]
    have := h2 j u hj
    rw [Addr.add_mid] at this
    exact (cell_of_heap (he.block g hg hl)).trans this
theorem drawG_ex {d r i : Nat} {w w' : World} (hg : drawG d r i w w') : Ex r w.heap.size w w' := by
  rcases hg with ⟨_, g⟩ | g
  · exact g
  · exact Ex.of_belowS g

theorem Four.kept {w w' : World} {b : Nat} {x0 x1 x2 x3 : Value} (h : Four w b x0 x1 x2 x3) (hs : w.heap.size ≤ w'.heap.size) (hk : w'.heap[b]? = w.heap[b]?) : Four w' b x0 x1 x2 x3 :=
  ⟨Nat.lt_of_lt_of_le h.lt hs, (cell_of_heap hk).trans h.c0, (cell_of_heap hk).trans h.c1, (cell_of_heap hk).trans h.c2, (cell_of_heap hk).trans h.c3, (frozen_of_heap hk).trans h.f0, (frozen_of_heap hk).trans h.f1, (frozen_of_heap hk).trans h.f2, (frozen_of_heap hk).trans h.f3⟩
theorem Four.set {w : World} {b i : Nat} {v x0 x1 x2 x3 : Value} (h : Four w b x0 x1 x2 x3) (hi : i < 4) : Four (w.setCell ⟨b, i, none⟩ v) b (if i = 0 then v else x0) (if i = 1 then v else x1) (if i = 2 then v else x2) (if i = 3 then v else x3) := by
  have hc : ∀ j, j ≠ i → (w.setCell ⟨b, i, none⟩ v).cell? ⟨b, j, none⟩ = w.cell? ⟨b, j, none⟩ := fun j hj => World.cell?_setCell_other _ _ _ _ (by intro e; simp at e <;> omega)
  have hf : ∀ j, (w.setCell ⟨b, i, none⟩ v).frozen? ⟨b, j, none⟩ = w.frozen? ⟨b, j, none⟩ := fun j => by rw [World.frozen?_setCell]
  have h1 : ∀ u, w.cell? ⟨b, i, none⟩ = some u → (w.setCell ⟨b, i, none⟩ v).cell? ⟨b, i, none⟩ = some v := fun u hu => by rw [World.cell?_setCell_same _ _ _ hu]
  obtain ⟨h0, a0, a1, a2, a3, b0, b1, b2, b3⟩ := h
  refine ⟨by simpa [World.setCell] using h0, ?_, ?_, ?_, ?_, by rw [hf]; exact b0, by rw [hf]; exact b1, by rw [hf]; exact b2, by rw [hf]; exact b3⟩
  · by_cases e : i = 0
    · subst e; exact h1 _ a0
    · rw [if_neg e, hc 0 (Ne.symm e)]; exact a0
  · by_cases e : i = 1
    · subst e; exact h1 _ a1
    · rw [if_neg e, hc 1 (Ne.symm e)]; exact a1
  · by_cases e : i = 2
    · subst e; exact h1 _ a2
    · rw [if_neg e, hc 2 (Ne.symm e)]; exact a2
  · by_cases e : i = 3
    · subst e; exact h1 _ a3
    · rw [if_neg e, hc 3 (Ne.symm e)]; exact a3
theorem Four.there {w : World} {b : Nat} {x0 x1 x2 x3 : Value} (h : Four w b x0 x1 x2 x3) : w.there b 0 4 := fun j hj => by
  rw [Nat.zero_add]
  match j, hj with
  | 0, _ => exact ⟨by rw [h.c0]; rfl, h.f0⟩
  | 1, _ => exact ⟨by rw [h.c1]; rfl, h.f1⟩
  | 2, _ => exact ⟨by rw [h.c2]; rfl, h.f2⟩
  | 3, _ => exact ⟨by rw [h.c3]; rfl, h.f3⟩
theorem Four.ofR {w : World} {b : Nat} {x0 x1 x2 x3 : Value} (h0 : b < w.heap.size) (hr : w.rangeAt b 0 [x0, x1, x2, x3]) (ht : w.there b 0 4) : Four w b x0 x1 x2 x3 := by
  have c : ∀ j u, [x0, x1, x2, x3][j]? = some u → w.cell? ⟨b, j, none⟩ = some u := fun j u hj => by have := hr j u hj; rwa [Nat.zero_add] at this
  have f : ∀ j, j < 4 → w.frozen? ⟨b, j, none⟩ = false := fun j hj => by have := (ht j hj).2; rwa [Nat.zero_add] at this
  exact ⟨h0, c 0 _ rfl, c 1 _ rfl, c 2 _ rfl, c 3 _ rfl, f 0 (by decide), f 1 (by decide), f 2 (by decide), f 3 (by decide)⟩
theorem Four.range {w : World} {b : Nat} {x0 x1 x2 x3 : Value} (h : Four w b x0 x1 x2 x3) : w.rangeAt b 0 [x0, x1, x2, x3] := fun j u hj => by
  rw [Nat.zero_add]
  match j, hj with
  | 0, hj => cases hj; exact h.c0
  | 1, hj => cases hj; exact h.c1
  | 2, hj => cases hj; exact h.c2
  | 3, hj => cases hj; exact h.c3
  | j + 4, hj => simp at hj

structure KAt (C R r q : Nat) (w0 wx : World) (x : DClsClass) (v1 v2 : Value) : Prop where
  four : Four wx C (.string x.fName) (.string x.fSuper) v1 v2
  type : TypeAt wx C 37
  res : Four wx R (.string ⟨#[]⟩) (.string ⟨#[]⟩) (.slice none 0 0) (.slice none 0 0)
  f1 : TSl 3 rClsField 45 w0.heap.size wx v1 x.fFields
  f2 : TSl 8 tClsMethod 29 w0.heap.size wx v2 x.fMethods
  n1 : x.fName.size ≤ maxLen
  n2 : x.fSuper.size ≤ maxLen
  l1 : x.fFields.length ≤ 20
  l2 : x.fMethods.length ≤ 20
  rd : Rd wx r q
  ex : Ex r w0.heap.size w0 wx
  low : R < w0.heap.size ∧ r < w0.heap.size ∧ R ≠ r ∧ w0.heap.size ≤ C
theorem KAt.go {C R r q q2 : Nat} {w0 wx wy : World} {x : DClsClass} {v1 v2 : Value} (h : KAt C R r q w0 wx x v1 v2) (he : Ex r wx.heap.size wx wy) (hr : Rd wy r q2) : KAt C R r q2 w0 wy x v1 v2 := by
  obtain ⟨l1, l2, l3, l4⟩ := h.low
  have hC := h.four.lt
  have hz := h.ex.size
  have hb := he.block C (by omega) hC
  have hb2 := he.block R l3 (by omega)
  exact ⟨h.four.kept he.size hb, h.type.of_kept hb, h.res.kept he.size hb2, TSl.stays (E := fun _ => True) (rClsField_goodT.mono fun _ _ => trivial) trivial h.f1 (KeepsT.of_ex he l2 (Nat.le_refl _)), TSl.stays (E := fun _ => True) (tClsMethod_goodT.mono fun _ _ => trivial) trivial h.f2 (KeepsT.of_ex he l2 (Nat.le_refl _)), h.n1, h.n2, h.l1, h.l2, hr, exC_ex h.ex he, h.low⟩
theorem keepsT_cls {E : TypeId → Prop} {lo : Nat} {w : World} {C o : Nat} {v : Value} (h : TypeAt w C 37) (hn : ¬ E 37) : KeepsT E lo w (w.setCell ⟨C, o, none⟩ v) := KeepsT.set h hn
theorem KAt.set {C R r q i : Nat} {w0 wx : World} {x y : DClsClass} {v1 v2 u1 u2 v : Value} (h : KAt C R r q w0 wx x v1 v2) (hi : i < 4)
    (e0 : (if i = 0 then v else .string x.fName) = .string y.fName) (e1 : (if i = 1 then v else .string x.fSuper) = .string y.fSuper) (e2 : (if i = 2 then v else v1) = u1) (e3 : (if i = 3 then v else v2) = u2)
    (s1 : TSl 3 rClsField 45 w0.heap.size wx u1 y.fFields) (s2 : TSl 8 tClsMethod 29 w0.heap.size wx u2 y.fMethods) (n1 : y.fName.size ≤ maxLen) (n2 : y.fSuper.size ≤ maxLen) (l1 : y.fFields.length ≤ 20) (l2 : y.fMethods.length ≤ 20) :
    KAt C R r q w0 (wx.setCell ⟨C, i, none⟩ v) y u1 u2 := by
  obtain ⟨k1, k2, k3, k4⟩ := h.low
  have hf := h.four.set (v := v) hi
  rw [e0, e1, e2, e3] at hf
  exact ⟨hf, h.type.set _ _, h.res.set_other (by omega), s1.stays (E := fun s => s ≠ 37) (rClsField_goodT.mono fun _ h => h.elim) (by decide) (KeepsT.set h.type (fun e => e rfl)), s2.stays (E := EClsClass) (tClsMethod_goodT.mono EClsMethod_ClsClass) (by unfold EClsClass; simp) (KeepsT.set h.type EClsClass_not), n1, n2, l1, l2,
    h.rd.setCell (by show r < C; omega) v, h.ex.setCell (by show w0.heap.size ≤ C; omega) v, h.low⟩
theorem KAt.name {C R r q : Nat} {w0 wx : World} {x : DClsClass} {v1 v2 : Value} {s : ByteArray} (h : KAt C R r q w0 wx x v1 v2) (hs : s.size ≤ maxLen) : KAt C R r q w0 (wx.setCell ⟨C, 0, none⟩ (.string s)) { x with fName := s } v1 v2 := h.set (by decide) rfl rfl rfl rfl h.f1 h.f2 hs h.n2 h.l1 h.l2
theorem KAt.super {C R r q : Nat} {w0 wx : World} {x : DClsClass} {v1 v2 : Value} {s : ByteArray} (h : KAt C R r q w0 wx x v1 v2) (hs : s.size ≤ maxLen) : KAt C R r q w0 (wx.setCell ⟨C, 1, none⟩ (.string s)) { x with fSuper := s } v1 v2 := h.set (by decide) rfl rfl rfl rfl h.f1 h.f2 h.n1 hs h.l1 h.l2
theorem KAt.fields {C R r q : Nat} {w0 wx wy : World} {x : DClsClass} {v1 v2 u : Value} {ys : List DClsField} (h : KAt C R r q w0 wx x v1 v2) (hk : KeepsT (fun s => s ≠ 45) w0.heap.size wx wy) (hb : Below w0.heap.size wx wy) (hs : TSl 3 rClsField 45 w0.heap.size wy u ys) (hl : ys.length ≤ 20) :
    KAt C R r q w0 (wy.setCell ⟨C, 2, none⟩ u) { x with fFields := ys } u v2 ∧ Four wy C (.string x.fName) (.string x.fSuper) v1 v2 := by
  obtain ⟨k1, k2, k3, k4⟩ := h.low
  have hC := h.type.kept hk k4 (by decide)
  have h4 := h.four.kept hb.size hC
  have hR := hb.block R k1
  have hres := h.res.kept hb.size hR
  refine ⟨?_, h4⟩
  have hT := h.type.of_kept hC
  have hf := h4.set (v := u) (show 2 < 4 by decide)
  exact ⟨hf, hT.set _ _, hres.set_other (by omega), hs.stays (E := fun s => s ≠ 37) (rClsField_goodT.mono fun _ h => h.elim) (by decide) (KeepsT.set hT (fun e => e rfl)),
    (h.f2.stays (E := fun s => s ≠ 45) (tClsMethod_goodT.mono fun t ht e => by subst e; revert ht; unfold EClsMethod; decide) (by decide) hk).stays (E := EClsClass) (tClsMethod_goodT.mono EClsMethod_ClsClass) (by unfold EClsClass; simp) (KeepsT.set hT EClsClass_not), h.n1, h.n2, hl, h.l2,
    (rd_below hb h.rd k2).setCell (by show r < C; omega) u, (exC_low h.ex hb).setCell (by show w0.heap.size ≤ C; omega) u, h.low⟩
theorem KAt.methods {C R r q : Nat} {w0 wx wy : World} {x : DClsClass} {v1 v2 u : Value} {ys : List DClsMethod} (h : KAt C R r q w0 wx x v1 v2) (hk : KeepsT (fun s => s ≠ 29) w0.heap.size wx wy) (hb : Below w0.heap.size wx wy) (hs : TSl 8 tClsMethod 29 w0.heap.size wy u ys) (hl : ys.length ≤ 20) :
    KAt C R r q w0 (wy.setCell ⟨C, 3, none⟩ u) { x with fMethods := ys } v1 u ∧ Four wy C (.string x.fName) (.string x.fSuper) v1 v2 := by
  obtain ⟨k1, k2, k3, k4⟩ := h.low
  have hC := h.type.kept hk k4 (by decide)
  have h4 := h.four.kept hb.size hC
  have hres := h.res.kept hb.size (hb.block R k1)
  refine ⟨?_, h4⟩
  have hT := h.type.of_kept hC
  have hf := h4.set (v := u) (show 3 < 4 by decide)
  exact ⟨hf, hT.set _ _, hres.set_other (by omega), (h.f1.stays (E := fun s => s ≠ 29) (rClsField_goodT.mono fun _ h => h.elim) (by decide) hk).stays (E := fun s => s ≠ 37) (rClsField_goodT.mono fun _ h => h.elim) (by decide) (KeepsT.set hT (fun e => e rfl)),
    hs.stays (E := EClsClass) (tClsMethod_goodT.mono EClsMethod_ClsClass) (by unfold EClsClass; simp) (KeepsT.set hT EClsClass_not), h.n1, h.n2, h.l1, hl,
    (rd_below hb h.rd k2).setCell (by show r < C; omega) u, (exC_low h.ex hb).setCell (by show w0.heap.size ≤ C; omega) u, h.low⟩
def KAtQ (N C R r q : Nat) (w0 wx : World) : Prop := ∃ (x : DClsClass) (v1 v2 : Value) (q' : Nat), q' ≤ q ∧ x.fFields.length ≤ N ∧ x.fMethods.length ≤ N ∧ KAt C R r q' w0 wx x v1 v2
theorem TSl.srcEx {α : Type} {k : Nat} {E : TypeId → Prop} {R : RowRel α} (hR : GoodT E R) {e : TypeId} {lo r : Nat} {w : World} {v : Value} {xs : List α} (h : TSl k R e lo w v xs) (hr : r < lo) : ∃ css, ∀ wx, Ex r w.heap.size w wx → Src k wx v css ∧ Rows k R lo wx css xs := by
  obtain ⟨css, h1, h2⟩ := h
  refine ⟨css, fun wx he => ?_⟩
  have h3 : wx.ownsRow lo e k v xs.length css.flatten := own_kept h2 fun g cs fr _ hl hg => he.block g (by omega) (Array.getElem?_eq_some_iff.1 hg).1
  have h4 : Rows k R lo wx css xs := h1.mono fun cs x hx => hR.stays _ _ _ _ _ (KeepsT.of_ex he hr (Nat.le_refl _)) hx
  exact ⟨Src.of_own h4 h3, h4⟩
def lenAtO (w : World) (c o : Nat) : Nat := match w.cell? ⟨c, o, none⟩ with | some (.slice _ n _) => n | _ => 0
theorem lenAtO_of {w : World} {c o n k : Nat} {a : Option Addr} (h : w.cell? ⟨c, o, none⟩ = some (.slice a n k)) : lenAtO w c o = n := by unfold lenAtO; rw [h]

def fdL (j : Nat) : Nat × Nat := if j = 6 then (0, 1) else if j = 10 then (1, 3) else (0, 0)
theorem fdL_at {j : Nat} (h : (fdL j).1 < (fdL j).2) : (j = 6 ∧ fdL j = (0, 1)) ∨ (j = 10 ∧ fdL j = (1, 3)) := by
  unfold fdL at h ⊢
  by_cases h1 : j = 6
  · subst h1; exact Or.inl ⟨rfl, rfl⟩
  · rw [if_neg h1] at h ⊢
    by_cases h2 : j = 10
    · subst h2; exact Or.inr ⟨rfl, rfl⟩
    · rw [if_neg h2] at h; exact absurd h (by decide)
theorem fdL_one : ∀ i j, i ≠ j → (fdL i).1 < (fdL i).2 → (fdL j).1 < (fdL j).2 → (fdL i).2 ≤ (fdL j).1 ∨ (fdL j).2 ≤ (fdL i).1 := by
  intro i j hne h1 h2
  rcases fdL_at h1 with ⟨a1, a2⟩ | ⟨a1, a2⟩ <;> rcases fdL_at h2 with ⟨b1, b2⟩ | ⟨b1, b2⟩ <;> rw [a2, b2]
  · omega
  · exact Or.inl (Nat.le_refl _)
  · exact Or.inr (Nat.le_refl _)
  · omega
theorem fdL_most {q : Nat} : ∀ j, (fdL j).1 < (fdL j).2 → q + (fdL j).2 ≤ q + 3 := by
  intro j h
  rcases fdL_at h with ⟨a1, a2⟩ | ⟨a1, a2⟩ <;> rw [a2] <;> simp
def fdF (B lo r q C : Nat) (src : Value) (xs : List DClsField) : Nat → Value → World → Prop
  | 0, v, w => Empty0 45 B w v
  | 1, v, w => v = .pointer (some ⟨C, 2, none⟩)
  | 2, v, w => v = src
  | 3, v, w => TOwn 3 rClsField 45 lo B w v xs
  | 4, v, w => ∃ c : Nat, v = .slice (some ⟨c, 0, none⟩) 3 3 ∧ B ≤ c ∧ w.heap[c]? = some (.cells #[.string ⟨#[118]⟩, .string ⟨#[]⟩, .string ⟨#[122]⟩] 9 (0, 0))
  | 5, v, w => v = .pointer (some ⟨r, 0, none⟩)
  | 6, v, w => (∃ x : Nat, x < 3 ∧ v = .int .i64 (x : Int)) ∧ pkR r (q + 1) (q + 3) w
  | 7, v, w => ∃ (c x : Nat), x < 3 ∧ v = .pointer (some ⟨c, x, none⟩) ∧ B ≤ c ∧ w.heap[c]? = some (.cells #[.string ⟨#[118]⟩, .string ⟨#[]⟩, .string ⟨#[122]⟩] 9 (0, 0))
  | 8, v, w => ∃ s : ByteArray, s.size ≤ 10 ∧ v = .string s
  | 9, v, w => v = .pointer (some ⟨r, 0, none⟩)
  | 10, v, w => (∃ (k : Int) (n : ByteArray), n.size ≤ 4 ∧ v = .agg #[.int .i64 k, .string n]) ∧ pkR r (q + 3) (q + 3) w
  | 11, v, w => ∃ (s : ByteArray) (k : Int) (n : ByteArray), s.size ≤ 10 ∧ n.size ≤ 4 ∧ v = .agg #[.string s, .int .i64 k, .string n]
  | 12, v, w => ∃ (s : ByteArray) (k : Int) (n : ByteArray) (g : Nat), s.size ≤ 10 ∧ n.size ≤ 4 ∧ v = .slice (some ⟨g, 0, none⟩) 1 1 ∧ B ≤ g ∧ w.heap[g]? = some (.cells #[.string s, .int .i64 k, .string n] 45 (0, 0))
  | _, _, _ => True
theorem fdF_stays {B lo r q C : Nat} {src : Value} {xs : List DClsField} {L : Nat → Nat × Nat} (hr : r < B) (hlo : r < lo) (hn : ∀ j, (L j).1 < (L j).2 → q + (L j).2 ≤ q + 3) : ∀ i j u w w', i ≠ j → mvG L r q j w w' → fdF B lo r q C src xs i u w → fdF B lo r q C src xs i u w' := by
  intro i j u w w' hne hg h
  match i with
  | 1 | 2 | 5 | 8 | 9 | 11 => exact h
  | 0 =>
    obtain ⟨g, h1, h2, h3⟩ := h
    exact ⟨g, h1, h2, ex_block hr (mvG_ex hg) h2 h3⟩
  | 3 =>
    exact h.exG rClsField_goodT (mvG_ex hg) hlo (Nat.le_refl _)
  | 4 =>
    obtain ⟨c, h1, hc, hh⟩ := h
    exact ⟨c, h1, hc, ex_block hr (mvG_ex hg) hc hh⟩
  | 6 =>
    exact ⟨h.1, mvR_stays hn hg h.2⟩
  | 7 =>
    obtain ⟨c, x, hx, h1, hc, hh⟩ := h
    exact ⟨c, x, hx, h1, hc, ex_block hr (mvG_ex hg) hc hh⟩
  | 10 =>
    exact ⟨h.1, mvR_stays hn hg h.2⟩
  | 12 =>
    obtain ⟨s, k, n, g, h1, h2, h3, hc, hh⟩ := h
    exact ⟨s, k, n, g, h1, h2, h3, hc, ex_block hr (mvG_ex hg) hc hh⟩
  | n + 13 => trivial
def mdF (B lo r q C : Nat) (src : Value) (xs : List DClsMethod) : Nat → Value → World → Prop
  | 0, v, w => Empty0 29 B w v
  | 1, v, w => v = .pointer (some ⟨C, 3, none⟩)
  | 2, v, w => v = src
  | 3, v, w => TOwn 8 tClsMethod 29 lo B w v xs
  | 4, v, w => v = .pointer (some ⟨r, 0, none⟩)
  | 5, v, w => ∃ (m : DClsMethod) (u1 u2 u3 : Value) (q' : Nat), v = .agg #[.string m.fName, u1, .int .i64 m.fRet.fKind, .string m.fRet.fName, .int .i64 m.fLocals, .int .i64 m.fStack, u2, u3] ∧ tClsMethod lo w [.string m.fName, u1, .int .i64 m.fRet.fKind, .string m.fRet.fName, .int .i64 m.fLocals, .int .i64 m.fStack, u2, u3] m ∧ q' ≤ q + 100 ∧ Rd w r q'
  | 6, v, w => ∃ (m : DClsMethod) (u1 u2 u3 : Value) (g : Nat), v = .slice (some ⟨g, 0, none⟩) 1 1 ∧ B ≤ g ∧ w.heap[g]? = some (.cells #[.string m.fName, u1, .int .i64 m.fRet.fKind, .string m.fRet.fName, .int .i64 m.fLocals, .int .i64 m.fStack, u2, u3] 29 (0, 0)) ∧ tClsMethod lo w [.string m.fName, u1, .int .i64 m.fRet.fKind, .string m.fRet.fName, .int .i64 m.fLocals, .int .i64 m.fStack, u2, u3] m
  | _, _, _ => True
theorem mdF_stays {B lo r q C : Nat} {src : Value} {xs : List DClsMethod} (hr : r < B) (hlo : r < lo) : ∀ i j u w w', i ≠ j → drawG 5 r j w w' → mdF B lo r q C src xs i u w → mdF B lo r q C src xs i u w' := by
  intro i j u w w' hne hg h
  match i with
  | 1 | 2 | 4 => exact h
  | 0 =>
    obtain ⟨g, h1, h2, h3⟩ := h
    exact ⟨g, h1, h2, ex_block hr (drawG_ex hg) h2 h3⟩
  | 3 =>
    exact h.exG tClsMethod_goodT (drawG_ex hg) hlo (Nat.le_refl _)
  | 5 =>
    obtain ⟨m, u1, u2, u3, q', h1, h2, h3, h4⟩ := h
    rcases hg with ⟨e, _⟩ | g
    · exact absurd e.symm hne
    · exact ⟨m, u1, u2, u3, q', h1, tClsMethod_goodT.stays _ _ _ _ _ (KeepsT.of_below g) h2, h3, rd_below g h4 h4.lt⟩
  | 6 =>
    obtain ⟨m, u1, u2, u3, g, h1, h2, h3, h4⟩ := h
    have he := drawG_ex hg
    exact ⟨m, u1, u2, u3, g, h1, h2, ex_block hr he h2 h3, tClsMethod_goodT.stays _ _ _ _ _ (KeepsT.of_ex he hlo (Nat.le_refl _)) h4⟩
  | n + 7 => trivial
def f3F (B C z : Nat) (src : Value) : Nat → Value → World → Prop
  | 0, v, w => v = .pointer (some ⟨C, 2, none⟩)
  | 1, v, w => v = src
  | 2, v, w => v = .pointer (some ⟨C, 2, none⟩)
  | 3, v, w => v = src
  | 4, v, w => v = .int .i64 (z : Int)
  | 5, v, w => v = .pointer (some ⟨C, 2, none⟩)
  | 6, v, w => v = src
  | 7, v, w => v = .int .i64 (z : Int)
  | 8, v, w => v = .int .i64 ((z : Int) + 1)
  | 9, v, w => ∃ c : UInt8, v = .string ⟨#[c]⟩
  | 10, v, w => ∃ c : UInt8, v = .string ⟨#[102, c]⟩
  | 11, v, w => v = .agg #[.int .i64 1, .string ⟨#[]⟩]
  | 12, v, w => ∃ c : UInt8, v = .agg #[.string ⟨#[102, c]⟩, .int .i64 1, .string ⟨#[]⟩]
  | 13, v, w => ∃ (c : UInt8) (g : Nat), v = .slice (some ⟨g, 0, none⟩) 1 1 ∧ B ≤ g ∧ w.heap[g]? = some (.cells #[.string ⟨#[102, c]⟩, .int .i64 1, .string ⟨#[]⟩] 45 (0, 0))
  | _, _, _ => True
theorem f3F_stays {B C z : Nat} {src : Value} : ∀ i j u w w', i ≠ j → Below w.heap.size w w' → f3F B C z src i u w → f3F B C z src i u w' := by
  intro i j u w w' hne hg h
  match i with
  | 0 | 1 | 2 | 3 | 4 | 5 | 6 | 7 | 8 | 9 | 10 | 11 | 12 => exact h
  | 13 =>
    obtain ⟨c, g, h1, h2, h3⟩ := h
    exact ⟨c, g, h1, h2, (hg.block g (Array.getElem?_eq_some_iff.1 h3).1).trans h3⟩
  | n + 14 => trivial
def m3F (B lo r q C : Nat) (src : Value) : Nat → Value → World → Prop
  | 0, v, w => v = .pointer (some ⟨C, 3, none⟩)
  | 1, v, w => v = src
  | 2, v, w => v = .pointer (some ⟨r, 0, none⟩)
  | 3, v, w => ∃ (m : DClsMethod) (u1 u2 u3 : Value) (q' : Nat), v = .agg #[.string m.fName, u1, .int .i64 m.fRet.fKind, .string m.fRet.fName, .int .i64 m.fLocals, .int .i64 m.fStack, u2, u3] ∧ tClsMethod lo w [.string m.fName, u1, .int .i64 m.fRet.fKind, .string m.fRet.fName, .int .i64 m.fLocals, .int .i64 m.fStack, u2, u3] m ∧ q' ≤ q + 100 ∧ Rd w r q'
  | 4, v, w => ∃ (m : DClsMethod) (u1 u2 u3 : Value) (g : Nat), v = .slice (some ⟨g, 0, none⟩) 1 1 ∧ B ≤ g ∧ w.heap[g]? = some (.cells #[.string m.fName, u1, .int .i64 m.fRet.fKind, .string m.fRet.fName, .int .i64 m.fLocals, .int .i64 m.fStack, u2, u3] 29 (0, 0)) ∧ tClsMethod lo w [.string m.fName, u1, .int .i64 m.fRet.fKind, .string m.fRet.fName, .int .i64 m.fLocals, .int .i64 m.fStack, u2, u3] m
  | _, _, _ => True
theorem m3F_stays {B lo r q C : Nat} {src : Value} (hr : r < B) (hlo : r < lo) : ∀ i j u w w', i ≠ j → drawG 3 r j w w' → m3F B lo r q C src i u w → m3F B lo r q C src i u w' := by
  intro i j u w w' hne hg h
  match i with
  | 0 | 1 | 2 => exact h
  | 3 =>
    obtain ⟨m, u1, u2, u3, q', h1, h2, h3, h4⟩ := h
    rcases hg with ⟨e, _⟩ | g
    · exact absurd e.symm hne
    · exact ⟨m, u1, u2, u3, q', h1, tClsMethod_goodT.stays _ _ _ _ _ (KeepsT.of_below g) h2, h3, rd_below g h4 h4.lt⟩
  | 4 =>
    obtain ⟨m, u1, u2, u3, g, h1, h2, h3, h4⟩ := h
    have he := drawG_ex hg
    exact ⟨m, u1, u2, u3, g, h1, h2, ex_block hr he h2 h3, tClsMethod_goodT.stays _ _ _ _ _ (KeepsT.of_ex he hlo (Nat.le_refl _)) h4⟩
  | n + 5 => trivial

def Cls20 (w : World) (e : Ending) (w' : World) : Prop := ∃ (x : DClsClass) (v1 v2 : Value) (lo : Nat), e = .returned (.agg #[.string x.fName, .string x.fSuper, v1, v2]) ∧ TSl 3 rClsField 45 lo w' v1 x.fFields ∧ TSl 8 tClsMethod 29 lo w' v2 x.fMethods ∧ x.fName.size ≤ maxLen ∧ x.fSuper.size ≤ maxLen ∧ x.fFields.length ≤ 10 ∧ x.fMethods.length ≤ 10 ∧ w.heap.size ≤ lo ∧ Below w.heap.size w w'

set_option maxRecDepth 100000 in
set_option maxHeartbeats 8000000 in
theorem S_DrawClsOk (v : Value) (w : World) (hv : Bytes w v) :
    Calls Try.prog 22 #[v] w fun e w' => Cls20 w e w' := by
  have hv' := hv
  refine calls_hide fun R HR => ?_
  go_enter Try.func22, Try.ntmps22
  go_wp2_with fail
  refine (S_l20Open _ _ (by first | exact hv' | exact hv'.alloc _)).mono ?_
  rintro e w1 ⟨rfl, hrd1, hb1, hl1⟩
  simp only [World.size_alloc] at hrd1 hb1 hl1 ⊢
  obtain ⟨r, hr⟩ : ∃ r, w.heap.size + 1 = r := ⟨_, rfl⟩
  rw [hr] at hrd1 hb1 hl1 ⊢
  have RES1 : Hid (Four w1 w.heap.size (.string ⟨#[]⟩) (.string ⟨#[]⟩) (.slice none 0 0) (.slice none 0 0)) := Lib.hid ((Four.new w _ _ _ _ _).kept (by have := hb1.size; simp; omega) (hb1.block _ (by omega)))
  have TRES1 : Hid (TypeAt w1 w.heap.size 37) := Lib.hid ((TypeAt.new w _ _).of_kept (hb1.block _ (by omega)))
  have HBW : Hid (Below w.heap.size w w1) := Lib.hid (((Below.refl _ _).alloc (Nat.le_refl _) _).trans (hb1.mono (by omega)))
  clear hb1
  go_wp2_with fail
  refine (S_l20Plan r 0 3 _ (by omega) (by omega) hrd1 (by omega)).mono ?_
  rintro _ w2 ⟨pv, pl, q, rfl, hT, hok, _, hq, R2, X2⟩
  obtain ⟨css, hpc⟩ := id hT
  have hl := lodOk_len hok
  obtain ⟨b, cap, rfl, hb0, hb1, hb2, hb3, hrows⟩ := hpc.rowsAt (by omega)
  obtain ⟨m, hm⟩ : ∃ m, pl.fKeepers.length = m := ⟨_, rfl⟩
  rw [hm] at hl hb2 ⊢
  have HM := Lib.hid hm
  have hz2 := X2.size
  have hcm : cap ≤ 9223372036854775807 := by unfold maxLen at hb3; omega
  have HRW := Lib.hid hrows
  have HOK := Lib.hid hok
  have HX2 := Lib.hid X2
  clear hpc hrows hm hT hok hb3 X2
  go_wp2_with fail
  obtain ⟨W3, hW3⟩ : ∃ W, W = (w2.alloc (.cells #[.slice (some ⟨b, 0, none⟩) m cap] 48)).alloc (.cells #[.string ⟨#[120]⟩, .string ⟨#[]⟩, .slice none 0 0, .slice none 0 0] 37) := ⟨_, rfl⟩
  obtain ⟨C, hCe⟩ : ∃ C, w2.heap.size + 1 = C := ⟨_, rfl⟩
  rw [← hW3]
  have hB23 : Below w2.heap.size w2 W3 := by rw [hW3]; exact bbel
  have X3 : Ex r w2.heap.size w2 W3 := Ex.of_belowS hB23
  have P3c : W3.cell? ⟨w2.heap.size, 0, none⟩ = some (.slice (some ⟨b, 0, none⟩) m cap) := by rw [hW3]; go_simp
  have R3 : Rd W3 r q := rd_below hB23 R2 R2.lt
  have hz3 : W3.heap.size = w2.heap.size + 2 := by rw [hW3]; simp
  have RES2 := Lib.hid (RES1.out.kept hz2 (HX2.out.block w.heap.size (by omega) RES1.out.lt))
  have HA3 : Hid (KAt C w.heap.size r q w1 W3 ⟨⟨#[120]⟩, ⟨#[]⟩, [], []⟩ (.slice none 0 0) (.slice none 0 0)) := Lib.hid (by
    refine ⟨?_, ?_, RES2.out.kept hB23.size (hB23.block _ RES2.out.lt), TSl.nil, TSl.nil, by decide, by decide, by decide, by decide, R3, exC_next HX2.out hB23, ⟨by omega, by omega, by omega, by omega⟩⟩
    · rw [hW3, ← hCe]
      have := Four.new (w2.alloc (.cells #[.slice (some ⟨b, 0, none⟩) m cap] 48)) (.string ⟨#[120]⟩) (.string ⟨#[]⟩) (.slice none 0 0) (.slice none 0 0) 37
      simpa using this
    · rw [hW3, ← hCe]; exact TypeAt.new' _ _ _ _ (by simp))
  have HR2 : Hid (∀ W, Ex r W3.heap.size W3 W → ∀ x, x < m → W.rangeAt b (x * 2) (css.getD x []) ∧ (css.getD x []).length = 2) := Lib.hid fun W hW x hx => by
    obtain ⟨k, hk⟩ : ∃ k, pl.fKeepers[x]? = some k := ⟨_, List.getElem?_eq_getElem (by rw [HM.out]; exact hx)⟩
    obtain ⟨o, a, hc, _, hr⟩ := HRW.out x k hk
    rw [List.getD_eq_getElem?_getD, hc]
    exact ⟨fun j u hj => (cell_of_heap ((X3.trans (hW.mono (by omega))).block b (by omega) hb1)).trans (hr j u hj), rfl⟩
  have HK2 : Hid ((Try.prog.info? 54).map (·.size) = some 2) := Lib.hid (by kernel_rfl)
  have hrl : r < w1.heap.size := hl1
  rw [hCe]
  clear hW3 RES2 RES1 hB23
  go_wp2_with fail
  refine wp_region_relyE 10 (Ex r W3.heap.size W3) (pickG r) (fun _ => pickF W3.heap.size r q m 2 b (.pointer (some ⟨w2.heap.size, 0, none⟩)) (.slice (some ⟨b, 0, none⟩) m cap) (fun x => css.getD x []) 54) (pickI r (q)) noDead (by kernel_rfl) (by decide) (by kernel_rfl) (Or.inr ⟨by kernel_rfl, by kernel_rfl⟩) (by kernel_rfl) ((Ex.refl _ _ _).drew) (fun _ _ _ _ _ _ _ _ _ h => h) noDead_dead (fun _ _ => R3.drew) (fun i j w1 w2 hne _ hg h => pickI_stays i j w1 w2 hne hg h) (fun _ i j u w1 w2 hne _ _ hg hF => pickF_stays (by omega) i j u w1 w2 hne hg hF) (fun _ _ _ => Or.inr (Below.refl _ _)) ?_
  refine wpRelyE_cons2 (d := 12) rfl rfl (fun wx hC hI hd S0 hS => ?_) (fun v0 => ?_)
  · have HSS := Lib.hid hS; clear hS hd hI
    go_simp
    exact HSS.out _ _ hC (Or.inr (Below.refl _ _)) (by (simp only [List.nil_append, List.cons_append, List.length_cons, List.length_nil, Nat.reduceAdd, pickF]))
  simp only [Act.put, List.setIfInBounds_toArray, List.set_cons_zero, List.set_cons_succ]
  refine wpRelyE_cons2 (d := 13) rfl rfl (fun wx hC hI hd S0 hS => ?_) (fun v1 => ?_)
  · have d0 := hd ⟨0, .data⟩ (by simp) rfl v0 (by simp)
    simp only [pickF] at d0
    subst d0
    have c0 := (cell_of_heap (hC.block w2.heap.size (by omega) (by omega))).trans P3c
    have HSS := Lib.hid hS; clear hS hd hI
    go_simp
    exact HSS.out _ _ hC (Or.inr (Below.refl _ _)) (by (simp only [List.nil_append, List.cons_append, List.length_cons, List.length_nil, Nat.reduceAdd, pickF]))
  simp only [Act.put, List.setIfInBounds_toArray, List.set_cons_zero, List.set_cons_succ]
  refine wpRelyE_cons2 (d := 14) rfl rfl (fun wx hC hI hd S0 hS => ?_) (fun v2 => ?_)
  · have HSS := Lib.hid hS; clear hS hd hI
    go_simp
    exact HSS.out _ _ hC (Or.inr (Below.refl _ _)) (by (simp only [List.nil_append, List.cons_append, List.length_cons, List.length_nil, Nat.reduceAdd, pickF]))
  simp only [Act.put, List.setIfInBounds_toArray, List.set_cons_zero, List.set_cons_succ]
  refine wpRelyE_cons2 (d := 15) rfl rfl (fun wx hC hI hd S0 hS => ?_) (fun v3 => ?_)
  · have HSS := Lib.hid hS; clear hS hd hI
    go_simp
    exact HSS.out _ _ hC (Or.inr (Below.refl _ _)) (by (simp only [List.nil_append, List.cons_append, List.length_cons, List.length_nil, Nat.reduceAdd, pickF]))
  simp only [Act.put, List.setIfInBounds_toArray, List.set_cons_zero, List.set_cons_succ]
  refine wpRelyE_cons2 (d := 16) rfl rfl (fun wx hC hI hd S0 hS => ?_) (fun v4 => ?_)
  · have d3 := hd ⟨3, .data⟩ (by simp) rfl v3 (by simp)
    simp only [pickF] at d3
    subst d3
    have c0 := (cell_of_heap (hC.block w2.heap.size (by omega) (by omega))).trans P3c
    have HSS := Lib.hid hS; clear hS hd hI
    go_simp
    exact HSS.out _ _ hC (Or.inr (Below.refl _ _)) (by (simp only [List.nil_append, List.cons_append, List.length_cons, List.length_nil, Nat.reduceAdd, pickF]))
  simp only [Act.put, List.setIfInBounds_toArray, List.set_cons_zero, List.set_cons_succ]
  refine wpRelyE_cons2 (d := 17) rfl rfl (fun wx hC hI hd S0 hS => ?_) (fun v5 => ?_)
  · have d4 := hd ⟨4, .data⟩ (by simp) rfl v4 (by simp)
    simp only [pickF] at d4
    subst d4
    have HSS := Lib.hid hS; clear hS hd hI
    go_simp
    exact HSS.out _ _ hC (Or.inr (Below.refl _ _)) (by (simp only [List.nil_append, List.cons_append, List.length_cons, List.length_nil, Nat.reduceAdd, pickF]))
  simp only [Act.put, List.setIfInBounds_toArray, List.set_cons_zero, List.set_cons_succ]
  refine wpRelyE_cons2 (d := 18) rfl rfl (fun wx hC hI hd S0 hS => ?_) (fun v6 => ?_)
  · have d2 := hd ⟨2, .data⟩ (by simp) rfl v2 (by simp)
    simp only [pickF] at d2
    have d5 := hd ⟨5, .data⟩ (by simp) rfl v5 (by simp)
    simp only [pickF] at d5
    subst d2; subst d5
    have hRd : Rd wx r (q) := hI (by simp)
    have HSS := Lib.hid hS; clear hS hd hI
    go_simp
    refine (S_pick r (q) _ _ (by omega) hRd (by omega)).mono ?_
    rintro _ w' ⟨⟨x, hx, rfl⟩, hRq, hX⟩
    obtain ⟨xn, hxn, rfl⟩ := pick_nat (by omega) hx
    exact HSS.out _ _ (exC_ex hC hX) (Or.inl ⟨by simp, hX⟩) (by (simp only [List.nil_append, List.cons_append, List.length_cons, List.length_nil, Nat.reduceAdd, pickF]); exact ⟨xn, hxn, rfl, hRq⟩)
  simp only [Act.put, List.setIfInBounds_toArray, List.set_cons_zero, List.set_cons_succ]
  refine wpRelyE_cons2 (d := 19) rfl rfl (fun wx hC hI hd S0 hS => ?_) (fun v7 => ?_)
  · have d1 := hd ⟨1, .data⟩ (by simp) rfl v1 (by simp)
    simp only [pickF] at d1
    have d6 := hd ⟨6, .data⟩ (by simp) rfl v6 (by simp)
    simp only [pickF] at d6
    obtain ⟨x, hx, d6, _⟩ := d6
    subst d1; subst d6
    have HSS := Lib.hid hS; clear hS hd hI
    go_simp
    exact HSS.out _ _ hC (Or.inr (Below.refl _ _)) (by (simp only [List.nil_append, List.cons_append, List.length_cons, List.length_nil, Nat.reduceAdd, pickF]); exact ⟨x, hx, rfl⟩)
  simp only [Act.put, List.setIfInBounds_toArray, List.set_cons_zero, List.set_cons_succ]
  refine wpRelyE_cons2 (d := 20) rfl rfl (fun wx hC hI hd S0 hS => ?_) (fun v8 => ?_)
  · have d7 := hd ⟨7, .data⟩ (by simp) rfl v7 (by simp)
    simp only [pickF] at d7
    obtain ⟨x, hx, d7⟩ := d7
    subst d7
    have HSS := Lib.hid hS; clear hS hd hI
    refine wp_loadAt rfl rfl (run_loadAt_mid wx b (x * 2) 54 (css.getD x []) _ (HR2.out wx hC x hx).1 Try.underlying54 rfl (by rw [(HR2.out wx hC x hx).2]; exact HK2.out)) ⟨put_defers' _ _ _, ?_⟩
    rw [eval_put_self (by simp)]
    exact HSS.out _ _ hC (Or.inr (Below.refl _ _)) (by (simp only [List.nil_append, List.cons_append, List.length_cons, List.length_nil, Nat.reduceAdd, pickF]); exact ⟨x, hx, rfl⟩)
  simp only [Act.put, List.setIfInBounds_toArray, List.set_cons_zero, List.set_cons_succ]
  refine wpRelyE_cons2 (d := 6) rfl rfl (fun wx hC hI hd S0 hS => ?_) (fun v9 => ?_)
  · have hzx := hC.size
    have HSS := Lib.hid hS; clear hS hd hI
    go_simp
    refine HSS.out _ _ (exC_next hC ((Below.refl _ _).alloc (Nat.le_refl _) _)) (Or.inr ((Below.refl _ _).alloc (Nat.le_refl _) _)) ?_
    (simp only [List.nil_append, List.cons_append, List.length_cons, List.length_nil, Nat.reduceAdd, pickF])
    exact ⟨_, _, rfl, hzx, heap_alloc_new wx _, rfl⟩
  simp only [Act.put, List.setIfInBounds_toArray, List.set_cons_zero, List.set_cons_succ]
  intro w4 hC hF
  have f6 := hF 6 v6 (by simp) (fun _ _ => rfl)
  have f8 := hF 8 v8 (by simp) (fun _ _ => rfl)
  have f9 := hF 9 v9 (by simp) (fun _ _ => rfl)
  simp only [pickF] at f6 f8 f9
  obtain ⟨_, _, _, R4⟩ := f6
  obtain ⟨x, hx, e8⟩ := f8
  obtain ⟨K, cs, e9, hKB, hcb, hcs⟩ := f9
  obtain ⟨k, hk⟩ : ∃ k, pl.fKeepers[x]? = some k := ⟨_, List.getElem?_eq_getElem (by rw [HM.out]; exact hx)⟩
  obtain ⟨o, a, hco, hkr, _⟩ := HRW.out x k hk
  have eoa : css.getD x [] = [o, a] := by rw [List.getD_eq_getElem?_getD, hco]; rfl
  rw [eoa] at e8
  subst e8; subst e9
  have hkr4 : tLodKeeper w1.heap.size w4 [o, a] k := tLodKeeper_goodT.stays _ _ _ _ _ (KeepsT.of_ex (N := w2.heap.size) (X3.trans (hC.mono (by omega))) hrl (Nat.le_refl _)) hkr
  obtain ⟨y1, y2, e0, t1, t2⟩ := id hkr4
  cases e0
  obtain ⟨oa, oc, rfl, hoc, hom⟩ := t1.form
  obtain ⟨aa, ac, rfl, _, _⟩ := t2.form
  obtain ⟨on, hon⟩ : ∃ n, k.fOwns.length = n := ⟨_, rfl⟩
  rw [hon] at hoc hkr4
  have HON := Lib.hid hon
  have T1 := Lib.hid t1
  have hz4 := hC.size
  have hKl : K < w4.heap.size := (Array.getElem?_eq_some_iff.1 hcb).1
  have HA4 := Lib.hid (HA3.out.go hC R4)
  have HKX := Lib.hid hk
  clear hF HRW hco hkr eoa hkr4 t1 t2 hk hon P3c HR2 HA3 X3
  simp only [List.drop_succ_cons, List.drop_zero]
  go_wp2_with (refine wpList_store_row (by rfl) 54 (.tmp 6) (.tmp 20) (by rfl) K [.slice oa k.fOwns.length oc, .slice aa k.fAsks.length ac] (by rfl) (by rfl) (there_of hcb hcs) HK2.out (by intro v hv; simp at hv; rcases hv with rfl | rfl <;> rfl) ?_)
  intro w5 hr5 ht5 hT5
  have k5 := hr5 0 _ rfl
  rw [Nat.add_zero] at k5
  have TK : TypeAt w4 K 54 := ⟨cs, (0, 0), hcb⟩
  have T15 : Hid (TSl 4 tClsClass 37 w1.heap.size w5 (.slice oa k.fOwns.length oc) k.fOwns) := Lib.hid (T1.out.stays (E := ELodKeeper) (tClsClass_goodT.mono EClsClass_LodKeeper) (by unfold ELodKeeper; simp) (KeepsT.of_turn hT5 TK ELodKeeper_not))
  rw [HON.out] at T15 k5 ⊢
  have hKr : K ≠ r := by omega
  have E45 : Ex r K w4 w5 := hT5.ex (Nat.le_refl _)
  have R5 : Rd w5 r (q + 1) := rd_below (hT5.below (Nat.le_refl K)) R4 (by omega)
  have hz5 : w4.heap.size ≤ w5.heap.size := Nat.le_of_eq hT5.size
  have HA5 : Hid (KAt C w.heap.size r (q + 1) w1 w5 ⟨⟨#[120]⟩, ⟨#[]⟩, [], []⟩ (.slice none 0 0) (.slice none 0 0)) := Lib.hid (by
    have A := HA4.out
    have hCK : w5.heap[C]? = w4.heap[C]? := hT5.block C (by omega)
    have hRK : w5.heap[w.heap.size]? = w4.heap[w.heap.size]? := hT5.block _ (by omega)
    exact ⟨A.four.kept hz5 hCK, A.type.of_kept hCK, A.res.kept hz5 hRK, TSl.nil, TSl.nil, A.n1, A.n2, A.l1, A.l2, R5, A.ex.trans (hT5.ex (by omega)), A.low⟩)
  have hKl5 : K < w5.heap.size := by omega
  have hom2 : oc ≤ 9223372036854775807 := by unfold maxLen at hom; omega
  clear hr5 ht5 hT5 TK hcb T1 R4 HA4 hC hom E45
  obtain ⟨kl, k0, k1, k2, k3, kf0, kf1, kf2, kf3⟩ := HA5.out.four
  go_upto_if 24 with fail
  go_cut [] from 21 to 33 (fun wx => KAtQ 6 C w.heap.size r (q + 2) w1 wx)
  case first =>
    by_cases ho : on = 0
    · subst ho
      go_wp2_with fail
      go_meet
      case rel => exact ⟨_, _, _, _, by omega, by decide, by decide, HA5.out⟩
    have ho1 : 0 < on := by omega
    have ho2 : decide ((0 : Int) < (on : Int)) = true := by simp; omega
    obtain ⟨ob, ocap, css2, eo, hob0, hob1, hob2, hob3, hrows2⟩ := T15.out.rowsAt (by rw [HON.out]; exact ho1)
    rw [HON.out] at eo hob2
    cases eo
    have HR5 : Hid (∀ W, Ex r w5.heap.size w5 W → ∀ x, x < on → W.rangeAt ob (x * 4) (css2.getD x []) ∧ (css2.getD x []).length = 4) := Lib.hid fun W hW x hx => by
      obtain ⟨y, hy⟩ : ∃ y, k.fOwns[x]? = some y := ⟨_, List.getElem?_eq_getElem (by rw [HON.out]; exact hx)⟩
      obtain ⟨cs, hcs, hl4, _, hr⟩ := hrows2 x y hy
      rw [List.getD_eq_getElem?_getD, hcs]
      exact ⟨fun j u hj => (cell_of_heap (hW.block ob (by omega) hob1)).trans (hr j u hj), hl4⟩
    have HRW2 := Lib.hid hrows2
    have HKC : Hid ((Try.prog.info? 37).map (·.size) = some 4) := Lib.hid (by kernel_rfl)
    clear hrows2 T15 kl k0 k1 k2 k3 kf0 kf1 kf2 kf3
    go_wp2_with fail
    refine wp_region_relyE 9 (Ex r w5.heap.size w5) (pickG r) (fun _ => pickF w5.heap.size r (q + 1) on 4 ob (.pointer (some ⟨K, 0, none⟩)) (.slice (some ⟨ob, 0, none⟩) on oc) (fun x => css2.getD x []) 37) (pickI r ((q + 1))) noDead (by kernel_rfl) (by decide) (by kernel_rfl) (Or.inr ⟨by kernel_rfl, by kernel_rfl⟩) (by kernel_rfl) ((Ex.refl _ _ _).drew) (fun _ _ _ _ _ _ _ _ _ h => h) noDead_dead (fun _ _ => R5.drew) (fun i j w1 w2 hne _ hg h => pickI_stays i j w1 w2 hne hg h) (fun _ i j u w1 w2 hne _ _ hg hF => pickF_stays (by omega) i j u w1 w2 hne hg hF) (fun _ _ _ => Or.inr (Below.refl _ _)) ?_
    refine wpRelyE_cons2 (d := 25) rfl rfl (fun wx hC hI hd S0 hS => ?_) (fun v0 => ?_)
    · have HSS := Lib.hid hS; clear hS hd hI
      go_simp
      exact HSS.out _ _ hC (Or.inr (Below.refl _ _)) (by (simp only [List.nil_append, List.cons_append, List.length_cons, List.length_nil, Nat.reduceAdd, pickF]))
    simp only [Act.put, List.setIfInBounds_toArray, List.set_cons_zero, List.set_cons_succ]
    refine wpRelyE_cons2 (d := 26) rfl rfl (fun wx hC hI hd S0 hS => ?_) (fun v1 => ?_)
    · have d0 := hd ⟨0, .data⟩ (by simp) rfl v0 (by simp)
      simp only [pickF] at d0
      subst d0
      have c0 := (cell_of_heap (hC.block K (by omega) (by omega))).trans k5
      have HSS := Lib.hid hS; clear hS hd hI
      go_simp
      exact HSS.out _ _ hC (Or.inr (Below.refl _ _)) (by (simp only [List.nil_append, List.cons_append, List.length_cons, List.length_nil, Nat.reduceAdd, pickF]))
    simp only [Act.put, List.setIfInBounds_toArray, List.set_cons_zero, List.set_cons_succ]
    refine wpRelyE_cons2 (d := 27) rfl rfl (fun wx hC hI hd S0 hS => ?_) (fun v2 => ?_)
    · have HSS := Lib.hid hS; clear hS hd hI
      go_simp
      exact HSS.out _ _ hC (Or.inr (Below.refl _ _)) (by (simp only [List.nil_append, List.cons_append, List.length_cons, List.length_nil, Nat.reduceAdd, pickF]))
    simp only [Act.put, List.setIfInBounds_toArray, List.set_cons_zero, List.set_cons_succ]
    refine wpRelyE_cons2 (d := 28) rfl rfl (fun wx hC hI hd S0 hS => ?_) (fun v3 => ?_)
    · have HSS := Lib.hid hS; clear hS hd hI
      go_simp
      exact HSS.out _ _ hC (Or.inr (Below.refl _ _)) (by (simp only [List.nil_append, List.cons_append, List.length_cons, List.length_nil, Nat.reduceAdd, pickF]))
    simp only [Act.put, List.setIfInBounds_toArray, List.set_cons_zero, List.set_cons_succ]
    refine wpRelyE_cons2 (d := 29) rfl rfl (fun wx hC hI hd S0 hS => ?_) (fun v4 => ?_)
    · have d3 := hd ⟨3, .data⟩ (by simp) rfl v3 (by simp)
      simp only [pickF] at d3
      subst d3
      have c0 := (cell_of_heap (hC.block K (by omega) (by omega))).trans k5
      have HSS := Lib.hid hS; clear hS hd hI
      go_simp
      exact HSS.out _ _ hC (Or.inr (Below.refl _ _)) (by (simp only [List.nil_append, List.cons_append, List.length_cons, List.length_nil, Nat.reduceAdd, pickF]))
    simp only [Act.put, List.setIfInBounds_toArray, List.set_cons_zero, List.set_cons_succ]
    refine wpRelyE_cons2 (d := 30) rfl rfl (fun wx hC hI hd S0 hS => ?_) (fun v5 => ?_)
    · have d4 := hd ⟨4, .data⟩ (by simp) rfl v4 (by simp)
      simp only [pickF] at d4
      subst d4
      have HSS := Lib.hid hS; clear hS hd hI
      go_simp
      exact HSS.out _ _ hC (Or.inr (Below.refl _ _)) (by (simp only [List.nil_append, List.cons_append, List.length_cons, List.length_nil, Nat.reduceAdd, pickF]))
    simp only [Act.put, List.setIfInBounds_toArray, List.set_cons_zero, List.set_cons_succ]
    refine wpRelyE_cons2 (d := 31) rfl rfl (fun wx hC hI hd S0 hS => ?_) (fun v6 => ?_)
    · have d2 := hd ⟨2, .data⟩ (by simp) rfl v2 (by simp)
      simp only [pickF] at d2
      have d5 := hd ⟨5, .data⟩ (by simp) rfl v5 (by simp)
      simp only [pickF] at d5
      subst d2; subst d5
      have hRd : Rd wx r ((q + 1)) := hI (by simp)
      have HSS := Lib.hid hS; clear hS hd hI
      go_simp
      refine (S_pick r ((q + 1)) _ _ (by omega) hRd (by omega)).mono ?_
      rintro _ w' ⟨⟨x, hx, rfl⟩, hRq, hX⟩
      obtain ⟨xn, hxn, rfl⟩ := pick_nat (by omega) hx
      exact HSS.out _ _ (exC_ex hC hX) (Or.inl ⟨by simp, hX⟩) (by (simp only [List.nil_append, List.cons_append, List.length_cons, List.length_nil, Nat.reduceAdd, pickF]); exact ⟨xn, hxn, rfl, hRq⟩)
    simp only [Act.put, List.setIfInBounds_toArray, List.set_cons_zero, List.set_cons_succ]
    refine wpRelyE_cons2 (d := 32) rfl rfl (fun wx hC hI hd S0 hS => ?_) (fun v7 => ?_)
    · have d1 := hd ⟨1, .data⟩ (by simp) rfl v1 (by simp)
      simp only [pickF] at d1
      have d6 := hd ⟨6, .data⟩ (by simp) rfl v6 (by simp)
      simp only [pickF] at d6
      obtain ⟨x, hx, d6, _⟩ := d6
      subst d1; subst d6
      have HSS := Lib.hid hS; clear hS hd hI
      go_simp
      exact HSS.out _ _ hC (Or.inr (Below.refl _ _)) (by (simp only [List.nil_append, List.cons_append, List.length_cons, List.length_nil, Nat.reduceAdd, pickF]); exact ⟨x, hx, rfl⟩)
    simp only [Act.put, List.setIfInBounds_toArray, List.set_cons_zero, List.set_cons_succ]
    refine wpRelyE_cons2 (d := 33) rfl rfl (fun wx hC hI hd S0 hS => ?_) (fun v8 => ?_)
    · have d7 := hd ⟨7, .data⟩ (by simp) rfl v7 (by simp)
      simp only [pickF] at d7
      obtain ⟨x, hx, d7⟩ := d7
      subst d7
      have HSS := Lib.hid hS; clear hS hd hI
      refine wp_loadAt rfl rfl (run_loadAt_mid wx ob (x * 4) 37 (css2.getD x []) _ (HR5.out wx hC x hx).1 Try.underlying37 rfl (by rw [(HR5.out wx hC x hx).2]; exact HKC.out)) ⟨put_defers' _ _ _, ?_⟩
      rw [eval_put_self (by simp)]
      exact HSS.out _ _ hC (Or.inr (Below.refl _ _)) (by (simp only [List.nil_append, List.cons_append, List.length_cons, List.length_nil, Nat.reduceAdd, pickF]); exact ⟨x, hx, rfl⟩)
    simp only [Act.put, List.setIfInBounds_toArray, List.set_cons_zero, List.set_cons_succ]
    intro w6 hC hF
    have f6 := hF 6 v6 (by simp) (fun _ _ => rfl)
    have f8 := hF 8 v8 (by simp) (fun _ _ => rfl)
    simp only [pickF] at f6 f8
    obtain ⟨_, _, _, R6⟩ := f6
    obtain ⟨x6, hx6, e8⟩ := f8
    obtain ⟨cc, hcc⟩ : ∃ y, k.fOwns[x6]? = some y := ⟨_, List.getElem?_eq_getElem (by rw [HON.out]; exact hx6)⟩
    obtain ⟨cs6, hcs6, _, hrow6, _⟩ := HRW2.out x6 cc hcc
    have ecs : css2.getD x6 [] = cs6 := by rw [List.getD_eq_getElem?_getD, hcs6]; rfl
    rw [ecs] at e8
    have hrow66 : tClsClass w1.heap.size w6 cs6 cc := tClsClass_goodT.stays _ _ _ _ _ (KeepsT.of_ex hC hrl (Nat.le_refl _)) hrow6
    obtain ⟨y1, y2, rfl, t1, t2, n1, n2⟩ := hrow66
    subst e8
    obtain ⟨fa, fc, rfl, _, _⟩ := t1.form
    obtain ⟨ma, mc, rfl, _, _⟩ := t2.form
    have hcok : clsOk cc = true := by
      have hk1 := List.mem_of_getElem? HKX.out
      have hk2 := keeperOk_parts (lodOk_keeper HOK.out HKX.out)
      have := each_iff.1 hk2.2.2.1 _ cc hcc
      simp only [ownIn, Bool.and_eq_true] at this
      exact this.1
    have hl1 : cc.fFields.length ≤ 6 ∧ cc.fMethods.length ≤ 6 := by
      unfold clsOk at hcok
      simp only [Bool.and_eq_true, decide_eq_true_eq] at hcok
      omega
    have HA6 := Lib.hid (HA5.out.go hC R6)
    have HT1 := Lib.hid t1
    have HT2 := Lib.hid t2
    have HN1 := Lib.hid n1
    have HN2 := Lib.hid n2
    have hTh := Lib.hid HA6.out.four.there
    clear hF ecs hcs6 hcc hrow6 t1 t2 n1 n2 hcok HR5 HRW2 HA5 k5 hC
    simp only [List.drop_succ_cons, List.drop_zero]
    refine wpList_store_rowT (by rfl) 37 (.tmp 5) (.tmp 33) (by rfl) C [.string cc.fName, .string cc.fSuper, .slice fa cc.fFields.length fc, .slice ma cc.fMethods.length mc] (by rfl) (by rfl) hTh.out HKC.out (by intro v hv; simp at hv; rcases hv with rfl | rfl | rfl | rfl <;> rfl) ?_
    intro w7 hr7 ht7 hT7 hY7
    have HA7 : Hid (KAt C w.heap.size r (q + 1 + 1) w1 w7 cc (.slice fa cc.fFields.length fc) (.slice ma cc.fMethods.length mc)) := Lib.hid (by
      have A := HA6.out
      have hz7 : w6.heap.size ≤ w7.heap.size := Nat.le_of_eq hT7.size
      have hRK : w7.heap[w.heap.size]? = w6.heap[w.heap.size]? := hT7.block _ (by have := A.low; omega)
      exact ⟨Four.ofR (by have := A.four.lt; omega) hr7 ht7, hY7 _ _ A.type, A.res.kept hz7 hRK, HT1.out.stays (E := EClsClass) (rClsField_goodT.mono fun _ h => h.elim) (by unfold EClsClass; simp) (KeepsT.of_turn hT7 A.type EClsClass_not), HT2.out.stays (E := EClsClass) (tClsMethod_goodT.mono EClsMethod_ClsClass) (by unfold EClsClass; simp) (KeepsT.of_turn hT7 A.type EClsClass_not), HN1.out, HN2.out, by omega, by omega, rd_below (hT7.below (Nat.le_refl C)) A.rd (by have := A.low; omega), A.ex.trans (hT7.ex A.low.2.2.2), A.low⟩)
    clear hr7 ht7 hT7 hY7 HA6
    go_wp2_with fail
    go_meet
    case rel => exact ⟨_, _, _, _, by omega, hl1.1, hl1.2, HA7.out⟩
  case rest =>
  obtain ⟨x, v1, v2, q1, hq1, hx1, hx2, A⟩ := hcut
  have HA := Lib.hid A
  clear A
  go_wp2_with fail
  refine (S_odd r q1 2 _ (by omega) (by omega) HA.out.rd (by omega)).mono ?_
  rintro _ wB ⟨⟨ob, rfl⟩, RB, XB⟩
  have HAB := Lib.hid (HA.out.go XB RB)
  clear XB RB HA
  go_upto_if 35 with fail
  go_cut [] from 34 to 104 (fun wx => KAtQ 10 C w.heap.size r 2000 w1 wx)
  case first =>
    cases ob
    · go_wp2_with fail
      go_meet
      case rel => exact ⟨_, _, _, _, by omega, by omega, by omega, HAB.out⟩
    go_wp2_with fail
    refine (S_pick r (q1 + 1) 6 _ (by omega) HAB.out.rd (by omega)).mono ?_
    rintro _ wD ⟨⟨y, hy, rfl⟩, RD, XD⟩
    have HAD := Lib.hid (HAB.out.go XD RD)
    clear XD RD HAB
    obtain ⟨yn, hyn, rfl⟩ := pick_nat (n := 6) (by omega) hy
    clear hy
    obtain ⟨va, vc, rfl, hvc, hvm⟩ := HAD.out.f1.form
    obtain ⟨ua, uc, rfl, huc, hum⟩ := HAD.out.f2.form
    obtain ⟨zn, hzn⟩ : ∃ n, n = x.fFields.length := ⟨_, rfl⟩
    obtain ⟨zm, hzm⟩ : ∃ n, n = x.fMethods.length := ⟨_, rfl⟩
    have hz6 : zn ≤ 6 := by omega
    have hz7 : zm ≤ 6 := by omega
    rw [← hzn] at HAD hvc
    rw [← hzm] at HAD huc
    have HL1 := Lib.hid hzn
    have HL2 := Lib.hid hzm
    clear hzn hzm
    have hlD : r < wD.heap.size := HAD.out.rd.lt
    obtain ⟨kl, k0, k1, k2, k3, kf0, kf1, kf2, kf3⟩ := HAD.out.four
    match yn, hyn with
    | 0, _ =>
      go_wp2_with fail
      go_meet
      case rel => exact ⟨_, _, _, _, by omega, by show x.fFields.length ≤ 10; omega, by show x.fMethods.length ≤ 10; omega, HAD.out.name (s := ⟨#[65]⟩) (by decide)⟩
    | 1, _ =>
      go_wp2_with fail
      go_meet
      case rel => exact ⟨_, _, _, _, by omega, by show x.fFields.length ≤ 10; omega, by show x.fMethods.length ≤ 10; omega, HAD.out.super (s := ⟨#[65]⟩) (by decide)⟩
    | 2, _ =>
      have hCr : C ≠ r := by have := HAD.out.low; omega
      have hCl : C < wD.heap.size := kl
      have hc2 := k2
      have hc3 := k3
      have hvm' : vc ≤ 9223372036854775807 := by unfold maxLen at hvm; omega
      have hum' : uc ≤ 9223372036854775807 := by unfold maxLen at hum; omega
      obtain ⟨fcss, hfs⟩ := HAD.out.f1.srcEx rClsField_goodT hrl
      have SRC : Hid (∀ wx, Ex r wD.heap.size wD wx → Src 3 wx (.slice va zn vc) fcss) := Lib.hid fun wx h => (hfs wx h).1
      have ROWS : Hid (∀ wx, Ex r wD.heap.size wD wx → Rows 3 rClsField w1.heap.size wx fcss x.fFields) := Lib.hid fun wx h => (hfs wx h).2
      have hwD : w1.heap.size ≤ wD.heap.size := HAD.out.ex.size
      clear hfs kl k0 k1 k2 k3 kf0 kf1 kf2 kf3
      go_wp2_with fail
      refine wp_region_relyE 13 (Ex r wD.heap.size wD) (mvG fdL r (q1 + 1 + 1)) (fun _ => fdF wD.heap.size w1.heap.size r (q1 + 1 + 1) C (.slice va zn vc) x.fFields) (mvI fdL r (q1 + 1 + 1)) noDead (by kernel_rfl) (by decide) (by kernel_rfl) (Or.inr ⟨by kernel_rfl, by kernel_rfl⟩) (by kernel_rfl) ((Ex.refl _ _ _).drew) (fun _ _ _ _ _ _ _ _ _ h => h) noDead_dead (fun _ _ => ⟨q1 + 1 + 1, Nat.le_refl _, by omega, HAD.out.rd.drew⟩) (fun i j w1 w2 hne _ hg h => mvI_stays fdL_one i j w1 w2 hne hg h) (fun _ i j u w1 w2 hne _ _ hg hF => fdF_stays hlD hrl fdL_most i j u w1 w2 hne hg hF) (fun _ _ _ => mvG_of (Below.refl _ _)) ?_
      refine wpRelyE_cons2 (d := 57) rfl rfl (fun wx hC hI hd S0 hS => ?_) (fun v0 => ?_)
      · have hzx := hC.size
        have HSS := Lib.hid hS; clear hS hd hI
        go_simp
        refine HSS.out _ _ (exC_next hC ((Below.refl _ _).alloc (Nat.le_refl _) _)) (mvG_of ((Below.refl _ _).alloc (Nat.le_refl _) _)) ?_
        (simp only [List.nil_append, List.cons_append, List.length_cons, List.length_nil, Nat.reduceAdd, fdF])
        exact Empty0.new wx _ hzx
      simp only [Act.put, List.setIfInBounds_toArray, List.set_cons_zero, List.set_cons_succ]
      refine wpRelyE_cons2 (d := 58) rfl rfl (fun wx hC hI hd S0 hS => ?_) (fun v1 => ?_)
      · have HSS := Lib.hid hS; clear hS hd hI
        go_simp
        exact HSS.out _ _ hC (mvG_of (Below.refl _ _)) (by simp [fdF])
      simp only [Act.put, List.setIfInBounds_toArray, List.set_cons_zero, List.set_cons_succ]
      refine wpRelyE_cons2 (d := 59) rfl rfl (fun wx hC hI hd S0 hS => ?_) (fun v2 => ?_)
      · have d1 := hd ⟨1, .data⟩ (by simp) rfl v1 (by simp)
        simp only [fdF] at d1
        subst d1
        have c0 := (cell_of_heap (hC.block C hCr hCl)).trans hc2
        have HSS := Lib.hid hS; clear hS hd hI
        go_simp
        exact HSS.out _ _ hC (mvG_of (Below.refl _ _)) (by simp [fdF])
      simp only [Act.put, List.setIfInBounds_toArray, List.set_cons_zero, List.set_cons_succ]
      refine wpRelyE_cons2 (d := 60) rfl rfl (fun wx hC hI hd S0 hS => ?_) (fun v3 => ?_)
      · have d0 := hd ⟨0, .data⟩ (by simp) rfl v0 (by simp)
        simp only [fdF] at d0
        have d2 := hd ⟨2, .data⟩ (by simp) rfl v2 (by simp)
        simp only [fdF] at d2
        subst d2
        have hzx := hC.size
        have HSS := Lib.hid hS; clear hS hd hI
        obtain ⟨v', w', hr', h2, h3⟩ := run_append_copy (ty := 34) (lo := w1.heap.size) sty_Fld rClsField_goodT rClsField_one d0 (SRC.out wx hC) (ROWS.out wx hC) (by have := HL1.out; omega) (by omega) hzx
        refine wp_of_append (.tmp 57) (.tmp 59) 34 rfl rfl rfl hr' ⟨put_defers' _ _ _, ?_⟩
        rw [eval_put_self (by simp)]
        refine HSS.out _ _ (exC_next hC h3) (mvG_of h3) ?_
        (simp only [List.nil_append, List.cons_append, List.length_cons, List.length_nil, Nat.reduceAdd, fdF])
        exact h2
      simp only [Act.put, List.setIfInBounds_toArray, List.set_cons_zero, List.set_cons_succ]
      refine wpRelyE_cons2 (d := 61) rfl rfl (fun wx hC hI hd S0 hS => ?_) (fun v4 => ?_)
      · have hzx := hC.size
        have HSS := Lib.hid hS; clear hS hd hI
        go_simp
        refine HSS.out _ _ (exC_next hC ((Below.refl _ _).alloc (Nat.le_refl _) _)) (mvG_of ((Below.refl _ _).alloc (Nat.le_refl _) _)) ?_
        (simp only [List.nil_append, List.cons_append, List.length_cons, List.length_nil, Nat.reduceAdd, fdF])
        exact ⟨_, rfl, hzx, heap_alloc_new wx _⟩
      simp only [Act.put, List.setIfInBounds_toArray, List.set_cons_zero, List.set_cons_succ]
      refine wpRelyE_cons2 (d := 62) rfl rfl (fun wx hC hI hd S0 hS => ?_) (fun v5 => ?_)
      · have HSS := Lib.hid hS; clear hS hd hI
        go_simp
        exact HSS.out _ _ hC (mvG_of (Below.refl _ _)) (by simp [fdF])
      simp only [Act.put, List.setIfInBounds_toArray, List.set_cons_zero, List.set_cons_succ]
      refine wpRelyE_cons2 (d := 63) rfl rfl (fun wx hC hI hd S0 hS => ?_) (fun v6 => ?_)
      · have d5 := hd ⟨5, .data⟩ (by simp) rfl v5 (by simp)
        simp only [fdF] at d5
        subst d5
        have d3 := hd ⟨3, .chain⟩ (by simp) rfl v3 (by simp)
        simp only [fdF] at d3
        have hRd : Rd wx r (q1 + 1 + 1) := pk_first (hI (by simp [fdL]))
        have HSS := Lib.hid hS; clear hS hd hI
        go_simp
        refine (S_pick r (q1 + 1 + 1) 3 _ (by omega) hRd (by omega)).mono ?_
        rintro _ w' ⟨⟨x, hx, rfl⟩, hRq, hX⟩
        obtain ⟨xn, hxn, rfl⟩ := pick_nat (n := 3) (by omega) hx
        refine HSS.out _ _ (exC_ex hC hX) (Or.inr ⟨by simp [fdL], hX, hRd, hRq⟩) ?_
        (simp only [List.nil_append, List.cons_append, List.length_cons, List.length_nil, Nat.reduceAdd, fdF])
        exact ⟨⟨xn, hxn, rfl⟩, _, Nat.le_refl _, by omega, hRq⟩
      simp only [Act.put, List.setIfInBounds_toArray, List.set_cons_zero, List.set_cons_succ]
      refine wpRelyE_cons2 (d := 64) rfl rfl (fun wx hC hI hd S0 hS => ?_) (fun v7 => ?_)
      · have d4 := hd ⟨4, .data⟩ (by simp) rfl v4 (by simp)
        simp only [fdF] at d4
        obtain ⟨c4, d4, hc4, hh4⟩ := d4
        have d6 := hd ⟨6, .data⟩ (by simp) rfl v6 (by simp)
        simp only [fdF] at d6
        subst d4
        obtain ⟨⟨x, hx, e6⟩, _⟩ := d6
        subst e6
        have hxi : (x : Int) < 3 := by omega
        have HSS := Lib.hid hS; clear hS hd hI
        go_simp
        refine HSS.out _ _ (hC) (mvG_of (Below.refl _ _)) ?_
        (simp only [List.nil_append, List.cons_append, List.length_cons, List.length_nil, Nat.reduceAdd, fdF])
        exact ⟨c4, x, hx, rfl, hc4, hh4⟩
      simp only [Act.put, List.setIfInBounds_toArray, List.set_cons_zero, List.set_cons_succ]
      refine wpRelyE_cons2 (d := 65) rfl rfl (fun wx hC hI hd S0 hS => ?_) (fun v8 => ?_)
      · have d7 := hd ⟨7, .data⟩ (by simp) rfl v7 (by simp)
        simp only [fdF] at d7
        obtain ⟨c7, x, hx, d7, hc7, hh7⟩ := d7
        subst d7
        obtain ⟨lv, ⟨k, k1, rfl⟩, hcell⟩ := lits_at (cs := [.string ⟨#[118]⟩, .string ⟨#[]⟩, .string ⟨#[122]⟩]) hh7 (P := StrIn 10) (by intro v hv; simp at hv; rcases hv with rfl | rfl | rfl <;> exact ⟨_, by decide, rfl⟩) hx
        have HSS := Lib.hid hS; clear hS hd hI
        go_simp
        refine HSS.out _ _ (hC) (mvG_of (Below.refl _ _)) ?_
        (simp only [List.nil_append, List.cons_append, List.length_cons, List.length_nil, Nat.reduceAdd, fdF])
        exact ⟨k, k1, rfl⟩
      simp only [Act.put, List.setIfInBounds_toArray, List.set_cons_zero, List.set_cons_succ]
      refine wpRelyE_cons2 (d := 66) rfl rfl (fun wx hC hI hd S0 hS => ?_) (fun v9 => ?_)
      · have HSS := Lib.hid hS; clear hS hd hI
        go_simp
        exact HSS.out _ _ hC (mvG_of (Below.refl _ _)) (by simp [fdF])
      simp only [Act.put, List.setIfInBounds_toArray, List.set_cons_zero, List.set_cons_succ]
      refine wpRelyE_cons2 (d := 67) rfl rfl (fun wx hC hI hd S0 hS => ?_) (fun v10 => ?_)
      · have d9 := hd ⟨9, .data⟩ (by simp) rfl v9 (by simp)
        simp only [fdF] at d9
        subst d9
        have d6 := hd ⟨6, .chain⟩ (by simp) rfl v6 (by simp)
        simp only [fdF] at d6
        have hRd : Rd wx r ((q1 + 1 + 1) + 1) := pk_now (hI (by simp [fdL])) d6.2
        have HSS := Lib.hid hS; clear hS hd hI
        go_simp
        refine (S_l20Kind r ((q1 + 1 + 1) + 1) 3 _ (by omega) (by omega) hRd (by omega)).mono ?_
        rintro _ w' ⟨⟨_, ⟨k1, n1, rfl, hn1, _, _⟩, rfl⟩, hRq, hX⟩
        refine HSS.out _ _ (exC_ex hC hX) (Or.inr ⟨by simp [fdL], hX, hRd, hRq⟩) ?_
        (simp only [List.nil_append, List.cons_append, List.length_cons, List.length_nil, Nat.reduceAdd, fdF])
        exact ⟨⟨k1, n1, hn1, rfl⟩, _, Nat.le_refl _, by omega, hRq⟩
      simp only [Act.put, List.setIfInBounds_toArray, List.set_cons_zero, List.set_cons_succ]
      refine wpRelyE_cons2 (d := 68) rfl rfl (fun wx hC hI hd S0 hS => ?_) (fun v11 => ?_)
      · have d8 := hd ⟨8, .data⟩ (by simp) rfl v8 (by simp)
        simp only [fdF] at d8
        obtain ⟨s8, hs8, d8⟩ := d8
        have d10 := hd ⟨10, .data⟩ (by simp) rfl v10 (by simp)
        simp only [fdF] at d10
        subst d8
        obtain ⟨⟨k1, n1, hn1, e10⟩, _⟩ := d10
        subst e10
        have HSS := Lib.hid hS; clear hS hd hI
        go_simp
        refine HSS.out _ _ (hC) (mvG_of (Below.refl _ _)) ?_
        (simp only [List.nil_append, List.cons_append, List.length_cons, List.length_nil, Nat.reduceAdd, fdF])
        exact ⟨s8, k1, n1, hs8, hn1, rfl⟩
      simp only [Act.put, List.setIfInBounds_toArray, List.set_cons_zero, List.set_cons_succ]
      refine wpRelyE_cons2 (d := 69) rfl rfl (fun wx hC hI hd S0 hS => ?_) (fun v12 => ?_)
      · have d11 := hd ⟨11, .data⟩ (by simp) rfl v11 (by simp)
        simp only [fdF] at d11
        obtain ⟨s, k, n, h1, h2, d11⟩ := d11
        subst d11
        have hzx := hC.size
        have HSS := Lib.hid hS; clear hS hd hI
        go_simp
        refine HSS.out _ _ (exC_next hC ((Below.refl _ _).alloc (Nat.le_refl _) _)) (mvG_of ((Below.refl _ _).alloc (Nat.le_refl _) _)) ?_
        (simp only [List.nil_append, List.cons_append, List.length_cons, List.length_nil, Nat.reduceAdd, fdF])
        exact ⟨s, k, n, _, h1, h2, rfl, hzx, heap_alloc_new wx _⟩
      simp only [Act.put, List.setIfInBounds_toArray, List.set_cons_zero, List.set_cons_succ]
      intro wE hC hF
      have f3 := hF 3 v3 (by simp) (fun _ _ => rfl)
      have f10 := hF 10 v10 (by simp) (fun _ _ => rfl)
      have f12 := hF 12 v12 (by simp) (fun _ _ => rfl)
      simp only [fdF] at f3 f10 f12
      obtain ⟨_, q3, hq31, hq32, RE⟩ := f10
      obtain ⟨s9, k9, n9, g9, hs9, hn9, rfl, hgB, hh9⟩ := f12
      have HAE := Lib.hid (HAD.out.go hC RE)
      have hzE := hC.size
      clear hF hC
      simp only [List.drop_succ_cons, List.drop_zero]
      refine wpList_append_F (B := wD.heap.size) (lo := w1.heap.size) (xs := x.fFields) (ys := [(⟨s9, ⟨k9, n9⟩⟩ : DClsField)]) (css := [[.string s9, .int .i64 k9, .string n9]]) (E := fun s => s ≠ 45) (by rfl) (.tmp 60) (.tmp 69) 34 (by rfl) sty_Fld (rClsField_goodT.mono fun _ h => h.elim) (fun h => h rfl) rClsField_one (by rfl) (by rfl) f3 (Src.at (cs := [.string s9, .int .i64 k9, .string n9]) hh9) (Rows.one rfl ⟨rfl, by unfold maxLen; show s9.size ≤ _; omega, by unfold maxLen; show n9.size ≤ _; omega⟩) (by simp; omega) hwD hzE ?_
      intro v9 wG htG hbG hgG hkG hatG
      obtain ⟨za, zc, rfl, hzc, hzcm⟩ := htG.sl.form
      have hzl : (x.fFields ++ [(⟨s9, ⟨k9, n9⟩⟩ : DClsField)]).length = zn + 1 := by have := HL1.out; simp; omega
      obtain ⟨HK, H4⟩ := HAE.out.fields (KeepsT.up hkG) (hbG.mono hwD) htG.sl (by omega)
      rw [hzl] at HK ⊢
      have HKH := Lib.hid HK
      obtain ⟨kl, k0, k1, k2, k3, kf0, kf1, kf2, kf3⟩ := H4
      clear htG hbG hgG hkG hatG HK f3 hh9
      go_wp2_with fail
      go_meet
      case rel => exact ⟨_, _, _, _, by omega, by show (x.fFields ++ _).length ≤ 10; omega, by show x.fMethods.length ≤ 10; omega, HKH.out⟩
    | 3, _ =>
      have hCr : C ≠ r := by have := HAD.out.low; omega
      have hCl : C < wD.heap.size := kl
      have hc2 := k2
      have hc3 := k3
      have hvm' : vc ≤ 9223372036854775807 := by unfold maxLen at hvm; omega
      have hum' : uc ≤ 9223372036854775807 := by unfold maxLen at hum; omega
      obtain ⟨fcss, hfs⟩ := HAD.out.f2.srcEx tClsMethod_goodT hrl
      have SRC : Hid (∀ wx, Ex r wD.heap.size wD wx → Src 8 wx (.slice ua zm uc) fcss) := Lib.hid fun wx h => (hfs wx h).1
      have ROWS : Hid (∀ wx, Ex r wD.heap.size wD wx → Rows 8 tClsMethod w1.heap.size wx fcss x.fMethods) := Lib.hid fun wx h => (hfs wx h).2
      have hwD : w1.heap.size ≤ wD.heap.size := HAD.out.ex.size
      clear hfs
      have EXA : ∀ o, Ex r wD.heap.size wD (wD.alloc o) := fun o => Ex.of_belowS ((Below.refl _ _).alloc (Nat.le_refl _) o)
      go_wp2_with (at_builtin; refine wpList_append_copy (lo := w1.heap.size) (B := wD.heap.size) (R := tClsMethod) (E := EClsMethod) (ys := x.fMethods) (css := fcss) (by rfl) (.tmp 74) (.tmp 76) 35 (by rfl) sty_Mth tClsMethod_goodT tClsMethod_one (by rfl) (by rfl) (Empty0.new wD _ (Nat.le_refl _)) (SRC.out _ (EXA _)) (ROWS.out _ (EXA _)) (by have := HL2.out; omega) hwD (by simp) ?_)
      intro vA wA htA hbA
      have hDA : Below wD.heap.size wD wA := ((Below.refl _ _).alloc (Nat.le_refl _) _).trans (hbA.mono (by simp))
      have HAA := Lib.hid (HAD.out.go (Ex.of_belowS hDA) (rd_below hDA HAD.out.rd hlD))
      have hzA := hDA.size
      obtain ⟨xa, xn, xc, rfl⟩ := htA.sl.form3
      have HTA := Lib.hid htA
      clear htA hbA hDA EXA SRC ROWS kl k0 k1 k2 k3 kf0 kf1 kf2 kf3 hc2 hc3
      go_wp2_with fail
      refine (S_l20Method r (q1 + 1 + 1) 2 _ (by omega) (by omega) HAA.out.rd (by omega)).mono ?_
      rintro _ wB ⟨m9, u1, u2, u3, q3, rfl, hm, hq3, RB, XB⟩
      obtain ⟨na1, nn1, nc1, rfl⟩ : ∃ a n c, u1 = .slice a n c := by obtain ⟨_, _, _, e, t, _⟩ := id hm; cases e; exact t.form3
      obtain ⟨na2, nn2, nc2, rfl⟩ : ∃ a n c, u2 = .slice a n c := by obtain ⟨_, _, _, e, _, t, _⟩ := id hm; cases e; exact t.form3
      obtain ⟨na3, nn3, nc3, rfl⟩ : ∃ a n c, u3 = .slice a n c := by obtain ⟨_, _, _, e, _, _, t, _⟩ := id hm; cases e; exact t.form3
      have hzB := XB.size
      have HAC := Lib.hid (HAA.out.go XB RB)
      have HTB := Lib.hid (HTA.out.exG tClsMethod_goodT XB hrl (Nat.le_refl _))
      have HM9 := Lib.hid (tClsMethod_goodT.low _ w1.heap.size _ _ _ (by omega) hm)
      clear HTA HAA XB RB hm
      go_wp2_with (at_builtin; refine wpList_append_F (B := wD.heap.size) (lo := w1.heap.size) (xs := x.fMethods) (ys := [m9]) (css := [[.string m9.fName, .slice na1 nn1 nc1, .int .i64 m9.fRet.fKind, .string m9.fRet.fName, .int .i64 m9.fLocals, .int .i64 m9.fStack, .slice na2 nn2 nc2, .slice na3 nn3 nc3]]) (E := fun s => s ≠ 29) (by rfl) (.tmp 77) (.tmp 80) 35 (by rfl) sty_Mth (tClsMethod_goodT.mono fun t ht e => EClsMethod_not (e ▸ ht)) (fun h => h rfl) tClsMethod_one (by rfl) (by rfl) (HTB.out.below tClsMethod_goodT ((Below.refl _ _).alloc (Nat.le_refl _) _)) (Src.lit (css := [[.string m9.fName, .slice na1 nn1 nc1, .int .i64 m9.fRet.fKind, .string m9.fRet.fName, .int .i64 m9.fLocals, .int .i64 m9.fStack, .slice na2 nn2 nc2, .slice na3 nn3 nc3]]) wB _ rfl 1 rfl _ rfl) (Rows.one rfl (tClsMethod_goodT.stays _ _ _ _ _ (KeepsT.of_below ((Below.refl _ _).alloc (Nat.le_refl _) _)) HM9.out)) (by have := HL2.out; simp; omega) hwD (by simp; omega) ?_)
      intro v9 wG htG hbG hgG hkG hatG
      have HAE := Lib.hid (HAC.out.go (Ex.of_belowS ((Below.refl wB.heap.size wB).alloc (Nat.le_refl _) (.cells #[.string m9.fName, .slice na1 nn1 nc1, .int .i64 m9.fRet.fKind, .string m9.fRet.fName, .int .i64 m9.fLocals, .int .i64 m9.fStack, .slice na2 nn2 nc2, .slice na3 nn3 nc3] 29))) (HAC.out.rd.alloc _))
      obtain ⟨za, zc, rfl, hzc, hzcm⟩ := htG.sl.form
      have hzl : (x.fMethods ++ [m9]).length = zm + 1 := by have := HL2.out; simp; omega
      obtain ⟨HK, H4⟩ := HAE.out.methods (KeepsT.up hkG) (hbG.mono hwD) htG.sl (by omega)
      rw [hzl] at HK ⊢
      have HKH := Lib.hid HK
      obtain ⟨kl, k0, k1, k2, k3, kf0, kf1, kf2, kf3⟩ := H4
      clear htG hbG hgG hkG hatG HK HTB HM9
      go_wp2_with fail
      go_meet
      case rel => exact ⟨_, _, _, _, by omega, by show x.fFields.length ≤ 10; omega, by show (x.fMethods ++ _).length ≤ 10; omega, HKH.out⟩
    | 4, _ =>
      have hum' : uc ≤ 9223372036854775807 := by unfold maxLen at hum; omega
      clear kl k0 k1 k2 k3 kf0 kf1 kf2 kf3
      go_wp2_with fail
      go_loopw [] (fun wr => ∃ (x' : DClsClass) (va : Option Addr) (zn vc : Nat), KAt C w.heap.size r (q1 + 1 + 1) w1 wr x' (.slice va zn vc) (.slice ua zm uc) ∧ x'.fFields.length = zn ∧ zn ≤ 7 ∧ x'.fMethods = x.fMethods) (fun wr => 8 - lenAtO wr C 2)
      case atStart => exact ⟨x, va, zn, vc, HAD.out, HL1.out.symm, by omega, rfl⟩
      case round =>
        obtain ⟨x', va, zn, vc, hA, hln, hz7', hms⟩ := hrel
        have HA := Lib.hid hA
        have HLN := Lib.hid hln
        have HMS := Lib.hid hms
        obtain ⟨kl, k0, k1, k2, k3, kf0, kf1, kf2, kf3⟩ := hA.four
        have hc2 := k2
        have hCl : C < wr.heap.size := kl
        have hm0 : lenAtO wr C 2 = zn := lenAtO_of k2
        have hvm : vc ≤ maxLen ∧ zn ≤ vc := by obtain ⟨_, _, e, h1, h2⟩ := hA.f1.form; cases e; omega
        have hvm' : vc ≤ 9223372036854775807 := by unfold maxLen at hvm; omega
        clear hA hln hms
        by_cases h5 : zn ≤ 3
        · have h5' : (zn : Int) ≤ 3 := by omega
          have hk9 : IntKind.i64.wrap ((zn : Int) + 1) = (zn : Int) + 1 := IntWalk.i64_in _ (by omega)
          go_wp2_with fail
          refine wp_region_relyE 14 (Below wr.heap.size wr) (fun _ w1 w2 => Below w1.heap.size w1 w2) (fun _ => f3F wr.heap.size C zn (.slice va zn vc)) (fun _ _ => True) noDead (by kernel_rfl) (by decide) (by kernel_rfl) (Or.inr ⟨by kernel_rfl, by kernel_rfl⟩) (by kernel_rfl) ((Below.refl _ _).drew) (fun _ _ _ _ _ _ _ _ _ h => h) noDead_dead (fun _ => trivial) (fun _ _ _ _ _ _ _ _ => trivial) (fun _ i j u w1 w2 hne _ _ hg hF => f3F_stays i j u w1 w2 hne hg hF) (fun _ _ _ => Below.refl _ _) ?_
          refine wpRelyE_cons2 (d := 89) rfl rfl (fun wx hC hI hd S0 hS => ?_) (fun v0 => ?_)
          · have HSS := Lib.hid hS; clear hS hd hI
            go_simp
            exact HSS.out _ _ hC (Below.refl _ _) (by simp [f3F])
          simp only [Act.put, List.setIfInBounds_toArray, List.set_cons_zero, List.set_cons_succ]
          refine wpRelyE_cons2 (d := 90) rfl rfl (fun wx hC hI hd S0 hS => ?_) (fun v1 => ?_)
          · have d0 := hd ⟨0, .data⟩ (by simp) rfl v0 (by simp)
            simp only [f3F] at d0
            subst d0
            have c0 := (cell_of_heap (o := 2) (hC.block C hCl)).trans hc2
            have HSS := Lib.hid hS; clear hS hd hI
            go_simp
            exact HSS.out _ _ hC (Below.refl _ _) (by simp [f3F])
          simp only [Act.put, List.setIfInBounds_toArray, List.set_cons_zero, List.set_cons_succ]
          refine wpRelyE_cons2 (d := 91) rfl rfl (fun wx hC hI hd S0 hS => ?_) (fun v2 => ?_)
          · have HSS := Lib.hid hS; clear hS hd hI
            go_simp
            exact HSS.out _ _ hC (Below.refl _ _) (by simp [f3F])
          simp only [Act.put, List.setIfInBounds_toArray, List.set_cons_zero, List.set_cons_succ]
          refine wpRelyE_cons2 (d := 92) rfl rfl (fun wx hC hI hd S0 hS => ?_) (fun v3 => ?_)
          · have d2 := hd ⟨2, .data⟩ (by simp) rfl v2 (by simp)
            simp only [f3F] at d2
            subst d2
            have c0 := (cell_of_heap (o := 2) (hC.block C hCl)).trans hc2
            have HSS := Lib.hid hS; clear hS hd hI
            go_simp
            exact HSS.out _ _ hC (Below.refl _ _) (by simp [f3F])
          simp only [Act.put, List.setIfInBounds_toArray, List.set_cons_zero, List.set_cons_succ]
          refine wpRelyE_cons2 (d := 93) rfl rfl (fun wx hC hI hd S0 hS => ?_) (fun v4 => ?_)
          · have d3 := hd ⟨3, .data⟩ (by simp) rfl v3 (by simp)
            simp only [f3F] at d3
            subst d3
            have HSS := Lib.hid hS; clear hS hd hI
            go_simp
            exact HSS.out _ _ hC (Below.refl _ _) (by simp [f3F])
          simp only [Act.put, List.setIfInBounds_toArray, List.set_cons_zero, List.set_cons_succ]
          refine wpRelyE_cons2 (d := 94) rfl rfl (fun wx hC hI hd S0 hS => ?_) (fun v5 => ?_)
          · have HSS := Lib.hid hS; clear hS hd hI
            go_simp
            exact HSS.out _ _ hC (Below.refl _ _) (by simp [f3F])
          simp only [Act.put, List.setIfInBounds_toArray, List.set_cons_zero, List.set_cons_succ]
          refine wpRelyE_cons2 (d := 95) rfl rfl (fun wx hC hI hd S0 hS => ?_) (fun v6 => ?_)
          · have d5 := hd ⟨5, .data⟩ (by simp) rfl v5 (by simp)
            simp only [f3F] at d5
            subst d5
            have c0 := (cell_of_heap (o := 2) (hC.block C hCl)).trans hc2
            have HSS := Lib.hid hS; clear hS hd hI
            go_simp
            exact HSS.out _ _ hC (Below.refl _ _) (by simp [f3F])
          simp only [Act.put, List.setIfInBounds_toArray, List.set_cons_zero, List.set_cons_succ]
          refine wpRelyE_cons2 (d := 96) rfl rfl (fun wx hC hI hd S0 hS => ?_) (fun v7 => ?_)
          · have d6 := hd ⟨6, .data⟩ (by simp) rfl v6 (by simp)
            simp only [f3F] at d6
            subst d6
            have HSS := Lib.hid hS; clear hS hd hI
            go_simp
            exact HSS.out _ _ hC (Below.refl _ _) (by simp [f3F])
          simp only [Act.put, List.setIfInBounds_toArray, List.set_cons_zero, List.set_cons_succ]
          refine wpRelyE_cons2 (d := 97) rfl rfl (fun wx hC hI hd S0 hS => ?_) (fun v8 => ?_)
          · have d7 := hd ⟨7, .data⟩ (by simp) rfl v7 (by simp)
            simp only [f3F] at d7
            subst d7
            have HSS := Lib.hid hS; clear hS hd hI
            go_simp
            exact HSS.out _ _ hC (Below.refl _ _) (by simp [f3F])
          simp only [Act.put, List.setIfInBounds_toArray, List.set_cons_zero, List.set_cons_succ]
          refine wpRelyE_cons2 (d := 98) rfl rfl (fun wx hC hI hd S0 hS => ?_) (fun v9 => ?_)
          · have d4 := hd ⟨4, .data⟩ (by simp) rfl v4 (by simp)
            simp only [f3F] at d4
            subst d4
            have d8 := hd ⟨8, .data⟩ (by simp) rfl v8 (by simp)
            simp only [f3F] at d8
            subst d8
            have h6 : zn = 0 ∨ zn = 1 ∨ zn = 2 ∨ zn = 3 := by omega
            clear hc2 hk9 h5 h5'
            have HSS := Lib.hid hS; clear hS hd hI
            rcases h6 with h6 | h6 | h6 | h6 <;> (rw [h6]; go_simp; exact HSS.out _ _ hC (Below.refl _ _) (by (simp only [List.nil_append, List.cons_append, List.length_cons, List.length_nil, Nat.reduceAdd, f3F]); exact ⟨_, rfl⟩))
          simp only [Act.put, List.setIfInBounds_toArray, List.set_cons_zero, List.set_cons_succ]
          refine wpRelyE_cons2 (d := 99) rfl rfl (fun wx hC hI hd S0 hS => ?_) (fun v10 => ?_)
          · have d9 := hd ⟨9, .data⟩ (by simp) rfl v9 (by simp)
            simp only [f3F] at d9
            obtain ⟨c, d9⟩ := d9
            subst d9
            have HSS := Lib.hid hS; clear hS hd hI
            go_simp
            exact HSS.out _ _ hC (Below.refl _ _) (by (simp only [List.nil_append, List.cons_append, List.length_cons, List.length_nil, Nat.reduceAdd, f3F]); exact ⟨c, rfl⟩)
          simp only [Act.put, List.setIfInBounds_toArray, List.set_cons_zero, List.set_cons_succ]
          refine wpRelyE_cons2 (d := 100) rfl rfl (fun wx hC hI hd S0 hS => ?_) (fun v11 => ?_)
          · have HSS := Lib.hid hS; clear hS hd hI
            go_simp
            exact HSS.out _ _ hC (Below.refl _ _) (by simp [f3F])
          simp only [Act.put, List.setIfInBounds_toArray, List.set_cons_zero, List.set_cons_succ]
          refine wpRelyE_cons2 (d := 101) rfl rfl (fun wx hC hI hd S0 hS => ?_) (fun v12 => ?_)
          · have d10 := hd ⟨10, .data⟩ (by simp) rfl v10 (by simp)
            simp only [f3F] at d10
            obtain ⟨c, d10⟩ := d10
            have d11 := hd ⟨11, .data⟩ (by simp) rfl v11 (by simp)
            simp only [f3F] at d11
            subst d11
            subst d10
            have HSS := Lib.hid hS; clear hS hd hI
            go_simp
            exact HSS.out _ _ hC (Below.refl _ _) (by (simp only [List.nil_append, List.cons_append, List.length_cons, List.length_nil, Nat.reduceAdd, f3F]); exact ⟨c, rfl⟩)
          simp only [Act.put, List.setIfInBounds_toArray, List.set_cons_zero, List.set_cons_succ]
          refine wpRelyE_cons2 (d := 102) rfl rfl (fun wx hC hI hd S0 hS => ?_) (fun v13 => ?_)
          · have d12 := hd ⟨12, .data⟩ (by simp) rfl v12 (by simp)
            simp only [f3F] at d12
            obtain ⟨c, d12⟩ := d12
            subst d12
            have hzx := hC.size
            have HSS := Lib.hid hS; clear hS hd hI
            go_simp
            refine HSS.out _ _ (hC.alloc hzx _) ((Below.refl _ _).alloc (Nat.le_refl _) _) ?_
            (simp only [List.nil_append, List.cons_append, List.length_cons, List.length_nil, Nat.reduceAdd, f3F])
            exact ⟨c, _, rfl, hzx, heap_alloc_new wx _⟩
          simp only [Act.put, List.setIfInBounds_toArray, List.set_cons_zero, List.set_cons_succ]
          intro w5 hC hF
          have f1 := hF 1 v1 (by simp) (fun _ _ => rfl)
          have f13 := hF 13 v13 (by simp) (fun _ _ => rfl)
          simp only [f3F] at f1 f13
          obtain ⟨c9, g9, e12, hg9, hh9⟩ := f13
          subst f1; subst e12
          have HA5 := Lib.hid (HA.out.go (Ex.of_belowS hC) (rd_below hC HA.out.rd HA.out.rd.lt))
          have hz5 := hC.size
          have hwr : w1.heap.size ≤ wr.heap.size := HA.out.ex.size
          have hv5 : TOwn 3 rClsField 45 w1.heap.size w1.heap.size w5 (.slice va zn vc) x'.fFields := ⟨HA5.out.f1, fun b hb => HA5.out.f1.at_lo b hb⟩
          clear hF hC kl k0 k1 k2 k3 kf0 kf1 kf2 kf3 hc2
          simp only [List.drop_succ_cons, List.drop_zero]
          refine wpList_append_F (B := w1.heap.size) (lo := w1.heap.size) (xs := x'.fFields) (ys := [(⟨⟨#[102, c9]⟩, ⟨1, ⟨#[]⟩⟩⟩ : DClsField)]) (css := [[.string ⟨#[102, c9]⟩, .int .i64 1, .string ⟨#[]⟩]]) (E := fun s => s ≠ 45) (by rfl) (.tmp 90) (.tmp 102) 34 (by rfl) sty_Fld (rClsField_goodT.mono fun _ h => h.elim) (fun h => h rfl) rClsField_one (by rfl) (by rfl) hv5 (Src.at (cs := [.string ⟨#[102, c9]⟩, .int .i64 1, .string ⟨#[]⟩]) hh9) (Rows.one rfl ⟨rfl, by show 2 ≤ maxLen; unfold maxLen; omega, Nat.zero_le _⟩) (by have := HLN.out; simp; omega) (Nat.le_refl _) (by omega) ?_
          intro v9 wG htG hbG hgG hkG hatG
          obtain ⟨za, zc, rfl, hzc, hzcm⟩ := htG.sl.form
          have hzl : (x'.fFields ++ [(⟨⟨#[102, c9]⟩, ⟨1, ⟨#[]⟩⟩⟩ : DClsField)]).length = zn + 1 := by have := HLN.out; simp; omega
          obtain ⟨HK, H4⟩ := HA5.out.fields (KeepsT.up hkG) hbG htG.sl (by omega)
          rw [hzl] at HK ⊢
          have HKH := Lib.hid HK
          have hmz : lenAtO (wG.setCell ⟨C, 2, none⟩ (.slice za (zn + 1) zc)) C 2 = zn + 1 := lenAtO_of HK.four.c2
          obtain ⟨kl, k0, k1, k2, k3, kf0, kf1, kf2, kf3⟩ := H4
          clear htG hbG hgG hkG hatG HK hv5 hh9
          go_wp2_with fail
          go_roundw
          case measure => rw [hmz, hm0]; omega
          case rel => exact ⟨_, za, zn + 1, zc, HKH.out, hzl, by omega, HMS.out⟩
        · have h5' : ¬ (zn : Int) ≤ 3 := by omega
          go_wp2_with fail
          go_meet
          case rel => exact ⟨_, _, _, _, by omega, by have := HLN.out; omega, by rw [HMS.out]; omega, HA.out⟩
    | 5, _ =>
      have hvm' : vc ≤ 9223372036854775807 := by unfold maxLen at hvm; omega
      clear kl k0 k1 k2 k3 kf0 kf1 kf2 kf3
      go_wp2_with fail
      go_loopw [] (fun wr => ∃ (x' : DClsClass) (ua : Option Addr) (zm uc q9 : Nat), KAt C w.heap.size r q9 w1 wr x' (.slice va zn vc) (.slice ua zm uc) ∧ x'.fMethods.length = zm ∧ zm ≤ 7 ∧ x'.fFields = x.fFields ∧ q9 ≤ q1 + 2 + 100 * zm) (fun wr => 8 - lenAtO wr C 3)
      case atStart => exact ⟨x, ua, zm, uc, q1 + 1 + 1, HAD.out, HL2.out.symm, by omega, rfl, by omega⟩
      case round =>
        obtain ⟨x', ua, zm, uc, q9, hA, hln, hz7', hms, hq9⟩ := hrel
        have HA := Lib.hid hA
        have HLN := Lib.hid hln
        have HMS := Lib.hid hms
        obtain ⟨kl, k0, k1, k2, k3, kf0, kf1, kf2, kf3⟩ := hA.four
        have hc3 := k3
        have hCl : C < wr.heap.size := kl
        have hCr : C ≠ r := by have := hA.low; omega
        have hlr : r < wr.heap.size := hA.rd.lt
        have hm0 : lenAtO wr C 3 = zm := lenAtO_of k3
        have hvm2 : uc ≤ maxLen ∧ zm ≤ uc := by obtain ⟨_, _, e, h1, h2⟩ := hA.f2.form; cases e; omega
        have hvm3 : uc ≤ 9223372036854775807 := by unfold maxLen at hvm2; omega
        clear hA hln hms
        by_cases h5 : zm ≤ 4
        · have h5' : (zm : Int) ≤ 4 := by omega
          go_wp2_with fail
          refine wp_region_relyE 5 (Ex r wr.heap.size wr) (drawG 3 r) (fun _ => m3F wr.heap.size w1.heap.size r q9 C (.slice ua zm uc)) (drawI 3 r q9) noDead (by kernel_rfl) (by decide) (by kernel_rfl) (Or.inr ⟨by kernel_rfl, by kernel_rfl⟩) (by kernel_rfl) ((Ex.refl _ _ _).drew) (fun _ _ _ _ _ _ _ _ _ h => h) noDead_dead (fun _ _ => HA.out.rd.drew) (fun i j w1 w2 hne _ hg h => drawI_stays i j w1 w2 hne hg h) (fun _ i j u w1 w2 hne _ _ hg hF => m3F_stays hlr hrl i j u w1 w2 hne hg hF) (fun _ _ _ => Or.inr (Below.refl _ _)) ?_
          refine wpRelyE_cons2 (d := 42) rfl rfl (fun wx hC hI hd S0 hS => ?_) (fun v0 => ?_)
          · have HSS := Lib.hid hS; clear hS hd hI
            go_simp
            exact HSS.out _ _ hC (Or.inr (Below.refl _ _)) (by simp [m3F])
          simp only [Act.put, List.setIfInBounds_toArray, List.set_cons_zero, List.set_cons_succ]
          refine wpRelyE_cons2 (d := 43) rfl rfl (fun wx hC hI hd S0 hS => ?_) (fun v1 => ?_)
          · have d0 := hd ⟨0, .data⟩ (by simp) rfl v0 (by simp)
            simp only [m3F] at d0
            subst d0
            have c0 := (cell_of_heap (hC.block C hCr hCl)).trans hc3
            have HSS := Lib.hid hS; clear hS hd hI
            go_simp
            exact HSS.out _ _ hC (Or.inr (Below.refl _ _)) (by simp [m3F])
          simp only [Act.put, List.setIfInBounds_toArray, List.set_cons_zero, List.set_cons_succ]
          refine wpRelyE_cons2 (d := 44) rfl rfl (fun wx hC hI hd S0 hS => ?_) (fun v2 => ?_)
          · have HSS := Lib.hid hS; clear hS hd hI
            go_simp
            exact HSS.out _ _ hC (Or.inr (Below.refl _ _)) (by simp [m3F])
          simp only [Act.put, List.setIfInBounds_toArray, List.set_cons_zero, List.set_cons_succ]
          refine wpRelyE_cons2 (d := 45) rfl rfl (fun wx hC hI hd S0 hS => ?_) (fun v3 => ?_)
          · have d2 := hd ⟨2, .data⟩ (by simp) rfl v2 (by simp)
            simp only [m3F] at d2
            subst d2
            have hRd : Rd wx r q9 := hI rfl
            have hzx := hC.size
            have HSS := Lib.hid hS; clear hS hd hI
            go_simp
            refine (S_l20Method r q9 99999 _ (by omega) (by omega) hRd (by omega)).mono ?_
            rintro _ w' ⟨m, u1, u2, u3, q', rfl, hm, hq', hRq, hX⟩
            obtain ⟨na1, nn1, nc1, rfl⟩ : ∃ a n c, u1 = .slice a n c := by obtain ⟨_, _, _, e, t, _⟩ := id hm; cases e; exact t.form3
            obtain ⟨na2, nn2, nc2, rfl⟩ : ∃ a n c, u2 = .slice a n c := by obtain ⟨_, _, _, e, _, t, _⟩ := id hm; cases e; exact t.form3
            obtain ⟨na3, nn3, nc3, rfl⟩ : ∃ a n c, u3 = .slice a n c := by obtain ⟨_, _, _, e, _, _, t, _⟩ := id hm; cases e; exact t.form3
            refine HSS.out _ _ (exC_ex hC hX) (Or.inl ⟨rfl, hX⟩) ?_
            (simp only [List.nil_append, List.cons_append, List.length_cons, List.length_nil, Nat.reduceAdd, m3F])
            exact ⟨m, _, _, _, q', rfl, tClsMethod_goodT.low _ _ _ _ _ (by omega) hm, hq', hRq⟩
          simp only [Act.put, List.setIfInBounds_toArray, List.set_cons_zero, List.set_cons_succ]
          refine wpRelyE_cons2 (d := 46) rfl rfl (fun wx hC hI hd S0 hS => ?_) (fun v4 => ?_)
          · have d3 := hd ⟨3, .data⟩ (by simp) rfl v3 (by simp)
            simp only [m3F] at d3
            obtain ⟨m, u1, u2, u3, q', d3, hm, _, _⟩ := d3
            subst d3
            have hzx := hC.size
            have HSS := Lib.hid hS; clear hS hd hI
            have hb8 := run_one sty_Mth [.string m.fName, u1, .int .i64 m.fRet.fKind, .string m.fRet.fName, .int .i64 m.fLocals, .int .i64 m.fStack, u2, u3] rfl (by decide) wx
            refine wp_buildOne rfl rfl hb8 ⟨put_defers' _ _ _, ?_⟩
            rw [eval_put_self (by simp)]
            refine HSS.out _ _ (exC_next hC ((Below.refl _ _).alloc (Nat.le_refl _) _)) (Or.inr ((Below.refl _ _).alloc (Nat.le_refl _) _)) ?_
            (simp only [List.nil_append, List.cons_append, List.length_cons, List.length_nil, Nat.reduceAdd, m3F])
            exact ⟨m, u1, u2, u3, _, rfl, hzx, heap_alloc_new wx _, tClsMethod_goodT.stays _ _ _ _ _ (KeepsT.of_below ((Below.refl _ _).alloc (Nat.le_refl _) _)) hm⟩
          simp only [Act.put, List.setIfInBounds_toArray, List.set_cons_zero, List.set_cons_succ]
          intro w5 hC hF
          have f1 := hF 1 v1 (by simp) (fun _ _ => rfl)
          have f3 := hF 3 v3 (by simp) (fun _ _ => rfl)
          have f4 := hF 4 v4 (by simp) (fun _ _ => rfl)
          simp only [m3F] at f1 f3 f4
          obtain ⟨_, _, _, _, q3, _, _, hq3, RE⟩ := f3
          obtain ⟨m9, u1, u2, u3, g9, e12, hg9, hh9, hm9⟩ := f4
          subst f1; subst e12
          have HA5 := Lib.hid (HA.out.go hC RE)
          have hz5 := hC.size
          have hwr : w1.heap.size ≤ wr.heap.size := HA.out.ex.size
          have hv5 : TOwn 8 tClsMethod 29 w1.heap.size w1.heap.size w5 (.slice ua zm uc) x'.fMethods := ⟨HA5.out.f2, fun b hb => HA5.out.f2.at_lo b hb⟩
          clear hF hC kl k0 k1 k2 k3 kf0 kf1 kf2 kf3 hc3
          simp only [List.drop_succ_cons, List.drop_zero]
          refine wpList_append_F (B := w1.heap.size) (lo := w1.heap.size) (xs := x'.fMethods) (ys := [m9]) (css := [[.string m9.fName, u1, .int .i64 m9.fRet.fKind, .string m9.fRet.fName, .int .i64 m9.fLocals, .int .i64 m9.fStack, u2, u3]]) (E := fun s => s ≠ 29) (by rfl) (.tmp 43) (.tmp 46) 35 (by rfl) sty_Mth (tClsMethod_goodT.mono fun t ht e => EClsMethod_not (e ▸ ht)) (fun h => h rfl) tClsMethod_one (by rfl) (by rfl) hv5 (Src.at (cs := [.string m9.fName, u1, .int .i64 m9.fRet.fKind, .string m9.fRet.fName, .int .i64 m9.fLocals, .int .i64 m9.fStack, u2, u3]) hh9) (Rows.one rfl hm9) (by have := HLN.out; simp; omega) (Nat.le_refl _) (by omega) ?_
          intro v9 wG htG hbG hgG hkG hatG
          obtain ⟨za, zc, rfl, hzc, hzcm⟩ := htG.sl.form
          have hzl : (x'.fMethods ++ [m9]).length = zm + 1 := by have := HLN.out; simp; omega
          obtain ⟨HK, H4⟩ := HA5.out.methods (KeepsT.up hkG) hbG htG.sl (by omega)
          rw [hzl] at HK ⊢
          have HKH := Lib.hid HK
          have hmz : lenAtO (wG.setCell ⟨C, 3, none⟩ (.slice za (zm + 1) zc)) C 3 = zm + 1 := lenAtO_of HK.four.c3
          obtain ⟨kl, k0, k1, k2, k3, kf0, kf1, kf2, kf3⟩ := H4
          clear htG hbG hgG hkG hatG HK hv5 hh9 hm9
          go_wp2_with fail
          go_roundw
          case measure => rw [hmz, hm0]; omega
          case rel => exact ⟨_, za, zm + 1, zc, q3, HKH.out, hzl, by omega, HMS.out, by omega⟩
        · have h5' : ¬ (zm : Int) ≤ 4 := by omega
          go_wp2_with fail
          go_meet
          case rel => exact ⟨_, _, _, _, by omega, by rw [HMS.out]; omega, by have := HLN.out; omega, HA.out⟩
  case rest =>
  clear HAB
  obtain ⟨x, v1, v2, q2, hq2, hx1, hx2, A⟩ := hcut
  obtain ⟨va, vc, rfl, _, _⟩ := A.f1.form
  obtain ⟨ua, uc, rfl, _, _⟩ := A.f2.form
  have HA := Lib.hid A
  have hrg := A.four.range
  have hTh := A.res.there
  have hRl := A.res.lt
  have HKC : Hid ((Try.prog.info? 37).map (·.size) = some 4) := Lib.hid (by kernel_rfl)
  clear A
  go_wp2_with (first | (refine wpList_load_mid (by rfl) 37 (.tmp 5) (by rfl) C 0 ?hx [.string x.fName, .string x.fSuper, .slice va x.fFields.length vc, .slice ua x.fMethods.length uc] _ ?hr Try.underlying37 (by rfl) HKC.out ?_) | (refine wpList_store_rowT (by rfl) 37 (.tmp 2) (.tmp 105) (by rfl) w.heap.size [.string x.fName, .string x.fSuper, .slice va x.fFields.length vc, .slice ua x.fMethods.length uc] (by rfl) (by rfl) hTh HKC.out (by intro v hv; simp at hv; rcases hv with rfl | rfl | rfl | rfl <;> rfl) ?_))
  case hx => rfl
  case hr => exact hrg
  intro wz hrz htz hTz hYz
  obtain ⟨lz, z0, z1, z2, z3, _, _, _, _⟩ := Four.ofR (by rw [← hTz.size]; exact hRl) hrz htz
  have HTz := Lib.hid hTz
  clear hrz htz hTz hTh hrg
  have hkz : Hid (KeepsT (fun _ => True) w1.heap.size _ wz) := Lib.hid ⟨Nat.le_of_eq HTz.out.size, fun g cs e fr hl _ hg => HTz.out.block g (by have := HA.out.low; omega)⟩
  go_wp2
  all_goals
    refine bodyPost_ret (v := ?_) ?hrun rfl ?_
    case hrun => (simp only [results, Try.results22]; go_simp; first | done | exact rfl)
    exact HR.out _ _ ⟨x, _, _, w1.heap.size, rfl, TSl.stays (E := fun _ => True) (rClsField_goodT.mono fun _ _ => trivial) trivial HA.out.f1 hkz.out, TSl.stays (E := fun _ => True) (tClsMethod_goodT.mono fun _ _ => trivial) trivial HA.out.f2 hkz.out, HA.out.n1, HA.out.n2, hx1, hx2, by have := HA.out.low; omega, HBW.out.trans (((HA.out.ex.mono (by have := HBW.out.size; omega)).below (by omega)).trans (HTz.out.below (Nat.le_refl _)))⟩

end Go.Proofs.Ytcdmmnfdnmjnpaa
