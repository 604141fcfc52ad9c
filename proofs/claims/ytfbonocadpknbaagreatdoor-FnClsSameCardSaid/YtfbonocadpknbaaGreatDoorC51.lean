/-
  Texts of mine, packed: DrawCS. No condition beside those of the single theorems.
-/
import Derived.Test.YtfbonocadpknbaaGreatDoorC19
import Derived.Test.YtfbonocadpknbaaGreatDoorC18
set_option linter.unusedSimpArgs false
set_option linter.unusedVariables false
set_option maxHeartbeats 16000000
set_option maxRecDepth 100000
namespace Go.Proofs.YtfbonocadpknbaaGreatDoor
open Go.RowKit
structure CSt (r Q A B : Nat) (qv : Value) (w3 wx : World) (q : Nat) (a0 a1 a2 a3 b0 b1 b2 b3 : Value) : Prop where
 fa : Four wx A a0 a1 a2 a3
 fb : Four wx B b0 b1 b2 b3
 qc : wx.cell? ⟨Q, 0, none⟩ = some qv
 rd : Rd wx r q
 ex : Ex r w3.heap.size w3 wx
 low : r < w3.heap.size ∧ w3.heap.size ≤ Q ∧ Q < A ∧ A < B
theorem CSt.go {r Q A B : Nat} {qv : Value} {w3 wx wy : World} {q q2 : Nat} {a0 a1 a2 a3 b0 b1 b2 b3 : Value} (h : CSt r Q A B qv w3 wx q a0 a1 a2 a3 b0 b1 b2 b3) (he : Ex r wx.heap.size wx wy) (hr : Rd wy r q2) : CSt r Q A B qv w3 wy q2 a0 a1 a2 a3 b0 b1 b2 b3 := by
 obtain ⟨l1, l2, l3, l4⟩ := h.low
 have hA := h.fa.lt
 have hB := h.fb.lt
 exact ⟨h.fa.kept he.size (he.block A (by omega) hA), h.fb.kept he.size (he.block B (by omega) hB), (qag (he.block Q (by omega) (by omega))).trans h.qc, hr, h.ex.trans (he.mono h.ex.size), h.low⟩
theorem CSt.below {r Q A B : Nat} {qv : Value} {w3 wx wy : World} {q : Nat} {a0 a1 a2 a3 b0 b1 b2 b3 : Value} (h : CSt r Q A B qv w3 wx q a0 a1 a2 a3 b0 b1 b2 b3) (he : Below wx.heap.size wx wy) : CSt r Q A B qv w3 wy q a0 a1 a2 a3 b0 b1 b2 b3 := h.go (Ex.of_belowS he) (rd_below he h.rd h.rd.lt)
theorem CSt.setA {r Q A B : Nat} {qv : Value} {w3 wx wy : World} {q : Nat} {a0 a1 a2 a3 b0 b1 b2 b3 c0 c1 c2 c3 : Value} (h : CSt r Q A B qv w3 wx q a0 a1 a2 a3 b0 b1 b2 b3) (hT : Turn A wx wy) (hr : wy.rangeAt A 0 [c0, c1, c2, c3]) (ht : wy.there A 0 4) : CSt r Q A B qv w3 wy q c0 c1 c2 c3 b0 b1 b2 b3 := by
 obtain ⟨l1, l2, l3, l4⟩ := h.low
 have hA := h.fa.lt
 have hz : wx.heap.size ≤ wy.heap.size := Nat.le_of_eq hT.size
 exact ⟨Four.ofR (by omega) hr ht, h.fb.kept hz (hT.block B (by omega)), (hT.cell (by omega)).trans h.qc, rd_below (hT.below (Nat.le_refl A)) h.rd (by omega), h.ex.trans (hT.ex (by omega)), h.low⟩
theorem CSt.setB {r Q A B : Nat} {qv : Value} {w3 wx wy : World} {q : Nat} {a0 a1 a2 a3 b0 b1 b2 b3 c0 c1 c2 c3 : Value} (h : CSt r Q A B qv w3 wx q a0 a1 a2 a3 b0 b1 b2 b3) (hT : Turn B wx wy) (hr : wy.rangeAt B 0 [c0, c1, c2, c3]) (ht : wy.there B 0 4) : CSt r Q A B qv w3 wy q a0 a1 a2 a3 c0 c1 c2 c3 := by
 obtain ⟨l1, l2, l3, l4⟩ := h.low
 have hB := h.fb.lt
 have hz : wx.heap.size ≤ wy.heap.size := Nat.le_of_eq hT.size
 exact ⟨h.fa.kept hz (hT.block A (by omega)), Four.ofR (by omega) hr ht, (hT.cell (by omega)).trans h.qc, rd_below (hT.below (Nat.le_refl B)) h.rd (by omega), h.ex.trans (hT.ex (by omega)), h.low⟩
def CS2 (w : World) (e : Ending) (w' : World) : Prop := (∃ (a b : DClsClass) (x2 x3 y2 y3 : Value), e = .returned (.tuple #[.agg #[.string a.fName, .string a.fSuper, x2, x3], .agg #[.string b.fName, .string b.fSuper, y2, y3]]) ∧ rClsClass 0 w' [.string a.fName, .string a.fSuper, x2, x3] a ∧ rClsClass 0 w' [.string b.fName, .string b.fSuper, y2, y3] b) ∧ Below w.heap.size w w'
theorem cls_none (lo : Nat) (w : World) : rClsClass lo w [.string ⟨#[]⟩, .string ⟨#[]⟩, .slice none 0 0, .slice none 0 0] ⟨⟨#[]⟩, ⟨#[]⟩, [], []⟩ :=
 ⟨_, _, rfl, ⟨none, 0, 0, rfl, rfl, Nat.le_refl _, by decide, fun h => absurd h (by omega)⟩, ⟨none, 0, 0, rfl, rfl, Nat.le_refl _, by decide, fun h => absurd h (by omega)⟩, by decide, by decide⟩
theorem own_mths {p : DLodPlan} {i j : Nat} {k : DLodKeeper} {c : DClsClass} (h : lodOk p = true) (hk : p.fKeepers[i]? = some k) (hc : k.fOwns[j]? = some c) : c.fMethods.length ≤ 4 := by
 have hk2 := keeperOk_parts (lodOk_keeper h hk)
 have h3 := each_iff.1 hk2.2.2.1 _ c hc
 simp only [ownIn, Bool.and_eq_true] at h3
 have h4 := h3.1
 unfold clsOk at h4
 simp only [Bool.and_eq_true, decide_eq_true_eq] at h4
 omega
theorem CSt.set3 {r Q A B : Nat} {qv : Value} {w3 wx : World} {q : Nat} {a0 a1 a2 a3 b0 b1 b2 b3 : Value} (h : CSt r Q A B qv w3 wx q a0 a1 a2 a3 b0 b1 b2 b3) (v : Value) : CSt r Q A B qv w3 (wx.setCell ⟨B, 3, none⟩ v) q a0 a1 a2 a3 b0 b1 b2 v := by
 obtain ⟨l1, l2, l3, l4⟩ := h.low
 refine ⟨h.fa.kept (by simp [World.setCell]) (Below.heap_setCell _ _ _ _ (by show A ≠ B; omega)), by simpa using h.fb.set (i := 3) (v := v) (by decide), ?_, h.rd.setCell (by show r < B; omega) v, h.ex.setCell (by show w3.heap.size ≤ B; omega) v, h.low⟩
 exact (qag (Below.heap_setCell _ _ _ _ (by show Q ≠ B; omega))).trans h.qc
theorem own_sl {lo B : Nat} {w : World} {g n cap : Nat} {css : List (List Value)} {xs : List DClsMethod} (h : TOwnC 8 rCel 65 B B w (.slice (some ⟨g, 0, none⟩) n cap) css css) (hn : css.length = n) (hB : lo ≤ B) (hr : Rows 8 rClsMethod lo w css xs) : Sl 8 rClsMethod lo w (.slice (some ⟨g, 0, none⟩) n cap) xs := by
 obtain ⟨a, c, e, h1, h2⟩ := own_form h.owns
 cases e
 refine ⟨_, _, _, rfl, by rw [← hr.len, hn], by omega, h2, fun h0 => ?_⟩
 obtain ⟨g', c', e, h3, h4, _, _, hc, _⟩ := own_cell h.owns (by omega)
 cases e
 refine ⟨g, 0, rfl, by omega, h4, fun i hi => ?_⟩
 obtain ⟨x, hx⟩ : ∃ x, xs[i]? = some x := ⟨_, List.getElem?_eq_getElem (by rw [← hr.len]; omega)⟩
 obtain ⟨cs, hcs⟩ : ∃ cs, css[i]? = some cs := ⟨_, List.getElem?_eq_getElem (by omega)⟩
 obtain ⟨hk, hR⟩ := hr.row i x cs hx hcs
 refine ⟨x, cs, hx, hk, fun j u hj => ?_, hR⟩
 rw [Nat.zero_add]
 exact (h.cellAt hcs hj).1
theorem rows_set {α : Type} {k : Nat} {R : RowRel α} {lo : Nat} {w : World} {css : List (List Value)} {xs : List α} (h : Rows k R lo w css xs) {i : Nat} {cs : List Value} {x : α} (hl : cs.length = k) (hR : R lo w cs x) : Rows k R lo w (css.set i cs) (xs.set i x) := by
 refine ⟨by rw [List.length_set, List.length_set]; exact h.len, fun j y ds hy hd => ?_⟩
 by_cases hj : j = i
 ·subst hj
  rw [List.getElem?_set_self' ] at hy hd
  cases hx : xs[j]? with
  | none => rw [hx] at hy; cases hy
  | some _ =>
    rw [hx] at hy
    cases hy
    cases hc : css[j]? with
    | none => rw [hc] at hd; cases hd
    | some _ => rw [hc] at hd; cases hd; exact ⟨hl, hR⟩
 ·rw [List.getElem?_set_ne (by omega)] at hy hd
  exact h.row j y ds hy hd
theorem Sl.celLo {α : Type} {k : Nat} {R : RowRel α} (h1 : ∀ lo w cs x, R lo w cs x → ∀ u ∈ cs, u.oneCell' = true) (hk : 0 < k) {lo : Nat} {w : World} {ad : Addr} {n cap : Nat} {xs : List α} (h : Sl k R lo w (.slice (some ad) n cap) xs) :
  ∃ css : List (List Value), Src k w (.slice (some ad) n cap) css ∧ Rows k rCel lo w css css ∧ Rows k R lo w css xs := by
 obtain ⟨a', n', cap', e, hl, h1', h2, h3⟩ := h
 cases e
 by_cases hn : 0 < n
 rotate_left
 ·obtain rfl : n = 0 := by omega
  have hx : xs = [] := List.eq_nil_of_length_eq_zero hl
  subst hx
  exact ⟨[], Or.inr ⟨ad, cap, rfl, fun j u hj => by simp at hj⟩, Rows.nil, Rows.nil⟩
 obtain ⟨b, off, e, _, hb, hr⟩ := h3 hn
 cases e
 have hc : ∀ i, ∃ cs : List Value, i < n → ∃ x, xs[i]? = some x ∧ cs.length = k ∧ w.rangeAt b (off + i * k) cs ∧ R lo w cs x := fun i => by
  by_cases hi : i < n
  ·obtain ⟨x, cs, e0, e1, e2, e3⟩ := hr i hi
   exact ⟨cs, fun _ => ⟨x, e0, e1, e2, e3⟩⟩
  ·exact ⟨[], fun h => absurd h hi⟩
 obtain ⟨f, hf⟩ := Classical.skolem.1 hc
 have hat : ∀ i, i < n → ((List.range n).map f)[i]? = some (f i) := fun i hi => by simp [hi]
 have hlen : ((List.range n).map f).length = n := by simp
 have heach : ∀ c ∈ (List.range n).map f, c.length = k := fun c hc => by
  obtain ⟨i, hi, rfl⟩ := List.mem_map.1 hc
  obtain ⟨_, _, h, _⟩ := hf i (List.mem_range.1 hi)
  exact h
 refine ⟨(List.range n).map f, Or.inr ⟨⟨b, off, none⟩, cap, by rw [hlen], fun j u hj => ?_⟩, ⟨rfl, fun i x cs e1 e2 => ?_⟩, ⟨by rw [hlen, hl], fun i x cs e1 e2 => ?_⟩⟩
 ·have hjl : j < n * k := by
   have := (List.getElem?_eq_some_iff.1 hj).1
   rw [flat_len heach, hlen] at this
   exact this
  have hi : j / k < n := Nat.div_lt_of_lt_mul (by rw [Nat.mul_comm]; exact hjl)
  have hm : j % k < k := Nat.mod_lt _ hk
  have hdm : j / k * k + j % k = j := by rw [Nat.mul_comm]; exact Nat.div_add_mod j k
  have hfl := flat_at heach (hat _ hi) (j := j % k) hm
  rw [hdm, hj] at hfl
  obtain ⟨_, _, _, hrg, _⟩ := hf _ hi
  have := hrg (j % k) u hfl.symm
  rw [Addr.add_mid]
  rw [Nat.add_assoc, hdm] at this
  exact this
 ·rw [e1] at e2
  cases e2
  have hi : i < n := by have := (List.getElem?_eq_some_iff.1 e1).1; rw [hlen] at this; exact this
  rw [hat i hi] at e1
  cases e1
  obtain ⟨_, _, h4, _, h5⟩ := hf i hi
  exact ⟨h4, rfl, h1 _ _ _ _ h5⟩
 ·have hi : i < n := by have := (List.getElem?_eq_some_iff.1 e2).1; rw [hlen] at this; exact this
  rw [hat i hi] at e2
  cases e2
  obtain ⟨y, e0, h4, _, h5⟩ := hf i hi
  rw [e1] at e0
  cases e0
  exact ⟨h4, h5⟩
theorem wpList_store_midL {ops : Array Oper} {rest : List Oper} {op : Oper} {a : Act} {w : World} {Q : Exit → Act → World → Prop} (hgd : op.guard = none) (ty : TypeId) (x y : Operand) (ho : op.op = .store ty x y)
  (b o : Nat) (cs : List Value) (hx : a.eval x = .pointer (some ⟨b, o, none⟩)) (hy : a.eval y = .agg cs.toArray)
  (ht : w.there b o cs.length) (hi : (Tryz.prog.info? ty).map (·.size) = some cs.length) (h1 : ∀ v ∈ cs, v.oneCell' = true)
  (h : ∀ w', w' = w.setCells b o cs → wpList Tryz.prog ops Q rest (a.put op.dst undef) w') : wpList Tryz.prog ops Q (op :: rest) a w :=
 wpList_store_mid hgd ty x y ho b o cs.toArray hx hy (by simpa using ht) (by simpa using hi) (all_oneCell_toArray h1) (h _ rfl)
theorem end_two {R : Ending → World → Prop} {a : Act} {W : World} {A B : Nat} {x0 x1 x2 x3 y0 y1 y2 y3 : Value} (h2 : a.tmps.getD 2 undef = .pointer (some ⟨A, 0, none⟩)) (h3 : a.tmps.getD 3 undef = .pointer (some ⟨B, 0, none⟩)) (hd : a.defers = []) (hA : Four W A x0 x1 x2 x3) (hB : Four W B y0 y1 y2 y3) (hi : (Tryz.prog.info? 37).map (·.size) = some 4) (hR : R (.returned (.tuple #[.agg #[x0, x1, x2, x3], .agg #[y0, y1, y2, y3]])) W) : bodyPost Tryz.prog Tryz.f12 R .ret a W := by
 refine bodyPost_ret (v := .tuple #[.agg #[x0, x1, x2, x3], .agg #[y0, y1, y2, y3]]) ?_ hd hR
 rw [Array.getD_eq_getD_getElem?] at h2 h3
 obtain ⟨al, ac0, ac1, ac2, ac3, _⟩ := hA
 obtain ⟨bl, bc0, bc1, bc2, bc3, _⟩ := hB
 simp only [results, Tryz.results12]
 simp [h2, h3, ac0, ac1, ac2, ac3, bc0, bc1, bc2, bc3, go_sem]
theorem at_K {Q : Exit → Act → World → Prop} {K : Act → World → Prop} (h : ∀ (a : Act) (w : World), Code.wp Tryz.prog Code.ret Q a w → K a w) {a : Act} {w : World} (hq : Q .ret a w) : Exit.then K Q .normal a w := h a w (wp_ret hq)
theorem sets_two {w : World} {A B N M : Nat} {x0 x1 x2 x3 y0 y1 y2 y3 a0 a1 a2 a3 b0 b1 b2 b3 : Value} (hA : Four w A a0 a1 a2 a3) (hB : Four w B b0 b1 b2 b3) (hne : A ≠ B) (hNA : N ≤ A) (hNB : N ≤ B) (hMA : A < M) (hMB : B < M) :
  ∃ W, W = ((((((((w.setCell ⟨A, 0, none⟩ x0).setCell ⟨A, 1, none⟩ x1).setCell ⟨A, 2, none⟩ x2).setCell ⟨A, 3, none⟩ x3).setCell ⟨B, 0, none⟩ y0).setCell ⟨B, 1, none⟩ y1).setCell ⟨B, 2, none⟩ y2).setCell ⟨B, 3, none⟩ y3).drew ∧ Four W A x0 x1 x2 x3 ∧ Four W B y0 y1 y2 y3 ∧ Keeps M w W ∧ Below N w W := by
 have hd : ∀ (W : World) (b : Nat) (z0 z1 z2 z3 : Value), Four W b z0 z1 z2 z3 → Four W.drew b z0 z1 z2 z3 := fun W b z0 z1 z2 z3 h => h.kept (Nat.le_refl _) rfl
 refine ⟨_, rfl, hd _ _ _ _ _ _ ?_, hd _ _ _ _ _ _ ?_, Keeps.drew ?_, Below.drew ?_⟩
 ·have h1 := (((hA.set (i := 0) (v := x0) (by decide)).set (i := 1) (v := x1) (by decide)).set (i := 2) (v := x2) (by decide)).set (i := 3) (v := x3) (by decide)
  exact (((h1.set_other hne).set_other hne).set_other hne).set_other hne
 ·have h0 := (((hB.set_other (Ne.symm hne) (o := 0) (v := x0)).set_other (Ne.symm hne) (o := 1) (v := x1)).set_other (Ne.symm hne) (o := 2) (v := x2)).set_other (Ne.symm hne) (o := 3) (v := x3)
  exact (((h0.set (i := 0) (v := y0) (by decide)).set (i := 1) (v := y1) (by decide)).set (i := 2) (v := y2) (by decide)).set (i := 3) (v := y3) (by decide)
 ·refine ⟨by simp [World.setCell], fun k h1 h2 => ?_⟩
  iterate 8 rw [Below.heap_setCell _ _ _ _ (by first | (show k ≠ A; omega) | (show k ≠ B; omega))]
 ·iterate 8 refine Below.setCell ?_ (by assumption) _
  exact Below.refl _ _
theorem ex_keeps {r lo : Nat} {w w' : World} (h : Ex r w.heap.size w w') (hr : r < lo) : Keeps lo w w' := ⟨h.size, fun k h1 h2 => h.block k (by omega) h2⟩
def csF (r q Q b2 m2 cap2 ub un uc : Nat) (rows : Nat → List Value)  : Nat → Value → World → Prop
 | 0, v, w => v = .pointer (some ⟨Q, 0, none⟩)
 | 1, v, w => v = .slice (some ⟨b2, 0, none⟩) m2 cap2
 | 2, v, w => v = .pointer (some ⟨b2, 0, none⟩)
 | 3, v, w => v = .pointer (some ⟨b2, 0, none⟩)
 | 4, v, w => v = .slice (some ⟨ub, 0, none⟩) un uc
 | 5, v, w => v = .pointer (some ⟨r, 0, none⟩)
 | 6, v, w => v = .pointer (some ⟨Q, 0, none⟩)
 | 7, v, w => v = .slice (some ⟨b2, 0, none⟩) m2 cap2
 | 8, v, w => v = .pointer (some ⟨b2, 0, none⟩)
 | 9, v, w => v = .pointer (some ⟨b2, 0, none⟩)
 | 10, v, w => v = .slice (some ⟨ub, 0, none⟩) un uc
 | 11, v, w => v = .int .i64 (un : Int)
 | 12, v, w => ∃ x, x < un ∧ v = .int .i64 (x : Int) ∧ Rd w r (q + 1)
 | 13, v, w => ∃ x, x < un ∧ v = .pointer (some ⟨ub, x * 4, none⟩)
 | 14, v, w => ∃ x, x < un ∧ v = .agg (rows x).toArray
 | _, _, _ => True
theorem csF_stays {r q Q b2 m2 cap2 ub un uc : Nat} {rows : Nat → List Value}  : ∀ i j u w w', i ≠ j → drawG 12 r j w w' → csF r q Q b2 m2 cap2 ub un uc rows i u w → csF r q Q b2 m2 cap2 ub un uc rows i u w' := by
 intro i j u w w' hne hg h
 match i with
 | 0 | 1 | 2 | 3 | 4 | 5 | 6 | 7 | 8 | 9 | 10 | 11 | 13 | 14 => exact h
 | 12 =>
   obtain ⟨x, h1, h2, h3⟩ := h
   rcases hg with ⟨e, _⟩ | g
   ·exact absurd e.symm hne
   ·exact ⟨x, h1, h2, rd_below g h3 h3.lt⟩
 | n + 15 => trivial
def cmF (lo r B g n cap : Nat)  : Nat → Value → World → Prop
 | 0, v, w => v = .pointer (some ⟨B, 3, none⟩)
 | 1, v, w => v = .slice (some ⟨g, 0, none⟩) n cap
 | 2, v, w => v = .pointer (some ⟨r, 0, none⟩)
 | 3, v, w => ∃ (m : DClsMethod) (u1 u2 u3 : Value), v = .agg #[.string m.fName, u1, .int .i64 m.fRet.fKind, .string m.fRet.fName, .int .i64 m.fLocals, .int .i64 m.fStack, u2, u3] ∧ rClsMethod lo w [.string m.fName, u1, .int .i64 m.fRet.fKind, .string m.fRet.fName, .int .i64 m.fLocals, .int .i64 m.fStack, u2, u3] m
 | 4, v, w => v = .pointer (some ⟨g, 0, none⟩)
 | _, _, _ => True
theorem cmF_stays {lo r B g n cap : Nat}  : ∀ i j u w w', i ≠ j → drawG 3 r j w w' → cmF lo r B g n cap i u w → cmF lo r B g n cap i u w' := by
 intro i j u w w' hne hg h
 match i with
 | 0 | 1 | 2 | 4 => exact h
 | 3 =>
   obtain ⟨m, u1, u2, u3, h1, h2⟩ := h
   rcases hg with ⟨e, _⟩ | g'
   ·exact absurd e.symm hne
   ·exact ⟨m, u1, u2, u3, h1, rClsMethod_good.stays _ _ _ _ _ (Keeps.of_below g') h2⟩
 | n + 5 => trivial

theorem S_DrawClsSame (v : Value) (w : World) (hv : Bytes w v) :
  Calls Tryz.prog 12 #[v] w fun e w' => CS2 w e w' := by
 have hv' := hv
 refine qab fun R HR => ?_
 go_enter Tryz.func12, Tryz.ntmps12
 go_wp2_with fail
 refine (S_l20Open _ _ (by first | exact hv' | exact hv'.alloc _ | exact (hv'.alloc _).alloc _)).mono ?_
 rintro e w1 ⟨rfl, hrd1, hb1, hl1⟩
 simp only [World.size_alloc] at hrd1 hb1 hl1 ⊢
 obtain ⟨r, hr⟩ : ∃ r, w.heap.size + 1 + 1 = r := ⟨_, rfl⟩
 rw [hr] at hrd1 hb1 hl1 ⊢
 have RA1 : Hid (Four w1 w.heap.size (.string ⟨#[]⟩) (.string ⟨#[]⟩) (.slice none 0 0) (.slice none 0 0)) := qhd (((Four.new w _ _ _ _ 37).kept (w' := (w.alloc (.cells #[.string ⟨#[]⟩, .string ⟨#[]⟩, .slice none 0 0, .slice none 0 0] 37)).alloc (.cells #[.string ⟨#[]⟩, .string ⟨#[]⟩, .slice none 0 0, .slice none 0 0] 37)) (by simp) (Below.heap_alloc _ _ _ (by simp))).kept hb1.size (hb1.block _ (by omega)))
 have RB1 : Hid (Four w1 (w.heap.size + 1) (.string ⟨#[]⟩) (.string ⟨#[]⟩) (.slice none 0 0) (.slice none 0 0)) := qhd ((by simpa using Four.new (w.alloc (.cells #[.string ⟨#[]⟩, .string ⟨#[]⟩, .slice none 0 0, .slice none 0 0] 37)) (.string ⟨#[]⟩) (.string ⟨#[]⟩) (.slice none 0 0) (.slice none 0 0) 37 : Four ((w.alloc (.cells #[.string ⟨#[]⟩, .string ⟨#[]⟩, .slice none 0 0, .slice none 0 0] 37)).alloc (.cells #[.string ⟨#[]⟩, .string ⟨#[]⟩, .slice none 0 0, .slice none 0 0] 37)) (w.heap.size + 1) (.string ⟨#[]⟩) (.string ⟨#[]⟩) (.slice none 0 0) (.slice none 0 0)).kept hb1.size (hb1.block _ (by omega)))
 have HBW : Hid (Below w.heap.size w w1) := qhd ((((Below.refl _ _).alloc (Nat.le_refl _) _).alloc (by simp) _).trans (hb1.mono (by omega)))
 clear hb1
 go_wp2_with fail
 refine (S_l20Plan r 0 3 _ (by omega) (by omega) hrd1 (by omega)).mono ?_
 rintro _ w2 ⟨pv, pl, q, rfl, hT, hok, _, hq, R2, X2⟩
 obtain ⟨css, hpc⟩ := id hT
 have hl := lodOk_len hok
 obtain ⟨b, cap, rfl, hb0, hb1, hb2, hb3, hrows⟩ := hpc.rowsAt (by omega)
 obtain ⟨k, hk⟩ : ∃ k, pl.fKeepers[0]? = some k := ⟨_, List.getElem?_eq_getElem (by omega)⟩
 obtain ⟨o, a, hco, hkr, hrg⟩ := hrows 0 k hk
 obtain ⟨y1, y2, e0, t1, t2⟩ := id hkr
 cases e0
 obtain ⟨oa, oc, rfl, hoc, hom⟩ := t1.form
 obtain ⟨aa, ac, rfl, _, _⟩ := t2.form
 have p0 : w2.cell? ⟨b, 0, none⟩ = some (.slice oa k.fOwns.length oc) := by simpa using hrg 0 _ rfl
 have p1 : w2.cell? ⟨b, 1, none⟩ = some (.slice aa k.fAsks.length ac) := by simpa using hrg 1 _ rfl
 have HM4 : Hid (∀ (j : Nat) (c : DClsClass), k.fOwns[j]? = some c → c.fMethods.length ≤ 4) := qhd fun j c hc => own_mths hok hk hc
 obtain ⟨m, hm⟩ : ∃ m, pl.fKeepers.length = m := ⟨_, rfl⟩
 rw [hm] at hl hb2 ⊢
 have hz2 := X2.size
 have T12 := qhd t1
 have HX2 := qhd X2
 have hcm : cap ≤ 9223372036854775807 := by unfold maxLen at hb3; omega
 have hom2 : oc ≤ 9223372036854775807 := by unfold maxLen at hom; omega
 have hrl : r < w1.heap.size := hl1
 clear hT hpc hrows hco hkr hrg t1 t2 hk hm hok X2 hb3 hom
 go_wp2_with fail
 refine nameV (P := fun W => Calls Tryz.prog 27 #[_, _] W _) _ (fun w2a hw2a => ?_)
 have hB2a : Below w2.heap.size w2 w2a := by rw [hw2a]; exact (Below.refl _ _).alloc (Nat.le_refl _) _
 have hs2a : w2a.heap.size = w2.heap.size + 1 := by rw [hw2a]; simp
 have P2a : w2a.cell? ⟨w2.heap.size, 0, none⟩ = some (.slice (some ⟨b, 0, none⟩) m cap) := by rw [hw2a]; go_simp
 clear hw2a
 refine (S_l20Plan r q 2 _ (by omega) (by omega) (rd_below hB2a R2 R2.lt) (by omega)).mono ?_
 rintro _ w3 ⟨qv, ql, q2, rfl, hT, hok, _, hq2, R3, X3⟩
 obtain ⟨css2, hpc⟩ := id hT
 have hl' := lodOk_len hok
 obtain ⟨b2, cap2, rfl, hd0, hd1, hd2, hd3, hrows⟩ := hpc.rowsAt (by omega)
 obtain ⟨k2, hk⟩ : ∃ k, ql.fKeepers[0]? = some k := ⟨_, List.getElem?_eq_getElem (by omega)⟩
 obtain ⟨o2, a2, hco, hkr, hrg⟩ := hrows 0 k2 hk
 obtain ⟨y1, y2, e0, t1, t2⟩ := id hkr
 cases e0
 obtain ⟨ua, uc, rfl, huc, hum⟩ := t1.form
 obtain ⟨va, vc, rfl, _, _⟩ := t2.form
 have u0 : w3.cell? ⟨b2, 0, none⟩ = some (.slice ua k2.fOwns.length uc) := by simpa using hrg 0 _ rfl
 have HM5 : Hid (∀ (j : Nat) (c : DClsClass), k2.fOwns[j]? = some c → c.fMethods.length ≤ 4) := qhd fun j c hc => own_mths hok hk hc
 obtain ⟨m2, hm2⟩ : ∃ m, ql.fKeepers.length = m := ⟨_, rfl⟩
 rw [hm2] at hl' hd2 ⊢
 have hz3 := X3.size
 have U13 : Hid (TSl 4 tClsClass 37 w2a.heap.size w3 (.slice ua k2.fOwns.length uc) k2.fOwns) := qhd t1
 have X23 : Ex r w2.heap.size w2 w3 := (Ex.of_belowS hB2a).trans (X3.mono (by omega))
 have T13 : Hid (TSl 4 tClsClass 37 w1.heap.size w3 (.slice oa k.fOwns.length oc) k.fOwns) := qhd (TSl.stays (E := fun _ => True) (tClsClass_goodT.mono fun _ _ => trivial) trivial T12.out (KeepsT.of_ex X23 hrl (Nat.le_refl _)))
 have p03 : w3.cell? ⟨b, 0, none⟩ = some (.slice oa k.fOwns.length oc) := (qag (X23.block b (by omega) hb1)).trans p0
 have p13 : w3.cell? ⟨b, 1, none⟩ = some (.slice aa k.fAsks.length ac) := (qag (X23.block b (by omega) hb1)).trans p1
 have P3 : w3.cell? ⟨w2.heap.size, 0, none⟩ = some (.slice (some ⟨b, 0, none⟩) m cap) := (qag (X3.block w2.heap.size (by omega) (by omega))).trans P2a
 have RA3 := qhd ((RA1.out.kept hz2 (HX2.out.block _ (by omega) RA1.out.lt)).kept (by omega) (X23.block _ (by omega) (by have := RA1.out.lt; omega)))
 have RB3 := qhd ((RB1.out.kept hz2 (HX2.out.block _ (by omega) RB1.out.lt)).kept (by omega) (X23.block _ (by omega) (by have := RB1.out.lt; omega)))
 have HEX : Hid (∀ W, Ex r w3.heap.size w3 W → Below w.heap.size w W) := qhd fun W hW => by
  have h1 : Ex r w1.heap.size w1 W := HX2.out.trans ((X23.trans (hW.mono (by omega))).mono (by omega))
  have h2 := HBW.out.size
  exact HBW.out.trans ⟨h1.os, h1.tape, h1.output, h1.size, fun k hk => h1.block k (by omega) (by omega)⟩
 have hcm2 : cap2 ≤ 9223372036854775807 := by unfold maxLen at hd3; omega
 have hum2 : uc ≤ 9223372036854775807 := by unfold maxLen at hum; omega
 obtain ⟨on, hon⟩ : ∃ n, k.fOwns.length = n := ⟨_, rfl⟩
 obtain ⟨un, hun⟩ : ∃ n, k2.fOwns.length = n := ⟨_, rfl⟩
 rw [hon] at T13 p03 hoc
 rw [hun] at U13 u0 huc
 have HON := qhd hon
 have HUN := qhd hun
 have hbl3 : b < w3.heap.size := by omega
 have hbl4 : b < w3.heap.size + 1 := by omega
 have hbl5 : b < w3.heap.size + 1 + 1 := by omega
 have lP := block_lt_of_cell P3
 have lP3 : w2.heap.size < w3.heap.size := lP
 have lP4 : w2.heap.size < w3.heap.size + 1 := by omega
 have lP5 : w2.heap.size < w3.heap.size + 1 + 1 := by omega
 clear lP
 have hm1 : 0 < m := by omega
 have hm21 : 0 < m2 := by omega
 clear hT hpc hrows hco hkr hrg t1 t2 hk hm2 hok X3 hd3 hum RA1 RB1 T12 p0 p1 P2a R2 hB2a hon hun
 go_upto_if 25 with fail
 obtain ⟨w5, hw5⟩ : ∃ W, W = (((w3.alloc (.cells #[.slice (some ⟨b2, 0, none⟩) m2 cap2] 25)).alloc (.cells #[.string ⟨#[]⟩, .string ⟨#[]⟩, .slice none 0 0, .slice none 0 0] 37)).alloc (.cells #[.string ⟨#[]⟩, .string ⟨#[]⟩, .slice none 0 0, .slice none 0 0] 37)).alloc (.cells #[.slice oa on oc, .slice aa k.fAsks.length ac] 45) := ⟨_, rfl⟩
 rw [← hw5]
 have hB35 : Below w3.heap.size w3 w5 := by rw [hw5]; exact bbel
 have hs5 : w5.heap.size = w3.heap.size + 4 := by rw [hw5]; simp
 have qq5 : w5.cell? ⟨w3.heap.size, 0, none⟩ = some (.slice (some ⟨b2, 0, none⟩) m2 cap2) := by rw [hw5]; go_simp
 have k5 : w5.cell? ⟨w3.heap.size + 1 + 1 + 1, 0, none⟩ = some (.slice oa on oc) := by rw [hw5]; go_simp
 have FA5 : Four w5 (w3.heap.size + 1) (.string ⟨#[]⟩) (.string ⟨#[]⟩) (.slice none 0 0) (.slice none 0 0) := by
  rw [hw5]; refine ⟨by simp, ?_, ?_, ?_, ?_, ?_, ?_, ?_, ?_⟩ <;> go_simp
 have FB5 : Four w5 (w3.heap.size + 1 + 1) (.string ⟨#[]⟩) (.string ⟨#[]⟩) (.slice none 0 0) (.slice none 0 0) := by
  rw [hw5]; refine ⟨by simp, ?_, ?_, ?_, ?_, ?_, ?_, ?_, ?_⟩ <;> go_simp
 obtain ⟨Q, hQ⟩ : ∃ x, w3.heap.size = x := ⟨_, rfl⟩
 obtain ⟨A, hA⟩ : ∃ x, w3.heap.size + 1 = x := ⟨_, rfl⟩
 obtain ⟨B, hB⟩ : ∃ x, w3.heap.size + 1 + 1 = x := ⟨_, rfl⟩
 obtain ⟨K, hK⟩ : ∃ x, w3.heap.size + 1 + 1 + 1 = x := ⟨_, rfl⟩
 have ST5 : Hid (CSt r w3.heap.size A B (.slice (some ⟨b2, 0, none⟩) m2 cap2) w3 w5 q2 (.string ⟨#[]⟩) (.string ⟨#[]⟩) (.slice none 0 0) (.slice none 0 0) (.string ⟨#[]⟩) (.string ⟨#[]⟩) (.slice none 0 0) (.slice none 0 0)) := qhd ⟨by rw [← hA]; exact FA5, by rw [← hB]; exact FB5, qq5, rd_below hB35 R3 R3.lt, Ex.of_belowS hB35, ⟨by omega, by omega, by omega, by omega⟩⟩
 rw [hK] at k5
 have HKC : Hid ((Tryz.prog.info? 37).map (·.size) = some 4) := qhd (by kernel_rfl)
 have hX35 : Ex r w3.heap.size w3 w5 := Ex.of_belowS hB35
 have hab : w3.heap.size < A ∧ A < B ∧ B < K ∧ K < w5.heap.size := ⟨by omega, by omega, by omega, by omega⟩
 obtain ⟨hab1, hab2, hab3, hab4⟩ := hab
 rw [hK, hB, hA]
 have K5 := qhd k5
 clear hw5 qq5 FA5 FB5 p03 p13 P3 R3 hQ hA hB hK k5 lP3 lP4 lP5 hbl4 hbl5
 go_cut [] from 22 to 34 (fun wx => ∃ (x : DClsClass) (x2 x3 : Value) (q' : Nat), q' ≤ q2 + 1 ∧ x.fMethods.length ≤ 4 ∧ rClsClass w1.heap.size w3 [.string x.fName, .string x.fSuper, x2, x3] x ∧ CSt r w3.heap.size A B (.slice (some ⟨b2, 0, none⟩) m2 cap2) w3 wx q' (.string x.fName) (.string x.fSuper) x2 x3 (.string ⟨#[]⟩) (.string ⟨#[]⟩) (.slice none 0 0) (.slice none 0 0))
 case first =>
  by_cases ho : on = 0
  ·subst ho
   go_wp2_with fail
   go_meet
   case rel => exact ⟨⟨⟨#[]⟩, ⟨#[]⟩, [], []⟩, _, _, _, by omega, by decide, cls_none _ _, ST5.out⟩
  have ho1 : 0 < on := by omega
  have ho2 : decide ((0 : Int) < (on : Int)) = true := by simp; omega
  obtain ⟨ob, ocap, cssk, eo, hob0, hob1, hob2, hob3, hrows2⟩ := T13.out.rowsAt (by rw [HON.out]; exact ho1)
  rw [HON.out] at eo hob2
  cases eo
  have HR5 : Hid (∀ W, Ex r w5.heap.size w5 W → ∀ x, x < on → W.rangeAt ob (x * 4) (cssk.getD x []) ∧ (cssk.getD x []).length = 4) := qhd fun W hW x hx => by
   obtain ⟨y, hy⟩ : ∃ y, k.fOwns[x]? = some y := ⟨_, List.getElem?_eq_getElem (by rw [HON.out]; exact hx)⟩
   obtain ⟨cs, hcs, hl4, _, hr⟩ := hrows2 x y hy
   rw [List.getD_eq_getElem?_getD, hcs]
   exact ⟨fun j u hj => (qag ((hX35.trans (hW.mono (by omega))).block ob (by omega) hob1)).trans (hr j u hj), hl4⟩
  have HRW2 := qhd hrows2
  have k50 := K5.out
  clear hrows2
  go_wp2_with fail
  refine wp_region_relyE 9 (Ex r w5.heap.size w5) (pickG r) (fun _ => pickF w5.heap.size r q2 on 4 ob (.pointer (some ⟨K, 0, none⟩)) (.slice (some ⟨ob, 0, none⟩) on oc) (fun x => cssk.getD x []) 37) (pickI r (q2)) noDead (by kernel_rfl) (by decide) (by kernel_rfl) (Or.inr ⟨by kernel_rfl, by kernel_rfl⟩) (by kernel_rfl) ((Ex.refl _ _ _).drew) (fun _ _ _ _ _ _ _ _ _ h => h) noDead_dead (fun _ _ => ST5.out.rd.drew) (fun i j w1 w2 hne _ hg h => pickI_stays i j w1 w2 hne hg h) (fun _ i j u w1 w2 hne _ _ hg hF => pickF_stays (by omega) i j u w1 w2 hne hg hF) (fun _ _ _ => Or.inr (Below.refl _ _)) ?_
  refine qac (d := 26) rfl rfl (fun wx hC hI hd S0 hS => ?_) (fun v0 => ?_)
  ·have HSS := qhd hS; clear hS hd hI
   go_simp
   exact HSS.out _ _ hC (Or.inr (Below.refl _ _)) (by (simp only [qls, Nat.reduceAdd, pickF]))
  simp only [qnr]
  refine qac (d := 27) rfl rfl (fun wx hC hI hd S0 hS => ?_) (fun v1 => ?_)
  ·have d0 := hd ⟨0, .data⟩ (by simp) rfl v0 (by simp)
   simp only [pickF] at d0
   subst d0
   have c0 := (qag (hC.block K (by omega) (by omega))).trans k50
   have HSS := qhd hS; clear hS hd hI
   go_simp
   exact HSS.out _ _ hC (Or.inr (Below.refl _ _)) (by (simp only [qls, Nat.reduceAdd, pickF]))
  simp only [qnr]
  refine qac (d := 28) rfl rfl (fun wx hC hI hd S0 hS => ?_) (fun v2 => ?_)
  ·have HSS := qhd hS; clear hS hd hI
   go_simp
   exact HSS.out _ _ hC (Or.inr (Below.refl _ _)) (by (simp only [qls, Nat.reduceAdd, pickF]))
  simp only [qnr]
  refine qac (d := 29) rfl rfl (fun wx hC hI hd S0 hS => ?_) (fun v3 => ?_)
  ·have HSS := qhd hS; clear hS hd hI
   go_simp
   exact HSS.out _ _ hC (Or.inr (Below.refl _ _)) (by (simp only [qls, Nat.reduceAdd, pickF]))
  simp only [qnr]
  refine qac (d := 30) rfl rfl (fun wx hC hI hd S0 hS => ?_) (fun v4 => ?_)
  ·have d3 := hd ⟨3, .data⟩ (by simp) rfl v3 (by simp)
   simp only [pickF] at d3
   subst d3
   have c0 := (qag (hC.block K (by omega) (by omega))).trans k50
   have HSS := qhd hS; clear hS hd hI
   go_simp
   exact HSS.out _ _ hC (Or.inr (Below.refl _ _)) (by (simp only [qls, Nat.reduceAdd, pickF]))
  simp only [qnr]
  refine qac (d := 31) rfl rfl (fun wx hC hI hd S0 hS => ?_) (fun v5 => ?_)
  ·have d4 := hd ⟨4, .data⟩ (by simp) rfl v4 (by simp)
   simp only [pickF] at d4
   subst d4
   have HSS := qhd hS; clear hS hd hI
   go_simp
   exact HSS.out _ _ hC (Or.inr (Below.refl _ _)) (by (simp only [qls, Nat.reduceAdd, pickF]))
  simp only [qnr]
  refine qac (d := 32) rfl rfl (fun wx hC hI hd S0 hS => ?_) (fun v6 => ?_)
  ·have d2 := hd ⟨2, .data⟩ (by simp) rfl v2 (by simp)
   simp only [pickF] at d2
   have d5 := hd ⟨5, .data⟩ (by simp) rfl v5 (by simp)
   simp only [pickF] at d5
   subst d2; subst d5
   have hRd : Rd wx r (q2) := hI (by simp)
   have HSS := qhd hS; clear hS hd hI
   go_simp
   refine (S_pick r (q2) _ _ (by omega) hRd (by omega)).mono ?_
   rintro _ w' ⟨⟨x, hx, rfl⟩, hRq, hX⟩
   obtain ⟨xn, hxn, rfl⟩ := pick_nat (by omega) hx
   exact HSS.out _ _ (exC_ex hC hX) (Or.inl ⟨by simp, hX⟩) (by (simp only [qls, Nat.reduceAdd, pickF]); exact ⟨xn, hxn, rfl, hRq⟩)
  simp only [qnr]
  refine qac (d := 33) rfl rfl (fun wx hC hI hd S0 hS => ?_) (fun v7 => ?_)
  ·have d1 := hd ⟨1, .data⟩ (by simp) rfl v1 (by simp)
   simp only [pickF] at d1
   have d6 := hd ⟨6, .data⟩ (by simp) rfl v6 (by simp)
   simp only [pickF] at d6
   obtain ⟨x, hx, d6, _⟩ := d6
   subst d1; subst d6
   have HSS := qhd hS; clear hS hd hI
   go_simp
   exact HSS.out _ _ hC (Or.inr (Below.refl _ _)) (by (simp only [qls, Nat.reduceAdd, pickF]); exact ⟨x, hx, rfl⟩)
  simp only [qnr]
  refine qac (d := 34) rfl rfl (fun wx hC hI hd S0 hS => ?_) (fun v8 => ?_)
  ·have d7 := hd ⟨7, .data⟩ (by simp) rfl v7 (by simp)
   simp only [pickF] at d7
   obtain ⟨x, hx, d7⟩ := d7
   subst d7
   have HSS := qhd hS; clear hS hd hI
   refine wp_loadAt rfl rfl (run_loadAt_mid wx ob (x * 4) 37 (cssk.getD x []) _ (HR5.out wx hC x hx).1 Tryz.underlying37 rfl (by rw [(HR5.out wx hC x hx).2]; exact HKC.out)) ⟨put_defers' _ _ _, ?_⟩
   rw [qae (by simp)]
   exact HSS.out _ _ hC (Or.inr (Below.refl _ _)) (by (simp only [qls, Nat.reduceAdd, pickF]); exact ⟨x, hx, rfl⟩)
  simp only [qnr]
  intro w6 hC hF
  have f6 := hF 6 v6 (by simp) (fun _ _ => rfl)
  have f8 := hF 8 v8 (by simp) (fun _ _ => rfl)
  simp only [pickF] at f6 f8
  obtain ⟨_, _, _, R6⟩ := f6
  obtain ⟨x6, hx6, e8⟩ := f8
  obtain ⟨cc, hcc⟩ : ∃ y, k.fOwns[x6]? = some y := ⟨_, List.getElem?_eq_getElem (by rw [HON.out]; exact hx6)⟩
  obtain ⟨cs6, hcs6, _, hrow6, _⟩ := HRW2.out x6 cc hcc
  have ecs : cssk.getD x6 [] = cs6 := by rw [List.getD_eq_getElem?_getD, hcs6]; rfl
  rw [ecs] at e8
  have hm4 := HM4.out _ _ hcc
  have hrr := tClsClass_r hrow6
  obtain ⟨y1, y2, rfl, s1, s2, _, _⟩ := id hrr
  obtain ⟨f1, f2, f3, rfl⟩ := s1.form
  obtain ⟨g1, g2, g3, rfl⟩ := s2.form
  subst e8
  have ST6 := qhd (ST5.out.go hC R6)
  have HRR := qhd hrr
  have hTh := qhd ST6.out.fa.there
  clear hF ecs hcs6 hcc hrow6 hrr s1 s2 HR5 HRW2 ST5 k50 hC R6
  simp only [List.drop_succ_cons, List.drop_zero]
  refine wpList_store_rowT (by rfl) 37 (.tmp 7) (.tmp 34) (by rfl) A [.string cc.fName, .string cc.fSuper, .slice f1 f2 f3, .slice g1 g2 g3] (by rfl) (by rfl) hTh.out HKC.out (by intro v hv; simp at hv; rcases hv with rfl | rfl | rfl | rfl <;> rfl) ?_
  intro w7 hr7 ht7 hT7 hY7
  have ST7 := qhd (ST6.out.setA hT7 hr7 ht7)
  clear hr7 ht7 hT7 hY7 ST6 hTh
  go_wp2_with fail
  go_meet
  case rel => exact ⟨cc, _, _, _, Nat.le_refl _, hm4, HRR.out, ST7.out⟩
 case rest =>
 obtain ⟨x, x2, x3, q3, hq3, hx4, hxr, ST⟩ := hcut
 obtain ⟨wc, rfl⟩ : ∃ W, W = wc := ⟨_, rfl⟩
 obtain ⟨_, _, e9, s1, s2, _, _⟩ := id hxr
 cases e9
 obtain ⟨f1, f2, f3, rfl⟩ := s1.form
 obtain ⟨g1, g2, g3, rfl⟩ := s2.form
 have HXR := qhd hxr
 have HST := qhd ST
 have hThB := qhd ST.fb.there
 obtain ⟨kl, kc0, kc1, kc2, kc3, kf0, kf1, kf2, kf3⟩ := ST.fa
 clear ST hxr s1 s2 ST5 K5
 go_wp2_with (refine wpList_store_rowT (by rfl) 37 (.tmp 8) (.tmp 35) (by rfl) B [.string x.fName, .string x.fSuper, .slice f1 f2 f3, .slice g1 g2 g3] (by rfl) (by rfl) hThB.out HKC.out (by intro v hv; simp at hv; rcases hv with rfl | rfl | rfl | rfl <;> rfl) ?_)
 intro w8 hr8 ht8 hT8 hY8
 have ST8 := qhd (HST.out.setB hT8 hr8 ht8)
 clear hr8 ht8 hT8 hY8 HST hThB kl kc0 kc1 kc2 kc3 kf0 kf1 kf2 kf3
 go_wp2_with fail
 refine (S_pick r q3 2 _ (by omega) ST8.out.rd (by omega)).mono ?_
 rintro _ w9 ⟨⟨y, hy, rfl⟩, R9, X9⟩
 have ST9 := qhd (ST8.out.go X9 R9)
 obtain ⟨yn, hyn, rfl⟩ := pick_nat (n := 2) (by omega) hy
 have qq := ST9.out.qc
 have lq : w3.heap.size < w9.heap.size := block_lt_of_cell qq
 have u00 : w9.cell? ⟨b2, 0, none⟩ = some (.slice ua un uc) := (qag (ST9.out.ex.block b2 (by omega) hd1)).trans u0
 have lb2 : b2 < w9.heap.size := by omega
 have QQC := qhd qq
 have U00 := qhd u00
 clear R9 X9 hy ST8 qq u00
 have HAS : Hid (rClsClass w1.heap.size w3 [.string x.fName, .string x.fSuper, .slice f1 f2 f3, .slice g1 g2 g3] x) := HXR
 have c3 : (¬ yn = 0) ∨ (yn = 0 ∧ un = 0) ∨ (yn = 0 ∧ 0 < un) := by omega
 have qq := QQC.out
 have u00 := U00.out
 rcases c3 with hy0 | ⟨hy0, hu0⟩ | ⟨hy0, hu1⟩
 case' inl =>
  have hy1 : ((yn : Int) == 0) = false := by simp; omega
  have hy2 : ¬ (yn : Int) = 0 := by omega
  go_wp2_with fail
  obtain ⟨z, h1, h2, h3, i1, i2, i3, q4, hq4, hz4, HZR, ST⟩ : ∃ (z : DClsClass) (h1 : Option Addr) (h2 h3 : Nat) (i1 : Option Addr) (i2 i3 : Nat) (q4 : Nat), q4 ≤ q3 + 2 ∧ z.fMethods.length ≤ 4 ∧ Hid (rClsClass w1.heap.size w3 [.string z.fName, .string z.fSuper, .slice h1 h2 h3, .slice i1 i2 i3] z) ∧ Hid (CSt r w3.heap.size A B (.slice (some ⟨b2, 0, none⟩) m2 cap2) w3 w9 q4 (.string x.fName) (.string x.fSuper) (.slice f1 f2 f3) (.slice g1 g2 g3) (.string z.fName) (.string z.fSuper) (.slice h1 h2 h3) (.slice i1 i2 i3)) := ⟨x, f1, f2, f3, g1, g2, g3, _, by omega, hx4, HXR, ST9⟩
  clear ST9 HXR qq u00 QQC U00 lq lb2
 case' inr.inl =>
  subst hy0
  subst hu0
  go_wp2_with fail
  obtain ⟨z, h1, h2, h3, i1, i2, i3, q4, hq4, hz4, HZR, ST⟩ : ∃ (z : DClsClass) (h1 : Option Addr) (h2 h3 : Nat) (i1 : Option Addr) (i2 i3 : Nat) (q4 : Nat), q4 ≤ q3 + 2 ∧ z.fMethods.length ≤ 4 ∧ Hid (rClsClass w1.heap.size w3 [.string z.fName, .string z.fSuper, .slice h1 h2 h3, .slice i1 i2 i3] z) ∧ Hid (CSt r w3.heap.size A B (.slice (some ⟨b2, 0, none⟩) m2 cap2) w3 w9 q4 (.string x.fName) (.string x.fSuper) (.slice f1 f2 f3) (.slice g1 g2 g3) (.string z.fName) (.string z.fSuper) (.slice h1 h2 h3) (.slice i1 i2 i3)) := ⟨x, f1, f2, f3, g1, g2, g3, _, by omega, hx4, HXR, ST9⟩
  clear ST9 HXR qq u00 QQC U00 lq lb2
 case' inr.inr =>
  subst hy0
  have hu2 : decide ((0 : Int) < (un : Int)) = true := by simp; omega
  obtain ⟨ub, ucap, cssu, eu, hub0, hub1, hub2, hub3, hrows2⟩ := U13.out.rowsAt (by rw [HUN.out]; exact hu1)
  rw [HUN.out] at eu hub2
  cases eu
  have HRU : Hid (∀ W, Ex r w9.heap.size w9 W → ∀ x, x < un → W.rangeAt ub (x * 4) (cssu.getD x []) ∧ (cssu.getD x []).length = 4) := qhd fun W hW x hx => by
   obtain ⟨y, hy⟩ : ∃ y, k2.fOwns[x]? = some y := ⟨_, List.getElem?_eq_getElem (by rw [HUN.out]; exact hx)⟩
   obtain ⟨cs, hcs, hl4, _, hr⟩ := hrows2 x y hy
   rw [List.getD_eq_getElem?_getD, hcs]
   exact ⟨fun j u hj => (qag ((ST9.out.ex.trans (hW.mono ST9.out.ex.size)).block ub (by omega) hub1)).trans (hr j u hj), hl4⟩
  have HRW2 := qhd hrows2
  have RD9 := qhd ST9.out.rd
  clear hrows2
  go_wp2_with fail
  refine wp_region_relyE 15 (Ex r w9.heap.size w9) (drawG 12 r) (fun _ => csF r (q3 + 1) w3.heap.size b2 m2 cap2 ub un uc (fun x => cssu.getD x [])) (drawI 12 r (q3 + 1)) noDead (by kernel_rfl) (by decide) (by kernel_rfl) (Or.inr ⟨by kernel_rfl, by kernel_rfl⟩) (by kernel_rfl) ((Ex.refl _ _ _).drew) (fun _ _ _ _ _ _ _ _ _ h => h) noDead_dead (fun _ _ => RD9.out.drew) (fun i j w1 w2 hne _ hg h => drawI_stays i j w1 w2 hne hg h) (fun _ i j u w1 w2 hne _ _ hg hF => csF_stays i j u w1 w2 hne hg hF) (fun _ _ _ => Or.inr (Below.refl _ _)) ?_
  refine qac (d := 48) rfl rfl (fun wx hC hI hd S0 hS => ?_) (fun v0 => ?_)
  ·have HSS := qhd hS; clear hS hd hI
   go_simp
   exact HSS.out _ _ hC (Or.inr (Below.refl _ _)) (by simp [csF])
  simp only [qnr]
  refine qac (d := 49) rfl rfl (fun wx hC hI hd S0 hS => ?_) (fun v1 => ?_)
  ·have d0 := hd ⟨0, .data⟩ (by simp) rfl v0 (by simp)
   simp only [csF] at d0
   subst d0
   have c0 := (qag (o := 0) (hC.block w3.heap.size (by omega) (by omega))).trans qq
   have HSS := qhd hS; clear hS hd hI
   go_simp
   exact HSS.out _ _ hC (Or.inr (Below.refl _ _)) (by simp [csF])
  simp only [qnr]
  refine qac (d := 50) rfl rfl (fun wx hC hI hd S0 hS => ?_) (fun v2 => ?_)
  ·have d1 := hd ⟨1, .data⟩ (by simp) rfl v1 (by simp)
   simp only [csF] at d1
   subst d1
   have HSS := qhd hS; clear hS hd hI
   go_simp
   exact HSS.out _ _ hC (Or.inr (Below.refl _ _)) (by simp [csF])
  simp only [qnr]
  refine qac (d := 51) rfl rfl (fun wx hC hI hd S0 hS => ?_) (fun v3 => ?_)
  ·have d2 := hd ⟨2, .data⟩ (by simp) rfl v2 (by simp)
   simp only [csF] at d2
   subst d2
   have HSS := qhd hS; clear hS hd hI
   go_simp
   exact HSS.out _ _ hC (Or.inr (Below.refl _ _)) (by simp [csF])
  simp only [qnr]
  refine qac (d := 52) rfl rfl (fun wx hC hI hd S0 hS => ?_) (fun v4 => ?_)
  ·have d3 := hd ⟨3, .data⟩ (by simp) rfl v3 (by simp)
   simp only [csF] at d3
   subst d3
   have c0 := (qag (o := 0) (hC.block b2 (by omega) (by omega))).trans u00
   have HSS := qhd hS; clear hS hd hI
   go_simp
   exact HSS.out _ _ hC (Or.inr (Below.refl _ _)) (by simp [csF])
  simp only [qnr]
  refine qac (d := 53) rfl rfl (fun wx hC hI hd S0 hS => ?_) (fun v5 => ?_)
  ·have HSS := qhd hS; clear hS hd hI
   go_simp
   exact HSS.out _ _ hC (Or.inr (Below.refl _ _)) (by simp [csF])
  simp only [qnr]
  refine qac (d := 54) rfl rfl (fun wx hC hI hd S0 hS => ?_) (fun v6 => ?_)
  ·have HSS := qhd hS; clear hS hd hI
   go_simp
   exact HSS.out _ _ hC (Or.inr (Below.refl _ _)) (by simp [csF])
  simp only [qnr]
  refine qac (d := 55) rfl rfl (fun wx hC hI hd S0 hS => ?_) (fun v7 => ?_)
  ·have d6 := hd ⟨6, .data⟩ (by simp) rfl v6 (by simp)
   simp only [csF] at d6
   subst d6
   have c0 := (qag (o := 0) (hC.block w3.heap.size (by omega) (by omega))).trans qq
   have HSS := qhd hS; clear hS hd hI
   go_simp
   exact HSS.out _ _ hC (Or.inr (Below.refl _ _)) (by simp [csF])
  simp only [qnr]
  refine qac (d := 56) rfl rfl (fun wx hC hI hd S0 hS => ?_) (fun v8 => ?_)
  ·have d7 := hd ⟨7, .data⟩ (by simp) rfl v7 (by simp)
   simp only [csF] at d7
   subst d7
   have HSS := qhd hS; clear hS hd hI
   go_simp
   exact HSS.out _ _ hC (Or.inr (Below.refl _ _)) (by simp [csF])
  simp only [qnr]
  refine qac (d := 57) rfl rfl (fun wx hC hI hd S0 hS => ?_) (fun v9 => ?_)
  ·have d8 := hd ⟨8, .data⟩ (by simp) rfl v8 (by simp)
   simp only [csF] at d8
   subst d8
   have HSS := qhd hS; clear hS hd hI
   go_simp
   exact HSS.out _ _ hC (Or.inr (Below.refl _ _)) (by simp [csF])
  simp only [qnr]
  refine qac (d := 58) rfl rfl (fun wx hC hI hd S0 hS => ?_) (fun v10 => ?_)
  ·have d9 := hd ⟨9, .data⟩ (by simp) rfl v9 (by simp)
   simp only [csF] at d9
   subst d9
   have c0 := (qag (o := 0) (hC.block b2 (by omega) (by omega))).trans u00
   have HSS := qhd hS; clear hS hd hI
   go_simp
   exact HSS.out _ _ hC (Or.inr (Below.refl _ _)) (by simp [csF])
  simp only [qnr]
  refine qac (d := 59) rfl rfl (fun wx hC hI hd S0 hS => ?_) (fun v11 => ?_)
  ·have d10 := hd ⟨10, .data⟩ (by simp) rfl v10 (by simp)
   simp only [csF] at d10
   subst d10
   have HSS := qhd hS; clear hS hd hI
   go_simp
   exact HSS.out _ _ hC (Or.inr (Below.refl _ _)) (by simp [csF])
  simp only [qnr]
  refine qac (d := 60) rfl rfl (fun wx hC hI hd S0 hS => ?_) (fun v12 => ?_)
  ·have d5 := hd ⟨5, .data⟩ (by simp) rfl v5 (by simp)
   simp only [csF] at d5
   subst d5
   have d11 := hd ⟨11, .data⟩ (by simp) rfl v11 (by simp)
   simp only [csF] at d11
   subst d11
   have hRd : Rd wx r (q3 + 1) := hI rfl
   have HSS := qhd hS; clear hS hd hI
   go_simp
   refine (S_pick r (q3 + 1) _ _ (by omega) hRd (by omega)).mono ?_
   rintro _ w' ⟨⟨x, hx, rfl⟩, hRq, hX⟩
   obtain ⟨xn, hxn, rfl⟩ := pick_nat (by omega) hx
   exact HSS.out _ _ (exC_ex hC hX) (Or.inl ⟨by simp, hX⟩) (by (simp only [qls, Nat.reduceAdd, csF]); exact ⟨xn, hxn, rfl, hRq⟩)
  simp only [qnr]
  refine qac (d := 61) rfl rfl (fun wx hC hI hd S0 hS => ?_) (fun v13 => ?_)
  ·have d4 := hd ⟨4, .data⟩ (by simp) rfl v4 (by simp)
   simp only [csF] at d4
   subst d4
   have d12 := hd ⟨12, .data⟩ (by simp) rfl v12 (by simp)
   simp only [csF] at d12
   obtain ⟨x, hx, d12, _⟩ := d12
   subst d12
   have HSS := qhd hS; clear hS hd hI
   go_simp
   exact HSS.out _ _ hC (Or.inr (Below.refl _ _)) (by (simp only [qls, Nat.reduceAdd, csF]); exact ⟨x, hx, rfl⟩)
  simp only [qnr]
  refine qac (d := 62) rfl rfl (fun wx hC hI hd S0 hS => ?_) (fun v14 => ?_)
  ·have d13 := hd ⟨13, .data⟩ (by simp) rfl v13 (by simp)
   simp only [csF] at d13
   obtain ⟨x, hx, d13⟩ := d13
   subst d13
   have HSS := qhd hS; clear hS hd hI
   refine wp_loadAt rfl rfl (run_loadAt_mid wx ub (x * 4) 37 (cssu.getD x []) _ (HRU.out wx hC x hx).1 Tryz.underlying37 rfl (by rw [(HRU.out wx hC x hx).2]; exact HKC.out)) ⟨put_defers' _ _ _, ?_⟩
   rw [qae (by simp)]
   exact HSS.out _ _ hC (Or.inr (Below.refl _ _)) (by (simp only [qls, Nat.reduceAdd, csF]); exact ⟨x, hx, rfl⟩)
  simp only [qnr]
  intro wA hC hF
  have f12 := hF 12 v12 (by simp) (fun _ _ => rfl)
  have f14 := hF 14 v14 (by simp) (fun _ _ => rfl)
  simp only [csF] at f12 f14
  obtain ⟨_, _, _, RA⟩ := f12
  obtain ⟨x6, hx6, e8⟩ := f14
  obtain ⟨cc, hcc⟩ : ∃ y, k2.fOwns[x6]? = some y := ⟨_, List.getElem?_eq_getElem (by rw [HUN.out]; exact hx6)⟩
  obtain ⟨cs6, hcs6, _, hrow6, _⟩ := HRW2.out x6 cc hcc
  have ecs : cssu.getD x6 [] = cs6 := by rw [List.getD_eq_getElem?_getD, hcs6]; rfl
  rw [ecs] at e8
  have hz4 := HM5.out _ _ hcc
  have hrr : rClsClass w1.heap.size w3 cs6 cc := rClsClass_good.low _ _ _ _ _ (by omega) (tClsClass_r hrow6)
  obtain ⟨y1, y2, rfl, s1, s2, _, _⟩ := id hrr
  obtain ⟨h1, h2, h3, rfl⟩ := s1.form
  obtain ⟨i1, i2, i3, rfl⟩ := s2.form
  subst e8
  have STA := qhd (ST9.out.go hC RA)
  have HRR := qhd hrr
  have hTh := qhd STA.out.fb.there
  clear hF ecs hcs6 hcc hrow6 hrr s1 s2 HRU HRW2 ST9 qq u00 hC RA
  simp only [List.drop_succ_cons, List.drop_zero]
  refine wpList_store_rowT (by rfl) 37 (.tmp 8) (.tmp 62) (by rfl) B [.string cc.fName, .string cc.fSuper, .slice h1 h2 h3, .slice i1 i2 i3] (by rfl) (by rfl) hTh.out HKC.out (by intro v hv; simp at hv; rcases hv with rfl | rfl | rfl | rfl <;> rfl) ?_
  intro wB hrB htB hTB hYB
  have ST := qhd (STA.out.setB hTB hrB htB)
  have HZR := HRR
  have hq4 : q3 + 1 + 1 ≤ q3 + 2 := by omega
  clear hrB htB hTB hYB STA hTh HRR QQC U00 HXR RD9
  obtain ⟨q4, hq5⟩ : ∃ q4, q4 = q3 + 1 + 1 := ⟨_, rfl⟩
  rw [← hq5] at ST
  replace hq4 : q4 ≤ q3 + 2 := by omega
  clear hq5
  obtain ⟨z, rfl⟩ : ∃ z, z = cc := ⟨_, rfl⟩
  go_wp2_with fail
 all_goals
  obtain ⟨_, _, e9, s1, s2, b1, b2'⟩ := id HZR.out
  cases e9
  have HS2 := qhd s2
  have HS1 := qhd s1
  clear s1 s2
  refine (S_odd r q4 4 _ (by omega) (by omega) ST.out.rd (by omega)).mono ?_
  rintro _ wD ⟨⟨od, rfl⟩, RD, XD⟩
  have STD := qhd (ST.out.go XD RD)
  clear XD RD ST
  have HIL := qhd HS2.out.len
  obtain ⟨hil1, hil2, hil3⟩ := HIL.out
  have hi3 : i3 ≤ 9223372036854775807 := by unfold maxLen at hil3; omega
  obtain ⟨kl, kc0, kc1, kc2, kc3, kf0, kf1, kf2, kf3⟩ := STD.out.fb
  have HOLD : Hid (rClsClass w1.heap.size wD [.string z.fName, .string z.fSuper, .slice h1 h2 h3, .slice i1 i2 i3] z) := qhd (rClsClass_good.stays _ _ _ _ _ (ex_keeps STD.out.ex hrl) HZR.out)
  have c3 : od = false ∨ (od = true ∧ i2 = 0) ∨ (od = true ∧ 0 < i2) := by
   cases od
   ·exact Or.inl rfl
   ·by_cases hz : i2 = 0
    ·exact Or.inr (Or.inl ⟨rfl, hz⟩)
    ·exact Or.inr (Or.inr ⟨rfl, by omega⟩)
  rcases c3 with hod | ⟨hod, hi0⟩ | ⟨hod, hi1⟩
  case' inl =>
   subst hod
   go_wp2_with fail
   obtain ⟨y, y2, y3, HY, YA, YB, YX, hrw⟩ : ∃ (y : DClsClass) (y2 y3 : Value), Hid (rClsClass w1.heap.size wD [.string y.fName, .string y.fSuper, y2, y3] y) ∧ Hid (Four wD A (.string x.fName) (.string x.fSuper) (.slice f1 f2 f3) (.slice g1 g2 g3)) ∧ Hid (Four wD B (.string y.fName) (.string y.fSuper) y2 y3) ∧ Hid (Ex r w3.heap.size w3 wD) ∧ True := ⟨z, _, _, HOLD, qhd STD.out.fa, qhd STD.out.fb, qhd STD.out.ex, trivial⟩
   clear kl kc0 kc1 kc2 kc3 kf0 kf1 kf2 kf3
  case' inr.inl =>
   subst hod
   subst hi0
   go_wp2_with fail
   obtain ⟨y, y2, y3, HY, YA, YB, YX, hrw⟩ : ∃ (y : DClsClass) (y2 y3 : Value), Hid (rClsClass w1.heap.size wD [.string y.fName, .string y.fSuper, y2, y3] y) ∧ Hid (Four wD A (.string x.fName) (.string x.fSuper) (.slice f1 f2 f3) (.slice g1 g2 g3)) ∧ Hid (Four wD B (.string y.fName) (.string y.fSuper) y2 y3) ∧ Hid (Ex r w3.heap.size w3 wD) ∧ True := ⟨z, _, _, HOLD, qhd STD.out.fa, qhd STD.out.fb, qhd STD.out.ex, trivial⟩
   clear kl kc0 kc1 kc2 kc3 kf0 kf1 kf2 kf3
  case' inr.inr =>
   subst hod
   have hi2 : decide ((0 : Int) < (i2 : Int)) = true := by simp; omega
   obtain ⟨ia, io, rfl, hia1, hia2⟩ : ∃ b' o', i1 = some ⟨b', o', none⟩ ∧ w1.heap.size ≤ b' ∧ b' < w3.heap.size := by
    obtain ⟨a', n', c', e, _, _, _, h⟩ := HS2.out
    cases e
    obtain ⟨b', o', e, h1, h2, _⟩ := h hi1
    exact ⟨b', o', e, h1, h2⟩
   have hB0 : Below wD.heap.size wD (wD.alloc (.cells #[] 65)) := (Below.refl _ _).alloc (Nat.le_refl _) _
   obtain ⟨cx, hsrc0, hcel, hrw⟩ := HS2.out.celLo rClsMethod_one (by omega)
   have h3D := STD.out.ex
   have hsrc : Src 8 (wD.alloc (.cells #[] 65)) (.slice (some ⟨ia, io, none⟩) i2 i3) cx := by
    rcases hsrc0 with ⟨e, _⟩ | ⟨ad, c, e, hc⟩
    ·cases e
    ·cases e
     refine Or.inr ⟨_, _, rfl, fun j u hj => ?_⟩
     have h5 := hc j u hj
     rw [Addr.add_mid] at h5 ⊢
     exact (qag ((hB0.block ia (by have := h3D.size; omega)).trans (h3D.block ia (by omega) hia2))).trans h5
   have hcxl : cx.length = i2 := by rw [hrw.len]; exact hil1
   have HSRC := qhd hsrc
   have HCEL := qhd hcel
   have HRW := qhd hrw
   have HCX := qhd hcxl
   have HB0 := qhd hB0
   have hz9 : i2 ≤ 1000 := by omega
   clear hsrc hcel hrw hB0 hcxl hsrc0 h3D
   go_wp2_with (at_builtin; refine wpList_append_copyC (B := wD.heap.size) (lo := wD.heap.size) (R := rCel) (E := NoT) (ys := cx) (css := cx) (by rfl) (.tmp 71) (.tmp 73) 35 (by rfl) sty_Mth rCel_goodT rCel_one (by rfl) (by rfl) (Empty0.new wD 65 (Nat.le_refl _)) HSRC.out (HCEL.out.mono fun _ _ h => h) (by rw [HCX.out]; omega) (Nat.le_refl _) (by simp) ?_)
   intro vE wE htE hbE
   have hsE := hbE.size
   simp only [World.size_alloc] at hsE
   have hDE : Below wD.heap.size wD wE := HB0.out.trans (hbE.mono (by simp))
   obtain ⟨g, capE, rfl, hgD, hgE, hcE, hcM, _, _⟩ := own_cell htE.owns (by rw [HCX.out]; exact hi1)
   rw [HCX.out] at htE hcE ⊢
   have hcM' : capE ≤ 9223372036854775807 := by unfold maxLen at hcM; omega
   have hBD : B < wD.heap.size := kl
   have STE := qhd (STD.out.below hDE)
   have HTE := qhd htE
   clear kl kc0 kc1 kc2 kc3 kf0 kf1 kf2 kf3 htE hbE HSRC HCEL
   obtain ⟨kl, kc0, kc1, kc2, kc3, kf0, kf1, kf2, kf3⟩ := STE.out.fb
   go_wp2_with fail
   obtain ⟨wF, hwF⟩ : ∃ W, W = wE.setCell ⟨B, 3, none⟩ (.slice (some ⟨g, 0, none⟩) i2 capE) := ⟨_, rfl⟩
   rw [← hwF]
   have STF : Hid (CSt r w3.heap.size A B (.slice (some ⟨b2, 0, none⟩) m2 cap2) w3 wF (q4 + 1) (.string x.fName) (.string x.fSuper) (.slice f1 f2 f3) (.slice g1 g2 g3) (.string z.fName) (.string z.fSuper) (.slice h1 h2 h3) (.slice (some ⟨g, 0, none⟩) i2 capE)) := qhd (by rw [hwF]; exact STE.out.set3 _)
   have hgF : wF.heap[g]? = wE.heap[g]? := by rw [hwF]; exact Below.heap_setCell _ _ _ _ (by show g ≠ B; omega)
   have hsF : wE.heap.size ≤ wF.heap.size := by rw [hwF]; simp [World.setCell]
   have fb3 := STF.out.fb.c3
   have hBF := STF.out.fb.lt
   have hl1F : w1.heap.size ≤ wF.heap.size := by omega
   have hrB : r < B := by omega
   have RDF := qhd STF.out.rd
   clear hwF kl kc0 kc1 kc2 kc3 kf0 kf1 kf2 kf3 STE
   refine wp_region_relyE 5 (Ex r wF.heap.size wF) (drawG 3 r) (fun _ => cmF wF.heap.size r B g i2 capE) (drawI 3 r (q4 + 1)) noDead (by kernel_rfl) (by decide) (by kernel_rfl) (Or.inr ⟨by kernel_rfl, by kernel_rfl⟩) (by kernel_rfl) ((Ex.refl _ _ _).drew) (fun _ _ _ _ _ _ _ _ _ h => h) noDead_dead (fun _ _ => RDF.out.drew) (fun i j w1 w2 hne _ hg h => drawI_stays i j w1 w2 hne hg h) (fun _ i j u w1 w2 hne _ _ hg hF => cmF_stays i j u w1 w2 hne hg hF) (fun _ _ _ => Or.inr (Below.refl _ _)) ?_
   refine qac (d := 76) rfl rfl (fun wx hC hI hd S0 hS => ?_) (fun v0 => ?_)
   ·have HSS := qhd hS; clear hS hd hI
    go_simp
    exact HSS.out _ _ hC (Or.inr (Below.refl _ _)) (by simp [cmF])
   simp only [qnr]
   refine qac (d := 77) rfl rfl (fun wx hC hI hd S0 hS => ?_) (fun v1 => ?_)
   ·have d0 := hd ⟨0, .data⟩ (by simp) rfl v0 (by simp)
    simp only [cmF] at d0
    subst d0
    have c0 := (qag (o := 3) (hC.block B (by omega) (by omega))).trans fb3
    have HSS := qhd hS; clear hS hd hI
    go_simp
    exact HSS.out _ _ hC (Or.inr (Below.refl _ _)) (by simp [cmF])
   simp only [qnr]
   refine qac (d := 78) rfl rfl (fun wx hC hI hd S0 hS => ?_) (fun v2 => ?_)
   ·have HSS := qhd hS; clear hS hd hI
    go_simp
    exact HSS.out _ _ hC (Or.inr (Below.refl _ _)) (by simp [cmF])
   simp only [qnr]
   refine qac (d := 79) rfl rfl (fun wx hC hI hd S0 hS => ?_) (fun v3 => ?_)
   ·have d2 := hd ⟨2, .data⟩ (by simp) rfl v2 (by simp)
    simp only [cmF] at d2
    subst d2
    have hRd : Rd wx r (q4 + 1) := hI rfl
    have hzx := hC.size
    have HSS := qhd hS; clear hS hd hI
    go_simp
    refine (S_l20Method r (q4 + 1) 1 _ (by omega) (by omega) hRd (by omega)).mono ?_
    rintro _ w' ⟨m, u1, u2, u3, q', rfl, hm, hq', hRq, hX⟩
    exact HSS.out _ _ (exC_ex hC hX) (Or.inl ⟨by simp, hX⟩) (by (simp only [qls, Nat.reduceAdd, cmF]); exact ⟨m, u1, u2, u3, rfl, rClsMethod_good.low _ _ _ _ _ (by omega) (tClsMethod_r hm)⟩)
   simp only [qnr]
   refine qac (d := 80) rfl rfl (fun wx hC hI hd S0 hS => ?_) (fun v4 => ?_)
   ·have d1 := hd ⟨1, .data⟩ (by simp) rfl v1 (by simp)
    simp only [cmF] at d1
    subst d1
    have HSS := qhd hS; clear hS hd hI
    go_simp
    exact HSS.out _ _ hC (Or.inr (Below.refl _ _)) (by simp [cmF])
   simp only [qnr]
   intro wG hC hF
   have f3' := hF 3 v3 (by simp) (fun _ _ => rfl)
   have f4' := hF 4 v4 (by simp) (fun _ _ => rfl)
   simp only [cmF] at f3' f4'
   obtain ⟨m9, u1, u2, u3, e3, hmr⟩ := f3'
   subst e3
   subst f4'
   obtain ⟨_, _, _, e9, s1, s2, s3, _, _⟩ := id hmr
   cases e9
   obtain ⟨p1, p2, p3, rfl⟩ := s1.form
   obtain ⟨p4, p5, p6, rfl⟩ := s2.form
   obtain ⟨p7, p8, p9, rfl⟩ := s3.form
   have hsG := hC.size
   have hTG : TOwnC 8 rCel 65 wD.heap.size wD.heap.size wG (.slice (some ⟨g, 0, none⟩) i2 capE) cx cx := ⟨HTE.out.rows.mono fun _ _ h => h, own_kept HTE.out.owns (fun g' _ _ hg' _ _ => by cases hg'; exact (hC.block g (by omega) (by omega)).trans hgF), HTE.out.own⟩
   obtain ⟨c0', hc0'⟩ : ∃ c, cx[0]? = some c := ⟨_, List.getElem?_eq_getElem (by rw [HCX.out]; exact hi1)⟩
   have hc8 : c0'.length = 8 := (hTG.rows.row 0 _ _ hc0' hc0').1
   have hthere : wG.there g 0 8 := fun j hj => by
    obtain ⟨u, hu⟩ : ∃ u, c0'[j]? = some u := ⟨_, List.getElem?_eq_getElem (by omega)⟩
    obtain ⟨h8, h9, _⟩ := hTG.cellAt hc0' hu
    simp only [Nat.zero_mul, Nat.zero_add] at h8 h9 ⊢
    exact ⟨by rw [h8]; rfl, h9⟩
   have HTH := qhd hthere
   have HTG := qhd hTG
   have HMR := qhd hmr
   have HCC := qhd hc0'
   have HC := qhd hC
   have hI8 : Hid ((Tryz.prog.info? 65).map (·.size) = some 8) := qhd (by kernel_rfl)
   clear hF s1 s2 s3 hthere hTG hmr hc0' hC
   simp only [List.drop_succ_cons, List.drop_zero]
   refine wpList_store_midL (by rfl) 65 (.tmp 80) (.tmp 79) (by rfl) g 0 [.string m9.fName, .slice p1 p2 p3, .int .i64 m9.fRet.fKind, .string m9.fRet.fName, .int .i64 m9.fLocals, .int .i64 m9.fStack, .slice p4 p5 p6, .slice p7 p8 p9] (by rfl) (by rfl) HTH.out hI8.out (by intro v hv; simp at hv; rcases hv with rfl | rfl | rfl | rfl | rfl | rfl | rfl | rfl <;> rfl) ?_
   intro wH hwH
   have hTH : Turn g wG wH := by rw [hwH]; exact Turn.setCells g _ 0 wG
   have hT9 := TOwnC.setRow (i := 0) (vs := [.string m9.fName, .slice p1 p2 p3, .int .i64 m9.fRet.fKind, .string m9.fRet.fName, .int .i64 m9.fLocals, .int .i64 m9.fStack, .slice p4 p5 p6, .slice p7 p8 p9]) HTG.out HCC.out rfl (by intro v hv; simp at hv; rcases hv with rfl | rfl | rfl | rfl | rfl | rfl | rfl | rfl <;> rfl)
   rw [Nat.zero_mul, ← hwH] at hT9
   obtain ⟨lr, lQ, lA, lB⟩ := STF.out.low
   have hsH := hTH.size
   have hsF3 := STF.out.ex.size
   have YX : Hid (Ex r w3.heap.size w3 wH) := qhd (((STF.out.ex).trans (HC.out.mono hsF3)).trans (hTH.ex (by omega)))
   have hbk : ∀ k, k ≠ r → k ≠ g → k < wF.heap.size → wH.heap[k]? = wF.heap[k]? := fun k h1 h2 h3 => (hTH.block k h2).trans (HC.out.block k h1 h3)
   have YA : Hid (Four wH A (.string x.fName) (.string x.fSuper) (.slice f1 f2 f3) (.slice g1 g2 g3)) := qhd (STF.out.fa.kept (by omega) (hbk A (by omega) (by omega) (by omega)))
   have YB : Hid (Four wH B (.string z.fName) (.string z.fSuper) (.slice h1 h2 h3) (.slice (some ⟨g, 0, none⟩) i2 capE)) := qhd (STF.out.fb.kept (by omega) (hbk B (by omega) (by omega) hBF))
   have hMH : rClsMethod w1.heap.size wH [.string m9.fName, .slice p1 p2 p3, .int .i64 m9.fRet.fKind, .string m9.fRet.fName, .int .i64 m9.fLocals, .int .i64 m9.fStack, .slice p4 p5 p6, .slice p7 p8 p9] m9 := rClsMethod_good.low _ _ _ _ _ hl1F (rClsMethod_good.stays _ _ _ _ _ (⟨by omega, fun k h1 h2 => hTH.block k (by omega)⟩ : Keeps wF.heap.size wG wH) HMR.out)
   have hRH : Rows 8 rClsMethod w1.heap.size wH cx z.fMethods := HRW.out.mono fun cs x h => rClsMethod_good.stays _ _ _ _ _ (ex_keeps YX.out hrl) h
   have hOS := own_sl hT9 (by rw [List.length_set]; exact HCX.out) (by omega) (rows_set hRH (i := 0) rfl hMH)
   have HY : Hid (rClsClass w1.heap.size wH [.string z.fName, .string z.fSuper, .slice h1 h2 h3, .slice (some ⟨g, 0, none⟩) i2 capE] { z with fMethods := z.fMethods.set 0 m9 }) := qhd ⟨_, _, rfl, HS1.out.stays qap (ex_keeps YX.out hrl), hOS, b1, by simpa using b2'⟩
   clear hT9 hMH hRH hOS hTH hwH hbk hsH HTG HTH HMR HCC HC HRW HTE HCX STF RDF HOLD STD
   clear hgF hsF fb3 hBF hl1F hrB hsG hDE hsE HB0 hgD hgE hcE hcM hcM' hBD
   obtain ⟨y, y2, y3, hyz, HY, YA, YB, YX, hrw⟩ : ∃ (y : DClsClass) (y2 y3 : Value), True ∧ Hid (rClsClass w1.heap.size wH [.string y.fName, .string y.fSuper, y2, y3] y) ∧ Hid (Four wH A (.string x.fName) (.string x.fSuper) (.slice f1 f2 f3) (.slice g1 g2 g3)) ∧ Hid (Four wH B (.string y.fName) (.string y.fSuper) y2 y3) ∧ Hid (Ex r w3.heap.size w3 wH) ∧ True := ⟨{ z with fMethods := z.fMethods.set 0 m9 }, _, _, trivial, HY, YA, YB, YX, trivial⟩
   go_wp2_with fail
   obtain ⟨wD, rfl⟩ : ∃ W, W = wH := ⟨_, rfl⟩
  all_goals
   obtain ⟨_, _, e9, s1, s2, _, _⟩ := id HY.out
   cases e9
   obtain ⟨m1, m2, m3, rfl⟩ := s1.form
   obtain ⟨n1, n2, n3, rfl⟩ := s2.form
   clear s1 s2
   obtain ⟨kl, kc0, kc1, kc2, kc3, kf0, kf1, kf2, kf3⟩ := YA.out
   obtain ⟨ml, mc0, mc1, mc2, mc3, mf0, mf1, mf2, mf3⟩ := YB.out
   have hz12 : w1.heap.size ≤ w3.heap.size := by omega
   have hz0 : w.heap.size + 1 + 1 = r := hr
   have hl0 : w.heap.size ≠ r := by omega
   have hl2 : w.heap.size + 1 ≠ r := by omega
   have RAZ := qhd (RA3.out.kept YX.out.size (YX.out.block _ hl0 RA3.out.lt))
   have RBZ := qhd (RB3.out.kept YX.out.size (YX.out.block _ hl2 RB3.out.lt))
   have hsZ := YX.out.size
   obtain ⟨al, ac0, ac1, ac2, ac3, af0, af1, af2, af3⟩ := RAZ.out
   obtain ⟨dl, dc0, dc1, dc2, dc3, df0, df1, df2, df3⟩ := RBZ.out
   have hA1 : ¬ A = w.heap.size := by omega
   have hA2 : ¬ A = w.heap.size + 1 := by omega
   have hB1 : ¬ B = w.heap.size := by omega
   have hB2 : ¬ B = w.heap.size + 1 := by omega
   have hA3 : ¬ w.heap.size = A := by omega
   have hA4 : ¬ w.heap.size + 1 = A := by omega
   have hB3 : ¬ w.heap.size = B := by omega
   have hB4 : ¬ w.heap.size + 1 = B := by omega
   have QX0 := qhd (rClsClass_good.stays _ _ _ _ _ (ex_keeps YX.out hrl) HAS.out)
   have QB0 := qhd (HEX.out _ YX.out)
   have hwl : w.heap.size < w1.heap.size ∧ w.heap.size + 1 < w1.heap.size := ⟨by omega, by omega⟩
   obtain ⟨hwl1, hwl2⟩ := hwl
   clear HAS HZR HS1 YA YB YX HEX
   go_region
   all_goals
    obtain ⟨W, hW, QA, QB, QK, QL⟩ := sets_two (N := w.heap.size) (M := w1.heap.size) (x0 := .string x.fName) (x1 := .string x.fSuper) (x2 := .slice f1 f2 f3) (x3 := .slice g1 g2 g3) (y0 := .string y.fName) (y1 := .string y.fSuper) (y2 := .slice m1 m2 m3) (y3 := .slice n1 n2 n3) RAZ.out RBZ.out (by omega) (Nat.le_refl _) (by omega) hwl1 hwl2
    rw [← hW]
    refine at_K (by assumption) ?_
    refine end_two (A := w.heap.size) (B := w.heap.size + 1) rfl rfl rfl QA QB HKC.out (HR.out _ _ ⟨⟨x, y, _, _, _, _, rfl, rClsClass_good.low _ _ _ _ _ (Nat.zero_le _) (rClsClass_good.stays _ _ _ _ _ QK QX0.out), rClsClass_good.low _ _ _ _ _ (Nat.zero_le _) (rClsClass_good.stays _ _ _ _ _ QK HY.out)⟩, QB0.out.trans QL⟩)

end Go.Proofs.YtfbonocadpknbaaGreatDoor
