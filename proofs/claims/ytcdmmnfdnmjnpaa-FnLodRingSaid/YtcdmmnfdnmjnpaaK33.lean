/-
  Texts of mine, packed: Copy. No condition beside those of the single theorems.
-/
import Derived.Test.YtcdmmnfdnmjnpaaK11
set_option linter.unusedSimpArgs false
set_option linter.unusedVariables false
namespace Go.Proofs.Ytcdmmnfdnmjnpaa
open Go.RowKit
def rRaw : RowRel (List Value) := fun _ _ cs x => cs = x ∧ ∀ u ∈ cs, u.oneCell' = true
theorem rRaw_goodT : GoodT NoT rRaw := ⟨fun _ _ _ _ _ _ h => h, fun _ _ _ _ _ _ h => h⟩
theorem rRaw_one : ∀ lo w cs x, rRaw lo w cs x → ∀ u ∈ cs, u.oneCell' = true := fun _ _ _ _ h => h.2

theorem kpr_one {lo : Nat} {w : World} {cs : List Value} {x : DLodKeeper} (h : rLodKeeper lo w cs x) : ∀ u ∈ cs, u.oneCell' = true := by
  obtain ⟨v1, v2, rfl, t1, t2⟩ := h
  obtain ⟨_, _, _, rfl⟩ := t1.form
  obtain ⟨_, _, _, rfl⟩ := t2.form
  intro u hu
  simp at hu
  rcases hu with rfl | rfl <;> rfl
theorem Sl.css {w : World} {a : Option Addr} {n cap : Nat} {xs : List DLodKeeper} (h : Sl 2 rLodKeeper 0 w (.slice a n cap) xs) (hn : 0 < n) :
    ∃ css : List (List Value), Src 2 w (.slice a n cap) css ∧ Rows 2 rRaw 0 w css css ∧ css.length = n ∧ ∀ (i : Nat) (x : DLodKeeper), xs[i]? = some x → ∃ cs, css[i]? = some cs ∧ cs.length = 2 ∧ rLodKeeper 0 w cs x := by
  obtain ⟨a', n', cap', e, hl, h1, h2, h3⟩ := h
  cases e
  obtain ⟨b, off, rfl, _, hb, hr⟩ := h3 hn
  have hc : ∀ i, ∃ cs : List Value, i < n → ∃ x, xs[i]? = some x ∧ cs.length = 2 ∧ w.rangeAt b (off + i * 2) cs ∧ rLodKeeper 0 w cs x := fun i => by
    by_cases hi : i < n
    · obtain ⟨x, cs, e0, e1, e2, e3⟩ := hr i hi
      exact ⟨cs, fun _ => ⟨x, e0, e1, e2, e3⟩⟩
    · exact ⟨[], fun h => absurd h hi⟩
  obtain ⟨f, hf⟩ := Classical.skolem.1 hc
  have hat : ∀ i, i < n → ((List.range n).map f)[i]? = some (f i) := fun i hi => by simp [hi]
  have hlen : ((List.range n).map f).length = n := by simp
  have heach : ∀ c ∈ (List.range n).map f, c.length = 2 := fun c hc => by
    obtain ⟨i, hi, rfl⟩ := List.mem_map.1 hc
    obtain ⟨_, _, h, _⟩ := hf i (List.mem_range.1 hi)
    exact h
  refine ⟨(List.range n).map f, Or.inr ⟨⟨b, off, none⟩, cap, by rw [hlen], fun j u hj => ?_⟩, ⟨rfl, fun i x cs e1 e2 => ?_⟩, hlen, fun i x e => ?_⟩
  · have hjl : j < n * 2 := by
      have := (List.getElem?_eq_some_iff.1 hj).1
      rw [flat_len heach, hlen] at this
      exact this
    have hi : j / 2 < n := by omega
    have hfl := flat_at heach (hat _ hi) (j := j % 2) (by omega)
    rw [show j / 2 * 2 + j % 2 = j by omega, hj] at hfl
    obtain ⟨_, _, _, hrg, _⟩ := hf _ hi
    have := hrg (j % 2) u hfl.symm
    rw [Addr.add_mid]
    rw [show off + j / 2 * 2 + j % 2 = off + j by omega] at this
    exact this
  · rw [e1] at e2
    cases e2
    have hi : i < n := by have := (List.getElem?_eq_some_iff.1 e1).1; rw [hlen] at this; exact this
    rw [hat i hi] at e1
    cases e1
    obtain ⟨_, _, h4, _, h5⟩ := hf i hi
    exact ⟨h4, rfl, kpr_one h5⟩
  · have hi : i < n := by have := (List.getElem?_eq_some_iff.1 e).1; omega
    obtain ⟨y, e0, h4, _, h5⟩ := hf i hi
    rw [e] at e0
    cases e0
    exact ⟨f i, hat i hi, h4, h5⟩

structure KB (W : World) (g : Nat) (css : List (List Value)) : Prop where
  lt : g < W.heap.size
  row : ∀ i cs, css[i]? = some cs → cs.length = 2 ∧ W.rangeAt g (i * 2) cs
  free : ∀ j, W.frozen? ⟨g, j, none⟩ = false
theorem KB.of_own {W : World} {lo B : Nat} {css : List (List Value)} {v : Value} {n : Nat} (h : TOwnC 2 rRaw 54 lo B W v css css) (hn : css.length = n) (h0 : 0 < n) : ∃ g cap, v = .slice (some ⟨g, 0, none⟩) n cap ∧ B ≤ g ∧ n ≤ cap ∧ cap ≤ maxLen ∧ KB W g css := by
  subst hn
  obtain ⟨g, cap, rfl, h1, h2, h3, h4, h5, h6⟩ := own_cell h.owns h0
  refine ⟨g, cap, rfl, h.own g rfl, h3, h4, ⟨h2, fun i cs hi => ?_, h6⟩⟩
  obtain ⟨hk, _⟩ := h.rows.row i cs cs hi hi
  exact ⟨hk, fun j u hj => h5 _ u ((flat_at h.rows.each hi (by rw [← hk]; exact (List.getElem?_eq_some_iff.1 hj).1)).trans hj)⟩
theorem KB.kept {W W' : World} {g : Nat} {css : List (List Value)} (h : KB W g css) (hs : W.heap.size ≤ W'.heap.size) (hb : W'.heap[g]? = W.heap[g]?) : KB W' g css :=
  ⟨Nat.lt_of_lt_of_le h.lt hs, fun i cs hi => ⟨(h.row i cs hi).1, range_keep (h.row i cs hi).2 hb⟩, fun j => (frozen_of_heap hb).trans (h.free j)⟩
theorem KB.below {W W' : World} {N g : Nat} {css : List (List Value)} (h : KB W g css) (hb : Below N W W') (hN : g < N) : KB W' g css := h.kept hb.size (hb.block g hN)
theorem KB.alloc {W : World} {g : Nat} {css : List (List Value)} (h : KB W g css) (o : Obj) : KB (W.alloc o) g css := h.below ((Below.refl W.heap.size W).alloc (Nat.le_refl _) o) h.lt
theorem KB.other {W : World} {g c o : Nat} {v : Value} {css : List (List Value)} (h : KB W g css) (hc : c ≠ g) : KB (W.setCell ⟨c, o, none⟩ v) g css :=
  h.kept (Nat.le_of_eq (by simp [World.setCell])) (Below.heap_setCell _ _ _ _ (by simpa using fun e : g = c => hc e.symm))
theorem KB.set {W : World} {g i b : Nat} {v : Value} {css : List (List Value)} {cs : List Value} (h : KB W g css) (hi : css[i]? = some cs) (hb : b < 2) : KB (W.setCell ⟨g, i * 2 + b, none⟩ v) g (css.set i (cs.set b v)) := by
  have hsame : ∀ u, W.cell? ⟨g, i * 2 + b, none⟩ = some u → (W.setCell ⟨g, i * 2 + b, none⟩ v).cell? ⟨g, i * 2 + b, none⟩ = some v := fun u hu => by rw [World.cell?_setCell_same _ _ _ hu]
  have hoth : ∀ j, j ≠ i * 2 + b → (W.setCell ⟨g, i * 2 + b, none⟩ v).cell? ⟨g, j, none⟩ = W.cell? ⟨g, j, none⟩ := fun j hj => World.cell?_setCell_other _ _ _ _ (by intro e; simp at e <;> omega)
  refine ⟨by simpa [World.setCell] using h.lt, fun k ds hk => ?_, fun j => by rw [World.frozen?_setCell]; exact h.free j⟩
  obtain ⟨h1, h2⟩ := h.row i cs hi
  by_cases hki : k = i
  · subst hki
    have hk2 : ds = cs.set b v := by
      rw [List.getElem?_set_self (List.getElem?_eq_some_iff.1 hi).1] at hk
      exact (Option.some.inj hk).symm
    subst hk2
    refine ⟨by simp [h1], fun j u hj => ?_⟩
    have hj2 : j < 2 := by have := (List.getElem?_eq_some_iff.1 hj).1; simp [h1] at this; exact this
    by_cases hjb : j = b
    · subst hjb
      rw [List.getElem?_set_self (by omega)] at hj
      cases hj
      obtain ⟨u0, hu0⟩ : ∃ u, cs[j]? = some u := ⟨_, List.getElem?_eq_getElem (by omega)⟩
      exact hsame u0 (h2 j u0 hu0)
    · rw [List.getElem?_set_ne (by omega)] at hj
      rw [hoth _ (by omega)]
      exact h2 j u hj
  · rw [List.getElem?_set_ne (by omega)] at hk
    obtain ⟨h3, h4⟩ := h.row k ds hk
    refine ⟨h3, fun j u hj => ?_⟩
    have hj2 : j < 2 := by have := (List.getElem?_eq_some_iff.1 hj).1; omega
    rw [hoth _ (by omega)]
    exact h4 j u hj
theorem KB.sl {W : World} {g n cap : Nat} {css : List (List Value)} {xs : List DLodKeeper} (h : KB W g css) (hn : xs.length = n) (hc : n ≤ cap) (hm : cap ≤ maxLen) (hr : ∀ (i : Nat) (x : DLodKeeper), xs[i]? = some x → ∃ cs, css[i]? = some cs ∧ rLodKeeper 0 W cs x) : Sl 2 rLodKeeper 0 W (.slice (some ⟨g, 0, none⟩) n cap) xs := by
  refine ⟨_, _, _, rfl, hn, hc, hm, fun h0 => ⟨g, 0, rfl, Nat.zero_le _, h.lt, fun i hi => ?_⟩⟩
  obtain ⟨x, hx⟩ : ∃ x, xs[i]? = some x := ⟨_, List.getElem?_eq_getElem (by omega)⟩
  obtain ⟨cs, h1, h2⟩ := hr i x hx
  obtain ⟨h3, h4⟩ := h.row i cs h1
  exact ⟨x, cs, hx, h3, by rw [Nat.zero_add]; exact h4, h2⟩
theorem set_at {α : Type} {xs : List α} {k i : Nat} {a y : α} (h : (xs.set k y)[i]? = some a) : (i = k ∧ a = y) ∨ (i ≠ k ∧ xs[i]? = some a) := by
  by_cases hk : i = k
  · subst hk
    have hl := (List.getElem?_eq_some_iff.1 h).1
    rw [List.length_set] at hl
    rw [List.getElem?_set_self hl] at h
    exact Or.inl ⟨rfl, (Option.some.inj h).symm⟩
  · rw [List.getElem?_set_ne (by omega)] at h
    exact Or.inr ⟨hk, h⟩

end Go.Proofs.Ytcdmmnfdnmjnpaa
