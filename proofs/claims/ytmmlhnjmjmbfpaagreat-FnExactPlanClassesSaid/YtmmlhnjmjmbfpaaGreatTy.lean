

/-
  Slices of the call's own, of rows of cells: what such a slice holds, as a list, and of which type its block is; all that is reached lies in blocks from lo on. No condition.
-/
import Derived.Test.YtmmlhnjmjmbfpaaGreatRep
import Derived.Laws.AppendOwn
import Derived.Laws.AppendOwnNone
namespace Go.Proofs.YtmmlhnjmjmbfpaaGreat
set_option linter.unusedSimpArgs false
set_option linter.unusedVariables false
open Go.RowKit

theorem flat_at {k : Nat} : ∀ {css : List (List Value)} {i j : Nat} {cs : List Value}, (∀ c ∈ css, c.length = k) → css[i]? = some cs → j < k → css.flatten[i * k + j]? = cs[j]?
  | [], i, j, cs, _, e, _ => by simp at e
  | c :: r, 0, j, cs, hk, e, hj => by
    simp at e; subst e
    have := hk c (by simp)
    rw [List.flatten_cons, List.getElem?_append_left (by omega)]; simp
  | c :: r, i + 1, j, cs, hk, e, hj => by
    have h1 := hk c (by simp)
    have h2 := flat_at (css := r) (i := i) (j := j) (cs := cs) (fun x hx => hk x (by simp [hx])) (by simpa using e) hj
    rw [List.flatten_cons, List.getElem?_append_right (by rw [Nat.add_mul]; omega), ← h2]
    congr 1
    rw [Nat.add_mul]; omega
theorem flat_len {k : Nat} : ∀ {css : List (List Value)}, (∀ c ∈ css, c.length = k) → css.flatten.length = css.length * k
  | [], _ => by simp
  | c :: r, h => by
    have h1 := h c (by simp)
    have h2 := flat_len (css := r) (fun x hx => h x (by simp [hx]))
    rw [List.flatten_cons, List.length_append, h1, h2, List.length_cons, Nat.add_mul]; omega

/-- the cells css are the rows xs -/
structure Rows {α : Type} (k : Nat) (R : RowRel α) (lo : Nat) (w : World) (css : List (List Value)) (xs : List α) : Prop where
  len : css.length = xs.length
  row : ∀ (i : Nat) (x : α) (cs : List Value), xs[i]? = some x → css[i]? = some cs → cs.length = k ∧ R lo w cs x
theorem Rows.each {α : Type} {k : Nat} {R : RowRel α} {lo : Nat} {w : World} {css : List (List Value)} {xs : List α} (h : Rows k R lo w css xs) : ∀ c ∈ css, c.length = k := fun c hc => by
  obtain ⟨i, hi⟩ := List.mem_iff_getElem?.1 hc
  have hl := (List.getElem?_eq_some_iff.1 hi).1
  obtain ⟨x, hx⟩ : ∃ x, xs[i]? = some x := ⟨_, List.getElem?_eq_getElem (by rw [← h.len]; exact hl)⟩
  exact (h.row i x c hx hi).1
theorem Rows.nil {α : Type} {k : Nat} {R : RowRel α} {lo : Nat} {w : World} : Rows k R lo w [] ([] : List α) := ⟨rfl, fun i x cs h => by simp at h⟩
theorem Rows.append {α : Type} {k : Nat} {R : RowRel α} {lo : Nat} {w : World} {c1 c2 : List (List Value)} {x1 x2 : List α} (h1 : Rows k R lo w c1 x1) (h2 : Rows k R lo w c2 x2) : Rows k R lo w (c1 ++ c2) (x1 ++ x2) := by
  refine ⟨by rw [List.length_append, List.length_append, h1.len, h2.len], fun i x cs hx hc => ?_⟩
  by_cases hi : i < x1.length
  · rw [List.getElem?_append_left hi] at hx
    rw [List.getElem?_append_left (by rw [h1.len]; exact hi)] at hc
    exact h1.row i x cs hx hc
  · rw [List.getElem?_append_right (by omega)] at hx
    rw [List.getElem?_append_right (by rw [h1.len]; omega), h1.len] at hc
    exact h2.row _ x cs hx hc
theorem Rows.one {α : Type} {k : Nat} {R : RowRel α} {lo : Nat} {w : World} {cs : List Value} {x : α} (hl : cs.length = k) (h : R lo w cs x) : Rows k R lo w [cs] [x] :=
  ⟨rfl, fun i y c hy hc => by
    cases i with
    | zero => simp at hy hc; subst hy; subst hc; exact ⟨hl, h⟩
    | succ i => simp at hy⟩
theorem Rows.take {α : Type} {k : Nat} {R : RowRel α} {lo : Nat} {w : World} {css : List (List Value)} {xs : List α} (h : Rows k R lo w css xs) (n : Nat) : Rows k R lo w (css.take n) (xs.take n) :=
  ⟨by rw [List.length_take, List.length_take, h.len], fun i x cs hx hc => by
    rw [List.getElem?_take] at hx hc
    split at hx
    · rename_i hi; rw [if_pos hi] at hc; exact h.row i x cs hx hc
    · cases hx⟩
theorem Rows.mono {α : Type} {k : Nat} {R R' : RowRel α} {lo lo' : Nat} {w w' : World} {css : List (List Value)} {xs : List α} (h : Rows k R lo w css xs) (hr : ∀ cs x, R lo w cs x → R' lo' w' cs x) : Rows k R' lo' w' css xs :=
  ⟨h.len, fun i x cs hx hc => ⟨(h.row i x cs hx hc).1, hr _ _ (h.row i x cs hx hc).2⟩⟩

/-- a slice of the call's own, from block lo on, of elements of type e, whose rows are xs -/
def TSl {α : Type} (k : Nat) (R : RowRel α) (e : TypeId) (lo : Nat) (w : World) (v : Value) (xs : List α) : Prop :=
  ∃ css : List (List Value), Rows k R lo w css xs ∧ w.ownsRow lo e k v xs.length css.flatten
theorem TSl.nil {α : Type} {k : Nat} {R : RowRel α} {e : TypeId} {lo : Nat} {w : World} : TSl k R e lo w (.slice none 0 0) ([] : List α) :=
  ⟨[], Rows.nil, by simp, Or.inl ⟨rfl, rfl⟩⟩
theorem own_low {w : World} {base base' : Nat} {e : TypeId} {k : Nat} {v : Value} {n : Nat} {xs : List Value} (h : w.ownsRow base e k v n xs) (hb : base' ≤ base) : w.ownsRow base' e k v n xs := by
  obtain ⟨h0, h⟩ := h
  rcases h with h | ⟨g, cap, cur, h1, h2, h3⟩
  · exact ⟨h0, Or.inl h⟩
  · exact ⟨h0, Or.inr ⟨g, cap, cur, h1, Nat.le_trans hb h2, h3⟩⟩
theorem own_kept {w w' : World} {base : Nat} {e : TypeId} {k : Nat} {v : Value} {n : Nat} {xs : List Value} (h : w.ownsRow base e k v n xs) (hk : ∀ g cs fr, v.ownBlock = some g → base ≤ g → w.heap[g]? = some (.cells cs e fr) → w'.heap[g]? = w.heap[g]?) : w'.ownsRow base e k v n xs := by
  obtain ⟨h0, h⟩ := h
  rcases h with h | ⟨g, cap, cur, h1, h2, h3, h4⟩
  · exact ⟨h0, Or.inl h⟩
  · exact ⟨h0, Or.inr ⟨g, cap, cur, h1, h2, (hk g cur (0, 0) (by rw [h1]; rfl) h2 h3).trans h3, h4⟩⟩
theorem own_form {w : World} {base : Nat} {e : TypeId} {k : Nat} {v : Value} {n : Nat} {xs : List Value} (h : w.ownsRow base e k v n xs) : ∃ (a : Option Addr) (cap : Nat), v = .slice a n cap ∧ n ≤ cap ∧ cap ≤ maxLen := by
  obtain ⟨_, h⟩ := h
  rcases h with ⟨h1, h2⟩ | ⟨g, cap, cur, h1, h2, h3, h4, h5, _⟩
  · subst h2; exact ⟨none, 0, h1, Nat.le_refl _, Nat.zero_le _⟩
  · exact ⟨_, cap, h1, h4, h5⟩
/-- its cells -/
theorem own_cell {w : World} {base : Nat} {e : TypeId} {k : Nat} {v : Value} {n : Nat} {xs : List Value} (h : w.ownsRow base e k v n xs) (hn : 0 < n) : ∃ g cap, v = .slice (some ⟨g, 0, none⟩) n cap ∧ base ≤ g ∧ g < w.heap.size ∧ n ≤ cap ∧ cap ≤ maxLen ∧ (∀ j u, xs[j]? = some u → w.cell? ⟨g, j, none⟩ = some u) ∧ (∀ j, w.frozen? ⟨g, j, none⟩ = false) := by
  obtain ⟨h0, h⟩ := h
  rcases h with ⟨_, h2⟩ | ⟨g, cap, cur, h1, h2, h3, h4, h5, h6, h7⟩
  · omega
  · refine ⟨g, cap, h1, h2, (Array.getElem?_eq_some_iff.1 h3).1, h4, h5, fun j u hj => ?_, fun j => ?_⟩
    · rw [← h7, List.getElem?_take] at hj
      split at hj
      · simp only [World.cell?, h3]
        simpa using hj
      · cases hj
    · simp [World.frozen?, h3]
theorem TSl.form {α : Type} {k : Nat} {R : RowRel α} {e : TypeId} {lo : Nat} {w : World} {v : Value} {xs : List α} (h : TSl k R e lo w v xs) : ∃ (a : Option Addr) (cap : Nat), v = .slice a xs.length cap ∧ xs.length ≤ cap ∧ cap ≤ maxLen := by
  obtain ⟨css, _, h⟩ := h
  exact own_form h
/-- .. as a slice of rows -/
theorem TSl.sl {α : Type} {k : Nat} {R R' : RowRel α} {e : TypeId} {lo : Nat} {w : World} {v : Value} {xs : List α} (h : TSl k R e lo w v xs) (hr : ∀ cs x, R lo w cs x → R' lo w cs x) : Sl k R' lo w v xs := by
  obtain ⟨css, h1, h2⟩ := h
  by_cases hn : 0 < xs.length
  · obtain ⟨g, cap, rfl, hb, hg, hc, hm, hcell, _⟩ := own_cell h2 hn
    refine ⟨_, _, _, rfl, rfl, hc, hm, fun _ => ⟨g, 0, rfl, hb, hg, fun i hi => ?_⟩⟩
    obtain ⟨x, hx⟩ : ∃ x, xs[i]? = some x := ⟨_, List.getElem?_eq_getElem hi⟩
    obtain ⟨cs, hcs⟩ : ∃ cs, css[i]? = some cs := ⟨_, List.getElem?_eq_getElem (by rw [h1.len]; exact hi)⟩
    obtain ⟨hk, hR⟩ := h1.row i x cs hx hcs
    refine ⟨x, cs, hx, hk, fun j u hj => ?_, hr _ _ hR⟩
    have hjk : j < k := by rw [← hk]; exact (List.getElem?_eq_some_iff.1 hj).1
    rw [Nat.zero_add]
    exact hcell _ u ((flat_at h1.each hcs hjk).trans hj)
  · obtain ⟨a, cap, rfl, hc, hm⟩ := own_form h2
    exact ⟨_, _, _, rfl, rfl, hc, hm, fun h => absurd h hn⟩
theorem TSl.low {α : Type} {k : Nat} {R : RowRel α} {e : TypeId} {lo lo' : Nat} {w : World} {v : Value} {xs : List α} (h : TSl k R e lo w v xs) (hl : lo' ≤ lo) (hr : ∀ cs x, R lo w cs x → R lo' w cs x) : TSl k R e lo' w v xs := by
  obtain ⟨css, h1, h2⟩ := h
  exact ⟨css, h1.mono hr, own_low h2 hl⟩
theorem TSl.kept {α : Type} {k : Nat} {R : RowRel α} {e : TypeId} {lo : Nat} {w w' : World} {v : Value} {xs : List α} (h : TSl k R e lo w v xs) (hk : ∀ g cs fr, v.ownBlock = some g → lo ≤ g → w.heap[g]? = some (.cells cs e fr) → w'.heap[g]? = w.heap[g]?) (hr : ∀ cs x, R lo w cs x → R lo w' cs x) : TSl k R e lo w' v xs := by
  obtain ⟨css, h1, h2⟩ := h
  exact ⟨css, h1.mono hr, own_kept h2 hk⟩

/-- from block lo on, blocks of the types E stay -/
structure KeepsT (E : TypeId → Prop) (lo : Nat) (w w' : World) : Prop where
  size : w.heap.size ≤ w'.heap.size
  block : ∀ g cs e fr, lo ≤ g → E e → w.heap[g]? = some (.cells cs e fr) → w'.heap[g]? = w.heap[g]?
theorem KeepsT.of_below {E : TypeId → Prop} {lo : Nat} {w w' : World} (h : Below w.heap.size w w') : KeepsT E lo w w' :=
  ⟨h.size, fun g cs e fr _ _ hg => h.block g (Array.getElem?_eq_some_iff.1 hg).1⟩
theorem KeepsT.of_keeps {E : TypeId → Prop} {lo : Nat} {w w' : World} (h : Keeps lo w w') : KeepsT E lo w w' :=
  ⟨h.size, fun g cs e fr hl _ hg => h.block g hl (Array.getElem?_eq_some_iff.1 hg).1⟩
/-- a relation that stays where the blocks of types E stay, and holds of a smaller lo -/
structure GoodT {α : Type} (E : TypeId → Prop) (R : RowRel α) : Prop where
  stays : ∀ lo w w' cs x, KeepsT E lo w w' → R lo w cs x → R lo w' cs x
  low : ∀ lo lo' w cs x, lo' ≤ lo → R lo w cs x → R lo' w cs x
theorem GoodT.good {α : Type} {E : TypeId → Prop} {R : RowRel α} (h : GoodT E R) : Good R := ⟨fun lo w w' cs x hk => h.stays lo w w' cs x (KeepsT.of_keeps hk), h.low⟩
theorem TSl.stays {α : Type} {k : Nat} {E : TypeId → Prop} {R : RowRel α} (hR : GoodT E R) {e : TypeId} (he : E e) {lo : Nat} {w w' : World} {v : Value} {xs : List α} (h : TSl k R e lo w v xs) (hk : KeepsT E lo w w') : TSl k R e lo w' v xs :=
  h.kept (fun g cs fr _ hl hg => hk.block g cs e fr hl he hg) (fun cs x => hR.stays lo w w' cs x hk)
theorem TSl.below {α : Type} {k : Nat} {E : TypeId → Prop} {R : RowRel α} (hR : GoodT E R) {e : TypeId} {lo : Nat} {w w' : World} {v : Value} {xs : List α} (h : TSl k R e lo w v xs) (hb : Below w.heap.size w w') : TSl k R e lo w' v xs :=
  h.kept (fun g cs fr _ hl hg => hb.block g (Array.getElem?_eq_some_iff.1 hg).1) (fun cs x hx => hR.stays lo w w' cs x (KeepsT.of_below hb) hx)
theorem TSl.at_lo {α : Type} {k : Nat} {R : RowRel α} {e : TypeId} {lo : Nat} {w : World} {v : Value} {xs : List α} (h : TSl k R e lo w v xs) : ∀ g, v.ownBlock = some g → lo ≤ g := by
  obtain ⟨css, _, h2⟩ := h
  exact fun g hg => (h2.lt g hg).1
theorem TSl.low' {α : Type} {k : Nat} {E : TypeId → Prop} {R : RowRel α} (hR : GoodT E R) {e : TypeId} {lo lo' : Nat} {w : World} {v : Value} {xs : List α} (h : TSl k R e lo w v xs) (hl : lo' ≤ lo) : TSl k R e lo' w v xs := h.low hl fun cs x => hR.low lo lo' w cs x hl
theorem GoodT.mono {α : Type} {E E' : TypeId → Prop} {R : RowRel α} (h : GoodT E R) (hE : ∀ e, E e → E' e) : GoodT E' R := ⟨fun lo w w' cs x hk => h.stays lo w w' cs x ⟨hk.size, fun g cs e fr hl he => hk.block g cs e fr hl (hE e he)⟩, h.low⟩

theorem KeepsT.of_grown {E : TypeId → Prop} {lo base : Nat} {w w' : World} {e : TypeId} {k n : Nat} {v : Value} {xs : List Value} (hg : w.grownBy w' v.ownBlock) (hown : w.ownsRow base e k v n xs) (he : ¬ E e) : KeepsT E lo w w' := by
  refine ⟨hg.size, fun g cs e' fr _ hE hgc => hg.block g (Array.getElem?_eq_some_iff.1 hgc).1 fun h => ?_⟩
  obtain ⟨_, h2⟩ := hown
  rcases h2 with ⟨h3, _⟩ | ⟨g', cap, cur, h3, _, h5, _⟩
  · rw [h3] at h; cases h
  · rw [h3] at h
    cases h
    rw [hgc] at h5
    cases h5
    exact he hE

def NoT : TypeId → Prop := fun _ => False
theorem rStr_goodT : GoodT NoT rStr := ⟨fun _ _ _ _ _ _ h => h, fun _ _ _ _ _ _ h => h⟩
theorem rStr_one : ∀ lo w cs x, rStr lo w cs x → ∀ u ∈ cs, u.oneCell' = true := by
  intro lo w cs x h u hu
  obtain ⟨rfl, _⟩ := h
  simp at hu
  subst hu; rfl

/-- the cells css lie where the slice sv points -/
def Src (k : Nat) (w : World) (sv : Value) (css : List (List Value)) : Prop := (sv = .slice none 0 0 ∧ css = []) ∨ ∃ (ad : Addr) (c : Nat), sv = .slice (some ad) css.length c ∧ ∀ j u, css.flatten[j]? = some u → w.cell? (ad.add j) = some u
theorem Src.of_own {α : Type} {k : Nat} {R : RowRel α} {e : TypeId} {lo base : Nat} {w : World} {v : Value} {css : List (List Value)} {xs : List α} (hr : Rows k R lo w css xs) (h : w.ownsRow base e k v xs.length css.flatten) : Src k w v css := by
  obtain ⟨_, h2⟩ := id h
  rcases h2 with ⟨h3, h4⟩ | ⟨g, cap, cur, h3, h4⟩
  · exact Or.inl ⟨h3, List.eq_nil_of_length_eq_zero (by rw [hr.len]; exact h4)⟩
  · refine Or.inr ⟨⟨g, 0, none⟩, cap, by rw [h3, hr.len], fun j u hj => ?_⟩
    by_cases hn : 0 < xs.length
    · obtain ⟨g', cap', e1, _, _, _, _, hc, _⟩ := own_cell h hn
      rw [h3] at e1
      cases e1
      have := hc j u hj
      rw [Addr.add_mid, Nat.zero_add]
      exact this
    · have : css = [] := List.eq_nil_of_length_eq_zero (by rw [hr.len]; omega)
      subst this
      simp at hj
theorem Src.kept {k : Nat} {w w' : World} {sv : Value} {css : List (List Value)} (h : Src k w sv css) (hb : Below w.heap.size w w') : Src k w' sv css := by
  rcases h with h | ⟨ad, c, h1, h2⟩
  · exact Or.inl h
  · exact Or.inr ⟨ad, c, h1, fun j u hj => keep_cell hb (h2 j u hj)⟩
theorem Src.one {k : Nat} {w : World} {b : Nat} {cs : List Value} (h : ∀ j u, cs[j]? = some u → w.cell? ⟨b, j, none⟩ = some u) : Src k w (.slice (some ⟨b, 0, none⟩) 1 1) [cs] :=
  Or.inr ⟨⟨b, 0, none⟩, 1, rfl, fun j u hj => by
    have := h j u (by simpa using hj)
    rw [Addr.add_mid, Nat.zero_add]
    exact this⟩

/-- append to a slice of the call's own: what it holds then -/
theorem wpList_append_T {ops : Array Oper} {rest : List Oper} {o : Oper} {a : Act} {Q : Exit → Act → World → Prop} {w : World} (hgd : o.guard = none) (s x : Operand) (t : TypeId)
    (ho : o.op = .call { callee := .builtin .append, args := #[s, x], argTypes := #[t, t] })
    (e : TypeId) (k bytes : Nat) (z : Value) (ht : Tryz.prog.underlying t = some (.slice e)) (hi : (Tryz.prog.info? e).map (fun i => (i.zero, i.size, i.bytes)) = some (some z, k, bytes)) (hzk : z.cells.size = k) (hk0 : 0 < k) (hby : bytes ≤ 1000)
    {α : Type} {R : RowRel α} {E : TypeId → Prop} (hR : GoodT E R) (he : ¬ E e) (h1 : ∀ lo w cs x, R lo w cs x → ∀ u ∈ cs, u.oneCell' = true)
    {base : Nat} {v sv : Value} {xs ys : List α} {css : List (List Value)} (hs : a.eval s = v) (hv : TSl k R e base w v xs) (hx : a.eval x = sv) (hsrc : Src k w sv css) (hrow : Rows k R base w css ys) (hl : xs.length + ys.length ≤ 4000000) (hbase : base ≤ w.heap.size)
    (h : ∀ v' w', TSl k R e base w' v' (xs ++ ys) → w.grownBy w' v.ownBlock → KeepsT E 0 w w' → wpList Tryz.prog ops Q rest (a.put o.dst v') w') : wpList Tryz.prog ops Q (o :: rest) a w := by
  cases hq : Tryz.prog.info? e with
  | none => rw [hq] at hi; cases hi
  | some i =>
    rw [hq] at hi
    simp only [Option.map_some, Option.some.injEq, Prod.mk.injEq] at hi
    obtain ⟨hz0, hz1, hz2⟩ := hi
    obtain ⟨cx, hrx, hown⟩ := hv
    rcases hsrc with ⟨rfl, rfl⟩ | ⟨ad, c, rfl, hcell⟩
    · have hy : ys = [] := List.eq_nil_of_length_eq_zero (by rw [← hrow.len]; rfl)
      subst hy
      refine wpList_append_own_none hgd s x t ho base e i k ht hq v xs.length cx.flatten hs hown hx (h v w ?_ ⟨rfl, rfl, rfl, Nat.le_refl _, fun _ _ _ => rfl⟩ ⟨Nat.le_refl _, fun _ _ _ _ _ _ _ => rfl⟩)
      rw [List.append_nil]
      exact ⟨cx, hrx, hown⟩
    · refine wpList_append_own w hgd s x t ho base e i z k bytes ht hq hz0 hz1 hz2 hzk hk0 v xs.length cx.flatten hs hown ad css.length c css.flatten hx (flat_len hrow.each) hcell ?_ ?_ ?_ hbase ?_
      · intro u hu
        obtain ⟨cs, hcs, hu'⟩ := List.mem_flatten.1 hu
        obtain ⟨j, hj⟩ := List.mem_iff_getElem?.1 hcs
        obtain ⟨y, hy⟩ : ∃ y, ys[j]? = some y := ⟨_, List.getElem?_eq_getElem (by rw [← hrow.len]; exact (List.getElem?_eq_some_iff.1 hj).1)⟩
        exact h1 _ _ _ _ (hrow.row j y cs hy hj).2 u hu'
      · rw [hrow.len]; unfold maxLen; omega
      · rw [hrow.len]
        have : (xs.length + ys.length) * bytes ≤ 4000000 * 1000 := Nat.mul_le_mul hl hby
        omega
      · intro v' w' hown' hg _
        have hk : ∀ lo, KeepsT E lo w w' := fun lo => KeepsT.of_grown hg hown he
        refine h v' w' ⟨cx ++ css, (hrx.mono fun cs x hR' => hR.stays _ _ _ _ _ (hk _) hR').append (hrow.mono fun cs x hR' => hR.stays _ _ _ _ _ (hk _) hR'), ?_⟩ hg (hk 0)
        rw [List.flatten_append, List.length_append, ← hrow.len]
        exact hown'

end Go.Proofs.YtmmlhnjmjmbfpaaGreat
