/-
  Texts of mine, packed: App. No condition beside those of the single theorems.
-/
import Derived.Test.YtfbonocadpknbaaGreatDoorC2
import Derived.Maps.AppendAt
import Derived.Great.BuildSlice
set_option linter.unusedSimpArgs false
set_option linter.unusedVariables false
set_option maxHeartbeats 16000000
set_option maxRecDepth 100000
namespace Go.Proofs.YtfbonocadpknbaaGreatDoor
open Go.RowKit
structure STy (T e : TypeId) (k : Nat) (z : Value) (bytes : Nat) : Prop where
 un : Tryz.prog.underlying T = some (.slice e)
 info : (Tryz.prog.info? e).map (fun i => (i.zero, i.size, i.bytes)) = some (some z, k, bytes)
 zk : z.cells.size = k
 k0 : 0 < k
 by0 : bytes ≤ 1000
theorem STy.parts {T e : TypeId} {k : Nat} {z : Value} {bytes : Nat} (h : STy T e k z bytes) : ∃ i, Tryz.prog.info? e = some i ∧ i.zero = some z ∧ i.size = k ∧ i.bytes = bytes := info_parts h.info

structure TOwn {α : Type} (k : Nat) (R : RowRel α) (e : TypeId) (lo B : Nat) (w : World) (v : Value) (xs : List α) : Prop where
 sl : TSl k R e lo w v xs
 own : ∀ b, v.ownBlock = some b → B ≤ b
theorem TOwn.below {α : Type} {k : Nat} {E : TypeId → Prop} {R : RowRel α} (hR : GoodT E R) {e : TypeId} {lo B : Nat} {w w' : World} {v : Value} {xs : List α} (h : TOwn k R e lo B w v xs) (hb : Below w.heap.size w w') : TOwn k R e lo B w' v xs := ⟨h.sl.below hR hb, h.own⟩

def Empty0 (e : TypeId) (B : Nat) (w : World) (v : Value) : Prop := ∃ g, v = .slice (some ⟨g, 0, none⟩) 0 0 ∧ B ≤ g ∧ w.heap[g]? = some (.cells #[] e (0, 0))
theorem Empty0.below {e : TypeId} {B : Nat} {w w' : World} {v : Value} (h : Empty0 e B w v) (hb : Below w.heap.size w w') : Empty0 e B w' v := by
 obtain ⟨g, h1, h2, h3⟩ := h
 exact ⟨g, h1, h2, (hb.block g (Array.getElem?_eq_some_iff.1 h3).1).trans h3⟩
theorem Empty0.own {α : Type} {k : Nat} {R : RowRel α} {e : TypeId} {lo B : Nat} {w : World} {v : Value} (h : Empty0 e B w v) (hl : lo ≤ B) : TOwn k R e lo B w v ([] : List α) := by
 obtain ⟨g, rfl, h2, h3⟩ := h
 exact ⟨⟨[], Rows.nil, by simp, Or.inr ⟨g, 0, #[], rfl, by omega, h3, Nat.le_refl _, Nat.zero_le _, by simp, by simp⟩⟩, fun b hb => by
  have : g = b := by simpa [Value.ownBlock] using hb
  omega⟩
theorem Empty0.new (w : World) (e : TypeId) {B : Nat} (hB : B ≤ w.heap.size) : Empty0 e B (w.alloc (.cells #[] e)) (.slice (some ⟨w.heap.size, 0, none⟩) 0 0) := ⟨_, rfl, hB, heap_alloc_new w _⟩

theorem run_empty {T e : TypeId} {k : Nat} {z : Value} {bytes : Nat} (h : STy T e k z bytes) (w : World) :
  (Instr.buildSlice T 0 #[]).run Tryz.prog w = .ok (.slice (some ⟨w.heap.size, 0, none⟩) 0 0) (w.alloc (.cells #[] e)) := by
 obtain ⟨i, hi, hz, hk, hb⟩ := h.parts
 simp [Instr.buildSlice, run_underlying h.un, sizeOf, typeInfo, zeroValue, hi, hz, newRow, Instr.fill]
 rw [Array.eq_empty_of_size_eq_zero (xs := Array.map (fun x => default) (Array.range 0)) (by simp)]
theorem run_lits {T e : TypeId} {k : Nat} {z : Value} {bytes : Nat} (h : STy T e k z bytes) (vs : List Value) (h1 : ∀ v ∈ vs, v.cells.size = k) (h0 : 0 < vs.length) (hl : vs.length * k ≤ 16777216) (w : World) :
  (Instr.buildSlice T vs.length ((vs.zipIdx 0).map fun x => (x.2, x.1)).toArray).run Tryz.prog w = .ok (.slice (some ⟨w.heap.size, 0, none⟩) vs.length vs.length) (w.alloc (.cells (vs.flatMap fun v => v.cells.toList).toArray e)) := by
 obtain ⟨i, hi, hz, hk, hb⟩ := h.parts
 have hp : 0 < vs.length * k := Nat.mul_pos h0 h.k0
 refine run_buildSlice w T e vs.length _ _ i z h.un hi hz (by rw [hk]; omega) (by rw [hk]; omega) ?_
 rw [hk]
 exact Great.fill_whole h.k0 vs _ h1 (by simp)
theorem run_one {T e : TypeId} {k : Nat} {z : Value} {bytes : Nat} (h : STy T e k z bytes) (cs : List Value) (hl : cs.length = k) (hk : k ≤ 100) (w : World) :
  (Instr.buildSlice T 1 #[(0, .agg cs.toArray)]).run Tryz.prog w = .ok (.slice (some ⟨w.heap.size, 0, none⟩) 1 1) (w.alloc (.cells cs.toArray e)) := by
 have := run_lits h [.agg cs.toArray] (by intro v hv; simp at hv; subst hv; simp [Value.cells, hl]) (by simp) (by simp; omega) w
 simpa [Value.cells] using this
theorem run_one1 {T e : TypeId} {z : Value} {bytes : Nat} (h : STy T e 1 z bytes) (y : Value) (hy : y.cells = #[y]) (w : World) :
  (Instr.buildSlice T 1 #[(0, y)]).run Tryz.prog w = .ok (.slice (some ⟨w.heap.size, 0, none⟩) 1 1) (w.alloc (.cells #[y] e)) := by
 have := run_lits h [y] (by intro v hv; simp at hv; subst hv; rw [hy]; rfl) (by simp) (by simp) w
 simpa [hy] using this
theorem Src.new {k : Nat} {w : World} {e : TypeId} {cs : List Value} : Src k (w.alloc (.cells cs.toArray e)) (.slice (some ⟨w.heap.size, 0, none⟩) 1 1) [cs] := Src.one fun j u hj => by
 rw [World.cell?_alloc_at (hn := rfl)]
 simpa using hj

theorem rows_one {α : Type} {k : Nat} {R : RowRel α} (h1 : ∀ lo w cs x, R lo w cs x → ∀ u ∈ cs, u.oneCell' = true) {lo : Nat} {w : World} {css : List (List Value)} {ys : List α} (hrow : Rows k R lo w css ys) : ∀ u ∈ css.flatten, u.oneCell' = true := by
 intro u hu
 obtain ⟨cs, hcs, hu'⟩ := List.mem_flatten.1 hu
 obtain ⟨j, hj⟩ := List.mem_iff_getElem?.1 hcs
 obtain ⟨y, hy⟩ : ∃ y, ys[j]? = some y := ⟨_, List.getElem?_eq_getElem (by rw [← hrow.len]; exact (List.getElem?_eq_some_iff.1 hj).1)⟩
 exact h1 _ _ _ _ (hrow.row j y cs hy hj).2 u hu'

structure TOwnC {α : Type} (k : Nat) (R : RowRel α) (e : TypeId) (lo B : Nat) (w : World) (v : Value) (css : List (List Value)) (xs : List α) : Prop where
 rows : Rows k R lo w css xs
 owns : w.ownsRow lo e k v xs.length css.flatten
 own : ∀ b, v.ownBlock = some b → B ≤ b
theorem TOwnC.plain {α : Type} {k : Nat} {R : RowRel α} {e : TypeId} {lo B : Nat} {w : World} {v : Value} {css : List (List Value)} {xs : List α} (h : TOwnC k R e lo B w v css xs) : TOwn k R e lo B w v xs := ⟨⟨css, h.rows, h.owns⟩, h.own⟩
theorem TOwn.told {α : Type} {k : Nat} {R : RowRel α} {e : TypeId} {lo B : Nat} {w : World} {v : Value} {xs : List α} (h : TOwn k R e lo B w v xs) : ∃ css, TOwnC k R e lo B w v css xs := by
 obtain ⟨⟨css, h1, h2⟩, h3⟩ := h
 exact ⟨css, h1, h2, h3⟩
theorem TOwnC.below {α : Type} {k : Nat} {E : TypeId → Prop} {R : RowRel α} (hR : GoodT E R) {e : TypeId} {lo B : Nat} {w w' : World} {v : Value} {css : List (List Value)} {xs : List α} (h : TOwnC k R e lo B w v css xs) (hb : Below w.heap.size w w') : TOwnC k R e lo B w' v css xs :=
 ⟨h.rows.mono fun cs x hx => hR.stays _ _ _ _ _ (KeepsT.of_below hb) hx, own_kept h.owns (fun g cs fr _ _ hg => hb.block g (Array.getElem?_eq_some_iff.1 hg).1), h.own⟩

theorem run_append_FC {T ty e : TypeId} {k : Nat} {z : Value} {bytes : Nat} (h : STy T e k z bytes) {α : Type} {R : RowRel α} {E : TypeId → Prop} (hR : GoodT E R) (he : ¬ E e) (h1 : ∀ lo w cs x, R lo w cs x → ∀ u ∈ cs, u.oneCell' = true)
  {lo B : Nat} {w : World} {v sv : Value} {xs ys : List α} {cx css : List (List Value)} (hv : TOwnC k R e lo B w v cx xs) (hsrc : Src k w sv css) (hrow : Rows k R lo w css ys) (hl : xs.length + ys.length ≤ 1000000) (hlo : lo ≤ B) (hB : B ≤ w.heap.size) :
  ∃ v' w', (Builtin.append_ #[T, T] ty #[v, sv]).run Tryz.prog w = .ok v' w' ∧ TOwnC k R e lo B w' v' (cx ++ css) (xs ++ ys) ∧ Below B w w' ∧ w.grownBy w' v.ownBlock ∧ KeepsT E 0 w w' ∧ (∀ b, v'.ownBlock = some b → v.ownBlock = some b ∨ w.heap.size ≤ b) := by
 obtain ⟨i, hi, hz, hk, hb⟩ := h.parts
 obtain ⟨hrx, hown, hvB⟩ := hv
 rcases hsrc with ⟨rfl, rfl⟩ | ⟨ad, c, rfl, hcell⟩
 ·have hy : ys = [] := List.eq_nil_of_length_eq_zero (by rw [← hrow.len]; rfl)
  subst hy
  refine ⟨v, w, run_append_owned_none w lo T ty e i k h.un hi v xs.length cx.flatten hown, ⟨by rw [List.append_nil, List.append_nil]; exact hrx, by rw [List.append_nil, List.append_nil]; exact hown, hvB⟩, Below.refl _ _, ⟨rfl, rfl, rfl, Nat.le_refl _, fun _ _ _ => rfl⟩, ⟨Nat.le_refl _, fun _ _ _ _ _ _ _ => rfl⟩, fun b hb => Or.inl hb⟩
 ·obtain ⟨v', w', hr, hown', hg, _, hat⟩ := run_append_own_at (P := Tryz.prog) w lo T ty e i z k bytes h.un hi hz hk hb h.zk h.k0 v xs.length cx.flatten hown ad css.length c css.flatten (flat_len hrow.each) hcell (rows_one h1 hrow) (by rw [hrow.len]; unfold maxLen; omega)
   (by
    rw [hrow.len]
    have : (xs.length + ys.length) * bytes ≤ 1000000 * 1000 := Nat.mul_le_mul hl h.by0
    omega) (by omega)
  have hk2 : ∀ lo, KeepsT E lo w w' := fun lo => KeepsT.of_grown hg hown he
  refine ⟨v', w', hr, ⟨(hrx.mono fun cs x hR' => hR.stays _ _ _ _ _ (hk2 _) hR').append (hrow.mono fun cs x hR' => hR.stays _ _ _ _ _ (hk2 _) hR'), ?_, ?_⟩, (Below.refl B w).grown hg hB hvB, hg, hk2 0, fun b hbk => ?_⟩
  ·rw [List.flatten_append, List.length_append, ← hrow.len]
   exact hown'
  ·intro b hbk
   rcases hat with hat | hat
   ·exact hvB b (hat.symm.trans hbk)
   ·rw [hat] at hbk
    cases hbk
    exact hB
  ·rcases hat with hat | hat
   ·exact Or.inl (hat.symm.trans hbk)
   ·rw [hat] at hbk
    cases hbk
    exact Or.inr (Nat.le_refl _)
theorem run_append_F {T ty e : TypeId} {k : Nat} {z : Value} {bytes : Nat} (h : STy T e k z bytes) {α : Type} {R : RowRel α} {E : TypeId → Prop} (hR : GoodT E R) (he : ¬ E e) (h1 : ∀ lo w cs x, R lo w cs x → ∀ u ∈ cs, u.oneCell' = true)
  {lo B : Nat} {w : World} {v sv : Value} {xs ys : List α} {css : List (List Value)} (hv : TOwn k R e lo B w v xs) (hsrc : Src k w sv css) (hrow : Rows k R lo w css ys) (hl : xs.length + ys.length ≤ 1000000) (hlo : lo ≤ B) (hB : B ≤ w.heap.size) :
  ∃ v' w', (Builtin.append_ #[T, T] ty #[v, sv]).run Tryz.prog w = .ok v' w' ∧ TOwn k R e lo B w' v' (xs ++ ys) ∧ Below B w w' ∧ w.grownBy w' v.ownBlock ∧ KeepsT E 0 w w' ∧ (∀ b, v'.ownBlock = some b → v.ownBlock = some b ∨ w.heap.size ≤ b) := by
 obtain ⟨cx, hc⟩ := hv.told
 obtain ⟨v', w', a1, a2, a3⟩ := run_append_FC (ty := ty) h hR he h1 hc hsrc hrow hl hlo hB
 exact ⟨v', w', a1, a2.plain, a3⟩
theorem run_append_copyC {T ty e : TypeId} {k : Nat} {z : Value} {bytes : Nat} (h : STy T e k z bytes) {α : Type} {R : RowRel α} {E : TypeId → Prop} (hR : GoodT E R) (h1 : ∀ lo w cs x, R lo w cs x → ∀ u ∈ cs, u.oneCell' = true)
  {lo B : Nat} {w : World} {v sv : Value} {ys : List α} {css : List (List Value)} (hv : Empty0 e B w v) (hsrc : Src k w sv css) (hrow : Rows k R lo w css ys) (hl : ys.length ≤ 1000000) (hlo : lo ≤ B) (hB : B ≤ w.heap.size) :
  ∃ v' w', (Builtin.append_ #[T, T] ty #[v, sv]).run Tryz.prog w = .ok v' w' ∧ TOwnC k R e lo B w' v' css ys ∧ Below w.heap.size w w' := by
 obtain ⟨i, hi, hz, hk, hb⟩ := h.parts
 by_cases hy0 : ys = []
 ·subst hy0
  have hc0 : css = [] := List.eq_nil_of_length_eq_zero (by rw [hrow.len]; rfl)
  subst hc0
  obtain ⟨g, rfl, hBg, hg⟩ := hv
  have hown : w.ownsRow lo e k (.slice (some ⟨g, 0, none⟩) 0 0) 0 [] := ⟨by simp, Or.inr ⟨g, 0, #[], rfl, by omega, hg, Nat.le_refl _, Nat.zero_le _, by simp, by simp⟩⟩
  refine ⟨_, w, ?_, ⟨Rows.nil, hown, fun b hb => ?_⟩, Below.refl _ _⟩
  ·rcases hsrc with ⟨rfl, _⟩ | ⟨ad, c, rfl, _⟩
   ·exact run_append_owned_none w lo T ty e i k h.un hi _ _ _ hown
   ·simp [Builtin.append_, run_underlying h.un, sizeOf, typeInfo, hi, Builtin.lenOf, Builtin.firstCells, storeCells, loadCells, loadCellsFrom]
  ·have : g = b := by simpa [Value.ownBlock] using hb
   omega
 ·have hpos : 0 < css.length := by rw [hrow.len]; exact List.length_pos_iff.2 hy0
  rcases hsrc with ⟨rfl, e0⟩ | ⟨ad, c, rfl, hcell⟩
  ·subst e0; simp at hpos
  ·obtain ⟨g, rfl, hBg, hg⟩ := hv
   have hll : css.length ≤ 1000000 := by rw [hrow.len]; exact hl
   have hr := run_append_grow (P := Tryz.prog) w T ty e i z h.un hi hz ⟨g, 0, none⟩ 0 0 [] (by simp) (fun j u hj => by simp at hj) ad css.length c css.flatten (by rw [hk]; exact flat_len hrow.each) hcell (by omega) (by omega) (growslice_fits (by omega) (by
    rw [hb]
    have : (0 + css.length) * bytes ≤ 1000000 * 1000 := Nat.mul_le_mul (by omega) h.by0
    omega))
   have hbel : Below w.heap.size w (w.drew.alloc (.cells ([].toArray ++ css.flatten.toArray ++ Builtin.zeroCells z.cells (grownCap w (0 + css.length) 0 e - (0 + css.length))) e)) := ((Below.refl _ _).drew).alloc (Nat.le_refl _) _
   have hge := grownCap_ge w (0 + css.length) 0 e
   have hcm : grownCap w (0 + css.length) 0 e ≤ maxLen := grownCap_le_maxLen w (0 + css.length) 0 e (by unfold maxLen; omega)
   refine ⟨_, _, hr, ⟨hrow.mono fun cs x hR' => hR.stays _ _ _ _ _ (KeepsT.of_below hbel) hR', ?_, ?_⟩, hbel⟩
   ·rw [← hrow.len]
    refine ⟨flat_len hrow.each, Or.inr ⟨w.heap.size, grownCap w (0 + css.length) 0 e, _, by rw [Nat.zero_add], by omega, heap_alloc_new w.drew _, by omega, hcm, ?_, ?_⟩⟩
    ·generalize grownCap w (0 + css.length) 0 e = cap at hge hcm
     have hc : cap = css.length + (cap - (0 + css.length)) := by omega
     rw [Array.size_append, Array.size_append, List.size_toArray, List.size_toArray, size_zeroCells, h.zk, flat_len hrow.each, List.length_nil, Nat.zero_add, ← Nat.add_mul, ← hc]
    ·simp only [Array.toList_append, List.nil_append]
     rw [← flat_len hrow.each]
     simp
   ·intro b hbk
    have : w.heap.size = b := by simpa [Value.ownBlock] using hbk
    omega
theorem run_append_copy {T ty e : TypeId} {k : Nat} {z : Value} {bytes : Nat} (h : STy T e k z bytes) {α : Type} {R : RowRel α} {E : TypeId → Prop} (hR : GoodT E R) (h1 : ∀ lo w cs x, R lo w cs x → ∀ u ∈ cs, u.oneCell' = true)
  {lo B : Nat} {w : World} {v sv : Value} {ys : List α} {css : List (List Value)} (hv : Empty0 e B w v) (hsrc : Src k w sv css) (hrow : Rows k R lo w css ys) (hl : ys.length ≤ 1000000) (hlo : lo ≤ B) (hB : B ≤ w.heap.size) :
  ∃ v' w', (Builtin.append_ #[T, T] ty #[v, sv]).run Tryz.prog w = .ok v' w' ∧ TOwn k R e lo B w' v' ys ∧ Below w.heap.size w w' := by
 obtain ⟨v', w', a1, a2, a3⟩ := run_append_copyC (ty := ty) h hR h1 hv hsrc hrow hl hlo hB
 exact ⟨v', w', a1, a2.plain, a3⟩

theorem wp_of_append {o : Oper} {a : Act} {w : World} {K : Act → World → Prop} {Q : Exit → Act → World → Prop} (s x : Operand) (T : TypeId)
  (ho : o.op = .call { callee := .builtin .append, args := #[s, x], argTypes := #[T, T] }) {v sv v' : Value} {w' : World} (hs : a.eval s = v) (hx : a.eval x = sv)
  (hr : (Builtin.append_ #[T, T] o.type #[v, sv]).run Tryz.prog w = .ok v' w') (h : K (a.put o.dst v') w') : o.wp Tryz.prog a w K Q := by
 unfold Oper.wp execOp
 simp only [ho, resolve, invoke, builtin, Sem.run_bind, Sem.run_pure, Result.andThen_ok, List.map_toArray, List.map_cons, List.map_nil, hs, hx, hr]
 exact h

theorem qam {ops : Array Oper} {rest : List Oper} {o : Oper} {a : Act} {Q : Exit → Act → World → Prop} {w : World} (hgd : o.guard = none) (s x : Operand) (T : TypeId)
  (ho : o.op = .call { callee := .builtin .append, args := #[s, x], argTypes := #[T, T] }) {e : TypeId} {k : Nat} {z : Value} {bytes : Nat} (ht : STy T e k z bytes) {α : Type} {R : RowRel α} {E : TypeId → Prop} (hR : GoodT E R) (he : ¬ E e) (h1 : ∀ lo w cs x, R lo w cs x → ∀ u ∈ cs, u.oneCell' = true)
  {lo B : Nat} {v sv : Value} {xs ys : List α} {css : List (List Value)} (hs : a.eval s = v) (hx : a.eval x = sv) (hv : TOwn k R e lo B w v xs) (hsrc : Src k w sv css) (hrow : Rows k R lo w css ys) (hl : xs.length + ys.length ≤ 1000000) (hlo : lo ≤ B) (hB : B ≤ w.heap.size)
  (h : ∀ v' w', TOwn k R e lo B w' v' (xs ++ ys) → Below B w w' → w.grownBy w' v.ownBlock → KeepsT E 0 w w' → (∀ b, v'.ownBlock = some b → v.ownBlock = some b ∨ w.heap.size ≤ b) → wpList Tryz.prog ops Q rest (a.put o.dst v') w') : wpList Tryz.prog ops Q (o :: rest) a w := by
 obtain ⟨v', w', hr, h2, h3, h4, h5, h6⟩ := run_append_F (ty := o.type) ht hR he h1 hv hsrc hrow hl hlo hB
 exact wpList_plain hgd fun _ hK => wp_of_append s x T ho hs hx hr (hK _ _ (h v' w' h2 h3 h4 h5 h6))
theorem wpList_append_copy {ops : Array Oper} {rest : List Oper} {o : Oper} {a : Act} {Q : Exit → Act → World → Prop} {w : World} (hgd : o.guard = none) (s x : Operand) (T : TypeId)
  (ho : o.op = .call { callee := .builtin .append, args := #[s, x], argTypes := #[T, T] }) {e : TypeId} {k : Nat} {z : Value} {bytes : Nat} (ht : STy T e k z bytes) {α : Type} {R : RowRel α} {E : TypeId → Prop} (hR : GoodT E R) (h1 : ∀ lo w cs x, R lo w cs x → ∀ u ∈ cs, u.oneCell' = true)
  {lo B : Nat} {v sv : Value} {ys : List α} {css : List (List Value)} (hs : a.eval s = v) (hx : a.eval x = sv) (hv : Empty0 e B w v) (hsrc : Src k w sv css) (hrow : Rows k R lo w css ys) (hl : ys.length ≤ 1000000) (hlo : lo ≤ B) (hB : B ≤ w.heap.size)
  (h : ∀ v' w', TOwn k R e lo B w' v' ys → Below w.heap.size w w' → wpList Tryz.prog ops Q rest (a.put o.dst v') w') : wpList Tryz.prog ops Q (o :: rest) a w := by
 obtain ⟨v', w', hr, h2, h3⟩ := run_append_copy (ty := o.type) ht hR h1 hv hsrc hrow hl hlo hB
 exact wpList_plain hgd fun _ hK => wp_of_append s x T ho hs hx hr (hK _ _ (h v' w' h2 h3))

theorem wpList_append_FC {ops : Array Oper} {rest : List Oper} {o : Oper} {a : Act} {Q : Exit → Act → World → Prop} {w : World} (hgd : o.guard = none) (s x : Operand) (T : TypeId)
  (ho : o.op = .call { callee := .builtin .append, args := #[s, x], argTypes := #[T, T] }) {e : TypeId} {k : Nat} {z : Value} {bytes : Nat} (ht : STy T e k z bytes) {α : Type} {R : RowRel α} {E : TypeId → Prop} (hR : GoodT E R) (he : ¬ E e) (h1 : ∀ lo w cs x, R lo w cs x → ∀ u ∈ cs, u.oneCell' = true)
  {lo B : Nat} {v sv : Value} {xs ys : List α} {cx css : List (List Value)} (hs : a.eval s = v) (hx : a.eval x = sv) (hv : TOwnC k R e lo B w v cx xs) (hsrc : Src k w sv css) (hrow : Rows k R lo w css ys) (hl : xs.length + ys.length ≤ 1000000) (hlo : lo ≤ B) (hB : B ≤ w.heap.size)
  (h : ∀ v' w', TOwnC k R e lo B w' v' (cx ++ css) (xs ++ ys) → Below B w w' → w.grownBy w' v.ownBlock → KeepsT E 0 w w' → (∀ b, v'.ownBlock = some b → v.ownBlock = some b ∨ w.heap.size ≤ b) → wpList Tryz.prog ops Q rest (a.put o.dst v') w') : wpList Tryz.prog ops Q (o :: rest) a w := by
 obtain ⟨v', w', hr, h2, h3, h4, h5, h6⟩ := run_append_FC (ty := o.type) ht hR he h1 hv hsrc hrow hl hlo hB
 exact wpList_plain hgd fun _ hK => wp_of_append s x T ho hs hx hr (hK _ _ (h v' w' h2 h3 h4 h5 h6))
theorem wpList_append_copyC {ops : Array Oper} {rest : List Oper} {o : Oper} {a : Act} {Q : Exit → Act → World → Prop} {w : World} (hgd : o.guard = none) (s x : Operand) (T : TypeId)
  (ho : o.op = .call { callee := .builtin .append, args := #[s, x], argTypes := #[T, T] }) {e : TypeId} {k : Nat} {z : Value} {bytes : Nat} (ht : STy T e k z bytes) {α : Type} {R : RowRel α} {E : TypeId → Prop} (hR : GoodT E R) (h1 : ∀ lo w cs x, R lo w cs x → ∀ u ∈ cs, u.oneCell' = true)
  {lo B : Nat} {v sv : Value} {ys : List α} {css : List (List Value)} (hs : a.eval s = v) (hx : a.eval x = sv) (hv : Empty0 e B w v) (hsrc : Src k w sv css) (hrow : Rows k R lo w css ys) (hl : ys.length ≤ 1000000) (hlo : lo ≤ B) (hB : B ≤ w.heap.size)
  (h : ∀ v' w', TOwnC k R e lo B w' v' css ys → Below w.heap.size w w' → wpList Tryz.prog ops Q rest (a.put o.dst v') w') : wpList Tryz.prog ops Q (o :: rest) a w := by
 obtain ⟨v', w', hr, h2, h3⟩ := run_append_copyC (ty := o.type) ht hR h1 hv hsrc hrow hl hlo hB
 exact wpList_plain hgd fun _ hK => wp_of_append s x T ho hs hx hr (hK _ _ (h v' w' h2 h3))
theorem TOwn.grown {α : Type} {k : Nat} {R : RowRel α} (hR : GoodT NoT R) {e : TypeId} {lo B : Nat} {w w' : World} {v : Value} {xs : List α} {row : Option Nat} (h : TOwn k R e lo B w v xs) (hg : w.grownBy w' row) (hne : ∀ b, v.ownBlock = some b → row ≠ some b) : TOwn k R e lo B w' v xs :=
 ⟨h.sl.kept (fun g cs fr hg' _ hb => hg.block g (Array.getElem?_eq_some_iff.1 hb).1 fun e => hne g hg' e.symm) (fun cs y hy => hR.stays lo w _ cs y ⟨hg.size, fun _ _ _ _ _ he => he.elim⟩ hy), h.own⟩
theorem TOwn.lt {α : Type} {k : Nat} {R : RowRel α} {e : TypeId} {lo B : Nat} {w : World} {v : Value} {xs : List α} (h : TOwn k R e lo B w v xs) : ∀ b, v.ownBlock = some b → b < w.heap.size := by
 obtain ⟨⟨css, _, h2⟩, _⟩ := h
 exact fun b hb => (h2.lt b hb).2
theorem qae {a : Act} {d : Nat} {v : Value} (h : d < a.tmps.size) : (a.put (some d) v).eval (.tmp d) = v := by
 show (a.put (some d) v).tmps.getD d undef = v
 rw [Array.getD_eq_getD_getElem?, put_get, if_pos rfl, if_pos h]; rfl
theorem qaa {a : Act} {d t : Nat} {v : Value} (h : d ≠ t) : (a.put (some d) v).eval (.tmp t) = a.eval (.tmp t) := Act.eval_put fun x hx e => by
 cases hx; cases e; exact h rfl

theorem wp_fieldAt {P : Program} {o : Oper} {a : Act} {w : World} {K : Act → World → Prop} {Q : Exit → Act → World → Prop} {S : TypeId} {x : Operand} {f : Nat} {v u : Value} (ho : o.op = .fieldAddr S x f) (hx : a.eval x = v) (hr : (Instr.fieldAt S v f).run P w = .ok u w) (h : K (a.put o.dst u) w) : o.wp P a w K Q := by
 unfold Oper.wp execOp
 simp only [ho, hx, Sem.run_bind, Sem.run_pure, Result.andThen_ok, hr]
 exact h
theorem wp_loadAt {P : Program} {o : Oper} {a : Act} {w : World} {K : Act → World → Prop} {Q : Exit → Act → World → Prop} {T : TypeId} {x : Operand} {v u : Value} (ho : o.op = .load T x) (hx : a.eval x = v) (hr : (Instr.loadAt T v).run P w = .ok u w) (h : K (a.put o.dst u) w) : o.wp P a w K Q := by
 unfold Oper.wp execOp
 simp only [ho, hx, Sem.run_bind, Sem.run_pure, Result.andThen_ok, hr]
 exact h
theorem wp_buildEmpty {P : Program} {o : Oper} {a : Act} {w w' : World} {K : Act → World → Prop} {Q : Exit → Act → World → Prop} {T : TypeId} {u : Value} (ho : o.op = .buildSlice T 0 #[]) (hr : (Instr.buildSlice T 0 #[]).run P w = .ok u w') (h : K (a.put o.dst u) w') : o.wp P a w K Q := by
 unfold Oper.wp execOp
 simp only [ho, Array.map_empty, Sem.run_bind, Sem.run_pure, Result.andThen_ok, hr]
 exact h
theorem wp_buildOne {P : Program} {o : Oper} {a : Act} {w w' : World} {K : Act → World → Prop} {Q : Exit → Act → World → Prop} {T : TypeId} {x : Operand} {v u : Value} (ho : o.op = .buildSlice T 1 #[(0, x)]) (hx : a.eval x = v) (hr : (Instr.buildSlice T 1 #[(0, v)]).run P w = .ok u w') (h : K (a.put o.dst u) w') : o.wp P a w K Q := by
 unfold Oper.wp execOp
 simp only [ho, List.map_toArray, List.map_cons, List.map_nil, hx, Sem.run_bind, Sem.run_pure, Result.andThen_ok, hr]
 exact h
theorem wp_moveTo {P : Program} {o : Oper} {a : Act} {w : World} {K : Act → World → Prop} {Q : Exit → Act → World → Prop} {x : Operand} {v : Value} (ho : o.op = .move x) (hx : a.eval x = v) (h : K (a.put o.dst v) w) : o.wp P a w K Q := by
 unfold Oper.wp execOp
 simp only [ho, hx]
 exact h
theorem wp_sliceTo {P : Program} {o : Oper} {a : Act} {w : World} {K : Act → World → Prop} {Q : Exit → Act → World → Prop} {T : TypeId} {x n : Operand} {v i u : Value} (ho : o.op = .slice T x none (some n) none) (hx : a.eval x = v) (hn : a.eval n = i) (hr : (Instr.sliceAt T v none (some i) none).run P w = .ok u w) (h : K (a.put o.dst u) w) : o.wp P a w K Q := by
 unfold Oper.wp execOp
 simp only [ho, hx, hn, Option.map_none, Option.map_some, Sem.run_bind, Sem.run_pure, Result.andThen_ok, hr]
 exact h
theorem run_lenOf {P : Program} {T e ty : TypeId} (ht : P.underlying T = some (.slice e)) (sa : Option Addr) (n sc : Nat) (w : World) : (Builtin.len_ #[T] ty #[.slice sa n sc]).run P w = .ok (.int .i64 (n : Int)) w := by
 go_simp
theorem run_subOne {P : Program} {ti : TypeId} {nm : Int} (hti : P.underlying ti = some (.int .i64)) (hn : 1 ≤ nm ∧ nm ≤ 1000000) (w : World) : (binOp .sub ti (.int .i64 nm) (.int .i64 1)).run P w = .ok (.int .i64 (nm - 1)) w := by
 have e1 : IntKind.i64.wrap (nm - 1) = nm - 1 := IntWalk.i64_in _ (by omega)
 go_simp
theorem wp_lenOf {P : Program} {o : Oper} {a : Act} {w : World} {K : Act → World → Prop} {Q : Exit → Act → World → Prop} {T e : TypeId} {x : Operand} {sa : Option Addr} {nm : Int} {sc : Nat} (ho : o.op = .call { callee := .builtin .len, args := #[x], argTypes := #[T] }) (hx : a.eval x = .slice sa nm.toNat sc) (ht : P.underlying T = some (.slice e)) (hn : 0 ≤ nm) (h : K (a.put o.dst (.int .i64 nm)) w) : o.wp P a w K Q := by
 have e1 : ((nm.toNat : Nat) : Int) = nm := by omega
 unfold Oper.wp execOp
 simp only [ho, resolve, invoke, builtin, Sem.run_bind, Sem.run_pure, Result.andThen_ok, List.map_toArray, List.map_cons, List.map_nil, hx, run_lenOf ht, e1]
 exact h
theorem wp_subOne {P : Program} {o : Oper} {a : Act} {w : World} {K : Act → World → Prop} {Q : Exit → Act → World → Prop} {ti : TypeId} {x : Operand} {nm : Int} (ho : o.op = .binOp .sub ti x (.const (.int .i64 1)) ti) (hx : a.eval x = .int .i64 nm) (hti : P.underlying ti = some (.int .i64)) (hn : 1 ≤ nm ∧ nm ≤ 1000000) (h : K (a.put o.dst (.int .i64 (nm - 1))) w) : o.wp P a w K Q := by
 have e2 : a.eval (.const (.int .i64 1)) = .int .i64 1 := rfl
 unfold Oper.wp execOp
 simp only [ho, hx, e2, Sem.run_bind, Sem.run_pure, Result.andThen_ok, run_subOne hti hn]
 exact h
theorem run_load1 {T e : TypeId} {k : Nat} {z : Value} {bytes : Nat} (h : STy T e k z bytes) {w : World} {b o : Nat} {v : Value} (hc : w.cell? ⟨b, o, none⟩ = some v) : (Instr.loadAt T (.pointer (some ⟨b, o, none⟩))).run Tryz.prog w = .ok v w := by
 have hagg : (isAgg T).run Tryz.prog w = .ok false w := by
  unfold isAgg
  rw [Sem.run_bind, run_underlying h.un w]
  rfl
 go_simp

section
variable {T e : TypeId} {k : Nat} {z : Value} {bytes : Nat} {α : Type} {R : RowRel α} {E : TypeId → Prop} {lo B : Nat}
def relyC (w : World) (w' : World) : Prop := Below w.heap.size w w'
def relyG (w w' : World) : Prop := Below w.heap.size w w'
theorem relyC_next {w w1 w2 : World} (h : relyC w w1) (g : relyG w1 w2) : relyC w w2 := Below.trans h (Below.mono g (Below.size h))
theorem relyC_size {w w1 : World} (h : relyC w w1) : w.heap.size ≤ w1.heap.size := Below.size h

-- LAWS BEGIN (gen_app.py)
def app2F (k : Nat) (R : RowRel α) (e : TypeId) (lo B : Nat) (p src : Value) (xs : List α) (csy : List Value) : Nat → Value → World → Prop
 | 0, v, w => Empty0 e B w v
 | 1, v, w => v = p
 | 2, v, w => v = src
 | 3, v, w => TOwn k R e lo B w v xs
 | 4, v, w => v = .agg csy.toArray
 | 5, v, w => Src k w v [csy]
 | _, _, _ => True
theorem app2F_stays (hR : GoodT E R) {p src : Value} {xs : List α} {csy : List Value} : ∀ i u w w', relyG w w' → app2F k R e lo B p src xs csy i u w → app2F k R e lo B p src xs csy i u w'
 | 0, _, _, _, g, h => Empty0.below h g
 | 1, _, _, _, g, h => h
 | 2, _, _, _, g, h => h
 | 3, _, _, _, g, h => TOwn.below hR h g
 | 4, _, _, _, g, h => h
 | 5, _, _, _, g, h => Src.kept (k := k) h g
 | _ + 6, _, _, _, _, _ => trivial

theorem wp_app2 {id : Nat} {Q : Exit → Act → World → Prop} {a : Act} {w : World} {tl : List Oper} {b x y f bx fx cy : Nat} {S y0 y1 y2 y3 y4 y5 : TypeId} {p0 p1 p2 p3 p4 p5 : String}
  (ht : STy T e k z bytes) (hk : k ≤ 100) (hR : GoodT E R) (h1 : ∀ lo w cs x, R lo w cs x → ∀ u ∈ cs, u.oneCell' = true) (hlo : lo ≤ B) (hB : B ≤ w.heap.size)
  {src : Value} {csy : List Value} {css : List (List Value)} {xs : List α}
  (hx : a.eval (.tmp x) = .pointer (some ⟨bx, 0, none⟩)) (hfa : ∀ w, (Instr.fieldAt S (.pointer (some ⟨bx, 0, none⟩)) f).run Tryz.prog w = .ok (.pointer (some ⟨bx, fx, none⟩)) w)
  (hcx : w.cell? ⟨bx, fx, none⟩ = some src) (hy : a.eval (.tmp y) = .pointer (some ⟨cy, 0, none⟩)) (hcy : w.rangeAt cy 0 csy) (hcl : cy < w.heap.size) (hly : csy.length = k)
  {d : TypeDesc} (hu : Tryz.prog.underlying e = some d) (hrowd : d.isRow = true) (hsrc : Src k w src css) (hrow : Rows k R lo w css xs) (hlen : xs.length ≤ 1000000)
  (hxb : x < b) (hyb : y < b) (hsz : b + 5 < a.tmps.size) {l : List Oper}
  (hl : l = ⟨some b, .buildSlice T 0 #[], y0, p0, #[], none⟩ ::
   ⟨some (b + 1), .fieldAddr S (.tmp x) f, y1, p1, #[], none⟩ ::
   ⟨some (b + 2), .load T (.tmp (b + 1)), y2, p2, #[⟨1, .data⟩], none⟩ ::
   ⟨some (b + 3), .call { callee := .builtin .append, args := #[.tmp b, .tmp (b + 2)], argTypes := #[T, T] }, y3, p3, #[⟨0, .data⟩, ⟨2, .data⟩], none⟩ ::
   ⟨some (b + 4), .load e (.tmp y), y4, p4, #[], none⟩ ::
   ⟨some (b + 5), .buildSlice T 1 #[(0, .tmp (b + 4))], y5, p5, #[⟨4, .data⟩], none⟩ :: tl)
  (hm : Tryz.prog.follows .mixedOrders = true) (hn : 6 < l.length) (hb : headB l 6 = true) (hs : Region.sinkB .any l.toArray 6 = true) (hc : Region.chainB .any l.toArray 6 = true) (hq : Region.seqB .any l.toArray (l.length - 6) 6 (fullB 6 l.length) = true)
  (h : ∀ v0 v3 v5 w', Below w.heap.size w w' → TOwn k R e lo B w' v3 xs → Src k w' v5 [csy] →
   wpList Tryz.prog l.toArray Q tl ((((((a.put (some b) v0).put (some (b + 1)) (.pointer (some ⟨bx, fx, none⟩))).put (some (b + 2)) src).put (some (b + 3)) v3).put (some (b + 4)) (.agg csy.toArray)).put (some (b + 5)) v5) w') :
  (Code.region id l.toArray true).wp Tryz.prog Q a w := by
 have hcx0 : bx < w.heap.size := block_lt_of_cell hcx
 obtain ⟨i, hi, hz, hik, hib⟩ := ht.parts
 refine wp_region_rely (l := l) 6 (relyC w) relyG (app2F k R e lo B (.pointer (some ⟨bx, fx, none⟩)) src xs csy) hm (Nat.le_of_lt hn) hb (Or.inr ⟨hs, hc⟩) hq ((Below.refl _ _).drew) (fun i u w1 w2 _ g hF => app2F_stays hR i u w1 w2 g hF) (fun _ _ => Below.refl _ _) ?_
 subst hl
 show wpRely _ _ _ _ _ _ [_, _, _, _, _, _] [] a
 have hz0 := hsz; have hx_0 := hx; have hy_0 := hy
 refine qai (d := b) rfl rfl (fun wx hC hd S0 hS => ?_) (fun v0 => ?_)
 ·refine wp_buildEmpty rfl (run_empty ht wx) ⟨put_defers' _ _ _, ?_⟩
  rw [qae (by omega)]
  have hBx : B ≤ wx.heap.size := by have := relyC_size hC; omega
  exact hS _ _ (relyC_next hC ((Below.refl _ _).alloc (Nat.le_refl _) _)) ((Below.refl _ _).alloc (Nat.le_refl _) _) (Empty0.new wx e hBx)
 generalize hA1 : Act.put a (some b) v0 = a1
 have hz1 : b + 5 < a1.tmps.size := by rw [← hA1, qay]; exact hz0
 have hx_1 := Eq.trans (show a1.eval (.tmp x) = a.eval (.tmp x) by rw [← hA1]; exact qaa (by omega)) hx_0
 have hy_1 := Eq.trans (show a1.eval (.tmp y) = a.eval (.tmp y) by rw [← hA1]; exact qaa (by omega)) hy_0
 have q0_1 : a1.eval (.tmp b) = v0 := by rw [← hA1]; exact qae (by omega)
 clear hz0 hx_0 hy_0 
 refine qai (d := b + 1) rfl rfl (fun wx hC hd S0 hS => ?_) (fun v1 => ?_)
 ·refine wp_fieldAt rfl hx_1 (hfa wx) ⟨put_defers' _ _ _, ?_⟩
  rw [qae (by omega)]
  exact hS _ _ hC (Below.refl _ _) rfl
 generalize hA2 : Act.put a1 (some (b + 1)) v1 = a2
 have hz2 : b + 5 < a2.tmps.size := by rw [← hA2, qay]; exact hz1
 have hx_2 := Eq.trans (show a2.eval (.tmp x) = a1.eval (.tmp x) by rw [← hA2]; exact qaa (by omega)) hx_1
 have hy_2 := Eq.trans (show a2.eval (.tmp y) = a1.eval (.tmp y) by rw [← hA2]; exact qaa (by omega)) hy_1
 have q0_2 := Eq.trans (show a2.eval (.tmp b) = a1.eval (.tmp b) by rw [← hA2]; exact qaa (by omega)) q0_1
 have q1_2 : a2.eval (.tmp (b + 1)) = v1 := by rw [← hA2]; exact qae (by omega)
 clear hz1 hx_1 hy_1 q0_1
 refine qai (d := b + 2) rfl rfl (fun wx hC hd S0 hS => ?_) (fun v2 => ?_)
 ·have d1 : v1 = (.pointer (some ⟨bx, fx, none⟩)) := hd ⟨1, .data⟩ (by simp) rfl v1 rfl
  refine wp_loadAt rfl (q1_2.trans d1) (run_load1 ht ((Below.cell hC (p := ⟨bx, fx, none⟩) hcx0).trans hcx)) ⟨put_defers' _ _ _, ?_⟩
  rw [qae (by omega)]
  exact hS _ _ hC (Below.refl _ _) rfl
 generalize hA3 : Act.put a2 (some (b + 2)) v2 = a3
 have hz3 : b + 5 < a3.tmps.size := by rw [← hA3, qay]; exact hz2
 have hx_3 := Eq.trans (show a3.eval (.tmp x) = a2.eval (.tmp x) by rw [← hA3]; exact qaa (by omega)) hx_2
 have hy_3 := Eq.trans (show a3.eval (.tmp y) = a2.eval (.tmp y) by rw [← hA3]; exact qaa (by omega)) hy_2
 have q0_3 := Eq.trans (show a3.eval (.tmp b) = a2.eval (.tmp b) by rw [← hA3]; exact qaa (by omega)) q0_2
 have q1_3 := Eq.trans (show a3.eval (.tmp (b + 1)) = a2.eval (.tmp (b + 1)) by rw [← hA3]; exact qaa (by omega)) q1_2
 have q2_3 : a3.eval (.tmp (b + 2)) = v2 := by rw [← hA3]; exact qae (by omega)
 clear hz2 hx_2 hy_2 q0_2 q1_2
 refine qai (d := b + 3) rfl rfl (fun wx hC hd S0 hS => ?_) (fun v3 => ?_)
 ·have d0 : Empty0 e B wx v0 := hd ⟨0, .data⟩ (by simp) rfl v0 rfl
  have d2 : v2 = src := hd ⟨2, .data⟩ (by simp) rfl v2 rfl
  have hsz' := relyC_size hC
  obtain ⟨v', w', hr, h2, h3⟩ := run_append_copy (ty := y3) ht hR h1 d0 (hsrc.kept hC) (hrow.mono fun cs x hx => hR.stays _ _ _ _ _ (KeepsT.of_below hC) hx) hlen hlo (by omega)
  refine wp_of_append (.tmp b) (.tmp (b + 2)) T rfl q0_3 (q2_3.trans d2) hr ⟨put_defers' _ _ _, ?_⟩
  rw [qae (by omega)]
  exact hS _ _ (relyC_next hC h3) h3 h2
 generalize hA4 : Act.put a3 (some (b + 3)) v3 = a4
 have hz4 : b + 5 < a4.tmps.size := by rw [← hA4, qay]; exact hz3
 have hx_4 := Eq.trans (show a4.eval (.tmp x) = a3.eval (.tmp x) by rw [← hA4]; exact qaa (by omega)) hx_3
 have hy_4 := Eq.trans (show a4.eval (.tmp y) = a3.eval (.tmp y) by rw [← hA4]; exact qaa (by omega)) hy_3
 have q0_4 := Eq.trans (show a4.eval (.tmp b) = a3.eval (.tmp b) by rw [← hA4]; exact qaa (by omega)) q0_3
 have q1_4 := Eq.trans (show a4.eval (.tmp (b + 1)) = a3.eval (.tmp (b + 1)) by rw [← hA4]; exact qaa (by omega)) q1_3
 have q2_4 := Eq.trans (show a4.eval (.tmp (b + 2)) = a3.eval (.tmp (b + 2)) by rw [← hA4]; exact qaa (by omega)) q2_3
 clear hz3 hx_3 hy_3 q0_3 q1_3 q2_3
 refine qai (d := b + 4) rfl rfl (fun wx hC hd S0 hS => ?_) (fun v4 => ?_)
 ·refine wp_loadAt rfl hy_4 (run_loadAt_mid wx cy 0 e csy d (range_below hcy hC hcl) hu hrowd (by rw [hi, Option.map_some, hik, hly])) ⟨put_defers' _ _ _, ?_⟩
  rw [qae (by omega)]
  exact hS _ _ hC (Below.refl _ _) rfl
 generalize hA5 : Act.put a4 (some (b + 4)) v4 = a5
 have hz5 : b + 5 < a5.tmps.size := by rw [← hA5, qay]; exact hz4
 have hx_5 := Eq.trans (show a5.eval (.tmp x) = a4.eval (.tmp x) by rw [← hA5]; exact qaa (by omega)) hx_4
 have hy_5 := Eq.trans (show a5.eval (.tmp y) = a4.eval (.tmp y) by rw [← hA5]; exact qaa (by omega)) hy_4
 have q0_5 := Eq.trans (show a5.eval (.tmp b) = a4.eval (.tmp b) by rw [← hA5]; exact qaa (by omega)) q0_4
 have q1_5 := Eq.trans (show a5.eval (.tmp (b + 1)) = a4.eval (.tmp (b + 1)) by rw [← hA5]; exact qaa (by omega)) q1_4
 have q2_5 := Eq.trans (show a5.eval (.tmp (b + 2)) = a4.eval (.tmp (b + 2)) by rw [← hA5]; exact qaa (by omega)) q2_4
 have q4_5 : a5.eval (.tmp (b + 4)) = v4 := by rw [← hA5]; exact qae (by omega)
 clear hz4 hx_4 hy_4 q0_4 q1_4 q2_4
 refine qai (d := b + 5) rfl rfl (fun wx hC hd S0 hS => ?_) (fun v5 => ?_)
 ·have d4 : v4 = (.agg csy.toArray) := hd ⟨4, .data⟩ (by simp) rfl v4 rfl
  refine wp_buildOne rfl (q4_5.trans d4) (run_one ht csy hly hk wx) ⟨put_defers' _ _ _, ?_⟩
  rw [qae (by omega)]
  exact hS _ _ (relyC_next hC ((Below.refl _ _).alloc (Nat.le_refl _) _)) ((Below.refl _ _).alloc (Nat.le_refl _) _) (Src.new (k := k))
 generalize hA6 : Act.put a5 (some (b + 5)) v5 = a6
 have hz6 : b + 5 < a6.tmps.size := by rw [← hA6, qay]; exact hz5
 have hx_6 := Eq.trans (show a6.eval (.tmp x) = a5.eval (.tmp x) by rw [← hA6]; exact qaa (by omega)) hx_5
 have hy_6 := Eq.trans (show a6.eval (.tmp y) = a5.eval (.tmp y) by rw [← hA6]; exact qaa (by omega)) hy_5
 have q0_6 := Eq.trans (show a6.eval (.tmp b) = a5.eval (.tmp b) by rw [← hA6]; exact qaa (by omega)) q0_5
 have q1_6 := Eq.trans (show a6.eval (.tmp (b + 1)) = a5.eval (.tmp (b + 1)) by rw [← hA6]; exact qaa (by omega)) q1_5
 have q2_6 := Eq.trans (show a6.eval (.tmp (b + 2)) = a5.eval (.tmp (b + 2)) by rw [← hA6]; exact qaa (by omega)) q2_5
 have q4_6 := Eq.trans (show a6.eval (.tmp (b + 4)) = a5.eval (.tmp (b + 4)) by rw [← hA6]; exact qaa (by omega)) q4_5
 clear hz5 hx_5 hy_5 q0_5 q1_5 q2_5 q4_5
 intro w' hC hF
 have f1 : v1 = (.pointer (some ⟨bx, fx, none⟩)) := hF 1 v1 rfl
 have f2 : v2 = src := hF 2 v2 rfl
 have f4 : v4 = (.agg csy.toArray) := hF 4 v4 rfl
 subst f1
 subst f2
 subst f4
 subst hA6
 subst hA5
 subst hA4
 subst hA3
 subst hA2
 subst hA1
 exact h v0 v3 v5 w' hC (hF 3 v3 rfl) (hF 5 v5 rfl)

def app4F (k : Nat) (R : RowRel α) (e : TypeId) (lo B : Nat) (p src : Value) (src2 : Value) (nm : Int) (xs : List α) (csy : List Value) : Nat → Value → World → Prop
 | 0, v, w => Empty0 e B w v
 | 1, v, w => v = p
 | 2, v, w => v = src
 | 3, v, w => v = p
 | 4, v, w => v = src
 | 5, v, w => v = .int .i64 nm
 | 6, v, w => v = .int .i64 (nm - 1)
 | 7, v, w => v = src2
 | 8, v, w => TOwn k R e lo B w v xs
 | 9, v, w => v = .agg csy.toArray
 | 10, v, w => Src k w v [csy]
 | _, _, _ => True
theorem app4F_stays (hR : GoodT E R) {p src : Value} {src2 : Value} {nm : Int} {xs : List α} {csy : List Value} : ∀ i u w w', relyG w w' → app4F k R e lo B p src src2 nm xs csy i u w → app4F k R e lo B p src src2 nm xs csy i u w'
 | 0, _, _, _, g, h => Empty0.below h g
 | 1, _, _, _, g, h => h
 | 2, _, _, _, g, h => h
 | 3, _, _, _, g, h => h
 | 4, _, _, _, g, h => h
 | 5, _, _, _, g, h => h
 | 6, _, _, _, g, h => h
 | 7, _, _, _, g, h => h
 | 8, _, _, _, g, h => TOwn.below hR h g
 | 9, _, _, _, g, h => h
 | 10, _, _, _, g, h => Src.kept (k := k) h g
 | _ + 11, _, _, _, _, _ => trivial

theorem wp_app4 {id : Nat} {Q : Exit → Act → World → Prop} {a : Act} {w : World} {tl : List Oper} {b x y f bx fx cy : Nat} {S ti y0 y1 y2 y3 y4 y5 y6 y7 y8 y9 y10 : TypeId} {p0 p1 p2 p3 p4 p5 p6 p7 p8 p9 p10 : String}
  (ht : STy T e k z bytes) (hk : k ≤ 100) (hR : GoodT E R) (h1 : ∀ lo w cs x, R lo w cs x → ∀ u ∈ cs, u.oneCell' = true) (hlo : lo ≤ B) (hB : B ≤ w.heap.size)
  {src src2 : Value} {nm : Int} {csy : List Value} {css : List (List Value)} {xs : List α}
  (hx : a.eval (.tmp x) = .pointer (some ⟨bx, 0, none⟩)) (hfa : ∀ w, (Instr.fieldAt S (.pointer (some ⟨bx, 0, none⟩)) f).run Tryz.prog w = .ok (.pointer (some ⟨bx, fx, none⟩)) w)
  (hcx : w.cell? ⟨bx, fx, none⟩ = some src) (hy : a.eval (.tmp y) = .pointer (some ⟨cy, 0, none⟩)) (hcy : w.rangeAt cy 0 csy) (hcl : cy < w.heap.size) (hly : csy.length = k)
  (hti : Tryz.prog.underlying ti = some (.int .i64)) (hnm : 1 ≤ nm ∧ nm ≤ 1000000) {sa : Option Addr} {sc : Nat} (hlen0 : src = .slice sa nm.toNat sc)
  (hcut : ∀ w, (Instr.sliceAt T src none (some (.int .i64 (nm - 1))) none).run Tryz.prog w = .ok src2 w)
  {d : TypeDesc} (hu : Tryz.prog.underlying e = some d) (hrowd : d.isRow = true) (hsrc : Src k w src2 css) (hrow : Rows k R lo w css xs) (hlen : xs.length ≤ 1000000)
  (hxb : x < b) (hyb : y < b) (hsz : b + 10 < a.tmps.size) {l : List Oper}
  (hl : l = ⟨some b, .buildSlice T 0 #[], y0, p0, #[], none⟩ ::
   ⟨some (b + 1), .fieldAddr S (.tmp x) f, y1, p1, #[], none⟩ ::
   ⟨some (b + 2), .load T (.tmp (b + 1)), y2, p2, #[⟨1, .data⟩], none⟩ ::
   ⟨some (b + 3), .fieldAddr S (.tmp x) f, y3, p3, #[], none⟩ ::
   ⟨some (b + 4), .load T (.tmp (b + 3)), y4, p4, #[⟨3, .data⟩], none⟩ ::
   ⟨some (b + 5), .call { callee := .builtin .len, args := #[.tmp (b + 4)], argTypes := #[T] }, y5, p5, #[⟨4, .data⟩], none⟩ ::
   ⟨some (b + 6), .binOp .sub ti (.tmp (b + 5)) (.const (.int .i64 1)) ti, y6, p6, #[⟨5, .data⟩], none⟩ ::
   ⟨some (b + 7), .slice T (.tmp (b + 2)) none (some (.tmp (b + 6))) none, y7, p7, #[⟨2, .data⟩, ⟨6, .data⟩], none⟩ ::
   ⟨some (b + 8), .call { callee := .builtin .append, args := #[.tmp b, .tmp (b + 7)], argTypes := #[T, T] }, y8, p8, #[⟨0, .data⟩, ⟨7, .data⟩], none⟩ ::
   ⟨some (b + 9), .load e (.tmp y), y9, p9, #[], none⟩ ::
   ⟨some (b + 10), .buildSlice T 1 #[(0, .tmp (b + 9))], y10, p10, #[⟨9, .data⟩], none⟩ :: tl)
  (hm : Tryz.prog.follows .mixedOrders = true) (hn : 11 < l.length) (hb : headB l 11 = true) (hs : Region.sinkB .any l.toArray 11 = true) (hc : Region.chainB .any l.toArray 11 = true) (hq : Region.seqB .any l.toArray (l.length - 11) 11 (fullB 11 l.length) = true)
  (h : ∀ v0 v8 v10 w', Below w.heap.size w w' → TOwn k R e lo B w' v8 xs → Src k w' v10 [csy] →
   wpList Tryz.prog l.toArray Q tl (((((((((((a.put (some b) v0).put (some (b + 1)) (.pointer (some ⟨bx, fx, none⟩))).put (some (b + 2)) src).put (some (b + 3)) (.pointer (some ⟨bx, fx, none⟩))).put (some (b + 4)) src).put (some (b + 5)) (.int .i64 nm)).put (some (b + 6)) (.int .i64 (nm - 1))).put (some (b + 7)) src2).put (some (b + 8)) v8).put (some (b + 9)) (.agg csy.toArray)).put (some (b + 10)) v10) w') :
  (Code.region id l.toArray true).wp Tryz.prog Q a w := by
 have hcx0 : bx < w.heap.size := block_lt_of_cell hcx
 obtain ⟨i, hi, hz, hik, hib⟩ := ht.parts
 refine wp_region_rely (l := l) 11 (relyC w) relyG (app4F k R e lo B (.pointer (some ⟨bx, fx, none⟩)) src src2 nm xs csy) hm (Nat.le_of_lt hn) hb (Or.inr ⟨hs, hc⟩) hq ((Below.refl _ _).drew) (fun i u w1 w2 _ g hF => app4F_stays hR i u w1 w2 g hF) (fun _ _ => Below.refl _ _) ?_
 subst hl
 show wpRely _ _ _ _ _ _ [_, _, _, _, _, _, _, _, _, _, _] [] a
 have hz0 := hsz; have hx_0 := hx; have hy_0 := hy
 refine qai (d := b) rfl rfl (fun wx hC hd S0 hS => ?_) (fun v0 => ?_)
 ·refine wp_buildEmpty rfl (run_empty ht wx) ⟨put_defers' _ _ _, ?_⟩
  rw [qae (by omega)]
  have hBx : B ≤ wx.heap.size := by have := relyC_size hC; omega
  exact hS _ _ (relyC_next hC ((Below.refl _ _).alloc (Nat.le_refl _) _)) ((Below.refl _ _).alloc (Nat.le_refl _) _) (Empty0.new wx e hBx)
 generalize hA1 : Act.put a (some b) v0 = a1
 have hz1 : b + 10 < a1.tmps.size := by rw [← hA1, qay]; exact hz0
 have hx_1 := Eq.trans (show a1.eval (.tmp x) = a.eval (.tmp x) by rw [← hA1]; exact qaa (by omega)) hx_0
 have hy_1 := Eq.trans (show a1.eval (.tmp y) = a.eval (.tmp y) by rw [← hA1]; exact qaa (by omega)) hy_0
 have q0_1 : a1.eval (.tmp b) = v0 := by rw [← hA1]; exact qae (by omega)
 clear hz0 hx_0 hy_0 
 refine qai (d := b + 1) rfl rfl (fun wx hC hd S0 hS => ?_) (fun v1 => ?_)
 ·refine wp_fieldAt rfl hx_1 (hfa wx) ⟨put_defers' _ _ _, ?_⟩
  rw [qae (by omega)]
  exact hS _ _ hC (Below.refl _ _) rfl
 generalize hA2 : Act.put a1 (some (b + 1)) v1 = a2
 have hz2 : b + 10 < a2.tmps.size := by rw [← hA2, qay]; exact hz1
 have hx_2 := Eq.trans (show a2.eval (.tmp x) = a1.eval (.tmp x) by rw [← hA2]; exact qaa (by omega)) hx_1
 have hy_2 := Eq.trans (show a2.eval (.tmp y) = a1.eval (.tmp y) by rw [← hA2]; exact qaa (by omega)) hy_1
 have q0_2 := Eq.trans (show a2.eval (.tmp b) = a1.eval (.tmp b) by rw [← hA2]; exact qaa (by omega)) q0_1
 have q1_2 : a2.eval (.tmp (b + 1)) = v1 := by rw [← hA2]; exact qae (by omega)
 clear hz1 hx_1 hy_1 q0_1
 refine qai (d := b + 2) rfl rfl (fun wx hC hd S0 hS => ?_) (fun v2 => ?_)
 ·have d1 : v1 = (.pointer (some ⟨bx, fx, none⟩)) := hd ⟨1, .data⟩ (by simp) rfl v1 rfl
  refine wp_loadAt rfl (q1_2.trans d1) (run_load1 ht ((Below.cell hC (p := ⟨bx, fx, none⟩) hcx0).trans hcx)) ⟨put_defers' _ _ _, ?_⟩
  rw [qae (by omega)]
  exact hS _ _ hC (Below.refl _ _) rfl
 generalize hA3 : Act.put a2 (some (b + 2)) v2 = a3
 have hz3 : b + 10 < a3.tmps.size := by rw [← hA3, qay]; exact hz2
 have hx_3 := Eq.trans (show a3.eval (.tmp x) = a2.eval (.tmp x) by rw [← hA3]; exact qaa (by omega)) hx_2
 have hy_3 := Eq.trans (show a3.eval (.tmp y) = a2.eval (.tmp y) by rw [← hA3]; exact qaa (by omega)) hy_2
 have q0_3 := Eq.trans (show a3.eval (.tmp b) = a2.eval (.tmp b) by rw [← hA3]; exact qaa (by omega)) q0_2
 have q1_3 := Eq.trans (show a3.eval (.tmp (b + 1)) = a2.eval (.tmp (b + 1)) by rw [← hA3]; exact qaa (by omega)) q1_2
 have q2_3 : a3.eval (.tmp (b + 2)) = v2 := by rw [← hA3]; exact qae (by omega)
 clear hz2 hx_2 hy_2 q0_2 q1_2
 refine qai (d := b + 3) rfl rfl (fun wx hC hd S0 hS => ?_) (fun v3 => ?_)
 ·refine wp_fieldAt rfl hx_3 (hfa wx) ⟨put_defers' _ _ _, ?_⟩
  rw [qae (by omega)]
  exact hS _ _ hC (Below.refl _ _) rfl
 generalize hA4 : Act.put a3 (some (b + 3)) v3 = a4
 have hz4 : b + 10 < a4.tmps.size := by rw [← hA4, qay]; exact hz3
 have hx_4 := Eq.trans (show a4.eval (.tmp x) = a3.eval (.tmp x) by rw [← hA4]; exact qaa (by omega)) hx_3
 have hy_4 := Eq.trans (show a4.eval (.tmp y) = a3.eval (.tmp y) by rw [← hA4]; exact qaa (by omega)) hy_3
 have q0_4 := Eq.trans (show a4.eval (.tmp b) = a3.eval (.tmp b) by rw [← hA4]; exact qaa (by omega)) q0_3
 have q1_4 := Eq.trans (show a4.eval (.tmp (b + 1)) = a3.eval (.tmp (b + 1)) by rw [← hA4]; exact qaa (by omega)) q1_3
 have q2_4 := Eq.trans (show a4.eval (.tmp (b + 2)) = a3.eval (.tmp (b + 2)) by rw [← hA4]; exact qaa (by omega)) q2_3
 have q3_4 : a4.eval (.tmp (b + 3)) = v3 := by rw [← hA4]; exact qae (by omega)
 clear hz3 hx_3 hy_3 q0_3 q1_3 q2_3
 refine qai (d := b + 4) rfl rfl (fun wx hC hd S0 hS => ?_) (fun v4 => ?_)
 ·have d3 : v3 = (.pointer (some ⟨bx, fx, none⟩)) := hd ⟨3, .data⟩ (by simp) rfl v3 rfl
  refine wp_loadAt rfl (q3_4.trans d3) (run_load1 ht ((Below.cell hC (p := ⟨bx, fx, none⟩) hcx0).trans hcx)) ⟨put_defers' _ _ _, ?_⟩
  rw [qae (by omega)]
  exact hS _ _ hC (Below.refl _ _) rfl
 generalize hA5 : Act.put a4 (some (b + 4)) v4 = a5
 have hz5 : b + 10 < a5.tmps.size := by rw [← hA5, qay]; exact hz4
 have hx_5 := Eq.trans (show a5.eval (.tmp x) = a4.eval (.tmp x) by rw [← hA5]; exact qaa (by omega)) hx_4
 have hy_5 := Eq.trans (show a5.eval (.tmp y) = a4.eval (.tmp y) by rw [← hA5]; exact qaa (by omega)) hy_4
 have q0_5 := Eq.trans (show a5.eval (.tmp b) = a4.eval (.tmp b) by rw [← hA5]; exact qaa (by omega)) q0_4
 have q1_5 := Eq.trans (show a5.eval (.tmp (b + 1)) = a4.eval (.tmp (b + 1)) by rw [← hA5]; exact qaa (by omega)) q1_4
 have q2_5 := Eq.trans (show a5.eval (.tmp (b + 2)) = a4.eval (.tmp (b + 2)) by rw [← hA5]; exact qaa (by omega)) q2_4
 have q3_5 := Eq.trans (show a5.eval (.tmp (b + 3)) = a4.eval (.tmp (b + 3)) by rw [← hA5]; exact qaa (by omega)) q3_4
 have q4_5 : a5.eval (.tmp (b + 4)) = v4 := by rw [← hA5]; exact qae (by omega)
 clear hz4 hx_4 hy_4 q0_4 q1_4 q2_4 q3_4
 refine qai (d := b + 5) rfl rfl (fun wx hC hd S0 hS => ?_) (fun v5 => ?_)
 ·have d4 : v4 = src := hd ⟨4, .data⟩ (by simp) rfl v4 rfl
  refine wp_lenOf rfl ((q4_5.trans d4).trans hlen0) ht.un (by omega) ⟨put_defers' _ _ _, ?_⟩
  rw [qae (by omega)]
  exact hS _ _ hC (Below.refl _ _) rfl
 generalize hA6 : Act.put a5 (some (b + 5)) v5 = a6
 have hz6 : b + 10 < a6.tmps.size := by rw [← hA6, qay]; exact hz5
 have hx_6 := Eq.trans (show a6.eval (.tmp x) = a5.eval (.tmp x) by rw [← hA6]; exact qaa (by omega)) hx_5
 have hy_6 := Eq.trans (show a6.eval (.tmp y) = a5.eval (.tmp y) by rw [← hA6]; exact qaa (by omega)) hy_5
 have q0_6 := Eq.trans (show a6.eval (.tmp b) = a5.eval (.tmp b) by rw [← hA6]; exact qaa (by omega)) q0_5
 have q1_6 := Eq.trans (show a6.eval (.tmp (b + 1)) = a5.eval (.tmp (b + 1)) by rw [← hA6]; exact qaa (by omega)) q1_5
 have q2_6 := Eq.trans (show a6.eval (.tmp (b + 2)) = a5.eval (.tmp (b + 2)) by rw [← hA6]; exact qaa (by omega)) q2_5
 have q3_6 := Eq.trans (show a6.eval (.tmp (b + 3)) = a5.eval (.tmp (b + 3)) by rw [← hA6]; exact qaa (by omega)) q3_5
 have q4_6 := Eq.trans (show a6.eval (.tmp (b + 4)) = a5.eval (.tmp (b + 4)) by rw [← hA6]; exact qaa (by omega)) q4_5
 have q5_6 : a6.eval (.tmp (b + 5)) = v5 := by rw [← hA6]; exact qae (by omega)
 clear hz5 hx_5 hy_5 q0_5 q1_5 q2_5 q3_5 q4_5
 refine qai (d := b + 6) rfl rfl (fun wx hC hd S0 hS => ?_) (fun v6 => ?_)
 ·have d5 : v5 = (.int .i64 nm) := hd ⟨5, .data⟩ (by simp) rfl v5 rfl
  refine wp_subOne rfl (q5_6.trans d5) hti hnm ⟨put_defers' _ _ _, ?_⟩
  rw [qae (by omega)]
  exact hS _ _ hC (Below.refl _ _) rfl
 generalize hA7 : Act.put a6 (some (b + 6)) v6 = a7
 have hz7 : b + 10 < a7.tmps.size := by rw [← hA7, qay]; exact hz6
 have hx_7 := Eq.trans (show a7.eval (.tmp x) = a6.eval (.tmp x) by rw [← hA7]; exact qaa (by omega)) hx_6
 have hy_7 := Eq.trans (show a7.eval (.tmp y) = a6.eval (.tmp y) by rw [← hA7]; exact qaa (by omega)) hy_6
 have q0_7 := Eq.trans (show a7.eval (.tmp b) = a6.eval (.tmp b) by rw [← hA7]; exact qaa (by omega)) q0_6
 have q1_7 := Eq.trans (show a7.eval (.tmp (b + 1)) = a6.eval (.tmp (b + 1)) by rw [← hA7]; exact qaa (by omega)) q1_6
 have q2_7 := Eq.trans (show a7.eval (.tmp (b + 2)) = a6.eval (.tmp (b + 2)) by rw [← hA7]; exact qaa (by omega)) q2_6
 have q3_7 := Eq.trans (show a7.eval (.tmp (b + 3)) = a6.eval (.tmp (b + 3)) by rw [← hA7]; exact qaa (by omega)) q3_6
 have q4_7 := Eq.trans (show a7.eval (.tmp (b + 4)) = a6.eval (.tmp (b + 4)) by rw [← hA7]; exact qaa (by omega)) q4_6
 have q5_7 := Eq.trans (show a7.eval (.tmp (b + 5)) = a6.eval (.tmp (b + 5)) by rw [← hA7]; exact qaa (by omega)) q5_6
 have q6_7 : a7.eval (.tmp (b + 6)) = v6 := by rw [← hA7]; exact qae (by omega)
 clear hz6 hx_6 hy_6 q0_6 q1_6 q2_6 q3_6 q4_6 q5_6
 refine qai (d := b + 7) rfl rfl (fun wx hC hd S0 hS => ?_) (fun v7 => ?_)
 ·have d2 : v2 = src := hd ⟨2, .data⟩ (by simp) rfl v2 rfl
  have d6 : v6 = (.int .i64 (nm - 1)) := hd ⟨6, .data⟩ (by simp) rfl v6 rfl
  refine wp_sliceTo rfl (q2_7.trans d2) (q6_7.trans d6) (hcut wx) ⟨put_defers' _ _ _, ?_⟩
  rw [qae (by omega)]
  exact hS _ _ hC (Below.refl _ _) rfl
 generalize hA8 : Act.put a7 (some (b + 7)) v7 = a8
 have hz8 : b + 10 < a8.tmps.size := by rw [← hA8, qay]; exact hz7
 have hx_8 := Eq.trans (show a8.eval (.tmp x) = a7.eval (.tmp x) by rw [← hA8]; exact qaa (by omega)) hx_7
 have hy_8 := Eq.trans (show a8.eval (.tmp y) = a7.eval (.tmp y) by rw [← hA8]; exact qaa (by omega)) hy_7
 have q0_8 := Eq.trans (show a8.eval (.tmp b) = a7.eval (.tmp b) by rw [← hA8]; exact qaa (by omega)) q0_7
 have q1_8 := Eq.trans (show a8.eval (.tmp (b + 1)) = a7.eval (.tmp (b + 1)) by rw [← hA8]; exact qaa (by omega)) q1_7
 have q2_8 := Eq.trans (show a8.eval (.tmp (b + 2)) = a7.eval (.tmp (b + 2)) by rw [← hA8]; exact qaa (by omega)) q2_7
 have q3_8 := Eq.trans (show a8.eval (.tmp (b + 3)) = a7.eval (.tmp (b + 3)) by rw [← hA8]; exact qaa (by omega)) q3_7
 have q4_8 := Eq.trans (show a8.eval (.tmp (b + 4)) = a7.eval (.tmp (b + 4)) by rw [← hA8]; exact qaa (by omega)) q4_7
 have q5_8 := Eq.trans (show a8.eval (.tmp (b + 5)) = a7.eval (.tmp (b + 5)) by rw [← hA8]; exact qaa (by omega)) q5_7
 have q6_8 := Eq.trans (show a8.eval (.tmp (b + 6)) = a7.eval (.tmp (b + 6)) by rw [← hA8]; exact qaa (by omega)) q6_7
 have q7_8 : a8.eval (.tmp (b + 7)) = v7 := by rw [← hA8]; exact qae (by omega)
 clear hz7 hx_7 hy_7 q0_7 q1_7 q2_7 q3_7 q4_7 q5_7 q6_7
 refine qai (d := b + 8) rfl rfl (fun wx hC hd S0 hS => ?_) (fun v8 => ?_)
 ·have d0 : Empty0 e B wx v0 := hd ⟨0, .data⟩ (by simp) rfl v0 rfl
  have d7 : v7 = src2 := hd ⟨7, .data⟩ (by simp) rfl v7 rfl
  have hsz' := relyC_size hC
  obtain ⟨v', w', hr, h2, h3⟩ := run_append_copy (ty := y8) ht hR h1 d0 (hsrc.kept hC) (hrow.mono fun cs x hx => hR.stays _ _ _ _ _ (KeepsT.of_below hC) hx) hlen hlo (by omega)
  refine wp_of_append (.tmp b) (.tmp (b + 7)) T rfl q0_8 (q7_8.trans d7) hr ⟨put_defers' _ _ _, ?_⟩
  rw [qae (by omega)]
  exact hS _ _ (relyC_next hC h3) h3 h2
 generalize hA9 : Act.put a8 (some (b + 8)) v8 = a9
 have hz9 : b + 10 < a9.tmps.size := by rw [← hA9, qay]; exact hz8
 have hx_9 := Eq.trans (show a9.eval (.tmp x) = a8.eval (.tmp x) by rw [← hA9]; exact qaa (by omega)) hx_8
 have hy_9 := Eq.trans (show a9.eval (.tmp y) = a8.eval (.tmp y) by rw [← hA9]; exact qaa (by omega)) hy_8
 have q0_9 := Eq.trans (show a9.eval (.tmp b) = a8.eval (.tmp b) by rw [← hA9]; exact qaa (by omega)) q0_8
 have q1_9 := Eq.trans (show a9.eval (.tmp (b + 1)) = a8.eval (.tmp (b + 1)) by rw [← hA9]; exact qaa (by omega)) q1_8
 have q2_9 := Eq.trans (show a9.eval (.tmp (b + 2)) = a8.eval (.tmp (b + 2)) by rw [← hA9]; exact qaa (by omega)) q2_8
 have q3_9 := Eq.trans (show a9.eval (.tmp (b + 3)) = a8.eval (.tmp (b + 3)) by rw [← hA9]; exact qaa (by omega)) q3_8
 have q4_9 := Eq.trans (show a9.eval (.tmp (b + 4)) = a8.eval (.tmp (b + 4)) by rw [← hA9]; exact qaa (by omega)) q4_8
 have q5_9 := Eq.trans (show a9.eval (.tmp (b + 5)) = a8.eval (.tmp (b + 5)) by rw [← hA9]; exact qaa (by omega)) q5_8
 have q6_9 := Eq.trans (show a9.eval (.tmp (b + 6)) = a8.eval (.tmp (b + 6)) by rw [← hA9]; exact qaa (by omega)) q6_8
 have q7_9 := Eq.trans (show a9.eval (.tmp (b + 7)) = a8.eval (.tmp (b + 7)) by rw [← hA9]; exact qaa (by omega)) q7_8
 clear hz8 hx_8 hy_8 q0_8 q1_8 q2_8 q3_8 q4_8 q5_8 q6_8 q7_8
 refine qai (d := b + 9) rfl rfl (fun wx hC hd S0 hS => ?_) (fun v9 => ?_)
 ·refine wp_loadAt rfl hy_9 (run_loadAt_mid wx cy 0 e csy d (range_below hcy hC hcl) hu hrowd (by rw [hi, Option.map_some, hik, hly])) ⟨put_defers' _ _ _, ?_⟩
  rw [qae (by omega)]
  exact hS _ _ hC (Below.refl _ _) rfl
 generalize hA10 : Act.put a9 (some (b + 9)) v9 = a10
 have hz10 : b + 10 < a10.tmps.size := by rw [← hA10, qay]; exact hz9
 have hx_10 := Eq.trans (show a10.eval (.tmp x) = a9.eval (.tmp x) by rw [← hA10]; exact qaa (by omega)) hx_9
 have hy_10 := Eq.trans (show a10.eval (.tmp y) = a9.eval (.tmp y) by rw [← hA10]; exact qaa (by omega)) hy_9
 have q0_10 := Eq.trans (show a10.eval (.tmp b) = a9.eval (.tmp b) by rw [← hA10]; exact qaa (by omega)) q0_9
 have q1_10 := Eq.trans (show a10.eval (.tmp (b + 1)) = a9.eval (.tmp (b + 1)) by rw [← hA10]; exact qaa (by omega)) q1_9
 have q2_10 := Eq.trans (show a10.eval (.tmp (b + 2)) = a9.eval (.tmp (b + 2)) by rw [← hA10]; exact qaa (by omega)) q2_9
 have q3_10 := Eq.trans (show a10.eval (.tmp (b + 3)) = a9.eval (.tmp (b + 3)) by rw [← hA10]; exact qaa (by omega)) q3_9
 have q4_10 := Eq.trans (show a10.eval (.tmp (b + 4)) = a9.eval (.tmp (b + 4)) by rw [← hA10]; exact qaa (by omega)) q4_9
 have q5_10 := Eq.trans (show a10.eval (.tmp (b + 5)) = a9.eval (.tmp (b + 5)) by rw [← hA10]; exact qaa (by omega)) q5_9
 have q6_10 := Eq.trans (show a10.eval (.tmp (b + 6)) = a9.eval (.tmp (b + 6)) by rw [← hA10]; exact qaa (by omega)) q6_9
 have q7_10 := Eq.trans (show a10.eval (.tmp (b + 7)) = a9.eval (.tmp (b + 7)) by rw [← hA10]; exact qaa (by omega)) q7_9
 have q9_10 : a10.eval (.tmp (b + 9)) = v9 := by rw [← hA10]; exact qae (by omega)
 clear hz9 hx_9 hy_9 q0_9 q1_9 q2_9 q3_9 q4_9 q5_9 q6_9 q7_9
 refine qai (d := b + 10) rfl rfl (fun wx hC hd S0 hS => ?_) (fun v10 => ?_)
 ·have d9 : v9 = (.agg csy.toArray) := hd ⟨9, .data⟩ (by simp) rfl v9 rfl
  refine wp_buildOne rfl (q9_10.trans d9) (run_one ht csy hly hk wx) ⟨put_defers' _ _ _, ?_⟩
  rw [qae (by omega)]
  exact hS _ _ (relyC_next hC ((Below.refl _ _).alloc (Nat.le_refl _) _)) ((Below.refl _ _).alloc (Nat.le_refl _) _) (Src.new (k := k))
 generalize hA11 : Act.put a10 (some (b + 10)) v10 = a11
 have hz11 : b + 10 < a11.tmps.size := by rw [← hA11, qay]; exact hz10
 have hx_11 := Eq.trans (show a11.eval (.tmp x) = a10.eval (.tmp x) by rw [← hA11]; exact qaa (by omega)) hx_10
 have hy_11 := Eq.trans (show a11.eval (.tmp y) = a10.eval (.tmp y) by rw [← hA11]; exact qaa (by omega)) hy_10
 have q0_11 := Eq.trans (show a11.eval (.tmp b) = a10.eval (.tmp b) by rw [← hA11]; exact qaa (by omega)) q0_10
 have q1_11 := Eq.trans (show a11.eval (.tmp (b + 1)) = a10.eval (.tmp (b + 1)) by rw [← hA11]; exact qaa (by omega)) q1_10
 have q2_11 := Eq.trans (show a11.eval (.tmp (b + 2)) = a10.eval (.tmp (b + 2)) by rw [← hA11]; exact qaa (by omega)) q2_10
 have q3_11 := Eq.trans (show a11.eval (.tmp (b + 3)) = a10.eval (.tmp (b + 3)) by rw [← hA11]; exact qaa (by omega)) q3_10
 have q4_11 := Eq.trans (show a11.eval (.tmp (b + 4)) = a10.eval (.tmp (b + 4)) by rw [← hA11]; exact qaa (by omega)) q4_10
 have q5_11 := Eq.trans (show a11.eval (.tmp (b + 5)) = a10.eval (.tmp (b + 5)) by rw [← hA11]; exact qaa (by omega)) q5_10
 have q6_11 := Eq.trans (show a11.eval (.tmp (b + 6)) = a10.eval (.tmp (b + 6)) by rw [← hA11]; exact qaa (by omega)) q6_10
 have q7_11 := Eq.trans (show a11.eval (.tmp (b + 7)) = a10.eval (.tmp (b + 7)) by rw [← hA11]; exact qaa (by omega)) q7_10
 have q9_11 := Eq.trans (show a11.eval (.tmp (b + 9)) = a10.eval (.tmp (b + 9)) by rw [← hA11]; exact qaa (by omega)) q9_10
 clear hz10 hx_10 hy_10 q0_10 q1_10 q2_10 q3_10 q4_10 q5_10 q6_10 q7_10 q9_10
 intro w' hC hF
 have f1 : v1 = (.pointer (some ⟨bx, fx, none⟩)) := hF 1 v1 rfl
 have f2 : v2 = src := hF 2 v2 rfl
 have f3 : v3 = (.pointer (some ⟨bx, fx, none⟩)) := hF 3 v3 rfl
 have f4 : v4 = src := hF 4 v4 rfl
 have f5 : v5 = (.int .i64 nm) := hF 5 v5 rfl
 have f6 : v6 = (.int .i64 (nm - 1)) := hF 6 v6 rfl
 have f7 : v7 = src2 := hF 7 v7 rfl
 have f9 : v9 = (.agg csy.toArray) := hF 9 v9 rfl
 subst f1
 subst f2
 subst f3
 subst f4
 subst f5
 subst f6
 subst f7
 subst f9
 subst hA11
 subst hA10
 subst hA9
 subst hA8
 subst hA7
 subst hA6
 subst hA5
 subst hA4
 subst hA3
 subst hA2
 subst hA1
 exact h v0 v8 v10 w' hC (hF 8 v8 rfl) (hF 10 v10 rfl)

def app3CF (k : Nat) (R : RowRel α) (e : TypeId) (lo B : Nat) (p src : Value) (src2 : Value) (nm : Int) (xs : List α) (csy : List Value) (css : List (List Value)) : Nat → Value → World → Prop
 | 0, v, w => Empty0 e B w v
 | 1, v, w => v = p
 | 2, v, w => v = src
 | 3, v, w => v = .int .i64 nm
 | 4, v, w => v = .int .i64 (nm - 1)
 | 5, v, w => v = src2
 | 6, v, w => TOwnC k R e lo B w v css xs
 | 7, v, w => v = .agg csy.toArray
 | 8, v, w => Src k w v [csy]
 | _, _, _ => True
theorem app3CF_stays (hR : GoodT E R) {p src : Value} {src2 : Value} {nm : Int} {xs : List α} {csy : List Value} {css : List (List Value)} : ∀ i u w w', relyG w w' → app3CF k R e lo B p src src2 nm xs csy css i u w → app3CF k R e lo B p src src2 nm xs csy css i u w'
 | 0, _, _, _, g, h => Empty0.below h g
 | 1, _, _, _, g, h => h
 | 2, _, _, _, g, h => h
 | 3, _, _, _, g, h => h
 | 4, _, _, _, g, h => h
 | 5, _, _, _, g, h => h
 | 6, _, _, _, g, h => TOwnC.below hR h g
 | 7, _, _, _, g, h => h
 | 8, _, _, _, g, h => Src.kept (k := k) h g
 | _ + 9, _, _, _, _, _ => trivial

theorem wp_app3C {id : Nat} {Q : Exit → Act → World → Prop} {a : Act} {w : World} {tl : List Oper} {b x y m f bx fx cy : Nat} {S ti y0 y1 y2 y3 y4 y5 y6 y7 y8 : TypeId} {p0 p1 p2 p3 p4 p5 p6 p7 p8 : String}
  (ht : STy T e k z bytes) (hk : k ≤ 100) (hR : GoodT E R) (h1 : ∀ lo w cs x, R lo w cs x → ∀ u ∈ cs, u.oneCell' = true) (hlo : lo ≤ B) (hB : B ≤ w.heap.size)
  {src src2 : Value} {nm : Int} {csy : List Value} {css : List (List Value)} {xs : List α}
  (hx : a.eval (.tmp x) = .pointer (some ⟨bx, 0, none⟩)) (hfa : ∀ w, (Instr.fieldAt S (.pointer (some ⟨bx, 0, none⟩)) f).run Tryz.prog w = .ok (.pointer (some ⟨bx, fx, none⟩)) w)
  (hcx : w.cell? ⟨bx, fx, none⟩ = some src) (hy : a.eval (.tmp y) = .pointer (some ⟨cy, 0, none⟩)) (hcy : w.rangeAt cy 0 csy) (hcl : cy < w.heap.size) (hly : csy.length = k)
  (hti : Tryz.prog.underlying ti = some (.int .i64)) (hnm : 1 ≤ nm ∧ nm ≤ 1000000) (hmv : a.eval (.tmp m) = .int .i64 nm) (hmb : m < b)
  (hcut : ∀ w, (Instr.sliceAt T src none (some (.int .i64 (nm - 1))) none).run Tryz.prog w = .ok src2 w)
  {d : TypeDesc} (hu : Tryz.prog.underlying e = some d) (hrowd : d.isRow = true) (hsrc : Src k w src2 css) (hrow : Rows k R lo w css xs) (hlen : xs.length ≤ 1000000)
  (hxb : x < b) (hyb : y < b) (hsz : b + 8 < a.tmps.size) {l : List Oper}
  (hl : l = ⟨some b, .buildSlice T 0 #[], y0, p0, #[], none⟩ ::
   ⟨some (b + 1), .fieldAddr S (.tmp x) f, y1, p1, #[], none⟩ ::
   ⟨some (b + 2), .load T (.tmp (b + 1)), y2, p2, #[⟨1, .data⟩], none⟩ ::
   ⟨some (b + 3), .move (.tmp m), y3, p3, #[], none⟩ ::
   ⟨some (b + 4), .binOp .sub ti (.tmp (b + 3)) (.const (.int .i64 1)) ti, y4, p4, #[⟨3, .data⟩], none⟩ ::
   ⟨some (b + 5), .slice T (.tmp (b + 2)) none (some (.tmp (b + 4))) none, y5, p5, #[⟨2, .data⟩, ⟨4, .data⟩], none⟩ ::
   ⟨some (b + 6), .call { callee := .builtin .append, args := #[.tmp b, .tmp (b + 5)], argTypes := #[T, T] }, y6, p6, #[⟨0, .data⟩, ⟨5, .data⟩], none⟩ ::
   ⟨some (b + 7), .load e (.tmp y), y7, p7, #[], none⟩ ::
   ⟨some (b + 8), .buildSlice T 1 #[(0, .tmp (b + 7))], y8, p8, #[⟨7, .data⟩], none⟩ :: tl)
  (hm : Tryz.prog.follows .mixedOrders = true) (hn : 9 < l.length) (hb : headB l 9 = true) (hs : Region.sinkB .any l.toArray 9 = true) (hc : Region.chainB .any l.toArray 9 = true) (hq : Region.seqB .any l.toArray (l.length - 9) 9 (fullB 9 l.length) = true)
  (h : ∀ v0 v6 v8 w', Below w.heap.size w w' → TOwnC k R e lo B w' v6 css xs → Src k w' v8 [csy] →
   wpList Tryz.prog l.toArray Q tl (((((((((a.put (some b) v0).put (some (b + 1)) (.pointer (some ⟨bx, fx, none⟩))).put (some (b + 2)) src).put (some (b + 3)) (.int .i64 nm)).put (some (b + 4)) (.int .i64 (nm - 1))).put (some (b + 5)) src2).put (some (b + 6)) v6).put (some (b + 7)) (.agg csy.toArray)).put (some (b + 8)) v8) w') :
  (Code.region id l.toArray true).wp Tryz.prog Q a w := by
 have hcx0 : bx < w.heap.size := block_lt_of_cell hcx
 obtain ⟨i, hi, hz, hik, hib⟩ := ht.parts
 refine wp_region_rely (l := l) 9 (relyC w) relyG (app3CF k R e lo B (.pointer (some ⟨bx, fx, none⟩)) src src2 nm xs csy css) hm (Nat.le_of_lt hn) hb (Or.inr ⟨hs, hc⟩) hq ((Below.refl _ _).drew) (fun i u w1 w2 _ g hF => app3CF_stays hR i u w1 w2 g hF) (fun _ _ => Below.refl _ _) ?_
 subst hl
 show wpRely _ _ _ _ _ _ [_, _, _, _, _, _, _, _, _] [] a
 have hz0 := hsz; have hx_0 := hx; have hy_0 := hy; have hm_0 := hmv
 refine qai (d := b) rfl rfl (fun wx hC hd S0 hS => ?_) (fun v0 => ?_)
 ·refine wp_buildEmpty rfl (run_empty ht wx) ⟨put_defers' _ _ _, ?_⟩
  rw [qae (by omega)]
  have hBx : B ≤ wx.heap.size := by have := relyC_size hC; omega
  exact hS _ _ (relyC_next hC ((Below.refl _ _).alloc (Nat.le_refl _) _)) ((Below.refl _ _).alloc (Nat.le_refl _) _) (Empty0.new wx e hBx)
 generalize hA1 : Act.put a (some b) v0 = a1
 have hz1 : b + 8 < a1.tmps.size := by rw [← hA1, qay]; exact hz0
 have hx_1 := Eq.trans (show a1.eval (.tmp x) = a.eval (.tmp x) by rw [← hA1]; exact qaa (by omega)) hx_0
 have hy_1 := Eq.trans (show a1.eval (.tmp y) = a.eval (.tmp y) by rw [← hA1]; exact qaa (by omega)) hy_0
 have hm_1 := Eq.trans (show a1.eval (.tmp m) = a.eval (.tmp m) by rw [← hA1]; exact qaa (by omega)) hm_0
 have q0_1 : a1.eval (.tmp b) = v0 := by rw [← hA1]; exact qae (by omega)
 clear hz0 hx_0 hy_0 hm_0 
 refine qai (d := b + 1) rfl rfl (fun wx hC hd S0 hS => ?_) (fun v1 => ?_)
 ·refine wp_fieldAt rfl hx_1 (hfa wx) ⟨put_defers' _ _ _, ?_⟩
  rw [qae (by omega)]
  exact hS _ _ hC (Below.refl _ _) rfl
 generalize hA2 : Act.put a1 (some (b + 1)) v1 = a2
 have hz2 : b + 8 < a2.tmps.size := by rw [← hA2, qay]; exact hz1
 have hx_2 := Eq.trans (show a2.eval (.tmp x) = a1.eval (.tmp x) by rw [← hA2]; exact qaa (by omega)) hx_1
 have hy_2 := Eq.trans (show a2.eval (.tmp y) = a1.eval (.tmp y) by rw [← hA2]; exact qaa (by omega)) hy_1
 have hm_2 := Eq.trans (show a2.eval (.tmp m) = a1.eval (.tmp m) by rw [← hA2]; exact qaa (by omega)) hm_1
 have q0_2 := Eq.trans (show a2.eval (.tmp b) = a1.eval (.tmp b) by rw [← hA2]; exact qaa (by omega)) q0_1
 have q1_2 : a2.eval (.tmp (b + 1)) = v1 := by rw [← hA2]; exact qae (by omega)
 clear hz1 hx_1 hy_1 hm_1 q0_1
 refine qai (d := b + 2) rfl rfl (fun wx hC hd S0 hS => ?_) (fun v2 => ?_)
 ·have d1 : v1 = (.pointer (some ⟨bx, fx, none⟩)) := hd ⟨1, .data⟩ (by simp) rfl v1 rfl
  refine wp_loadAt rfl (q1_2.trans d1) (run_load1 ht ((Below.cell hC (p := ⟨bx, fx, none⟩) hcx0).trans hcx)) ⟨put_defers' _ _ _, ?_⟩
  rw [qae (by omega)]
  exact hS _ _ hC (Below.refl _ _) rfl
 generalize hA3 : Act.put a2 (some (b + 2)) v2 = a3
 have hz3 : b + 8 < a3.tmps.size := by rw [← hA3, qay]; exact hz2
 have hx_3 := Eq.trans (show a3.eval (.tmp x) = a2.eval (.tmp x) by rw [← hA3]; exact qaa (by omega)) hx_2
 have hy_3 := Eq.trans (show a3.eval (.tmp y) = a2.eval (.tmp y) by rw [← hA3]; exact qaa (by omega)) hy_2
 have hm_3 := Eq.trans (show a3.eval (.tmp m) = a2.eval (.tmp m) by rw [← hA3]; exact qaa (by omega)) hm_2
 have q0_3 := Eq.trans (show a3.eval (.tmp b) = a2.eval (.tmp b) by rw [← hA3]; exact qaa (by omega)) q0_2
 have q1_3 := Eq.trans (show a3.eval (.tmp (b + 1)) = a2.eval (.tmp (b + 1)) by rw [← hA3]; exact qaa (by omega)) q1_2
 have q2_3 : a3.eval (.tmp (b + 2)) = v2 := by rw [← hA3]; exact qae (by omega)
 clear hz2 hx_2 hy_2 hm_2 q0_2 q1_2
 refine qai (d := b + 3) rfl rfl (fun wx hC hd S0 hS => ?_) (fun v3 => ?_)
 ·refine wp_moveTo rfl hm_3 ⟨put_defers' _ _ _, ?_⟩
  rw [qae (by omega)]
  exact hS _ _ hC (Below.refl _ _) rfl
 generalize hA4 : Act.put a3 (some (b + 3)) v3 = a4
 have hz4 : b + 8 < a4.tmps.size := by rw [← hA4, qay]; exact hz3
 have hx_4 := Eq.trans (show a4.eval (.tmp x) = a3.eval (.tmp x) by rw [← hA4]; exact qaa (by omega)) hx_3
 have hy_4 := Eq.trans (show a4.eval (.tmp y) = a3.eval (.tmp y) by rw [← hA4]; exact qaa (by omega)) hy_3
 have hm_4 := Eq.trans (show a4.eval (.tmp m) = a3.eval (.tmp m) by rw [← hA4]; exact qaa (by omega)) hm_3
 have q0_4 := Eq.trans (show a4.eval (.tmp b) = a3.eval (.tmp b) by rw [← hA4]; exact qaa (by omega)) q0_3
 have q1_4 := Eq.trans (show a4.eval (.tmp (b + 1)) = a3.eval (.tmp (b + 1)) by rw [← hA4]; exact qaa (by omega)) q1_3
 have q2_4 := Eq.trans (show a4.eval (.tmp (b + 2)) = a3.eval (.tmp (b + 2)) by rw [← hA4]; exact qaa (by omega)) q2_3
 have q3_4 : a4.eval (.tmp (b + 3)) = v3 := by rw [← hA4]; exact qae (by omega)
 clear hz3 hx_3 hy_3 hm_3 q0_3 q1_3 q2_3
 refine qai (d := b + 4) rfl rfl (fun wx hC hd S0 hS => ?_) (fun v4 => ?_)
 ·have d3 : v3 = (.int .i64 nm) := hd ⟨3, .data⟩ (by simp) rfl v3 rfl
  refine wp_subOne rfl (q3_4.trans d3) hti hnm ⟨put_defers' _ _ _, ?_⟩
  rw [qae (by omega)]
  exact hS _ _ hC (Below.refl _ _) rfl
 generalize hA5 : Act.put a4 (some (b + 4)) v4 = a5
 have hz5 : b + 8 < a5.tmps.size := by rw [← hA5, qay]; exact hz4
 have hx_5 := Eq.trans (show a5.eval (.tmp x) = a4.eval (.tmp x) by rw [← hA5]; exact qaa (by omega)) hx_4
 have hy_5 := Eq.trans (show a5.eval (.tmp y) = a4.eval (.tmp y) by rw [← hA5]; exact qaa (by omega)) hy_4
 have hm_5 := Eq.trans (show a5.eval (.tmp m) = a4.eval (.tmp m) by rw [← hA5]; exact qaa (by omega)) hm_4
 have q0_5 := Eq.trans (show a5.eval (.tmp b) = a4.eval (.tmp b) by rw [← hA5]; exact qaa (by omega)) q0_4
 have q1_5 := Eq.trans (show a5.eval (.tmp (b + 1)) = a4.eval (.tmp (b + 1)) by rw [← hA5]; exact qaa (by omega)) q1_4
 have q2_5 := Eq.trans (show a5.eval (.tmp (b + 2)) = a4.eval (.tmp (b + 2)) by rw [← hA5]; exact qaa (by omega)) q2_4
 have q3_5 := Eq.trans (show a5.eval (.tmp (b + 3)) = a4.eval (.tmp (b + 3)) by rw [← hA5]; exact qaa (by omega)) q3_4
 have q4_5 : a5.eval (.tmp (b + 4)) = v4 := by rw [← hA5]; exact qae (by omega)
 clear hz4 hx_4 hy_4 hm_4 q0_4 q1_4 q2_4 q3_4
 refine qai (d := b + 5) rfl rfl (fun wx hC hd S0 hS => ?_) (fun v5 => ?_)
 ·have d2 : v2 = src := hd ⟨2, .data⟩ (by simp) rfl v2 rfl
  have d4 : v4 = (.int .i64 (nm - 1)) := hd ⟨4, .data⟩ (by simp) rfl v4 rfl
  refine wp_sliceTo rfl (q2_5.trans d2) (q4_5.trans d4) (hcut wx) ⟨put_defers' _ _ _, ?_⟩
  rw [qae (by omega)]
  exact hS _ _ hC (Below.refl _ _) rfl
 generalize hA6 : Act.put a5 (some (b + 5)) v5 = a6
 have hz6 : b + 8 < a6.tmps.size := by rw [← hA6, qay]; exact hz5
 have hx_6 := Eq.trans (show a6.eval (.tmp x) = a5.eval (.tmp x) by rw [← hA6]; exact qaa (by omega)) hx_5
 have hy_6 := Eq.trans (show a6.eval (.tmp y) = a5.eval (.tmp y) by rw [← hA6]; exact qaa (by omega)) hy_5
 have hm_6 := Eq.trans (show a6.eval (.tmp m) = a5.eval (.tmp m) by rw [← hA6]; exact qaa (by omega)) hm_5
 have q0_6 := Eq.trans (show a6.eval (.tmp b) = a5.eval (.tmp b) by rw [← hA6]; exact qaa (by omega)) q0_5
 have q1_6 := Eq.trans (show a6.eval (.tmp (b + 1)) = a5.eval (.tmp (b + 1)) by rw [← hA6]; exact qaa (by omega)) q1_5
 have q2_6 := Eq.trans (show a6.eval (.tmp (b + 2)) = a5.eval (.tmp (b + 2)) by rw [← hA6]; exact qaa (by omega)) q2_5
 have q3_6 := Eq.trans (show a6.eval (.tmp (b + 3)) = a5.eval (.tmp (b + 3)) by rw [← hA6]; exact qaa (by omega)) q3_5
 have q4_6 := Eq.trans (show a6.eval (.tmp (b + 4)) = a5.eval (.tmp (b + 4)) by rw [← hA6]; exact qaa (by omega)) q4_5
 have q5_6 : a6.eval (.tmp (b + 5)) = v5 := by rw [← hA6]; exact qae (by omega)
 clear hz5 hx_5 hy_5 hm_5 q0_5 q1_5 q2_5 q3_5 q4_5
 refine qai (d := b + 6) rfl rfl (fun wx hC hd S0 hS => ?_) (fun v6 => ?_)
 ·have d0 : Empty0 e B wx v0 := hd ⟨0, .data⟩ (by simp) rfl v0 rfl
  have d5 : v5 = src2 := hd ⟨5, .data⟩ (by simp) rfl v5 rfl
  have hsz' := relyC_size hC
  obtain ⟨v', w', hr, h2, h3⟩ := run_append_copyC (ty := y6) ht hR h1 d0 (hsrc.kept hC) (hrow.mono fun cs x hx => hR.stays _ _ _ _ _ (KeepsT.of_below hC) hx) hlen hlo (by omega)
  refine wp_of_append (.tmp b) (.tmp (b + 5)) T rfl q0_6 (q5_6.trans d5) hr ⟨put_defers' _ _ _, ?_⟩
  rw [qae (by omega)]
  exact hS _ _ (relyC_next hC h3) h3 h2
 generalize hA7 : Act.put a6 (some (b + 6)) v6 = a7
 have hz7 : b + 8 < a7.tmps.size := by rw [← hA7, qay]; exact hz6
 have hx_7 := Eq.trans (show a7.eval (.tmp x) = a6.eval (.tmp x) by rw [← hA7]; exact qaa (by omega)) hx_6
 have hy_7 := Eq.trans (show a7.eval (.tmp y) = a6.eval (.tmp y) by rw [← hA7]; exact qaa (by omega)) hy_6
 have hm_7 := Eq.trans (show a7.eval (.tmp m) = a6.eval (.tmp m) by rw [← hA7]; exact qaa (by omega)) hm_6
 have q0_7 := Eq.trans (show a7.eval (.tmp b) = a6.eval (.tmp b) by rw [← hA7]; exact qaa (by omega)) q0_6
 have q1_7 := Eq.trans (show a7.eval (.tmp (b + 1)) = a6.eval (.tmp (b + 1)) by rw [← hA7]; exact qaa (by omega)) q1_6
 have q2_7 := Eq.trans (show a7.eval (.tmp (b + 2)) = a6.eval (.tmp (b + 2)) by rw [← hA7]; exact qaa (by omega)) q2_6
 have q3_7 := Eq.trans (show a7.eval (.tmp (b + 3)) = a6.eval (.tmp (b + 3)) by rw [← hA7]; exact qaa (by omega)) q3_6
 have q4_7 := Eq.trans (show a7.eval (.tmp (b + 4)) = a6.eval (.tmp (b + 4)) by rw [← hA7]; exact qaa (by omega)) q4_6
 have q5_7 := Eq.trans (show a7.eval (.tmp (b + 5)) = a6.eval (.tmp (b + 5)) by rw [← hA7]; exact qaa (by omega)) q5_6
 clear hz6 hx_6 hy_6 hm_6 q0_6 q1_6 q2_6 q3_6 q4_6 q5_6
 refine qai (d := b + 7) rfl rfl (fun wx hC hd S0 hS => ?_) (fun v7 => ?_)
 ·refine wp_loadAt rfl hy_7 (run_loadAt_mid wx cy 0 e csy d (range_below hcy hC hcl) hu hrowd (by rw [hi, Option.map_some, hik, hly])) ⟨put_defers' _ _ _, ?_⟩
  rw [qae (by omega)]
  exact hS _ _ hC (Below.refl _ _) rfl
 generalize hA8 : Act.put a7 (some (b + 7)) v7 = a8
 have hz8 : b + 8 < a8.tmps.size := by rw [← hA8, qay]; exact hz7
 have hx_8 := Eq.trans (show a8.eval (.tmp x) = a7.eval (.tmp x) by rw [← hA8]; exact qaa (by omega)) hx_7
 have hy_8 := Eq.trans (show a8.eval (.tmp y) = a7.eval (.tmp y) by rw [← hA8]; exact qaa (by omega)) hy_7
 have hm_8 := Eq.trans (show a8.eval (.tmp m) = a7.eval (.tmp m) by rw [← hA8]; exact qaa (by omega)) hm_7
 have q0_8 := Eq.trans (show a8.eval (.tmp b) = a7.eval (.tmp b) by rw [← hA8]; exact qaa (by omega)) q0_7
 have q1_8 := Eq.trans (show a8.eval (.tmp (b + 1)) = a7.eval (.tmp (b + 1)) by rw [← hA8]; exact qaa (by omega)) q1_7
 have q2_8 := Eq.trans (show a8.eval (.tmp (b + 2)) = a7.eval (.tmp (b + 2)) by rw [← hA8]; exact qaa (by omega)) q2_7
 have q3_8 := Eq.trans (show a8.eval (.tmp (b + 3)) = a7.eval (.tmp (b + 3)) by rw [← hA8]; exact qaa (by omega)) q3_7
 have q4_8 := Eq.trans (show a8.eval (.tmp (b + 4)) = a7.eval (.tmp (b + 4)) by rw [← hA8]; exact qaa (by omega)) q4_7
 have q5_8 := Eq.trans (show a8.eval (.tmp (b + 5)) = a7.eval (.tmp (b + 5)) by rw [← hA8]; exact qaa (by omega)) q5_7
 have q7_8 : a8.eval (.tmp (b + 7)) = v7 := by rw [← hA8]; exact qae (by omega)
 clear hz7 hx_7 hy_7 hm_7 q0_7 q1_7 q2_7 q3_7 q4_7 q5_7
 refine qai (d := b + 8) rfl rfl (fun wx hC hd S0 hS => ?_) (fun v8 => ?_)
 ·have d7 : v7 = (.agg csy.toArray) := hd ⟨7, .data⟩ (by simp) rfl v7 rfl
  refine wp_buildOne rfl (q7_8.trans d7) (run_one ht csy hly hk wx) ⟨put_defers' _ _ _, ?_⟩
  rw [qae (by omega)]
  exact hS _ _ (relyC_next hC ((Below.refl _ _).alloc (Nat.le_refl _) _)) ((Below.refl _ _).alloc (Nat.le_refl _) _) (Src.new (k := k))
 generalize hA9 : Act.put a8 (some (b + 8)) v8 = a9
 have hz9 : b + 8 < a9.tmps.size := by rw [← hA9, qay]; exact hz8
 have hx_9 := Eq.trans (show a9.eval (.tmp x) = a8.eval (.tmp x) by rw [← hA9]; exact qaa (by omega)) hx_8
 have hy_9 := Eq.trans (show a9.eval (.tmp y) = a8.eval (.tmp y) by rw [← hA9]; exact qaa (by omega)) hy_8
 have hm_9 := Eq.trans (show a9.eval (.tmp m) = a8.eval (.tmp m) by rw [← hA9]; exact qaa (by omega)) hm_8
 have q0_9 := Eq.trans (show a9.eval (.tmp b) = a8.eval (.tmp b) by rw [← hA9]; exact qaa (by omega)) q0_8
 have q1_9 := Eq.trans (show a9.eval (.tmp (b + 1)) = a8.eval (.tmp (b + 1)) by rw [← hA9]; exact qaa (by omega)) q1_8
 have q2_9 := Eq.trans (show a9.eval (.tmp (b + 2)) = a8.eval (.tmp (b + 2)) by rw [← hA9]; exact qaa (by omega)) q2_8
 have q3_9 := Eq.trans (show a9.eval (.tmp (b + 3)) = a8.eval (.tmp (b + 3)) by rw [← hA9]; exact qaa (by omega)) q3_8
 have q4_9 := Eq.trans (show a9.eval (.tmp (b + 4)) = a8.eval (.tmp (b + 4)) by rw [← hA9]; exact qaa (by omega)) q4_8
 have q5_9 := Eq.trans (show a9.eval (.tmp (b + 5)) = a8.eval (.tmp (b + 5)) by rw [← hA9]; exact qaa (by omega)) q5_8
 have q7_9 := Eq.trans (show a9.eval (.tmp (b + 7)) = a8.eval (.tmp (b + 7)) by rw [← hA9]; exact qaa (by omega)) q7_8
 clear hz8 hx_8 hy_8 hm_8 q0_8 q1_8 q2_8 q3_8 q4_8 q5_8 q7_8
 intro w' hC hF
 have f1 : v1 = (.pointer (some ⟨bx, fx, none⟩)) := hF 1 v1 rfl
 have f2 : v2 = src := hF 2 v2 rfl
 have f3 : v3 = (.int .i64 nm) := hF 3 v3 rfl
 have f4 : v4 = (.int .i64 (nm - 1)) := hF 4 v4 rfl
 have f5 : v5 = src2 := hF 5 v5 rfl
 have f7 : v7 = (.agg csy.toArray) := hF 7 v7 rfl
 subst f1
 subst f2
 subst f3
 subst f4
 subst f5
 subst f7
 subst hA9
 subst hA8
 subst hA7
 subst hA6
 subst hA5
 subst hA4
 subst hA3
 subst hA2
 subst hA1
 exact h v0 v6 v8 w' hC (hF 6 v6 rfl) (hF 8 v8 rfl)

-- LAWS END
end
end Go.Proofs.YtfbonocadpknbaaGreatDoor
