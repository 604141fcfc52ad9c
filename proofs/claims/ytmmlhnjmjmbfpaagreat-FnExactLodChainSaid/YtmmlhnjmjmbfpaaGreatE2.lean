/-
  Texts merged: MarkR, PlanE, ChainI. No condition beside those of the single theorems.
-/
import Derived.Test.YtmmlhnjmjmbfpaaGreatE1
import Derived.Test.YtmmlhnjmjmbfpaaGreatUnder
import Derived.Test.YtmmlhnjmjmbfpaaGreatTy
import Derived.Test.YtmmlhnjmjmbfpaaGreatReg
import Derived.Test.YtmmlhnjmjmbfpaaGreatRely
import Derived.Test.YtmmlhnjmjmbfpaaGreatUnderS
/-
  The walks of the laws' marks of references: what is written into a slice of the call's own, and that it is held; and of their comparison. Condition: the slice may be written, and is short.
-/
namespace Go.Proofs.YtmmlhnjmjmbfpaaGreat
set_option linter.unusedSimpArgs false
set_option linter.unusedVariables false
open Go.RowKit

/-- but one block all is as it was -/
structure OnlyAt (g : Nat) (w w' : World) : Prop where
  same : SameO w w'
  size : w.heap.size ≤ w'.heap.size
  out : ∀ b, b < w.heap.size → b ≠ g → w'.heap[b]? = w.heap[b]?
theorem OnlyAt.refl (g : Nat) (w : World) : OnlyAt g w w := ⟨SameO.refl _, Nat.le_refl _, fun _ _ _ => rfl⟩
theorem OnlyAt.call {g : Nat} {w w1 w2 : World} (h : OnlyAt g w w1) (hb : Below w1.heap.size w1 w2) : OnlyAt g w w2 := ⟨h.same.trans (SameO.of_below hb), Nat.le_trans h.size hb.size, fun b h1 h2 => (hb.block b (Nat.lt_of_lt_of_le h1 h.size)).trans (h.out b h1 h2)⟩
theorem OnlyAt.set {g : Nat} {w w1 : World} (h : OnlyAt g w w1) (o : Nat) (v : Value) : OnlyAt g w (w1.setCell ⟨g, o, none⟩ v) := ⟨h.same.trans ⟨rfl, rfl, rfl⟩, by simpa [World.setCell] using h.size, fun b h1 h2 => (Below.heap_setCell _ _ _ _ (by show b ≠ g; exact h2)).trans (h.out b h1 h2)⟩
theorem there_set {w : World} {g n o b : Nat} {v : Value} (h : w.there g 0 n) : (w.setCell ⟨b, o, none⟩ v).there g 0 n := fun j hj => by
  obtain ⟨t1, t2⟩ := h j hj
  have h3 := World.isSome_setCells b [v] o w ⟨g, 0 + j, none⟩ t1
  have h4 := World.frozen?_setCells b [v] o w ⟨g, 0 + j, none⟩
  exact ⟨h3, h4.trans t2⟩
theorem addr_ne {g a b : Nat} (h : a ≠ b) : (⟨g, a, none⟩ : Addr) ≠ ⟨g, b, none⟩ := fun e => h (congrArg Addr.off e)
/-- n references in a block are marked -/
def Marked (w : World) (g n : Nat) (k : Int) : Prop := ∀ i : Nat, i < n → w.cell? ⟨g, i * 2, none⟩ = some (.int .i64 (k + 2 * (i : Int))) ∧ w.cell? ⟨g, i * 2 + 1, none⟩ = some (.string (mText (k + 2 * (i : Int) + 1)))
theorem Marked.kept {w w' : World} {g n : Nat} {k : Int} (h : Marked w g n k) (hb : w'.heap[g]? = w.heap[g]?) : Marked w' g n k := fun i hi => by
  rw [cell_of_heap hb, cell_of_heap hb]; exact h i hi
theorem Marked.step {w : World} {g j n : Nat} {k : Int} (h : Marked w g j k) (ht : w.there g 0 (n * 2)) (hj : j < n) (u v : Value) (hu : u = .int .i64 (k + 2 * (j : Int))) (hv : v = .string (mText (k + 2 * (j : Int) + 1))) :
    Marked ((w.setCell ⟨g, j * 2, none⟩ u).setCell ⟨g, j * 2 + 1, none⟩ v) g (j + 1) k := fun i hi => by
  subst hu
  subst hv
  have t0 := (ht (j * 2) (by omega)).1
  have t1 := (ht (j * 2 + 1) (by omega)).1
  rw [Nat.zero_add] at t0 t1
  by_cases he : i = j
  · subst he
    constructor
    · rw [World.cell?_setCell_other _ _ _ _ (addr_ne (by omega))]
      obtain ⟨u0, hu0⟩ := Option.isSome_iff_exists.1 t0; exact World.cell?_setCell_same _ _ _ hu0
    · obtain ⟨u1, hu1⟩ := Option.isSome_iff_exists.1 (World.isSome_setCells g [.int .i64 (k + 2 * (i : Int))] (i * 2) w ⟨g, i * 2 + 1, none⟩ t1); exact World.cell?_setCell_same _ _ _ hu1
  · obtain ⟨h1, h2⟩ := h i (by omega)
    constructor
    · rw [World.cell?_setCell_other _ _ _ _ (addr_ne (by omega)), World.cell?_setCell_other _ _ _ _ (addr_ne (by omega))]; exact h1
    · rw [World.cell?_setCell_other _ _ _ _ (addr_ne (by omega)), World.cell?_setCell_other _ _ _ _ (addr_ne (by omega))]; exact h2

set_option maxRecDepth 100000 in
set_option maxHeartbeats 4000000 in
theorem L_markLodRefS (a : Option Addr) (g n cap : Nat) (k : Int) (w : World) (hn : n ≤ 1000) (h : 0 < n → a = some ⟨g, 0, none⟩ ∧ g < w.heap.size ∧ w.there g 0 (n * 2)) (hk : 1 ≤ k ∧ k ≤ 1000) :
    Calls Tryz.prog 14 #[.slice a n cap, .int .i64 k] w fun e w' => e = .returned (.int .i64 (k + 2 * (n : Int))) ∧ OnlyAt g w w' ∧ Marked w' g n k := by
  obtain ⟨k1, k2⟩ := hk
  refine calls_hide fun R HR => ?_
  go_enter Tryz.func14, Tryz.ntmps14
  go_wp2_with fail
  go_loopw [1, 5] (fun kv i wr => ∃ j : Nat, j ≤ n ∧ i = .int .i64 j ∧ kv = .int .i64 (k + 2 * (j : Int)) ∧ OnlyAt g w wr ∧ Marked wr g j k ∧ (0 < n → wr.there g 0 (n * 2))) (fun _ i _ => n - (intOf i).toNat)
  case atStart => exact ⟨0, Nat.zero_le _, rfl, by simp, OnlyAt.refl _ _, fun i hi => absurd hi (by omega), fun h0 => (h h0).2.2⟩
  case round =>
    obtain ⟨j, hj, rfl, rfl, ho, hm, ht⟩ := hrel
    by_cases hlt : j < n
    · obtain ⟨rfl, hg, -⟩ := h (by omega)
      have ht := ht (by omega)
      have hos := ho.size
      have HO := Lib.hid ho
      have HM := Lib.hid hm
      have HT := Lib.hid ht
      have t0 := ht (j * 2) (by omega)
      rw [Nat.zero_add] at t0
      obtain ⟨u0, hu0⟩ := Option.isSome_iff_exists.1 t0.1
      have hf0 := t0.2
      clear t0 ho hm ht h
      have hkj : k + 2 * (j : Int) ≤ 3000 := by omega
      go_wp2_with fail
      refine (L_markText _ _ ⟨by omega, by omega⟩).mono ?_
      rintro _ w1 ⟨rfl, d1⟩
      have t1 : w1.there g 0 (n * 2) := there_kept (there_set HT.out) (d1.block g (by simp [World.setCell]; omega))
      have t2 := t1 (j * 2 + 1) (by omega)
      rw [Nat.zero_add] at t2
      obtain ⟨u1, hu1⟩ := Option.isSome_iff_exists.1 t2.1
      have hf1 := t2.2
      have HO1 := Lib.hid ((HO.out.set (j * 2) (.int .i64 (k + 2 * (j : Int)))).call d1)
      have HM1 : Hid (Marked (w1.setCell ⟨g, j * 2 + 1, none⟩ (.string (mText (k + 2 * (j : Int) + 1)))) g (j + 1) k) := Lib.hid (by
        have h4 := HM.out.step HT.out hlt _ _ rfl rfl
        intro i hi
        have h5 := h4 i hi
        have hgz : g < (wr.setCell ⟨g, j * 2, none⟩ (.int .i64 (k + 2 * (j : Int)))).heap.size := by simp [World.setCell]; omega
        have hc : ∀ o, w1.cell? ⟨g, o, none⟩ = (wr.setCell ⟨g, j * 2, none⟩ (.int .i64 (k + 2 * (j : Int)))).cell? ⟨g, o, none⟩ := fun o => cell_of_heap (d1.block g hgz)
        by_cases he : i = j
        · subst he
          constructor
          · rw [World.cell?_setCell_other _ _ _ _ (addr_ne (by omega)), hc]
            rw [World.cell?_setCell_other _ _ _ _ (addr_ne (by omega))] at h5
            exact h5.1
          · exact World.cell?_setCell_same _ _ _ hu1
        · constructor
          · rw [World.cell?_setCell_other _ _ _ _ (addr_ne (by omega)), hc]
            rw [World.cell?_setCell_other _ _ _ _ (addr_ne (by omega))] at h5
            exact h5.1
          · rw [World.cell?_setCell_other _ _ _ _ (addr_ne (by omega)), hc]
            have h6 := h5.2
            rw [World.cell?_setCell_other _ _ _ _ (addr_ne (by omega))] at h6
            exact h6)
      have HT1 := Lib.hid t1
      clear t1 t2 d1
      go_wp2
      go_roundw
      case measure => simp [intOf]; omega
      case rel => exact ⟨j + 1, by omega, by go_num, by first | go_num | (congr 1; omega) | (simp; omega), HO1.out.set _ _, HM1.out, fun _ => there_set HT1.out⟩
    · obtain rfl : j = n := by omega
      go_wp2
      all_goals (try go_returns)
      all_goals exact HR.out _ _ ⟨rfl, ho, hm⟩

set_option maxRecDepth 100000 in
set_option maxHeartbeats 4000000 in
theorem L_heldLodRefS (a : Option Addr) (g n cap : Nat) (k : Int) (w : World) (hn : n ≤ 1000) (h : 0 < n → a = some ⟨g, 0, none⟩ ∧ g < w.heap.size) (hm : Marked w g n k) (hk : 1 ≤ k ∧ k ≤ 1000) :
    Calls Tryz.prog 15 #[.slice a n cap, .int .i64 k] w fun e w' => e = .returned (.int .i64 (k + 2 * (n : Int))) ∧ Below w.heap.size w w' := by
  obtain ⟨k1, k2⟩ := hk
  have HM := Lib.hid hm
  clear hm
  refine calls_hide fun R HR => ?_
  go_enter Tryz.func15, Tryz.ntmps15
  go_wp2_with fail
  go_loopw [1, 5] (fun kv i wr => ∃ j : Nat, j ≤ n ∧ i = .int .i64 j ∧ kv = .int .i64 (k + 2 * (j : Int)) ∧ Below w.heap.size w wr) (fun _ i _ => n - (intOf i).toNat)
  case atStart => exact ⟨0, Nat.zero_le _, rfl, by simp, by (repeat' (first | (with_reducible exact Below.refl _ _) | (with_reducible refine Below.alloc ?_ ?_ _) | (with_reducible refine Below.setCell ?_ ?_ _) | (with_reducible refine Below.drew ?_) | (refine below_hyp (by assumption) ?_ ?_) | go_size))⟩
  case round =>
    obtain ⟨j, hj, rfl, rfl, hb⟩ := hrel
    have hbs := hb.size
    by_cases hlt : j < n
    · obtain ⟨rfl, hg⟩ := h (by omega)
      obtain ⟨p0, p1⟩ := HM.out j hlt
      replace p0 := keep_cell hb p0
      replace p1 := keep_cell hb p1
      clear h
      have hkj : k + 2 * (j : Int) ≤ 3000 := by omega
      have MT : ∀ y : In wr, Calls Tryz.prog 27 #[.int .i64 (k + 2 * (j : Int) + 1)] y.x fun e w' => e = .returned (.string (mText (k + 2 * (j : Int) + 1))) ∧ Below y.x.heap.size y.x w' := fun y => L_markText _ _ ⟨by omega, by omega⟩
      have P1 := In.cell p1
      go_wp2_with fail
      refine wp_region_in (by kernel_rfl) (by kernel_rfl) ?_
      repeat (go_big_quiet_step (first | (go_at_call 27; exact Calls.ins (MT _))))
      refine wpQuiet_nil ?_
      rintro wZ ⟨⟨wE, hwE⟩, hq⟩
      obtain rfl : wE = wZ := hq.symm
      clear hq
      have hwEs := hwE.size
      (try dsimp only)
      go_wp2
      go_roundw
      case measure => simp [intOf]; omega
      case rel => exact ⟨j + 1, by omega, by go_num, by first | go_num | (congr 1; omega) | (simp; omega), by (repeat' (first | (with_reducible exact Below.refl _ _) | (with_reducible refine Below.alloc ?_ ?_ _) | (with_reducible refine Below.setCell ?_ ?_ _) | (with_reducible refine Below.drew ?_) | (refine below_hyp (by assumption) ?_ ?_) | go_size))⟩
    · obtain rfl : j = n := by omega
      go_wp2
      all_goals (try go_returns)
      all_goals exact HR.out _ _ ⟨rfl, hb⟩

set_option maxHeartbeats 2000000 in
theorem L_eqLodRef (x : DLodRef) (w : World) :
    Calls Tryz.prog 24 #[.agg #[.int .i64 x.fKeeper, .string x.fName], .agg #[.int .i64 x.fKeeper, .string x.fName]] w fun e w' => e = .returned (.bool true) ∧ Below w.heap.size w w' := by
  refine calls_hide fun R HR => ?_
  go_enter Tryz.func24, Tryz.ntmps24
  go_wp2
  all_goals (try go_returns)
  all_goals exact HR.out _ _ ⟨rfl, by (repeat' (first | (with_reducible exact Below.refl _ _) | (with_reducible refine Below.alloc ?_ ?_ _) | (with_reducible refine Below.setCell ?_ ?_ _) | (with_reducible refine Below.drew ?_) | (refine below_hyp (by assumption) ?_ ?_) | go_size))⟩
theorem Refs.at' {w : World} {base : Nat} {v : Value} {rs : List DLodRef} (h : Refs w base v rs) (h0 : 0 < rs.length) : ∃ g cap, v = .slice (some ⟨g, 0, none⟩) rs.length cap ∧ g < w.heap.size ∧ rs.length ≤ cap ∧ cap ≤ maxLen ∧ ∀ k x, rs[k]? = some x → w.cell? ⟨g, k * 2, none⟩ = some (.int .i64 x.fKeeper) ∧ w.cell? ⟨g, k * 2 + 1, none⟩ = some (.string x.fName) := by
  obtain ⟨g, cap, rfl, h1, h2, h3, h4, _⟩ := own_cell h h0
  exact ⟨g, cap, rfl, h2, h3, h4, fun k x hk => h.cell2 hk⟩

set_option maxHeartbeats 4000000 in
theorem L_eqLodRefS (va vb : Value) (rs : List DLodRef) (ba bb : Nat) (w : World) (h1 : Refs w ba va rs) (h2 : Refs w bb vb rs) :
    Calls Tryz.prog 11 #[va, vb] w fun e w' => e = .returned (.bool true) ∧ Below w.heap.size w w' := by
  obtain ⟨a1, c1, rfl, hc1, hm1⟩ := own_form h1
  obtain ⟨a2, c2, rfl, hc2, hm2⟩ := own_form h2
  have hl : rs.length ≤ 9223372036854775807 := by unfold maxLen at hm1; omega
  have H1 := Lib.hid h1
  have H2 := Lib.hid h2
  obtain ⟨n, hn⟩ : ∃ n, rs.length = n := ⟨_, rfl⟩
  rw [hn] at hl hc1 hc2 ⊢
  have HN := Lib.hid hn
  clear h1 h2 hn
  refine calls_hide fun R HR => ?_
  go_enter Tryz.func11, Tryz.ntmps11
  go_wp2_with fail
  go_loopw [5] (fun z wr => ∃ k : Nat, k ≤ n ∧ z = .int .i64 k ∧ Below w.heap.size w wr) (fun z _ => n - (intOf z).toNat)
  case atStart => exact ⟨0, Nat.zero_le _, rfl, by (repeat' (first | (with_reducible exact Below.refl _ _) | (with_reducible refine Below.alloc ?_ ?_ _) | (with_reducible refine Below.setCell ?_ ?_ _) | (with_reducible refine Below.drew ?_) | (refine below_hyp (by assumption) ?_ ?_) | go_size))⟩
  case round =>
    obtain ⟨k, hk, rfl, hb⟩ := hrel
    have hbs := hb.size
    by_cases hlt : k < n
    · have hlt2 : (k : Int) < (n : Int) := by omega
      obtain ⟨x, hx⟩ : ∃ x, rs[k]? = some x := ⟨_, List.getElem?_eq_getElem (by have := HN.out; omega)⟩
      obtain ⟨g1, d1, e1, l1, _, _, r1⟩ := (H1.out.below hb).at' (by have := HN.out; omega)
      obtain ⟨g2, d2, e2, l2, _, _, r2⟩ := (H2.out.below hb).at' (by have := HN.out; omega)
      cases e1
      cases e2
      obtain ⟨p1, p2⟩ := r1 k x hx
      obtain ⟨p3, p4⟩ := r2 k x hx
      have EQ : ∀ y : In wr, Calls Tryz.prog 24 #[.agg #[.int .i64 x.fKeeper, .string x.fName], .agg #[.int .i64 x.fKeeper, .string x.fName]] y.x fun e w' => e = .returned (.bool true) ∧ Below y.x.heap.size y.x w' := fun y => L_eqLodRef x _
      have P1 := In.cell p1
      have P2 := In.cell p2
      have P3 := In.cell p3
      have P4 := In.cell p4
      clear r1 r2 hx
      go_wp2_with fail
      refine wp_region_in (by kernel_rfl) (by kernel_rfl) ?_
      repeat (go_big_quiet_step (first | (go_at_call 24; exact Calls.ins (EQ _))))
      refine wpQuiet_nil ?_
      rintro wZ ⟨⟨wE, hwE⟩, hq⟩
      obtain rfl : wE = wZ := hq.symm
      clear hq
      have hwEs := hwE.size
      (try dsimp only)
      go_wp2
      go_roundw
      case measure => simp [intOf]; omega
      case rel => exact ⟨k + 1, by omega, by go_num, by (repeat' (first | (with_reducible exact Below.refl _ _) | (with_reducible refine Below.alloc ?_ ?_ _) | (with_reducible refine Below.setCell ?_ ?_ _) | (with_reducible refine Below.drew ?_) | (refine below_hyp (by assumption) ?_ ?_) | go_size))⟩
    · obtain rfl : k = n := by omega
      go_wp2
      all_goals (try go_returns)
      all_goals exact HR.out _ _ ⟨rfl, by (repeat' (first | (with_reducible exact Below.refl _ _) | (with_reducible refine Below.alloc ?_ ?_ _) | (with_reducible refine Below.setCell ?_ ?_ _) | (with_reducible refine Below.drew ?_) | (refine below_hyp (by assumption) ?_ ?_) | go_size))⟩

end Go.Proofs.YtmmlhnjmjmbfpaaGreat

/-
  What a mark leaves of what lies elsewhere; how long a chain is. No condition.
-/
namespace Go.Proofs.YtmmlhnjmjmbfpaaGreat
set_option linter.unusedSimpArgs false
set_option linter.unusedVariables false
open Go.RowKit

def noDeadE (i j : Nat) : Bool := false
theorem noDeadE_dead {l : List Oper} {n : Nat} : DeadF noDeadE l n := fun _ _ _ _ h => by cases h
theorem chainF_lenX {p : DLodPlan} : ∀ (f : Nat) (r : DLodRef) (rs : List DLodRef), chainF p f r = some rs → rs.length ≤ f
  | 0, _, _, h => by simp [chainF] at h
  | f + 1, r, rs, h => by
    unfold chainF at h
    cases hc : clsAt p r with
    | none => rw [hc] at h; simp at h
    | some c =>
      rw [hc] at h
      simp only at h
      split at h
      · cases h; simp
      · split at h
        · obtain ⟨t, ht, rfl⟩ := Option.map_eq_some_iff.1 h
          have := chainF_lenX f _ t ht
          simp; omega
        · cases h
theorem lodChain_len (p : DLodPlan) (r : DLodRef) : (lodChain p r).length ≤ 6 := by
  unfold lodChain
  split
  · split
    · cases h : chainR p r with
      | none => simp
      | some rs => exact chainF_lenX 6 r rs h
    · simp
  · simp
theorem Refs.ownLt {w : World} {base : Nat} {v : Value} {rs : List DLodRef} (h : Refs w base v rs) {g : Nat} (hg : v.ownBlock = some g) : g < w.heap.size := by
  obtain ⟨_, h⟩ := h
  rcases h with ⟨h1, _⟩ | ⟨b, cap, cur, h1, h2, h3, _⟩
  · rw [h1] at hg; cases hg
  · rw [h1] at hg; cases hg; exact (Array.getElem?_eq_some_iff.1 h3).1
theorem Refs.ownGe {w : World} {base : Nat} {v : Value} {rs : List DLodRef} (h : Refs w base v rs) {g : Nat} (hg : v.ownBlock = some g) : base ≤ g := by
  obtain ⟨_, h⟩ := h
  rcases h with ⟨h1, _⟩ | ⟨b, cap, cur, h1, h2, h3, _⟩
  · rw [h1] at hg; cases hg
  · rw [h1] at hg; cases hg; exact h2
/-- the block that a mark turns -/
theorem Refs.forMark {w : World} {base : Nat} {a : Option Addr} {c : Nat} {rs : List DLodRef} (h : Refs w base (.slice a rs.length c) rs) (hb : base ≤ w.heap.size) : ∃ g, base ≤ g ∧ (0 < rs.length → a = some ⟨g, 0, none⟩ ∧ g < w.heap.size ∧ w.there g 0 (rs.length * 2)) := by
  by_cases h0 : 0 < rs.length
  · obtain ⟨g, cap, e, h1, h2, h3, h4, h5, h6⟩ := own_cell h h0
    cases e
    refine ⟨g, h1, fun _ => ⟨rfl, h2, fun j hj => ⟨?_, h6 _⟩⟩⟩
    rw [Nat.zero_add]
    have hl := flatR_len rs
    have hj2 : j < (flatR rs).length := by omega
    have := h5 j _ (List.getElem?_eq_getElem hj2)
    rw [this]; rfl
  · exact ⟨w.heap.size, hb, fun h1 => absurd h1 h0⟩
theorem MK.low {lo hi B : Nat} {w0 w w' : World} (h : MK lo hi w w') (hb : Below B w0 w) (hl : B ≤ lo) (hB : B ≤ w.heap.size) : Below B w0 w' := by
  refine ⟨h.same.1.trans hb.os, h.same.2.1.trans hb.tape, h.same.2.2.trans hb.output, Nat.le_trans hb.size h.size, fun b hlt => ?_⟩
  exact (h.out b (by omega) (Or.inl (by omega))).trans (hb.block b hlt)
theorem OnlyAt.low {g B : Nat} {w0 w w' : World} (h : OnlyAt g w w') (hb : Below B w0 w) (hl : B ≤ g ∧ B ≤ w.heap.size) : Below B w0 w' := by
  refine ⟨h.same.1.trans hb.os, h.same.2.1.trans hb.tape, h.same.2.2.trans hb.output, Nat.le_trans hb.size h.size, fun b hlt => ?_⟩
  exact (h.out b (by omega) (by omega)).trans (hb.block b hlt)
theorem OnlyAt.cell {g : Nat} {w w' : World} (h : OnlyAt g w w') {b o : Nat} {v : Value} (hb : b < w.heap.size) (hne : b ≠ g) (hc : w.cell? ⟨b, o, none⟩ = some v) : w'.cell? ⟨b, o, none⟩ = some v := (cell_of_heap (h.out b hb hne)).trans hc
theorem Marked.below {w w' : World} {g n : Nat} {k : Int} (h : Marked w g n k) (hg : 0 < n → g < w.heap.size) (hb : Below w.heap.size w w') : Marked w' g n k := fun i hi => by
  have := hb.block g (hg (by omega))
  rw [cell_of_heap this, cell_of_heap this]; exact h i hi

end Go.Proofs.YtmmlhnjmjmbfpaaGreat

/-
  The walk of the program's LodChain. Condition: the data can be read.
-/
namespace Go.Proofs.YtmmlhnjmjmbfpaaGreat
set_option linter.unusedSimpArgs false
set_option linter.unusedVariables false
open Go.RowKit

set_option maxRecDepth 100000 in
set_option maxHeartbeats 8000000 in
theorem I_LodChain (x : DLodPlan) (v1 : Value) (r : DLodRef) (w : World) (s1 : Sl 2 rLodKeeper 0 w v1 x.fKeepers) (hn : r.fName.size ≤ maxLen) :
    Calls Tryz.prog 10 #[.agg #[v1], .agg #[.int .i64 r.fKeeper, .string r.fName]] w fun e w' => (∃ v, e = .returned v ∧ Refs w' w.heap.size v (lodChain x r)) ∧ Below w.heap.size w w' := by
  obtain ⟨a, len, cap, rfl⟩ := s1.form
  refine calls_hide fun R HR => ?_
  go_enter Tryz.func10, Tryz.ntmps10
  go_wp2_with fail
  refine (I_newLodge x _ _ (s1.stays rLodKeeper_good (Keeps.of_below' (B := w.heap.size) (by (repeat' (first | (with_reducible exact Below.refl _ _) | (with_reducible refine Below.alloc ?_ ?_ _) | (with_reducible refine Below.setCell ?_ ?_ _) | (with_reducible refine Below.drew ?_) | (refine below_hyp (by assumption) ?_ ?_) | go_size))) (Nat.le_refl _)))).mono ?_
  rintro _ wA ⟨hA, hq⟩
  have hEA : Below w.heap.size w wA := by (repeat' (first | (with_reducible exact Below.refl _ _) | (with_reducible refine Below.alloc ?_ ?_ _) | (with_reducible refine Below.setCell ?_ ?_ _) | (with_reducible refine Below.drew ?_) | (refine below_hyp (by assumption) ?_ ?_) | go_size))
  have hAs := (hA).size; (try simp only [World.size_alloc, World.size_setCell, World.size_drew] at hAs)
  obtain ⟨hAac, hAad, hAao, hAaf, hAag, hAap, hAaz, hAax, hAay⟩ := bfacts (n := w.heap.size) (k := 2) hA (by go_size) (by go_size); replace hAad := hAad (by decide); replace hAag := hAag (by decide); replace hAax := hAax (by decide); have hAac1 := fun o => hAac 1 o (by decide); have hAaf1 := fun o => hAaf 1 o (by decide); have hAaz1 := hAaz 1 (by decide); clear hAac hAaf hAaz
  rcases hq with ⟨hno, rfl⟩ | ⟨hy, L, rfl, hL⟩
  · have RV : Hid (lodChain x r = []) := Lib.hid (by unfold lodChain; rw [lodFind_no hno]; rfl)
    clear hno
    go_wp2
    all_goals (try go_returns)
    all_goals exact HR.out _ _ ⟨⟨_, rfl, by rw [RV.out]; exact ⟨by simp [flatR], Or.inl ⟨rfl, rfl⟩⟩⟩, by (repeat' (first | (with_reducible exact Below.refl _ _) | (with_reducible refine Below.alloc ?_ ?_ _) | (with_reducible refine Below.setCell ?_ ?_ _) | (with_reducible refine Below.drew ?_) | (refine below_hyp (by assumption) ?_ ?_) | go_size))⟩
  · have HL := Lib.hid hL
    have HY := Lib.hid hy
    clear hL hy
    go_wp2_with fail
    refine (I_chain x L r _ HL.out HY.out hn).mono ?_
    rintro _ wB ⟨⟨v, rfl, hv⟩, hB⟩
    have hBs := (hB).size; (try simp only [World.size_alloc, World.size_setCell, World.size_drew] at hBs)
    have HV := Lib.hid (hv.low (base' := w.heap.size) (by omega))
    clear hv
    go_wp2
    all_goals (try go_returns)
    all_goals exact HR.out _ _ ⟨⟨_, rfl, HV.out⟩, by (repeat' (first | (with_reducible exact Below.refl _ _) | (with_reducible refine Below.alloc ?_ ?_ _) | (with_reducible refine Below.setCell ?_ ?_ _) | (with_reducible refine Below.drew ?_) | (refine below_hyp (by assumption) ?_ ?_) | go_size))⟩


end Go.Proofs.YtmmlhnjmjmbfpaaGreat
