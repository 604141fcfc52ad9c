/-
  Texts merged: MarkR, PlanE, ChainI, PlanS, PlanI. No condition beside those of the single theorems.
-/
import Derived.Test.YtmmlhnjmjmbfpaaGreatG1
import Derived.Test.YtmmlhnjmjmbfpaaGreatUnder
import Derived.Test.YtmmlhnjmjmbfpaaGreatTy
import Derived.Test.YtmmlhnjmjmbfpaaGreatReg
import Derived.Test.YtmmlhnjmjmbfpaaGreatRely
import Derived.Test.YtmmlhnjmjmbfpaaGreatUnderS
import Derived.Test.YtmmlhnjmjmbfpaaGreatApp
/-
  The walks of the laws' marks of references: what is written into a slice of the call's own, and that it is held; and of their comparison. Condition: the slice may be written, and is short.
-/
namespace Go.Proofs.YtmmlhnjmjmbfpaaGreat
set_option linter.unusedSimpArgs false
set_option linter.unusedVariables false
open Go.RowKit

/-- but one block all is as it was -/
structure OnlyAt (g : Nat) (w w' : World) : Prop where
  same : SameO w w'
  size : w.heap.size ≤ w'.heap.size
  out : ∀ b, b < w.heap.size → b ≠ g → w'.heap[b]? = w.heap[b]?
theorem OnlyAt.refl (g : Nat) (w : World) : OnlyAt g w w := ⟨SameO.refl _, Nat.le_refl _, fun _ _ _ => rfl⟩
theorem OnlyAt.call {g : Nat} {w w1 w2 : World} (h : OnlyAt g w w1) (hb : Below w1.heap.size w1 w2) : OnlyAt g w w2 := ⟨h.same.trans (SameO.of_below hb), Nat.le_trans h.size hb.size, fun b h1 h2 => (hb.block b (Nat.lt_of_lt_of_le h1 h.size)).trans (h.out b h1 h2)⟩
theorem OnlyAt.set {g : Nat} {w w1 : World} (h : OnlyAt g w w1) (o : Nat) (v : Value) : OnlyAt g w (w1.setCell ⟨g, o, none⟩ v) := ⟨h.same.trans ⟨rfl, rfl, rfl⟩, by simpa [World.setCell] using h.size, fun b h1 h2 => (Below.heap_setCell _ _ _ _ (by show b ≠ g; exact h2)).trans (h.out b h1 h2)⟩
theorem there_set {w : World} {g n o b : Nat} {v : Value} (h : w.there g 0 n) : (w.setCell ⟨b, o, none⟩ v).there g 0 n := fun j hj => by
  obtain ⟨t1, t2⟩ := h j hj
  have h3 := World.isSome_setCells b [v] o w ⟨g, 0 + j, none⟩ t1
  have h4 := World.frozen?_setCells b [v] o w ⟨g, 0 + j, none⟩
  exact ⟨h3, h4.trans t2⟩
theorem addr_ne {g a b : Nat} (h : a ≠ b) : (⟨g, a, none⟩ : Addr) ≠ ⟨g, b, none⟩ := fun e => h (congrArg Addr.off e)
/-- n references in a block are marked -/
def Marked (w : World) (g n : Nat) (k : Int) : Prop := ∀ i : Nat, i < n → w.cell? ⟨g, i * 2, none⟩ = some (.int .i64 (k + 2 * (i : Int))) ∧ w.cell? ⟨g, i * 2 + 1, none⟩ = some (.string (mText (k + 2 * (i : Int) + 1)))
theorem Marked.kept {w w' : World} {g n : Nat} {k : Int} (h : Marked w g n k) (hb : w'.heap[g]? = w.heap[g]?) : Marked w' g n k := fun i hi => by
  rw [cell_of_heap hb, cell_of_heap hb]; exact h i hi
theorem Marked.step {w : World} {g j n : Nat} {k : Int} (h : Marked w g j k) (ht : w.there g 0 (n * 2)) (hj : j < n) (u v : Value) (hu : u = .int .i64 (k + 2 * (j : Int))) (hv : v = .string (mText (k + 2 * (j : Int) + 1))) :
    Marked ((w.setCell ⟨g, j * 2, none⟩ u).setCell ⟨g, j * 2 + 1, none⟩ v) g (j + 1) k := fun i hi => by
  subst hu
  subst hv
  have t0 := (ht (j * 2) (by omega)).1
  have t1 := (ht (j * 2 + 1) (by omega)).1
  rw [Nat.zero_add] at t0 t1
  by_cases he : i = j
  · subst he
    constructor
    · rw [World.cell?_setCell_other _ _ _ _ (addr_ne (by omega))]
      obtain ⟨u0, hu0⟩ := Option.isSome_iff_exists.1 t0; exact World.cell?_setCell_same _ _ _ hu0
    · obtain ⟨u1, hu1⟩ := Option.isSome_iff_exists.1 (World.isSome_setCells g [.int .i64 (k + 2 * (i : Int))] (i * 2) w ⟨g, i * 2 + 1, none⟩ t1); exact World.cell?_setCell_same _ _ _ hu1
  · obtain ⟨h1, h2⟩ := h i (by omega)
    constructor
    · rw [World.cell?_setCell_other _ _ _ _ (addr_ne (by omega)), World.cell?_setCell_other _ _ _ _ (addr_ne (by omega))]; exact h1
    · rw [World.cell?_setCell_other _ _ _ _ (addr_ne (by omega)), World.cell?_setCell_other _ _ _ _ (addr_ne (by omega))]; exact h2

set_option maxRecDepth 100000 in
set_option maxHeartbeats 4000000 in
theorem L_markLodRefS (a : Option Addr) (g n cap : Nat) (k : Int) (w : World) (hn : n ≤ 1000) (h : 0 < n → a = some ⟨g, 0, none⟩ ∧ g < w.heap.size ∧ w.there g 0 (n * 2)) (hk : 1 ≤ k ∧ k ≤ 1000) :
    Calls Tryz.prog 14 #[.slice a n cap, .int .i64 k] w fun e w' => e = .returned (.int .i64 (k + 2 * (n : Int))) ∧ OnlyAt g w w' ∧ Marked w' g n k := by
  obtain ⟨k1, k2⟩ := hk
  refine calls_hide fun R HR => ?_
  go_enter Tryz.func14, Tryz.ntmps14
  go_wp2_with fail
  go_loopw [1, 5] (fun kv i wr => ∃ j : Nat, j ≤ n ∧ i = .int .i64 j ∧ kv = .int .i64 (k + 2 * (j : Int)) ∧ OnlyAt g w wr ∧ Marked wr g j k ∧ (0 < n → wr.there g 0 (n * 2))) (fun _ i _ => n - (intOf i).toNat)
  case atStart => exact ⟨0, Nat.zero_le _, rfl, by simp, OnlyAt.refl _ _, fun i hi => absurd hi (by omega), fun h0 => (h h0).2.2⟩
  case round =>
    obtain ⟨j, hj, rfl, rfl, ho, hm, ht⟩ := hrel
    by_cases hlt : j < n
    · obtain ⟨rfl, hg, -⟩ := h (by omega)
      have ht := ht (by omega)
      have hos := ho.size
      have HO := Lib.hid ho
      have HM := Lib.hid hm
      have HT := Lib.hid ht
      have t0 := ht (j * 2) (by omega)
      rw [Nat.zero_add] at t0
      obtain ⟨u0, hu0⟩ := Option.isSome_iff_exists.1 t0.1
      have hf0 := t0.2
      clear t0 ho hm ht h
      have hkj : k + 2 * (j : Int) ≤ 3000 := by omega
      go_wp2_with fail
      refine (L_markText _ _ ⟨by omega, by omega⟩).mono ?_
      rintro _ w1 ⟨rfl, d1⟩
      have t1 : w1.there g 0 (n * 2) := there_kept (there_set HT.out) (d1.block g (by simp [World.setCell]; omega))
      have t2 := t1 (j * 2 + 1) (by omega)
      rw [Nat.zero_add] at t2
      obtain ⟨u1, hu1⟩ := Option.isSome_iff_exists.1 t2.1
      have hf1 := t2.2
      have HO1 := Lib.hid ((HO.out.set (j * 2) (.int .i64 (k + 2 * (j : Int)))).call d1)
      have HM1 : Hid (Marked (w1.setCell ⟨g, j * 2 + 1, none⟩ (.string (mText (k + 2 * (j : Int) + 1)))) g (j + 1) k) := Lib.hid (by
        have h4 := HM.out.step HT.out hlt _ _ rfl rfl
        intro i hi
        have h5 := h4 i hi
        have hgz : g < (wr.setCell ⟨g, j * 2, none⟩ (.int .i64 (k + 2 * (j : Int)))).heap.size := by simp [World.setCell]; omega
        have hc : ∀ o, w1.cell? ⟨g, o, none⟩ = (wr.setCell ⟨g, j * 2, none⟩ (.int .i64 (k + 2 * (j : Int)))).cell? ⟨g, o, none⟩ := fun o => cell_of_heap (d1.block g hgz)
        by_cases he : i = j
        · subst he
          constructor
          · rw [World.cell?_setCell_other _ _ _ _ (addr_ne (by omega)), hc]
            rw [World.cell?_setCell_other _ _ _ _ (addr_ne (by omega))] at h5
            exact h5.1
          · exact World.cell?_setCell_same _ _ _ hu1
        · constructor
          · rw [World.cell?_setCell_other _ _ _ _ (addr_ne (by omega)), hc]
            rw [World.cell?_setCell_other _ _ _ _ (addr_ne (by omega))] at h5
            exact h5.1
          · rw [World.cell?_setCell_other _ _ _ _ (addr_ne (by omega)), hc]
            have h6 := h5.2
            rw [World.cell?_setCell_other _ _ _ _ (addr_ne (by omega))] at h6
            exact h6)
      have HT1 := Lib.hid t1
      clear t1 t2 d1
      go_wp2
      go_roundw
      case measure => simp [intOf]; omega
      case rel => exact ⟨j + 1, by omega, by go_num, by first | go_num | (congr 1; omega) | (simp; omega), HO1.out.set _ _, HM1.out, fun _ => there_set HT1.out⟩
    · obtain rfl : j = n := by omega
      go_wp2
      all_goals (try go_returns)
      all_goals exact HR.out _ _ ⟨rfl, ho, hm⟩

set_option maxRecDepth 100000 in
set_option maxHeartbeats 4000000 in
theorem L_heldLodRefS (a : Option Addr) (g n cap : Nat) (k : Int) (w : World) (hn : n ≤ 1000) (h : 0 < n → a = some ⟨g, 0, none⟩ ∧ g < w.heap.size) (hm : Marked w g n k) (hk : 1 ≤ k ∧ k ≤ 1000) :
    Calls Tryz.prog 15 #[.slice a n cap, .int .i64 k] w fun e w' => e = .returned (.int .i64 (k + 2 * (n : Int))) ∧ Below w.heap.size w w' := by
  obtain ⟨k1, k2⟩ := hk
  have HM := Lib.hid hm
  clear hm
  refine calls_hide fun R HR => ?_
  go_enter Tryz.func15, Tryz.ntmps15
  go_wp2_with fail
  go_loopw [1, 5] (fun kv i wr => ∃ j : Nat, j ≤ n ∧ i = .int .i64 j ∧ kv = .int .i64 (k + 2 * (j : Int)) ∧ Below w.heap.size w wr) (fun _ i _ => n - (intOf i).toNat)
  case atStart => exact ⟨0, Nat.zero_le _, rfl, by simp, by (repeat' (first | (with_reducible exact Below.refl _ _) | (with_reducible refine Below.alloc ?_ ?_ _) | (with_reducible refine Below.setCell ?_ ?_ _) | (with_reducible refine Below.drew ?_) | (refine below_hyp (by assumption) ?_ ?_) | go_size))⟩
  case round =>
    obtain ⟨j, hj, rfl, rfl, hb⟩ := hrel
    have hbs := hb.size
    by_cases hlt : j < n
    · obtain ⟨rfl, hg⟩ := h (by omega)
      obtain ⟨p0, p1⟩ := HM.out j hlt
      replace p0 := keep_cell hb p0
      replace p1 := keep_cell hb p1
      clear h
      have hkj : k + 2 * (j : Int) ≤ 3000 := by omega
      have MT : ∀ y : In wr, Calls Tryz.prog 27 #[.int .i64 (k + 2 * (j : Int) + 1)] y.x fun e w' => e = .returned (.string (mText (k + 2 * (j : Int) + 1))) ∧ Below y.x.heap.size y.x w' := fun y => L_markText _ _ ⟨by omega, by omega⟩
      have P1 := In.cell p1
      go_wp2_with fail
      refine wp_region_in (by kernel_rfl) (by kernel_rfl) ?_
      repeat (go_big_quiet_step (first | (go_at_call 27; exact Calls.ins (MT _))))
      refine wpQuiet_nil ?_
      rintro wZ ⟨⟨wE, hwE⟩, hq⟩
      obtain rfl : wE = wZ := hq.symm
      clear hq
      have hwEs := hwE.size
      (try dsimp only)
      go_wp2
      go_roundw
      case measure => simp [intOf]; omega
      case rel => exact ⟨j + 1, by omega, by go_num, by first | go_num | (congr 1; omega) | (simp; omega), by (repeat' (first | (with_reducible exact Below.refl _ _) | (with_reducible refine Below.alloc ?_ ?_ _) | (with_reducible refine Below.setCell ?_ ?_ _) | (with_reducible refine Below.drew ?_) | (refine below_hyp (by assumption) ?_ ?_) | go_size))⟩
    · obtain rfl : j = n := by omega
      go_wp2
      all_goals (try go_returns)
      all_goals exact HR.out _ _ ⟨rfl, hb⟩

set_option maxHeartbeats 2000000 in
theorem L_eqLodRef (x : DLodRef) (w : World) :
    Calls Tryz.prog 24 #[.agg #[.int .i64 x.fKeeper, .string x.fName], .agg #[.int .i64 x.fKeeper, .string x.fName]] w fun e w' => e = .returned (.bool true) ∧ Below w.heap.size w w' := by
  refine calls_hide fun R HR => ?_
  go_enter Tryz.func24, Tryz.ntmps24
  go_wp2
  all_goals (try go_returns)
  all_goals exact HR.out _ _ ⟨rfl, by (repeat' (first | (with_reducible exact Below.refl _ _) | (with_reducible refine Below.alloc ?_ ?_ _) | (with_reducible refine Below.setCell ?_ ?_ _) | (with_reducible refine Below.drew ?_) | (refine below_hyp (by assumption) ?_ ?_) | go_size))⟩
theorem Refs.at' {w : World} {base : Nat} {v : Value} {rs : List DLodRef} (h : Refs w base v rs) (h0 : 0 < rs.length) : ∃ g cap, v = .slice (some ⟨g, 0, none⟩) rs.length cap ∧ g < w.heap.size ∧ rs.length ≤ cap ∧ cap ≤ maxLen ∧ ∀ k x, rs[k]? = some x → w.cell? ⟨g, k * 2, none⟩ = some (.int .i64 x.fKeeper) ∧ w.cell? ⟨g, k * 2 + 1, none⟩ = some (.string x.fName) := by
  obtain ⟨g, cap, rfl, h1, h2, h3, h4, _⟩ := own_cell h h0
  exact ⟨g, cap, rfl, h2, h3, h4, fun k x hk => h.cell2 hk⟩

set_option maxHeartbeats 4000000 in
theorem L_eqLodRefS (va vb : Value) (rs : List DLodRef) (ba bb : Nat) (w : World) (h1 : Refs w ba va rs) (h2 : Refs w bb vb rs) :
    Calls Tryz.prog 11 #[va, vb] w fun e w' => e = .returned (.bool true) ∧ Below w.heap.size w w' := by
  obtain ⟨a1, c1, rfl, hc1, hm1⟩ := own_form h1
  obtain ⟨a2, c2, rfl, hc2, hm2⟩ := own_form h2
  have hl : rs.length ≤ 9223372036854775807 := by unfold maxLen at hm1; omega
  have H1 := Lib.hid h1
  have H2 := Lib.hid h2
  obtain ⟨n, hn⟩ : ∃ n, rs.length = n := ⟨_, rfl⟩
  rw [hn] at hl hc1 hc2 ⊢
  have HN := Lib.hid hn
  clear h1 h2 hn
  refine calls_hide fun R HR => ?_
  go_enter Tryz.func11, Tryz.ntmps11
  go_wp2_with fail
  go_loopw [5] (fun z wr => ∃ k : Nat, k ≤ n ∧ z = .int .i64 k ∧ Below w.heap.size w wr) (fun z _ => n - (intOf z).toNat)
  case atStart => exact ⟨0, Nat.zero_le _, rfl, by (repeat' (first | (with_reducible exact Below.refl _ _) | (with_reducible refine Below.alloc ?_ ?_ _) | (with_reducible refine Below.setCell ?_ ?_ _) | (with_reducible refine Below.drew ?_) | (refine below_hyp (by assumption) ?_ ?_) | go_size))⟩
  case round =>
    obtain ⟨k, hk, rfl, hb⟩ := hrel
    have hbs := hb.size
    by_cases hlt : k < n
    · have hlt2 : (k : Int) < (n : Int) := by omega
      obtain ⟨x, hx⟩ : ∃ x, rs[k]? = some x := ⟨_, List.getElem?_eq_getElem (by have := HN.out; omega)⟩
      obtain ⟨g1, d1, e1, l1, _, _, r1⟩ := (H1.out.below hb).at' (by have := HN.out; omega)
      obtain ⟨g2, d2, e2, l2, _, _, r2⟩ := (H2.out.below hb).at' (by have := HN.out; omega)
      cases e1
      cases e2
      obtain ⟨p1, p2⟩ := r1 k x hx
      obtain ⟨p3, p4⟩ := r2 k x hx
      have EQ : ∀ y : In wr, Calls Tryz.prog 24 #[.agg #[.int .i64 x.fKeeper, .string x.fName], .agg #[.int .i64 x.fKeeper, .string x.fName]] y.x fun e w' => e = .returned (.bool true) ∧ Below y.x.heap.size y.x w' := fun y => L_eqLodRef x _
      have P1 := In.cell p1
      have P2 := In.cell p2
      have P3 := In.cell p3
      have P4 := In.cell p4
      clear r1 r2 hx
      go_wp2_with fail
      refine wp_region_in (by kernel_rfl) (by kernel_rfl) ?_
      repeat (go_big_quiet_step (first | (go_at_call 24; exact Calls.ins (EQ _))))
      refine wpQuiet_nil ?_
      rintro wZ ⟨⟨wE, hwE⟩, hq⟩
      obtain rfl : wE = wZ := hq.symm
      clear hq
      have hwEs := hwE.size
      (try dsimp only)
      go_wp2
      go_roundw
      case measure => simp [intOf]; omega
      case rel => exact ⟨k + 1, by omega, by go_num, by (repeat' (first | (with_reducible exact Below.refl _ _) | (with_reducible refine Below.alloc ?_ ?_ _) | (with_reducible refine Below.setCell ?_ ?_ _) | (with_reducible refine Below.drew ?_) | (refine below_hyp (by assumption) ?_ ?_) | go_size))⟩
    · obtain rfl : k = n := by omega
      go_wp2
      all_goals (try go_returns)
      all_goals exact HR.out _ _ ⟨rfl, by (repeat' (first | (with_reducible exact Below.refl _ _) | (with_reducible refine Below.alloc ?_ ?_ _) | (with_reducible refine Below.setCell ?_ ?_ _) | (with_reducible refine Below.drew ?_) | (refine below_hyp (by assumption) ?_ ?_) | go_size))⟩

end Go.Proofs.YtmmlhnjmjmbfpaaGreat

/-
  What a mark leaves of what lies elsewhere; how long a chain is. No condition.
-/
namespace Go.Proofs.YtmmlhnjmjmbfpaaGreat
set_option linter.unusedSimpArgs false
set_option linter.unusedVariables false
open Go.RowKit

def noDeadE (i j : Nat) : Bool := false
theorem noDeadE_dead {l : List Oper} {n : Nat} : DeadF noDeadE l n := fun _ _ _ _ h => by cases h
theorem chainF_lenX {p : DLodPlan} : ∀ (f : Nat) (r : DLodRef) (rs : List DLodRef), chainF p f r = some rs → rs.length ≤ f
  | 0, _, _, h => by simp [chainF] at h
  | f + 1, r, rs, h => by
    unfold chainF at h
    cases hc : clsAt p r with
    | none => rw [hc] at h; simp at h
    | some c =>
      rw [hc] at h
      simp only at h
      split at h
      · cases h; simp
      · split at h
        · obtain ⟨t, ht, rfl⟩ := Option.map_eq_some_iff.1 h
          have := chainF_lenX f _ t ht
          simp; omega
        · cases h
theorem lodChain_len (p : DLodPlan) (r : DLodRef) : (lodChain p r).length ≤ 6 := by
  unfold lodChain
  split
  · split
    · cases h : chainR p r with
      | none => simp
      | some rs => exact chainF_lenX 6 r rs h
    · simp
  · simp
theorem Refs.ownLt {w : World} {base : Nat} {v : Value} {rs : List DLodRef} (h : Refs w base v rs) {g : Nat} (hg : v.ownBlock = some g) : g < w.heap.size := by
  obtain ⟨_, h⟩ := h
  rcases h with ⟨h1, _⟩ | ⟨b, cap, cur, h1, h2, h3, _⟩
  · rw [h1] at hg; cases hg
  · rw [h1] at hg; cases hg; exact (Array.getElem?_eq_some_iff.1 h3).1
theorem Refs.ownGe {w : World} {base : Nat} {v : Value} {rs : List DLodRef} (h : Refs w base v rs) {g : Nat} (hg : v.ownBlock = some g) : base ≤ g := by
  obtain ⟨_, h⟩ := h
  rcases h with ⟨h1, _⟩ | ⟨b, cap, cur, h1, h2, h3, _⟩
  · rw [h1] at hg; cases hg
  · rw [h1] at hg; cases hg; exact h2
/-- the block that a mark turns -/
theorem Refs.forMark {w : World} {base : Nat} {a : Option Addr} {c : Nat} {rs : List DLodRef} (h : Refs w base (.slice a rs.length c) rs) (hb : base ≤ w.heap.size) : ∃ g, base ≤ g ∧ (0 < rs.length → a = some ⟨g, 0, none⟩ ∧ g < w.heap.size ∧ w.there g 0 (rs.length * 2)) := by
  by_cases h0 : 0 < rs.length
  · obtain ⟨g, cap, e, h1, h2, h3, h4, h5, h6⟩ := own_cell h h0
    cases e
    refine ⟨g, h1, fun _ => ⟨rfl, h2, fun j hj => ⟨?_, h6 _⟩⟩⟩
    rw [Nat.zero_add]
    have hl := flatR_len rs
    have hj2 : j < (flatR rs).length := by omega
    have := h5 j _ (List.getElem?_eq_getElem hj2)
    rw [this]; rfl
  · exact ⟨w.heap.size, hb, fun h1 => absurd h1 h0⟩
theorem MK.low {lo hi B : Nat} {w0 w w' : World} (h : MK lo hi w w') (hb : Below B w0 w) (hl : B ≤ lo) (hB : B ≤ w.heap.size) : Below B w0 w' := by
  refine ⟨h.same.1.trans hb.os, h.same.2.1.trans hb.tape, h.same.2.2.trans hb.output, Nat.le_trans hb.size h.size, fun b hlt => ?_⟩
  exact (h.out b (by omega) (Or.inl (by omega))).trans (hb.block b hlt)
theorem OnlyAt.low {g B : Nat} {w0 w w' : World} (h : OnlyAt g w w') (hb : Below B w0 w) (hl : B ≤ g ∧ B ≤ w.heap.size) : Below B w0 w' := by
  refine ⟨h.same.1.trans hb.os, h.same.2.1.trans hb.tape, h.same.2.2.trans hb.output, Nat.le_trans hb.size h.size, fun b hlt => ?_⟩
  exact (h.out b (by omega) (by omega)).trans (hb.block b hlt)
theorem OnlyAt.cell {g : Nat} {w w' : World} (h : OnlyAt g w w') {b o : Nat} {v : Value} (hb : b < w.heap.size) (hne : b ≠ g) (hc : w.cell? ⟨b, o, none⟩ = some v) : w'.cell? ⟨b, o, none⟩ = some v := (cell_of_heap (h.out b hb hne)).trans hc
theorem Marked.below {w w' : World} {g n : Nat} {k : Int} (h : Marked w g n k) (hg : 0 < n → g < w.heap.size) (hb : Below w.heap.size w w') : Marked w' g n k := fun i hi => by
  have := hb.block g (hg (by omega))
  rw [cell_of_heap this, cell_of_heap this]; exact h i hi

end Go.Proofs.YtmmlhnjmjmbfpaaGreat

/-
  The walk of the program's LodChain. Condition: the data can be read.
-/
namespace Go.Proofs.YtmmlhnjmjmbfpaaGreat
set_option linter.unusedSimpArgs false
set_option linter.unusedVariables false
open Go.RowKit

set_option maxRecDepth 100000 in
set_option maxHeartbeats 8000000 in
theorem I_LodChain (x : DLodPlan) (v1 : Value) (r : DLodRef) (w : World) (s1 : Sl 2 rLodKeeper 0 w v1 x.fKeepers) (hn : r.fName.size ≤ maxLen) :
    Calls Tryz.prog 10 #[.agg #[v1], .agg #[.int .i64 r.fKeeper, .string r.fName]] w fun e w' => (∃ v, e = .returned v ∧ Refs w' w.heap.size v (lodChain x r)) ∧ Below w.heap.size w w' := by
  obtain ⟨a, len, cap, rfl⟩ := s1.form
  refine calls_hide fun R HR => ?_
  go_enter Tryz.func10, Tryz.ntmps10
  go_wp2_with fail
  refine (I_newLodge x _ _ (s1.stays rLodKeeper_good (Keeps.of_below' (B := w.heap.size) (by (repeat' (first | (with_reducible exact Below.refl _ _) | (with_reducible refine Below.alloc ?_ ?_ _) | (with_reducible refine Below.setCell ?_ ?_ _) | (with_reducible refine Below.drew ?_) | (refine below_hyp (by assumption) ?_ ?_) | go_size))) (Nat.le_refl _)))).mono ?_
  rintro _ wA ⟨hA, hq⟩
  have hEA : Below w.heap.size w wA := by (repeat' (first | (with_reducible exact Below.refl _ _) | (with_reducible refine Below.alloc ?_ ?_ _) | (with_reducible refine Below.setCell ?_ ?_ _) | (with_reducible refine Below.drew ?_) | (refine below_hyp (by assumption) ?_ ?_) | go_size))
  have hAs := (hA).size; (try simp only [World.size_alloc, World.size_setCell, World.size_drew] at hAs)
  obtain ⟨hAac, hAad, hAao, hAaf, hAag, hAap, hAaz, hAax, hAay⟩ := bfacts (n := w.heap.size) (k := 2) hA (by go_size) (by go_size); replace hAad := hAad (by decide); replace hAag := hAag (by decide); replace hAax := hAax (by decide); have hAac1 := fun o => hAac 1 o (by decide); have hAaf1 := fun o => hAaf 1 o (by decide); have hAaz1 := hAaz 1 (by decide); clear hAac hAaf hAaz
  rcases hq with ⟨hno, rfl⟩ | ⟨hy, L, rfl, hL⟩
  · have RV : Hid (lodChain x r = []) := Lib.hid (by unfold lodChain; rw [lodFind_no hno]; rfl)
    clear hno
    go_wp2
    all_goals (try go_returns)
    all_goals exact HR.out _ _ ⟨⟨_, rfl, by rw [RV.out]; exact ⟨by simp [flatR], Or.inl ⟨rfl, rfl⟩⟩⟩, by (repeat' (first | (with_reducible exact Below.refl _ _) | (with_reducible refine Below.alloc ?_ ?_ _) | (with_reducible refine Below.setCell ?_ ?_ _) | (with_reducible refine Below.drew ?_) | (refine below_hyp (by assumption) ?_ ?_) | go_size))⟩
  · have HL := Lib.hid hL
    have HY := Lib.hid hy
    clear hL hy
    go_wp2_with fail
    refine (I_chain x L r _ HL.out HY.out hn).mono ?_
    rintro _ wB ⟨⟨v, rfl, hv⟩, hB⟩
    have hBs := (hB).size; (try simp only [World.size_alloc, World.size_setCell, World.size_drew] at hBs)
    have HV := Lib.hid (hv.low (base' := w.heap.size) (by omega))
    clear hv
    go_wp2
    all_goals (try go_returns)
    all_goals exact HR.out _ _ ⟨⟨_, rfl, HV.out⟩, by (repeat' (first | (with_reducible exact Below.refl _ _) | (with_reducible refine Below.alloc ?_ ?_ _) | (with_reducible refine Below.setCell ?_ ?_ _) | (with_reducible refine Below.drew ?_) | (refine below_hyp (by assumption) ?_ ?_) | go_size))⟩


end Go.Proofs.YtmmlhnjmjmbfpaaGreat

/-
  The walks of the reference's l7Classes and PlanClasses, and of the program's classes and PlanClasses: all classes that are there, keeper by keeper. Condition: the data can be read.
-/
namespace Go.Proofs.YtmmlhnjmjmbfpaaGreat
set_option linter.unusedSimpArgs false
set_option linter.unusedVariables false
open Go.RowKit

/-- the classes of a keeper, of keepers; those that are there -/
def ownRefs (i : Nat) (cs : List DClsClass) : List DLodRef := cs.map fun c => ⟨(i : Int), c.fName⟩
def allTo (p : DLodPlan) : Nat → List DLodRef
  | 0 => []
  | i + 1 => allTo p i ++ (match p.fKeepers[i]? with | some k => ownRefs i k.fOwns | none => [])
def planAll (p : DLodPlan) : List DLodRef := allTo p p.fKeepers.length
def thereB (p : DLodPlan) (r : DLodRef) : Bool := decide (0 < (lodChain p r).length)
def planClasses (p : DLodPlan) : List DLodRef := if lodOk p then (planAll p).filter (thereB p) else []
theorem allTo_next {p : DLodPlan} {i : Nat} {k : DLodKeeper} (h : p.fKeepers[i]? = some k) : allTo p (i + 1) = allTo p i ++ ownRefs i k.fOwns := by
  rw [allTo, h]
theorem ownRefs_len (i : Nat) (cs : List DClsClass) : (ownRefs i cs).length = cs.length := by simp [ownRefs]
theorem ownRefs_next {i j : Nat} {cs : List DClsClass} {c : DClsClass} (h : cs[j]? = some c) : (ownRefs i cs).take (j + 1) = (ownRefs i cs).take j ++ [⟨(i : Int), c.fName⟩] := by
  have h2 : (ownRefs i cs)[j]? = some ⟨(i : Int), c.fName⟩ := by unfold ownRefs; rw [List.getElem?_map, h]; rfl
  obtain ⟨hj, he⟩ := List.getElem?_eq_some_iff.1 h2
  rw [List.take_succ_eq_append_getElem hj, he]
theorem ownRefs_all {i j : Nat} {cs : List DClsClass} (h : cs.length ≤ j) : (ownRefs i cs).take j = ownRefs i cs := List.take_of_length_le (by rw [ownRefs_len]; exact h)
theorem allTo_len {p : DLodPlan} (hp : lodOk p = true) : ∀ i, (allTo p i).length ≤ 5 * i
  | 0 => by simp [allTo]
  | i + 1 => by
    have h := allTo_len hp i
    cases e : p.fKeepers[i]? with
    | none => rw [allTo, e]; simp; omega
    | some k =>
      have h5 := (keeperOk_parts (lodOk_keeper hp e)).1
      rw [allTo_next e, List.length_append, ownRefs_len]; omega
theorem planClasses_len (p : DLodPlan) : (planClasses p).length ≤ 1000 := by
  unfold planClasses
  split
  · rename_i hp
    have h1 := List.length_filter_le (thereB p) (planAll p)
    have h2 := allTo_len hp p.fKeepers.length
    have h3 := lodOk_len hp
    unfold planAll at h1 ⊢
    omega
  · simp
theorem rLodRef_goodE : GoodT NoT rLodRef := ⟨fun _ _ _ _ _ _ h => h, fun _ _ _ _ _ _ h => h⟩
theorem rLodRef_oneE : ∀ lo w cs x, rLodRef lo w cs x → ∀ u ∈ cs, u.oneCell' = true := by
  intro lo w cs x h u hu
  obtain ⟨rfl, _⟩ := h
  simp at hu
  rcases hu with rfl | rfl <;> rfl
theorem sty_RefE : STy 29 35 2 (.agg #[.int .i64 0, .string ⟨#[]⟩]) 24 := ⟨Tryz.underlying29, by kernel_rfl, rfl, by decide, by decide⟩
theorem TOwn.emptyE {α : Type} {k : Nat} {R : RowRel α} {e : TypeId} (lo B : Nat) (w : World) (hB : B ≤ w.heap.size) (hl : lo ≤ B) : TOwn k R e lo B (w.alloc (.cells #[] e)) (.slice (some ⟨w.heap.size, 0, none⟩) 0 0) ([] : List α) := by
  refine ⟨⟨[], Rows.nil, by simp, Or.inr ⟨w.heap.size, 0, #[], rfl, by omega, ?_, Nat.le_refl _, by decide, by simp, by simp⟩⟩, fun b h => ?_⟩
  · exact (MapKept.heap_alloc w _).1
  · simp [Value.ownBlock] at h; omega
theorem TOwn.nilE {α : Type} {k : Nat} {R : RowRel α} {e : TypeId} (lo B : Nat) (w : World) : TOwn k R e lo B w (.slice none 0 0) ([] : List α) :=
  ⟨⟨[], Rows.nil, by simp, Or.inl ⟨rfl, rfl⟩⟩, fun b h => by simp [Value.ownBlock] at h⟩
theorem TSl.form3 {α : Type} {k : Nat} {R : RowRel α} {e : TypeId} {lo : Nat} {w : World} {v : Value} {xs : List α} (h : TSl k R e lo w v xs) : ∃ (a : Option Addr) (n cap : Nat), v = .slice a n cap := by
  obtain ⟨a, cap, h, _⟩ := h.form
  exact ⟨a, _, cap, h⟩
theorem TSl.rowsAt {α : Type} {k : Nat} {R : RowRel α} {e : TypeId} {lo : Nat} {w : World} {v : Value} {xs : List α} (h : TSl k R e lo w v xs) (h0 : 0 < xs.length) : ∃ (b cap : Nat) (css : List (List Value)), v = .slice (some ⟨b, 0, none⟩) xs.length cap ∧ lo ≤ b ∧ b < w.heap.size ∧ xs.length ≤ cap ∧ cap ≤ maxLen ∧
    ∀ x y, xs[x]? = some y → ∃ cs, css[x]? = some cs ∧ cs.length = k ∧ R lo w cs y ∧ w.rangeAt b (x * k) cs := by
  obtain ⟨css, h1, h2⟩ := h
  obtain ⟨b, cap, rfl, hb, hl, hc, hm, hcell, _⟩ := own_cell h2 h0
  refine ⟨b, cap, css, rfl, hb, hl, hc, hm, fun x y hx => ?_⟩
  obtain ⟨cs, hcs⟩ : ∃ cs, css[x]? = some cs := ⟨_, List.getElem?_eq_getElem (by rw [h1.len]; exact (List.getElem?_eq_some_iff.1 hx).1)⟩
  obtain ⟨hk, hR⟩ := h1.row x y cs hx hcs
  exact ⟨cs, hcs, hk, hR, fun j u hj => hcell _ u ((flat_at h1.each hcs (by rw [← hk]; exact (List.getElem?_eq_some_iff.1 hj).1)).trans hj)⟩
theorem cell_below {w w' : World} {N b o : Nat} {v : Value} (hb : Below N w w') (hN : b < N) (h : w.cell? ⟨b, o, none⟩ = some v) : w'.cell? ⟨b, o, none⟩ = some v := (hb.cell (p := ⟨b, o, none⟩) hN).trans h
theorem filt_next {f : DLodRef → Bool} {xs : List DLodRef} {i : Nat} {y : DLodRef} (h : xs[i]? = some y) : (xs.take (i + 1)).filter f = (xs.take i).filter f ++ (if f y then [y] else []) := by
  obtain ⟨hi, he⟩ := List.getElem?_eq_some_iff.1 h
  rw [List.take_succ_eq_append_getElem hi, he, List.filter_append]
  congr 1
  cases hf : f y <;> simp [hf]
theorem rows_flatR : ∀ {lo : Nat} {w : World} {css : List (List Value)} {xs : List DLodRef}, Rows 2 rLodRef lo w css xs → css.flatten = flatR xs
  | lo, w, css, [], h => by
    have := h.len
    simp at this
    subst this; rfl
  | lo, w, css, x :: xs, h => by
    have hl := h.len
    match css, h, hl with
    | cs :: css, h, hl =>
      obtain ⟨_, h1⟩ := h.row 0 x cs rfl rfl
      have ht : Rows 2 rLodRef lo w css xs := ⟨by simpa using hl, fun i y c hy hc => h.row (i + 1) y c (by simpa using hy) (by simpa using hc)⟩
      rw [List.flatten_cons, rows_flatR ht, h1.1]; rfl
theorem TOwn.refs {lo B : Nat} {w : World} {v : Value} {xs : List DLodRef} (h : TOwn 2 rLodRef 35 lo B w v xs) {base : Nat} (hb : base ≤ lo) : Refs w base v xs := by
  obtain ⟨css, h1, h2⟩ := h.sl
  rw [rows_flatR h1] at h2
  exact own_low h2 hb

set_option maxRecDepth 100000 in
set_option maxHeartbeats 8000000 in
theorem S_l7ClassesE (x : DLodPlan) (v1 : Value) (w : World) (s1 : Sl 2 rLodKeeper 0 w v1 x.fKeepers) (hp : lodOk x = true) :
    Calls Tryz.prog 29 #[.agg #[v1]] w fun e w' => (∃ (v : Value), e = .returned v ∧ TOwn 2 rLodRef 35 (w.heap.size + 1) (w.heap.size + 1) w' v (planAll x)) ∧ Below w.heap.size w w' := by
  obtain ⟨a, len, cap, rfl, hl, h1, h2, h3⟩ := id s1
  have m1 : len ≤ 9223372036854775807 := by unfold maxLen at h2; omega
  have hl3 := lodOk_len hp
  rw [hl] at hl3
  have HP := Lib.hid hp
  have HL := Lib.hid hl
  clear h2 hl h1 hp
  refine calls_hide fun R HR => ?_
  go_enter Tryz.func29, Tryz.ntmps29
  go_wp2_with fail
  obtain ⟨wE, hwE⟩ : ∃ wE, wE = (w.alloc (.cells #[.slice a len cap] 33)).alloc (.cells #[] 35) := ⟨_, rfl⟩
  rw [← hwE]
  have hBE : Below w.heap.size w wE := by rw [hwE]; (repeat' (first | (with_reducible exact Below.refl _ _) | (with_reducible refine Below.alloc ?_ ?_ _) | (with_reducible refine Below.setCell ?_ ?_ _) | (with_reducible refine Below.drew ?_) | (refine below_hyp (by assumption) ?_ ?_) | go_size))
  have hsE : wE.heap.size = w.heap.size + 1 + 1 := by rw [hwE]; simp
  have c0 : wE.cell? ⟨w.heap.size, 0, none⟩ = some (.slice a len cap) := by rw [hwE]; go_simp
  have hT : TOwn 2 rLodRef 35 (w.heap.size + 1) (w.heap.size + 1) wE (.slice (some ⟨w.heap.size + 1, 0, none⟩) 0 0) ([] : List DLodRef) := by
    rw [hwE]
    have := TOwn.emptyE (α := DLodRef) (k := 2) (R := rLodRef) (e := 35) (w.heap.size + 1) (w.heap.size + 1) (w.alloc (.cells #[.slice a len cap] 33)) (by simp) (Nat.le_refl _)
    simpa using this
  clear hwE
  go_loopw [3, 4, 5] (fun zo zi zj wr => ∃ (i : Nat) (v : Value) (xs : List DLodRef), i ≤ len ∧ zo = v ∧ zi = .int .i64 i ∧ TOwn 2 rLodRef 35 (w.heap.size + 1) (w.heap.size + 1) wr v xs ∧ xs.length ≤ 5 * i ∧ Hid (xs = allTo x i) ∧ Below (w.heap.size + 1) wE wr) (fun _ zi _ _ => len - (intOf zi).toNat)
  case atStart => exact ⟨0, _, [], Nat.zero_le _, rfl, rfl, hT, by simp, Lib.hid rfl, Below.refl _ _⟩
  case round =>
    obtain ⟨i, v, xs, hi, rfl, rfl, ht, hx, hxe, hb⟩ := hrel
    obtain ⟨va, vn, vc, rfl⟩ := ht.sl.form3
    have HT := Lib.hid ht
    clear ht
    have hbs := hb.size
    have r0 : wr.cell? ⟨w.heap.size, 0, none⟩ = some (.slice a len cap) := cell_below hb (by omega) c0
    have l0 : w.heap.size < wr.heap.size := block_lt_of_cell r0
    by_cases hlt : i < len
    · have hlt2 : (i : Int) < (len : Int) := by omega
      obtain ⟨b, off, rfl, hlo, hbl, hr⟩ := h3 (by omega)
      obtain ⟨k, cs, e0, e1, e2, e3⟩ := hr i hlt
      obtain ⟨x1, x2, rfl, t1, t2⟩ := e3
      obtain ⟨xa2, xl2, xc2, rfl⟩ := t2.form
      obtain ⟨ya, yl, yc, rfl, yh, yc1, yc2, y3⟩ := id t1
      have hyl : yl ≤ 5 := by have := (keeperOk_parts (lodOk_keeper HP.out e0)).1; omega
      have hEw : Hid (∀ (g o : Nat) (u : Value), g < w.heap.size → w.cell? ⟨g, o, none⟩ = some u → ∀ W, Below (w.heap.size + 1) wE W → W.cell? ⟨g, o, none⟩ = some u) := Lib.hid fun g o u hg hu W hW => cell_below hW (by omega) (cell_below hBE hg hu)
      have q1 : w.cell? ⟨b, off + i * 2, none⟩ = some (.slice ya yl yc) := e2 0 _ rfl
      have Q1 := Lib.hid q1
      have E0 := Lib.hid e0
      have HYLN : Hid (k.fOwns.length = yl) := Lib.hid yh
      clear e0 e1 e2 hr t1 t2 yh yc1 yc2 q1
      have q1 := hEw.out _ _ _ hbl Q1.out wr hb
      have hblr : b < wr.heap.size := by omega
      go_wp2_with fail
      go_loopw [3, 5] (fun zo zj wr => ∃ (j : Nat) (v : Value) (xs : List DLodRef), j ≤ yl ∧ zo = v ∧ zj = .int .i64 j ∧ TOwn 2 rLodRef 35 (w.heap.size + 1) (w.heap.size + 1) wr v xs ∧ xs.length ≤ 5 * i + j ∧ Hid (xs = allTo x i ++ (ownRefs i k.fOwns).take j) ∧ Below (w.heap.size + 1) wE wr) (fun _ zj _ => yl - (intOf zj).toNat)
      case atStart => exact ⟨0, _, xs, Nat.zero_le _, rfl, rfl, HT.out, by omega, Lib.hid (by rw [hxe.out]; simp), hb⟩
      case round =>
        obtain ⟨j, v, ys, hj, rfl, rfl, ht2, hx2, hye, hb2⟩ := hrel
        obtain ⟨ua, un, uc, rfl⟩ := ht2.sl.form3
        have HT2 := Lib.hid ht2
        clear ht2
        have hbs2 := hb2.size
        have s0 : wr.cell? ⟨w.heap.size, 0, none⟩ = some (.slice (some ⟨b, off, none⟩) len cap) := cell_below hb2 (by omega) c0
        have l1 : w.heap.size < wr.heap.size := block_lt_of_cell s0
        have q2 := hEw.out _ _ _ hbl Q1.out wr hb2
        have hblq : b < wr.heap.size := by omega
        by_cases hlj : j < yl
        · have hlj2 : (j : Int) < (yl : Int) := by omega
          obtain ⟨b', off', rfl, _, hbl', hr'⟩ := y3 (by omega)
          obtain ⟨c', cs', g0, g1, g2, g3⟩ := hr' j hlj
          obtain ⟨u1, u2, rfl, d1, d2, bx1, bx2⟩ := g3
          have p1 : wr.cell? ⟨b', off' + j * 4, none⟩ = some (.string c'.fName) := hEw.out _ _ _ hbl' (g2 0 _ rfl) wr hb2
          have hblq' : b' < wr.heap.size := by omega
          have HN : Hid (ys ++ [(⟨(i : Int), c'.fName⟩ : DLodRef)] = allTo x i ++ (ownRefs i k.fOwns).take (j + 1)) := Lib.hid (by rw [hye.out, ownRefs_next g0, List.append_assoc])
          clear g0 g1 g2 hr' d1 d2
          go_wp2_with (at_builtin; refine wpList_append_F (B := w.heap.size + 1) (lo := w.heap.size + 1) (R := rLodRef) (E := NoT) (xs := ys) (ys := [⟨(i : Int), c'.fName⟩]) (css := [[.int .i64 (i : Int), .string c'.fName]]) (by rfl) (.tmp 25) (.tmp 38) 29 (by rfl) sty_RefE rLodRef_goodE (fun h => h) rLodRef_oneE (by rfl) (by rfl) (HT2.out.below rLodRef_goodE ((Below.refl _ _).alloc (Nat.le_refl _) _)) (Src.new (k := 2) (cs := [.int .i64 (i : Int), .string c'.fName])) (Rows.one rfl ⟨rfl, bx1⟩) (by simp; omega) (Nat.le_refl _) (by simp; omega) ?_)
          intro v9 wt ht9 hb9 hg9 hk9 hat9
          have hB9 : Below (w.heap.size + 1) wE wt := (hb2.trans ((Below.refl _ _).alloc (by omega) _)).trans hb9
          have hn9 : (ys ++ [(⟨(i : Int), c'.fName⟩ : DLodRef)]).length ≤ 5 * i + (j + 1) := by simp; omega
          have HT9 := Lib.hid ht9
          have HB9 := Lib.hid hB9
          clear ht9 hb9 hg9 hk9 hat9 hB9
          go_wp2
          go_roundw
          case measure => simp [intOf]; omega
          case rel => exact ⟨j + 1, _, _, by omega, rfl, by go_num, HT9.out, hn9, HN, HB9.out⟩
        · obtain rfl : j = yl := by omega
          go_wp2
          go_roundw
          case measure => simp [intOf]; omega
          case rel => exact ⟨i + 1, _, ys, by omega, rfl, by go_num, HT2.out, by omega, Lib.hid (by rw [hye.out, allTo_next E0.out, ownRefs_all (by rw [HYLN.out]; exact Nat.le_refl _)]), hb2⟩
    · obtain rfl : i = len := by omega
      go_wp2
      all_goals (try go_returns)
      all_goals exact HR.out _ _ ⟨⟨_, rfl, by have h9 := HT.out; rw [hxe.out] at h9; unfold planAll; rw [HL.out]; exact h9⟩, hBE.trans (hb.mono (by omega))⟩

set_option maxRecDepth 100000 in
set_option maxHeartbeats 8000000 in
theorem S_PlanClassesT (x : DLodPlan) (v1 : Value) (w : World) (s1 : Sl 2 rLodKeeper 0 w v1 x.fKeepers) :
    Calls Tryz.prog 16 #[.agg #[v1]] w fun e w' => (∃ (v : Value), e = .returned v ∧ TOwn 2 rLodRef 35 (w.heap.size + 1) (w.heap.size + 1) w' v (planClasses x)) ∧ Below w.heap.size w w' := by
  obtain ⟨a, len, cap, rfl⟩ := s1.form
  have HS := Lib.hid s1
  refine calls_hide fun R HR => ?_
  go_enter Tryz.func16, Tryz.ntmps16
  go_wp2_with fail
  obtain ⟨wE, hwE⟩ : ∃ wE, wE = (w.alloc (.cells #[.slice a len cap] 33)).alloc (.cells #[] 35) := ⟨_, rfl⟩
  rw [← hwE]
  have hBE : Below w.heap.size w wE := by rw [hwE]; (repeat' (first | (with_reducible exact Below.refl _ _) | (with_reducible refine Below.alloc ?_ ?_ _) | (with_reducible refine Below.setCell ?_ ?_ _) | (with_reducible refine Below.drew ?_) | (refine below_hyp (by assumption) ?_ ?_) | go_size))
  have hsE : wE.heap.size = w.heap.size + 1 + 1 := by rw [hwE]; simp
  have c0 : wE.cell? ⟨w.heap.size, 0, none⟩ = some (.slice a len cap) := by rw [hwE]; go_simp
  have hT : TOwn 2 rLodRef 35 (w.heap.size + 1) (w.heap.size + 1) wE (.slice (some ⟨w.heap.size + 1, 0, none⟩) 0 0) ([] : List DLodRef) := by
    rw [hwE]
    have := TOwn.emptyE (α := DLodRef) (k := 2) (R := rLodRef) (e := 35) (w.heap.size + 1) (w.heap.size + 1) (w.alloc (.cells #[.slice a len cap] 33)) (by simp) (Nat.le_refl _)
    simpa using this
  clear hwE
  refine (S_LodOk x _ _ (HS.out.stays rLodKeeper_good (Keeps.of_below hBE))).mono ?_
  rintro _ w1 ⟨rfl, h1⟩
  have hs1 := h1.size
  have c1 := keep_cell h1 c0
  have hB1 : Below w.heap.size w w1 := hBE.trans (h1.mono hBE.size)
  have hT1 := hT.below rLodRef_goodE h1
  clear c0 hT h1
  cases hok : lodOk x
  · have RV : Hid (planClasses x = []) := Lib.hid (by unfold planClasses; rw [hok]; rfl)
    clear hok
    go_wp2
    all_goals (try go_returns)
    all_goals exact HR.out _ _ ⟨⟨_, rfl, by rw [RV.out]; exact hT1⟩, hB1⟩
  have HOK := Lib.hid hok
  have RV : Hid (planClasses x = (planAll x).filter (thereB x)) := Lib.hid (by unfold planClasses; rw [hok]; rfl)
  clear hok
  go_wp2_with fail
  refine (S_l7ClassesE x _ _ (HS.out.stays rLodKeeper_good (Keeps.of_below hB1)) HOK.out).mono ?_
  rintro _ w2 ⟨⟨v, rfl, ht⟩, h2⟩
  have hx : (planAll x).length ≤ 15 := by
    have h9 := allTo_len HOK.out x.fKeepers.length
    have h8 := lodOk_len HOK.out
    unfold planAll; omega
  obtain ⟨xs, hxs⟩ : ∃ xs, xs = planAll x := ⟨_, rfl⟩
  rw [← hxs] at ht hx RV
  clear hxs
  have hs2 := h2.size
  obtain ⟨va, vn, vc, rfl⟩ := ht.sl.form3
  have hvn : xs.length = vn := by
    obtain ⟨_, _, e, _⟩ := ht.sl.form
    cases e; rfl
  have c2 := keep_cell h2 c1
  have hB2 : Below w.heap.size w w2 := hB1.trans (h2.mono hB1.size)
  have hT2 := hT1.below rLodRef_goodE h2
  have HT := Lib.hid ht
  have hap : ∀ b, (Value.slice va vn vc).ownBlock = some b → (Value.slice (some ⟨w.heap.size + 1, 0, none⟩) 0 0).ownBlock ≠ some b := fun b hb e => by
    have h3 := ht.own b hb
    simp [Value.ownBlock] at e
    omega
  clear c1 hT1 ht h2
  go_wp2_with fail
  go_loopw [3, 5] (fun zo zi wr => ∃ (i : Nat) (u : Value) (ys : List DLodRef), i ≤ vn ∧ zo = u ∧ zi = .int .i64 i ∧ TOwn 2 rLodRef 35 (w.heap.size + 1) (w.heap.size + 1) wr u ys ∧ TOwn 2 rLodRef 35 (w1.heap.size + 1) (w1.heap.size + 1) wr (.slice va vn vc) xs ∧ (∀ b, (Value.slice va vn vc).ownBlock = some b → u.ownBlock ≠ some b) ∧ ys.length ≤ i ∧ Hid (ys = (xs.take i).filter (thereB x)) ∧ Below (w.heap.size + 1) w2 wr) (fun _ zi _ => vn - (intOf zi).toNat)
  case atStart => exact ⟨0, _, [], Nat.zero_le _, rfl, rfl, hT2, HT.out, hap, by simp, Lib.hid (by simp), Below.refl _ _⟩
  case round =>
    obtain ⟨i, u, ys, hi, rfl, rfl, ht, hta, hap2, hx2, hye, hb⟩ := hrel
    obtain ⟨ua, un, uc, rfl⟩ := ht.sl.form3
    have HT2 := Lib.hid ht
    have HTA := Lib.hid hta
    have HAP := Lib.hid hap2
    clear ht hap2
    have hbs := hb.size
    have r0 : wr.cell? ⟨w.heap.size, 0, none⟩ = some (.slice a len cap) := cell_below hb (by omega) c2
    have l0 : w.heap.size < wr.heap.size := block_lt_of_cell r0
    have hBr : Hid (Below w.heap.size w wr) := Lib.hid (hB2.trans (hb.mono (by omega)))
    by_cases hlt : i < vn
    · have hlt2 : (i : Int) < (vn : Int) := by omega
      obtain ⟨b, cap', css, e, hb1, hb2, hb3, hb4, hrows⟩ := hta.sl.rowsAt (by omega)
      cases e
      obtain ⟨y, hy⟩ : ∃ y, xs[i]? = some y := ⟨_, List.getElem?_eq_getElem (by omega)⟩
      obtain ⟨cs, hcs, hcl, ⟨rfl, hyn⟩, hrg⟩ := hrows i y hy
      have q1 : wr.cell? ⟨b, i * 2, none⟩ = some (.int .i64 y.fKeeper) := hrg 0 _ rfl
      have q2 : wr.cell? ⟨b, i * 2 + 1, none⟩ = some (.string y.fName) := hrg 1 _ rfl
      have HYN := Lib.hid hyn
      have HNX : Hid ((xs.take (i + 1)).filter (thereB x) = ys ++ (if thereB x y then [y] else [])) := Lib.hid (by rw [filt_next hy, hye.out])
      clear hrows hrg hcs hcl hy hta
      have hbl9 : b < wr.heap.size := hb2
      obtain ⟨n9, hn9⟩ : ∃ n, (lodChain x y).length = n := ⟨_, rfl⟩
      have CH : ∀ W, Below wr.heap.size wr W → Calls Tryz.prog 7 #[.agg #[.slice a len cap], .agg #[.int .i64 y.fKeeper, .string y.fName]] W fun e w' => (∃ (ga : Option Addr) (gc : Nat), e = .returned (.slice ga n9 gc)) ∧ Below W.heap.size W w' := fun W hW =>
        (S_LodChain x _ y W (HS.out.stays rLodKeeper_good (Keeps.of_below (hBr.out.trans (hW.mono hBr.out.size)))) HYN.out).mono fun e w' h => by
          obtain ⟨⟨v, rfl, hrf⟩, hb⟩ := h
          obtain ⟨ga, gc, rfl, _, _⟩ := own_form hrf
          exact ⟨⟨ga, gc, by rw [hn9]⟩, hb⟩
      have HTB9 : Hid (thereB x y = decide (0 < n9)) := Lib.hid (by unfold thereB; rw [hn9])
      clear hn9
      go_wp2_with fail
      go_region_with (first | (go_at_call 7; refine (CH _ (by first | exact Below.refl _ _ | exact (Below.refl _ _).drew | exact ((Below.refl _ _).drew).drew)).mono ?_; rintro _ wc ⟨⟨ga, gc, rfl⟩, hc⟩; have hc' : Below wr.heap.size wr wc := ⟨hc.os, hc.tape, hc.output, hc.size, hc.block⟩; clear hc))
      all_goals
        have hsc := hc'.size
        have s0 := keep_cell hc' r0
        have s1 := keep_cell hc' q1
        have s2 := keep_cell hc' q2
        have hblc : b < wc.heap.size := by omega
        have HTB := Lib.hid (HT2.out.below rLodRef_goodE hc')
        have HTC := Lib.hid (HTA.out.below rLodRef_goodE hc')
        have HBC : Hid (Below (w.heap.size + 1) w2 wc) := Lib.hid (hb.trans (hc'.mono (by omega)))
        clear r0 q1 q2 hc' hb CH
        by_cases h9 : 0 < n9
        · have h9' : (0 : Int) < (n9 : Int) := by omega
          go_wp2_with (at_builtin; refine wpList_append_F (B := w.heap.size + 1) (lo := w.heap.size + 1) (R := rLodRef) (E := NoT) (xs := ys) (ys := [⟨y.fKeeper, y.fName⟩]) (css := [[.int .i64 y.fKeeper, .string y.fName]]) (by rfl) (.tmp 27) (.tmp 32) 29 (by rfl) sty_RefE rLodRef_goodE (fun h => h) rLodRef_oneE (by rfl) (by rfl) (HTB.out.below rLodRef_goodE ((Below.refl _ _).alloc (Nat.le_refl _) _)) (Src.new (k := 2) (cs := [.int .i64 y.fKeeper, .string y.fName])) (Rows.one rfl ⟨rfl, HYN.out⟩) (by simp; omega) (Nat.le_refl _) (by simp; omega) ?_)
          intro v9 wt ht9 hb9 hg9 hk9 hat9
          have hs9 := hb9.size
          simp only [World.size_alloc] at hs9
          have HTD : Hid (TOwn 2 rLodRef 35 (w1.heap.size + 1) (w1.heap.size + 1) wt (.slice (some ⟨b, 0, none⟩) xs.length vc) xs) := Lib.hid ((HTC.out.below rLodRef_goodE ((Below.refl _ _).alloc (Nat.le_refl _) _)).grown rLodRef_goodE hg9 HAP.out)
          have HAQ : Hid (∀ g, (Value.slice (some ⟨b, 0, none⟩) xs.length vc).ownBlock = some g → v9.ownBlock ≠ some g) := Lib.hid fun g hg e => by
            rcases hat9 g e with h | h
            · exact HAP.out g hg h
            · have := HTC.out.lt g hg
              skip
              omega
          have hB9 : Below (w.heap.size + 1) w2 wt := (HBC.out.trans ((Below.refl _ _).alloc (by omega) _)).trans hb9
          have hn9 : (ys ++ [(⟨y.fKeeper, y.fName⟩ : DLodRef)]).length ≤ i + 1 := by simp; omega
          have HT9 := Lib.hid ht9
          have HB9 := Lib.hid hB9
          clear ht9 hb9 hg9 hk9 hat9 hB9
          go_wp2
          go_roundw
          case measure => simp [intOf]; omega
          case rel => exact ⟨i + 1, _, _, by omega, rfl, by go_num, HT9.out, HTD.out, HAQ.out, hn9, Lib.hid (by rw [HNX.out, HTB9.out, if_pos (by simpa using h9)]), HB9.out⟩
        · have h9' : ¬ (0 : Int) < (n9 : Int) := by omega
          go_wp2
          go_roundw
          case measure => simp [intOf]; omega
          case rel => exact ⟨i + 1, _, ys, by omega, rfl, by go_num, HTB.out, HTC.out, HAP.out, by omega, Lib.hid (by rw [HNX.out, HTB9.out, if_neg (by simpa using h9)]; simp), HBC.out⟩
    · obtain rfl : i = vn := by omega
      have hye2 : ys = xs.filter (thereB x) := by rw [hye.out, List.take_of_length_le (by omega)]
      have RV2 : Hid (planClasses x = ys) := Lib.hid (by rw [RV.out, hye2])
      clear hta hye2
      go_wp2
      all_goals (try go_returns)
      all_goals exact HR.out _ _ ⟨⟨_, rfl, by rw [RV2.out]; exact HT2.out⟩, hBr.out⟩
theorem S_PlanClassesE (x : DLodPlan) (v1 : Value) (w : World) (s1 : Sl 2 rLodKeeper 0 w v1 x.fKeepers) :
    Calls Tryz.prog 16 #[.agg #[v1]] w fun e w' => (∃ u, e = .returned u ∧ Refs w' w.heap.size u (planClasses x)) ∧ Below w.heap.size w w' :=
  (S_PlanClassesT x v1 w s1).mono fun e w' h => by
    obtain ⟨⟨v, rfl, ht⟩, hb⟩ := h
    exact ⟨⟨v, rfl, ht.refs (by omega)⟩, hb⟩

end Go.Proofs.YtmmlhnjmjmbfpaaGreat

/-
  The walks of the program's classes and PlanClasses. Condition: the data can be read.
-/
namespace Go.Proofs.YtmmlhnjmjmbfpaaGreat
set_option linter.unusedSimpArgs false
set_option linter.unusedVariables false
open Go.RowKit

set_option maxRecDepth 100000 in
set_option maxHeartbeats 8000000 in
theorem I_classes (p : DLodPlan) (L : Nat) (w : World) (hl : Lodge w L p) (hp : lodOk p = true) :
    Calls Tryz.prog 30 #[.pointer (some ⟨L, 0, none⟩)] w fun e w' => (∃ v, e = .returned v ∧ TOwn 2 rLodRef 35 w.heap.size w.heap.size w' v ((planAll p).filter (thereB p))) ∧ Below w.heap.size w w' := by
  have HLO := Lib.hid hl
  obtain ⟨a, len, cap, bo, ba, bl, n, c0, _, _, _, s, _⟩ := hl
  obtain ⟨a', len', cap', e', hlk, h1, h2, h3⟩ := id s
  cases e'
  have m1 : len ≤ 9223372036854775807 := by unfold maxLen at h2; omega
  have hl3 := lodOk_len hp
  rw [hlk] at hl3
  have HP := Lib.hid hp
  have HK := Lib.hid hlk
  have hLw : L < w.heap.size := block_lt_of_cell c0
  clear h2 h1 hp s hlk
  refine calls_hide fun R HR => ?_
  go_enter Tryz.func30, Tryz.ntmps30
  go_wp2_with fail
  go_loopw [3, 14] (fun zo zi wr => ∃ (i : Nat) (v : Value) (xs : List DLodRef), i ≤ len ∧ zo = v ∧ zi = .int .i64 i ∧ TOwn 2 rLodRef 35 w.heap.size w.heap.size wr v xs ∧ xs.length ≤ 5 * i ∧ Hid (xs = (allTo p i).filter (thereB p)) ∧ Below w.heap.size w wr) (fun _ zi _ => len - (intOf zi).toNat)
  case atStart => exact ⟨0, _, [], Nat.zero_le _, rfl, rfl, TOwn.nilE _ _ _, by simp, Lib.hid rfl, Below.refl _ _⟩
  case round =>
    obtain ⟨i, v, xs, hi, rfl, rfl, ht, hx, hxe, hb⟩ := hrel
    obtain ⟨va, vn, vc, rfl⟩ := ht.sl.form3
    have HT := Lib.hid ht
    clear ht
    have hbs := hb.size
    by_cases hlt : i < len
    · have hlt2 : (i : Int) < (len : Int) := by omega
      obtain ⟨b, off, rfl, hlo, hbl, hr⟩ := h3 (by omega)
      obtain ⟨k, cs, e0, e1, e2, e3⟩ := hr i hlt
      obtain ⟨x1, x2, rfl, t1, t2⟩ := e3
      obtain ⟨xa2, xl2, xc2, rfl⟩ := t2.form
      obtain ⟨ya, yl, yc, rfl, yh, yc1, yc2, y3⟩ := id t1
      have hyl : yl ≤ 5 := by have := (keeperOk_parts (lodOk_keeper HP.out e0)).1; omega
      have q1 : wr.cell? ⟨b, off + i * 2, none⟩ = some (.slice ya yl yc) := keep_cell hb (e2 0 _ rfl)
      have q2 : wr.cell? ⟨b, off + i * 2 + 1, none⟩ = some (.slice xa2 xl2 xc2) := keep_cell hb (e2 1 _ rfl)
      have E0 := Lib.hid e0
      have HYLN : Hid (k.fOwns.length = yl) := Lib.hid yh
      clear e0 e1 e2 hr t1 t2 yh yc1 yc2
      go_wp2_with fail
      obtain ⟨wE, hwE⟩ : ∃ wE, wE = wr.alloc (.cells #[.slice ya yl yc, .slice xa2 xl2 xc2] 74) := ⟨_, rfl⟩
      first | rw [← hwE] | skip
      have hBE : Below w.heap.size w wE := by rw [hwE]; (repeat' (first | (with_reducible exact Below.refl _ _) | (with_reducible refine Below.alloc ?_ ?_ _) | (with_reducible refine Below.setCell ?_ ?_ _) | (with_reducible refine Below.drew ?_) | (refine below_hyp (by assumption) ?_ ?_) | go_size))
      have hTE : TOwn 2 rLodRef 35 w.heap.size w.heap.size wE (.slice va vn vc) xs := by rw [hwE]; exact HT.out.below rLodRef_goodE ((Below.refl _ _).alloc (Nat.le_refl _) _)
      clear hwE
      go_loopw [3, 22] (fun zo zj wr => ∃ (j : Nat) (v : Value) (ys : List DLodRef), j ≤ yl ∧ zo = v ∧ zj = .int .i64 j ∧ TOwn 2 rLodRef 35 w.heap.size w.heap.size wr v ys ∧ ys.length ≤ 5 * i + j ∧ Hid (ys = (allTo p i ++ (ownRefs i k.fOwns).take j).filter (thereB p)) ∧ Below w.heap.size w wr) (fun _ zj _ => yl - (intOf zj).toNat)
      case atStart => exact ⟨0, _, xs, Nat.zero_le _, rfl, rfl, hTE, by omega, Lib.hid (by rw [hxe.out]; simp), hBE⟩
      case round =>
        clear q1 q2
        obtain ⟨j, v, ys, hj, rfl, rfl, ht2, hx2, hye, hb2⟩ := hrel
        obtain ⟨ua, un, uc, rfl⟩ := ht2.sl.form3
        have HT2 := Lib.hid ht2
        clear ht2
        have hbs2 := hb2.size
        by_cases hlj : j < yl
        · have hlj2 : (j : Int) < (yl : Int) := by omega
          obtain ⟨b', off', rfl, _, hbl', hr'⟩ := y3 (by omega)
          obtain ⟨c', cs', g0, g1, g2, g3⟩ := hr' j hlj
          obtain ⟨u1, u2, rfl, d1, d2, bx1, bx2⟩ := g3
          obtain ⟨fa, fl, fc, rfl⟩ := d1.form
          obtain ⟨ma, ml, mc, rfl⟩ := d2.form
          have p1 : wr.cell? ⟨b', off' + j * 4, none⟩ = some (.string c'.fName) := keep_cell hb2 (g2 0 _ rfl)
          have p2 : wr.cell? ⟨b', off' + j * 4 + 1, none⟩ = some (.string c'.fSuper) := keep_cell hb2 (g2 1 _ rfl)
          have p3 : wr.cell? ⟨b', off' + j * 4 + 2, none⟩ = some (.slice fa fl fc) := keep_cell hb2 (g2 2 _ rfl)
          have p4 : wr.cell? ⟨b', off' + j * 4 + 3, none⟩ = some (.slice ma ml mc) := keep_cell hb2 (g2 3 _ rfl)
          obtain ⟨n9, hn9⟩ : ∃ n, (lodChain p ⟨(i : Int), c'.fName⟩).length = n := ⟨_, rfl⟩
          have HNX : Hid ((allTo p i ++ (ownRefs i k.fOwns).take (j + 1)).filter (thereB p) = ys ++ (if 0 < n9 then [⟨(i : Int), c'.fName⟩] else [])) := Lib.hid (by
            rw [ownRefs_next g0, ← List.append_assoc, List.filter_append, ← hye.out]
            congr 1
            by_cases h9 : 0 < n9 <;> simp [thereB, hn9, h9])
          have CH : ∀ W, Below w.heap.size w W → Calls Tryz.prog 23 #[.pointer (some ⟨L, 0, none⟩), .agg #[.int .i64 (i : Int), .string c'.fName]] W fun e w' => (∃ (ga : Option Addr) (gc : Nat), e = .returned (.slice ga n9 gc)) ∧ Below W.heap.size W w' := fun W hW =>
            (I_chain p L ⟨(i : Int), c'.fName⟩ W (HLO.out.below hW) HP.out bx1).mono fun e w' h => by
              obtain ⟨⟨v, rfl, hrf⟩, hb⟩ := h
              obtain ⟨ga, gc, rfl, _, _⟩ := own_form hrf
              exact ⟨⟨ga, gc, by rw [hn9]⟩, hb⟩
          clear hn9 g0 g1 g2 hr' d1 d2
          go_wp2_with fail
          refine (CH _ (by (repeat' (first | (with_reducible exact Below.refl _ _) | (with_reducible refine Below.alloc ?_ ?_ _) | (with_reducible refine Below.setCell ?_ ?_ _) | (with_reducible refine Below.drew ?_) | (refine below_hyp (by assumption) ?_ ?_) | go_size)))).mono ?_
          rintro _ wc ⟨⟨ga, gc, rfl⟩, hc⟩
          have HTC : Hid (TOwn 2 rLodRef 35 w.heap.size w.heap.size wc (.slice ua un uc) ys) := Lib.hid (HT2.out.below rLodRef_goodE (by (repeat' (first | (with_reducible exact Below.refl _ _) | (with_reducible refine Below.alloc ?_ ?_ _) | (with_reducible refine Below.setCell ?_ ?_ _) | (with_reducible refine Below.drew ?_) | (refine below_hyp (by assumption) ?_ ?_) | go_size))))
          have hbc : Below w.heap.size w wc := by (repeat' (first | (with_reducible exact Below.refl _ _) | (with_reducible refine Below.alloc ?_ ?_ _) | (with_reducible refine Below.setCell ?_ ?_ _) | (with_reducible refine Below.drew ?_) | (refine below_hyp (by assumption) ?_ ?_) | go_size))
          have hcs := (hc).size; (try simp only [World.size_alloc, World.size_setCell, World.size_drew] at hcs)
          have z0 : wc.cell? ⟨wr.heap.size + 1, 0, none⟩ = some (.int .i64 (i : Int)) := keep_cell hc (by go_simp)
          have z1 : wc.cell? ⟨wr.heap.size + 1, 1, none⟩ = some (.string c'.fName) := keep_cell hc (by go_simp)
          clear CH hc p1 p2 p3 p4
          by_cases h9 : 0 < n9
          · have h9' : (0 : Int) < (n9 : Int) := by omega
            go_wp2_with (at_builtin; refine wpList_append_F (B := w.heap.size) (lo := w.heap.size) (R := rLodRef) (E := NoT) (xs := ys) (ys := [⟨(i : Int), c'.fName⟩]) (css := [[.int .i64 (i : Int), .string c'.fName]]) (by rfl) (.tmp 35) (.tmp 37) 29 (by rfl) sty_RefE rLodRef_goodE (fun h => h) rLodRef_oneE (by rfl) (by rfl) (HTC.out.below rLodRef_goodE ((Below.refl _ _).alloc (Nat.le_refl _) _)) (Src.new (k := 2) (cs := [.int .i64 (i : Int), .string c'.fName])) (Rows.one rfl ⟨rfl, bx1⟩) (by simp; omega) (Nat.le_refl _) (by simp; omega) ?_)
            intro v9 wt ht9 hb9 hg9 hk9 hat9
            have hB9 : Below w.heap.size w wt := (hbc.trans ((Below.refl _ _).alloc (by omega) _)).trans hb9
            have hn9 : (ys ++ [(⟨(i : Int), c'.fName⟩ : DLodRef)]).length ≤ 5 * i + (j + 1) := by simp; omega
            have HT9 := Lib.hid ht9
            have HB9 := Lib.hid hB9
            clear ht9 hb9 hg9 hk9 hat9 hB9 z0 z1
            go_wp2
            go_roundw
            case measure => simp [intOf]; omega
            case rel => exact ⟨j + 1, _, _, by omega, rfl, by go_num, HT9.out, hn9, Lib.hid (by rw [HNX.out, if_pos h9]), HB9.out⟩
          · have h9' : ¬ (0 : Int) < (n9 : Int) := by omega
            go_wp2
            go_roundw
            case measure => simp [intOf]; omega
            case rel => exact ⟨j + 1, _, ys, by omega, rfl, by go_num, HTC.out, by omega, Lib.hid (by rw [HNX.out, if_neg h9]; simp), hbc⟩
        · obtain rfl : j = yl := by omega
          go_wp2
          go_roundw
          case measure => simp [intOf]; omega
          case rel => exact ⟨i + 1, _, ys, by omega, rfl, by go_num, HT2.out, by omega, Lib.hid (by rw [hye.out, allTo_next E0.out, ownRefs_all (by rw [HYLN.out]; exact Nat.le_refl _)]), hb2⟩
    · obtain rfl : i = len := by omega
      have RV : Hid (xs = (planAll p).filter (thereB p)) := Lib.hid (by rw [hxe.out]; unfold planAll; rw [HK.out])
      go_wp2
      all_goals (try go_returns)
      all_goals exact HR.out _ _ ⟨⟨_, rfl, by rw [← RV.out]; exact HT.out⟩, hb⟩

set_option maxRecDepth 100000 in
set_option maxHeartbeats 8000000 in
theorem I_PlanClasses (x : DLodPlan) (v1 : Value) (w : World) (s1 : Sl 2 rLodKeeper 0 w v1 x.fKeepers) :
    Calls Tryz.prog 17 #[.agg #[v1]] w fun e w' => (∃ u, e = .returned u ∧ Refs w' w.heap.size u (planClasses x)) ∧ Below w.heap.size w w' := by
  obtain ⟨a, len, cap, rfl⟩ := s1.form
  refine calls_hide fun R HR => ?_
  go_enter Tryz.func17, Tryz.ntmps17
  go_wp2_with fail
  refine (I_newLodge x _ _ (s1.stays rLodKeeper_good (Keeps.of_below' (B := w.heap.size) (by (repeat' (first | (with_reducible exact Below.refl _ _) | (with_reducible refine Below.alloc ?_ ?_ _) | (with_reducible refine Below.setCell ?_ ?_ _) | (with_reducible refine Below.drew ?_) | (refine below_hyp (by assumption) ?_ ?_) | go_size))) (Nat.le_refl _)))).mono ?_
  rintro _ wA ⟨hA, hq⟩
  have hEA : Below w.heap.size w wA := by (repeat' (first | (with_reducible exact Below.refl _ _) | (with_reducible refine Below.alloc ?_ ?_ _) | (with_reducible refine Below.setCell ?_ ?_ _) | (with_reducible refine Below.drew ?_) | (refine below_hyp (by assumption) ?_ ?_) | go_size))
  have hAs := (hA).size; (try simp only [World.size_alloc, World.size_setCell, World.size_drew] at hAs)
  obtain ⟨hAac, hAad, hAao, hAaf, hAag, hAap, hAaz, hAax, hAay⟩ := bfacts (n := w.heap.size) (k := 1) hA (by go_size) (by go_size); replace hAad := hAad (by decide); replace hAag := hAag (by decide); replace hAax := hAax (by decide); clear hAac hAaf hAaz
  rcases hq with ⟨hno, rfl⟩ | ⟨hy, L, rfl, hL⟩
  · have RV : Hid (planClasses x = []) := Lib.hid (by unfold planClasses; rw [hno]; rfl)
    clear hno
    go_wp2
    all_goals (try go_returns)
    all_goals exact HR.out _ _ ⟨⟨_, rfl, by rw [RV.out]; exact ⟨by simp [flatR], Or.inl ⟨rfl, rfl⟩⟩⟩, by (repeat' (first | (with_reducible exact Below.refl _ _) | (with_reducible refine Below.alloc ?_ ?_ _) | (with_reducible refine Below.setCell ?_ ?_ _) | (with_reducible refine Below.drew ?_) | (refine below_hyp (by assumption) ?_ ?_) | go_size))⟩
  · have RV : Hid (planClasses x = (planAll x).filter (thereB x)) := Lib.hid (by unfold planClasses; rw [hy]; rfl)
    have HL := Lib.hid hL
    have HY := Lib.hid hy
    clear hL hy
    go_wp2_with fail
    refine (I_classes x L _ HL.out HY.out).mono ?_
    rintro _ wB ⟨⟨v, rfl, hv⟩, hB⟩
    have hBs := (hB).size; (try simp only [World.size_alloc, World.size_setCell, World.size_drew] at hBs)
    have HV := Lib.hid (hv.refs (base := w.heap.size) (by omega))
    clear hv
    go_wp2
    all_goals (try go_returns)
    all_goals exact HR.out _ _ ⟨⟨_, rfl, by rw [RV.out]; exact HV.out⟩, by (repeat' (first | (with_reducible exact Below.refl _ _) | (with_reducible refine Below.alloc ?_ ?_ _) | (with_reducible refine Below.setCell ?_ ?_ _) | (with_reducible refine Below.drew ?_) | (refine below_hyp (by assumption) ?_ ?_) | go_size))⟩

end Go.Proofs.YtmmlhnjmjmbfpaaGreat
