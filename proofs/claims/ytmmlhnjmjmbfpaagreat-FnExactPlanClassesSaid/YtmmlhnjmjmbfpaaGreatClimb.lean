

/-
  The walk of the class above and those above it: climb. Condition: a lodge of keepers that are ok, and a class that is there.
-/
import Derived.Test.YtmmlhnjmjmbfpaaGreatAbove
import Derived.RangeFuncKeeps
import Derived.Shelf.Abstract
import Derived.RangeFuncOwn
namespace Go.Proofs.YtmmlhnjmjmbfpaaGreat
set_option linter.unusedSimpArgs false
set_option linter.unusedVariables false
open Go.RowKit

attribute [local go_sem] Oper.semAt_some

set_option maxRecDepth 100000 in
set_option maxHeartbeats 8000000 in
theorem I_above (L : Nat) (r : DLodRef) (w : World) :
    Calls Tryz.prog 55 #[.pointer (some ⟨L, 0, none⟩), .agg #[.int .i64 r.fKeeper, .string r.fName]] w fun e w' => e = .returned (.func (.func 69) #[] #[.pointer (some ⟨w.heap.size + 1, 0, none⟩), .pointer (some ⟨w.heap.size, 0, none⟩)]) ∧ w' = (w.alloc (.cells #[.pointer (some ⟨L, 0, none⟩)] 50)).alloc (.cells #[.int .i64 r.fKeeper, .string r.fName] 35) := by
  refine calls_hide fun R HR => ?_
  go_enter Tryz.func55, Tryz.ntmps55
  go_wp2
  all_goals (try go_returns)
  all_goals exact HR.out _ _ ⟨rfl, rfl⟩

/-- what the loop holds: the references that came, in a slice of its own; the result's boxes as they were made -/
def ClimbI (w0 : World) (s : List (DLodRef × Bool)) (W : World) : Prop := ∃ rs v, s = tt rs ∧ rs.length ≤ 6 ∧ Below w0.heap.size w0 W ∧ W.heap[w0.heap.size + 1]? = some (.cells #[.slice none 0 0] 29 (0, 0)) ∧ W.heap[w0.heap.size + 1 + 1]? = some (.cells #[.bool false] 4 (0, 0)) ∧ W.heap[w0.heap.size + 1 + 1 + 1]? = some (.cells #[v] 29 (0, 0)) ∧ Refs W (w0.heap.size + 1 + 1 + 1 + 1 + 1 + 1) v rs ∧ w0.heap.size + 1 + 1 + 1 + 1 + 1 + 1 ≤ W.heap.size
def ClimbX (p : DLodPlan) (r : DLodRef) (w0 : World) (_ : List (DLodRef × Bool)) (W : World) : Prop := chainR p r = none ∧ Below w0.heap.size w0 W ∧ W.heap[w0.heap.size + 1]? = some (.cells #[.slice none 0 0] 29 (0, 0)) ∧ W.heap[w0.heap.size + 1 + 1]? = some (.cells #[.bool false] 4 (0, 0))
theorem putObj_below {n0 : Nat} {W : World} {l : Nat} (o' : Obj) (h : n0 ≤ l) : Below n0 W (W.putObj l o') := ⟨rfl, rfl, rfl, by simp, fun k hk => World.putObj_heap_other (by omega)⟩
theorem Refs.form0 {w : World} {base : Nat} {v : Value} {rs : List DLodRef} (h : Refs w base v rs) : ∃ a cap, v = .slice a rs.length cap := by
  obtain ⟨_, h⟩ := h
  rcases h with ⟨h1, h0⟩ | ⟨g, cap, cur, h1, _⟩
  · exact ⟨none, 0, by rw [h1, h0]⟩
  · exact ⟨_, cap, h1⟩
theorem Refs.put {w : World} {base l : Nat} {v : Value} {rs : List DLodRef} {rec : Loop} (o' : Obj) (h : Refs w base v rs) (hl : w.heap[l]? = some (.loop rec)) : Refs (w.putObj l o') base v rs := by
  obtain ⟨h0, h⟩ := h
  rcases h with h | ⟨g, cap, cur, h1, h2, h3, h4⟩
  · exact ⟨h0, Or.inl h⟩
  · refine ⟨h0, Or.inr ⟨g, cap, cur, h1, h2, ?_, h4⟩⟩
    rw [World.putObj_heap_other]
    · exact h3
    · intro e; subst e; rw [hl] at h3; cases h3

theorem heap_top {w : World} {o : Obj} {k : Nat} (h : k = w.heap.size) : (w.alloc o).heap[k]? = some o := by subst h; exact World.alloc_heap_new w o
theorem tt_inj {a b : List DLodRef} (h : tt a = tt b) : a = b := by
  have h1 := congrArg (List.map Prod.fst) h
  simpa [tt, Function.comp_def] using h1
theorem tt_odd {a b : List DLodRef} : tt a ≠ tt b ++ [(noRef, false)] := by
  intro h
  have h1 : (noRef, false) ∈ tt a := by rw [h]; simp
  simp [tt] at h1
theorem Refs.ge {w : World} {base g : Nat} {v : Value} {rs : List DLodRef} (h : Refs w base v rs) (hg : v.ownBlock = some g) : base ≤ g := by
  obtain ⟨_, h⟩ := h
  rcases h with ⟨h1, h0⟩ | ⟨g', cap, cur, h1, h2, _⟩
  · rw [h1] at hg; cases hg
  · rw [h1] at hg; cases hg; exact h2
theorem Refs.cells {w : World} {base g : Nat} {v : Value} {rs : List DLodRef} (h : Refs w base v rs) (hg : v.ownBlock = some g) : ∃ cs t fr, w.heap[g]? = some (.cells cs t fr) := by
  obtain ⟨_, h⟩ := h
  rcases h with ⟨h1, h0⟩ | ⟨g', cap, cur, h1, h2, h3, _⟩
  · rw [h1] at hg; cases hg
  · rw [h1] at hg; cases hg; exact ⟨_, _, _, h3⟩
def ClimbA (L : Nat) (r : DLodRef) (w0 : World) (s : List (DLodRef × Bool)) (x : DLodRef × Bool) (b : Act) (W : World) : Prop := ClimbI w0 s W ∧ ∃ k, w0.heap.size + 1 + 1 + 1 + 1 + 1 + 1 ≤ k ∧ W.heap[k]? = some (.cells #[.int .i64 x.1.fKeeper, .string x.1.fName] 35 (0, 0)) ∧
  b = { tmps := #[.pointer (some ⟨L, 0, none⟩), .agg #[.int .i64 r.fKeeper, .string r.fName], undef, .pointer (some ⟨w0.heap.size, 0, none⟩), .pointer (some ⟨w0.heap.size + 1, 0, none⟩), .pointer (some ⟨w0.heap.size + 1 + 1, 0, none⟩), .pointer (some ⟨w0.heap.size + 1 + 1 + 1, 0, none⟩), .pointer (some ⟨k, 0, none⟩), .bool x.2, .pointer (some ⟨L, 0, none⟩), .agg #[.int .i64 r.fKeeper, .string r.fName], .func (.func 69) #[] #[.pointer (some ⟨w0.heap.size + 1 + 1 + 1 + 1 + 1, 0, none⟩), .pointer (some ⟨w0.heap.size + 1 + 1 + 1 + 1, 0, none⟩)], .agg #[.int .i64 x.1.fKeeper, .string x.1.fName], .bool x.2, undef, undef, undef, undef, undef, undef, undef, undef, undef, undef, undef, undef], defers := [] }
theorem climbI_put {w0 : World} {s : List (DLodRef × Bool)} {W : World} {l : Nat} {rec : Loop} (o' : Obj) (h : ClimbI w0 s W) (hl : w0.heap.size + 1 + 1 + 1 + 1 + 1 + 1 ≤ l) (hr : W.heap[l]? = some (.loop rec)) : ClimbI w0 s (W.putObj l o') := by
  obtain ⟨rs, v, h1, h2, h3, h4, h5, h6, h7, h8⟩ := h
  exact ⟨rs, v, h1, h2, h3.trans (putObj_below o' (by omega)), (World.putObj_heap_other (by omega)).trans h4, (World.putObj_heap_other (by omega)).trans h5, (World.putObj_heap_other (by omega)).trans h6, h7.put o' hr, by simpa using h8⟩
theorem climbI_below {w0 : World} {s : List (DLodRef × Bool)} {W W' : World} (h : ClimbI w0 s W) (hb : Below W.heap.size W W') : ClimbI w0 s W' := by
  obtain ⟨rs, v, h1, h2, h3, h4, h5, h6, h7, h8⟩ := h
  exact ⟨rs, v, h1, h2, h3.trans (hb.mono (by omega)), (hb.block _ (by omega)).trans h4, (hb.block _ (by omega)).trans h5, (hb.block _ (by omega)).trans h6, h7.below hb, by have := hb.size; omega⟩
theorem climbI_cell {w0 : World} {s : List (DLodRef × Bool)} {W : World} (i : Nat) (u : Value) (h : ClimbI w0 s W) : ClimbI w0 s (W.setCell ⟨w0.heap.size + 1 + 1 + 1 + 1 + 1, i, none⟩ u) := by
  obtain ⟨rs, v, h1, h2, h3, h4, h5, h6, h7, h8⟩ := h
  refine ⟨rs, v, h1, h2, h3.setCell (by show _ ≤ w0.heap.size + 1 + 1 + 1 + 1 + 1; omega) _, ?_, ?_, ?_, h7.kept fun g hg => ?_, by simpa using h8⟩
  · rw [Below.heap_setCell _ _ _ _ (by show _ ≠ w0.heap.size + 1 + 1 + 1 + 1 + 1; omega)]; exact h4
  · rw [Below.heap_setCell _ _ _ _ (by show _ ≠ w0.heap.size + 1 + 1 + 1 + 1 + 1; omega)]; exact h5
  · rw [Below.heap_setCell _ _ _ _ (by show _ ≠ w0.heap.size + 1 + 1 + 1 + 1 + 1; omega)]; exact h6
  · have := h7.ge hg
    rw [Below.heap_setCell _ _ _ _ (by show _ ≠ w0.heap.size + 1 + 1 + 1 + 1 + 1; omega)]

set_option maxRecDepth 100000 in
set_option maxHeartbeats 8000000 in
theorem I_climb (p : DLodPlan) (L : Nat) (r : DLodRef) (w : World) (hl : Lodge w L p) (hp : lodOk p = true) (ht : There p r) :
    Calls Tryz.prog 40 #[.pointer (some ⟨L, 0, none⟩), .agg #[.int .i64 r.fKeeper, .string r.fName]] w (ChainPost w (chainR p r)) := by
  refine (callsIn_wide (n := 3)).1 ?_
  refine callsIn_of_wp_marks Tryz.func40 rfl trivial ?_ rfl
  simp only [Tryz.ntmps40, List.size_toArray, List.length_cons, List.length_nil, Nat.reduceAdd, Nat.reduceSub, Array.replicate_succ, Array.replicate_zero, List.push_toArray, List.append_toArray, List.nil_append, List.cons_append]
  have HL := Lib.hid hl
  have HP := Lib.hid hp
  have HT := Lib.hid ht
  clear hl hp ht
  obtain ⟨i0, hi, hz0, hz1, hz2⟩ := info_parts (show (Tryz.prog.info? 35).map (fun i => (i.zero, i.size, i.bytes)) = some (some (.agg #[.int .i64 0, .string ⟨#[]⟩]), 2, 24) by kernel_rfl)
  have I0 := Lib.hid hi
  have Z0 := Lib.hid hz0
  have Z1 := Lib.hid hz1
  have Z2 := Lib.hid hz2
  clear hi hz0 hz1 hz2
  gi_wp2_with (refine ⟨trivial, ?_⟩; gi_at_call 55; refine (callsIn_wide.2 (I_above L r _)).mono ?_; rintro e w' ⟨rfl, rfl⟩)
  obtain ⟨wS, hwS⟩ : ∃ wS, wS = ((((((w.alloc (.cells #[.int .i64 r.fKeeper, .string r.fName] 35)).alloc (.cells #[.slice none 0 0] 29)).alloc (.cells #[.bool false] 4)).alloc (.cells #[.slice none 0 0] 29)).alloc (.cells #[.pointer (some ⟨L, 0, none⟩)] 50)).alloc (.cells #[.int .i64 r.fKeeper, .string r.fName] 35)) := ⟨_, rfl⟩
  rw [← hwS]
  have hbS : Below w.heap.size w wS := by rw [hwS]; (repeat' (first | (with_reducible exact Below.refl _ _) | (with_reducible refine Below.alloc ?_ ?_ _) | (with_reducible refine Below.setCell ?_ ?_ _) | (with_reducible refine Below.drew ?_) | (refine below_hyp (by assumption) ?_ ?_) | go_size))
  have hsz : wS.heap.size = w.heap.size + 1 + 1 + 1 + 1 + 1 + 1 := by rw [hwS]; simp only [World.size_alloc]
  have k1 : wS.heap[w.heap.size + 1]? = some (.cells #[.slice none 0 0] 29 (0, 0)) := by rw [hwS]; repeat (first | refine (Below.heap_alloc _ _ _ (by simp only [World.size_alloc]; omega)).trans ?_ | exact heap_top (by simp only [World.size_alloc]))
  have k2 : wS.heap[w.heap.size + 1 + 1]? = some (.cells #[.bool false] 4 (0, 0)) := by rw [hwS]; repeat (first | refine (Below.heap_alloc _ _ _ (by simp only [World.size_alloc]; omega)).trans ?_ | exact heap_top (by simp only [World.size_alloc]))
  have k3 : wS.heap[w.heap.size + 1 + 1 + 1]? = some (.cells #[.slice none 0 0] 29 (0, 0)) := by rw [hwS]; repeat (first | refine (Below.heap_alloc _ _ _ (by simp only [World.size_alloc]; omega)).trans ?_ | exact heap_top (by simp only [World.size_alloc]))
  have k4 : wS.heap[w.heap.size + 1 + 1 + 1 + 1]? = some (.cells #[.pointer (some ⟨L, 0, none⟩)] 50 (0, 0)) := by rw [hwS]; repeat (first | refine (Below.heap_alloc _ _ _ (by simp only [World.size_alloc]; omega)).trans ?_ | exact heap_top (by simp only [World.size_alloc]))
  have k5 : wS.heap[w.heap.size + 1 + 1 + 1 + 1 + 1]? = some (.cells #[.int .i64 r.fKeeper, .string r.fName] 35 (0, 0)) := by rw [hwS]; repeat (first | refine (Below.heap_alloc _ _ _ (by simp only [World.size_alloc]; omega)).trans ?_ | exact heap_top (by simp only [World.size_alloc]))
  clear hwS
  refine range_gives (α := DLodRef × Bool) (m := 1) (gf := 69) (lb := #[.pointer (some ⟨w.heap.size + 1 + 1 + 1 + 1 + 1, 0, none⟩), .pointer (some ⟨w.heap.size + 1 + 1 + 1 + 1, 0, none⟩)]) rfl (enters_of Tryz.func69 (by kernel_rfl) rfl) (enc := encB) (fun _ => rfl) (Kp := KpA w.heap.size (w.heap.size + 1 + 1 + 1 + 1 + 1) (w.heap.size + 1 + 1 + 1 + 1)) kpA_t ?Kb (kpA_w _ _ _) (G := GivesAt p r) (S := AllAt p r) (rb := w.heap.size + 1 + 1 + 1 + 1 + 1) (N := 6) (by omega)
    (I_above_gives p L r w wS HL.out HP.out HT.out hbS _ _ 1 (by omega) (by omega) (by omega) k5 k4) (ClimbI w) (ClimbX p r w) (ClimbA L r w) (fun s W W' h hb => climbI_below h hb) (fun s W l rec o' h hl hr => climbI_put o' h (by omega) hr) ?Xp ?Ap (fun s W i v h => climbI_cell i v h) ?In ?h0 ?assign ?body ?done ?stop
  case Kb =>
    intro W l rec o' hl hr h1 h2 h3
    exact ⟨putObj_below o' (by omega), World.putObj_heap_other (by omega), World.putObj_heap_other (by omega)⟩
  case Xp =>
    rintro s W l rec o' ⟨h1, h2, h3, h4⟩ hl hr
    exact ⟨h1, h2.trans (putObj_below o' (by omega)), (World.putObj_heap_other (by omega)).trans h3, (World.putObj_heap_other (by omega)).trans h4⟩
  case Ap =>
    rintro s x b W l rec o' ⟨hi, k, h1, h2, h3⟩ hl hr
    refine ⟨climbI_put o' hi (by omega) hr, k, h1, ?_, h3⟩
    rw [World.putObj_heap_other]
    · exact h2
    · intro e; subst e; rw [hr] at h2; cases h2
  case In =>
    rintro s W ⟨rs, v, rfl, h, _⟩
    simpa [tt] using h
  case h0 => exact ⟨[], .slice none 0 0, rfl, by simp, hbS, k1, k2, k3, ⟨rfl, Or.inl ⟨rfl, rfl⟩⟩, by omega⟩
  case assign =>
    intro l s x W hI hG
    clear k1 k2 k3 k4 k5
    have HI := Lib.hid hI
    obtain ⟨rs, v, h1, h2, h3, h4, h5, h6, h7, h8⟩ := hI
    clear h1 h2 h3 h4 h5 h6 h7
    unfold encB
    dsimp only [List.zip_toArray, Array.zip]
    gi_wp2
    exact ⟨(Below.refl _ _).alloc (Nat.le_refl _) _, climbI_below HI.out ((Below.refl _ _).alloc (Nat.le_refl _) _), _, h8, heap_top rfl, rfl⟩
  case body =>
    clear k1 k2 k3 k4 k5
    rintro l s ⟨x, ok⟩ b W ⟨⟨rs, v, rfl, h2, h3, h4, h5, h6, h7, h8⟩, k, hk, hkc, rfl⟩ ⟨rs', hrs, hG⟩
    obtain rfl := tt_inj hrs
    obtain ⟨va, vc, rfl⟩ := h7.form0
    have d4 : W.cell? ⟨w.heap.size + 1, 0, none⟩ = some (.slice none 0 0) := by simp [World.cell?, h4]
    have d5 : W.cell? ⟨w.heap.size + 1 + 1, 0, none⟩ = some (.bool false) := by simp [World.cell?, h5]
    have d6 : W.cell? ⟨w.heap.size + 1 + 1 + 1, 0, none⟩ = some (.slice va rs.length vc) := by simp [World.cell?, h6]
    have f4 : W.frozen? ⟨w.heap.size + 1, 0, none⟩ = false := by simp [World.frozen?, h4]
    have f5 : W.frozen? ⟨w.heap.size + 1 + 1, 0, none⟩ = false := by simp [World.frozen?, h5]
    have f6 : W.frozen? ⟨w.heap.size + 1 + 1 + 1, 0, none⟩ = false := by simp [World.frozen?, h6]
    obtain ⟨e0, e1, _, _⟩ := two_cells hkc
    have out : chainR p r = none → roundEnd (w.heap.size + 1 + 1 + 1 + 1 + 1 + 1) (KpA w.heap.size (w.heap.size + 1 + 1 + 1 + 1 + 1) (w.heap.size + 1 + 1 + 1 + 1)) (ClimbI w) (ClimbX p r w) (tt rs ++ [(x, ok)]) W .ret { tmps := #[], defers := [] } ((W.setCell ⟨w.heap.size + 1, 0, none⟩ (.slice none 0 0)).setCell ⟨w.heap.size + 1 + 1, 0, none⟩ (.bool false)) := fun hc => by
      refine ⟨((KeepsOthers.setCell _ _ _).trans (KeepsOthers.setCell _ _ _)).from _, hc, (h3.setCell (by show _ ≤ w.heap.size + 1; omega) _).setCell (by show _ ≤ w.heap.size + 1 + 1; omega) _, ?_, ?_⟩
      · rw [Below.heap_setCell _ _ _ _ (by show _ ≠ w.heap.size + 1 + 1; omega)]
        have h := heap_setCell_at (i := 0) (v := .slice none 0 0) h4
        simpa using h
      · have h := heap_setCell_at (i := 0) (v := .bool false) ((Below.heap_setCell W ⟨w.heap.size + 1, 0, none⟩ (.slice none 0 0) (w.heap.size + 1 + 1) (by show _ ≠ w.heap.size + 1; omega)).trans h5)
        simpa using h
    have OUT := Lib.hid out
    clear out
    rcases hG with ⟨y, hy, hpt⟩ | ⟨hy, hno⟩
    · cases hy
      by_cases h6l : rs.length = 6
      · have HNO : Hid (chainR p r = none) := Lib.hid (by
          have h := hpt.2.2
          rw [h6l] at h
          exact chain_deep h)
        gi_wp2
        exact OUT.out HNO.out
      · have hlt : rs.length ≤ 5 := by omega
        have C0 : (W.alloc (.cells #[.int .i64 x.fKeeper, .string x.fName] 35)).ownsRow (w.heap.size + 1 + 1 + 1 + 1 + 1 + 1) 35 2 (.slice va rs.length vc) rs.length (flatR rs) := h7.below ((Below.refl _ _).alloc (Nat.le_refl _) _)
        have C1 : ∀ j u, ([.int .i64 x.fKeeper, .string x.fName] : List Value)[j]? = some u → (W.alloc (.cells #[.int .i64 x.fKeeper, .string x.fName] 35)).cell? ((⟨W.heap.size, 0, none⟩ : Addr).add j) = some u := by
          intro q u hq
          match q, hq with
          | 0, hq => cases hq; simp [Addr.add]
          | 1, hq => cases hq; simp [Addr.add]
          | q + 2, hq => simp at hq
        have C2 : ∀ u ∈ ([.int .i64 x.fKeeper, .string x.fName] : List Value), u.oneCell' = true := by intro u hu; simp at hu; rcases hu with rfl | rfl <;> rfl
        have C3 : rs.length + 1 ≤ maxLen := by unfold maxLen; omega
        have C4 : (rs.length + 1) * 24 ≤ 140737488355328 := by omega
        have C5 : w.heap.size + 1 + 1 + 1 + 1 + 1 + 1 ≤ (W.alloc (.cells #[.int .i64 x.fKeeper, .string x.fName] 35)).heap.size := by simp; omega
        have APP : ∀ v' w1, w1.ownsRow (w.heap.size + 1 + 1 + 1 + 1 + 1 + 1) 35 2 v' (rs.length + 1) (flatR rs ++ [.int .i64 x.fKeeper, .string x.fName]) → (W.alloc (.cells #[.int .i64 x.fKeeper, .string x.fName] 35)).grownBy w1 (Value.slice va rs.length vc).ownBlock →
            w1.cell? ⟨w.heap.size + 1 + 1 + 1, 0, none⟩ = some (.slice va rs.length vc) ∧ w1.frozen? ⟨w.heap.size + 1 + 1 + 1, 0, none⟩ = false ∧ (∃ a c, v' = .slice a (rs.length + 1) c) ∧
            roundEnd (w.heap.size + 1 + 1 + 1 + 1 + 1 + 1) (KpA w.heap.size (w.heap.size + 1 + 1 + 1 + 1 + 1) (w.heap.size + 1 + 1 + 1 + 1)) (ClimbI w) (ClimbX p r w) (tt rs ++ [(x, true)]) W .normal { tmps := #[], defers := [] } (w1.setCell ⟨w.heap.size + 1 + 1 + 1, 0, none⟩ v') := by
          intro v' w1 hown' hg
          have blk : ∀ q, q < W.heap.size + 1 → (Value.slice va rs.length vc).ownBlock ≠ some q → w1.heap[q]? = (W.alloc (.cells #[.int .i64 x.fKeeper, .string x.fName] 35)).heap[q]? := fun q hq hn => hg.block q (by simp; omega) (fun e => hn e.symm)
          have own : ∀ q, q < w.heap.size + 1 + 1 + 1 + 1 + 1 + 1 → (Value.slice va rs.length vc).ownBlock ≠ some q := fun q hq e => by have := h7.ge e; omega
          have B4 : w1.heap[w.heap.size + 1]? = some (.cells #[.slice none 0 0] 29 (0, 0)) := (blk _ (by omega) (own _ (by omega))).trans ((Below.heap_alloc _ _ _ (by omega)).trans h4)
          have B5 : w1.heap[w.heap.size + 1 + 1]? = some (.cells #[.bool false] 4 (0, 0)) := (blk _ (by omega) (own _ (by omega))).trans ((Below.heap_alloc _ _ _ (by omega)).trans h5)
          have B6 : w1.heap[w.heap.size + 1 + 1 + 1]? = some (.cells #[.slice va rs.length vc] 29 (0, 0)) := (blk _ (by omega) (own _ (by omega))).trans ((Below.heap_alloc _ _ _ (by omega)).trans h6)
          have R1 : Refs w1 (w.heap.size + 1 + 1 + 1 + 1 + 1 + 1) v' (rs ++ [x]) := by
            unfold Refs
            rw [List.length_append, flatR_snoc]
            exact hown'
          have kf : KeepsFrom (w.heap.size + 1 + 1 + 1 + 1 + 1 + 1) W w1 := ⟨by have := hg.size; simp at this; omega, fun q o hq ho hc => (blk q (by have := (Array.getElem?_eq_some_iff.1 ho).1; omega) (fun e => by obtain ⟨cs, t, fr, h⟩ := h7.cells e; rw [h] at ho; cases ho; simp [Obj.isCells] at hc)).trans ((Below.heap_alloc _ _ _ (Array.getElem?_eq_some_iff.1 ho).1).trans ho)⟩
          have bel : Below w.heap.size W w1 := ((Below.refl _ W).alloc (by omega) _).grown hg (by simp; omega) (fun q e => by have := h7.ge e; omega)
          have kr : w1.heap[w.heap.size + 1 + 1 + 1 + 1 + 1]? = W.heap[w.heap.size + 1 + 1 + 1 + 1 + 1]? := (blk _ (by omega) (own _ (by omega))).trans (Below.heap_alloc _ _ _ (by omega))
          have kl : w1.heap[w.heap.size + 1 + 1 + 1 + 1]? = W.heap[w.heap.size + 1 + 1 + 1 + 1]? := (blk _ (by omega) (own _ (by omega))).trans (Below.heap_alloc _ _ _ (by omega))
          have g6 : w1.cell? ⟨w.heap.size + 1 + 1 + 1, 0, none⟩ = some (.slice va rs.length vc) := by simp [World.cell?, B6]
          have gf6 : w1.frozen? ⟨w.heap.size + 1 + 1 + 1, 0, none⟩ = false := by simp [World.frozen?, B6]
          have FIN : (roundEnd (w.heap.size + 1 + 1 + 1 + 1 + 1 + 1) (KpA w.heap.size (w.heap.size + 1 + 1 + 1 + 1 + 1) (w.heap.size + 1 + 1 + 1 + 1)) (ClimbI w) (ClimbX p r w) (tt rs ++ [(x, true)]) W .normal { tmps := #[], defers := [] } (w1.setCell ⟨w.heap.size + 1 + 1 + 1, 0, none⟩ v')) := (by
            refine ⟨kf.trans ((KeepsOthers.setCell _ _ _).from _), fun _ _ _ => ⟨bel.setCell (by show _ ≤ w.heap.size + 1 + 1 + 1; omega) _, ?_, ?_⟩, rs ++ [x], v', by rw [tt_snoc], by simp; omega, (h3.trans bel).setCell (by show _ ≤ w.heap.size + 1 + 1 + 1; omega) _, ?_, ?_, ?_, ?_, ?_⟩
            · rw [Below.heap_setCell _ _ _ _ (by show _ ≠ w.heap.size + 1 + 1 + 1; omega)]; exact kr
            · rw [Below.heap_setCell _ _ _ _ (by show _ ≠ w.heap.size + 1 + 1 + 1; omega)]; exact kl
            · rw [Below.heap_setCell _ _ _ _ (by show _ ≠ w.heap.size + 1 + 1 + 1; omega)]; exact B4
            · rw [Below.heap_setCell _ _ _ _ (by show _ ≠ w.heap.size + 1 + 1 + 1; omega)]; exact B5
            · have h := heap_setCell_at (i := 0) (v := v') B6
              simpa using h
            · refine R1.kept fun g hg' => ?_
              have := R1.ge hg'
              rw [Below.heap_setCell _ _ _ _ (by show _ ≠ w.heap.size + 1 + 1 + 1; omega)]
            · have := kf.size; simp; omega)
          obtain ⟨av, cv, hv⟩ := R1.form0
          rw [List.length_append] at hv
          exact ⟨g6, gf6, ⟨av, cv, hv⟩, FIN⟩
        have HC0 := Lib.hid C0
        have HC1 := Lib.hid C1
        have HC2 := Lib.hid C2
        have HC3 := Lib.hid C3
        have HC4 := Lib.hid C4
        have HC5 := Lib.hid C5
        have HAPP := Lib.hid APP
        clear C0 C1 C2 C3 C4 C5 APP
        gi_wp2_with (gi_at_builtin; refine wpListIn_append_own _ rfl (.tmp 21) (.tmp 23) 29 rfl (w.heap.size + 1 + 1 + 1 + 1 + 1 + 1) 35 i0 (.agg #[.int .i64 0, .string ⟨#[]⟩]) 2 24 Tryz.underlying29 I0.out Z0.out Z1.out Z2.out rfl (by decide) _ rs.length (flatR rs) rfl HC0.out ⟨W.heap.size, 0, none⟩ 1 1 [.int .i64 x.fKeeper, .string x.fName] rfl rfl HC1.out HC2.out HC3.out HC4.out HC5.out ?_; intro v' w1 hown' hg _; obtain ⟨g6, gf6, ⟨va', vc', rfl⟩, fin⟩ := HAPP.out v' w1 hown' hg; have FIN := Lib.hid fin; clear fin hown' hg)
        exact FIN.out
    · cases hy
      gi_wp2
      exact OUT.out hno
  case done =>
    clear k1 k2 k3 k4 k5
    rintro D s W hD hS ⟨rs, v, rfl, h2, h3, h4, h5, h6, h7, h8⟩ hK
    have HS : chainR p r = some rs := by
      rcases hS with ⟨rs', e, h⟩ | ⟨rs', e⟩
      · rw [tt_inj e]; exact h
      · exact absurd e tt_odd
    obtain ⟨va, vc, rfl⟩ := h7.form0
    have d4 : W.cell? ⟨w.heap.size + 1, 0, none⟩ = some (.slice none 0 0) := by simp [World.cell?, h4]
    have d5 : W.cell? ⟨w.heap.size + 1 + 1, 0, none⟩ = some (.bool false) := by simp [World.cell?, h5]
    have d6 : W.cell? ⟨w.heap.size + 1 + 1 + 1, 0, none⟩ = some (.slice va rs.length vc) := by simp [World.cell?, h6]
    have f4 : W.frozen? ⟨w.heap.size + 1, 0, none⟩ = false := by simp [World.frozen?, h4]
    have f5 : W.frozen? ⟨w.heap.size + 1 + 1, 0, none⟩ = false := by simp [World.frozen?, h5]
    have HSS := Lib.hid HS
    clear HS hS
    gi_wp2
    have hK' := ((KeepsOthers.setCell W ⟨w.heap.size + 1, 0, none⟩ (.slice va rs.length vc)).trans (KeepsOthers.setCell _ ⟨w.heap.size + 1 + 1, 0, none⟩ (.bool true))).same D _ hK rfl
    have B4 : ((W.setCell ⟨w.heap.size + 1, 0, none⟩ (.slice va rs.length vc)).setCell ⟨w.heap.size + 1 + 1, 0, none⟩ (.bool true)).heap[w.heap.size + 1]? = some (.cells #[.slice va rs.length vc] 29 (0, 0)) := by
      rw [Below.heap_setCell _ _ _ _ (by show _ ≠ w.heap.size + 1 + 1; omega)]
      have h := heap_setCell_at (i := 0) (v := .slice va rs.length vc) h4
      simpa using h
    have B5 : ((W.setCell ⟨w.heap.size + 1, 0, none⟩ (.slice va rs.length vc)).setCell ⟨w.heap.size + 1 + 1, 0, none⟩ (.bool true)).heap[w.heap.size + 1 + 1]? = some (.cells #[.bool true] 4 (0, 0)) := by
      have h := heap_setCell_at (i := 0) (v := .bool true) ((Below.heap_setCell W ⟨w.heap.size + 1, 0, none⟩ (.slice va rs.length vc) (w.heap.size + 1 + 1) (by show _ ≠ w.heap.size + 1; omega)).trans h5)
      simpa using h
    have hB : Below w.heap.size w ((W.setCell ⟨w.heap.size + 1, 0, none⟩ (.slice va rs.length vc)).setCell ⟨w.heap.size + 1 + 1, 0, none⟩ (.bool true)) := (h3.setCell (by show _ ≤ w.heap.size + 1; omega) _).setCell (by show _ ≤ w.heap.size + 1 + 1; omega) _
    have hR : Refs ((W.setCell ⟨w.heap.size + 1, 0, none⟩ (.slice va rs.length vc)).setCell ⟨w.heap.size + 1 + 1, 0, none⟩ (.bool true)) (w.heap.size + 1 + 1 + 1 + 1 + 1 + 1) (.slice va rs.length vc) rs := h7.kept fun g hg => by
      have := h7.ge hg
      rw [Below.heap_setCell _ _ _ _ (by show _ ≠ w.heap.size + 1 + 1; omega), Below.heap_setCell _ _ _ _ (by show _ ≠ w.heap.size + 1; omega)]
    generalize hW2 : (W.setCell ⟨w.heap.size + 1, 0, none⟩ (.slice va rs.length vc)).setCell ⟨w.heap.size + 1 + 1, 0, none⟩ (.bool true) = W2 at hK' B4 B5 hB hR ⊢
    refine ⟨by simp, .inl ⟨_, _, rfl, run_takeDeferred hK', ?_⟩⟩
    have c4 : (W2.putObj D (.deferred none)).cell? ⟨w.heap.size + 1, 0, none⟩ = some (.slice va rs.length vc) := by rw [cell_of_heap (World.putObj_heap_other (by omega))]; simp [World.cell?, B4]
    have c5 : (W2.putObj D (.deferred none)).cell? ⟨w.heap.size + 1 + 1, 0, none⟩ = some (.bool true) := by rw [cell_of_heap (World.putObj_heap_other (by omega))]; simp [World.cell?, B5]
    refine ⟨.tuple #[.slice va rs.length vc, .bool true], ?_, hB.trans (putObj_below _ (by omega)), _, by rw [HSS.out]; rfl, fun rs' h => ?_⟩
    · simp [results, Tryz.f40, go_sem, c4, c5]
    · rw [HSS.out] at h
      cases h
      refine (hR.kept fun g hg => ?_).low (by omega)
      obtain ⟨cs, t, fr, hc⟩ := hR.cells hg
      rw [World.putObj_heap_other]
      intro e; subst e; rw [hK'] at hc; cases hc
  case stop =>
    clear k1 k2 k3 k4 k5
    rintro D s W hD ⟨h1, h2, h3, h4⟩ hK
    have H1 := Lib.hid h1
    clear h1
    gi_wp2
    refine ⟨by simp, .inl ⟨_, _, rfl, run_takeDeferred hK, ?_⟩⟩
    have c4 : (W.putObj D (.deferred none)).cell? ⟨w.heap.size + 1, 0, none⟩ = some (.slice none 0 0) := by rw [cell_of_heap (World.putObj_heap_other (by omega))]; simp [World.cell?, h3]
    have c5 : (W.putObj D (.deferred none)).cell? ⟨w.heap.size + 1 + 1, 0, none⟩ = some (.bool false) := by rw [cell_of_heap (World.putObj_heap_other (by omega))]; simp [World.cell?, h4]
    refine ⟨.tuple #[.slice none 0 0, .bool false], ?_, h2.trans (putObj_below _ (by omega)), _, by rw [H1.out]; rfl, fun rs' h => by rw [H1.out] at h; cases h⟩
    simp [results, Tryz.f40, go_sem, c4, c5]

end Go.Proofs.YtmmlhnjmjmbfpaaGreat
