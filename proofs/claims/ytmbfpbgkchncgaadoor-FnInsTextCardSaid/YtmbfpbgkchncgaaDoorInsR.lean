

/-
  The walk of the reference's InsRead. Condition: the text is short.
-/
import Derived.Test.YtmbfpbgkchncgaaDoorWordT
import Derived.Test.YtmbfpbgkchncgaaDoorReg
namespace Go.Proofs.YtmbfpbgkchncgaaDoor
set_option linter.unusedSimpArgs false
set_option linter.unusedVariables false
open Go.RowKit

theorem str_cells {e : TypeId} {lo : Nat} {w : World} {v : Value} {xs : List ByteArray} (h : TSl 1 rStr e lo w v xs) (hn : 0 < xs.length) :
    ∃ g cap, v = .slice (some ⟨g, 0, none⟩) xs.length cap ∧ lo ≤ g ∧ xs.length ≤ cap ∧ cap ≤ maxLen ∧ (∀ j x, xs[j]? = some x → w.cell? ⟨g, j, none⟩ = some (.string x)) := by
  obtain ⟨css, h1, h2⟩ := h
  obtain ⟨g, cap, e1, e2, e3, e4, e5, e6, _⟩ := own_cell h2 hn
  refine ⟨g, cap, e1, e2, e4, e5, fun j x hx => ?_⟩
  obtain ⟨cs, hcs⟩ : ∃ cs, css[j]? = some cs := ⟨_, List.getElem?_eq_getElem (by rw [h1.len]; exact (List.getElem?_eq_some_iff.1 hx).1)⟩
  obtain ⟨hk, rfl, _⟩ := h1.row j x cs hx hcs
  have := flat_at h1.each hcs (j := 0) (by decide)
  rw [Nat.mul_one, Nat.add_zero] at this
  exact e6 j _ this
/-- a block of four cells, that may be written -/
structure Four (w : World) (b : Nat) (x0 x1 x2 x3 : Value) : Prop where
  lt : b < w.heap.size
  c0 : w.cell? ⟨b, 0, none⟩ = some x0
  c1 : w.cell? ⟨b, 1, none⟩ = some x1
  c2 : w.cell? ⟨b, 2, none⟩ = some x2
  c3 : w.cell? ⟨b, 3, none⟩ = some x3
  f0 : w.frozen? ⟨b, 0, none⟩ = false
  f1 : w.frozen? ⟨b, 1, none⟩ = false
  f2 : w.frozen? ⟨b, 2, none⟩ = false
  f3 : w.frozen? ⟨b, 3, none⟩ = false
theorem Four.keep {w w' : World} {b : Nat} {x0 x1 x2 x3 : Value} (h : Four w b x0 x1 x2 x3) (hb : Below w.heap.size w w') : Four w' b x0 x1 x2 x3 :=
  ⟨Nat.lt_of_lt_of_le h.lt hb.size, keep_cell hb h.c0, keep_cell hb h.c1, keep_cell hb h.c2, keep_cell hb h.c3, (hb.frozen h.lt).trans h.f0, (hb.frozen h.lt).trans h.f1, (hb.frozen h.lt).trans h.f2, (hb.frozen h.lt).trans h.f3⟩
theorem Four.new (w : World) (x0 x1 x2 x3 : Value) (t : TypeId) : Four (w.alloc (.cells #[x0, x1, x2, x3] t)) w.heap.size x0 x1 x2 x3 := by
  refine ⟨by simp, ?_, ?_, ?_, ?_, ?_, ?_, ?_, ?_⟩ <;> go_simp
def insT (x : DClsIns × Bool) : Value := .tuple #[.agg #[.int .i64 x.1.fOp, .int .i64 x.1.fA, .string x.1.fName, .string x.1.fMember], .bool x.2]
theorem tx_by' (s : ByteArray) : tx (by' s) = s := tx_by s
theorem isW_iff {s : ByteArray} {l : List UInt8} : isW s l = true ↔ s = tx l := by
  unfold isW
  rw [beq_iff_eq]
  constructor
  · intro h; rw [← h, tx_by']
  · intro h; rw [h]; rfl
theorem insTry_long {op : Int} {s : ByteArray} (h : 30 < s.size) : insTry op s = (nilIns, false) := by
  unfold insTry; rw [if_pos (.inl h)]
theorem insTry_no {op : Int} {s : ByteArray} (h : (tx (insTxt (insOf op (words s)).fOp (insOf op (words s)).fA (insOf op (words s)).fName (insOf op (words s)).fMember)).toList ≠ s.toList) : insTry op s = (nilIns, false) := by
  unfold insTry
  refine if_pos (.inr ?_)
  rw [insText_txt]
  intro e
  apply h
  rw [e, tx_by']
theorem insTry_yes {op : Int} {s : ByteArray} (h0 : ¬ 30 < s.size) (h : (tx (insTxt (insOf op (words s)).fOp (insOf op (words s)).fA (insOf op (words s)).fName (insOf op (words s)).fMember)).toList = s.toList) : insTry op s = (insOf op (words s), true) := by
  unfold insTry
  refine if_neg ?_
  rintro (h1 | h1)
  · exact h0 h1
  · apply h1
    rw [insText_txt]
    rw [ByteArray.toList_eq, ByteArray.toList_eq] at h
    exact h

theorem ins_fin {op A : Int} {N M s : ByteArray} (h : insOf op (words s) = ⟨op, A, N, M⟩) (R : insRead s = insTry op s) :
    (decide ((30 : Int) < (s.size : Int)) = true ∧ Hid (insRead s = (nilIns, false))) ∨ (decide ((30 : Int) < (s.size : Int)) = false ∧ ((tx (insTxt op A N M)).toList == s.toList) = true ∧ Hid (insRead s = (⟨op, A, N, M⟩, true))) ∨ (decide ((30 : Int) < (s.size : Int)) = false ∧ ((tx (insTxt op A N M)).toList == s.toList) = false ∧ Hid (insRead s = (nilIns, false))) := by
  by_cases hl : 30 < s.size
  · exact .inl ⟨by simp; omega, Lib.hid (R.trans (insTry_long hl))⟩
  · have hd : decide ((30 : Int) < (s.size : Int)) = false := by rw [decide_eq_false_iff_not]; omega
    cases ht : ((tx (insTxt op A N M)).toList == s.toList)
    · exact .inr (.inr ⟨hd, rfl, Lib.hid (R.trans (insTry_no (by rw [h]; exact beq_eq_false_iff_ne.1 ht)))⟩)
    · exact .inr (.inl ⟨hd, rfl, Lib.hid ((R.trans (insTry_yes hl (by rw [h]; exact beq_iff_eq.1 ht))).trans (by rw [h]))⟩)
theorem insOf_one {op : Int} {ws : List ByteArray} (h : ws.length = 1) : insOf op ws = ⟨op, 0, ⟨#[]⟩, ⟨#[]⟩⟩ := by
  match ws, h with
  | [a], _ => rfl
theorem insOf_two {op : Int} {ws : List ByteArray} {u : ByteArray} (h : ws.length = 2) (hu : ws[1]? = some u) : insOf op ws = ⟨op, if (readNum u).2 then (readNum u).1 else 0, if (readNum u).2 then ⟨#[]⟩ else u, ⟨#[]⟩⟩ := by
  match ws, h with
  | [a, b], _ => cases hu; rfl
theorem insOf_more {op : Int} {ws : List ByteArray} {u x : ByteArray} (h : 3 ≤ ws.length) (hu : ws[1]? = some u) (hx : ws[2]? = some x) : insOf op ws = ⟨op, if (readNum u).2 then (readNum u).1 else 0, if (readNum u).2 then ⟨#[]⟩ else u, x⟩ := by
  match ws, h with
  | a :: b :: c :: r, _ => cases hu; cases hx; unfold insOf; simp


set_option maxRecDepth 100000 in
set_option maxHeartbeats 8000000 in
theorem S_InsReadL (s : ByteArray) (w : World) (hs : s.size ≤ 2000000) :
    Calls Tryd.prog 8 #[.string s] w fun e w' => e = .returned (insT (insRead s)) ∧ Below w.heap.size w w' := by
  refine calls_hide fun R HR => ?_
  go_enter Tryd.func8, Tryd.ntmps8
  go_wp2_with fail
  refine (S_l1WordsL s _ hs).mono ?_
  rintro _ w1 ⟨v, rfl, ht, h1⟩
  obtain ⟨g, cap, rfl, hg, hlc, hcm, hcell⟩ := str_cells ht (words_pos s)
  have hsz : ∀ x ∈ words s, x.size ≤ 2000000 := fun x hx => Nat.le_trans (words_size hx) hs
  obtain ⟨ws, hws⟩ : ∃ ws, ws = words s := ⟨_, rfl⟩
  have WS := Lib.hid hws
  have hB : Below w.heap.size w w1 := by (repeat' (first | (with_reducible exact Below.refl _ _) | (with_reducible refine Below.alloc ?_ ?_ _) | (with_reducible refine Below.setCell ?_ ?_ _) | (with_reducible refine Below.drew ?_) | (refine below_hyp (by assumption) ?_ ?_) | go_size))
  have hpos : 0 < ws.length := by rw [hws]; exact words_pos s
  rw [← hws] at hlc hcell hsz ⊢
  clear hws ht
  obtain ⟨w0, hw0⟩ : ∃ x, ws[0]? = some x := ⟨_, List.getElem?_eq_getElem hpos⟩
  have C0 := hcell 0 w0 hw0
  have D0 : Hid ((words s).getD 0 ⟨#[]⟩ = w0) := Lib.hid (by rw [← WS.out, List.getD_eq_getElem?_getD, hw0]; rfl)
  have HCE := Lib.hid hcell
  have hgs := block_lt_of_cell C0
  have HSZ := Lib.hid hsz
  have h1s := hB.size
  have F1 : Hid (Four w1 w.heap.size (.int .i64 0) (.int .i64 0) (.string ⟨#[]⟩) (.string ⟨#[]⟩)) := Lib.hid ((Four.new w _ _ _ _ 24).keep h1)
  clear hcell hsz hw0
  go_wp2_with fail
  go_loopw [5] (fun ov wr => ∃ k : Nat, 1 ≤ k ∧ k ≤ 16 ∧ ov = .int .i64 (k : Int) ∧ insRead s = insGo s (16 - k) k ∧ Below w1.heap.size w1 wr) (fun ov _ => 17 - (intOf ov).toNat)
  case atStart => exact ⟨1, by omega, by omega, rfl, rfl, by (repeat' (first | (with_reducible exact Below.refl _ _) | (with_reducible refine Below.alloc ?_ ?_ _) | (with_reducible refine Below.setCell ?_ ?_ _) | (with_reducible refine Below.drew ?_) | (refine below_hyp (by assumption) ?_ ?_) | go_size))⟩
  case round =>
    obtain ⟨k, hk1, hk16, rfl, hgo, hb⟩ := hrel
    have GO := Lib.hid hgo
    have hbs := hb.size
    have C1 := keep_cell hb C0
    have hE := hB.trans (hb.mono hB.size)
    have F2 := Lib.hid (F1.out.keep hb)
    obtain ⟨hlt0, z0, z1, z2, z3, f0, f1, f2, f3⟩ := F2.out
    clear hgo
    by_cases hk : k = 16
    · subst hk
      have RV : Hid (insRead s = (nilIns, false)) := Lib.hid (by rw [GO.out]; rfl)
      clear GO
      go_wp2
      all_goals
        refine bodyPost_ret (v := ?_) ?hrun rfl ?_
        case hrun => (simp only [results, Tryd.results8]; go_simp; first | done | exact rfl)
        exact HR.out _ _ ⟨by first | (rw [RV.out]; done) | (rw [RV.out]; rfl), by (repeat' (first | (with_reducible exact Below.refl _ _) | (with_reducible refine Below.alloc ?_ ?_ _) | (with_reducible refine Below.setCell ?_ ?_ _) | (with_reducible refine Below.drew ?_) | (refine below_hyp (by assumption) ?_ ?_) | go_size))⟩
    have hk15 : k ≤ 15 := by omega
    have SL : ∀ y : In wr, Calls Tryd.prog 24 #[.int .i64 (k : Int)] y.x fun e w' => e = .returned (.string (tx (opText (k : Int)))) ∧ Below y.x.heap.size y.x w' := fun y => S_l2Ins k y.x hk15
    have CY := In.cell C1
    have GO1 : Hid (insRead s = if isW w0 (opText (k : Int)) then insTry (k : Int) s else insGo s (16 - (k + 1)) (k + 1)) := Lib.hid (by
      rw [GO.out, show 16 - k = (16 - (k + 1)) + 1 by omega, insGo, D0.out])
    clear GO
    by_cases hq : (tx (opText (k : Int))).toList = w0.toList
    · have RT : Hid (insRead s = insTry (k : Int) s) := Lib.hid (by
        rw [GO1.out, if_pos (isW_iff.2 (by
          apply ByteArray.ext
          rw [ByteArray.toList_eq, ByteArray.toList_eq] at hq
          exact (Array.ext' hq).symm))])
      clear GO1
      go_wp2_with fail
      refine wp_region_in (by kernel_rfl) (by kernel_rfl) ?_
      repeat (go_big_quiet_step (first | (go_at_call 24; exact Calls.ins (SL _))))
      refine wpQuiet_nil ?_
      rintro wZ ⟨⟨wE, hwE⟩, hq⟩
      obtain rfl : wE = wZ := hq.symm
      clear hq
      have hwEs := hwE.size
      (try dsimp only)
      have hEE : Below w.heap.size w wE := hE.trans (hwE.mono hE.size)
      have hb1 : Below w1.heap.size w1 wE := hb.trans (hwE.mono hbs)
      have FE := Lib.hid (F2.out.keep hwE)
      clear z0 z1 z2 z3 f0 f1 f2 f3 C1 CY SL hq C0
      obtain ⟨hltE, y0, y1, y2, y3, m0, m1, m2, m3⟩ := FE.out
      rcases (show ws.length = 1 ∨ ws.length = 2 ∨ 3 ≤ ws.length by omega) with hn | hn | hn
      · have hg1 : decide ((1 : Int) < (ws.length : Int)) = false := by rw [decide_eq_false_iff_not]; omega
        have hg2 : decide ((2 : Int) < (ws.length : Int)) = false := by rw [decide_eq_false_iff_not]; omega
        have CT : ∀ W, Calls Tryd.prog 10 #[.agg #[.int .i64 (k : Int), .int .i64 0, .string ⟨#[]⟩, .string ⟨#[]⟩]] W fun e w' => e = .returned (.string (tx (insTxt (k : Int) 0 ⟨#[]⟩ ⟨#[]⟩))) ∧ Below W.heap.size W w' := fun W => S_InsText _ _ _ _ W (Nat.zero_le _) (Nat.zero_le _)
        have FIN := ins_fin (by rw [← WS.out]; exact insOf_one hn) RT.out
        clear hn
        rcases FIN with ⟨hl, RV⟩ | ⟨hl, hT, RV⟩ | ⟨hl, hT, RV⟩
        · go_wp2
          (all_goals
            refine bodyPost_ret (v := ?_) ?hrun rfl ?_
            case hrun => (simp only [results, Tryd.results8]; go_simp; first | done | exact rfl)
            exact HR.out _ _ ⟨by first | (rw [RV.out]; done) | (rw [RV.out]; rfl), by (repeat' (first | (with_reducible exact Below.refl _ _) | (with_reducible refine Below.alloc ?_ ?_ _) | (with_reducible refine Below.setCell ?_ ?_ _) | (with_reducible refine Below.drew ?_) | (refine below_hyp (by assumption) ?_ ?_) | go_size))⟩)
        · go_wp2_with (go_at_call 10; refine (CT _).mono ?_; rintro _ wt ⟨rfl, hct⟩; have hcts := hct.size; (try simp only [World.size_alloc, World.size_setCell] at hcts); have Y4 : Four wt w.heap.size (.int .i64 0) (.int .i64 0) (.string ⟨#[]⟩) (.string ⟨#[]⟩) := (by refine Four.keep ?_ hct; refine ⟨?_, ?_, ?_, ?_, ?_, ?_, ?_, ?_, ?_⟩; all_goals first | (go_simp; done) | (first | (go_size; done) | (simp; done) | (simp; omega))); have E4 : Four wt wE.heap.size (.int .i64 (k : Int)) (.int .i64 (0)) (.string (⟨#[]⟩)) (.string (⟨#[]⟩)) := (by refine Four.keep ?_ hct; refine ⟨?_, ?_, ?_, ?_, ?_, ?_, ?_, ?_, ?_⟩; all_goals first | (go_simp; done) | (first | (go_size; done) | (simp; done) | (simp; omega))); have hEt : Below w.heap.size w wt := (by (repeat' (first | (with_reducible exact Below.refl _ _) | (with_reducible refine Below.alloc ?_ ?_ _) | (with_reducible refine Below.setCell ?_ ?_ _) | (with_reducible refine Below.drew ?_) | (refine below_hyp (by assumption) ?_ ?_) | go_size))); clear y0 y1 y2 y3 m0 m1 m2 m3; obtain ⟨_, y0, y1, y2, y3, m0, m1, m2, m3⟩ := Y4; obtain ⟨_, e0, e1, e2, e3, n0, n1, n2, n3⟩ := E4)
          (all_goals
            refine bodyPost_ret (v := ?_) ?hrun rfl ?_
            case hrun => (simp only [results, Tryd.results8]; go_simp; first | done | exact rfl)
            exact HR.out _ _ ⟨by first | (rw [RV.out]; done) | (rw [RV.out]; rfl), by (repeat' (first | (with_reducible exact Below.refl _ _) | (with_reducible refine Below.alloc ?_ ?_ _) | (with_reducible refine Below.setCell ?_ ?_ _) | (with_reducible refine Below.drew ?_) | (refine below_hyp (by assumption) ?_ ?_) | go_size))⟩)
        · go_wp2_with (go_at_call 10; refine (CT _).mono ?_; rintro _ wt ⟨rfl, hct⟩; have hcts := hct.size; (try simp only [World.size_alloc, World.size_setCell] at hcts); have Y4 : Four wt w.heap.size (.int .i64 0) (.int .i64 0) (.string ⟨#[]⟩) (.string ⟨#[]⟩) := (by refine Four.keep ?_ hct; refine ⟨?_, ?_, ?_, ?_, ?_, ?_, ?_, ?_, ?_⟩; all_goals first | (go_simp; done) | (first | (go_size; done) | (simp; done) | (simp; omega))); have E4 : Four wt wE.heap.size (.int .i64 (k : Int)) (.int .i64 (0)) (.string (⟨#[]⟩)) (.string (⟨#[]⟩)) := (by refine Four.keep ?_ hct; refine ⟨?_, ?_, ?_, ?_, ?_, ?_, ?_, ?_, ?_⟩; all_goals first | (go_simp; done) | (first | (go_size; done) | (simp; done) | (simp; omega))); have hEt : Below w.heap.size w wt := (by (repeat' (first | (with_reducible exact Below.refl _ _) | (with_reducible refine Below.alloc ?_ ?_ _) | (with_reducible refine Below.setCell ?_ ?_ _) | (with_reducible refine Below.drew ?_) | (refine below_hyp (by assumption) ?_ ?_) | go_size))); clear y0 y1 y2 y3 m0 m1 m2 m3; obtain ⟨_, y0, y1, y2, y3, m0, m1, m2, m3⟩ := Y4; obtain ⟨_, e0, e1, e2, e3, n0, n1, n2, n3⟩ := E4)
          (all_goals
            refine bodyPost_ret (v := ?_) ?hrun rfl ?_
            case hrun => (simp only [results, Tryd.results8]; go_simp; first | done | exact rfl)
            exact HR.out _ _ ⟨by first | (rw [RV.out]; done) | (rw [RV.out]; rfl), by (repeat' (first | (with_reducible exact Below.refl _ _) | (with_reducible refine Below.alloc ?_ ?_ _) | (with_reducible refine Below.setCell ?_ ?_ _) | (with_reducible refine Below.drew ?_) | (refine below_hyp (by assumption) ?_ ?_) | go_size))⟩)
      · obtain ⟨u1, hu1⟩ : ∃ x, ws[1]? = some x := ⟨_, List.getElem?_eq_getElem (by omega)⟩
        have x1 := keep_cell hb1 (HCE.out 1 u1 hu1)
        have su1 := HSZ.out u1 (List.mem_of_getElem? hu1)
        have hgE : g < wE.heap.size := block_lt_of_cell x1
        have hg1 : decide ((1 : Int) < (ws.length : Int)) = true := by rw [decide_eq_true_eq]; omega
        have hg2 : decide ((2 : Int) < (ws.length : Int)) = false := by rw [decide_eq_false_iff_not]; omega
        have hl1 : 1 < ws.length := by omega
        obtain ⟨q, hnum⟩ : ∃ q, (readNum u1).1 = q := ⟨_, rfl⟩
        cases hr : (readNum u1).2
        · have CR : ∀ W, Calls Tryd.prog 25 #[.string u1] W fun e w' => e = .returned (.tuple #[.int .i64 q, .bool false]) ∧ Below W.heap.size W w' := fun W => (S_l1ReadL u1 W su1).mono fun e w' h => ⟨h.1.trans (by unfold numT; rw [hr, hnum]), h.2⟩
          have CT : ∀ W, Calls Tryd.prog 10 #[.agg #[.int .i64 (k : Int), .int .i64 (0), .string (u1), .string (⟨#[]⟩)]] W fun e w' => e = .returned (.string (tx (insTxt (k : Int) (0) (u1) (⟨#[]⟩)))) ∧ Below W.heap.size W w' := fun W => S_InsText _ _ _ _ W (by unfold maxLen; first | (exact Nat.zero_le _) | omega) (by unfold maxLen; first | (exact Nat.zero_le _) | omega)
          have FIN := ins_fin (op := (k : Int)) (A := 0) (N := u1) (M := ⟨#[]⟩) (by rw [← WS.out]; exact (by rw [insOf_two hn hu1, hr]; rfl)) RT.out
          clear hn hu1 hr hnum
          (try clear hu2)
          rcases FIN with ⟨hl, RV⟩ | ⟨hl, hT, RV⟩ | ⟨hl, hT, RV⟩
          · go_wp2_with (go_at_call 25; refine (CR _).mono ?_; rintro _ wl ⟨rfl, hcl⟩; have hcls := hcl.size; (try simp only [World.size_alloc, World.size_setCell] at hcls); have Y4 : Four wl w.heap.size (.int .i64 0) (.int .i64 0) (.string ⟨#[]⟩) (.string ⟨#[]⟩) := (by refine Four.keep ?_ hcl; refine ⟨?_, ?_, ?_, ?_, ?_, ?_, ?_, ?_, ?_⟩; all_goals first | (go_simp; done) | (first | (go_size; done) | (simp; done) | (simp; omega))); have E4 : Four wl wE.heap.size (.int .i64 (k : Int)) (.int .i64 0) (.string ⟨#[]⟩) (.string ⟨#[]⟩) := (by refine Four.keep ?_ hcl; refine ⟨?_, ?_, ?_, ?_, ?_, ?_, ?_, ?_, ?_⟩; all_goals first | (go_simp; done) | (first | (go_size; done) | (simp; done) | (simp; omega))); have hEl : Below w.heap.size w wl := (by (repeat' (first | (with_reducible exact Below.refl _ _) | (with_reducible refine Below.alloc ?_ ?_ _) | (with_reducible refine Below.setCell ?_ ?_ _) | (with_reducible refine Below.drew ?_) | (refine below_hyp (by assumption) ?_ ?_) | go_size))); replace x1 : wl.cell? ⟨g, 1, none⟩ = some (.string u1) := keep_cell hcl (by go_simp); clear y0 y1 y2 y3 m0 m1 m2 m3; obtain ⟨_, y0, y1, y2, y3, m0, m1, m2, m3⟩ := Y4; obtain ⟨_, e0, e1, e2, e3, n0, n1, n2, n3⟩ := E4)
            (all_goals
              refine bodyPost_ret (v := ?_) ?hrun rfl ?_
              case hrun => (simp only [results, Tryd.results8]; go_simp; first | done | exact rfl)
              exact HR.out _ _ ⟨by first | (rw [RV.out]; done) | (rw [RV.out]; rfl), by (repeat' (first | (with_reducible exact Below.refl _ _) | (with_reducible refine Below.alloc ?_ ?_ _) | (with_reducible refine Below.setCell ?_ ?_ _) | (with_reducible refine Below.drew ?_) | (refine below_hyp (by assumption) ?_ ?_) | go_size))⟩)
          · go_wp2_with (first | (go_at_call 25; refine (CR _).mono ?_; rintro _ wl ⟨rfl, hcl⟩; have hcls := hcl.size; (try simp only [World.size_alloc, World.size_setCell] at hcls); have Y4 : Four wl w.heap.size (.int .i64 0) (.int .i64 0) (.string ⟨#[]⟩) (.string ⟨#[]⟩) := (by refine Four.keep ?_ hcl; refine ⟨?_, ?_, ?_, ?_, ?_, ?_, ?_, ?_, ?_⟩; all_goals first | (go_simp; done) | (first | (go_size; done) | (simp; done) | (simp; omega))); have E4 : Four wl wE.heap.size (.int .i64 (k : Int)) (.int .i64 0) (.string ⟨#[]⟩) (.string ⟨#[]⟩) := (by refine Four.keep ?_ hcl; refine ⟨?_, ?_, ?_, ?_, ?_, ?_, ?_, ?_, ?_⟩; all_goals first | (go_simp; done) | (first | (go_size; done) | (simp; done) | (simp; omega))); have hEl : Below w.heap.size w wl := (by (repeat' (first | (with_reducible exact Below.refl _ _) | (with_reducible refine Below.alloc ?_ ?_ _) | (with_reducible refine Below.setCell ?_ ?_ _) | (with_reducible refine Below.drew ?_) | (refine below_hyp (by assumption) ?_ ?_) | go_size))); replace x1 : wl.cell? ⟨g, 1, none⟩ = some (.string u1) := keep_cell hcl (by go_simp); clear y0 y1 y2 y3 m0 m1 m2 m3; obtain ⟨_, y0, y1, y2, y3, m0, m1, m2, m3⟩ := Y4; obtain ⟨_, e0, e1, e2, e3, n0, n1, n2, n3⟩ := E4) | (go_at_call 10; refine (CT _).mono ?_; rintro _ wt ⟨rfl, hct⟩; have hcts := hct.size; (try simp only [World.size_alloc, World.size_setCell] at hcts); have Y4 : Four wt w.heap.size (.int .i64 0) (.int .i64 0) (.string ⟨#[]⟩) (.string ⟨#[]⟩) := (by refine Four.keep ?_ hct; refine ⟨?_, ?_, ?_, ?_, ?_, ?_, ?_, ?_, ?_⟩; all_goals first | (go_simp; done) | (first | (go_size; done) | (simp; done) | (simp; omega))); have E4 : Four wt wE.heap.size (.int .i64 (k : Int)) (.int .i64 (0)) (.string (u1)) (.string (⟨#[]⟩)) := (by refine Four.keep ?_ hct; refine ⟨?_, ?_, ?_, ?_, ?_, ?_, ?_, ?_, ?_⟩; all_goals first | (go_simp; done) | (first | (go_size; done) | (simp; done) | (simp; omega))); have hEt : Below w.heap.size w wt := (by (repeat' (first | (with_reducible exact Below.refl _ _) | (with_reducible refine Below.alloc ?_ ?_ _) | (with_reducible refine Below.setCell ?_ ?_ _) | (with_reducible refine Below.drew ?_) | (refine below_hyp (by assumption) ?_ ?_) | go_size))); clear y0 y1 y2 y3 m0 m1 m2 m3; obtain ⟨_, y0, y1, y2, y3, m0, m1, m2, m3⟩ := Y4; obtain ⟨_, e0, e1, e2, e3, n0, n1, n2, n3⟩ := E4))
            (all_goals
              refine bodyPost_ret (v := ?_) ?hrun rfl ?_
              case hrun => (simp only [results, Tryd.results8]; go_simp; first | done | exact rfl)
              exact HR.out _ _ ⟨by first | (rw [RV.out]; done) | (rw [RV.out]; rfl), by (repeat' (first | (with_reducible exact Below.refl _ _) | (with_reducible refine Below.alloc ?_ ?_ _) | (with_reducible refine Below.setCell ?_ ?_ _) | (with_reducible refine Below.drew ?_) | (refine below_hyp (by assumption) ?_ ?_) | go_size))⟩)
          · go_wp2_with (first | (go_at_call 25; refine (CR _).mono ?_; rintro _ wl ⟨rfl, hcl⟩; have hcls := hcl.size; (try simp only [World.size_alloc, World.size_setCell] at hcls); have Y4 : Four wl w.heap.size (.int .i64 0) (.int .i64 0) (.string ⟨#[]⟩) (.string ⟨#[]⟩) := (by refine Four.keep ?_ hcl; refine ⟨?_, ?_, ?_, ?_, ?_, ?_, ?_, ?_, ?_⟩; all_goals first | (go_simp; done) | (first | (go_size; done) | (simp; done) | (simp; omega))); have E4 : Four wl wE.heap.size (.int .i64 (k : Int)) (.int .i64 0) (.string ⟨#[]⟩) (.string ⟨#[]⟩) := (by refine Four.keep ?_ hcl; refine ⟨?_, ?_, ?_, ?_, ?_, ?_, ?_, ?_, ?_⟩; all_goals first | (go_simp; done) | (first | (go_size; done) | (simp; done) | (simp; omega))); have hEl : Below w.heap.size w wl := (by (repeat' (first | (with_reducible exact Below.refl _ _) | (with_reducible refine Below.alloc ?_ ?_ _) | (with_reducible refine Below.setCell ?_ ?_ _) | (with_reducible refine Below.drew ?_) | (refine below_hyp (by assumption) ?_ ?_) | go_size))); replace x1 : wl.cell? ⟨g, 1, none⟩ = some (.string u1) := keep_cell hcl (by go_simp); clear y0 y1 y2 y3 m0 m1 m2 m3; obtain ⟨_, y0, y1, y2, y3, m0, m1, m2, m3⟩ := Y4; obtain ⟨_, e0, e1, e2, e3, n0, n1, n2, n3⟩ := E4) | (go_at_call 10; refine (CT _).mono ?_; rintro _ wt ⟨rfl, hct⟩; have hcts := hct.size; (try simp only [World.size_alloc, World.size_setCell] at hcts); have Y4 : Four wt w.heap.size (.int .i64 0) (.int .i64 0) (.string ⟨#[]⟩) (.string ⟨#[]⟩) := (by refine Four.keep ?_ hct; refine ⟨?_, ?_, ?_, ?_, ?_, ?_, ?_, ?_, ?_⟩; all_goals first | (go_simp; done) | (first | (go_size; done) | (simp; done) | (simp; omega))); have E4 : Four wt wE.heap.size (.int .i64 (k : Int)) (.int .i64 (0)) (.string (u1)) (.string (⟨#[]⟩)) := (by refine Four.keep ?_ hct; refine ⟨?_, ?_, ?_, ?_, ?_, ?_, ?_, ?_, ?_⟩; all_goals first | (go_simp; done) | (first | (go_size; done) | (simp; done) | (simp; omega))); have hEt : Below w.heap.size w wt := (by (repeat' (first | (with_reducible exact Below.refl _ _) | (with_reducible refine Below.alloc ?_ ?_ _) | (with_reducible refine Below.setCell ?_ ?_ _) | (with_reducible refine Below.drew ?_) | (refine below_hyp (by assumption) ?_ ?_) | go_size))); clear y0 y1 y2 y3 m0 m1 m2 m3; obtain ⟨_, y0, y1, y2, y3, m0, m1, m2, m3⟩ := Y4; obtain ⟨_, e0, e1, e2, e3, n0, n1, n2, n3⟩ := E4))
            (all_goals
              refine bodyPost_ret (v := ?_) ?hrun rfl ?_
              case hrun => (simp only [results, Tryd.results8]; go_simp; first | done | exact rfl)
              exact HR.out _ _ ⟨by first | (rw [RV.out]; done) | (rw [RV.out]; rfl), by (repeat' (first | (with_reducible exact Below.refl _ _) | (with_reducible refine Below.alloc ?_ ?_ _) | (with_reducible refine Below.setCell ?_ ?_ _) | (with_reducible refine Below.drew ?_) | (refine below_hyp (by assumption) ?_ ?_) | go_size))⟩)
        · have CR : ∀ W, Calls Tryd.prog 25 #[.string u1] W fun e w' => e = .returned (.tuple #[.int .i64 q, .bool true]) ∧ Below W.heap.size W w' := fun W => (S_l1ReadL u1 W su1).mono fun e w' h => ⟨h.1.trans (by unfold numT; rw [hr, hnum]), h.2⟩
          have CT : ∀ W, Calls Tryd.prog 10 #[.agg #[.int .i64 (k : Int), .int .i64 (q), .string (⟨#[]⟩), .string (⟨#[]⟩)]] W fun e w' => e = .returned (.string (tx (insTxt (k : Int) (q) (⟨#[]⟩) (⟨#[]⟩)))) ∧ Below W.heap.size W w' := fun W => S_InsText _ _ _ _ W (by unfold maxLen; first | (exact Nat.zero_le _) | omega) (by unfold maxLen; first | (exact Nat.zero_le _) | omega)
          have FIN := ins_fin (op := (k : Int)) (A := q) (N := ⟨#[]⟩) (M := ⟨#[]⟩) (by rw [← WS.out]; exact (by rw [insOf_two hn hu1, hr, hnum]; rfl)) RT.out
          clear hn hu1 hr hnum
          (try clear hu2)
          rcases FIN with ⟨hl, RV⟩ | ⟨hl, hT, RV⟩ | ⟨hl, hT, RV⟩
          · go_wp2_with (go_at_call 25; refine (CR _).mono ?_; rintro _ wl ⟨rfl, hcl⟩; have hcls := hcl.size; (try simp only [World.size_alloc, World.size_setCell] at hcls); have Y4 : Four wl w.heap.size (.int .i64 0) (.int .i64 0) (.string ⟨#[]⟩) (.string ⟨#[]⟩) := (by refine Four.keep ?_ hcl; refine ⟨?_, ?_, ?_, ?_, ?_, ?_, ?_, ?_, ?_⟩; all_goals first | (go_simp; done) | (first | (go_size; done) | (simp; done) | (simp; omega))); have E4 : Four wl wE.heap.size (.int .i64 (k : Int)) (.int .i64 0) (.string ⟨#[]⟩) (.string ⟨#[]⟩) := (by refine Four.keep ?_ hcl; refine ⟨?_, ?_, ?_, ?_, ?_, ?_, ?_, ?_, ?_⟩; all_goals first | (go_simp; done) | (first | (go_size; done) | (simp; done) | (simp; omega))); have hEl : Below w.heap.size w wl := (by (repeat' (first | (with_reducible exact Below.refl _ _) | (with_reducible refine Below.alloc ?_ ?_ _) | (with_reducible refine Below.setCell ?_ ?_ _) | (with_reducible refine Below.drew ?_) | (refine below_hyp (by assumption) ?_ ?_) | go_size))); replace x1 : wl.cell? ⟨g, 1, none⟩ = some (.string u1) := keep_cell hcl (by go_simp); clear y0 y1 y2 y3 m0 m1 m2 m3; obtain ⟨_, y0, y1, y2, y3, m0, m1, m2, m3⟩ := Y4; obtain ⟨_, e0, e1, e2, e3, n0, n1, n2, n3⟩ := E4)
            (all_goals
              refine bodyPost_ret (v := ?_) ?hrun rfl ?_
              case hrun => (simp only [results, Tryd.results8]; go_simp; first | done | exact rfl)
              exact HR.out _ _ ⟨by first | (rw [RV.out]; done) | (rw [RV.out]; rfl), by (repeat' (first | (with_reducible exact Below.refl _ _) | (with_reducible refine Below.alloc ?_ ?_ _) | (with_reducible refine Below.setCell ?_ ?_ _) | (with_reducible refine Below.drew ?_) | (refine below_hyp (by assumption) ?_ ?_) | go_size))⟩)
          · go_wp2_with (first | (go_at_call 25; refine (CR _).mono ?_; rintro _ wl ⟨rfl, hcl⟩; have hcls := hcl.size; (try simp only [World.size_alloc, World.size_setCell] at hcls); have Y4 : Four wl w.heap.size (.int .i64 0) (.int .i64 0) (.string ⟨#[]⟩) (.string ⟨#[]⟩) := (by refine Four.keep ?_ hcl; refine ⟨?_, ?_, ?_, ?_, ?_, ?_, ?_, ?_, ?_⟩; all_goals first | (go_simp; done) | (first | (go_size; done) | (simp; done) | (simp; omega))); have E4 : Four wl wE.heap.size (.int .i64 (k : Int)) (.int .i64 0) (.string ⟨#[]⟩) (.string ⟨#[]⟩) := (by refine Four.keep ?_ hcl; refine ⟨?_, ?_, ?_, ?_, ?_, ?_, ?_, ?_, ?_⟩; all_goals first | (go_simp; done) | (first | (go_size; done) | (simp; done) | (simp; omega))); have hEl : Below w.heap.size w wl := (by (repeat' (first | (with_reducible exact Below.refl _ _) | (with_reducible refine Below.alloc ?_ ?_ _) | (with_reducible refine Below.setCell ?_ ?_ _) | (with_reducible refine Below.drew ?_) | (refine below_hyp (by assumption) ?_ ?_) | go_size))); replace x1 : wl.cell? ⟨g, 1, none⟩ = some (.string u1) := keep_cell hcl (by go_simp); clear y0 y1 y2 y3 m0 m1 m2 m3; obtain ⟨_, y0, y1, y2, y3, m0, m1, m2, m3⟩ := Y4; obtain ⟨_, e0, e1, e2, e3, n0, n1, n2, n3⟩ := E4) | (go_at_call 10; refine (CT _).mono ?_; rintro _ wt ⟨rfl, hct⟩; have hcts := hct.size; (try simp only [World.size_alloc, World.size_setCell] at hcts); have Y4 : Four wt w.heap.size (.int .i64 0) (.int .i64 0) (.string ⟨#[]⟩) (.string ⟨#[]⟩) := (by refine Four.keep ?_ hct; refine ⟨?_, ?_, ?_, ?_, ?_, ?_, ?_, ?_, ?_⟩; all_goals first | (go_simp; done) | (first | (go_size; done) | (simp; done) | (simp; omega))); have E4 : Four wt wE.heap.size (.int .i64 (k : Int)) (.int .i64 (q)) (.string (⟨#[]⟩)) (.string (⟨#[]⟩)) := (by refine Four.keep ?_ hct; refine ⟨?_, ?_, ?_, ?_, ?_, ?_, ?_, ?_, ?_⟩; all_goals first | (go_simp; done) | (first | (go_size; done) | (simp; done) | (simp; omega))); have hEt : Below w.heap.size w wt := (by (repeat' (first | (with_reducible exact Below.refl _ _) | (with_reducible refine Below.alloc ?_ ?_ _) | (with_reducible refine Below.setCell ?_ ?_ _) | (with_reducible refine Below.drew ?_) | (refine below_hyp (by assumption) ?_ ?_) | go_size))); clear y0 y1 y2 y3 m0 m1 m2 m3; obtain ⟨_, y0, y1, y2, y3, m0, m1, m2, m3⟩ := Y4; obtain ⟨_, e0, e1, e2, e3, n0, n1, n2, n3⟩ := E4))
            (all_goals
              refine bodyPost_ret (v := ?_) ?hrun rfl ?_
              case hrun => (simp only [results, Tryd.results8]; go_simp; first | done | exact rfl)
              exact HR.out _ _ ⟨by first | (rw [RV.out]; done) | (rw [RV.out]; rfl), by (repeat' (first | (with_reducible exact Below.refl _ _) | (with_reducible refine Below.alloc ?_ ?_ _) | (with_reducible refine Below.setCell ?_ ?_ _) | (with_reducible refine Below.drew ?_) | (refine below_hyp (by assumption) ?_ ?_) | go_size))⟩)
          · go_wp2_with (first | (go_at_call 25; refine (CR _).mono ?_; rintro _ wl ⟨rfl, hcl⟩; have hcls := hcl.size; (try simp only [World.size_alloc, World.size_setCell] at hcls); have Y4 : Four wl w.heap.size (.int .i64 0) (.int .i64 0) (.string ⟨#[]⟩) (.string ⟨#[]⟩) := (by refine Four.keep ?_ hcl; refine ⟨?_, ?_, ?_, ?_, ?_, ?_, ?_, ?_, ?_⟩; all_goals first | (go_simp; done) | (first | (go_size; done) | (simp; done) | (simp; omega))); have E4 : Four wl wE.heap.size (.int .i64 (k : Int)) (.int .i64 0) (.string ⟨#[]⟩) (.string ⟨#[]⟩) := (by refine Four.keep ?_ hcl; refine ⟨?_, ?_, ?_, ?_, ?_, ?_, ?_, ?_, ?_⟩; all_goals first | (go_simp; done) | (first | (go_size; done) | (simp; done) | (simp; omega))); have hEl : Below w.heap.size w wl := (by (repeat' (first | (with_reducible exact Below.refl _ _) | (with_reducible refine Below.alloc ?_ ?_ _) | (with_reducible refine Below.setCell ?_ ?_ _) | (with_reducible refine Below.drew ?_) | (refine below_hyp (by assumption) ?_ ?_) | go_size))); replace x1 : wl.cell? ⟨g, 1, none⟩ = some (.string u1) := keep_cell hcl (by go_simp); clear y0 y1 y2 y3 m0 m1 m2 m3; obtain ⟨_, y0, y1, y2, y3, m0, m1, m2, m3⟩ := Y4; obtain ⟨_, e0, e1, e2, e3, n0, n1, n2, n3⟩ := E4) | (go_at_call 10; refine (CT _).mono ?_; rintro _ wt ⟨rfl, hct⟩; have hcts := hct.size; (try simp only [World.size_alloc, World.size_setCell] at hcts); have Y4 : Four wt w.heap.size (.int .i64 0) (.int .i64 0) (.string ⟨#[]⟩) (.string ⟨#[]⟩) := (by refine Four.keep ?_ hct; refine ⟨?_, ?_, ?_, ?_, ?_, ?_, ?_, ?_, ?_⟩; all_goals first | (go_simp; done) | (first | (go_size; done) | (simp; done) | (simp; omega))); have E4 : Four wt wE.heap.size (.int .i64 (k : Int)) (.int .i64 (q)) (.string (⟨#[]⟩)) (.string (⟨#[]⟩)) := (by refine Four.keep ?_ hct; refine ⟨?_, ?_, ?_, ?_, ?_, ?_, ?_, ?_, ?_⟩; all_goals first | (go_simp; done) | (first | (go_size; done) | (simp; done) | (simp; omega))); have hEt : Below w.heap.size w wt := (by (repeat' (first | (with_reducible exact Below.refl _ _) | (with_reducible refine Below.alloc ?_ ?_ _) | (with_reducible refine Below.setCell ?_ ?_ _) | (with_reducible refine Below.drew ?_) | (refine below_hyp (by assumption) ?_ ?_) | go_size))); clear y0 y1 y2 y3 m0 m1 m2 m3; obtain ⟨_, y0, y1, y2, y3, m0, m1, m2, m3⟩ := Y4; obtain ⟨_, e0, e1, e2, e3, n0, n1, n2, n3⟩ := E4))
            (all_goals
              refine bodyPost_ret (v := ?_) ?hrun rfl ?_
              case hrun => (simp only [results, Tryd.results8]; go_simp; first | done | exact rfl)
              exact HR.out _ _ ⟨by first | (rw [RV.out]; done) | (rw [RV.out]; rfl), by (repeat' (first | (with_reducible exact Below.refl _ _) | (with_reducible refine Below.alloc ?_ ?_ _) | (with_reducible refine Below.setCell ?_ ?_ _) | (with_reducible refine Below.drew ?_) | (refine below_hyp (by assumption) ?_ ?_) | go_size))⟩)
      · obtain ⟨u1, hu1⟩ : ∃ x, ws[1]? = some x := ⟨_, List.getElem?_eq_getElem (by omega)⟩
        obtain ⟨u2, hu2⟩ : ∃ x, ws[2]? = some x := ⟨_, List.getElem?_eq_getElem (by omega)⟩
        have x1 := keep_cell hb1 (HCE.out 1 u1 hu1)
        have x2 := keep_cell hb1 (HCE.out 2 u2 hu2)
        have su1 := HSZ.out u1 (List.mem_of_getElem? hu1)
        have su2 := HSZ.out u2 (List.mem_of_getElem? hu2)
        have hgE : g < wE.heap.size := block_lt_of_cell x1
        have hg1 : decide ((1 : Int) < (ws.length : Int)) = true := by rw [decide_eq_true_eq]; omega
        have hg2 : decide ((2 : Int) < (ws.length : Int)) = true := by rw [decide_eq_true_eq]; omega
        have hl1 : 1 < ws.length := by omega
        have hl2 : 2 < ws.length := by omega
        obtain ⟨q, hnum⟩ : ∃ q, (readNum u1).1 = q := ⟨_, rfl⟩
        cases hr : (readNum u1).2
        · have CR : ∀ W, Calls Tryd.prog 25 #[.string u1] W fun e w' => e = .returned (.tuple #[.int .i64 q, .bool false]) ∧ Below W.heap.size W w' := fun W => (S_l1ReadL u1 W su1).mono fun e w' h => ⟨h.1.trans (by unfold numT; rw [hr, hnum]), h.2⟩
          have CT : ∀ W, Calls Tryd.prog 10 #[.agg #[.int .i64 (k : Int), .int .i64 (0), .string (u1), .string (u2)]] W fun e w' => e = .returned (.string (tx (insTxt (k : Int) (0) (u1) (u2)))) ∧ Below W.heap.size W w' := fun W => S_InsText _ _ _ _ W (by unfold maxLen; first | (exact Nat.zero_le _) | omega) (by unfold maxLen; first | (exact Nat.zero_le _) | omega)
          have FIN := ins_fin (op := (k : Int)) (A := 0) (N := u1) (M := u2) (by rw [← WS.out]; exact (by rw [insOf_more hn hu1 hu2, hr]; rfl)) RT.out
          clear hn hu1 hr hnum
          (try clear hu2)
          rcases FIN with ⟨hl, RV⟩ | ⟨hl, hT, RV⟩ | ⟨hl, hT, RV⟩
          · go_wp2_with (go_at_call 25; refine (CR _).mono ?_; rintro _ wl ⟨rfl, hcl⟩; have hcls := hcl.size; (try simp only [World.size_alloc, World.size_setCell] at hcls); have Y4 : Four wl w.heap.size (.int .i64 0) (.int .i64 0) (.string ⟨#[]⟩) (.string ⟨#[]⟩) := (by refine Four.keep ?_ hcl; refine ⟨?_, ?_, ?_, ?_, ?_, ?_, ?_, ?_, ?_⟩; all_goals first | (go_simp; done) | (first | (go_size; done) | (simp; done) | (simp; omega))); have E4 : Four wl wE.heap.size (.int .i64 (k : Int)) (.int .i64 0) (.string ⟨#[]⟩) (.string ⟨#[]⟩) := (by refine Four.keep ?_ hcl; refine ⟨?_, ?_, ?_, ?_, ?_, ?_, ?_, ?_, ?_⟩; all_goals first | (go_simp; done) | (first | (go_size; done) | (simp; done) | (simp; omega))); have hEl : Below w.heap.size w wl := (by (repeat' (first | (with_reducible exact Below.refl _ _) | (with_reducible refine Below.alloc ?_ ?_ _) | (with_reducible refine Below.setCell ?_ ?_ _) | (with_reducible refine Below.drew ?_) | (refine below_hyp (by assumption) ?_ ?_) | go_size))); replace x1 : wl.cell? ⟨g, 1, none⟩ = some (.string u1) := keep_cell hcl (by go_simp); (try (replace x2 : wl.cell? ⟨g, 2, none⟩ = some (.string u2) := keep_cell hcl (by go_simp))); clear y0 y1 y2 y3 m0 m1 m2 m3; obtain ⟨_, y0, y1, y2, y3, m0, m1, m2, m3⟩ := Y4; obtain ⟨_, e0, e1, e2, e3, n0, n1, n2, n3⟩ := E4)
            (all_goals
              refine bodyPost_ret (v := ?_) ?hrun rfl ?_
              case hrun => (simp only [results, Tryd.results8]; go_simp; first | done | exact rfl)
              exact HR.out _ _ ⟨by first | (rw [RV.out]; done) | (rw [RV.out]; rfl), by (repeat' (first | (with_reducible exact Below.refl _ _) | (with_reducible refine Below.alloc ?_ ?_ _) | (with_reducible refine Below.setCell ?_ ?_ _) | (with_reducible refine Below.drew ?_) | (refine below_hyp (by assumption) ?_ ?_) | go_size))⟩)
          · go_wp2_with (first | (go_at_call 25; refine (CR _).mono ?_; rintro _ wl ⟨rfl, hcl⟩; have hcls := hcl.size; (try simp only [World.size_alloc, World.size_setCell] at hcls); have Y4 : Four wl w.heap.size (.int .i64 0) (.int .i64 0) (.string ⟨#[]⟩) (.string ⟨#[]⟩) := (by refine Four.keep ?_ hcl; refine ⟨?_, ?_, ?_, ?_, ?_, ?_, ?_, ?_, ?_⟩; all_goals first | (go_simp; done) | (first | (go_size; done) | (simp; done) | (simp; omega))); have E4 : Four wl wE.heap.size (.int .i64 (k : Int)) (.int .i64 0) (.string ⟨#[]⟩) (.string ⟨#[]⟩) := (by refine Four.keep ?_ hcl; refine ⟨?_, ?_, ?_, ?_, ?_, ?_, ?_, ?_, ?_⟩; all_goals first | (go_simp; done) | (first | (go_size; done) | (simp; done) | (simp; omega))); have hEl : Below w.heap.size w wl := (by (repeat' (first | (with_reducible exact Below.refl _ _) | (with_reducible refine Below.alloc ?_ ?_ _) | (with_reducible refine Below.setCell ?_ ?_ _) | (with_reducible refine Below.drew ?_) | (refine below_hyp (by assumption) ?_ ?_) | go_size))); replace x1 : wl.cell? ⟨g, 1, none⟩ = some (.string u1) := keep_cell hcl (by go_simp); (try (replace x2 : wl.cell? ⟨g, 2, none⟩ = some (.string u2) := keep_cell hcl (by go_simp))); clear y0 y1 y2 y3 m0 m1 m2 m3; obtain ⟨_, y0, y1, y2, y3, m0, m1, m2, m3⟩ := Y4; obtain ⟨_, e0, e1, e2, e3, n0, n1, n2, n3⟩ := E4) | (go_at_call 10; refine (CT _).mono ?_; rintro _ wt ⟨rfl, hct⟩; have hcts := hct.size; (try simp only [World.size_alloc, World.size_setCell] at hcts); have Y4 : Four wt w.heap.size (.int .i64 0) (.int .i64 0) (.string ⟨#[]⟩) (.string ⟨#[]⟩) := (by refine Four.keep ?_ hct; refine ⟨?_, ?_, ?_, ?_, ?_, ?_, ?_, ?_, ?_⟩; all_goals first | (go_simp; done) | (first | (go_size; done) | (simp; done) | (simp; omega))); have E4 : Four wt wE.heap.size (.int .i64 (k : Int)) (.int .i64 (0)) (.string (u1)) (.string (u2)) := (by refine Four.keep ?_ hct; refine ⟨?_, ?_, ?_, ?_, ?_, ?_, ?_, ?_, ?_⟩; all_goals first | (go_simp; done) | (first | (go_size; done) | (simp; done) | (simp; omega))); have hEt : Below w.heap.size w wt := (by (repeat' (first | (with_reducible exact Below.refl _ _) | (with_reducible refine Below.alloc ?_ ?_ _) | (with_reducible refine Below.setCell ?_ ?_ _) | (with_reducible refine Below.drew ?_) | (refine below_hyp (by assumption) ?_ ?_) | go_size))); clear y0 y1 y2 y3 m0 m1 m2 m3; obtain ⟨_, y0, y1, y2, y3, m0, m1, m2, m3⟩ := Y4; obtain ⟨_, e0, e1, e2, e3, n0, n1, n2, n3⟩ := E4))
            (all_goals
              refine bodyPost_ret (v := ?_) ?hrun rfl ?_
              case hrun => (simp only [results, Tryd.results8]; go_simp; first | done | exact rfl)
              exact HR.out _ _ ⟨by first | (rw [RV.out]; done) | (rw [RV.out]; rfl), by (repeat' (first | (with_reducible exact Below.refl _ _) | (with_reducible refine Below.alloc ?_ ?_ _) | (with_reducible refine Below.setCell ?_ ?_ _) | (with_reducible refine Below.drew ?_) | (refine below_hyp (by assumption) ?_ ?_) | go_size))⟩)
          · go_wp2_with (first | (go_at_call 25; refine (CR _).mono ?_; rintro _ wl ⟨rfl, hcl⟩; have hcls := hcl.size; (try simp only [World.size_alloc, World.size_setCell] at hcls); have Y4 : Four wl w.heap.size (.int .i64 0) (.int .i64 0) (.string ⟨#[]⟩) (.string ⟨#[]⟩) := (by refine Four.keep ?_ hcl; refine ⟨?_, ?_, ?_, ?_, ?_, ?_, ?_, ?_, ?_⟩; all_goals first | (go_simp; done) | (first | (go_size; done) | (simp; done) | (simp; omega))); have E4 : Four wl wE.heap.size (.int .i64 (k : Int)) (.int .i64 0) (.string ⟨#[]⟩) (.string ⟨#[]⟩) := (by refine Four.keep ?_ hcl; refine ⟨?_, ?_, ?_, ?_, ?_, ?_, ?_, ?_, ?_⟩; all_goals first | (go_simp; done) | (first | (go_size; done) | (simp; done) | (simp; omega))); have hEl : Below w.heap.size w wl := (by (repeat' (first | (with_reducible exact Below.refl _ _) | (with_reducible refine Below.alloc ?_ ?_ _) | (with_reducible refine Below.setCell ?_ ?_ _) | (with_reducible refine Below.drew ?_) | (refine below_hyp (by assumption) ?_ ?_) | go_size))); replace x1 : wl.cell? ⟨g, 1, none⟩ = some (.string u1) := keep_cell hcl (by go_simp); (try (replace x2 : wl.cell? ⟨g, 2, none⟩ = some (.string u2) := keep_cell hcl (by go_simp))); clear y0 y1 y2 y3 m0 m1 m2 m3; obtain ⟨_, y0, y1, y2, y3, m0, m1, m2, m3⟩ := Y4; obtain ⟨_, e0, e1, e2, e3, n0, n1, n2, n3⟩ := E4) | (go_at_call 10; refine (CT _).mono ?_; rintro _ wt ⟨rfl, hct⟩; have hcts := hct.size; (try simp only [World.size_alloc, World.size_setCell] at hcts); have Y4 : Four wt w.heap.size (.int .i64 0) (.int .i64 0) (.string ⟨#[]⟩) (.string ⟨#[]⟩) := (by refine Four.keep ?_ hct; refine ⟨?_, ?_, ?_, ?_, ?_, ?_, ?_, ?_, ?_⟩; all_goals first | (go_simp; done) | (first | (go_size; done) | (simp; done) | (simp; omega))); have E4 : Four wt wE.heap.size (.int .i64 (k : Int)) (.int .i64 (0)) (.string (u1)) (.string (u2)) := (by refine Four.keep ?_ hct; refine ⟨?_, ?_, ?_, ?_, ?_, ?_, ?_, ?_, ?_⟩; all_goals first | (go_simp; done) | (first | (go_size; done) | (simp; done) | (simp; omega))); have hEt : Below w.heap.size w wt := (by (repeat' (first | (with_reducible exact Below.refl _ _) | (with_reducible refine Below.alloc ?_ ?_ _) | (with_reducible refine Below.setCell ?_ ?_ _) | (with_reducible refine Below.drew ?_) | (refine below_hyp (by assumption) ?_ ?_) | go_size))); clear y0 y1 y2 y3 m0 m1 m2 m3; obtain ⟨_, y0, y1, y2, y3, m0, m1, m2, m3⟩ := Y4; obtain ⟨_, e0, e1, e2, e3, n0, n1, n2, n3⟩ := E4))
            (all_goals
              refine bodyPost_ret (v := ?_) ?hrun rfl ?_
              case hrun => (simp only [results, Tryd.results8]; go_simp; first | done | exact rfl)
              exact HR.out _ _ ⟨by first | (rw [RV.out]; done) | (rw [RV.out]; rfl), by (repeat' (first | (with_reducible exact Below.refl _ _) | (with_reducible refine Below.alloc ?_ ?_ _) | (with_reducible refine Below.setCell ?_ ?_ _) | (with_reducible refine Below.drew ?_) | (refine below_hyp (by assumption) ?_ ?_) | go_size))⟩)
        · have CR : ∀ W, Calls Tryd.prog 25 #[.string u1] W fun e w' => e = .returned (.tuple #[.int .i64 q, .bool true]) ∧ Below W.heap.size W w' := fun W => (S_l1ReadL u1 W su1).mono fun e w' h => ⟨h.1.trans (by unfold numT; rw [hr, hnum]), h.2⟩
          have CT : ∀ W, Calls Tryd.prog 10 #[.agg #[.int .i64 (k : Int), .int .i64 (q), .string (⟨#[]⟩), .string (u2)]] W fun e w' => e = .returned (.string (tx (insTxt (k : Int) (q) (⟨#[]⟩) (u2)))) ∧ Below W.heap.size W w' := fun W => S_InsText _ _ _ _ W (by unfold maxLen; first | (exact Nat.zero_le _) | omega) (by unfold maxLen; first | (exact Nat.zero_le _) | omega)
          have FIN := ins_fin (op := (k : Int)) (A := q) (N := ⟨#[]⟩) (M := u2) (by rw [← WS.out]; exact (by rw [insOf_more hn hu1 hu2, hr, hnum]; rfl)) RT.out
          clear hn hu1 hr hnum
          (try clear hu2)
          rcases FIN with ⟨hl, RV⟩ | ⟨hl, hT, RV⟩ | ⟨hl, hT, RV⟩
          · go_wp2_with (go_at_call 25; refine (CR _).mono ?_; rintro _ wl ⟨rfl, hcl⟩; have hcls := hcl.size; (try simp only [World.size_alloc, World.size_setCell] at hcls); have Y4 : Four wl w.heap.size (.int .i64 0) (.int .i64 0) (.string ⟨#[]⟩) (.string ⟨#[]⟩) := (by refine Four.keep ?_ hcl; refine ⟨?_, ?_, ?_, ?_, ?_, ?_, ?_, ?_, ?_⟩; all_goals first | (go_simp; done) | (first | (go_size; done) | (simp; done) | (simp; omega))); have E4 : Four wl wE.heap.size (.int .i64 (k : Int)) (.int .i64 0) (.string ⟨#[]⟩) (.string ⟨#[]⟩) := (by refine Four.keep ?_ hcl; refine ⟨?_, ?_, ?_, ?_, ?_, ?_, ?_, ?_, ?_⟩; all_goals first | (go_simp; done) | (first | (go_size; done) | (simp; done) | (simp; omega))); have hEl : Below w.heap.size w wl := (by (repeat' (first | (with_reducible exact Below.refl _ _) | (with_reducible refine Below.alloc ?_ ?_ _) | (with_reducible refine Below.setCell ?_ ?_ _) | (with_reducible refine Below.drew ?_) | (refine below_hyp (by assumption) ?_ ?_) | go_size))); replace x1 : wl.cell? ⟨g, 1, none⟩ = some (.string u1) := keep_cell hcl (by go_simp); (try (replace x2 : wl.cell? ⟨g, 2, none⟩ = some (.string u2) := keep_cell hcl (by go_simp))); clear y0 y1 y2 y3 m0 m1 m2 m3; obtain ⟨_, y0, y1, y2, y3, m0, m1, m2, m3⟩ := Y4; obtain ⟨_, e0, e1, e2, e3, n0, n1, n2, n3⟩ := E4)
            (all_goals
              refine bodyPost_ret (v := ?_) ?hrun rfl ?_
              case hrun => (simp only [results, Tryd.results8]; go_simp; first | done | exact rfl)
              exact HR.out _ _ ⟨by first | (rw [RV.out]; done) | (rw [RV.out]; rfl), by (repeat' (first | (with_reducible exact Below.refl _ _) | (with_reducible refine Below.alloc ?_ ?_ _) | (with_reducible refine Below.setCell ?_ ?_ _) | (with_reducible refine Below.drew ?_) | (refine below_hyp (by assumption) ?_ ?_) | go_size))⟩)
          · go_wp2_with (first | (go_at_call 25; refine (CR _).mono ?_; rintro _ wl ⟨rfl, hcl⟩; have hcls := hcl.size; (try simp only [World.size_alloc, World.size_setCell] at hcls); have Y4 : Four wl w.heap.size (.int .i64 0) (.int .i64 0) (.string ⟨#[]⟩) (.string ⟨#[]⟩) := (by refine Four.keep ?_ hcl; refine ⟨?_, ?_, ?_, ?_, ?_, ?_, ?_, ?_, ?_⟩; all_goals first | (go_simp; done) | (first | (go_size; done) | (simp; done) | (simp; omega))); have E4 : Four wl wE.heap.size (.int .i64 (k : Int)) (.int .i64 0) (.string ⟨#[]⟩) (.string ⟨#[]⟩) := (by refine Four.keep ?_ hcl; refine ⟨?_, ?_, ?_, ?_, ?_, ?_, ?_, ?_, ?_⟩; all_goals first | (go_simp; done) | (first | (go_size; done) | (simp; done) | (simp; omega))); have hEl : Below w.heap.size w wl := (by (repeat' (first | (with_reducible exact Below.refl _ _) | (with_reducible refine Below.alloc ?_ ?_ _) | (with_reducible refine Below.setCell ?_ ?_ _) | (with_reducible refine Below.drew ?_) | (refine below_hyp (by assumption) ?_ ?_) | go_size))); replace x1 : wl.cell? ⟨g, 1, none⟩ = some (.string u1) := keep_cell hcl (by go_simp); (try (replace x2 : wl.cell? ⟨g, 2, none⟩ = some (.string u2) := keep_cell hcl (by go_simp))); clear y0 y1 y2 y3 m0 m1 m2 m3; obtain ⟨_, y0, y1, y2, y3, m0, m1, m2, m3⟩ := Y4; obtain ⟨_, e0, e1, e2, e3, n0, n1, n2, n3⟩ := E4) | (go_at_call 10; refine (CT _).mono ?_; rintro _ wt ⟨rfl, hct⟩; have hcts := hct.size; (try simp only [World.size_alloc, World.size_setCell] at hcts); have Y4 : Four wt w.heap.size (.int .i64 0) (.int .i64 0) (.string ⟨#[]⟩) (.string ⟨#[]⟩) := (by refine Four.keep ?_ hct; refine ⟨?_, ?_, ?_, ?_, ?_, ?_, ?_, ?_, ?_⟩; all_goals first | (go_simp; done) | (first | (go_size; done) | (simp; done) | (simp; omega))); have E4 : Four wt wE.heap.size (.int .i64 (k : Int)) (.int .i64 (q)) (.string (⟨#[]⟩)) (.string (u2)) := (by refine Four.keep ?_ hct; refine ⟨?_, ?_, ?_, ?_, ?_, ?_, ?_, ?_, ?_⟩; all_goals first | (go_simp; done) | (first | (go_size; done) | (simp; done) | (simp; omega))); have hEt : Below w.heap.size w wt := (by (repeat' (first | (with_reducible exact Below.refl _ _) | (with_reducible refine Below.alloc ?_ ?_ _) | (with_reducible refine Below.setCell ?_ ?_ _) | (with_reducible refine Below.drew ?_) | (refine below_hyp (by assumption) ?_ ?_) | go_size))); clear y0 y1 y2 y3 m0 m1 m2 m3; obtain ⟨_, y0, y1, y2, y3, m0, m1, m2, m3⟩ := Y4; obtain ⟨_, e0, e1, e2, e3, n0, n1, n2, n3⟩ := E4))
            (all_goals
              refine bodyPost_ret (v := ?_) ?hrun rfl ?_
              case hrun => (simp only [results, Tryd.results8]; go_simp; first | done | exact rfl)
              exact HR.out _ _ ⟨by first | (rw [RV.out]; done) | (rw [RV.out]; rfl), by (repeat' (first | (with_reducible exact Below.refl _ _) | (with_reducible refine Below.alloc ?_ ?_ _) | (with_reducible refine Below.setCell ?_ ?_ _) | (with_reducible refine Below.drew ?_) | (refine below_hyp (by assumption) ?_ ?_) | go_size))⟩)
          · go_wp2_with (first | (go_at_call 25; refine (CR _).mono ?_; rintro _ wl ⟨rfl, hcl⟩; have hcls := hcl.size; (try simp only [World.size_alloc, World.size_setCell] at hcls); have Y4 : Four wl w.heap.size (.int .i64 0) (.int .i64 0) (.string ⟨#[]⟩) (.string ⟨#[]⟩) := (by refine Four.keep ?_ hcl; refine ⟨?_, ?_, ?_, ?_, ?_, ?_, ?_, ?_, ?_⟩; all_goals first | (go_simp; done) | (first | (go_size; done) | (simp; done) | (simp; omega))); have E4 : Four wl wE.heap.size (.int .i64 (k : Int)) (.int .i64 0) (.string ⟨#[]⟩) (.string ⟨#[]⟩) := (by refine Four.keep ?_ hcl; refine ⟨?_, ?_, ?_, ?_, ?_, ?_, ?_, ?_, ?_⟩; all_goals first | (go_simp; done) | (first | (go_size; done) | (simp; done) | (simp; omega))); have hEl : Below w.heap.size w wl := (by (repeat' (first | (with_reducible exact Below.refl _ _) | (with_reducible refine Below.alloc ?_ ?_ _) | (with_reducible refine Below.setCell ?_ ?_ _) | (with_reducible refine Below.drew ?_) | (refine below_hyp (by assumption) ?_ ?_) | go_size))); replace x1 : wl.cell? ⟨g, 1, none⟩ = some (.string u1) := keep_cell hcl (by go_simp); (try (replace x2 : wl.cell? ⟨g, 2, none⟩ = some (.string u2) := keep_cell hcl (by go_simp))); clear y0 y1 y2 y3 m0 m1 m2 m3; obtain ⟨_, y0, y1, y2, y3, m0, m1, m2, m3⟩ := Y4; obtain ⟨_, e0, e1, e2, e3, n0, n1, n2, n3⟩ := E4) | (go_at_call 10; refine (CT _).mono ?_; rintro _ wt ⟨rfl, hct⟩; have hcts := hct.size; (try simp only [World.size_alloc, World.size_setCell] at hcts); have Y4 : Four wt w.heap.size (.int .i64 0) (.int .i64 0) (.string ⟨#[]⟩) (.string ⟨#[]⟩) := (by refine Four.keep ?_ hct; refine ⟨?_, ?_, ?_, ?_, ?_, ?_, ?_, ?_, ?_⟩; all_goals first | (go_simp; done) | (first | (go_size; done) | (simp; done) | (simp; omega))); have E4 : Four wt wE.heap.size (.int .i64 (k : Int)) (.int .i64 (q)) (.string (⟨#[]⟩)) (.string (u2)) := (by refine Four.keep ?_ hct; refine ⟨?_, ?_, ?_, ?_, ?_, ?_, ?_, ?_, ?_⟩; all_goals first | (go_simp; done) | (first | (go_size; done) | (simp; done) | (simp; omega))); have hEt : Below w.heap.size w wt := (by (repeat' (first | (with_reducible exact Below.refl _ _) | (with_reducible refine Below.alloc ?_ ?_ _) | (with_reducible refine Below.setCell ?_ ?_ _) | (with_reducible refine Below.drew ?_) | (refine below_hyp (by assumption) ?_ ?_) | go_size))); clear y0 y1 y2 y3 m0 m1 m2 m3; obtain ⟨_, y0, y1, y2, y3, m0, m1, m2, m3⟩ := Y4; obtain ⟨_, e0, e1, e2, e3, n0, n1, n2, n3⟩ := E4))
            (all_goals
              refine bodyPost_ret (v := ?_) ?hrun rfl ?_
              case hrun => (simp only [results, Tryd.results8]; go_simp; first | done | exact rfl)
              exact HR.out _ _ ⟨by first | (rw [RV.out]; done) | (rw [RV.out]; rfl), by (repeat' (first | (with_reducible exact Below.refl _ _) | (with_reducible refine Below.alloc ?_ ?_ _) | (with_reducible refine Below.setCell ?_ ?_ _) | (with_reducible refine Below.drew ?_) | (refine below_hyp (by assumption) ?_ ?_) | go_size))⟩)
    · have RT : Hid (insRead s = insGo s (16 - (k + 1)) (k + 1)) := Lib.hid (by
        rw [GO1.out, if_neg (by
          intro h
          apply hq
          rw [isW_iff.1 h])])
      have hq' : ((tx (opText (k : Int))).toList == w0.toList) = false := by rw [beq_eq_false_iff_ne]; exact hq
      clear GO1 hq
      go_wp2_with fail
      refine wp_region_in (by kernel_rfl) (by kernel_rfl) ?_
      repeat (go_big_quiet_step (first | (go_at_call 24; exact Calls.ins (SL _))))
      refine wpQuiet_nil ?_
      rintro wZ ⟨⟨wE, hwE⟩, hq⟩
      obtain rfl : wE = wZ := hq.symm
      clear hq
      have hwEs := hwE.size
      (try dsimp only)
      go_wp2
      go_roundw
      case measure => simp [intOf]; omega
      case rel => exact ⟨k + 1, by omega, by omega, by go_num, RT.out, hb.trans (hwE.mono hbs)⟩
theorem S_InsRead (s : ByteArray) (w : World) (hs : s.size ≤ 10000) :
    Calls Tryd.prog 8 #[.string s] w fun e w' => e = .returned (insT (insRead s)) ∧ Below w.heap.size w w' := S_InsReadL s w (by omega)

end Go.Proofs.YtmbfpbgkchncgaaDoor
