

/-
  The walk of the program's ClsOk. Condition: the data can be read.
-/
import Derived.Test.YtmmlhnjmjmbfpaaGreatClsS
import Derived.Test.YtmmlhnjmjmbfpaaGreatMthK
import Derived.Test.YtmmlhnjmjmbfpaaGreatReg
import Derived.Deep.LoopGhost
namespace Go.Proofs.YtmmlhnjmjmbfpaaGreat
set_option linter.unusedSimpArgs false
set_option linter.unusedVariables false
open Go.RowKit

theorem cls_stop_f {c : DClsClass} (h : each (fieldIn c.fFields) c.fFields = false) : false = clsOk c := by simp [clsOk, h]
theorem cls_stop_m {c : DClsClass} (h : each (methodIn c.fMethods) c.fMethods = false) : false = clsOk c := by simp [clsOk, h]

set_option maxRecDepth 100000 in
set_option maxHeartbeats 40000000 in
theorem I_ClsOk (c : DClsClass) (v1 v2 : Value) (w : World) (s1 : Sl 3 rClsField 0 w v1 c.fFields) (s2 : Sl 8 rClsMethod 0 w v2 c.fMethods) (b1 : c.fName.size ≤ maxLen) (b2 : c.fSuper.size ≤ maxLen) :
    Calls Tryz.prog 51 #[.agg #[.string c.fName, .string c.fSuper, v1, v2]] w fun e w' => e = .returned (.bool (clsOk c)) ∧ Below w.heap.size w w' := by
  obtain ⟨a, len, cap, rfl, hl, h1, h2, h3⟩ := id s1
  obtain ⟨a', len', cap', rfl, hl', h1', h2', h3'⟩ := id s2
  have m1 : len ≤ 9223372036854775807 := by unfold maxLen at h2; omega
  have m1' : len' ≤ 9223372036854775807 := by unfold maxLen at h2'; omega
  have HL := Lib.hid hl
  have HL' := Lib.hid hl'
  have H1 := h1
  have H1' := h1'
  clear h2 hl h2' hl' h1 h1'
  by_cases hsu : c.fSuper.toList.isEmpty = false ∧ namOk c.fSuper = false
  · obtain ⟨i1, i2⟩ := hsu
    have HS := Lib.hid i1
    have HS2 := Lib.hid i2
    have i3 : (!c.fSuper.toList.isEmpty) = true := by simp [i1]
    have i4 : ¬ c.fSuper.toList = [] := by simpa using i1
    have CS : ∀ W, Calls Tryz.prog 52 #[.string c.fSuper] W fun e w' => e = .returned (.bool false) ∧ W = w' := fun W => Calls.val2 (I_NamOk c.fSuper W b2) i2
    clear i2
    refine calls_hide fun R HR => ?_
    go_enter Tryz.func51, Tryz.ntmps51
    go_wp2_with fail
    refine (I_NamOk _ _ b1).mono ?_
    rintro _ _ ⟨rfl, rfl⟩
    go_wp2_with (first | (go_at_call 52; refine (CS _).mono ?_; rintro _ _ ⟨rfl, rfl⟩))
    all_goals (try go_returns)
    all_goals exact HR.out _ _ ⟨ret_bool (by simp [clsOk, HS.out, HS2.out]), by (repeat' (first | (with_reducible exact Below.refl _ _) | (with_reducible refine Below.alloc ?_ ?_ _) | (with_reducible refine Below.setCell ?_ ?_ _) | (with_reducible refine Below.drew ?_) | (refine below_hyp (by assumption) ?_ ?_) | go_size))⟩
  have SO : Hid ((c.fSuper.toList.isEmpty || namOk c.fSuper) = true) := Lib.hid (by
    cases h5 : c.fSuper.toList.isEmpty <;> cases h6 : namOk c.fSuper <;> simp_all)
  have SP : (∃ bb : Bool, c.fSuper.toList = [] ∧ c.fSuper.toList.isEmpty = true ∧ (!c.fSuper.toList.isEmpty) = false ∧ ∀ W, Calls Tryz.prog 52 #[.string c.fSuper] W fun e w' => e = .returned (.bool bb) ∧ W = w') ∨ (∃ bb : Bool, ¬ c.fSuper.toList = [] ∧ c.fSuper.toList.isEmpty = false ∧ (!c.fSuper.toList.isEmpty) = true ∧ bb = true ∧ ∀ W, Calls Tryz.prog 52 #[.string c.fSuper] W fun e w' => e = .returned (.bool bb) ∧ W = w') := by
    have h7 := SO.out
    cases h5 : c.fSuper.toList.isEmpty
    · exact Or.inr ⟨namOk c.fSuper, by simpa using h5, rfl, rfl, by simpa [h5] using h7, fun W => I_NamOk c.fSuper W b2⟩
    · exact Or.inl ⟨namOk c.fSuper, by simpa using h5, rfl, rfl, fun W => I_NamOk c.fSuper W b2⟩
  clear hsu
  cases hx : namOk c.fName
  · have HX := Lib.hid hx
    have CN : ∀ W, Calls Tryz.prog 52 #[.string c.fName] W fun e w' => e = .returned (.bool false) ∧ W = w' := fun W => Calls.val2 (I_NamOk c.fName W b1) hx
    clear hx SP
    refine calls_hide fun R HR => ?_
    go_enter Tryz.func51, Tryz.ntmps51
    go_wp2_with (first | (go_at_call 52; refine (CN _).mono ?_; rintro _ _ ⟨rfl, rfl⟩))
    all_goals (try go_returns)
    all_goals exact HR.out _ _ ⟨ret_bool (by simp [clsOk, HX.out]), by (repeat' (first | (with_reducible exact Below.refl _ _) | (with_reducible refine Below.alloc ?_ ?_ _) | (with_reducible refine Below.setCell ?_ ?_ _) | (with_reducible refine Below.drew ?_) | (refine below_hyp (by assumption) ?_ ?_) | go_size))⟩
  have HX := Lib.hid hx
  have CN : ∀ W, Calls Tryz.prog 52 #[.string c.fName] W fun e w' => e = .returned (.bool true) ∧ W = w' := fun W => Calls.val2 (I_NamOk c.fName W b1) hx
  clear hx
  by_cases hlen : ¬ (len ≤ 3 ∧ len' ≤ 4)
  · have HN : Hid (¬ (len ≤ 3 ∧ len' ≤ 4)) := Lib.hid hlen
    have hlen' : 3 < len ∨ len ≤ 3 ∧ 4 < len' := by omega
    clear hlen
    rcases SP with ⟨bb, p1, p2, p3, CS⟩ | ⟨bb, p1, p2, p3, rfl, CS⟩
    all_goals
      rcases hlen' with hl1 | ⟨hl1, hl2⟩
    all_goals
      refine calls_hide fun R HR => ?_
      go_enter Tryz.func51, Tryz.ntmps51
      go_wp2_with fail
      refine (CN _).mono ?_
      rintro _ _ ⟨rfl, rfl⟩
      go_wp2_with (first | (go_at_call 52; refine (CS _).mono ?_; rintro _ _ ⟨rfl, rfl⟩))
    all_goals (try go_returns)
    all_goals exact HR.out _ _ ⟨ret_bool (by
      have h5 := HL.out; have h6 := HL'.out; have h7 := HN.out
      by_cases h8 : len ≤ 3
      · have h9 : ¬ len' ≤ 4 := by omega
        simp [clsOk, h6, h9]
      · simp [clsOk, h5, h8]), by (repeat' (first | (with_reducible exact Below.refl _ _) | (with_reducible refine Below.alloc ?_ ?_ _) | (with_reducible refine Below.setCell ?_ ?_ _) | (with_reducible refine Below.drew ?_) | (refine below_hyp (by assumption) ?_ ?_) | go_size))⟩
  have hlen' : len ≤ 3 ∧ len' ≤ 4 := Decidable.byContradiction hlen
  obtain ⟨hn1, hn2⟩ := hlen'
  clear hlen
  rcases SP with ⟨bb, p1, p2, p3, CS⟩ | ⟨bb, p1, p2, p3, rfl, CS⟩
  all_goals
    refine calls_hide fun R HR => ?_
    go_enter Tryz.func51, Tryz.ntmps51
    go_wp2_with fail
    refine (CN _).mono ?_
    rintro _ _ ⟨rfl, rfl⟩
    clear CN
    go_wp2_with (first | (go_at_call 52; refine (CS _).mono ?_; rintro _ _ ⟨rfl, rfl⟩))
    clear p1 p2 p3 CS
    go_loopw [39] (fun i wr => ∃ k : Nat, k ≤ len ∧ i = .int .i64 k ∧ EachTo (fieldIn c.fFields) c.fFields k = true ∧ Below w.heap.size w wr ∧ wr.cell? ⟨w.heap.size, 2, none⟩ = some (.slice a len cap) ∧ wr.cell? ⟨w.heap.size, 3, none⟩ = some (.slice a' len' cap')) (fun i _ => len - (intOf i).toNat)
    case atStart => exact ⟨0, Nat.zero_le _, rfl, rfl, by (repeat' (first | (with_reducible exact Below.refl _ _) | (with_reducible refine Below.alloc ?_ ?_ _) | (with_reducible refine Below.setCell ?_ ?_ _) | (with_reducible refine Below.drew ?_) | (refine below_hyp (by assumption) ?_ ?_) | go_size)), by go_simp, by go_simp⟩
    case round =>
      obtain ⟨k, hk, rfl, ha, hb, c2, c3⟩ := hrel
      have HA := Lib.hid ha
      clear ha
      have hbx := hb.size
      have hbw := block_lt_of_cell c2
      by_cases hlt : k < len
      · obtain ⟨b, off, rfl, hlo, hbl, hr⟩ := h3.stays rClsField_good (Keeps.of_below hb) (by omega)
        obtain ⟨⟨fn, fk, fkn⟩, cs, e0, e1, e2, e3⟩ := hr k hlt
        obtain ⟨rfl, bx1, bx2⟩ := e3
        have q1 : wr.cell? ⟨b, off + k * 3, none⟩ = some (.string fn) := e2 0 _ rfl
        have q2 : wr.cell? ⟨b, off + k * 3 + 1, none⟩ = some (.int .i64 fk) := e2 1 _ rfl
        have q3 : wr.cell? ⟨b, off + k * 3 + 2, none⟩ = some (.string fkn) := e2 2 _ rfl
        have E0 := Lib.hid e0
        have g1 : (k : Int) ≤ (cap : Int) := by have := H1; omega
        clear e0 e1 e2 hr
        go_wp2_with fail
        refine (I_NamOk _ _ bx1).mono ?_
        rintro _ _ ⟨rfl, rfl⟩
        cases hx : namOk fn
        · have H5 := Lib.hid hx
          clear hx
          go_wp2
          all_goals (try go_returns)
          all_goals exact HR.out _ _ ⟨ret_bool (cls_stop_f (each_stop E0.out (by simp [fieldIn, H5.out]))), by (repeat' (first | (with_reducible exact Below.refl _ _) | (with_reducible refine Below.alloc ?_ ?_ _) | (with_reducible refine Below.setCell ?_ ?_ _) | (with_reducible refine Below.drew ?_) | (refine below_hyp (by assumption) ?_ ?_) | go_size))⟩
        have H5 := Lib.hid hx
        clear hx
        go_wp2_with fail
        refine (I_KndOk _ _ _ bx2).mono ?_
        rintro _ w1 ⟨rfl, g⟩
        have hR1 : Below wr.heap.size wr w1 := by (repeat' (first | (with_reducible exact Below.refl _ _) | (with_reducible refine Below.alloc ?_ ?_ _) | (with_reducible refine Below.setCell ?_ ?_ _) | (with_reducible refine Below.drew ?_) | (refine below_hyp (by assumption) ?_ ?_) | go_size))
        have hE1 : Below w.heap.size w w1 := hb.trans (hR1.mono hbx)
        have hz1 := hR1.size
        have gz := g.size
        simp only [World.size_alloc] at gz
        have d2 := keep_cell hR1 c2
        have d3 := keep_cell hR1 c3
        have dn : w1.cell? ⟨wr.heap.size, 0, none⟩ = some (.string fn) := (g.cell (by simp)).trans (by go_simp)
        clear c2 c3 q1 q2 q3 g
        cases hx : kndOk fk fkn
        · have H6 := Lib.hid hx
          clear hx
          go_wp2
          all_goals (try go_returns)
          all_goals exact HR.out _ _ ⟨ret_bool (cls_stop_f (each_stop E0.out (by simp [fieldIn, kndOkD, H6.out]))), hE1⟩
        have H6 := Lib.hid hx
        clear hx
        obtain ⟨wB, hwB⟩ : ∃ wB, wB = wr.heap.size := ⟨_, rfl⟩
        rw [← hwB] at dn
        obtain ⟨wo, rfl⟩ : ∃ wo : World, wo = wr := ⟨_, rfl⟩
        go_wp2_with fail
        rw [← hwB]
        clear hwB
        go_loopw [59] (fun i wr => ∃ q : Nat, q ≤ k ∧ i = .int .i64 q ∧ EachTo (nots fun f => sameN f.fName fn) (c.fFields.take k) q = true ∧ Below w.heap.size w wr ∧ wr.cell? ⟨w.heap.size, 2, none⟩ = some (.slice (some ⟨b, off, none⟩) len cap) ∧ wr.cell? ⟨w.heap.size, 3, none⟩ = some (.slice a' len' cap') ∧ wr.cell? ⟨wB, 0, none⟩ = some (.string fn)) (fun i _ => k - (intOf i).toNat)
        case atStart => exact ⟨0, Nat.zero_le _, rfl, rfl, hE1, d2, d3, dn⟩
        case round =>
          clear hE1 hR1 hz1 gz d2 d3 dn
          obtain ⟨q, hq, rfl, hqa, hb', c2, c3, dn⟩ := hrel
          have HQ := Lib.hid hqa
          clear hqa
          have hbx' := hb'.size
          have hbn := block_lt_of_cell dn
          by_cases hlq : q < k
          · obtain ⟨b', off', e', _, hbl', hr'⟩ := h3.stays rClsField_good (Keeps.of_below hb') (by omega)
            cases e'
            obtain ⟨gx, cs', f0, f1, f2, f3⟩ := hr' q (by omega)
            obtain ⟨rfl, by1, by2⟩ := f3
            have p1 : wr.cell? ⟨b, off + q * 3, none⟩ = some (.string gx.fName) := f2 0 _ rfl
            have p2 : wr.cell? ⟨b, off + q * 3 + 1, none⟩ = some (.int .i64 gx.fKind.fKind) := f2 1 _ rfl
            have p3 : wr.cell? ⟨b, off + q * 3 + 2, none⟩ = some (.string gx.fKind.fName) := f2 2 _ rfl
            have E1 : Hid ((c.fFields.take k)[q]? = some gx) := Lib.hid (by rw [List.getElem?_take, if_pos hlq]; exact f0)
            clear f0 f1 f2 hr'
            cases hx : sameN gx.fName fn
            · have hx2 : (gx.fName.toList == fn.toList) = false := hx
              have HX2 := Lib.hid hx
              clear hx
              go_wp2
              go_roundw
              case measure => simp [intOf]; omega
              case rel => exact ⟨q + 1, by omega, by go_num, EachTo.step HQ.out E1.out (by simp [nots, HX2.out]), by (repeat' (first | (with_reducible exact Below.refl _ _) | (with_reducible refine Below.alloc ?_ ?_ _) | (with_reducible refine Below.setCell ?_ ?_ _) | (with_reducible refine Below.drew ?_) | (refine below_hyp (by assumption) ?_ ?_) | go_size)), keep_cell ((Below.refl _ _).alloc (Nat.le_refl _) _) c2, keep_cell ((Below.refl _ _).alloc (Nat.le_refl _) _) c3, keep_cell ((Below.refl _ _).alloc (Nat.le_refl _) _) dn⟩
            · have hx2 : (gx.fName.toList == fn.toList) = true := hx
              have HX2 := Lib.hid hx
              clear hx
              go_wp2
              all_goals (try go_returns)
              all_goals exact HR.out _ _ ⟨ret_bool (cls_stop_f (each_stop E0.out (by have h9 : fieldAt (c.fFields.take k) fn = (q : Int) := firstAt_hit' HQ.out E1.out HX2.out; have h10 : ¬ fieldAt (c.fFields.take k) fn < 0 := (by omega); simp [fieldIn, h10]))), by (repeat' (first | (with_reducible exact Below.refl _ _) | (with_reducible refine Below.alloc ?_ ?_ _) | (with_reducible refine Below.setCell ?_ ?_ _) | (with_reducible refine Below.drew ?_) | (refine below_hyp (by assumption) ?_ ?_) | go_size))⟩
          · obtain rfl : q = k := by omega
            have HN : Hid (fieldAt (c.fFields.take q) fn < 0) := Lib.hid (by unfold fieldAt; rw [firstAt_none' HQ.out (by rw [List.length_take, HL.out]; omega)]; omega)
            go_wp2
            go_roundw
            case measure => simp [intOf]; omega
            case rel => exact ⟨q + 1, by omega, by go_num, EachTo.step HA.out E0.out (by have h10 := HN.out; simp [fieldIn, kndOkD, H5.out, H6.out, h10]), hb', c2, c3⟩
      · obtain rfl : k = len := by omega
        have HF : Hid (each (fieldIn c.fFields) c.fFields = true) := Lib.hid (each_done HA.out HL.out)
        clear HA
        obtain ⟨wo, rfl⟩ : ∃ wo : World, wo = wr := ⟨_, rfl⟩
        go_wp2_with fail
        go_loopw [73] (fun i wr => ∃ k : Nat, k ≤ len' ∧ i = .int .i64 k ∧ EachTo (methodIn c.fMethods) c.fMethods k = true ∧ Below w.heap.size w wr ∧ wr.cell? ⟨w.heap.size, 3, none⟩ = some (.slice a' len' cap')) (fun i _ => len' - (intOf i).toNat)
        case atStart => exact ⟨0, Nat.zero_le _, rfl, rfl, hb, c3⟩
        case round =>
          clear hb c2 c3 hbx hbw
          obtain ⟨j, hj, rfl, ha, hb, c3⟩ := hrel
          have HA := Lib.hid ha
          clear ha
          have hbx := hb.size
          have hbw := block_lt_of_cell c3
          by_cases hlt' : j < len'
          · obtain ⟨b, off, rfl, hlo, hbl, hr⟩ := h3'.stays rClsMethod_good (Keeps.of_below hb) (by omega)
            obtain ⟨⟨mn, ma, mr, ml, ms, mc, mm⟩, cs, e0, e1, e2, e3⟩ := hr j hlt'
            obtain ⟨x1, x2, x3, rfl, t1, t2, t3, bx1, bx2⟩ := e3
            obtain ⟨xa1, xl1, xc1, rfl⟩ := t1.form
            obtain ⟨xa2, xl2, xc2, rfl⟩ := t2.form
            obtain ⟨xa3, xl3, xc3, rfl⟩ := t3.form
            have q1 : wr.cell? ⟨b, off + j * 8, none⟩ = some (.string mn) := e2 0 _ rfl
            have q2 : wr.cell? ⟨b, off + j * 8 + 1, none⟩ = some (.slice xa1 xl1 xc1) := e2 1 _ rfl
            have q3 : wr.cell? ⟨b, off + j * 8 + 2, none⟩ = some (.int .i64 mr.fKind) := e2 2 _ rfl
            have q4 : wr.cell? ⟨b, off + j * 8 + 3, none⟩ = some (.string mr.fName) := e2 3 _ rfl
            have q5 : wr.cell? ⟨b, off + j * 8 + 4, none⟩ = some (.int .i64 ml) := e2 4 _ rfl
            have q6 : wr.cell? ⟨b, off + j * 8 + 5, none⟩ = some (.int .i64 ms) := e2 5 _ rfl
            have q7 : wr.cell? ⟨b, off + j * 8 + 6, none⟩ = some (.slice xa2 xl2 xc2) := e2 6 _ rfl
            have q8 : wr.cell? ⟨b, off + j * 8 + 7, none⟩ = some (.slice xa3 xl3 xc3) := e2 7 _ rfl
            have E0 := Lib.hid e0
            have g1 : (j : Int) ≤ (cap' : Int) := by have := H1'; omega
            clear e0 e1 e2 hr
            go_wp2_with fail
            refine (I_MthOk ⟨mn, ma, mr, ml, ms, mc, mm⟩ _ _ _ _ (t1.stays rKndKind_good (Keeps.of_below' (B := wr.heap.size) (by (repeat' (first | (with_reducible exact Below.refl _ _) | (with_reducible refine Below.alloc ?_ ?_ _) | (with_reducible refine Below.setCell ?_ ?_ _) | (with_reducible refine Below.drew ?_) | (refine below_hyp (by assumption) ?_ ?_) | go_size))) (Nat.le_refl _))) (t2.stays rClsIns_good (Keeps.of_below' (B := wr.heap.size) (by (repeat' (first | (with_reducible exact Below.refl _ _) | (with_reducible refine Below.alloc ?_ ?_ _) | (with_reducible refine Below.setCell ?_ ?_ _) | (with_reducible refine Below.drew ?_) | (refine below_hyp (by assumption) ?_ ?_) | go_size))) (Nat.le_refl _))) (t3.stays rClsMap_good (Keeps.of_below' (B := wr.heap.size) (by (repeat' (first | (with_reducible exact Below.refl _ _) | (with_reducible refine Below.alloc ?_ ?_ _) | (with_reducible refine Below.setCell ?_ ?_ _) | (with_reducible refine Below.drew ?_) | (refine below_hyp (by assumption) ?_ ?_) | go_size))) (Nat.le_refl _))) bx1 bx2).mono ?_
            rintro _ w1 ⟨rfl, g⟩
            have hR1 : Below wr.heap.size wr w1 := by (repeat' (first | (with_reducible exact Below.refl _ _) | (with_reducible refine Below.alloc ?_ ?_ _) | (with_reducible refine Below.setCell ?_ ?_ _) | (with_reducible refine Below.drew ?_) | (refine below_hyp (by assumption) ?_ ?_) | go_size))
            have hE1 : Below w.heap.size w w1 := hb.trans (hR1.mono hbx)
            have hz1 := hR1.size
            have gz := g.size
            simp only [World.size_alloc] at gz
            have d3 := keep_cell hR1 c3
            have dn : w1.cell? ⟨wr.heap.size, 0, none⟩ = some (.string mn) := (g.cell (by simp)).trans (by go_simp)
            clear c3 q1 q2 q3 q4 q5 q6 q7 q8 g
            cases hx : mthOk ⟨mn, ma, mr, ml, ms, mc, mm⟩
            · have H6 := Lib.hid hx
              clear hx
              go_wp2
              all_goals (try go_returns)
              all_goals exact HR.out _ _ ⟨ret_bool (cls_stop_m (each_stop E0.out (by simp [methodIn, H6.out]))), hE1⟩
            have H6 := Lib.hid hx
            clear hx
            obtain ⟨wB, hwB⟩ : ∃ wB, wB = wr.heap.size := ⟨_, rfl⟩
            rw [← hwB] at dn
            obtain ⟨wo, rfl⟩ : ∃ wo : World, wo = wr := ⟨_, rfl⟩
            go_wp2_with fail
            rw [← hwB]
            clear hwB
            go_loopw [86] (fun i wr => ∃ q : Nat, q ≤ j ∧ i = .int .i64 q ∧ EachTo (nots fun f => sameN f.fName mn) (c.fMethods.take j) q = true ∧ Below w.heap.size w wr ∧ wr.cell? ⟨w.heap.size, 3, none⟩ = some (.slice (some ⟨b, off, none⟩) len' cap') ∧ wr.cell? ⟨wB, 0, none⟩ = some (.string mn)) (fun i _ => j - (intOf i).toNat)
            case atStart => exact ⟨0, Nat.zero_le _, rfl, rfl, hE1, d3, dn⟩
            case round =>
              clear hE1 hR1 hz1 gz d3 dn
              obtain ⟨q, hq, rfl, hqa, hb', c3, dn⟩ := hrel
              have HQ := Lib.hid hqa
              clear hqa
              have hbx' := hb'.size
              have hbn := block_lt_of_cell dn
              by_cases hlq : q < j
              · obtain ⟨b', off', e', _, hbl', hr'⟩ := h3'.stays rClsMethod_good (Keeps.of_below hb') (by omega)
                cases e'
                obtain ⟨gx, cs', f0, f1, f2, f3⟩ := hr' q (by omega)
                obtain ⟨x1, x2, x3, rfl, r1, r2, r3, by1, by2⟩ := f3
                obtain ⟨xa1, xl1, xc1, rfl⟩ := r1.form
                obtain ⟨xa2, xl2, xc2, rfl⟩ := r2.form
                obtain ⟨xa3, xl3, xc3, rfl⟩ := r3.form
                have p1 : wr.cell? ⟨b, off + q * 8, none⟩ = some (.string gx.fName) := f2 0 _ rfl
                have p2 : wr.cell? ⟨b, off + q * 8 + 1, none⟩ = some (.slice xa1 xl1 xc1) := f2 1 _ rfl
                have p3 : wr.cell? ⟨b, off + q * 8 + 2, none⟩ = some (.int .i64 gx.fRet.fKind) := f2 2 _ rfl
                have p4 : wr.cell? ⟨b, off + q * 8 + 3, none⟩ = some (.string gx.fRet.fName) := f2 3 _ rfl
                have p5 : wr.cell? ⟨b, off + q * 8 + 4, none⟩ = some (.int .i64 gx.fLocals) := f2 4 _ rfl
                have p6 : wr.cell? ⟨b, off + q * 8 + 5, none⟩ = some (.int .i64 gx.fStack) := f2 5 _ rfl
                have p7 : wr.cell? ⟨b, off + q * 8 + 6, none⟩ = some (.slice xa2 xl2 xc2) := f2 6 _ rfl
                have p8 : wr.cell? ⟨b, off + q * 8 + 7, none⟩ = some (.slice xa3 xl3 xc3) := f2 7 _ rfl
                have E1 : Hid ((c.fMethods.take j)[q]? = some gx) := Lib.hid (by rw [List.getElem?_take, if_pos hlq]; exact f0)
                clear f0 f1 f2 hr'
                cases hx : sameN gx.fName mn
                · have hx2 : (gx.fName.toList == mn.toList) = false := hx
                  have HX2 := Lib.hid hx
                  clear hx
                  go_wp2
                  go_roundw
                  case measure => simp [intOf]; omega
                  case rel => exact ⟨q + 1, by omega, by go_num, EachTo.step HQ.out E1.out (by simp [nots, HX2.out]), by (repeat' (first | (with_reducible exact Below.refl _ _) | (with_reducible refine Below.alloc ?_ ?_ _) | (with_reducible refine Below.setCell ?_ ?_ _) | (with_reducible refine Below.drew ?_) | (refine below_hyp (by assumption) ?_ ?_) | go_size)), keep_cell ((Below.refl _ _).alloc (Nat.le_refl _) _) c3, keep_cell ((Below.refl _ _).alloc (Nat.le_refl _) _) dn⟩
                · have hx2 : (gx.fName.toList == mn.toList) = true := hx
                  have HX2 := Lib.hid hx
                  clear hx
                  go_wp2
                  all_goals (try go_returns)
                  all_goals exact HR.out _ _ ⟨ret_bool (cls_stop_m (each_stop E0.out (by have h9 : methodAt (c.fMethods.take j) mn = (q : Int) := firstAt_hit' HQ.out E1.out HX2.out; have h10 : ¬ methodAt (c.fMethods.take j) mn < 0 := (by omega); simp [methodIn, h10]))), by (repeat' (first | (with_reducible exact Below.refl _ _) | (with_reducible refine Below.alloc ?_ ?_ _) | (with_reducible refine Below.setCell ?_ ?_ _) | (with_reducible refine Below.drew ?_) | (refine below_hyp (by assumption) ?_ ?_) | go_size))⟩
              · obtain rfl : q = j := by omega
                have HN : Hid (methodAt (c.fMethods.take q) mn < 0) := Lib.hid (by unfold methodAt; rw [firstAt_none' HQ.out (by rw [List.length_take, HL'.out]; omega)]; omega)
                go_wp2
                go_roundw
                case measure => simp [intOf]; omega
                case rel => exact ⟨q + 1, by omega, by go_num, EachTo.step HA.out E0.out (by have h10 := HN.out; simp [methodIn, H6.out, h10]), hb', c3⟩
          · obtain rfl : j = len' := by omega
            go_wp2
            all_goals (try go_returns)
            all_goals exact HR.out _ _ ⟨ret_bool (by
              have h5 : each (methodIn c.fMethods) c.fMethods = true := each_done HA.out HL'.out
              have h6 := HL.out
              have h7 := HL'.out
              simp only [clsOk, HX.out, SO.out, HF.out, h5, h6, h7]
              simp; omega), hb⟩

end Go.Proofs.YtmmlhnjmjmbfpaaGreat
