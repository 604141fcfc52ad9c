/-
  Texts of mine, packed: ClsI, Sig, Same, SameI. No condition beside those of the single theorems.
-/
import Derived.Test.YtcdmmnfdnmjnpaaK9
import Derived.Test.YtcdmmnfdnmjnpaaK13
import Derived.Test.YtcdmmnfdnmjnpaaK2
import Derived.Deep.LoopGhost
import Derived.Test.YtcdmmnfdnmjnpaaK1
set_option linter.unusedSimpArgs false
set_option linter.unusedVariables false
namespace Go.Proofs.Ytcdmmnfdnmjnpaa
open Go.RowKit
set_option maxRecDepth 100000 in
set_option maxHeartbeats 40000000 in
theorem I_ClsOk (c : DClsClass) (v1 v2 : Value) (w : World) (s1 : Sl 3 rClsField 0 w v1 c.fFields) (s2 : Sl 8 rClsMethod 0 w v2 c.fMethods) (b1 : c.fName.size ≤ maxLen) (b2 : c.fSuper.size ≤ maxLen) :
    Calls Try.prog 23 #[.agg #[.string c.fName, .string c.fSuper, v1, v2]] w fun e w' => e = .returned (.bool (clsOk c)) ∧ Below w.heap.size w w' := by
  obtain ⟨a, len, cap, rfl, hl, h1, h2, h3⟩ := id s1
  obtain ⟨a', len', cap', rfl, hl', h1', h2', h3'⟩ := id s2
  have m1 : len ≤ 9223372036854775807 := by unfold maxLen at h2; omega
  have m1' : len' ≤ 9223372036854775807 := by unfold maxLen at h2'; omega
  have HL := Lib.hid hl
  have HL' := Lib.hid hl'
  have H1 := h1
  have H1' := h1'
  clear h2 hl h2' hl' h1 h1'
  by_cases hsu : c.fSuper.toList.isEmpty = false ∧ namOk c.fSuper = false
  · obtain ⟨i1, i2⟩ := hsu
    have HS := Lib.hid i1
    have HS2 := Lib.hid i2
    have i3 : (!c.fSuper.toList.isEmpty) = true := by simp [i1]
    have i4 : ¬ c.fSuper.toList = [] := by simpa using i1
    have CS : ∀ W, Calls Try.prog 53 #[.string c.fSuper] W fun e w' => e = .returned (.bool false) ∧ W = w' := fun W => Calls.val2 (I_NamOk c.fSuper W b2) i2
    clear i2
    refine calls_hide fun R HR => ?_
    go_enter Try.func23, Try.ntmps23
    go_wp2_with fail
    refine (I_NamOk _ _ b1).mono ?_
    rintro _ _ ⟨rfl, rfl⟩
    go_wp2_with (first | (go_at_call 53; refine (CS _).mono ?_; rintro _ _ ⟨rfl, rfl⟩))
    all_goals (try go_returns)
    all_goals exact HR.out _ _ ⟨ret_bool (by simp [clsOk, HS.out, HS2.out]), bbel⟩
  have SO : Hid ((c.fSuper.toList.isEmpty || namOk c.fSuper) = true) := Lib.hid (by
    cases h5 : c.fSuper.toList.isEmpty <;> cases h6 : namOk c.fSuper <;> simp_all)
  have SP : (∃ bb : Bool, c.fSuper.toList = [] ∧ c.fSuper.toList.isEmpty = true ∧ (!c.fSuper.toList.isEmpty) = false ∧ ∀ W, Calls Try.prog 53 #[.string c.fSuper] W fun e w' => e = .returned (.bool bb) ∧ W = w') ∨ (∃ bb : Bool, ¬ c.fSuper.toList = [] ∧ c.fSuper.toList.isEmpty = false ∧ (!c.fSuper.toList.isEmpty) = true ∧ bb = true ∧ ∀ W, Calls Try.prog 53 #[.string c.fSuper] W fun e w' => e = .returned (.bool bb) ∧ W = w') := by
    have h7 := SO.out
    cases h5 : c.fSuper.toList.isEmpty
    · exact Or.inr ⟨namOk c.fSuper, by simpa using h5, rfl, rfl, by simpa [h5] using h7, fun W => I_NamOk c.fSuper W b2⟩
    · exact Or.inl ⟨namOk c.fSuper, by simpa using h5, rfl, rfl, fun W => I_NamOk c.fSuper W b2⟩
  clear hsu
  cases hx : namOk c.fName
  · have HX := Lib.hid hx
    have CN : ∀ W, Calls Try.prog 53 #[.string c.fName] W fun e w' => e = .returned (.bool false) ∧ W = w' := fun W => Calls.val2 (I_NamOk c.fName W b1) hx
    clear hx SP
    refine calls_hide fun R HR => ?_
    go_enter Try.func23, Try.ntmps23
    go_wp2_with (first | (go_at_call 53; refine (CN _).mono ?_; rintro _ _ ⟨rfl, rfl⟩))
    all_goals (try go_returns)
    all_goals exact HR.out _ _ ⟨ret_bool (by simp [clsOk, HX.out]), bbel⟩
  have HX := Lib.hid hx
  have CN : ∀ W, Calls Try.prog 53 #[.string c.fName] W fun e w' => e = .returned (.bool true) ∧ W = w' := fun W => Calls.val2 (I_NamOk c.fName W b1) hx
  clear hx
  by_cases hlen : ¬ (len ≤ 3 ∧ len' ≤ 4)
  · have HN : Hid (¬ (len ≤ 3 ∧ len' ≤ 4)) := Lib.hid hlen
    have hlen' : 3 < len ∨ len ≤ 3 ∧ 4 < len' := by omega
    clear hlen
    rcases SP with ⟨bb, p1, p2, p3, CS⟩ | ⟨bb, p1, p2, p3, rfl, CS⟩
    all_goals
      rcases hlen' with hl1 | ⟨hl1, hl2⟩
    all_goals
      refine calls_hide fun R HR => ?_
      go_enter Try.func23, Try.ntmps23
      go_wp2_with fail
      refine (CN _).mono ?_
      rintro _ _ ⟨rfl, rfl⟩
      go_wp2_with (first | (go_at_call 53; refine (CS _).mono ?_; rintro _ _ ⟨rfl, rfl⟩))
    all_goals (try go_returns)
    all_goals exact HR.out _ _ ⟨ret_bool (by
      have h5 := HL.out; have h6 := HL'.out; have h7 := HN.out
      by_cases h8 : len ≤ 3
      · have h9 : ¬ len' ≤ 4 := by omega
        simp [clsOk, h6, h9]
      · simp [clsOk, h5, h8]), bbel⟩
  have hlen' : len ≤ 3 ∧ len' ≤ 4 := Decidable.byContradiction hlen
  obtain ⟨hn1, hn2⟩ := hlen'
  clear hlen
  rcases SP with ⟨bb, p1, p2, p3, CS⟩ | ⟨bb, p1, p2, p3, rfl, CS⟩
  all_goals
    refine calls_hide fun R HR => ?_
    go_enter Try.func23, Try.ntmps23
    go_wp2_with fail
    refine (CN _).mono ?_
    rintro _ _ ⟨rfl, rfl⟩
    clear CN
    go_wp2_with (first | (go_at_call 53; refine (CS _).mono ?_; rintro _ _ ⟨rfl, rfl⟩))
    clear p1 p2 p3 CS
    go_loopw [39] (fun i wr => ∃ k : Nat, k ≤ len ∧ i = .int .i64 k ∧ EachTo (fieldIn c.fFields) c.fFields k = true ∧ Below w.heap.size w wr ∧ wr.cell? ⟨w.heap.size, 2, none⟩ = some (.slice a len cap) ∧ wr.cell? ⟨w.heap.size, 3, none⟩ = some (.slice a' len' cap')) (fun i _ => len - (intOf i).toNat)
    case atStart => exact ⟨0, Nat.zero_le _, rfl, rfl, bbel, by go_simp, by go_simp⟩
    case round =>
      obtain ⟨k, hk, rfl, ha, hb, c2, c3⟩ := hrel
      have HA := Lib.hid ha
      clear ha
      have hbx := hb.size
      have hbw := block_lt_of_cell c2
      by_cases hlt : k < len
      · obtain ⟨b, off, rfl, hlo, hbl, hr⟩ := h3.stays rClsField_good (Keeps.of_below hb) (by omega)
        obtain ⟨⟨fn, fk, fkn⟩, cs, e0, e1, e2, e3⟩ := hr k hlt
        obtain ⟨rfl, bx1, bx2⟩ := e3
        have q1 : wr.cell? ⟨b, off + k * 3, none⟩ = some (.string fn) := e2 0 _ rfl
        have q2 : wr.cell? ⟨b, off + k * 3 + 1, none⟩ = some (.int .i64 fk) := e2 1 _ rfl
        have q3 : wr.cell? ⟨b, off + k * 3 + 2, none⟩ = some (.string fkn) := e2 2 _ rfl
        have E0 := Lib.hid e0
        have g1 : (k : Int) ≤ (cap : Int) := by have := H1; omega
        clear e0 e1 e2 hr
        go_wp2_with fail
        refine (I_NamOk _ _ bx1).mono ?_
        rintro _ _ ⟨rfl, rfl⟩
        cases hx : namOk fn
        · have H5 := Lib.hid hx
          clear hx
          go_wp2
          all_goals (try go_returns)
          all_goals exact HR.out _ _ ⟨ret_bool (cls_stop_f (each_stop E0.out (by simp [fieldIn, H5.out]))), bbel⟩
        have H5 := Lib.hid hx
        clear hx
        go_wp2_with fail
        refine (I_KndOk _ _ _ bx2).mono ?_
        rintro _ w1 ⟨rfl, g⟩
        have hR1 : Below wr.heap.size wr w1 := bbel
        have hE1 : Below w.heap.size w w1 := hb.trans (hR1.mono hbx)
        have hz1 := hR1.size
        have gz := g.size
        simp only [World.size_alloc] at gz
        have d2 := keep_cell hR1 c2
        have d3 := keep_cell hR1 c3
        have dn : w1.cell? ⟨wr.heap.size, 0, none⟩ = some (.string fn) := (g.cell (by simp)).trans (by go_simp)
        clear c2 c3 q1 q2 q3 g
        cases hx : kndOk fk fkn
        · have H6 := Lib.hid hx
          clear hx
          go_wp2
          all_goals (try go_returns)
          all_goals exact HR.out _ _ ⟨ret_bool (cls_stop_f (each_stop E0.out (by simp [fieldIn, kndOkD, H6.out]))), hE1⟩
        have H6 := Lib.hid hx
        clear hx
        obtain ⟨wB, hwB⟩ : ∃ wB, wB = wr.heap.size := ⟨_, rfl⟩
        rw [← hwB] at dn
        obtain ⟨wo, rfl⟩ : ∃ wo : World, wo = wr := ⟨_, rfl⟩
        go_wp2_with fail
        rw [← hwB]
        clear hwB
        go_loopw [59] (fun i wr => ∃ q : Nat, q ≤ k ∧ i = .int .i64 q ∧ EachTo (nots fun f => sameN f.fName fn) (c.fFields.take k) q = true ∧ Below w.heap.size w wr ∧ wr.cell? ⟨w.heap.size, 2, none⟩ = some (.slice (some ⟨b, off, none⟩) len cap) ∧ wr.cell? ⟨w.heap.size, 3, none⟩ = some (.slice a' len' cap') ∧ wr.cell? ⟨wB, 0, none⟩ = some (.string fn)) (fun i _ => k - (intOf i).toNat)
        case atStart => exact ⟨0, Nat.zero_le _, rfl, rfl, hE1, d2, d3, dn⟩
        case round =>
          clear hE1 hR1 hz1 gz d2 d3 dn
          obtain ⟨q, hq, rfl, hqa, hb', c2, c3, dn⟩ := hrel
          have HQ := Lib.hid hqa
          clear hqa
          have hbx' := hb'.size
          have hbn := block_lt_of_cell dn
          by_cases hlq : q < k
          · obtain ⟨b', off', e', _, hbl', hr'⟩ := h3.stays rClsField_good (Keeps.of_below hb') (by omega)
            cases e'
            obtain ⟨gx, cs', f0, f1, f2, f3⟩ := hr' q (by omega)
            obtain ⟨rfl, by1, by2⟩ := f3
            have p1 : wr.cell? ⟨b, off + q * 3, none⟩ = some (.string gx.fName) := f2 0 _ rfl
            have p2 : wr.cell? ⟨b, off + q * 3 + 1, none⟩ = some (.int .i64 gx.fKind.fKind) := f2 1 _ rfl
            have p3 : wr.cell? ⟨b, off + q * 3 + 2, none⟩ = some (.string gx.fKind.fName) := f2 2 _ rfl
            have E1 : Hid ((c.fFields.take k)[q]? = some gx) := Lib.hid (by rw [List.getElem?_take, if_pos hlq]; exact f0)
            clear f0 f1 f2 hr'
            cases hx : sameN gx.fName fn
            · have hx2 : (gx.fName.toList == fn.toList) = false := hx
              have HX2 := Lib.hid hx
              clear hx
              go_wp2
              go_roundw
              case measure => simp [intOf]; omega
              case rel => exact ⟨q + 1, by omega, by go_num, EachTo.step HQ.out E1.out (by simp [nots, HX2.out]), bbel, keep_cell ((Below.refl _ _).alloc (Nat.le_refl _) _) c2, keep_cell ((Below.refl _ _).alloc (Nat.le_refl _) _) c3, keep_cell ((Below.refl _ _).alloc (Nat.le_refl _) _) dn⟩
            · have hx2 : (gx.fName.toList == fn.toList) = true := hx
              have HX2 := Lib.hid hx
              clear hx
              go_wp2
              all_goals (try go_returns)
              all_goals exact HR.out _ _ ⟨ret_bool (cls_stop_f (each_stop E0.out (by have h9 : fieldAt (c.fFields.take k) fn = (q : Int) := firstAt_hit' HQ.out E1.out HX2.out; have h10 : ¬ fieldAt (c.fFields.take k) fn < 0 := (by omega); simp [fieldIn, h10]))), bbel⟩
          · obtain rfl : q = k := by omega
            have HN : Hid (fieldAt (c.fFields.take q) fn < 0) := Lib.hid (by unfold fieldAt; rw [firstAt_none' HQ.out (by rw [List.length_take, HL.out]; omega)]; omega)
            go_wp2
            go_roundw
            case measure => simp [intOf]; omega
            case rel => exact ⟨q + 1, by omega, by go_num, EachTo.step HA.out E0.out (by have h10 := HN.out; simp [fieldIn, kndOkD, H5.out, H6.out, h10]), hb', c2, c3⟩
      · obtain rfl : k = len := by omega
        have HF : Hid (each (fieldIn c.fFields) c.fFields = true) := Lib.hid (each_done HA.out HL.out)
        clear HA
        obtain ⟨wo, rfl⟩ : ∃ wo : World, wo = wr := ⟨_, rfl⟩
        go_wp2_with fail
        go_loopw [73] (fun i wr => ∃ k : Nat, k ≤ len' ∧ i = .int .i64 k ∧ EachTo (methodIn c.fMethods) c.fMethods k = true ∧ Below w.heap.size w wr ∧ wr.cell? ⟨w.heap.size, 3, none⟩ = some (.slice a' len' cap')) (fun i _ => len' - (intOf i).toNat)
        case atStart => exact ⟨0, Nat.zero_le _, rfl, rfl, hb, c3⟩
        case round =>
          clear hb c2 c3 hbx hbw
          obtain ⟨j, hj, rfl, ha, hb, c3⟩ := hrel
          have HA := Lib.hid ha
          clear ha
          have hbx := hb.size
          have hbw := block_lt_of_cell c3
          by_cases hlt' : j < len'
          · obtain ⟨b, off, rfl, hlo, hbl, hr⟩ := h3'.stays rClsMethod_good (Keeps.of_below hb) (by omega)
            obtain ⟨⟨mn, ma, mr, ml, ms, mc, mm⟩, cs, e0, e1, e2, e3⟩ := hr j hlt'
            obtain ⟨x1, x2, x3, rfl, t1, t2, t3, bx1, bx2⟩ := e3
            obtain ⟨xa1, xl1, xc1, rfl⟩ := t1.form
            obtain ⟨xa2, xl2, xc2, rfl⟩ := t2.form
            obtain ⟨xa3, xl3, xc3, rfl⟩ := t3.form
            have q1 : wr.cell? ⟨b, off + j * 8, none⟩ = some (.string mn) := e2 0 _ rfl
            have q2 : wr.cell? ⟨b, off + j * 8 + 1, none⟩ = some (.slice xa1 xl1 xc1) := e2 1 _ rfl
            have q3 : wr.cell? ⟨b, off + j * 8 + 2, none⟩ = some (.int .i64 mr.fKind) := e2 2 _ rfl
            have q4 : wr.cell? ⟨b, off + j * 8 + 3, none⟩ = some (.string mr.fName) := e2 3 _ rfl
            have q5 : wr.cell? ⟨b, off + j * 8 + 4, none⟩ = some (.int .i64 ml) := e2 4 _ rfl
            have q6 : wr.cell? ⟨b, off + j * 8 + 5, none⟩ = some (.int .i64 ms) := e2 5 _ rfl
            have q7 : wr.cell? ⟨b, off + j * 8 + 6, none⟩ = some (.slice xa2 xl2 xc2) := e2 6 _ rfl
            have q8 : wr.cell? ⟨b, off + j * 8 + 7, none⟩ = some (.slice xa3 xl3 xc3) := e2 7 _ rfl
            have E0 := Lib.hid e0
            have g1 : (j : Int) ≤ (cap' : Int) := by have := H1'; omega
            clear e0 e1 e2 hr
            go_wp2_with fail
            refine (I_MthOk ⟨mn, ma, mr, ml, ms, mc, mm⟩ _ _ _ _ (t1.stays rKndKind_good (Keeps.of_below' (B := wr.heap.size) (bbel) (Nat.le_refl _))) (t2.stays rClsIns_good (Keeps.of_below' (B := wr.heap.size) (bbel) (Nat.le_refl _))) (t3.stays rClsMap_good (Keeps.of_below' (B := wr.heap.size) (bbel) (Nat.le_refl _))) bx1 bx2).mono ?_
            rintro _ w1 ⟨rfl, g⟩
            have hR1 : Below wr.heap.size wr w1 := bbel
            have hE1 : Below w.heap.size w w1 := hb.trans (hR1.mono hbx)
            have hz1 := hR1.size
            have gz := g.size
            simp only [World.size_alloc] at gz
            have d3 := keep_cell hR1 c3
            have dn : w1.cell? ⟨wr.heap.size, 0, none⟩ = some (.string mn) := (g.cell (by simp)).trans (by go_simp)
            clear c3 q1 q2 q3 q4 q5 q6 q7 q8 g
            cases hx : mthOk ⟨mn, ma, mr, ml, ms, mc, mm⟩
            · have H6 := Lib.hid hx
              clear hx
              go_wp2
              all_goals (try go_returns)
              all_goals exact HR.out _ _ ⟨ret_bool (cls_stop_m (each_stop E0.out (by simp [methodIn, H6.out]))), hE1⟩
            have H6 := Lib.hid hx
            clear hx
            obtain ⟨wB, hwB⟩ : ∃ wB, wB = wr.heap.size := ⟨_, rfl⟩
            rw [← hwB] at dn
            obtain ⟨wo, rfl⟩ : ∃ wo : World, wo = wr := ⟨_, rfl⟩
            go_wp2_with fail
            rw [← hwB]
            clear hwB
            go_loopw [86] (fun i wr => ∃ q : Nat, q ≤ j ∧ i = .int .i64 q ∧ EachTo (nots fun f => sameN f.fName mn) (c.fMethods.take j) q = true ∧ Below w.heap.size w wr ∧ wr.cell? ⟨w.heap.size, 3, none⟩ = some (.slice (some ⟨b, off, none⟩) len' cap') ∧ wr.cell? ⟨wB, 0, none⟩ = some (.string mn)) (fun i _ => j - (intOf i).toNat)
            case atStart => exact ⟨0, Nat.zero_le _, rfl, rfl, hE1, d3, dn⟩
            case round =>
              clear hE1 hR1 hz1 gz d3 dn
              obtain ⟨q, hq, rfl, hqa, hb', c3, dn⟩ := hrel
              have HQ := Lib.hid hqa
              clear hqa
              have hbx' := hb'.size
              have hbn := block_lt_of_cell dn
              by_cases hlq : q < j
              · obtain ⟨b', off', e', _, hbl', hr'⟩ := h3'.stays rClsMethod_good (Keeps.of_below hb') (by omega)
                cases e'
                obtain ⟨gx, cs', f0, f1, f2, f3⟩ := hr' q (by omega)
                obtain ⟨x1, x2, x3, rfl, r1, r2, r3, by1, by2⟩ := f3
                obtain ⟨xa1, xl1, xc1, rfl⟩ := r1.form
                obtain ⟨xa2, xl2, xc2, rfl⟩ := r2.form
                obtain ⟨xa3, xl3, xc3, rfl⟩ := r3.form
                have p1 : wr.cell? ⟨b, off + q * 8, none⟩ = some (.string gx.fName) := f2 0 _ rfl
                have p2 : wr.cell? ⟨b, off + q * 8 + 1, none⟩ = some (.slice xa1 xl1 xc1) := f2 1 _ rfl
                have p3 : wr.cell? ⟨b, off + q * 8 + 2, none⟩ = some (.int .i64 gx.fRet.fKind) := f2 2 _ rfl
                have p4 : wr.cell? ⟨b, off + q * 8 + 3, none⟩ = some (.string gx.fRet.fName) := f2 3 _ rfl
                have p5 : wr.cell? ⟨b, off + q * 8 + 4, none⟩ = some (.int .i64 gx.fLocals) := f2 4 _ rfl
                have p6 : wr.cell? ⟨b, off + q * 8 + 5, none⟩ = some (.int .i64 gx.fStack) := f2 5 _ rfl
                have p7 : wr.cell? ⟨b, off + q * 8 + 6, none⟩ = some (.slice xa2 xl2 xc2) := f2 6 _ rfl
                have p8 : wr.cell? ⟨b, off + q * 8 + 7, none⟩ = some (.slice xa3 xl3 xc3) := f2 7 _ rfl
                have E1 : Hid ((c.fMethods.take j)[q]? = some gx) := Lib.hid (by rw [List.getElem?_take, if_pos hlq]; exact f0)
                clear f0 f1 f2 hr'
                cases hx : sameN gx.fName mn
                · have hx2 : (gx.fName.toList == mn.toList) = false := hx
                  have HX2 := Lib.hid hx
                  clear hx
                  go_wp2
                  go_roundw
                  case measure => simp [intOf]; omega
                  case rel => exact ⟨q + 1, by omega, by go_num, EachTo.step HQ.out E1.out (by simp [nots, HX2.out]), bbel, keep_cell ((Below.refl _ _).alloc (Nat.le_refl _) _) c3, keep_cell ((Below.refl _ _).alloc (Nat.le_refl _) _) dn⟩
                · have hx2 : (gx.fName.toList == mn.toList) = true := hx
                  have HX2 := Lib.hid hx
                  clear hx
                  go_wp2
                  all_goals (try go_returns)
                  all_goals exact HR.out _ _ ⟨ret_bool (cls_stop_m (each_stop E0.out (by have h9 : methodAt (c.fMethods.take j) mn = (q : Int) := firstAt_hit' HQ.out E1.out HX2.out; have h10 : ¬ methodAt (c.fMethods.take j) mn < 0 := (by omega); simp [methodIn, h10]))), bbel⟩
              · obtain rfl : q = j := by omega
                have HN : Hid (methodAt (c.fMethods.take q) mn < 0) := Lib.hid (by unfold methodAt; rw [firstAt_none' HQ.out (by rw [List.length_take, HL'.out]; omega)]; omega)
                go_wp2
                go_roundw
                case measure => simp [intOf]; omega
                case rel => exact ⟨q + 1, by omega, by go_num, EachTo.step HA.out E0.out (by have h10 := HN.out; simp [methodIn, H6.out, h10]), hb', c3⟩
          · obtain rfl : j = len' := by omega
            go_wp2
            all_goals (try go_returns)
            all_goals exact HR.out _ _ ⟨ret_bool (by
              have h5 : each (methodIn c.fMethods) c.fMethods = true := each_done HA.out HL'.out
              have h6 := HL.out
              have h7 := HL'.out
              simp only [clsOk, HX.out, SO.out, HF.out, h5, h6, h7]
              simp; omega), hb⟩

def kndEq (a b : DKndKind) : Bool := a.fKind == b.fKind && a.fName.toList == b.fName.toList
def argAt (ys : List DKndKind) (k : Nat) (x : DKndKind) : Bool := match ys[k]? with | some y => kndEq x y | none => true
def sameArgs (xs ys : List DKndKind) : Bool := decide (xs.length = ys.length) && each (argAt ys) xs
def sameSig (a b : DClsMethod) : Bool := kndEq a.fRet b.fRet && sameArgs a.fArgs b.fArgs

theorem kndEq_iff {a b : DKndKind} : kndEq a b = true ↔ a = b := by
  obtain ⟨ak, an⟩ := a
  obtain ⟨bk, bn⟩ := b
  unfold kndEq
  simp only [Bool.and_eq_true, beq_iff_eq, DKndKind.mk.injEq]
  constructor
  · rintro ⟨h1, h2⟩; exact ⟨h1, sameN_iff.1 (by simpa [sameN] using h2)⟩
  · rintro ⟨h1, h2⟩; exact ⟨h1, by rw [h2]⟩

@[go_sem] theorem eg_knd : Try.prog.eqGuardType Try.prog.depth 25 = false := by kernel_rfl
@[go_sem] theorem eq_knd (a c : Int) (b d : ByteArray) (w : World) : (Op.equalIn 10000 25 (.agg #[.int .i64 a, .string b]) (.agg #[.int .i64 c, .string d])).run Try.prog w = .ok (a == c && b.toList == d.toList) w := by
  have iu3 := Try.underlying3
  have ia3 := Try.isAgg3
  have iz3 := Try.sizeOf3
  have iu9 := Try.underlying9
  have ia9 := Try.isAgg9
  have iz9 := Try.sizeOf9
  have hS : Try.prog.underlying 25 = some (.struct (Try.prog.fieldsOf 25)) := by kernel_rfl
  have hp : Try.prog.stoodInHeld 25 = false := by kernel_rfl
  rw [show (10000 : Nat) = 9999 + 1 from rfl, run_equalIn_agg w 9999 25 _ _ hS hp]
  simp only [Program.fieldsOf, Try.underlying25]
  go_simp
  by_cases h1 : a = c <;> by_cases h2 : b.toList = d.toList <;> simp [h1, h2]

theorem sameSig_len {m n : DClsMethod} (h : m.fArgs.length ≠ n.fArgs.length) : sameSig m n = false := by simp [sameSig, sameArgs, h]
theorem sameSig_ret {m n : DClsMethod} (h : kndEq m.fRet n.fRet = false) : sameSig m n = false := by simp [sameSig, h]
theorem sameSig_stop {m n : DClsMethod} (h : each (argAt n.fArgs) m.fArgs = false) : sameSig m n = false := by simp [sameSig, sameArgs, h]
theorem sameSig_done {m n : DClsMethod} (h1 : m.fArgs.length = n.fArgs.length) (h2 : kndEq m.fRet n.fRet = true) (h : each (argAt n.fArgs) m.fArgs = true) : sameSig m n = true := by simp [sameSig, sameArgs, h, h1, h2]

set_option maxRecDepth 100000 in
set_option maxHeartbeats 8000000 in
theorem I_eqKnds (xs ys : List DKndKind) (v1 u1 : Value) (w : World) (s1 : Sl 2 rKndKind 0 w v1 xs) (t1 : Sl 2 rKndKind 0 w u1 ys) :
    Calls Try.prog 127 #[v1, u1] w fun e w' => e = .returned (.bool (sameArgs xs ys)) ∧ Below w.heap.size w w' := by
  obtain ⟨a, len, cap, rfl, hl, h1, h2, h3⟩ := id s1
  obtain ⟨a', len', cap', rfl, hl', h1', h2', h3'⟩ := id t1
  have m1 : len ≤ 9223372036854775807 := by unfold maxLen at h2; omega
  have m1' : len' ≤ 9223372036854775807 := by unfold maxLen at h2'; omega
  have HL := Lib.hid hl
  have HL' := Lib.hid hl'
  clear h2 hl h2' hl' h1 h1'
  obtain ⟨z, hz⟩ : ∃ z, z = sameArgs xs ys := ⟨_, rfl⟩
  have HZ := Lib.hid hz
  rw [← hz]
  clear hz
  by_cases hlen : ¬ len = len'
  · have RV : Hid (z = false) := Lib.hid (by rw [HZ.out]; unfold sameArgs; rw [HL.out, HL'.out]; simp [hlen])
    have i1 : ((len : Int) != (len' : Int)) = true := by simp; omega
    have i2 : ¬ (len : Int) = (len' : Int) := by omega
    refine calls_hide fun R HR => ?_
    go_enter Try.func127, Try.ntmps127
    go_wp2
    all_goals (try go_returns)
    all_goals exact HR.out _ _ ⟨by rw [RV.out]; rfl, bbel⟩
  obtain rfl : len = len' := Decidable.byContradiction hlen
  clear hlen
  refine calls_hide fun R HR => ?_
  go_enter Try.func127, Try.ntmps127
  go_wp2_with fail
  go_loopw [5, 13] (fun _ i wr => ∃ k : Nat, k ≤ len ∧ i = .int .i64 k ∧ EachTo (argAt ys) xs k = true ∧ Below w.heap.size w wr) (fun _ i _ => len - (intOf i).toNat)
  case atStart => exact ⟨0, Nat.zero_le _, rfl, rfl, bbel⟩
  case round =>
    obtain ⟨k, hk, rfl, ha, hb⟩ := hrel
    have HA := Lib.hid ha
    clear ha
    by_cases hlt : k < len
    · obtain ⟨b, off, rfl, _, _, hr⟩ := h3.stays rKndKind_good (Keeps.of_below hb) (by omega)
      obtain ⟨b', off', rfl, _, _, hr'⟩ := h3'.stays rKndKind_good (Keeps.of_below hb) (by omega)
      obtain ⟨⟨xk, xn⟩, cs, e0, _, e1, e4⟩ := hr k hlt
      obtain ⟨⟨yk, yn⟩, cs', f0, _, f1, f4⟩ := hr' k hlt
      obtain ⟨rfl, _⟩ := e4
      obtain ⟨rfl, _⟩ := f4
      have q1 : wr.cell? ⟨b, off + k * 2, none⟩ = some (.int .i64 xk) := e1 0 _ rfl
      have q2 : wr.cell? ⟨b, off + k * 2 + 1, none⟩ = some (.string xn) := e1 1 _ rfl
      have q3 : wr.cell? ⟨b', off' + k * 2, none⟩ = some (.int .i64 yk) := f1 0 _ rfl
      have q4 : wr.cell? ⟨b', off' + k * 2 + 1, none⟩ = some (.string yn) := f1 1 _ rfl
      have E0 := Lib.hid e0
      have F0 := Lib.hid f0
      clear e0 e1 f0 f1 hr hr'
      cases hx : kndEq ⟨xk, xn⟩ ⟨yk, yn⟩
      · have RV : Hid (z = false) := Lib.hid (by rw [HZ.out]; unfold sameArgs; rw [each_stop E0.out (by unfold argAt; rw [F0.out]; exact hx)]; simp)
        have hq2 : (xk == yk && xn.toList == yn.toList) = false := hx
        have bo : ∀ W, (binOp .neq 25 (.agg #[.int .i64 xk, .string xn]) (.agg #[.int .i64 yk, .string yn])).run Try.prog W = .ok (.bool true) W := fun W => by
          simp only [run_neq_struct, eq_knd, hq2]
          try simp [Result.andThen]
        clear hq2 hx
        go_wp2_with fail
        go_region
        go_wp2
        all_goals (try go_returns)
        all_goals exact HR.out _ _ ⟨by first | (rw [RV.out]; done) | (rw [RV.out]; rfl), bbel⟩
      · have heq := kndEq_iff.1 hx
        have HX := Lib.hid hx
        cases heq
        clear hx
        have bo : ∀ W, (binOp .neq 25 (.agg #[.int .i64 xk, .string xn]) (.agg #[.int .i64 xk, .string xn])).run Try.prog W = .ok (.bool false) W := fun W => by
          simp only [run_neq_struct, eq_knd]
          try simp [Result.andThen]
        go_wp2_with fail
        go_region
        go_wp2
        go_roundw
        case measure => simp [intOf]; omega
        case rel => exact ⟨k + 1, by omega, by go_num, EachTo.step HA.out E0.out (by unfold argAt; rw [F0.out]; exact HX.out), bbel⟩
    · obtain rfl : k = len := by omega
      have RV : Hid (z = true) := Lib.hid (by rw [HZ.out]; unfold sameArgs; rw [each_done HA.out HL.out, HL.out, HL'.out]; simp)
      go_wp2
      all_goals (try go_returns)
      all_goals exact HR.out _ _ ⟨by rw [RV.out]; rfl, bbel⟩

def eqAt {α : Type} (f : α → α → Bool) (ys : List α) (k : Nat) (x : α) : Bool := match ys[k]? with | some y => f x y | none => true
def eqL {α : Type} (f : α → α → Bool) (xs ys : List α) : Bool := decide (xs.length = ys.length) && each (eqAt f ys) xs
theorem eqL_len {α : Type} {f : α → α → Bool} {xs ys : List α} (h : xs.length ≠ ys.length) : eqL f xs ys = false := by simp [eqL, h]
theorem eqL_stop {α : Type} {f : α → α → Bool} {xs ys : List α} (h : each (eqAt f ys) xs = false) : eqL f xs ys = false := by simp [eqL, h]
theorem eqL_done {α : Type} {f : α → α → Bool} {xs ys : List α} (h1 : xs.length = ys.length) (h : each (eqAt f ys) xs = true) : eqL f xs ys = true := by simp [eqL, h, h1]
def fldEq (a b : DClsField) : Bool := a.fName.toList == b.fName.toList && kndEq a.fKind b.fKind
def insEq (a b : DClsIns) : Bool := a.fOp == b.fOp && a.fA == b.fA && a.fName.toList == b.fName.toList && a.fMember.toList == b.fMember.toList
def tagEq (a b : DTagTag) : Bool := a.fKind == b.fKind && a.fName.toList == b.fName.toList
def mapEq (a b : DClsMap) : Bool := a.fAt == b.fAt && eqL tagEq a.fLocals b.fLocals && eqL tagEq a.fStack b.fStack
def mthEq (a b : DClsMethod) : Bool := a.fName.toList == b.fName.toList && sameSig a b && a.fLocals == b.fLocals && a.fStack == b.fStack && eqL insEq a.fCode b.fCode && eqL mapEq a.fMaps b.fMaps
def clsEq (a b : DClsClass) : Bool := a.fName.toList == b.fName.toList && a.fSuper.toList == b.fSuper.toList && eqL fldEq a.fFields b.fFields && eqL mthEq a.fMethods b.fMethods

@[go_sem] theorem eg_tag : Try.prog.eqGuardType Try.prog.depth 72 = false := by kernel_rfl
@[go_sem] theorem eq_tag (a c : Int) (b d : ByteArray) (w : World) : (Op.equalIn 10000 72 (.agg #[.int .i64 a, .string b]) (.agg #[.int .i64 c, .string d])).run Try.prog w = .ok (a == c && b.toList == d.toList) w := by
  have iu3 := Try.underlying3
  have ia3 := Try.isAgg3
  have iz3 := Try.sizeOf3
  have iu9 := Try.underlying9
  have ia9 := Try.isAgg9
  have iz9 := Try.sizeOf9
  have hS : Try.prog.underlying 72 = some (.struct (Try.prog.fieldsOf 72)) := by kernel_rfl
  have hp : Try.prog.stoodInHeld 72 = false := by kernel_rfl
  rw [show (10000 : Nat) = 9999 + 1 from rfl, run_equalIn_agg w 9999 72 _ _ hS hp]
  simp only [Program.fieldsOf, Try.underlying72]
  go_simp
  by_cases h1 : a = c <;> by_cases h2 : b.toList = d.toList <;> simp [h1, h2]
@[go_sem] theorem eg_ins4 : Try.prog.eqGuardType Try.prog.depth 115 = false := by kernel_rfl
@[go_sem] theorem eq_ins4 (a1 a2 b1 b2 : Int) (a3 a4 b3 b4 : ByteArray) (w : World) : (Op.equalIn 10000 115 (.agg #[.int .i64 a1, .int .i64 a2, .string a3, .string a4]) (.agg #[.int .i64 b1, .int .i64 b2, .string b3, .string b4])).run Try.prog w = .ok (a1 == b1 && a2 == b2 && a3.toList == b3.toList && a4.toList == b4.toList) w := by
  have iu3 := Try.underlying3
  have ia3 := Try.isAgg3
  have iz3 := Try.sizeOf3
  have iu9 := Try.underlying9
  have ia9 := Try.isAgg9
  have iz9 := Try.sizeOf9
  have hS : Try.prog.underlying 115 = some (.struct (Try.prog.fieldsOf 115)) := by kernel_rfl
  have hp : Try.prog.stoodInHeld 115 = false := by kernel_rfl
  rw [show (10000 : Nat) = 9999 + 1 from rfl, run_equalIn_agg w 9999 115 _ _ hS hp]
  simp only [Program.fieldsOf, Try.underlying115]
  go_simp
  by_cases h1 : a1 = b1 <;> by_cases h2 : a2 = b2 <;> by_cases h3 : a3.toList = b3.toList <;> by_cases h4 : a4.toList = b4.toList <;> simp [h1, h2, h3, h4]
@[go_sem] theorem eg_fld : Try.prog.eqGuardType Try.prog.depth 45 = false := by kernel_rfl
@[go_sem] theorem eq_fld (a c : ByteArray) (k1 k2 : Int) (n1 n2 : ByteArray) (w : World) : (Op.equalIn 10000 45 (.agg #[.string a, .int .i64 k1, .string n1]) (.agg #[.string c, .int .i64 k2, .string n2])).run Try.prog w = .ok (a.toList == c.toList && (k1 == k2 && n1.toList == n2.toList)) w := by
  have iu3 := Try.underlying3
  have ia3 := Try.isAgg3
  have iz3 := Try.sizeOf3
  have iu9 := Try.underlying9
  have ia9 := Try.isAgg9
  have iz9 := Try.sizeOf9
  have ik := Try.underlying25
  have iak : ∀ W : World, (Go.isAgg 25).run Try.prog W = .ok true W := Try.isAgg25
  have izk : ∀ W : World, (Go.sizeOf 25).run Try.prog W = .ok 2 W := Try.sizeOf25
  have hS : Try.prog.underlying 45 = some (.struct (Try.prog.fieldsOf 45)) := by kernel_rfl
  have hp : Try.prog.stoodInHeld 45 = false := by kernel_rfl
  have hSk : Try.prog.underlying 25 = some (.struct (Try.prog.fieldsOf 25)) := by kernel_rfl
  have hpk : Try.prog.stoodInHeld 25 = false := by kernel_rfl
  have hk : ∀ W : World, (Op.equalIn 9999 25 (.agg #[.int .i64 k1, .string n1]) (.agg #[.int .i64 k2, .string n2])).run Try.prog W = .ok (k1 == k2 && n1.toList == n2.toList) W := fun W => by
    rw [show (9999 : Nat) = 9998 + 1 from rfl, run_equalIn_agg W 9998 25 _ _ hSk hpk]
    simp only [Program.fieldsOf, Try.underlying25]
    go_simp
    by_cases h1 : k1 = k2 <;> by_cases h2 : n1.toList = n2.toList <;> simp [h1, h2]
  rw [show (10000 : Nat) = 9999 + 1 from rfl, run_equalIn_agg w 9999 45 _ _ hS hp]
  simp only [Program.fieldsOf, Try.underlying45]
  go_simp
  by_cases h1 : a.toList = c.toList <;> by_cases h2 : k1 = k2 <;> by_cases h3 : n1.toList = n2.toList <;> simp [h1, h2, h3, hk]

set_option maxRecDepth 100000 in
set_option maxHeartbeats 8000000 in
theorem I_eqClsFieldS (xs ys : List DClsField) (v1 u1 : Value) (w : World) (s1 : Sl 3 rClsField 0 w v1 xs) (t1 : Sl 3 rClsField 0 w u1 ys) :
    Calls Try.prog 113 #[v1, u1] w fun e w' => e = .returned (.bool (eqL fldEq xs ys)) ∧ Below w.heap.size w w' := by
  obtain ⟨a, len, cap, rfl, hl, h1, h2, h3⟩ := id s1
  obtain ⟨a', len', cap', rfl, hl', h1', h2', h3'⟩ := id t1
  have m1 : len ≤ 9223372036854775807 := by unfold maxLen at h2; omega
  have m1' : len' ≤ 9223372036854775807 := by unfold maxLen at h2'; omega
  have HL := Lib.hid hl
  have HL' := Lib.hid hl'
  clear h2 hl h2' hl' h1 h1'
  obtain ⟨z, hz⟩ : ∃ z, z = eqL fldEq xs ys := ⟨_, rfl⟩
  have HZ := Lib.hid hz
  rw [← hz]
  clear hz
  by_cases hlen : ¬ len = len'
  · have RV : Hid (z = false) := Lib.hid (by rw [HZ.out]; exact eqL_len (by rw [HL.out, HL'.out]; exact hlen))
    have i1 : ((len : Int) != (len' : Int)) = true := by simp; omega
    have i2 : ¬ (len : Int) = (len' : Int) := by omega
    refine calls_hide fun R HR => ?_
    go_enter Try.func113, Try.ntmps113
    go_wp2
    all_goals (try go_returns)
    all_goals exact HR.out _ _ ⟨by rw [RV.out]; rfl, bbel⟩
  obtain rfl : len = len' := Decidable.byContradiction hlen
  clear hlen
  refine calls_hide fun R HR => ?_
  go_enter Try.func113, Try.ntmps113
  go_wp2_with fail
  go_loopw [5, 13] (fun _ i wr => ∃ k : Nat, k ≤ len ∧ i = .int .i64 k ∧ EachTo (eqAt fldEq ys) xs k = true ∧ Below w.heap.size w wr) (fun _ i _ => len - (intOf i).toNat)
  case atStart => exact ⟨0, Nat.zero_le _, rfl, rfl, bbel⟩
  case round =>
    obtain ⟨k, hk, rfl, ha, hb⟩ := hrel
    have HA := Lib.hid ha
    clear ha
    by_cases hlt : k < len
    · obtain ⟨b, off, rfl, _, _, hr⟩ := h3.stays rClsField_good (Keeps.of_below hb) (by omega)
      obtain ⟨b', off', rfl, _, _, hr'⟩ := h3'.stays rClsField_good (Keeps.of_below hb) (by omega)
      obtain ⟨x, cs, e0, _, e1, e4⟩ := hr k hlt
      obtain ⟨y, cs', f0, _, f1, f4⟩ := hr' k hlt
      obtain ⟨rfl, _⟩ := e4
      obtain ⟨rfl, _⟩ := f4
      have q0 : wr.cell? ⟨b, off + k * 3, none⟩ = some (.string x.fName) := e1 0 _ rfl
      have p0 : wr.cell? ⟨b', off' + k * 3, none⟩ = some (.string y.fName) := f1 0 _ rfl
      have q1 : wr.cell? ⟨b, off + k * 3 + 1, none⟩ = some (.int .i64 x.fKind.fKind) := e1 1 _ rfl
      have p1 : wr.cell? ⟨b', off' + k * 3 + 1, none⟩ = some (.int .i64 y.fKind.fKind) := f1 1 _ rfl
      have q2 : wr.cell? ⟨b, off + k * 3 + 2, none⟩ = some (.string x.fKind.fName) := e1 2 _ rfl
      have p2 : wr.cell? ⟨b', off' + k * 3 + 2, none⟩ = some (.string y.fKind.fName) := f1 2 _ rfl
      have E0 := Lib.hid e0
      have F0 := Lib.hid f0
      clear e0 e1 f0 f1 hr hr'
      obtain ⟨q, hq⟩ : ∃ q, q = fldEq x y := ⟨_, rfl⟩
      have bo : ∀ W, (binOp .neq 45 (.agg #[.string x.fName, .int .i64 x.fKind.fKind, .string x.fKind.fName]) (.agg #[.string y.fName, .int .i64 y.fKind.fKind, .string y.fKind.fName])).run Try.prog W = .ok (.bool !q) W := fun W => by
        rw [hq]
        simp only [run_neq_struct, eq_fld]
        try simp [Result.andThen, fldEq, kndEq]
      have HQ := Lib.hid hq
      clear hq
      cases q
      · have RV : Hid (z = false) := Lib.hid (by rw [HZ.out]; exact eqL_stop (each_stop E0.out (by unfold eqAt; rw [F0.out]; exact HQ.out.symm)))
        go_wp2_with fail
        go_region
        go_wp2
        all_goals (try go_returns)
        all_goals exact HR.out _ _ ⟨by first | (rw [RV.out]; done) | (rw [RV.out]; rfl), bbel⟩
      · go_wp2_with fail
        go_region
        go_wp2
        go_roundw
        case measure => simp [intOf]; omega
        case rel => exact ⟨k + 1, by omega, by go_num, EachTo.step HA.out E0.out (by unfold eqAt; rw [F0.out]; exact HQ.out.symm), bbel⟩
    · obtain rfl : k = len := by omega
      have RV : Hid (z = true) := Lib.hid (by rw [HZ.out]; exact eqL_done (HL.out.trans HL'.out.symm) (each_done HA.out HL.out))
      go_wp2
      all_goals (try go_returns)
      all_goals exact HR.out _ _ ⟨by rw [RV.out]; rfl, bbel⟩

set_option maxRecDepth 100000 in
set_option maxHeartbeats 8000000 in
theorem I_eqClsInsS (xs ys : List DClsIns) (v1 u1 : Value) (w : World) (s1 : Sl 4 rClsIns 0 w v1 xs) (t1 : Sl 4 rClsIns 0 w u1 ys) :
    Calls Try.prog 128 #[v1, u1] w fun e w' => e = .returned (.bool (eqL insEq xs ys)) ∧ Below w.heap.size w w' := by
  obtain ⟨a, len, cap, rfl, hl, h1, h2, h3⟩ := id s1
  obtain ⟨a', len', cap', rfl, hl', h1', h2', h3'⟩ := id t1
  have m1 : len ≤ 9223372036854775807 := by unfold maxLen at h2; omega
  have m1' : len' ≤ 9223372036854775807 := by unfold maxLen at h2'; omega
  have HL := Lib.hid hl
  have HL' := Lib.hid hl'
  clear h2 hl h2' hl' h1 h1'
  obtain ⟨z, hz⟩ : ∃ z, z = eqL insEq xs ys := ⟨_, rfl⟩
  have HZ := Lib.hid hz
  rw [← hz]
  clear hz
  by_cases hlen : ¬ len = len'
  · have RV : Hid (z = false) := Lib.hid (by rw [HZ.out]; exact eqL_len (by rw [HL.out, HL'.out]; exact hlen))
    have i1 : ((len : Int) != (len' : Int)) = true := by simp; omega
    have i2 : ¬ (len : Int) = (len' : Int) := by omega
    refine calls_hide fun R HR => ?_
    go_enter Try.func128, Try.ntmps128
    go_wp2
    all_goals (try go_returns)
    all_goals exact HR.out _ _ ⟨by rw [RV.out]; rfl, bbel⟩
  obtain rfl : len = len' := Decidable.byContradiction hlen
  clear hlen
  refine calls_hide fun R HR => ?_
  go_enter Try.func128, Try.ntmps128
  go_wp2_with fail
  go_loopw [5, 13] (fun _ i wr => ∃ k : Nat, k ≤ len ∧ i = .int .i64 k ∧ EachTo (eqAt insEq ys) xs k = true ∧ Below w.heap.size w wr) (fun _ i _ => len - (intOf i).toNat)
  case atStart => exact ⟨0, Nat.zero_le _, rfl, rfl, bbel⟩
  case round =>
    obtain ⟨k, hk, rfl, ha, hb⟩ := hrel
    have HA := Lib.hid ha
    clear ha
    by_cases hlt : k < len
    · obtain ⟨b, off, rfl, _, _, hr⟩ := h3.stays rClsIns_good (Keeps.of_below hb) (by omega)
      obtain ⟨b', off', rfl, _, _, hr'⟩ := h3'.stays rClsIns_good (Keeps.of_below hb) (by omega)
      obtain ⟨x, cs, e0, _, e1, e4⟩ := hr k hlt
      obtain ⟨y, cs', f0, _, f1, f4⟩ := hr' k hlt
      obtain ⟨rfl, _⟩ := e4
      obtain ⟨rfl, _⟩ := f4
      have q0 : wr.cell? ⟨b, off + k * 4, none⟩ = some (.int .i64 x.fOp) := e1 0 _ rfl
      have p0 : wr.cell? ⟨b', off' + k * 4, none⟩ = some (.int .i64 y.fOp) := f1 0 _ rfl
      have q1 : wr.cell? ⟨b, off + k * 4 + 1, none⟩ = some (.int .i64 x.fA) := e1 1 _ rfl
      have p1 : wr.cell? ⟨b', off' + k * 4 + 1, none⟩ = some (.int .i64 y.fA) := f1 1 _ rfl
      have q2 : wr.cell? ⟨b, off + k * 4 + 2, none⟩ = some (.string x.fName) := e1 2 _ rfl
      have p2 : wr.cell? ⟨b', off' + k * 4 + 2, none⟩ = some (.string y.fName) := f1 2 _ rfl
      have q3 : wr.cell? ⟨b, off + k * 4 + 3, none⟩ = some (.string x.fMember) := e1 3 _ rfl
      have p3 : wr.cell? ⟨b', off' + k * 4 + 3, none⟩ = some (.string y.fMember) := f1 3 _ rfl
      have E0 := Lib.hid e0
      have F0 := Lib.hid f0
      clear e0 e1 f0 f1 hr hr'
      obtain ⟨q, hq⟩ : ∃ q, q = insEq x y := ⟨_, rfl⟩
      have bo : ∀ W, (binOp .neq 115 (.agg #[.int .i64 x.fOp, .int .i64 x.fA, .string x.fName, .string x.fMember]) (.agg #[.int .i64 y.fOp, .int .i64 y.fA, .string y.fName, .string y.fMember])).run Try.prog W = .ok (.bool !q) W := fun W => by
        rw [hq]
        simp only [run_neq_struct, eq_ins4]
        try simp [Result.andThen, insEq, kndEq]
      have HQ := Lib.hid hq
      clear hq
      cases q
      · have RV : Hid (z = false) := Lib.hid (by rw [HZ.out]; exact eqL_stop (each_stop E0.out (by unfold eqAt; rw [F0.out]; exact HQ.out.symm)))
        go_wp2_with fail
        go_region
        go_wp2
        all_goals (try go_returns)
        all_goals exact HR.out _ _ ⟨by first | (rw [RV.out]; done) | (rw [RV.out]; rfl), bbel⟩
      · go_wp2_with fail
        go_region
        go_wp2
        go_roundw
        case measure => simp [intOf]; omega
        case rel => exact ⟨k + 1, by omega, by go_num, EachTo.step HA.out E0.out (by unfold eqAt; rw [F0.out]; exact HQ.out.symm), bbel⟩
    · obtain rfl : k = len := by omega
      have RV : Hid (z = true) := Lib.hid (by rw [HZ.out]; exact eqL_done (HL.out.trans HL'.out.symm) (each_done HA.out HL.out))
      go_wp2
      all_goals (try go_returns)
      all_goals exact HR.out _ _ ⟨by rw [RV.out]; rfl, bbel⟩

set_option maxRecDepth 100000 in
set_option maxHeartbeats 8000000 in
theorem I_eqTagTagS (xs ys : List DTagTag) (v1 u1 : Value) (w : World) (s1 : Sl 2 rTagTag 0 w v1 xs) (t1 : Sl 2 rTagTag 0 w u1 ys) :
    Calls Try.prog 140 #[v1, u1] w fun e w' => e = .returned (.bool (eqL tagEq xs ys)) ∧ Below w.heap.size w w' := by
  obtain ⟨a, len, cap, rfl, hl, h1, h2, h3⟩ := id s1
  obtain ⟨a', len', cap', rfl, hl', h1', h2', h3'⟩ := id t1
  have m1 : len ≤ 9223372036854775807 := by unfold maxLen at h2; omega
  have m1' : len' ≤ 9223372036854775807 := by unfold maxLen at h2'; omega
  have HL := Lib.hid hl
  have HL' := Lib.hid hl'
  clear h2 hl h2' hl' h1 h1'
  obtain ⟨z, hz⟩ : ∃ z, z = eqL tagEq xs ys := ⟨_, rfl⟩
  have HZ := Lib.hid hz
  rw [← hz]
  clear hz
  by_cases hlen : ¬ len = len'
  · have RV : Hid (z = false) := Lib.hid (by rw [HZ.out]; exact eqL_len (by rw [HL.out, HL'.out]; exact hlen))
    have i1 : ((len : Int) != (len' : Int)) = true := by simp; omega
    have i2 : ¬ (len : Int) = (len' : Int) := by omega
    refine calls_hide fun R HR => ?_
    go_enter Try.func140, Try.ntmps140
    go_wp2
    all_goals (try go_returns)
    all_goals exact HR.out _ _ ⟨by rw [RV.out]; rfl, bbel⟩
  obtain rfl : len = len' := Decidable.byContradiction hlen
  clear hlen
  refine calls_hide fun R HR => ?_
  go_enter Try.func140, Try.ntmps140
  go_wp2_with fail
  go_loopw [5, 13] (fun _ i wr => ∃ k : Nat, k ≤ len ∧ i = .int .i64 k ∧ EachTo (eqAt tagEq ys) xs k = true ∧ Below w.heap.size w wr) (fun _ i _ => len - (intOf i).toNat)
  case atStart => exact ⟨0, Nat.zero_le _, rfl, rfl, bbel⟩
  case round =>
    obtain ⟨k, hk, rfl, ha, hb⟩ := hrel
    have HA := Lib.hid ha
    clear ha
    by_cases hlt : k < len
    · obtain ⟨b, off, rfl, _, _, hr⟩ := h3.stays rTagTag_good (Keeps.of_below hb) (by omega)
      obtain ⟨b', off', rfl, _, _, hr'⟩ := h3'.stays rTagTag_good (Keeps.of_below hb) (by omega)
      obtain ⟨x, cs, e0, _, e1, e4⟩ := hr k hlt
      obtain ⟨y, cs', f0, _, f1, f4⟩ := hr' k hlt
      obtain ⟨rfl, _⟩ := e4
      obtain ⟨rfl, _⟩ := f4
      have q0 : wr.cell? ⟨b, off + k * 2, none⟩ = some (.int .i64 x.fKind) := e1 0 _ rfl
      have p0 : wr.cell? ⟨b', off' + k * 2, none⟩ = some (.int .i64 y.fKind) := f1 0 _ rfl
      have q1 : wr.cell? ⟨b, off + k * 2 + 1, none⟩ = some (.string x.fName) := e1 1 _ rfl
      have p1 : wr.cell? ⟨b', off' + k * 2 + 1, none⟩ = some (.string y.fName) := f1 1 _ rfl
      have E0 := Lib.hid e0
      have F0 := Lib.hid f0
      clear e0 e1 f0 f1 hr hr'
      obtain ⟨q, hq⟩ : ∃ q, q = tagEq x y := ⟨_, rfl⟩
      have bo : ∀ W, (binOp .neq 72 (.agg #[.int .i64 x.fKind, .string x.fName]) (.agg #[.int .i64 y.fKind, .string y.fName])).run Try.prog W = .ok (.bool !q) W := fun W => by
        rw [hq]
        simp only [run_neq_struct, eq_tag]
        try simp [Result.andThen, tagEq, kndEq]
      have HQ := Lib.hid hq
      clear hq
      cases q
      · have RV : Hid (z = false) := Lib.hid (by rw [HZ.out]; exact eqL_stop (each_stop E0.out (by unfold eqAt; rw [F0.out]; exact HQ.out.symm)))
        go_wp2_with fail
        go_region
        go_wp2
        all_goals (try go_returns)
        all_goals exact HR.out _ _ ⟨by first | (rw [RV.out]; done) | (rw [RV.out]; rfl), bbel⟩
      · go_wp2_with fail
        go_region
        go_wp2
        go_roundw
        case measure => simp [intOf]; omega
        case rel => exact ⟨k + 1, by omega, by go_num, EachTo.step HA.out E0.out (by unfold eqAt; rw [F0.out]; exact HQ.out.symm), bbel⟩
    · obtain rfl : k = len := by omega
      have RV : Hid (z = true) := Lib.hid (by rw [HZ.out]; exact eqL_done (HL.out.trans HL'.out.symm) (each_done HA.out HL.out))
      go_wp2
      all_goals (try go_returns)
      all_goals exact HR.out _ _ ⟨by rw [RV.out]; rfl, bbel⟩

set_option maxRecDepth 100000 in
set_option maxHeartbeats 4000000 in
theorem I_sameMap (x y : DClsMap) (v1 v2 u1 u2 : Value) (w : World) (s1 : Sl 2 rTagTag 0 w v1 x.fLocals) (s2 : Sl 2 rTagTag 0 w v2 x.fStack) (t1 : Sl 2 rTagTag 0 w u1 y.fLocals) (t2 : Sl 2 rTagTag 0 w u2 y.fStack) :
    Calls Try.prog 130 #[.agg #[.int .i64 x.fAt, v1, v2], .agg #[.int .i64 y.fAt, u1, u2]] w fun e w' => e = .returned (.bool (mapEq x y)) ∧ Below w.heap.size w w' := by
  obtain ⟨a1, l1, c1, rfl⟩ := s1.form
  obtain ⟨a2, l2, c2, rfl⟩ := s2.form
  obtain ⟨b1, m1, d1, rfl⟩ := t1.form
  obtain ⟨b2, m2, d2, rfl⟩ := t2.form
  obtain ⟨z, hz⟩ : ∃ z, z = mapEq x y := ⟨_, rfl⟩
  obtain ⟨qa, hqa⟩ : ∃ q, q = eqL tagEq x.fLocals y.fLocals := ⟨_, rfl⟩
  obtain ⟨qb, hqb⟩ : ∃ q, q = eqL tagEq x.fStack y.fStack := ⟨_, rfl⟩
  have CA : ∀ W, Below w.heap.size w W → Calls Try.prog 140 #[.slice a1 l1 c1, .slice b1 m1 d1] W fun e w' => e = .returned (.bool qa) ∧ Below W.heap.size W w' := fun W hW => by
    rw [hqa]; exact I_eqTagTagS _ _ _ _ W (s1.stays rTagTag_good (Keeps.of_below hW)) (t1.stays rTagTag_good (Keeps.of_below hW))
  have CB : ∀ W, Below w.heap.size w W → Calls Try.prog 140 #[.slice a2 l2 c2, .slice b2 m2 d2] W fun e w' => e = .returned (.bool qb) ∧ Below W.heap.size W w' := fun W hW => by
    rw [hqb]; exact I_eqTagTagS _ _ _ _ W (s2.stays rTagTag_good (Keeps.of_below hW)) (t2.stays rTagTag_good (Keeps.of_below hW))
  have HZ : Hid (z = (x.fAt == y.fAt && qa && qb)) := Lib.hid (by rw [hz, hqa, hqb]; rfl)
  rw [← hz]
  clear hz hqa hqb s1 s2 t1 t2
  refine calls_hide fun R HR => ?_
  go_enter Try.func130, Try.ntmps130
  by_cases hat : x.fAt = y.fAt
  rotate_left
  · have i1 : (x.fAt == y.fAt) = false := by simpa using hat
    have RV : Hid (z = false) := Lib.hid (by rw [HZ.out]; simp [i1])
    (go_wp2; (all_goals (try go_returns)); (all_goals exact HR.out _ _ ⟨by first | (rw [RV.out]; done) | (rw [RV.out]; rfl), bbel⟩))
  have i1 : (x.fAt == y.fAt) = true := by simpa using hat
  rw [i1] at HZ
  clear hat
  go_wp2_with fail
  (with_reducible refine (CA _ (bbel)).mono ?_)
  rintro _ w1 ⟨rfl, g1⟩
  have g1s := (g1).size; (try simp only [World.size_alloc, World.size_setCell, World.size_drew] at g1s)
  obtain ⟨g1ad, g1ao, g1ag, g1ap, g1ax, g1ay, g1ac1, g1af1, g1az1⟩ := bf2 (n := w.heap.size) g1
  clear g1ao g1ap
  cases qa
  · have RV : Hid (z = false) := Lib.hid (by rw [HZ.out]; rfl)
    (go_wp2; (all_goals (try go_returns)); (all_goals exact HR.out _ _ ⟨by first | (rw [RV.out]; done) | (rw [RV.out]; rfl), bbel⟩))
  go_wp2_with fail
  (with_reducible refine (CB _ (bbel)).mono ?_)
  rintro _ w2 ⟨rfl, g2⟩
  have g2s := (g2).size; (try simp only [World.size_alloc, World.size_setCell, World.size_drew] at g2s)
  obtain ⟨g2ad, g2ao, g2ag, g2ap, g2ax, g2ay, g2ac1, g2af1, g2az1⟩ := bf2 (n := w.heap.size) g2
  clear g2ao g2ap
  have RV : Hid (z = qb) := Lib.hid (by rw [HZ.out]; simp)
  go_wp2
  (all_goals (try go_returns)); (all_goals exact HR.out _ _ ⟨by first | (rw [RV.out]; done) | (rw [RV.out]; rfl), bbel⟩)

set_option maxRecDepth 100000 in
set_option maxHeartbeats 8000000 in
theorem I_eqMaps (xs ys : List DClsMap) (v1 u1 : Value) (w : World) (s1 : Sl 3 rClsMap 0 w v1 xs) (t1 : Sl 3 rClsMap 0 w u1 ys) :
    Calls Try.prog 129 #[v1, u1, .func (.func 130) #[] #[]] w fun e w' => e = .returned (.bool (eqL mapEq xs ys)) ∧ Below w.heap.size w w' := by
  obtain ⟨a, len, cap, rfl, hl, h1, h2, h3⟩ := id s1
  obtain ⟨a', len', cap', rfl, hl', h1', h2', h3'⟩ := id t1
  have m1 : len ≤ 9223372036854775807 := by unfold maxLen at h2; omega
  have m1' : len' ≤ 9223372036854775807 := by unfold maxLen at h2'; omega
  have HL := Lib.hid hl
  have HL' := Lib.hid hl'
  clear h2 hl h2' hl' h1 h1'
  obtain ⟨z, hz⟩ : ∃ z, z = eqL mapEq xs ys := ⟨_, rfl⟩
  have HZ := Lib.hid hz
  rw [← hz]
  clear hz
  by_cases hlen : ¬ len = len'
  · have RV : Hid (z = false) := Lib.hid (by rw [HZ.out]; exact eqL_len (by rw [HL.out, HL'.out]; exact hlen))
    have i1 : ((len : Int) != (len' : Int)) = true := by simp; omega
    have i2 : ¬ (len : Int) = (len' : Int) := by omega
    refine calls_hide fun R HR => ?_
    go_enter Try.func129, Try.ntmps129
    go_wp2
    (all_goals (try go_returns)); (all_goals exact HR.out _ _ ⟨by first | (rw [RV.out]; done) | (rw [RV.out]; rfl), bbel⟩)
  obtain rfl : len = len' := Decidable.byContradiction hlen
  clear hlen
  refine calls_hide fun R HR => ?_
  go_enter Try.func129, Try.ntmps129
  go_wp2_with fail
  go_loopw [17] (fun i wr => ∃ k : Nat, k ≤ len ∧ i = .int .i64 k ∧ EachTo (eqAt mapEq ys) xs k = true ∧ Below w.heap.size w wr) (fun i _ => len - (intOf i).toNat)
  case atStart => exact ⟨0, Nat.zero_le _, rfl, rfl, bbel⟩
  case round =>
    obtain ⟨k, hk, rfl, ha, hb⟩ := hrel
    have HA := Lib.hid ha
    clear ha
    have hbx := hb.size
    by_cases hlt : k < len
    · obtain ⟨b, off, rfl, _, _, hr⟩ := h3.stays rClsMap_good (Keeps.of_below hb) (by omega)
      obtain ⟨b', off', rfl, _, _, hr'⟩ := h3'.stays rClsMap_good (Keeps.of_below hb) (by omega)
      obtain ⟨x, cs, e0, _, e1, e4⟩ := hr k hlt
      obtain ⟨y, cs', f0, _, f1, f4⟩ := hr' k hlt
      obtain ⟨x1, x2, rfl, p1, p2⟩ := e4
      obtain ⟨y1, y2, rfl, o1, o2⟩ := f4
      obtain ⟨a1, l1, c1, rfl⟩ := p1.form
      obtain ⟨a2, l2, c2, rfl⟩ := p2.form
      obtain ⟨b1, n1, d1, rfl⟩ := o1.form
      obtain ⟨b2, n2, d2, rfl⟩ := o2.form
      have q0 : wr.cell? ⟨b, off + k * 3, none⟩ = some (.int .i64 x.fAt) := e1 0 _ rfl
      have q1 : wr.cell? ⟨b, off + k * 3 + 1, none⟩ = some (.slice a1 l1 c1) := e1 1 _ rfl
      have q2 : wr.cell? ⟨b, off + k * 3 + 2, none⟩ = some (.slice a2 l2 c2) := e1 2 _ rfl
      have r0 : wr.cell? ⟨b', off' + k * 3, none⟩ = some (.int .i64 y.fAt) := f1 0 _ rfl
      have r1 : wr.cell? ⟨b', off' + k * 3 + 1, none⟩ = some (.slice b1 n1 d1) := f1 1 _ rfl
      have r2 : wr.cell? ⟨b', off' + k * 3 + 2, none⟩ = some (.slice b2 n2 d2) := f1 2 _ rfl
      have E0 := Lib.hid e0
      have F0 := Lib.hid f0
      obtain ⟨q, hq⟩ : ∃ q, q = mapEq x y := ⟨_, rfl⟩
      have CM : ∀ W, Below wr.heap.size wr W → Calls Try.prog 130 #[.agg #[.int .i64 x.fAt, .slice a1 l1 c1, .slice a2 l2 c2], .agg #[.int .i64 y.fAt, .slice b1 n1 d1, .slice b2 n2 d2]] W fun e w' => e = .returned (.bool q) ∧ Below W.heap.size W w' := fun W hW => by
        have hk := Keeps.of_below (lo := 0) hW
        rw [hq]; exact I_sameMap x y _ _ _ _ W (p1.stays rTagTag_good hk) (p2.stays rTagTag_good hk) (o1.stays rTagTag_good hk) (o2.stays rTagTag_good hk)
      have HQ := Lib.hid hq
      clear e0 e1 f0 f1 hr hr' hq p1 p2 o1 o2
      go_wp2_with fail
      refine (CM _ (bbel)).mono ?_
      rintro _ wA ⟨rfl, hA⟩
      have hAs := (hA).size; (try simp only [World.size_alloc, World.size_setCell, World.size_drew] at hAs)
      have hE : Below w.heap.size w wA := bbel
      clear q0 q1 q2 r0 r1 r2
      cases q
      · have RV : Hid (z = false) := Lib.hid (by rw [HZ.out]; exact eqL_stop (each_stop E0.out (by unfold eqAt; rw [F0.out]; exact HQ.out.symm)))
        go_wp2
        all_goals (try go_returns)
        all_goals exact HR.out _ _ ⟨by rw [RV.out]; rfl, hE⟩
      · go_wp2
        go_roundw
        case measure => simp [intOf]; omega
        case rel => exact ⟨k + 1, by omega, by go_num, EachTo.step HA.out E0.out (by unfold eqAt; rw [F0.out]; exact HQ.out.symm), hE⟩
    · obtain rfl : k = len := by omega
      have RV : Hid (z = true) := Lib.hid (by rw [HZ.out]; exact eqL_done (HL.out.trans HL'.out.symm) (each_done HA.out HL.out))
      go_wp2
      (all_goals (try go_returns)); (all_goals exact HR.out _ _ ⟨by first | (rw [RV.out]; done) | (rw [RV.out]; rfl), bbel⟩)

set_option maxRecDepth 100000 in
set_option maxHeartbeats 8000000 in
theorem I_sameMethod (x y : DClsMethod) (v1 v2 v3 u1 u2 u3 : Value) (w : World) (s1 : Sl 2 rKndKind 0 w v1 x.fArgs) (s2 : Sl 4 rClsIns 0 w v2 x.fCode) (s3 : Sl 3 rClsMap 0 w v3 x.fMaps) (t1 : Sl 2 rKndKind 0 w u1 y.fArgs) (t2 : Sl 4 rClsIns 0 w u2 y.fCode) (t3 : Sl 3 rClsMap 0 w u3 y.fMaps) :
    Calls Try.prog 115 #[.agg #[.string x.fName, v1, .int .i64 x.fRet.fKind, .string x.fRet.fName, .int .i64 x.fLocals, .int .i64 x.fStack, v2, v3], .agg #[.string y.fName, u1, .int .i64 y.fRet.fKind, .string y.fRet.fName, .int .i64 y.fLocals, .int .i64 y.fStack, u2, u3]] w fun e w' => e = .returned (.bool (mthEq x y)) ∧ Below w.heap.size w w' := by
  obtain ⟨a1, l1, c1, rfl⟩ := s1.form
  obtain ⟨a2, l2, c2, rfl⟩ := s2.form
  obtain ⟨a3, l3, c3, rfl⟩ := s3.form
  obtain ⟨b1, m1, d1, rfl⟩ := t1.form
  obtain ⟨b2, m2, d2, rfl⟩ := t2.form
  obtain ⟨b3, m3, d3, rfl⟩ := t3.form
  obtain ⟨z, hz⟩ : ∃ z, z = mthEq x y := ⟨_, rfl⟩
  obtain ⟨qa, hqa⟩ : ∃ q, q = sameArgs x.fArgs y.fArgs := ⟨_, rfl⟩
  obtain ⟨qb, hqb⟩ : ∃ q, q = eqL insEq x.fCode y.fCode := ⟨_, rfl⟩
  obtain ⟨qc, hqc⟩ : ∃ q, q = eqL mapEq x.fMaps y.fMaps := ⟨_, rfl⟩
  obtain ⟨qn, hqn⟩ : ∃ q, q = (x.fName.toList == y.fName.toList) := ⟨_, rfl⟩
  obtain ⟨qr, hqr⟩ : ∃ q, q = kndEq x.fRet y.fRet := ⟨_, rfl⟩
  obtain ⟨ql, hql⟩ : ∃ q, q = (x.fLocals == y.fLocals) := ⟨_, rfl⟩
  obtain ⟨qs, hqs⟩ : ∃ q, q = (x.fStack == y.fStack) := ⟨_, rfl⟩
  have CA : ∀ W, Below w.heap.size w W → Calls Try.prog 127 #[.slice a1 l1 c1, .slice b1 m1 d1] W fun e w' => e = .returned (.bool qa) ∧ Below W.heap.size W w' := fun W hW => by
    rw [hqa]; exact I_eqKnds _ _ _ _ W (s1.stays rKndKind_good (Keeps.of_below hW)) (t1.stays rKndKind_good (Keeps.of_below hW))
  have CB : ∀ W, Below w.heap.size w W → Calls Try.prog 128 #[.slice a2 l2 c2, .slice b2 m2 d2] W fun e w' => e = .returned (.bool qb) ∧ Below W.heap.size W w' := fun W hW => by
    rw [hqb]; exact I_eqClsInsS _ _ _ _ W (s2.stays rClsIns_good (Keeps.of_below hW)) (t2.stays rClsIns_good (Keeps.of_below hW))
  have CC : ∀ W, Below w.heap.size w W → Calls Try.prog 129 #[.slice a3 l3 c3, .slice b3 m3 d3, .func (.func 130) #[] #[]] W fun e w' => e = .returned (.bool qc) ∧ Below W.heap.size W w' := fun W hW => by
    rw [hqc]; exact I_eqMaps _ _ _ _ W (s3.stays rClsMap_good (Keeps.of_below hW)) (t3.stays rClsMap_good (Keeps.of_below hW))
  have bo : ∀ W, (binOp .eql 25 (.agg #[.int .i64 x.fRet.fKind, .string x.fRet.fName]) (.agg #[.int .i64 y.fRet.fKind, .string y.fRet.fName])).run Try.prog W = .ok (.bool qr) W := fun W => by
    rw [hqr]
    simp only [run_eql_struct, eq_knd]
    try simp [kndEq]
  have HZ : Hid (z = (qn && (qr && qa) && ql && qs && qb && qc)) := Lib.hid (by rw [hz, hqa, hqb, hqc, hqn, hqr, hql, hqs]; rfl)
  rw [← hz]
  replace hqn := hqn.symm
  replace hql := hql.symm
  replace hqs := hqs.symm
  clear hz hqa hqb hqc hqr s1 s2 s3 t1 t2 t3
  refine calls_hide fun R HR => ?_
  go_enter Try.func115, Try.ntmps115
  cases qn
  · have RV : Hid (z = false) := Lib.hid (by rw [HZ.out]; rfl)
    (go_wp2; (all_goals (try go_returns)); (all_goals exact HR.out _ _ ⟨by first | (rw [RV.out]; done) | (rw [RV.out]; rfl), bbel⟩))
  cases qr
  · have RV : Hid (z = false) := Lib.hid (by rw [HZ.out]; rfl)
    (go_wp2; (all_goals (try go_returns)); (all_goals exact HR.out _ _ ⟨by first | (rw [RV.out]; done) | (rw [RV.out]; rfl), bbel⟩))
  cases ql
  · have RV : Hid (z = false) := Lib.hid (by rw [HZ.out]; simp)
    (go_wp2; (all_goals (try go_returns)); (all_goals exact HR.out _ _ ⟨by first | (rw [RV.out]; done) | (rw [RV.out]; rfl), bbel⟩))
  cases qs
  · have RV : Hid (z = false) := Lib.hid (by rw [HZ.out]; simp)
    (go_wp2; (all_goals (try go_returns)); (all_goals exact HR.out _ _ ⟨by first | (rw [RV.out]; done) | (rw [RV.out]; rfl), bbel⟩))
  go_wp2_with fail
  (with_reducible refine (CA _ (bbel)).mono ?_)
  rintro _ w1 ⟨rfl, g1⟩
  have g1s := (g1).size; (try simp only [World.size_alloc, World.size_setCell, World.size_drew] at g1s)
  obtain ⟨g1ad, g1ao, g1ag, g1ap, g1ax, g1ay, g1ac1, g1af1, g1az1⟩ := bf2 (n := w.heap.size) g1
  clear g1ao g1ap
  cases qa
  · have RV : Hid (z = false) := Lib.hid (by rw [HZ.out]; simp)
    (go_wp2; (all_goals (try go_returns)); (all_goals exact HR.out _ _ ⟨by first | (rw [RV.out]; done) | (rw [RV.out]; rfl), bbel⟩))
  go_wp2_with fail
  (with_reducible refine (CB _ (bbel)).mono ?_)
  rintro _ w2 ⟨rfl, g2⟩
  have g2s := (g2).size; (try simp only [World.size_alloc, World.size_setCell, World.size_drew] at g2s)
  obtain ⟨g2ad, g2ao, g2ag, g2ap, g2ax, g2ay, g2ac1, g2af1, g2az1⟩ := bf2 (n := w.heap.size) g2
  clear g2ao g2ap
  cases qb
  · have RV : Hid (z = false) := Lib.hid (by rw [HZ.out]; simp)
    (go_wp2; (all_goals (try go_returns)); (all_goals exact HR.out _ _ ⟨by first | (rw [RV.out]; done) | (rw [RV.out]; rfl), bbel⟩))
  go_wp2_with fail
  (with_reducible refine (CC _ (bbel)).mono ?_)
  rintro _ w3 ⟨rfl, g3⟩
  have g3s := (g3).size; (try simp only [World.size_alloc, World.size_setCell, World.size_drew] at g3s)
  obtain ⟨g3ad, g3ao, g3ag, g3ap, g3ax, g3ay, g3ac1, g3af1, g3az1⟩ := bf2 (n := w.heap.size) g3
  clear g3ao g3ap
  have RV : Hid (z = qc) := Lib.hid (by rw [HZ.out]; simp)
  go_wp2
  (all_goals (try go_returns)); (all_goals exact HR.out _ _ ⟨by first | (rw [RV.out]; done) | (rw [RV.out]; rfl), bbel⟩)

set_option maxRecDepth 100000 in
set_option maxHeartbeats 8000000 in
theorem I_eqMths (xs ys : List DClsMethod) (v1 u1 : Value) (w : World) (s1 : Sl 8 rClsMethod 0 w v1 xs) (t1 : Sl 8 rClsMethod 0 w u1 ys) :
    Calls Try.prog 114 #[v1, u1, .func (.func 115) #[] #[]] w fun e w' => e = .returned (.bool (eqL mthEq xs ys)) ∧ Below w.heap.size w w' := by
  obtain ⟨a, len, cap, rfl, hl, h1, h2, h3⟩ := id s1
  obtain ⟨a', len', cap', rfl, hl', h1', h2', h3'⟩ := id t1
  have m1 : len ≤ 9223372036854775807 := by unfold maxLen at h2; omega
  have m1' : len' ≤ 9223372036854775807 := by unfold maxLen at h2'; omega
  have HL := Lib.hid hl
  have HL' := Lib.hid hl'
  clear h2 hl h2' hl' h1 h1'
  obtain ⟨z, hz⟩ : ∃ z, z = eqL mthEq xs ys := ⟨_, rfl⟩
  have HZ := Lib.hid hz
  rw [← hz]
  clear hz
  by_cases hlen : ¬ len = len'
  · have RV : Hid (z = false) := Lib.hid (by rw [HZ.out]; exact eqL_len (by rw [HL.out, HL'.out]; exact hlen))
    have i1 : ((len : Int) != (len' : Int)) = true := by simp; omega
    have i2 : ¬ (len : Int) = (len' : Int) := by omega
    refine calls_hide fun R HR => ?_
    go_enter Try.func114, Try.ntmps114
    go_wp2
    (all_goals (try go_returns)); (all_goals exact HR.out _ _ ⟨by first | (rw [RV.out]; done) | (rw [RV.out]; rfl), bbel⟩)
  obtain rfl : len = len' := Decidable.byContradiction hlen
  clear hlen
  refine calls_hide fun R HR => ?_
  go_enter Try.func114, Try.ntmps114
  go_wp2_with fail
  go_loopw [17] (fun i wr => ∃ k : Nat, k ≤ len ∧ i = .int .i64 k ∧ EachTo (eqAt mthEq ys) xs k = true ∧ Below w.heap.size w wr) (fun i _ => len - (intOf i).toNat)
  case atStart => exact ⟨0, Nat.zero_le _, rfl, rfl, bbel⟩
  case round =>
    obtain ⟨k, hk, rfl, ha, hb⟩ := hrel
    have HA := Lib.hid ha
    clear ha
    have hbx := hb.size
    by_cases hlt : k < len
    · obtain ⟨b, off, rfl, _, _, hr⟩ := h3.stays rClsMethod_good (Keeps.of_below hb) (by omega)
      obtain ⟨b', off', rfl, _, _, hr'⟩ := h3'.stays rClsMethod_good (Keeps.of_below hb) (by omega)
      obtain ⟨x, cs, e0, _, e1, e4⟩ := hr k hlt
      obtain ⟨y, cs', f0, _, f1, f4⟩ := hr' k hlt
      obtain ⟨x1, x2, x3, rfl, p1, p2, p3, _, _⟩ := e4
      obtain ⟨y1, y2, y3, rfl, o1, o2, o3, _, _⟩ := f4
      obtain ⟨a1, l1, c1, rfl⟩ := p1.form
      obtain ⟨a2, l2, c2, rfl⟩ := p2.form
      obtain ⟨a3, l3, c3, rfl⟩ := p3.form
      obtain ⟨b1, n1, d1, rfl⟩ := o1.form
      obtain ⟨b2, n2, d2, rfl⟩ := o2.form
      obtain ⟨b3, n3, d3, rfl⟩ := o3.form
      have q0 : wr.cell? ⟨b, off + k * 8, none⟩ = some (.string x.fName) := e1 0 _ rfl
      have q1 : wr.cell? ⟨b, off + k * 8 + 1, none⟩ = some (.slice a1 l1 c1) := e1 1 _ rfl
      have q2 : wr.cell? ⟨b, off + k * 8 + 2, none⟩ = some (.int .i64 x.fRet.fKind) := e1 2 _ rfl
      have q3 : wr.cell? ⟨b, off + k * 8 + 3, none⟩ = some (.string x.fRet.fName) := e1 3 _ rfl
      have q4 : wr.cell? ⟨b, off + k * 8 + 4, none⟩ = some (.int .i64 x.fLocals) := e1 4 _ rfl
      have q5 : wr.cell? ⟨b, off + k * 8 + 5, none⟩ = some (.int .i64 x.fStack) := e1 5 _ rfl
      have q6 : wr.cell? ⟨b, off + k * 8 + 6, none⟩ = some (.slice a2 l2 c2) := e1 6 _ rfl
      have q7 : wr.cell? ⟨b, off + k * 8 + 7, none⟩ = some (.slice a3 l3 c3) := e1 7 _ rfl
      have r0 : wr.cell? ⟨b', off' + k * 8, none⟩ = some (.string y.fName) := f1 0 _ rfl
      have r1 : wr.cell? ⟨b', off' + k * 8 + 1, none⟩ = some (.slice b1 n1 d1) := f1 1 _ rfl
      have r2 : wr.cell? ⟨b', off' + k * 8 + 2, none⟩ = some (.int .i64 y.fRet.fKind) := f1 2 _ rfl
      have r3 : wr.cell? ⟨b', off' + k * 8 + 3, none⟩ = some (.string y.fRet.fName) := f1 3 _ rfl
      have r4 : wr.cell? ⟨b', off' + k * 8 + 4, none⟩ = some (.int .i64 y.fLocals) := f1 4 _ rfl
      have r5 : wr.cell? ⟨b', off' + k * 8 + 5, none⟩ = some (.int .i64 y.fStack) := f1 5 _ rfl
      have r6 : wr.cell? ⟨b', off' + k * 8 + 6, none⟩ = some (.slice b2 n2 d2) := f1 6 _ rfl
      have r7 : wr.cell? ⟨b', off' + k * 8 + 7, none⟩ = some (.slice b3 n3 d3) := f1 7 _ rfl
      have E0 := Lib.hid e0
      have F0 := Lib.hid f0
      obtain ⟨q, hq⟩ : ∃ q, q = mthEq x y := ⟨_, rfl⟩
      have CM : ∀ W, Below wr.heap.size wr W → Calls Try.prog 115 #[.agg #[.string x.fName, .slice a1 l1 c1, .int .i64 x.fRet.fKind, .string x.fRet.fName, .int .i64 x.fLocals, .int .i64 x.fStack, .slice a2 l2 c2, .slice a3 l3 c3], .agg #[.string y.fName, .slice b1 n1 d1, .int .i64 y.fRet.fKind, .string y.fRet.fName, .int .i64 y.fLocals, .int .i64 y.fStack, .slice b2 n2 d2, .slice b3 n3 d3]] W fun e w' => e = .returned (.bool q) ∧ Below W.heap.size W w' := fun W hW => by
        have hk := Keeps.of_below (lo := 0) hW
        rw [hq]; exact I_sameMethod x y _ _ _ _ _ _ W (p1.stays rKndKind_good hk) (p2.stays rClsIns_good hk) (p3.stays rClsMap_good hk) (o1.stays rKndKind_good hk) (o2.stays rClsIns_good hk) (o3.stays rClsMap_good hk)
      have HQ := Lib.hid hq
      clear e0 e1 f0 f1 hr hr' hq p1 p2 p3 o1 o2 o3
      go_wp2_with fail
      refine (CM _ (bbel)).mono ?_
      rintro _ wA ⟨rfl, hA⟩
      have hAs := (hA).size; (try simp only [World.size_alloc, World.size_setCell, World.size_drew] at hAs)
      have hE : Below w.heap.size w wA := bbel
      clear q0 q1 q2 q3 q4 q5 q6 q7 r0 r1 r2 r3 r4 r5 r6 r7
      cases q
      · have RV : Hid (z = false) := Lib.hid (by rw [HZ.out]; exact eqL_stop (each_stop E0.out (by unfold eqAt; rw [F0.out]; exact HQ.out.symm)))
        go_wp2
        all_goals (try go_returns)
        all_goals exact HR.out _ _ ⟨by rw [RV.out]; rfl, hE⟩
      · go_wp2
        go_roundw
        case measure => simp [intOf]; omega
        case rel => exact ⟨k + 1, by omega, by go_num, EachTo.step HA.out E0.out (by unfold eqAt; rw [F0.out]; exact HQ.out.symm), hE⟩
    · obtain rfl : k = len := by omega
      have RV : Hid (z = true) := Lib.hid (by rw [HZ.out]; exact eqL_done (HL.out.trans HL'.out.symm) (each_done HA.out HL.out))
      go_wp2
      (all_goals (try go_returns)); (all_goals exact HR.out _ _ ⟨by first | (rw [RV.out]; done) | (rw [RV.out]; rfl), bbel⟩)

set_option maxRecDepth 100000 in
set_option maxHeartbeats 8000000 in
theorem I_ClsSame (x y : DClsClass) (v1 v2 u1 u2 : Value) (w : World) (s1 : Sl 3 rClsField 0 w v1 x.fFields) (s2 : Sl 8 rClsMethod 0 w v2 x.fMethods) (t1 : Sl 3 rClsField 0 w u1 y.fFields) (t2 : Sl 8 rClsMethod 0 w u2 y.fMethods) :
    Calls Try.prog 97 #[.agg #[.string x.fName, .string x.fSuper, v1, v2], .agg #[.string y.fName, .string y.fSuper, u1, u2]] w fun e w' => e = .returned (.bool (clsEq x y)) ∧ Below w.heap.size w w' := by
  obtain ⟨a1, l1, c1, rfl⟩ := s1.form
  obtain ⟨a2, l2, c2, rfl⟩ := s2.form
  obtain ⟨b1, m1, d1, rfl⟩ := t1.form
  obtain ⟨b2, m2, d2, rfl⟩ := t2.form
  obtain ⟨z, hz⟩ : ∃ z, z = clsEq x y := ⟨_, rfl⟩
  obtain ⟨qa, hqa⟩ : ∃ q, q = eqL fldEq x.fFields y.fFields := ⟨_, rfl⟩
  obtain ⟨qb, hqb⟩ : ∃ q, q = eqL mthEq x.fMethods y.fMethods := ⟨_, rfl⟩
  obtain ⟨qn, hqn⟩ : ∃ q, q = (x.fName.toList == y.fName.toList) := ⟨_, rfl⟩
  obtain ⟨qs, hqs⟩ : ∃ q, q = (x.fSuper.toList == y.fSuper.toList) := ⟨_, rfl⟩
  have CA : ∀ W, Below w.heap.size w W → Calls Try.prog 113 #[.slice a1 l1 c1, .slice b1 m1 d1] W fun e w' => e = .returned (.bool qa) ∧ Below W.heap.size W w' := fun W hW => by
    rw [hqa]; exact I_eqClsFieldS _ _ _ _ W (s1.stays rClsField_good (Keeps.of_below hW)) (t1.stays rClsField_good (Keeps.of_below hW))
  have CB : ∀ W, Below w.heap.size w W → Calls Try.prog 114 #[.slice a2 l2 c2, .slice b2 m2 d2, .func (.func 115) #[] #[]] W fun e w' => e = .returned (.bool qb) ∧ Below W.heap.size W w' := fun W hW => by
    rw [hqb]; exact I_eqMths _ _ _ _ W (s2.stays rClsMethod_good (Keeps.of_below hW)) (t2.stays rClsMethod_good (Keeps.of_below hW))
  have HZ : Hid (z = (qn && qs && qa && qb)) := Lib.hid (by rw [hz, hqa, hqb, hqn, hqs]; rfl)
  rw [← hz]
  replace hqn := hqn.symm
  replace hqs := hqs.symm
  clear hz hqa hqb s1 s2 t1 t2
  refine calls_hide fun R HR => ?_
  go_enter Try.func97, Try.ntmps97
  cases qn
  · have RV : Hid (z = false) := Lib.hid (by rw [HZ.out]; rfl)
    (go_wp2; (all_goals (try go_returns)); (all_goals exact HR.out _ _ ⟨by first | (rw [RV.out]; done) | (rw [RV.out]; rfl), bbel⟩))
  cases qs
  · have RV : Hid (z = false) := Lib.hid (by rw [HZ.out]; rfl)
    (go_wp2; (all_goals (try go_returns)); (all_goals exact HR.out _ _ ⟨by first | (rw [RV.out]; done) | (rw [RV.out]; rfl), bbel⟩))
  go_wp2_with fail
  (with_reducible refine (CA _ (bbel)).mono ?_)
  rintro _ w1 ⟨rfl, g1⟩
  have g1s := (g1).size; (try simp only [World.size_alloc, World.size_setCell, World.size_drew] at g1s)
  obtain ⟨g1ad, g1ao, g1ag, g1ap, g1ax, g1ay, g1ac1, g1af1, g1az1⟩ := bf2 (n := w.heap.size) g1
  clear g1ao g1ap
  cases qa
  · have RV : Hid (z = false) := Lib.hid (by rw [HZ.out]; simp)
    (go_wp2; (all_goals (try go_returns)); (all_goals exact HR.out _ _ ⟨by first | (rw [RV.out]; done) | (rw [RV.out]; rfl), bbel⟩))
  go_wp2_with fail
  (with_reducible refine (CB _ (bbel)).mono ?_)
  rintro _ w2 ⟨rfl, g2⟩
  have g2s := (g2).size; (try simp only [World.size_alloc, World.size_setCell, World.size_drew] at g2s)
  obtain ⟨g2ad, g2ao, g2ag, g2ap, g2ax, g2ay, g2ac1, g2af1, g2az1⟩ := bf2 (n := w.heap.size) g2
  clear g2ao g2ap
  have RV : Hid (z = qb) := Lib.hid (by rw [HZ.out]; simp)
  go_wp2
  (all_goals (try go_returns)); (all_goals exact HR.out _ _ ⟨by first | (rw [RV.out]; done) | (rw [RV.out]; rfl), bbel⟩)

end Go.Proofs.Ytcdmmnfdnmjnpaa
