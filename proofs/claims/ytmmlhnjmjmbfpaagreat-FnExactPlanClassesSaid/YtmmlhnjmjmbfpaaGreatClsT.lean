

/-
  The walk of the reference's ClsOk. Condition: the data can be read.
-/
import Derived.Test.YtmmlhnjmjmbfpaaGreatClsS
import Derived.Test.YtmmlhnjmjmbfpaaGreatMthU
import Derived.Test.YtmmlhnjmjmbfpaaGreatReg
import Derived.Deep.LoopGhost
namespace Go.Proofs.YtmmlhnjmjmbfpaaGreat
set_option linter.unusedSimpArgs false
set_option linter.unusedVariables false
open Go.RowKit

theorem cls_stop_f {c : DClsClass} (h : each (fieldIn c.fFields) c.fFields = false) : false = clsOk c := by simp [clsOk, h]
theorem cls_stop_m {c : DClsClass} (h : each (methodIn c.fMethods) c.fMethods = false) : false = clsOk c := by simp [clsOk, h]

set_option maxRecDepth 100000 in
set_option maxHeartbeats 40000000 in
theorem S_ClsOk (c : DClsClass) (v1 v2 : Value) (w : World) (s1 : Sl 3 rClsField 0 w v1 c.fFields) (s2 : Sl 8 rClsMethod 0 w v2 c.fMethods) (b1 : c.fName.size ≤ maxLen) (b2 : c.fSuper.size ≤ maxLen) :
    Calls Tryz.prog 60 #[.agg #[.string c.fName, .string c.fSuper, v1, v2]] w fun e w' => e = .returned (.bool (clsOk c)) ∧ Below w.heap.size w w' := by
  obtain ⟨a, len, cap, rfl, hl, h1, h2, h3⟩ := id s1
  obtain ⟨a', len', cap', rfl, hl', h1', h2', h3'⟩ := id s2
  have m1 : len ≤ 9223372036854775807 := by unfold maxLen at h2; omega
  have m1' : len' ≤ 9223372036854775807 := by unfold maxLen at h2'; omega
  have HL := Lib.hid hl
  have HL' := Lib.hid hl'
  have H1 := h1
  have H1' := h1'
  clear h2 hl h2' hl' h1 h1'
  by_cases hsu : c.fSuper.toList.isEmpty = false ∧ namOk c.fSuper = false
  · obtain ⟨i1, i2⟩ := hsu
    have HS := Lib.hid i1
    have HS2 := Lib.hid i2
    have i3 : (!c.fSuper.toList.isEmpty) = true := by simp [i1]
    have i4 : ¬ c.fSuper.toList = [] := by simpa using i1
    have CS : ∀ W, Calls Tryz.prog 33 #[.string c.fSuper] W fun e w' => e = .returned (.bool false) ∧ W = w' := fun W => Calls.val2 (S_NamOk c.fSuper W b2) i2
    clear i2
    refine calls_hide fun R HR => ?_
    go_enter Tryz.func60, Tryz.ntmps60
    go_wp2_with fail
    refine (S_NamOk _ _ b1).mono ?_
    rintro _ _ ⟨rfl, rfl⟩
    go_wp2_with (first | (go_at_call 33; refine (CS _).mono ?_; rintro _ _ ⟨rfl, rfl⟩))
    all_goals (try go_returns)
    all_goals exact HR.out _ _ ⟨ret_bool (by simp [clsOk, HS.out, HS2.out]), by (repeat' (first | (with_reducible exact Below.refl _ _) | (with_reducible refine Below.alloc ?_ ?_ _) | (with_reducible refine Below.setCell ?_ ?_ _) | (with_reducible refine Below.drew ?_) | (refine below_hyp (by assumption) ?_ ?_) | go_size))⟩
  have SO : Hid ((c.fSuper.toList.isEmpty || namOk c.fSuper) = true) := Lib.hid (by
    cases h5 : c.fSuper.toList.isEmpty <;> cases h6 : namOk c.fSuper <;> simp_all)
  have SP : (∃ bb : Bool, c.fSuper.toList = [] ∧ c.fSuper.toList.isEmpty = true ∧ (!c.fSuper.toList.isEmpty) = false ∧ ∀ W, Calls Tryz.prog 33 #[.string c.fSuper] W fun e w' => e = .returned (.bool bb) ∧ W = w') ∨ (∃ bb : Bool, ¬ c.fSuper.toList = [] ∧ c.fSuper.toList.isEmpty = false ∧ (!c.fSuper.toList.isEmpty) = true ∧ bb = true ∧ ∀ W, Calls Tryz.prog 33 #[.string c.fSuper] W fun e w' => e = .returned (.bool bb) ∧ W = w') := by
    have h7 := SO.out
    cases h5 : c.fSuper.toList.isEmpty
    · exact Or.inr ⟨namOk c.fSuper, by simpa using h5, rfl, rfl, by simpa [h5] using h7, fun W => S_NamOk c.fSuper W b2⟩
    · exact Or.inl ⟨namOk c.fSuper, by simpa using h5, rfl, rfl, fun W => S_NamOk c.fSuper W b2⟩
  clear hsu
  cases hx : namOk c.fName
  · have HX := Lib.hid hx
    have CN : ∀ W, Calls Tryz.prog 33 #[.string c.fName] W fun e w' => e = .returned (.bool false) ∧ W = w' := fun W => Calls.val2 (S_NamOk c.fName W b1) hx
    clear hx SP
    refine calls_hide fun R HR => ?_
    go_enter Tryz.func60, Tryz.ntmps60
    go_wp2_with (first | (go_at_call 33; refine (CN _).mono ?_; rintro _ _ ⟨rfl, rfl⟩))
    all_goals (try go_returns)
    all_goals exact HR.out _ _ ⟨ret_bool (by simp [clsOk, HX.out]), by (repeat' (first | (with_reducible exact Below.refl _ _) | (with_reducible refine Below.alloc ?_ ?_ _) | (with_reducible refine Below.setCell ?_ ?_ _) | (with_reducible refine Below.drew ?_) | (refine below_hyp (by assumption) ?_ ?_) | go_size))⟩
  have HX := Lib.hid hx
  have CN : ∀ W, Calls Tryz.prog 33 #[.string c.fName] W fun e w' => e = .returned (.bool true) ∧ W = w' := fun W => Calls.val2 (S_NamOk c.fName W b1) hx
  clear hx
  by_cases hlen : ¬ (len ≤ 3 ∧ len' ≤ 4)
  · have HN : Hid (¬ (len ≤ 3 ∧ len' ≤ 4)) := Lib.hid hlen
    have hlen' : 3 < len ∨ len ≤ 3 ∧ 4 < len' := by omega
    clear hlen
    rcases SP with ⟨bb, p1, p2, p3, CS⟩ | ⟨bb, p1, p2, p3, rfl, CS⟩
    all_goals
      rcases hlen' with hl1 | ⟨hl1, hl2⟩
    all_goals
      refine calls_hide fun R HR => ?_
      go_enter Tryz.func60, Tryz.ntmps60
      go_wp2_with fail
      refine (CN _).mono ?_
      rintro _ _ ⟨rfl, rfl⟩
      go_wp2_with (first | (go_at_call 33; refine (CS _).mono ?_; rintro _ _ ⟨rfl, rfl⟩))
    all_goals (try go_returns)
    all_goals exact HR.out _ _ ⟨ret_bool (by
      have h5 := HL.out; have h6 := HL'.out; have h7 := HN.out
      by_cases h8 : len ≤ 3
      · have h9 : ¬ len' ≤ 4 := by omega
        simp [clsOk, h6, h9]
      · simp [clsOk, h5, h8]), by (repeat' (first | (with_reducible exact Below.refl _ _) | (with_reducible refine Below.alloc ?_ ?_ _) | (with_reducible refine Below.setCell ?_ ?_ _) | (with_reducible refine Below.drew ?_) | (refine below_hyp (by assumption) ?_ ?_) | go_size))⟩
  have hlen' : len ≤ 3 ∧ len' ≤ 4 := Decidable.byContradiction hlen
  obtain ⟨hn1, hn2⟩ := hlen'
  clear hlen
  rcases SP with ⟨bb, p1, p2, p3, CS⟩ | ⟨bb, p1, p2, p3, rfl, CS⟩
  all_goals
    refine calls_hide fun R HR => ?_
    go_enter Tryz.func60, Tryz.ntmps60
    go_wp2_with fail
    refine (CN _).mono ?_
    rintro _ _ ⟨rfl, rfl⟩
    clear CN
    go_wp2_with (first | (go_at_call 33; refine (CS _).mono ?_; rintro _ _ ⟨rfl, rfl⟩))
    clear p1 p2 p3 CS
    go_loopw [3] (fun i wr => ∃ k : Nat, k ≤ len ∧ i = .int .i64 k ∧ EachTo (fieldIn c.fFields) c.fFields k = true ∧ Below w.heap.size w wr ∧ wr.cell? ⟨w.heap.size, 2, none⟩ = some (.slice a len cap) ∧ wr.cell? ⟨w.heap.size, 3, none⟩ = some (.slice a' len' cap')) (fun i _ => len - (intOf i).toNat)
    case atStart => exact ⟨0, Nat.zero_le _, rfl, rfl, by (repeat' (first | (with_reducible exact Below.refl _ _) | (with_reducible refine Below.alloc ?_ ?_ _) | (with_reducible refine Below.setCell ?_ ?_ _) | (with_reducible refine Below.drew ?_) | (refine below_hyp (by assumption) ?_ ?_) | go_size)), by go_simp, by go_simp⟩
    case round =>
      obtain ⟨k, hk, rfl, ha, hb, c2, c3⟩ := hrel
      have HA := Lib.hid ha
      clear ha
      have hbx := hb.size
      have hbw := block_lt_of_cell c2
      by_cases hlt : k < len
      · go_wp2_with fail
        obtain ⟨b, off, rfl, hlo, hbl, hr⟩ := h3.stays rClsField_good (Keeps.of_below hb) (by omega)
        obtain ⟨⟨fn, fk, fkn⟩, cs, e0, e1, e2, e3⟩ := hr k hlt
        obtain ⟨rfl, bx1, bx2⟩ := e3
        have q1 := In.cell (show wr.cell? ⟨b, off + k * 3, none⟩ = some (.string fn) from e2 0 _ rfl)
        have q2 := In.cell (show wr.cell? ⟨b, off + k * 3 + 1, none⟩ = some (.int .i64 fk) from e2 1 _ rfl)
        have q3 := In.cell (show wr.cell? ⟨b, off + k * 3 + 2, none⟩ = some (.string fkn) from e2 2 _ rfl)
        have E0 := Lib.hid e0
        have D2 := Lib.hid c2
        have D3 := Lib.hid c3
        have y2 := In.cell c2
        have y3 := In.cell c3
        have SF : ∀ y : In wr, Calls Tryz.prog 77 #[.slice (some ⟨b, off, none⟩) k cap, .string fn] y.x fun e w' => e = .returned (.int .i64 (fieldAt (c.fFields.take k) fn)) ∧ y.x = w' := fun y => S_l2Field _ _ fn y.x ((s1.stays rClsField_good (Keeps.of_below (hb.trans (y.h.mono hbx)))).take (by omega))
        have CN : ∀ y : In wr, Calls Tryz.prog 33 #[.string fn] y.x fun e w' => e = .returned (.bool (namOk fn)) ∧ y.x = w' := fun y => S_NamOk fn y.x bx1
        have CK : ∀ y : In wr, Calls Tryz.prog 76 #[.agg #[.int .i64 fk, .string fkn]] y.x fun e w' => e = .returned (.bool (kndOk fk fkn)) ∧ Below y.x.heap.size y.x w' := fun y => S_KndOk fk fkn y.x bx2
        obtain ⟨z, hz⟩ : ∃ z, z = fieldAt (c.fFields.take k) fn := ⟨_, rfl⟩
        rw [← hz] at SF
        have HZ := Lib.hid hz
        have g1 : (k : Int) ≤ (cap : Int) := by have := H1; omega
        have g2 : (k : Int) < (len : Int) := by omega
        have g3 : (0 : Int) ≤ (k : Int) := by omega
        clear e0 e1 e2 hr hz
        clear c2 c3
        cases hx : namOk fn
        · have H5 := Lib.hid hx
          rw [hx] at CN
          clear hx
          refine wp_region_in (by kernel_rfl) (by kernel_rfl) ?_
          repeat (go_big_quiet_step (first | (go_at_call 33; exact Calls.ins_same (CN _))))
          refine wpQuiet_nil ?_
          rintro wZ ⟨⟨wE, hwE⟩, hq⟩
          obtain rfl : wE = wZ := hq.symm
          clear hq
          have hwEs := hwE.size
          (try dsimp only)
          have hEE := hb.trans (hwE.mono hbx)
          go_wp2
          all_goals (try go_returns)
          all_goals exact HR.out _ _ ⟨ret_bool (cls_stop_f (each_stop E0.out (by simp [fieldIn, H5.out]))), hEE⟩
        have H5 := Lib.hid hx
        rw [hx] at CN
        clear hx
        cases hx : kndOk fk fkn
        · have H6 := Lib.hid hx
          rw [hx] at CK
          clear hx
          refine wp_region_in (by kernel_rfl) (by kernel_rfl) ?_
          repeat (go_big_quiet_step (first | (go_at_call 33; exact Calls.ins_same (CN _)) | (go_at_call 76; exact Calls.ins (CK _))))
          refine wpQuiet_nil ?_
          rintro wZ ⟨⟨wE, hwE⟩, hq⟩
          obtain rfl : wE = wZ := hq.symm
          clear hq
          have hwEs := hwE.size
          (try dsimp only)
          have hEE := hb.trans (hwE.mono hbx)
          go_wp2
          all_goals (try go_returns)
          all_goals exact HR.out _ _ ⟨ret_bool (cls_stop_f (each_stop E0.out (by simp [fieldIn, kndOkD, H6.out]))), hEE⟩
        have H6 := Lib.hid hx
        rw [hx] at CK
        clear hx
        by_cases hzz : 0 ≤ z
        · have H7 := Lib.hid hzz
          have g0 : decide (0 ≤ z) = true := by simpa using hzz
          refine wp_region_in (by kernel_rfl) (by kernel_rfl) ?_
          repeat (go_big_quiet_step (first | (go_at_call 33; exact Calls.ins_same (CN _)) | (go_at_call 76; exact Calls.ins (CK _)) | (go_at_call 77; exact Calls.ins_same (SF _))))
          refine wpQuiet_nil ?_
          rintro wZ ⟨⟨wE, hwE⟩, hq⟩
          obtain rfl : wE = wZ := hq.symm
          clear hq
          have hwEs := hwE.size
          (try dsimp only)
          have hEE := hb.trans (hwE.mono hbx)
          go_wp2
          all_goals (try go_returns)
          all_goals exact HR.out _ _ ⟨ret_bool (cls_stop_f (each_stop E0.out (by have h8 := HZ.out; have h9 := H7.out; have h10 : ¬ fieldAt (c.fFields.take k) fn < 0 := (by omega); simp [fieldIn, h10]))), hEE⟩
        have H7 := Lib.hid hzz
        have g0 : decide (0 ≤ z) = false := by simpa using hzz
        refine wp_region_in (by kernel_rfl) (by kernel_rfl) ?_
        repeat (go_big_quiet_step (first | (go_at_call 33; exact Calls.ins_same (CN _)) | (go_at_call 76; exact Calls.ins (CK _)) | (go_at_call 77; exact Calls.ins_same (SF _))))
        refine wpQuiet_nil ?_
        rintro wZ ⟨⟨wE, hwE⟩, hq⟩
        obtain rfl : wE = wZ := hq.symm
        clear hq
        have hwEs := hwE.size
        (try dsimp only)
        have hEE := hb.trans (hwE.mono hbx)
        go_wp2
        go_roundw
        case measure => simp [intOf]; omega
        case rel => exact ⟨k + 1, by omega, by go_num, EachTo.step HA.out E0.out (by have h8 := HZ.out; have h9 := H7.out; have h10 : fieldAt (c.fFields.take k) fn < 0 := (by omega); simp [fieldIn, kndOkD, H5.out, H6.out, h10]), hEE, In.cell D2.out ⟨wE, hwE⟩, In.cell D3.out ⟨wE, hwE⟩⟩
      · obtain rfl : k = len := by omega
        have HF : Hid (each (fieldIn c.fFields) c.fFields = true) := Lib.hid (each_done HA.out HL.out)
        clear HA
        obtain ⟨wo, rfl⟩ : ∃ wo : World, wo = wr := ⟨_, rfl⟩
        go_wp2_with fail
        go_loopw [4] (fun i wr => ∃ k : Nat, k ≤ len' ∧ i = .int .i64 k ∧ EachTo (methodIn c.fMethods) c.fMethods k = true ∧ Below w.heap.size w wr ∧ wr.cell? ⟨w.heap.size, 3, none⟩ = some (.slice a' len' cap')) (fun i _ => len' - (intOf i).toNat)
        case atStart => exact ⟨0, Nat.zero_le _, rfl, rfl, hb, c3⟩
        case round =>
          clear hb c2 c3 hbx hbw
          obtain ⟨j, hj, rfl, ha, hb, c3⟩ := hrel
          have HA := Lib.hid ha
          clear ha
          have hbx := hb.size
          have hbw := block_lt_of_cell c3
          by_cases hlt' : j < len'
          · go_wp2_with fail
            obtain ⟨b, off, rfl, hlo, hbl, hr⟩ := h3'.stays rClsMethod_good (Keeps.of_below hb) (by omega)
            obtain ⟨⟨mn, ma, mr, ml, ms, mc, mm⟩, cs, e0, e1, e2, e3⟩ := hr j hlt'
            obtain ⟨x1, x2, x3, rfl, t1, t2, t3, bx1, bx2⟩ := e3
            obtain ⟨xa1, xl1, xc1, rfl⟩ := t1.form
            obtain ⟨xa2, xl2, xc2, rfl⟩ := t2.form
            obtain ⟨xa3, xl3, xc3, rfl⟩ := t3.form
            have q1 := In.cell (show wr.cell? ⟨b, off + j * 8, none⟩ = some (.string mn) from e2 0 _ rfl)
            have q2 := In.cell (show wr.cell? ⟨b, off + j * 8 + 1, none⟩ = some (.slice xa1 xl1 xc1) from e2 1 _ rfl)
            have q3 := In.cell (show wr.cell? ⟨b, off + j * 8 + 2, none⟩ = some (.int .i64 mr.fKind) from e2 2 _ rfl)
            have q4 := In.cell (show wr.cell? ⟨b, off + j * 8 + 3, none⟩ = some (.string mr.fName) from e2 3 _ rfl)
            have q5 := In.cell (show wr.cell? ⟨b, off + j * 8 + 4, none⟩ = some (.int .i64 ml) from e2 4 _ rfl)
            have q6 := In.cell (show wr.cell? ⟨b, off + j * 8 + 5, none⟩ = some (.int .i64 ms) from e2 5 _ rfl)
            have q7 := In.cell (show wr.cell? ⟨b, off + j * 8 + 6, none⟩ = some (.slice xa2 xl2 xc2) from e2 6 _ rfl)
            have q8 := In.cell (show wr.cell? ⟨b, off + j * 8 + 7, none⟩ = some (.slice xa3 xl3 xc3) from e2 7 _ rfl)
            have E0 := Lib.hid e0
            have D3 := Lib.hid c3
            have y3 := In.cell c3
            have SM : ∀ y : In wr, Calls Tryz.prog 79 #[.slice (some ⟨b, off, none⟩) j cap', .string mn] y.x fun e w' => e = .returned (.int .i64 (methodAt (c.fMethods.take j) mn)) ∧ y.x = w' := fun y => S_l2Method _ _ mn y.x ((s2.stays rClsMethod_good (Keeps.of_below (hb.trans (y.h.mono hbx)))).take (by omega))
            have CM : ∀ y : In wr, Calls Tryz.prog 78 #[.agg #[.string mn, .slice xa1 xl1 xc1, .int .i64 mr.fKind, .string mr.fName, .int .i64 ml, .int .i64 ms, .slice xa2 xl2 xc2, .slice xa3 xl3 xc3]] y.x fun e w' => e = .returned (.bool (mthOk ⟨mn, ma, mr, ml, ms, mc, mm⟩)) ∧ Below y.x.heap.size y.x w' := fun y => S_MthOk ⟨mn, ma, mr, ml, ms, mc, mm⟩ _ _ _ y.x (t1.stays rKndKind_good (Keeps.of_below y.h)) (t2.stays rClsIns_good (Keeps.of_below y.h)) (t3.stays rClsMap_good (Keeps.of_below y.h)) bx1 bx2
            obtain ⟨z, hz⟩ : ∃ z, z = methodAt (c.fMethods.take j) mn := ⟨_, rfl⟩
            rw [← hz] at SM
            have HZ := Lib.hid hz
            obtain ⟨y, hy⟩ : ∃ y, y = mthOk ⟨mn, ma, mr, ml, ms, mc, mm⟩ := ⟨_, rfl⟩
            rw [← hy] at CM
            have HY := Lib.hid hy
            have g1 : (j : Int) ≤ (cap' : Int) := by have := H1'; omega
            have g2 : (j : Int) < (len' : Int) := by omega
            have g3 : (0 : Int) ≤ (j : Int) := by omega
            clear e0 e1 e2 hr c3 hz hy
            cases y
            · refine wp_region_in (by kernel_rfl) (by kernel_rfl) ?_
              repeat (go_big_quiet_step (first | (go_at_call 78; exact Calls.ins (CM _))))
              refine wpQuiet_nil ?_
              rintro wZ ⟨⟨wE, hwE⟩, hq⟩
              obtain rfl : wE = wZ := hq.symm
              clear hq
              have hwEs := hwE.size
              (try dsimp only)
              have hEE := hb.trans (hwE.mono hbx)
              go_wp2
              all_goals (try go_returns)
              all_goals exact HR.out _ _ ⟨ret_bool (cls_stop_m (each_stop E0.out (by simp [methodIn, ← HY.out]))), hEE⟩
            by_cases hzz : 0 ≤ z
            · have H7 := Lib.hid hzz
              have g0 : decide (0 ≤ z) = true := by simpa using hzz
              refine wp_region_in (by kernel_rfl) (by kernel_rfl) ?_
              repeat (go_big_quiet_step (first | (go_at_call 78; exact Calls.ins (CM _)) | (go_at_call 79; exact Calls.ins_same (SM _))))
              refine wpQuiet_nil ?_
              rintro wZ ⟨⟨wE, hwE⟩, hq⟩
              obtain rfl : wE = wZ := hq.symm
              clear hq
              have hwEs := hwE.size
              (try dsimp only)
              have hEE := hb.trans (hwE.mono hbx)
              go_wp2
              all_goals (try go_returns)
              all_goals exact HR.out _ _ ⟨ret_bool (cls_stop_m (each_stop E0.out (by have h8 := HZ.out; have h9 := H7.out; have h10 : ¬ methodAt (c.fMethods.take j) mn < 0 := (by omega); simp [methodIn, h10]))), hEE⟩
            have H7 := Lib.hid hzz
            have g0 : decide (0 ≤ z) = false := by simpa using hzz
            refine wp_region_in (by kernel_rfl) (by kernel_rfl) ?_
            repeat (go_big_quiet_step (first | (go_at_call 78; exact Calls.ins (CM _)) | (go_at_call 79; exact Calls.ins_same (SM _))))
            refine wpQuiet_nil ?_
            rintro wZ ⟨⟨wE, hwE⟩, hq⟩
            obtain rfl : wE = wZ := hq.symm
            clear hq
            have hwEs := hwE.size
            (try dsimp only)
            have hEE := hb.trans (hwE.mono hbx)
            go_wp2
            go_roundw
            case measure => simp [intOf]; omega
            case rel => exact ⟨j + 1, by omega, by go_num, EachTo.step HA.out E0.out (by have h8 := HZ.out; have h9 := H7.out; have h10 : methodAt (c.fMethods.take j) mn < 0 := (by omega); simp [methodIn, ← HY.out, h10]), hEE, In.cell D3.out ⟨wE, hwE⟩⟩
          · obtain rfl : j = len' := by omega
            go_wp2
            all_goals (try go_returns)
            all_goals exact HR.out _ _ ⟨ret_bool (by
              have h5 : each (methodIn c.fMethods) c.fMethods = true := each_done HA.out HL'.out
              have h6 := HL.out
              have h7 := HL'.out
              simp only [clsOk, HX.out, SO.out, HF.out, h5, h6, h7]
              simp; omega), hb⟩

end Go.Proofs.YtmmlhnjmjmbfpaaGreat
