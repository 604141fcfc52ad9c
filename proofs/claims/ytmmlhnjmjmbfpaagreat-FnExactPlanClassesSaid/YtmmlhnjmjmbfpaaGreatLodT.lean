

/-
  The walks of the reference's l3Keeper and LodOk. Condition: the data can be read.
-/
import Derived.Test.YtmmlhnjmjmbfpaaGreatLodS
import Derived.Test.YtmmlhnjmjmbfpaaGreatClsT
namespace Go.Proofs.YtmmlhnjmjmbfpaaGreat
set_option linter.unusedSimpArgs false
set_option linter.unusedVariables false
open Go.RowKit

theorem keep_stop_o {many : Int} {x : DLodKeeper} (h : each (ownIn x.fOwns) x.fOwns = false) : false = keeperOk many x := by simp [keeperOk, h]
theorem keep_stop_a {many : Int} {x : DLodKeeper} (h : each (askIn many x.fAsks) x.fAsks = false) : false = keeperOk many x := by simp [keeperOk, h]

set_option maxRecDepth 100000 in
set_option maxHeartbeats 40000000 in
theorem S_l3Keeper (x : DLodKeeper) (v1 v2 : Value) (many : Nat) (w : World) (s1 : Sl 4 rClsClass 0 w v1 x.fOwns) (s2 : Sl 2 rLodAsk 0 w v2 x.fAsks) (hm : many ≤ 3) :
    Calls Tryz.prog 44 #[.agg #[v1, v2], .int .i64 (many : Int)] w fun e w' => e = .returned (.bool (keeperOk many x)) ∧ Below w.heap.size w w' := by
  obtain ⟨a, len, cap, rfl, hl, h1, h2, h3⟩ := id s1
  obtain ⟨a', len', cap', rfl, hl', h1', h2', h3'⟩ := id s2
  have m1 : len ≤ 9223372036854775807 := by unfold maxLen at h2; omega
  have m1' : len' ≤ 9223372036854775807 := by unfold maxLen at h2'; omega
  have HL := Lib.hid hl
  have HL' := Lib.hid hl'
  have H1 := h1
  have H1' := h1'
  clear h2 hl h2' hl' h1 h1'
  have NIL : ∀ {α : Type} (k : Nat) (R : RowRel α) (W : World), Sl k R 0 W (.slice none 0 0) [] := fun k R W => ⟨none, 0, 0, rfl, rfl, Nat.le_refl _, Nat.zero_le _, fun h => absurd h (by omega)⟩
  refine calls_hide fun R HR => ?_
  go_enter Tryz.func44, Tryz.ntmps44
  go_wp2_with fail
  all_goals first
    | (try go_returns
       exact HR.out _ _ ⟨ret_bool (by
         unfold keeperOk; rw [HL.out, HL'.out]
         by_cases h8 : len ≤ 5
         · have h9 : ¬ len' ≤ 4 := by omega
           simp [h9]
         · simp [h8]), by (repeat' (first | (with_reducible exact Below.refl _ _) | (with_reducible refine Below.alloc ?_ ?_ _) | (with_reducible refine Below.setCell ?_ ?_ _) | (with_reducible refine Below.drew ?_) | (refine below_hyp (by assumption) ?_ ?_) | go_size))⟩)
    | skip
  have hn1 : len ≤ 5 := by omega
  have hn2 : len' ≤ 4 := by omega
  go_loopw [5] (fun i wr => ∃ k : Nat, k ≤ len ∧ i = .int .i64 k ∧ EachTo (ownIn x.fOwns) x.fOwns k = true ∧ Below w.heap.size w wr ∧ wr.cell? ⟨w.heap.size, 0, none⟩ = some (.slice a len cap) ∧ wr.cell? ⟨w.heap.size, 1, none⟩ = some (.slice a' len' cap')) (fun i _ => len - (intOf i).toNat)
  case atStart => exact ⟨0, Nat.zero_le _, rfl, rfl, by (repeat' (first | (with_reducible exact Below.refl _ _) | (with_reducible refine Below.alloc ?_ ?_ _) | (with_reducible refine Below.setCell ?_ ?_ _) | (with_reducible refine Below.drew ?_) | (refine below_hyp (by assumption) ?_ ?_) | go_size)), by go_simp, by go_simp⟩
  case round =>
    obtain ⟨k, hk, rfl, ha, hb, c0, c1⟩ := hrel
    have HA := Lib.hid ha
    clear ha
    have hbx := hb.size
    have hbw := block_lt_of_cell c0
    by_cases hlt : k < len
    · go_wp2_with fail
      obtain ⟨b, off, rfl, hlo, hbl, hr⟩ := h3.stays rClsClass_good (Keeps.of_below hb) (by omega)
      obtain ⟨c, cs, e0, e1, e2, e3⟩ := hr k hlt
      obtain ⟨x1, x2, rfl, t1, t2, bx1, bx2⟩ := e3
      obtain ⟨xa1, xl1, xc1, rfl⟩ := t1.form
      obtain ⟨xa2, xl2, xc2, rfl⟩ := t2.form
      have q1 := In.cell (show wr.cell? ⟨b, off + k * 4, none⟩ = some (.string c.fName) from e2 0 _ rfl)
      have q2 := In.cell (show wr.cell? ⟨b, off + k * 4 + 1, none⟩ = some (.string c.fSuper) from e2 1 _ rfl)
      have q3 := In.cell (show wr.cell? ⟨b, off + k * 4 + 2, none⟩ = some (.slice xa1 xl1 xc1) from e2 2 _ rfl)
      have q4 := In.cell (show wr.cell? ⟨b, off + k * 4 + 3, none⟩ = some (.slice xa2 xl2 xc2) from e2 3 _ rfl)
      have E0 := Lib.hid e0
      have D0 := Lib.hid c0
      have D1 := Lib.hid c1
      have y0 := In.cell c0
      have y1 := In.cell c1
      have SO : ∀ y : In wr, Calls Tryz.prog 47 #[.agg #[.slice (some ⟨b, off, none⟩) k cap, .slice none 0 0], .string c.fName] y.x fun e w' => e = .returned (.int .i64 (ownAt (x.fOwns.take k) c.fName)) ∧ Below y.x.heap.size y.x w' := fun y => S_l3Own ⟨x.fOwns.take k, []⟩ _ _ c.fName y.x ((s1.stays rClsClass_good (Keeps.of_below (hb.trans (y.h.mono hbx)))).take (by omega)) (NIL _ _ _)
      have CC : ∀ y : In wr, Calls Tryz.prog 60 #[.agg #[.string c.fName, .string c.fSuper, .slice xa1 xl1 xc1, .slice xa2 xl2 xc2]] y.x fun e w' => e = .returned (.bool (clsOk c)) ∧ Below y.x.heap.size y.x w' := fun y => S_ClsOk c _ _ y.x (t1.stays rClsField_good (Keeps.of_below y.h)) (t2.stays rClsMethod_good (Keeps.of_below y.h)) bx1 bx2
      obtain ⟨z, hz⟩ : ∃ z, z = ownAt (x.fOwns.take k) c.fName := ⟨_, rfl⟩
      rw [← hz] at SO
      have HZ := Lib.hid hz
      have g1 : (k : Int) ≤ (cap : Int) := by omega
      have g2 : (k : Int) < (len : Int) := by omega
      have g3 : (0 : Int) ≤ (k : Int) := by omega
      clear e0 e1 e2 hr hz c0 c1 NIL
      cases hx : clsOk c
      · have H5 := Lib.hid hx
        rw [hx] at CC
        clear hx
        refine wp_region_in (by kernel_rfl) (by kernel_rfl) ?_
        repeat (go_big_quiet_step (first | (go_at_call 60; exact Calls.ins (CC _))))
        refine wpQuiet_nil ?_
        rintro wZ ⟨⟨wE, hwE⟩, hq⟩
        obtain rfl : wE = wZ := hq.symm
        clear hq
        have hwEs := hwE.size
        (try dsimp only)
        have hEE := hb.trans (hwE.mono hbx)
        go_wp2
        all_goals (try go_returns)
        all_goals exact HR.out _ _ ⟨ret_bool (keep_stop_o (each_stop E0.out (by simp [ownIn, H5.out]))), hEE⟩
      have H5 := Lib.hid hx
      rw [hx] at CC
      clear hx
      by_cases hzz : 0 ≤ z
      · have H7 := Lib.hid hzz
        have g0 : decide (0 ≤ z) = true := by simpa using hzz
        refine wp_region_in (by kernel_rfl) (by kernel_rfl) ?_
        repeat (go_big_quiet_step (first | (go_at_call 60; exact Calls.ins (CC _)) | (go_at_call 47; exact Calls.ins (SO _))))
        refine wpQuiet_nil ?_
        rintro wZ ⟨⟨wE, hwE⟩, hq⟩
        obtain rfl : wE = wZ := hq.symm
        clear hq
        have hwEs := hwE.size
        (try dsimp only)
        have hEE := hb.trans (hwE.mono hbx)
        go_wp2
        all_goals (try go_returns)
        all_goals exact HR.out _ _ ⟨ret_bool (keep_stop_o (each_stop E0.out (by have h8 := HZ.out; have h9 := H7.out; have h10 : ¬ ownAt (x.fOwns.take k) c.fName < 0 := (by omega); simp [ownIn, h10]))), hEE⟩
      have H7 := Lib.hid hzz
      have g0 : decide (0 ≤ z) = false := by simpa using hzz
      refine wp_region_in (by kernel_rfl) (by kernel_rfl) ?_
      repeat (go_big_quiet_step (first | (go_at_call 60; exact Calls.ins (CC _)) | (go_at_call 47; exact Calls.ins (SO _))))
      refine wpQuiet_nil ?_
      rintro wZ ⟨⟨wE, hwE⟩, hq⟩
      obtain rfl : wE = wZ := hq.symm
      clear hq
      have hwEs := hwE.size
      (try dsimp only)
      have hEE := hb.trans (hwE.mono hbx)
      go_wp2
      go_roundw
      case measure => simp [intOf]; omega
      case rel => exact ⟨k + 1, by omega, by go_num, EachTo.step HA.out E0.out (by have h8 := HZ.out; have h9 := H7.out; have h10 : ownAt (x.fOwns.take k) c.fName < 0 := (by omega); simp [ownIn, H5.out, h10]), hEE, In.cell D0.out ⟨wE, hwE⟩, In.cell D1.out ⟨wE, hwE⟩⟩
    · obtain rfl : k = len := by omega
      have HF : Hid (each (ownIn x.fOwns) x.fOwns = true) := Lib.hid (each_done HA.out HL.out)
      clear HA
      obtain ⟨wo, rfl⟩ : ∃ wo : World, wo = wr := ⟨_, rfl⟩
      go_wp2_with fail
      go_loopw [6] (fun i wr => ∃ k : Nat, k ≤ len' ∧ i = .int .i64 k ∧ EachTo (askIn many x.fAsks) x.fAsks k = true ∧ Below w.heap.size w wr ∧ wr.cell? ⟨w.heap.size, 1, none⟩ = some (.slice a' len' cap')) (fun i _ => len' - (intOf i).toNat)
      case atStart => exact ⟨0, Nat.zero_le _, rfl, rfl, hb, c1⟩
      case round =>
        clear hb c0 c1 hbx hbw
        obtain ⟨j, hj, rfl, ha, hb, c1⟩ := hrel
        have HA := Lib.hid ha
        clear ha
        have hbx := hb.size
        have hbw := block_lt_of_cell c1
        by_cases hlt' : j < len'
        · go_wp2_with fail
          obtain ⟨b, off, rfl, hlo, hbl, hr⟩ := h3'.stays rLodAsk_good (Keeps.of_below hb) (by omega)
          obtain ⟨⟨an, ak⟩, cs, e0, e1, e2, e3⟩ := hr j hlt'
          obtain ⟨rfl, bx1⟩ := e3
          have q1 := In.cell (show wr.cell? ⟨b, off + j * 2, none⟩ = some (.string an) from e2 0 _ rfl)
          have q2 := In.cell (show wr.cell? ⟨b, off + j * 2 + 1, none⟩ = some (.int .i64 ak) from e2 1 _ rfl)
          have E0 := Lib.hid e0
          have D1 := Lib.hid c1
          have y1 := In.cell c1
          have SA : ∀ y : In wr, Calls Tryz.prog 48 #[.agg #[.slice none 0 0, .slice (some ⟨b, off, none⟩) j cap'], .string an] y.x fun e w' => e = .returned (.int .i64 (asksOf (x.fAsks.take j) an)) ∧ Below y.x.heap.size y.x w' := fun y => S_l3Asks ⟨[], x.fAsks.take j⟩ _ _ an y.x (NIL _ _ _) ((s2.stays rLodAsk_good (Keeps.of_below (hb.trans (y.h.mono hbx)))).take (by omega))
          have CN : ∀ y : In wr, Calls Tryz.prog 33 #[.string an] y.x fun e w' => e = .returned (.bool (namOk an)) ∧ y.x = w' := fun y => S_NamOk an y.x bx1
          have CI : ∀ y : In wr, Calls Tryz.prog 32 #[.int .i64 ak, .int .i64 0, .int .i64 ((many : Int) - 1)] y.x fun e w' => e = .returned (.bool (decide (0 ≤ ak) && decide (ak ≤ (many : Int) - 1))) ∧ y.x = w' := fun y => S_l1In _ _ _ y.x
          obtain ⟨z, hz⟩ : ∃ z, z = asksOf (x.fAsks.take j) an := ⟨_, rfl⟩
          have HZ : Hid (z < 0 ↔ askAt (x.fAsks.take j) an < 0) := Lib.hid (by rw [hz]; exact asksOf_sign HA.out an)
          rw [← hz] at SA
          have g1 : (j : Int) ≤ (cap' : Int) := by omega
          have g2 : (j : Int) < (len' : Int) := by omega
          have g3 : (0 : Int) ≤ (j : Int) := by omega
          have g4 : IntKind.i64.wrap ((many : Int) - 1) = (many : Int) - 1 := IntWalk.i64_in _ (by omega)
          clear e0 e1 e2 hr c1 hz NIL
          cases hx : namOk an
          · have H5 := Lib.hid hx
            rw [hx] at CN
            clear hx
            refine wp_region_in (by kernel_rfl) (by kernel_rfl) ?_
            repeat (go_big_quiet_step (first | (go_at_call 33; exact Calls.ins_same (CN _))))
            refine wpQuiet_nil ?_
            rintro wZ ⟨⟨wE, hwE⟩, hq⟩
            obtain rfl : wE = wZ := hq.symm
            clear hq
            have hwEs := hwE.size
            (try dsimp only)
            clear g4
            have hEE := hb.trans (hwE.mono hbx)
            go_wp2
            all_goals (try go_returns)
            all_goals exact HR.out _ _ ⟨ret_bool (keep_stop_a (each_stop E0.out (by simp [askIn, H5.out]))), hEE⟩
          have H5 := Lib.hid hx
          rw [hx] at CN
          clear hx
          cases hx : (decide (0 ≤ ak) && decide (ak ≤ (many : Int) - 1))
          · have H6 := Lib.hid hx
            rw [hx] at CI
            clear hx
            refine wp_region_in (by kernel_rfl) (by kernel_rfl) ?_
            repeat (go_big_quiet_step (first | (go_at_call 33; exact Calls.ins_same (CN _)) | (go_at_call 32; exact Calls.ins_same (CI _))))
            refine wpQuiet_nil ?_
            rintro wZ ⟨⟨wE, hwE⟩, hq⟩
            obtain rfl : wE = wZ := hq.symm
            clear hq
            have hwEs := hwE.size
            (try dsimp only)
            clear g4
            have hEE := hb.trans (hwE.mono hbx)
            go_wp2
            all_goals (try go_returns)
            all_goals exact HR.out _ _ ⟨ret_bool (keep_stop_a (each_stop E0.out (by simp only [askIn, H6.out]; simp))), hEE⟩
          have H6 := Lib.hid hx
          rw [hx] at CI
          clear hx
          by_cases hzz : 0 ≤ z
          · have H7 := Lib.hid hzz
            have g0 : decide (0 ≤ z) = true := by simpa using hzz
            refine wp_region_in (by kernel_rfl) (by kernel_rfl) ?_
            repeat (go_big_quiet_step (first | (go_at_call 33; exact Calls.ins_same (CN _)) | (go_at_call 32; exact Calls.ins_same (CI _)) | (go_at_call 48; exact Calls.ins (SA _))))
            refine wpQuiet_nil ?_
            rintro wZ ⟨⟨wE, hwE⟩, hq⟩
            obtain rfl : wE = wZ := hq.symm
            clear hq
            have hwEs := hwE.size
            (try dsimp only)
            clear g4
            have hEE := hb.trans (hwE.mono hbx)
            go_wp2
            all_goals (try go_returns)
            all_goals exact HR.out _ _ ⟨ret_bool (keep_stop_a (each_stop E0.out (by have h8 := HZ.out; have h9 := H7.out; have h10 : ¬ askAt (x.fAsks.take j) an < 0 := (fun h => absurd (h8.2 h) (by omega)); simp [askIn, h10]))), hEE⟩
          have H7 := Lib.hid hzz
          have g0 : decide (0 ≤ z) = false := by simpa using hzz
          refine wp_region_in (by kernel_rfl) (by kernel_rfl) ?_
          repeat (go_big_quiet_step (first | (go_at_call 33; exact Calls.ins_same (CN _)) | (go_at_call 32; exact Calls.ins_same (CI _)) | (go_at_call 48; exact Calls.ins (SA _))))
          refine wpQuiet_nil ?_
          rintro wZ ⟨⟨wE, hwE⟩, hq⟩
          obtain rfl : wE = wZ := hq.symm
          clear hq
          have hwEs := hwE.size
          (try dsimp only)
          clear g4
          have hEE := hb.trans (hwE.mono hbx)
          go_wp2
          go_roundw
          case measure => simp [intOf]; omega
          case rel => exact ⟨j + 1, by omega, by go_num, EachTo.step HA.out E0.out (by have h8 := HZ.out; have h9 := H7.out; have h10 : askAt (x.fAsks.take j) an < 0 := (h8.1 (by omega)); simp only [askIn, H5.out, H6.out]; simp [h10]), hEE, In.cell D1.out ⟨wE, hwE⟩⟩
        · obtain rfl : j = len' := by omega
          go_wp2
          all_goals (try go_returns)
          all_goals exact HR.out _ _ ⟨ret_bool (by
            have h5 : each (askIn many x.fAsks) x.fAsks = true := each_done HA.out HL'.out
            have h6 := HL.out
            have h7 := HL'.out
            simp only [keeperOk, HF.out, h5, h6, h7]
            simp; omega), hb⟩

set_option maxRecDepth 100000 in
set_option maxHeartbeats 8000000 in
theorem S_LodOk (x : DLodPlan) (v1 : Value) (w : World) (s1 : Sl 2 rLodKeeper 0 w v1 x.fKeepers) :
    Calls Tryz.prog 28 #[.agg #[v1]] w fun e w' => e = .returned (.bool (lodOk x)) ∧ Below w.heap.size w w' := by
  obtain ⟨a, len, cap, rfl, hl, h1, h2, h3⟩ := id s1
  have m1 : len ≤ 9223372036854775807 := by unfold maxLen at h2; omega
  have HL := Lib.hid hl
  clear h2 hl
  by_cases hn : ¬ (1 ≤ len ∧ len ≤ 3)
  · have L1 : ∀ W, Calls Tryz.prog 32 #[.int .i64 (len : Int), .int .i64 1, .int .i64 3] W fun e w' => e = .returned (.bool false) ∧ W = w' := fun W => Calls.val2 (S_l1In _ _ _ W) (by simp; omega)
    have HN := Lib.hid hn
    clear hn
    refine calls_hide fun R HR => ?_
    go_enter Tryz.func28, Tryz.ntmps28
    go_wp2_with fail
    refine (L1 _).mono ?_
    rintro _ _ ⟨rfl, rfl⟩
    go_wp2
    all_goals (try go_returns)
    all_goals exact HR.out _ _ ⟨ret_bool (by
      have h5 := HL.out; have h6 := HN.out
      by_cases h8 : len ≤ 3
      · have h9 : ¬ 1 ≤ len := by omega
        unfold lodOk; rw [h5, decide_eq_false h9]; simp
      · unfold lodOk; rw [h5, decide_eq_false h8]; simp), by (repeat' (first | (with_reducible exact Below.refl _ _) | (with_reducible refine Below.alloc ?_ ?_ _) | (with_reducible refine Below.setCell ?_ ?_ _) | (with_reducible refine Below.drew ?_) | (refine below_hyp (by assumption) ?_ ?_) | go_size))⟩
  obtain ⟨hn1, hn2⟩ : 1 ≤ len ∧ len ≤ 3 := Decidable.byContradiction hn
  clear hn
  have L1 : ∀ W, Calls Tryz.prog 32 #[.int .i64 (len : Int), .int .i64 1, .int .i64 3] W fun e w' => e = .returned (.bool true) ∧ W = w' := fun W => Calls.val2 (S_l1In _ _ _ W) (by simp; omega)
  refine calls_hide fun R HR => ?_
  go_enter Tryz.func28, Tryz.ntmps28
  go_wp2_with fail
  refine (L1 _).mono ?_
  rintro _ _ ⟨rfl, rfl⟩
  go_wp2_with fail
  go_loopw [3] (fun i wr => ∃ k : Nat, k ≤ len ∧ i = .int .i64 k ∧ EachTo (fun _ k => keeperOk x.fKeepers.length k) x.fKeepers k = true ∧ Below w.heap.size w wr ∧ wr.cell? ⟨w.heap.size, 0, none⟩ = some (.slice a len cap)) (fun i _ => len - (intOf i).toNat)
  case atStart => exact ⟨0, Nat.zero_le _, rfl, rfl, by (repeat' (first | (with_reducible exact Below.refl _ _) | (with_reducible refine Below.alloc ?_ ?_ _) | (with_reducible refine Below.setCell ?_ ?_ _) | (with_reducible refine Below.drew ?_) | (refine below_hyp (by assumption) ?_ ?_) | go_size)), by go_simp⟩
  case round =>
    obtain ⟨k, hk, rfl, ha, hb, c0⟩ := hrel
    have HA := Lib.hid ha
    clear ha
    have hbx := hb.size
    have hbw := block_lt_of_cell c0
    by_cases hlt : k < len
    · go_wp2_with fail
      obtain ⟨b, off, rfl, hlo, hbl, hr⟩ := h3.stays rLodKeeper_good (Keeps.of_below hb) (by omega)
      obtain ⟨c, cs, e0, e1, e2, e3⟩ := hr k hlt
      obtain ⟨x1, x2, rfl, t1, t2⟩ := e3
      obtain ⟨xa1, xl1, xc1, rfl⟩ := t1.form
      obtain ⟨xa2, xl2, xc2, rfl⟩ := t2.form
      have q1 := In.cell (show wr.cell? ⟨b, off + k * 2, none⟩ = some (.slice xa1 xl1 xc1) from e2 0 _ rfl)
      have q2 := In.cell (show wr.cell? ⟨b, off + k * 2 + 1, none⟩ = some (.slice xa2 xl2 xc2) from e2 1 _ rfl)
      have E0 := Lib.hid e0
      have D0 := Lib.hid c0
      have y0 := In.cell c0
      have CK : ∀ y : In wr, Calls Tryz.prog 44 #[.agg #[.slice xa1 xl1 xc1, .slice xa2 xl2 xc2], .int .i64 (len : Int)] y.x fun e w' => e = .returned (.bool (keeperOk x.fKeepers.length c)) ∧ Below y.x.heap.size y.x w' := fun y => by
        rw [HL.out]
        exact S_l3Keeper c _ _ len y.x (t1.stays rClsClass_good (Keeps.of_below y.h)) (t2.stays rLodAsk_good (Keeps.of_below y.h)) hn2
      obtain ⟨z, hz⟩ : ∃ z, z = keeperOk x.fKeepers.length c := ⟨_, rfl⟩
      rw [← hz] at CK
      have HZ := Lib.hid hz
      have g2 : (k : Int) < (len : Int) := by omega
      have g3 : (0 : Int) ≤ (k : Int) := by omega
      clear e0 e1 e2 hr c0 hz
      cases z
      · refine wp_region_in (by kernel_rfl) (by kernel_rfl) ?_
        repeat (go_big_quiet_step (first | (go_at_call 44; exact Calls.ins (CK _))))
        refine wpQuiet_nil ?_
        rintro wZ ⟨⟨wE, hwE⟩, hq⟩
        obtain rfl : wE = wZ := hq.symm
        clear hq
        have hwEs := hwE.size
        (try dsimp only)
        have hEE := hb.trans (hwE.mono hbx)
        go_wp2
        all_goals (try go_returns)
        all_goals exact HR.out _ _ ⟨ret_bool (by
          have h5 : each (fun _ k => keeperOk x.fKeepers.length k) x.fKeepers = false := each_stop E0.out HZ.out.symm
          unfold lodOk; rw [h5]; simp), hEE⟩
      refine wp_region_in (by kernel_rfl) (by kernel_rfl) ?_
      repeat (go_big_quiet_step (first | (go_at_call 44; exact Calls.ins (CK _))))
      refine wpQuiet_nil ?_
      rintro wZ ⟨⟨wE, hwE⟩, hq⟩
      obtain rfl : wE = wZ := hq.symm
      clear hq
      have hwEs := hwE.size
      (try dsimp only)
      have hEE := hb.trans (hwE.mono hbx)
      go_wp2
      go_roundw
      case measure => simp [intOf]; omega
      case rel => exact ⟨k + 1, by omega, by go_num, EachTo.step HA.out E0.out HZ.out.symm, hEE, In.cell D0.out ⟨wE, hwE⟩⟩
    · obtain rfl : k = len := by omega
      go_wp2
      all_goals (try go_returns)
      all_goals exact HR.out _ _ ⟨ret_bool (by
        have h5 : each (fun _ k => keeperOk x.fKeepers.length k) x.fKeepers = true := each_done HA.out HL.out
        unfold lodOk; rw [h5, HL.out, decide_eq_true hn1, decide_eq_true hn2]; rfl), hb⟩

end Go.Proofs.YtmmlhnjmjmbfpaaGreat
