

/-
  The walk of the reference's l2Maps. Condition: the data can be read.
-/
import Derived.Test.YtmmlhnjmjmbfpaaGreatMthS
import Derived.Test.YtmmlhnjmjmbfpaaGreatReg
import Derived.Deep.RegionHeld3
import Derived.Deep.QuietTactic
import Derived.BigQuiet
namespace Go.Proofs.YtmmlhnjmjmbfpaaGreat
set_option linter.unusedSimpArgs false
set_option linter.unusedVariables false
open Go.RowKit

theorem lastAt_pos {m : DClsMethod} {k : Nat} (h : EachTo (mapIn m) m.fMaps k = true) : 0 ≤ lastAt m.fMaps k := by
  induction k with
  | zero => exact Int.le_refl _
  | succ k ih =>
    have h' : EachTo (mapIn m) m.fMaps k = true := by simp only [EachTo, Bool.and_eq_true] at h; exact h.1
    have ih := ih h'
    cases e : m.fMaps[k]? with
    | none => simp [lastAt, e]
    | some x =>
      have := EachTo.mem h k x (by omega) e
      simp [mapIn] at this
      simp only [lastAt, e]
      omega

set_option maxRecDepth 100000 in
set_option maxHeartbeats 40000000 in
theorem S_l2Maps (m : DClsMethod) (v1 v2 v3 : Value) (w : World) (s1 : Sl 2 rKndKind 0 w v1 m.fArgs) (s2 : Sl 4 rClsIns 0 w v2 m.fCode) (s3 : Sl 3 rClsMap 0 w v3 m.fMaps) :
    Calls Tryz.prog 91 #[.agg #[.string m.fName, v1, .int .i64 m.fRet.fKind, .string m.fRet.fName, .int .i64 m.fLocals, .int .i64 m.fStack, v2, v3]] w fun e w' => e = .returned (.bool (mapsOk m)) ∧ Below w.heap.size w w' := by
  obtain ⟨na1, nl1, nc1, rfl⟩ := s1.form
  obtain ⟨na2, nl2, nc2, rfl⟩ := s2.form
  obtain ⟨hl2, _, hm2⟩ := s2.len
  have m2 : nl2 ≤ 9223372036854775807 := by unfold maxLen at hm2; omega
  obtain ⟨a, len, cap, rfl, hl, h1, h2, h3⟩ := id s3
  have m1 : len ≤ 9223372036854775807 := by unfold maxLen at h2; omega
  have HL := Lib.hid hl
  have HL2 := Lib.hid hl2
  have H1 := Lib.hid h1
  clear h2 hl h1 hl2 hm2
  by_cases hlen : len ≤ 5
  · refine calls_hide fun R HR => ?_
    go_enter Tryz.func91, Tryz.ntmps91
    go_wp2_with fail
    go_loopw [3] (fun i wr => ∃ k : Nat, k ≤ len ∧ i = .int .i64 k ∧ EachTo (mapIn m) m.fMaps k = true ∧ Below w.heap.size w wr ∧ wr.cell? ⟨w.heap.size, 4, none⟩ = some (.int .i64 m.fLocals) ∧ wr.cell? ⟨w.heap.size, 5, none⟩ = some (.int .i64 m.fStack) ∧ wr.cell? ⟨w.heap.size, 6, none⟩ = some (.slice na2 nl2 nc2) ∧ wr.cell? ⟨w.heap.size, 7, none⟩ = some (.slice a len cap)) (fun i _ => len - (intOf i).toNat)
    case atStart => exact ⟨0, Nat.zero_le _, rfl, rfl, by (repeat' (first | (with_reducible exact Below.refl _ _) | (with_reducible refine Below.alloc ?_ ?_ _) | (with_reducible refine Below.setCell ?_ ?_ _) | (with_reducible refine Below.drew ?_) | (refine below_hyp (by assumption) ?_ ?_) | go_size)), by go_simp, by go_simp, by go_simp, by go_simp⟩
    case round =>
      obtain ⟨k, hk, rfl, ha, hb, c4, c5, c6, c7⟩ := hrel
      have HA := Lib.hid ha
      clear ha
      have hbx := hb.size
      have hbw := block_lt_of_cell c4
      by_cases hlt : k < len
      · obtain ⟨b, off, rfl, hlo, hbl, hr⟩ := h3.stays rClsMap_good (Keeps.of_below hb) (by omega)
        obtain ⟨⟨xat, xl, xs⟩, cs, e0, e1, e2, e3⟩ := hr k hlt
        obtain ⟨u1, u2, rfl, t1, t2⟩ := e3
        obtain ⟨ua1, ul1, uc1, rfl⟩ := t1.form
        obtain ⟨ua2, ul2, uc2, rfl⟩ := t2.form
        have q1 : wr.cell? ⟨b, off + k * 3, none⟩ = some (.int .i64 xat) := e2 0 _ rfl
        have q2 : wr.cell? ⟨b, off + k * 3 + 1, none⟩ = some (.slice ua1 ul1 uc1) := e2 1 _ rfl
        have q3 : wr.cell? ⟨b, off + k * 3 + 2, none⟩ = some (.slice ua2 ul2 uc2) := e2 2 _ rfl
        have E0 := Lib.hid e0
        clear e0 e1 e2
        go_wp2_with fail
        obtain ⟨wB, hwB⟩ : ∃ wB, wB = wr.alloc (.cells #[.int .i64 xat, .slice ua1 ul1 uc1, .slice ua2 ul2 uc2] 150) := ⟨_, rfl⟩
        rw [← hwB]
        have hBB : Below w.heap.size w wB := by rw [hwB]; (repeat' (first | (with_reducible exact Below.refl _ _) | (with_reducible refine Below.alloc ?_ ?_ _) | (with_reducible refine Below.setCell ?_ ?_ _) | (with_reducible refine Below.drew ?_) | (refine below_hyp (by assumption) ?_ ?_) | go_size))
        have hBR : Below wr.heap.size wr wB := by rw [hwB]; (repeat' (first | (with_reducible exact Below.refl _ _) | (with_reducible refine Below.alloc ?_ ?_ _) | (with_reducible refine Below.setCell ?_ ?_ _) | (with_reducible refine Below.drew ?_) | (refine below_hyp (by assumption) ?_ ?_) | go_size))
        have hzB : wr.heap.size < wB.heap.size := by rw [hwB]; simp
        have hzw : w.heap.size ≤ wB.heap.size := by omega
        have d4 : wB.cell? ⟨w.heap.size, 4, none⟩ = some (.int .i64 m.fLocals) := by rw [hwB]; go_simp
        have d5 : wB.cell? ⟨w.heap.size, 5, none⟩ = some (.int .i64 m.fStack) := by rw [hwB]; go_simp
        have d6 : wB.cell? ⟨w.heap.size, 6, none⟩ = some (.slice na2 nl2 nc2) := by rw [hwB]; go_simp
        have d7 : wB.cell? ⟨w.heap.size, 7, none⟩ = some (.slice (some ⟨b, off, none⟩) len cap) := by rw [hwB]; go_simp
        have x1 := In.cell (show wB.cell? ⟨wr.heap.size, 0, none⟩ = some (.int .i64 xat) by rw [hwB]; go_simp)
        have x2 := In.cell (show wB.cell? ⟨wr.heap.size, 1, none⟩ = some (.slice ua1 ul1 uc1) by rw [hwB]; go_simp)
        have x3 := In.cell (show wB.cell? ⟨wr.heap.size, 2, none⟩ = some (.slice ua2 ul2 uc2) by rw [hwB]; go_simp)
        have D4 := Lib.hid d4
        have D5 := Lib.hid d5
        have D6 := Lib.hid d6
        have D7 := Lib.hid d7
        have y4 := In.cell d4
        have y5 := In.cell d5
        have y6 := In.cell d6
        have y7 := In.cell d7
        have T1 : ∀ y : In wB, Sl 2 rTagTag 0 y.x (.slice ua1 ul1 uc1) xl := fun y => t1.stays rTagTag_good ((Keeps.of_below hBR).trans (Keeps.of_below y.h))
        have T2 : ∀ y : In wB, Sl 2 rTagTag 0 y.x (.slice ua2 ul2 uc2) xs := fun y => t2.stays rTagTag_good ((Keeps.of_below hBR).trans (Keeps.of_below y.h))
        obtain ⟨tl1, _, tm1⟩ := t1.len
        obtain ⟨tl2, _, tm2⟩ := t2.len
        have TL1 := Lib.hid tl1
        have TL2 := Lib.hid tl2
        have tm1' : ul1 ≤ 9223372036854775807 := by unfold maxLen at tm1; omega
        have tm2' : ul2 ≤ 9223372036854775807 := by unfold maxLen at tm2; omega
        clear q1 q2 q3 c4 c5 c6 c7 hwB tl1 tl2 tm1 tm2 d4 d5 d6 d7
        have KZ : k = 0 ∨ 1 ≤ k := by omega
        by_cases iA : ¬ (1 ≤ xat ∧ xat ≤ (nl2 : Int) - 1)
        · have L1 : ∀ W, Calls Tryz.prog 32 #[.int .i64 xat, .int .i64 1, .int .i64 ((nl2 : Int) - 1)] W fun e w' => e = .returned (.bool false) ∧ W = w' := fun W => Calls.val (S_l1In _ _ _ W) (by rw [show (decide ((1 : Int) ≤ xat) && decide (xat ≤ (nl2 : Int) - 1)) = false from by simp; omega])
          have ST : mapIn m k ⟨xat, xl, xs⟩ = false := by
            have hc := HL2.out
            unfold mapIn
            by_cases h9 : xat < (m.fCode.length : Int)
            · have h8 : ¬ lastAt m.fMaps k < xat := by
                have : 0 ≤ lastAt m.fMaps k := lastAt_pos HA.out
                omega
              simp [h8]
            · simp [h9]
          have ST' := Lib.hid ST
          clear iA hr KZ ST
          refine wp_region_in (by kernel_rfl) (by kernel_rfl) ?_
          repeat (go_big_quiet_step (first | (go_at_call 32; exact Calls.ins_same (L1 _))))
          refine wpQuiet_nil ?_
          rintro wZ ⟨⟨wE, hwE⟩, hq⟩
          obtain rfl : wE = wZ := hq.symm
          clear hq
          have hwEs := hwE.size
          (try dsimp only)
          go_wp2
          all_goals (try go_returns)
          all_goals exact HR.out _ _ ⟨ret_bool (by unfold mapsOk; rw [each_stop E0.out (ST'.out)]; simp), hBB.trans (hwE.mono hzw)⟩
        have iA' : 1 ≤ xat ∧ xat ≤ (nl2 : Int) - 1 := Decidable.byContradiction iA
        obtain ⟨iA1, iA2⟩ := iA'
        clear iA
        have L1 : ∀ W, Calls Tryz.prog 32 #[.int .i64 xat, .int .i64 1, .int .i64 ((nl2 : Int) - 1)] W fun e w' => e = .returned (.bool true) ∧ W = w' := fun W => Calls.val (S_l1In _ _ _ W) (by rw [show (decide ((1 : Int) ≤ xat) && decide (xat ≤ (nl2 : Int) - 1)) = true from by simp; omega])
        have h7 := h3.stays rClsMap_good (Keeps.of_below hBB)
        have KK : (k < 1 ∧ Hid (lastAt m.fMaps k < xat) ∧ ∀ y : In wB, True) ∨ (1 ≤ k ∧ ∃ z : Int, Hid (lastAt m.fMaps k = z) ∧ ∀ y : In wB, y.x.cell? ⟨b, off + (k - 1) * 3, none⟩ = some (.int .i64 z)) := by
          rcases KZ with h | h
          · subst h
            exact Or.inl ⟨by omega, Lib.hid (show (0 : Int) < xat by omega), fun _ => trivial⟩
          · obtain ⟨b', off', e', _, _, hr'⟩ := h7 (by omega)
            cases e'
            obtain ⟨x', cs', f0, f1, f2, f3⟩ := hr' (k - 1) (by omega)
            obtain ⟨_, _, rfl, _, _⟩ := f3
            refine Or.inr ⟨h, x'.fAt, Lib.hid ?_, In.cell (f2 0 _ rfl)⟩
            obtain ⟨j, rfl⟩ : ∃ j, k = j + 1 := ⟨k - 1, by omega⟩
            rw [show j + 1 - 1 = j from rfl] at f0
            simp only [lastAt, f0]
        clear KZ hr h7
        rcases KK with ⟨hk1, LA, _⟩ | ⟨hk1, z, LZ, qz⟩
        · have g0 : decide (0 < k) = false := by simp; omega
          have g0' : decide ((0 : Int) < (k : Int)) = false := by simp; omega
          by_cases iC : ¬ (ul1 : Int) = m.fLocals
          · have ST' := Lib.hid (show mapIn m k ⟨xat, xl, xs⟩ = false from by have h5 := TL1.out; have h6 := TL2.out; unfold mapIn; rw [h5]; simp [iC])
            have iC1 : ((ul1 : Int) != m.fLocals) = true := by simpa using iC
            have iC2 : ((ul1 : Int) == m.fLocals) = false := by simpa using iC
            clear iC
            refine wp_region_in (by kernel_rfl) (by kernel_rfl) ?_
            repeat (go_big_quiet_step (first | (go_at_call 32; exact Calls.ins_same (L1 _))))
            refine wpQuiet_nil ?_
            rintro wZ ⟨⟨wE, hwE⟩, hq⟩
            obtain rfl : wE = wZ := hq.symm
            clear hq
            have hwEs := hwE.size
            (try dsimp only)
            go_wp2
            all_goals (try go_returns)
            all_goals exact HR.out _ _ ⟨ret_bool (by unfold mapsOk; rw [each_stop E0.out (ST'.out)]; simp), hBB.trans (hwE.mono hzw)⟩
          have IC := Lib.hid (Decidable.byContradiction iC)
          have iC1 : ((ul1 : Int) != m.fLocals) = false := by simpa using IC.out
          have iC2 : ((ul1 : Int) == m.fLocals) = true := by simpa using IC.out
          clear iC
          by_cases iD : m.fStack < (ul2 : Int)
          · have ST' := Lib.hid (show mapIn m k ⟨xat, xl, xs⟩ = false from by have h5 := TL1.out; have h6 := TL2.out; unfold mapIn; rw [h6, decide_eq_false (show ¬ (ul2 : Int) ≤ m.fStack by omega)]; simp)
            have iD1 : decide (m.fStack < (ul2 : Int)) = true := by simpa using iD
            clear iD
            refine wp_region_in (by kernel_rfl) (by kernel_rfl) ?_
            repeat (go_big_quiet_step (first | (go_at_call 32; exact Calls.ins_same (L1 _))))
            refine wpQuiet_nil ?_
            rintro wZ ⟨⟨wE, hwE⟩, hq⟩
            obtain rfl : wE = wZ := hq.symm
            clear hq
            have hwEs := hwE.size
            (try dsimp only)
            go_wp2
            all_goals (try go_returns)
            all_goals exact HR.out _ _ ⟨ret_bool (by unfold mapsOk; rw [each_stop E0.out (ST'.out)]; simp), hBB.trans (hwE.mono hzw)⟩
          have ID := Lib.hid (Int.not_lt.1 iD)
          have iD1 : decide (m.fStack < (ul2 : Int)) = false := by simpa using iD
          clear iD
          by_cases iE : tagsOk xl = false
          · have ST' := Lib.hid (show mapIn m k ⟨xat, xl, xs⟩ = false from by have h5 := TL1.out; have h6 := TL2.out; unfold mapIn; simp [iE])
            have IE := Lib.hid iE
            have LE : ∀ y : In wB, Calls Tryz.prog 101 #[.slice ua1 ul1 uc1] y.x fun e w' => e = .returned (.bool false) ∧ Below y.x.heap.size y.x w' := fun y => Calls.val2 (S_l2Tags _ _ _ (T1 y)) IE.out
            clear iE
            refine wp_region_in (by kernel_rfl) (by kernel_rfl) ?_
            repeat (go_big_quiet_step (first | (go_at_call 32; exact Calls.ins_same (L1 _)) | (go_at_call 101; with_reducible exact Calls.ins (LE _))))
            refine wpQuiet_nil ?_
            rintro wZ ⟨⟨wE, hwE⟩, hq⟩
            obtain rfl : wE = wZ := hq.symm
            clear hq
            have hwEs := hwE.size
            (try dsimp only)
            go_wp2
            all_goals (try go_returns)
            all_goals exact HR.out _ _ ⟨ret_bool (by unfold mapsOk; rw [each_stop E0.out (ST'.out)]; simp), hBB.trans (hwE.mono hzw)⟩
          have IE : Hid (tagsOk xl = true) := Lib.hid (by simpa using iE)
          have LE : ∀ y : In wB, Calls Tryz.prog 101 #[.slice ua1 ul1 uc1] y.x fun e w' => e = .returned (.bool true) ∧ Below y.x.heap.size y.x w' := fun y => Calls.val2 (S_l2Tags _ _ _ (T1 y)) IE.out
          clear iE
          by_cases iF : tagsOk xs = false
          · have ST' := Lib.hid (show mapIn m k ⟨xat, xl, xs⟩ = false from by have h5 := TL1.out; have h6 := TL2.out; unfold mapIn; simp [iF])
            have IF := Lib.hid iF
            have LF : ∀ y : In wB, Calls Tryz.prog 101 #[.slice ua2 ul2 uc2] y.x fun e w' => e = .returned (.bool false) ∧ Below y.x.heap.size y.x w' := fun y => Calls.val2 (S_l2Tags _ _ _ (T2 y)) IF.out
            clear iF
            refine wp_region_in (by kernel_rfl) (by kernel_rfl) ?_
            repeat (go_big_quiet_step (first | (go_at_call 32; exact Calls.ins_same (L1 _)) | (go_at_call 101; with_reducible exact Calls.ins (LE _)) | (go_at_call 101; with_reducible exact Calls.ins (LF _))))
            refine wpQuiet_nil ?_
            rintro wZ ⟨⟨wE, hwE⟩, hq⟩
            obtain rfl : wE = wZ := hq.symm
            clear hq
            have hwEs := hwE.size
            (try dsimp only)
            go_wp2
            all_goals (try go_returns)
            all_goals exact HR.out _ _ ⟨ret_bool (by unfold mapsOk; rw [each_stop E0.out (ST'.out)]; simp), hBB.trans (hwE.mono hzw)⟩
          have IF : Hid (tagsOk xs = true) := Lib.hid (by simpa using iF)
          have LF : ∀ y : In wB, Calls Tryz.prog 101 #[.slice ua2 ul2 uc2] y.x fun e w' => e = .returned (.bool true) ∧ Below y.x.heap.size y.x w' := fun y => Calls.val2 (S_l2Tags _ _ _ (T2 y)) IF.out
          clear iF
          refine wp_region_in (by kernel_rfl) (by kernel_rfl) ?_
          repeat (go_big_quiet_step (first | (go_at_call 32; exact Calls.ins_same (L1 _)) | (go_at_call 101; with_reducible exact Calls.ins (LE _)) | (go_at_call 101; with_reducible exact Calls.ins (LF _))))
          refine wpQuiet_nil ?_
          rintro wZ ⟨⟨wE, hwE⟩, hq⟩
          obtain rfl : wE = wZ := hq.symm
          clear hq
          have hwEs := hwE.size
          (try dsimp only)
          go_wp2
          go_roundw
          case measure => simp [intOf]; omega
          case rel => exact ⟨k + 1, by omega, by go_num, EachTo.step HA.out E0.out (by have h1 := LA.out; have h2 := HL2.out; have h3 := TL1.out; have h4 := TL2.out; have h5 := IC.out; have h6 := ID.out; simp only [mapIn, IE.out, IF.out, h2, h3, h4, h5]; simp; omega), hBB.trans (hwE.mono hzw), In.cell D4.out ⟨wE, hwE⟩, In.cell D5.out ⟨wE, hwE⟩, In.cell D6.out ⟨wE, hwE⟩, In.cell D7.out ⟨wE, hwE⟩⟩
        · have g0 : decide (0 < k) = true := by simp; omega
          have g0' : decide ((0 : Int) < (k : Int)) = true := by simp; omega
          have j0 : (0 : Int) ≤ (k : Int) - 1 := by omega
          have j1 : ((k : Int) - 1).toNat = k - 1 := by omega
          have j2 : (k : Int) - 1 < (len : Int) := by omega
          have j3 : IntKind.i64.wrap ((k : Int) - 1) = (k : Int) - 1 := IntWalk.i64_in _ (by omega)
          by_cases iB : xat ≤ z
          · have iB1 : decide (xat ≤ z) = true := by simpa using iB
            have ST' := Lib.hid (show mapIn m k ⟨xat, xl, xs⟩ = false from by have := LZ.out; unfold mapIn; rw [this]; simp; intros; omega)
            clear iB
            refine wp_region_in (by kernel_rfl) (by kernel_rfl) ?_
            repeat (go_big_quiet_step (first | (go_at_call 32; exact Calls.ins_same (L1 _))))
            refine wpQuiet_nil ?_
            rintro wZ ⟨⟨wE, hwE⟩, hq⟩
            obtain rfl : wE = wZ := hq.symm
            clear hq
            have hwEs := hwE.size
            (try dsimp only)
            clear j1 j3
            go_wp2
            all_goals (try go_returns)
            all_goals exact HR.out _ _ ⟨ret_bool (by unfold mapsOk; rw [each_stop E0.out (ST'.out)]; simp), hBB.trans (hwE.mono hzw)⟩
          have LA : Hid (lastAt m.fMaps k < xat) := Lib.hid (by rw [LZ.out]; omega)
          have iB1 : decide (xat ≤ z) = false := by simpa using iB
          clear iB
          by_cases iC : ¬ (ul1 : Int) = m.fLocals
          · have ST' := Lib.hid (show mapIn m k ⟨xat, xl, xs⟩ = false from by have h5 := TL1.out; have h6 := TL2.out; unfold mapIn; rw [h5]; simp [iC])
            have iC1 : ((ul1 : Int) != m.fLocals) = true := by simpa using iC
            have iC2 : ((ul1 : Int) == m.fLocals) = false := by simpa using iC
            clear iC
            refine wp_region_in (by kernel_rfl) (by kernel_rfl) ?_
            repeat (go_big_quiet_step (first | (go_at_call 32; exact Calls.ins_same (L1 _))))
            refine wpQuiet_nil ?_
            rintro wZ ⟨⟨wE, hwE⟩, hq⟩
            obtain rfl : wE = wZ := hq.symm
            clear hq
            have hwEs := hwE.size
            (try dsimp only)
            clear j1 j3
            go_wp2
            all_goals (try go_returns)
            all_goals exact HR.out _ _ ⟨ret_bool (by unfold mapsOk; rw [each_stop E0.out (ST'.out)]; simp), hBB.trans (hwE.mono hzw)⟩
          have IC := Lib.hid (Decidable.byContradiction iC)
          have iC1 : ((ul1 : Int) != m.fLocals) = false := by simpa using IC.out
          have iC2 : ((ul1 : Int) == m.fLocals) = true := by simpa using IC.out
          clear iC
          by_cases iD : m.fStack < (ul2 : Int)
          · have ST' := Lib.hid (show mapIn m k ⟨xat, xl, xs⟩ = false from by have h5 := TL1.out; have h6 := TL2.out; unfold mapIn; rw [h6, decide_eq_false (show ¬ (ul2 : Int) ≤ m.fStack by omega)]; simp)
            have iD1 : decide (m.fStack < (ul2 : Int)) = true := by simpa using iD
            clear iD
            refine wp_region_in (by kernel_rfl) (by kernel_rfl) ?_
            repeat (go_big_quiet_step (first | (go_at_call 32; exact Calls.ins_same (L1 _))))
            refine wpQuiet_nil ?_
            rintro wZ ⟨⟨wE, hwE⟩, hq⟩
            obtain rfl : wE = wZ := hq.symm
            clear hq
            have hwEs := hwE.size
            (try dsimp only)
            clear j1 j3
            go_wp2
            all_goals (try go_returns)
            all_goals exact HR.out _ _ ⟨ret_bool (by unfold mapsOk; rw [each_stop E0.out (ST'.out)]; simp), hBB.trans (hwE.mono hzw)⟩
          have ID := Lib.hid (Int.not_lt.1 iD)
          have iD1 : decide (m.fStack < (ul2 : Int)) = false := by simpa using iD
          clear iD
          by_cases iE : tagsOk xl = false
          · have ST' := Lib.hid (show mapIn m k ⟨xat, xl, xs⟩ = false from by have h5 := TL1.out; have h6 := TL2.out; unfold mapIn; simp [iE])
            have IE := Lib.hid iE
            have LE : ∀ y : In wB, Calls Tryz.prog 101 #[.slice ua1 ul1 uc1] y.x fun e w' => e = .returned (.bool false) ∧ Below y.x.heap.size y.x w' := fun y => Calls.val2 (S_l2Tags _ _ _ (T1 y)) IE.out
            clear iE
            refine wp_region_in (by kernel_rfl) (by kernel_rfl) ?_
            repeat (go_big_quiet_step (first | (go_at_call 32; exact Calls.ins_same (L1 _)) | (go_at_call 101; with_reducible exact Calls.ins (LE _))))
            refine wpQuiet_nil ?_
            rintro wZ ⟨⟨wE, hwE⟩, hq⟩
            obtain rfl : wE = wZ := hq.symm
            clear hq
            have hwEs := hwE.size
            (try dsimp only)
            clear j1 j3
            go_wp2
            all_goals (try go_returns)
            all_goals exact HR.out _ _ ⟨ret_bool (by unfold mapsOk; rw [each_stop E0.out (ST'.out)]; simp), hBB.trans (hwE.mono hzw)⟩
          have IE : Hid (tagsOk xl = true) := Lib.hid (by simpa using iE)
          have LE : ∀ y : In wB, Calls Tryz.prog 101 #[.slice ua1 ul1 uc1] y.x fun e w' => e = .returned (.bool true) ∧ Below y.x.heap.size y.x w' := fun y => Calls.val2 (S_l2Tags _ _ _ (T1 y)) IE.out
          clear iE
          by_cases iF : tagsOk xs = false
          · have ST' := Lib.hid (show mapIn m k ⟨xat, xl, xs⟩ = false from by have h5 := TL1.out; have h6 := TL2.out; unfold mapIn; simp [iF])
            have IF := Lib.hid iF
            have LF : ∀ y : In wB, Calls Tryz.prog 101 #[.slice ua2 ul2 uc2] y.x fun e w' => e = .returned (.bool false) ∧ Below y.x.heap.size y.x w' := fun y => Calls.val2 (S_l2Tags _ _ _ (T2 y)) IF.out
            clear iF
            refine wp_region_in (by kernel_rfl) (by kernel_rfl) ?_
            repeat (go_big_quiet_step (first | (go_at_call 32; exact Calls.ins_same (L1 _)) | (go_at_call 101; with_reducible exact Calls.ins (LE _)) | (go_at_call 101; with_reducible exact Calls.ins (LF _))))
            refine wpQuiet_nil ?_
            rintro wZ ⟨⟨wE, hwE⟩, hq⟩
            obtain rfl : wE = wZ := hq.symm
            clear hq
            have hwEs := hwE.size
            (try dsimp only)
            clear j1 j3
            go_wp2
            all_goals (try go_returns)
            all_goals exact HR.out _ _ ⟨ret_bool (by unfold mapsOk; rw [each_stop E0.out (ST'.out)]; simp), hBB.trans (hwE.mono hzw)⟩
          have IF : Hid (tagsOk xs = true) := Lib.hid (by simpa using iF)
          have LF : ∀ y : In wB, Calls Tryz.prog 101 #[.slice ua2 ul2 uc2] y.x fun e w' => e = .returned (.bool true) ∧ Below y.x.heap.size y.x w' := fun y => Calls.val2 (S_l2Tags _ _ _ (T2 y)) IF.out
          clear iF
          refine wp_region_in (by kernel_rfl) (by kernel_rfl) ?_
          repeat (go_big_quiet_step (first | (go_at_call 32; exact Calls.ins_same (L1 _)) | (go_at_call 101; with_reducible exact Calls.ins (LE _)) | (go_at_call 101; with_reducible exact Calls.ins (LF _))))
          refine wpQuiet_nil ?_
          rintro wZ ⟨⟨wE, hwE⟩, hq⟩
          obtain rfl : wE = wZ := hq.symm
          clear hq
          have hwEs := hwE.size
          (try dsimp only)
          clear j1 j3
          go_wp2
          go_roundw
          case measure => simp [intOf]; omega
          case rel => exact ⟨k + 1, by omega, by go_num, EachTo.step HA.out E0.out (by have h1 := LA.out; have h2 := HL2.out; have h3 := TL1.out; have h4 := TL2.out; have h5 := IC.out; have h6 := ID.out; simp only [mapIn, IE.out, IF.out, h2, h3, h4, h5]; simp; omega), hBB.trans (hwE.mono hzw), In.cell D4.out ⟨wE, hwE⟩, In.cell D5.out ⟨wE, hwE⟩, In.cell D6.out ⟨wE, hwE⟩, In.cell D7.out ⟨wE, hwE⟩⟩
      · obtain rfl : k = len := by omega
        go_wp2
        all_goals (try go_returns)
        all_goals exact HR.out _ _ ⟨ret_bool (by unfold mapsOk; rw [each_done HA.out HL.out, HL.out]; simp; omega), by (repeat' (first | (with_reducible exact Below.refl _ _) | (with_reducible refine Below.alloc ?_ ?_ _) | (with_reducible refine Below.setCell ?_ ?_ _) | (with_reducible refine Below.drew ?_) | (refine below_hyp (by assumption) ?_ ?_) | go_size))⟩
  · have HI := Lib.hid hlen
    refine calls_hide fun R HR => ?_
    go_enter Tryz.func91, Tryz.ntmps91
    go_wp2
    all_goals (try go_returns)
    all_goals exact HR.out _ _ ⟨ret_bool (by have := HI.out; unfold mapsOk; rw [HL.out]; simp; omega), by (repeat' (first | (with_reducible exact Below.refl _ _) | (with_reducible refine Below.alloc ?_ ?_ _) | (with_reducible refine Below.setCell ?_ ?_ _) | (with_reducible refine Below.drew ?_) | (refine below_hyp (by assumption) ?_ ?_) | go_size))⟩

end Go.Proofs.YtmmlhnjmjmbfpaaGreat
