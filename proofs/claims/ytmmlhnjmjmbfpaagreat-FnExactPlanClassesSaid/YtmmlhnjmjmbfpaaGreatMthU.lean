

/-
  The walk of the reference's MthOk. Condition: the data can be read.
-/
import Derived.Test.YtmmlhnjmjmbfpaaGreatMthT
namespace Go.Proofs.YtmmlhnjmjmbfpaaGreat
set_option linter.unusedSimpArgs false
set_option linter.unusedVariables false
open Go.RowKit

set_option maxRecDepth 100000 in
set_option maxHeartbeats 8000000 in
theorem S_MthOk (m : DClsMethod) (v1 v2 v3 : Value) (w : World) (s1 : Sl 2 rKndKind 0 w v1 m.fArgs) (s2 : Sl 4 rClsIns 0 w v2 m.fCode) (s3 : Sl 3 rClsMap 0 w v3 m.fMaps) (b1 : m.fName.size ≤ maxLen) (b2 : m.fRet.fName.size ≤ maxLen) :
    Calls Tryz.prog 78 #[.agg #[.string m.fName, v1, .int .i64 m.fRet.fKind, .string m.fRet.fName, .int .i64 m.fLocals, .int .i64 m.fStack, v2, v3]] w fun e w' => e = .returned (.bool (mthOk m)) ∧ Below w.heap.size w w' := by
  obtain ⟨na2, nl2, nc2, rfl⟩ := s2.form
  obtain ⟨na3, nl3, nc3, rfl⟩ := s3.form
  obtain ⟨a, len, cap, rfl, hl, h1, h2, h3⟩ := id s1
  have m1 : len ≤ 9223372036854775807 := by unfold maxLen at h2; omega
  have HL := Lib.hid hl
  have H1 := Lib.hid h1
  clear h2 hl h1
  refine calls_hide fun R HR => ?_
  go_enter Tryz.func78, Tryz.ntmps78
  go_wp2_with fail
  refine (S_NamOk _ _ b1).mono ?_
  rintro _ _ ⟨rfl, rfl⟩
  cases hx : namOk m.fName
  · have HX := Lib.hid hx
    clear hx
    go_wp2
    all_goals (try go_returns)
    all_goals exact HR.out _ _ ⟨ret_bool (by simp [mthOk, HX.out]), by (repeat' (first | (with_reducible exact Below.refl _ _) | (with_reducible refine Below.alloc ?_ ?_ _) | (with_reducible refine Below.setCell ?_ ?_ _) | (with_reducible refine Below.drew ?_) | (refine below_hyp (by assumption) ?_ ?_) | go_size))⟩
  have HX := Lib.hid hx
  clear hx
  by_cases hlen : 3 < len
  · have HN := Lib.hid hlen
    go_wp2
    all_goals (try go_returns)
    all_goals exact HR.out _ _ ⟨ret_bool (by have h5 := HL.out; have h6 := HN.out; have h7 : ¬ m.fArgs.length ≤ 3 := (by omega); simp [mthOk, h7]), by (repeat' (first | (with_reducible exact Below.refl _ _) | (with_reducible refine Below.alloc ?_ ?_ _) | (with_reducible refine Below.setCell ?_ ?_ _) | (with_reducible refine Below.drew ?_) | (refine below_hyp (by assumption) ?_ ?_) | go_size))⟩
  go_wp2_with fail
  refine (S_KndOk _ _ _ b2).mono ?_
  rintro _ w1 ⟨rfl, g1⟩
  have g1s := (g1).size; (try simp only [World.size_alloc, World.size_setCell, World.size_drew] at g1s)
  obtain ⟨g1ac, g1ad, g1ao, g1af, g1ag, g1ap, g1az, g1ax, g1ay⟩ := bfacts (n := w.heap.size) (k := 1) g1 (by go_size) (by go_size); replace g1ad := g1ad (by decide); replace g1ag := g1ag (by decide); replace g1ax := g1ax (by decide); clear g1ac g1af g1az
  have hE1 : Below w.heap.size w w1 := by (repeat' (first | (with_reducible exact Below.refl _ _) | (with_reducible refine Below.alloc ?_ ?_ _) | (with_reducible refine Below.setCell ?_ ?_ _) | (with_reducible refine Below.drew ?_) | (refine below_hyp (by assumption) ?_ ?_) | go_size))
  cases hx : kndOk m.fRet.fKind m.fRet.fName
  · have HY := Lib.hid hx
    clear hx
    go_wp2
    all_goals (try go_returns)
    all_goals exact HR.out _ _ ⟨ret_bool (by simp [mthOk, kndOkD, HY.out]), hE1⟩
  have HY := Lib.hid hx
  clear hx
  have z0 : w1.cell? ⟨w.heap.size, 0, none⟩ = some (.string m.fName) := by go_simp
  have z1 : w1.cell? ⟨w.heap.size, 1, none⟩ = some (.slice a len cap) := by go_simp
  have z2 : w1.cell? ⟨w.heap.size, 2, none⟩ = some (.int .i64 m.fRet.fKind) := by go_simp
  have z3 : w1.cell? ⟨w.heap.size, 3, none⟩ = some (.string m.fRet.fName) := by go_simp
  have z4 : w1.cell? ⟨w.heap.size, 4, none⟩ = some (.int .i64 m.fLocals) := by go_simp
  have z5 : w1.cell? ⟨w.heap.size, 5, none⟩ = some (.int .i64 m.fStack) := by go_simp
  have z6 : w1.cell? ⟨w.heap.size, 6, none⟩ = some (.slice na2 nl2 nc2) := by go_simp
  have z7 : w1.cell? ⟨w.heap.size, 7, none⟩ = some (.slice na3 nl3 nc3) := by go_simp
  clear g1ad g1ag g1ax g1ay g1ao g1ap
  have hz1 := hE1.size
  by_cases hc1 : ¬ ((len : Int) + 1 ≤ m.fLocals ∧ m.fLocals ≤ 6)
  · have L1 : ∀ W, Calls Tryz.prog 32 #[.int .i64 m.fLocals, .int .i64 ((len : Int) + 1), .int .i64 6] W fun e w' => e = .returned (.bool false) ∧ W = w' := fun W => Calls.val (S_l1In _ _ _ W) (by rw [show (decide ((len : Int) + 1 ≤ m.fLocals) && decide (m.fLocals ≤ 6)) = false from by simp; omega])
    have HC := Lib.hid hc1
    clear hc1
    go_wp2_with fail
    refine (L1 _).mono ?_
    rintro _ _ ⟨rfl, rfl⟩
    go_wp2
    all_goals (try go_returns)
    all_goals exact HR.out _ _ ⟨ret_bool (by have h5 := HL.out; have h6 := HC.out; by_cases h8 : m.fLocals ≤ 6; (have h7 : ¬ (m.fArgs.length : Int) + 1 ≤ m.fLocals := (by rw [h5]; omega); simp [mthOk, h7]); simp [mthOk, h8]), hE1⟩
  have hc1' := Decidable.byContradiction hc1
  obtain ⟨hl1, hl2⟩ := hc1'
  clear hc1
  have L1 : ∀ W, Calls Tryz.prog 32 #[.int .i64 m.fLocals, .int .i64 ((len : Int) + 1), .int .i64 6] W fun e w' => e = .returned (.bool true) ∧ W = w' := fun W => Calls.val (S_l1In _ _ _ W) (by rw [show (decide ((len : Int) + 1 ≤ m.fLocals) && decide (m.fLocals ≤ 6)) = true from by simp; omega])
  go_wp2_with fail
  refine (L1 _).mono ?_
  rintro _ _ ⟨rfl, rfl⟩
  by_cases hc2 : ¬ (1 ≤ m.fStack ∧ m.fStack ≤ 5)
  · have L2 : ∀ W, Calls Tryz.prog 32 #[.int .i64 m.fStack, .int .i64 1, .int .i64 5] W fun e w' => e = .returned (.bool false) ∧ W = w' := fun W => Calls.val (S_l1In _ _ _ W) (by rw [show (decide ((1 : Int) ≤ m.fStack) && decide (m.fStack ≤ 5)) = false from by simp; omega])
    have HC := Lib.hid hc2
    clear hc2
    go_wp2_with fail
    refine (L2 _).mono ?_
    rintro _ _ ⟨rfl, rfl⟩
    go_wp2
    all_goals (try go_returns)
    all_goals exact HR.out _ _ ⟨ret_bool (by have h6 := HC.out; by_cases h8 : m.fStack ≤ 5; (have h7 : ¬ 1 ≤ m.fStack := (by omega); simp [mthOk, h7]); simp [mthOk, h8]), hE1⟩
  have hc2' := Decidable.byContradiction hc2
  obtain ⟨hs1, hs2⟩ := hc2'
  clear hc2
  have L2 : ∀ W, Calls Tryz.prog 32 #[.int .i64 m.fStack, .int .i64 1, .int .i64 5] W fun e w' => e = .returned (.bool true) ∧ W = w' := fun W => Calls.val (S_l1In _ _ _ W) (by rw [show (decide ((1 : Int) ≤ m.fStack) && decide (m.fStack ≤ 5)) = true from by simp; omega])
  go_wp2_with fail
  refine (L2 _).mono ?_
  rintro _ _ ⟨rfl, rfl⟩
  go_wp2_with fail
  refine (S_l2Code m _ _ _ _ (s1.stays rKndKind_good (Keeps.of_below hE1)) (s2.stays rClsIns_good (Keeps.of_below hE1)) (s3.stays rClsMap_good (Keeps.of_below hE1))).mono ?_
  rintro _ wC ⟨rfl, hC⟩
  have hWC : Below w.heap.size w wC := hE1.trans (hC.mono hE1.size)
  replace z0 := keep_cell hC z0
  replace z1 := keep_cell hC z1
  replace z2 := keep_cell hC z2
  replace z3 := keep_cell hC z3
  replace z4 := keep_cell hC z4
  replace z5 := keep_cell hC z5
  replace z6 := keep_cell hC z6
  replace z7 := keep_cell hC z7
  cases hx : codeOk m
  · have HW := Lib.hid hx
    clear hx
    go_wp2
    all_goals (try go_returns)
    all_goals exact HR.out _ _ ⟨ret_bool (by simp [mthOk, HW.out]), hWC⟩
  have HW := Lib.hid hx
  clear hx
  go_wp2_with fail
  refine (S_l2Maps m _ _ _ _ (s1.stays rKndKind_good (Keeps.of_below hWC)) (s2.stays rClsIns_good (Keeps.of_below hWC)) (s3.stays rClsMap_good (Keeps.of_below hWC))).mono ?_
  rintro _ wD ⟨rfl, hD⟩
  have hWD : Below w.heap.size w wD := hWC.trans (hD.mono hWC.size)
  have hzD := hWD.size
  replace z1 := keep_cell hD z1
  clear z0 z2 z3 z4 z5 z6 z7
  cases hx : mapsOk m
  · have HV := Lib.hid hx
    clear hx
    go_wp2
    all_goals (try go_returns)
    all_goals exact HR.out _ _ ⟨ret_bool (by simp [mthOk, HV.out]), hWD⟩
  have HV := Lib.hid hx
  clear hx
  go_wp2_with fail
  go_loopw [3] (fun i wr => ∃ k : Nat, k ≤ len ∧ i = .int .i64 k ∧ EachTo (fun _ t => kndOkD t) m.fArgs k = true ∧ Below w.heap.size w wr ∧ wr.cell? ⟨w.heap.size, 1, none⟩ = some (.slice a len cap)) (fun i _ => len - (intOf i).toNat)
  case atStart => exact ⟨0, Nat.zero_le _, rfl, rfl, hWD, z1⟩
  clear z1
  case round =>
    obtain ⟨k, hk, rfl, ha, hb, z1⟩ := hrel
    have HA := Lib.hid ha
    clear ha
    have hbx := hb.size
    by_cases hlt : k < len
    · obtain ⟨b, off, rfl, hlo, hbl, hr⟩ := h3.stays rKndKind_good (Keeps.of_below hb) (by omega)
      obtain ⟨x, cs, e0, e1, e2, e3⟩ := hr k hlt
      obtain ⟨rfl, bx⟩ := e3
      have q1 : wr.cell? ⟨b, off + k * 2, none⟩ = some (.int .i64 x.fKind) := e2 0 _ rfl
      have q2 : wr.cell? ⟨b, off + k * 2 + 1, none⟩ = some (.string x.fName) := e2 1 _ rfl
      have E0 := Lib.hid e0
      clear e0 e1 e2 hr
      go_wp2_with fail
      refine (S_KndOk x.fKind x.fName _ bx).mono ?_
      rintro _ wA ⟨rfl, hA⟩
      have hWA : Below w.heap.size w wA := by (repeat' (first | (with_reducible exact Below.refl _ _) | (with_reducible refine Below.alloc ?_ ?_ _) | (with_reducible refine Below.setCell ?_ ?_ _) | (with_reducible refine Below.drew ?_) | (refine below_hyp (by assumption) ?_ ?_) | go_size))
      have y1 := keep_cell hA z1
      clear q1 q2 z1
      cases hx : kndOk x.fKind x.fName
      · have HZ := Lib.hid hx
        clear hx
        go_wp2
        all_goals (try go_returns)
        all_goals exact HR.out _ _ ⟨ret_bool (by have h5 : kndsOk m.fArgs = false := each_stop E0.out HZ.out; simp [mthOk, h5]), hWA⟩
      · have HZ := Lib.hid hx
        clear hx
        go_wp2
        go_roundw
        case measure => simp [intOf]; omega
        case rel => exact ⟨k + 1, by omega, by go_num, EachTo.step HA.out E0.out HZ.out, hWA, y1⟩
    · obtain rfl : k = len := by omega
      have AK : Hid (kndsOk m.fArgs = true) := Lib.hid (each_done HA.out HL.out)
      go_wp2
      all_goals (try go_returns)
      all_goals exact HR.out _ _ ⟨ret_bool (by
        have h5 := HL.out
        simp only [mthOk, HX.out, HY.out, AK.out, HW.out, HV.out, kndOkD, h5]
        have i1 : k ≤ 3 := by omega
        simp [i1, hl1, hl2, hs1, hs2]), hb⟩

end Go.Proofs.YtmmlhnjmjmbfpaaGreat
