/-
  Texts of mine, packed: LodS, ClsS, MthS, MthT, MthU, ClsT, LodT. No condition beside those of the single theorems.
-/
import Derived.Test.YtfbonocadpknbaaGreatDoorC1
import Derived.Test.YtfbonocadpknbaaGreatDoorC2
import Derived.Deep.LoopGhost
import Derived.Test.YtfbonocadpknbaaGreatDoorC3
import Derived.Deep.RegionHeld3
import Derived.Deep.QuietTactic
import Derived.BigQuiet
set_option linter.unusedSimpArgs false
set_option linter.unusedVariables false
set_option maxHeartbeats 16000000
set_option maxRecDepth 100000
namespace Go.Proofs.YtfbonocadpknbaaGreatDoor
open Go.RowKit
theorem asksOf_hit {xs : List DLodAsk} {n : ByteArray} {k : Nat} {x : DLodAsk} (h : EachTo (nots fun c => sameN c.fName n) xs k = true) (e : xs[k]? = some x) (hx : sameN x.fName n = true) : asksOf xs n = x.fKeeper := by
 have h1 : askAt xs n = k := firstAt_hit' h e hx
 obtain ⟨a, _, _, h3, h4⟩ := asksOf_some (xs := xs) (n := n) (by omega)
 rw [h1] at h4
 simp at h4
 rw [e] at h4
 cases h4
 exact h3
theorem asksOf_miss {xs : List DLodAsk} {n : ByteArray} {k : Nat} (h : EachTo (nots fun c => sameN c.fName n) xs k = true) (hk : xs.length = k) : asksOf xs n = -1 :=
 asksOf_none (by have : askAt xs n = -1 := firstAt_none' h hk; omega)

theorem S_l3Own (x : DLodKeeper) (v1 v2 : Value) (nm : ByteArray) (w : World) (s1 : Sl 4 rClsClass 0 w v1 x.fOwns) (s2 : Sl 2 rLodAsk 0 w v2 x.fAsks) :
  Calls Tryz.prog 47 #[.agg #[v1, v2], .string nm] w fun e w' => e = .returned (.int .i64 (ownAt x.fOwns nm)) ∧ Below w.heap.size w w' := by
 obtain ⟨na2, nl2, nc2, rfl⟩ := s2.form
 obtain ⟨a, len, cap, rfl, hl, h1, h2, h3⟩ := id s1
 have m1 : len ≤ 9223372036854775807 := by unfold maxLen at h2; omega
 have HL := qhd hl
 have H1 := qhd h1
 clear h2 hl h1
 refine qab fun R HR => ?_
 go_enter Tryz.func47, Tryz.ntmps47
 go_wp2_with fail
 go_loopw [5] (fun i wr => ∃ k : Nat, k ≤ len ∧ i = .int .i64 k ∧ EachTo (nots fun c => sameN c.fName nm) x.fOwns k = true ∧ Below w.heap.size w wr ∧ wr.cell? ⟨w.heap.size, 0, none⟩ = some (.slice a len cap)) (fun i _ => len - (intOf i).toNat)
 case atStart => exact ⟨0, Nat.zero_le _, rfl, rfl, bbel, by go_simp⟩
 case round =>
  obtain ⟨k, hk, rfl, ha, hb, c0⟩ := hrel
  have HA := qhd ha
  clear ha
  by_cases hlt : k < len
  ·obtain ⟨b, off, rfl, hlo, hbl, hr⟩ := h3.stays rClsClass_good (Keeps.of_below hb) (by omega)
   obtain ⟨y, cs, e0, e1, e2, e3⟩ := hr k hlt
   obtain ⟨z1, z2, rfl, t1, t2, by1, by2⟩ := e3
   have q1 : wr.cell? ⟨b, off + k * 4, none⟩ = some (.string y.fName) := e2 0 _ rfl
   have E0 := qhd e0
   clear e0 e1 e2 hr
   cases hx : sameN y.fName nm
   ·have HX := qhd hx
    have hx2 : (y.fName.toList == nm.toList) = false := hx
    clear hx
    go_wp2
    go_roundw
    case measure => simp [intOf]; omega
    case rel => exact ⟨k + 1, by omega, by go_num, EachTo.step HA.out E0.out (by simp [nots, HX.out]), hb, c0⟩
   ·have HX := qhd hx
    have hx2 : (y.fName.toList == nm.toList) = true := hx
    clear hx
    go_wp2
    all_goals (try go_returns)
    all_goals exact HR.out _ _ ⟨ret_int (firstAt_hit' HA.out E0.out HX.out).symm, hb⟩
  ·obtain rfl : k = len := by omega
   go_wp2
   all_goals (try go_returns)
   all_goals exact HR.out _ _ ⟨ret_int (firstAt_none' HA.out HL.out).symm, hb⟩

theorem S_l3Asks (x : DLodKeeper) (v1 v2 : Value) (nm : ByteArray) (w : World) (s1 : Sl 4 rClsClass 0 w v1 x.fOwns) (s2 : Sl 2 rLodAsk 0 w v2 x.fAsks) :
  Calls Tryz.prog 48 #[.agg #[v1, v2], .string nm] w fun e w' => e = .returned (.int .i64 (asksOf x.fAsks nm)) ∧ Below w.heap.size w w' := by
 obtain ⟨na2, nl2, nc2, rfl⟩ := s1.form
 obtain ⟨a, len, cap, rfl, hl, h1, h2, h3⟩ := id s2
 have m1 : len ≤ 9223372036854775807 := by unfold maxLen at h2; omega
 have HL := qhd hl
 have H1 := qhd h1
 clear h2 hl h1
 refine qab fun R HR => ?_
 go_enter Tryz.func48, Tryz.ntmps48
 go_wp2_with fail
 go_loopw [5] (fun i wr => ∃ k : Nat, k ≤ len ∧ i = .int .i64 k ∧ EachTo (nots fun c => sameN c.fName nm) x.fAsks k = true ∧ Below w.heap.size w wr ∧ wr.cell? ⟨w.heap.size, 1, none⟩ = some (.slice a len cap)) (fun i _ => len - (intOf i).toNat)
 case atStart => exact ⟨0, Nat.zero_le _, rfl, rfl, bbel, by go_simp⟩
 case round =>
  obtain ⟨k, hk, rfl, ha, hb, c0⟩ := hrel
  have HA := qhd ha
  clear ha
  by_cases hlt : k < len
  ·obtain ⟨b, off, rfl, hlo, hbl, hr⟩ := h3.stays rLodAsk_good (Keeps.of_below hb) (by omega)
   obtain ⟨y, cs, e0, e1, e2, e3⟩ := hr k hlt
   obtain ⟨rfl, by1⟩ := e3
   have q1 : wr.cell? ⟨b, off + k * 2, none⟩ = some (.string y.fName) := e2 0 _ rfl
   have q2 : wr.cell? ⟨b, off + k * 2 + 1, none⟩ = some (.int .i64 y.fKeeper) := e2 1 _ rfl
   have E0 := qhd e0
   clear e0 e1 e2 hr
   cases hx : sameN y.fName nm
   ·have HX := qhd hx
    have hx2 : (y.fName.toList == nm.toList) = false := hx
    clear hx
    go_wp2
    go_roundw
    case measure => simp [intOf]; omega
    case rel => exact ⟨k + 1, by omega, by go_num, EachTo.step HA.out E0.out (by simp [nots, HX.out]), hb, c0⟩
   ·have HX := qhd hx
    have hx2 : (y.fName.toList == nm.toList) = true := hx
    clear hx
    go_wp2
    all_goals (try go_returns)
    all_goals exact HR.out _ _ ⟨ret_int (asksOf_hit HA.out E0.out HX.out).symm, hb⟩
  ·obtain rfl : k = len := by omega
   go_wp2
   all_goals (try go_returns)
   all_goals exact HR.out _ _ ⟨ret_int (asksOf_miss HA.out HL.out).symm, hb⟩

theorem S_l2Field (xs : List DClsField) (v : Value) (nm : ByteArray) (w : World) (hv : Sl 3 rClsField 0 w v xs) :
  Calls Tryz.prog 37 #[v, .string nm] w fun e w' => e = .returned (.int .i64 (fieldAt xs nm)) ∧ w = w' := by
 obtain ⟨a, len, cap, rfl, hl, h1, h2, h3⟩ := id hv
 have m1 : len ≤ 9223372036854775807 := by unfold maxLen at h2; omega
 have HL := qhd hl
 have H1 := qhd h1
 clear h2 hl h1
 refine qab fun R HR => ?_
 go_enter Tryz.func37, Tryz.ntmps37
 go_wp2_with fail
 go_loop [5] (fun i => ∃ k : Nat, k ≤ len ∧ i = .int .i64 k ∧ EachTo (nots fun f => sameN f.fName nm) xs k = true) (fun i => len - (intOf i).toNat)
 case atStart => exact ⟨0, Nat.zero_le _, rfl, rfl⟩
 case round =>
  obtain ⟨k, hk, rfl, ha⟩ := hrel
  have HA := qhd ha
  clear ha
  by_cases hlt : k < len
  ·obtain ⟨b, off, rfl, hlo, hbl, hr⟩ := h3 (by omega)
   obtain ⟨x, cs, e0, e1, e2, e3⟩ := hr k hlt
   obtain ⟨rfl, b1, b2⟩ := e3
   have q1 : w.cell? ⟨b, off + k * 3, none⟩ = some (.string x.fName) := e2 0 _ rfl
   have E0 := qhd e0
   clear e0 e1 e2 hr
   cases hx : sameN x.fName nm
   ·have HX := qhd hx
    have hx2 : (x.fName.toList == nm.toList) = false := hx
    clear hx
    go_wp2
    go_round
    case rel => exact ⟨k + 1, by omega, by go_num, EachTo.step HA.out E0.out (by simp [nots, HX.out])⟩
    case measure => simp [intOf]; omega
   ·have HX := qhd hx
    have hx2 : (x.fName.toList == nm.toList) = true := hx
    clear hx
    go_wp2
    all_goals (try go_returns)
    all_goals exact HR.out _ _ ⟨ret_int (firstAt_hit' HA.out E0.out HX.out).symm, rfl⟩
  ·obtain rfl : k = len := by omega
   go_wp2
   all_goals (try go_returns)
   all_goals exact HR.out _ _ ⟨ret_int (firstAt_none' HA.out HL.out).symm, rfl⟩

theorem S_l2Method (xs : List DClsMethod) (v : Value) (nm : ByteArray) (w : World) (hv : Sl 8 rClsMethod 0 w v xs) :
  Calls Tryz.prog 39 #[v, .string nm] w fun e w' => e = .returned (.int .i64 (methodAt xs nm)) ∧ w = w' := by
 obtain ⟨a, len, cap, rfl, hl, h1, h2, h3⟩ := id hv
 have m1 : len ≤ 9223372036854775807 := by unfold maxLen at h2; omega
 have HL := qhd hl
 have H1 := qhd h1
 clear h2 hl h1
 refine qab fun R HR => ?_
 go_enter Tryz.func39, Tryz.ntmps39
 go_wp2_with fail
 go_loop [5] (fun i => ∃ k : Nat, k ≤ len ∧ i = .int .i64 k ∧ EachTo (nots fun f => sameN f.fName nm) xs k = true) (fun i => len - (intOf i).toNat)
 case atStart => exact ⟨0, Nat.zero_le _, rfl, rfl⟩
 case round =>
  obtain ⟨k, hk, rfl, ha⟩ := hrel
  have HA := qhd ha
  clear ha
  by_cases hlt : k < len
  ·obtain ⟨b, off, rfl, hlo, hbl, hr⟩ := h3 (by omega)
   obtain ⟨x, cs, e0, e1, e2, e3⟩ := hr k hlt
   obtain ⟨v1, v2, v3, rfl, s1, s2, s3, b1, b2⟩ := e3
   obtain ⟨na1, nl1, nc1, rfl⟩ := s1.form
   obtain ⟨na2, nl2, nc2, rfl⟩ := s2.form
   obtain ⟨na3, nl3, nc3, rfl⟩ := s3.form
   have q1 : w.cell? ⟨b, off + k * 8, none⟩ = some (.string x.fName) := e2 0 _ rfl
   have E0 := qhd e0
   clear e0 e1 e2 hr
   cases hx : sameN x.fName nm
   ·have HX := qhd hx
    have hx2 : (x.fName.toList == nm.toList) = false := hx
    clear hx
    go_wp2
    go_round
    case rel => exact ⟨k + 1, by omega, by go_num, EachTo.step HA.out E0.out (by simp [nots, HX.out])⟩
    case measure => simp [intOf]; omega
   ·have HX := qhd hx
    have hx2 : (x.fName.toList == nm.toList) = true := hx
    clear hx
    go_wp2
    all_goals (try go_returns)
    all_goals exact HR.out _ _ ⟨ret_int (firstAt_hit' HA.out E0.out HX.out).symm, rfl⟩
  ·obtain rfl : k = len := by omega
   go_wp2
   all_goals (try go_returns)
   all_goals exact HR.out _ _ ⟨ret_int (firstAt_none' HA.out HL.out).symm, rfl⟩

theorem S_l2Tags (xs : List DTagTag) (v : Value) (w : World) (hv : Sl 2 rTagTag 0 w v xs) :
  Calls Tryz.prog 79 #[v] w fun e w' => e = .returned (.bool (tagsOk xs)) ∧ Below w.heap.size w w' := by
 obtain ⟨a, len, cap, rfl, hl, h1, h2, h3⟩ := id hv
 have m1 : len ≤ 9223372036854775807 := by unfold maxLen at h2; omega
 have HL := qhd hl
 have H1 := qhd h1
 clear h2 hl h1
 refine qab fun R HR => ?_
 go_enter Tryz.func79, Tryz.ntmps79
 go_wp2_with fail
 go_loopw [3] (fun i wr => ∃ k : Nat, k ≤ len ∧ i = .int .i64 k ∧ EachTo (fun _ t => tagOkD t) xs k = true ∧ Below w.heap.size w wr) (fun i _ => len - (intOf i).toNat)
 case atStart => exact ⟨0, Nat.zero_le _, rfl, rfl, bbel⟩
 case round =>
  obtain ⟨k, hk, rfl, ha, hb⟩ := hrel
  have HA := qhd ha
  clear ha
  have hbx := hb.size
  by_cases hlt : k < len
  ·obtain ⟨b, off, rfl, hlo, hbl, hr⟩ := h3.stays qaq (Keeps.of_below hb) (by omega)
   obtain ⟨x, cs, e0, e1, e2, e3⟩ := hr k hlt
   obtain ⟨rfl, b1⟩ := e3
   have q1 : wr.cell? ⟨b, off + k * 2, none⟩ = some (.int .i64 x.fKind) := e2 0 _ rfl
   have q2 : wr.cell? ⟨b, off + k * 2 + 1, none⟩ = some (.string x.fName) := e2 1 _ rfl
   have E0 := qhd e0
   clear e0 e1 e2 hr
   go_wp2_with fail
   refine (S_TagOk x.fKind x.fName _ b1).mono ?_
   rintro _ wA ⟨rfl, hA⟩
   have hz := hA.size
   clear q1 q2
   cases hx : tagOk x.fKind x.fName
   ·have HX := qhd hx
    clear hx
    go_wp2
    all_goals (try go_returns)
    all_goals exact HR.out _ _ ⟨qah (qal E0.out HX.out).symm, bbel⟩
   ·have HX := qhd hx
    clear hx
    go_wp2
    go_roundw
    case measure => simp [intOf]; omega
    case rel => exact ⟨k + 1, by omega, by go_num, EachTo.step HA.out E0.out HX.out, bbel⟩
  ·obtain rfl : k = len := by omega
   go_wp2
   all_goals (try go_returns)
   all_goals exact HR.out _ _ ⟨qah (qav HA.out HL.out).symm, bbel⟩

theorem S_l2Code (m : DClsMethod) (v1 v2 v3 : Value) (w : World) (s1 : Sl 2 rKndKind 0 w v1 m.fArgs) (s2 : Sl 4 rClsIns 0 w v2 m.fCode) (s3 : Sl 3 rClsMap 0 w v3 m.fMaps) :
  Calls Tryz.prog 63 #[.agg #[.string m.fName, v1, .int .i64 m.fRet.fKind, .string m.fRet.fName, .int .i64 m.fLocals, .int .i64 m.fStack, v2, v3]] w fun e w' => e = .returned (.bool (codeOk m)) ∧ Below w.heap.size w w' := by
 obtain ⟨na1, nl1, nc1, rfl⟩ := s1.form
 obtain ⟨na3, nl3, nc3, rfl⟩ := s3.form
 obtain ⟨a, len, cap, rfl, hl, h1, h2, h3⟩ := id s2
 have m1 : len ≤ 9223372036854775807 := by unfold maxLen at h2; omega
 have HL := qhd hl
 have H1 := qhd h1
 clear h2 hl h1
 by_cases hlen : 1 ≤ len ∧ len ≤ 16
 ·obtain ⟨g1, g2⟩ := hlen
  have i1 : (decide ((1 : Int) ≤ (len : Int)) && decide ((len : Int) ≤ 16)) = true := by simp; omega
  refine qab fun R HR => ?_
  go_enter Tryz.func63, Tryz.ntmps63
  go_wp2_with fail
  refine (S_l1In _ _ _ _).mono ?_
  rintro _ _ ⟨rfl, rfl⟩
  rw [i1]
  clear i1
  go_wp2_with fail
  go_loopw [3] (fun i wr => ∃ k : Nat, k ≤ len ∧ i = .int .i64 k ∧ EachTo (fun _ i => insIn m.fLocals m.fCode.length i) m.fCode k = true ∧ Below w.heap.size w wr ∧ wr.cell? ⟨w.heap.size, 4, none⟩ = some (.int .i64 m.fLocals) ∧ wr.cell? ⟨w.heap.size, 6, none⟩ = some (.slice a len cap)) (fun i _ => len - (intOf i).toNat)
  case atStart => exact ⟨0, Nat.zero_le _, rfl, rfl, bbel, by go_simp, by go_simp⟩
  case round =>
   obtain ⟨k, hk, rfl, ha, hb, c4, c6⟩ := hrel
   have HA := qhd ha
   clear ha
   have hbx := hb.size
   have hbw := block_lt_of_cell c4
   by_cases hlt : k < len
   ·obtain ⟨b, off, rfl, hlo, hbl, hr⟩ := h3.stays qau (Keeps.of_below hb) (by omega)
    obtain ⟨⟨op, ar, nm, mem⟩, cs, e0, e1, e2, e3⟩ := hr k hlt
    obtain ⟨rfl, b1, b2⟩ := e3
    have q1 : wr.cell? ⟨b, off + k * 4, none⟩ = some (.int .i64 op) := e2 0 _ rfl
    have q2 : wr.cell? ⟨b, off + k * 4 + 1, none⟩ = some (.int .i64 ar) := e2 1 _ rfl
    have q3 : wr.cell? ⟨b, off + k * 4 + 2, none⟩ = some (.string nm) := e2 2 _ rfl
    have q4 : wr.cell? ⟨b, off + k * 4 + 3, none⟩ = some (.string mem) := e2 3 _ rfl
    have E0 := qhd e0
    clear e0 e1 e2 hr
    go_wp2_with fail
    refine (S_InsOk op ar nm mem _ b1 b2).mono ?_
    rintro _ wA ⟨rfl, hA⟩
    have hz := hA.size
    have hz' : wr.heap.size < wA.heap.size := by simp at hz; omega
    have r4 : wA.cell? ⟨w.heap.size, 4, none⟩ = some (.int .i64 m.fLocals) := (hA.cell (by simp; omega)).trans (by go_simp)
    have r6 : wA.cell? ⟨w.heap.size, 6, none⟩ = some (.slice (some ⟨b, off, none⟩) len cap) := (hA.cell (by simp; omega)).trans (by go_simp)
    have p1 : wA.cell? ⟨wr.heap.size, 0, none⟩ = some (.int .i64 op) := (hA.cell (by simp)).trans (by go_simp)
    have p2 : wA.cell? ⟨wr.heap.size, 1, none⟩ = some (.int .i64 ar) := (hA.cell (by simp)).trans (by go_simp)
    clear q1 q2 q3 q4 c4 c6
    cases hx : insOk op ar nm mem
    ·have HX := qhd hx
     clear hx
     go_wp2
     all_goals (try go_returns)
     all_goals exact HR.out _ _ ⟨qah (by unfold codeOk; rw [qal E0.out (by simp [insIn, insOkD, HX.out])]; simp), bbel⟩
    ·have HX := qhd hx
     clear hx
     by_cases o1 : op = 2 ∨ op = 3 ∨ op = 11 ∨ op = 12 ∨ op = 13
     ·rcases o1 with rfl | rfl | rfl | rfl | rfl
      all_goals
       go_wp2
       all_goals first
        | (try go_returns
           exact HR.out _ _ ⟨qah (by unfold codeOk; rw [qal E0.out (by have h5 := HL.out; simp [insIn]; intros; omega)]; simp), bbel⟩)
        | (go_roundw
           case measure => simp [intOf]; omega
           case rel => exact ⟨k + 1, by omega, by go_num, EachTo.step HA.out E0.out (by have h5 := HL.out; simp [insIn, insOkD, HX.out]; omega), bbel, r4, r6⟩)
     ·have o2 : (op == 2) = false := by simp; omega
      have o3 : (op == 3) = false := by simp; omega
      have o11 : (op == 11) = false := by simp; omega
      have o12 : (op == 12) = false := by simp; omega
      have o13 : (op == 13) = false := by simp; omega
      clear o1
      go_wp2
      go_roundw
      case measure => simp [intOf]; omega
      case rel => exact ⟨k + 1, by omega, by go_num, EachTo.step HA.out E0.out (by simp [insIn, insOkD, HX.out, o2, o3, o11, o12, o13]), bbel, r4, r6⟩
   ·obtain rfl : k = len := by omega
    go_wp2
    all_goals (try go_returns)
    all_goals exact HR.out _ _ ⟨qah (by unfold codeOk; rw [qav HA.out HL.out, HL.out]; simp; omega), bbel⟩
 ·have i1 : (decide ((1 : Int) ≤ (len : Int)) && decide ((len : Int) ≤ 16)) = false := by
   simp; omega
  have HI := qhd hlen
  clear hlen
  refine qab fun R HR => ?_
  go_enter Tryz.func63, Tryz.ntmps63
  go_wp2_with fail
  refine (S_l1In _ _ _ _).mono ?_
  rintro _ _ ⟨rfl, rfl⟩
  rw [i1]
  go_wp2
  all_goals (try go_returns)
  all_goals exact HR.out _ _ ⟨qah (by have := HI.out; unfold codeOk; rw [HL.out]; simp; omega), bbel⟩

theorem lastAt_pos {m : DClsMethod} {k : Nat} (h : EachTo (mapIn m) m.fMaps k = true) : 0 ≤ lastAt m.fMaps k := by
 induction k with
 | zero => exact Int.le_refl _
 | succ k ih =>
   have h' : EachTo (mapIn m) m.fMaps k = true := by simp only [EachTo, Bool.and_eq_true] at h; exact h.1
   have ih := ih h'
   cases e : m.fMaps[k]? with
   | none => simp [lastAt, e]
   | some x =>
     have := EachTo.mem h k x (by omega) e
     simp [mapIn] at this
     simp only [lastAt, e]
     omega

theorem S_l2Maps (m : DClsMethod) (v1 v2 v3 : Value) (w : World) (s1 : Sl 2 rKndKind 0 w v1 m.fArgs) (s2 : Sl 4 rClsIns 0 w v2 m.fCode) (s3 : Sl 3 rClsMap 0 w v3 m.fMaps) :
  Calls Tryz.prog 64 #[.agg #[.string m.fName, v1, .int .i64 m.fRet.fKind, .string m.fRet.fName, .int .i64 m.fLocals, .int .i64 m.fStack, v2, v3]] w fun e w' => e = .returned (.bool (mapsOk m)) ∧ Below w.heap.size w w' := by
 obtain ⟨na1, nl1, nc1, rfl⟩ := s1.form
 obtain ⟨na2, nl2, nc2, rfl⟩ := s2.form
 obtain ⟨hl2, _, hm2⟩ := s2.len
 have m2 : nl2 ≤ 9223372036854775807 := by unfold maxLen at hm2; omega
 obtain ⟨a, len, cap, rfl, hl, h1, h2, h3⟩ := id s3
 have m1 : len ≤ 9223372036854775807 := by unfold maxLen at h2; omega
 have HL := qhd hl
 have HL2 := qhd hl2
 have H1 := qhd h1
 clear h2 hl h1 hl2 hm2
 by_cases hlen : len ≤ 5
 ·refine qab fun R HR => ?_
  go_enter Tryz.func64, Tryz.ntmps64
  go_wp2_with fail
  go_loopw [3] (fun i wr => ∃ k : Nat, k ≤ len ∧ i = .int .i64 k ∧ EachTo (mapIn m) m.fMaps k = true ∧ Below w.heap.size w wr ∧ wr.cell? ⟨w.heap.size, 4, none⟩ = some (.int .i64 m.fLocals) ∧ wr.cell? ⟨w.heap.size, 5, none⟩ = some (.int .i64 m.fStack) ∧ wr.cell? ⟨w.heap.size, 6, none⟩ = some (.slice na2 nl2 nc2) ∧ wr.cell? ⟨w.heap.size, 7, none⟩ = some (.slice a len cap)) (fun i _ => len - (intOf i).toNat)
  case atStart => exact ⟨0, Nat.zero_le _, rfl, rfl, bbel, by go_simp, by go_simp, by go_simp, by go_simp⟩
  case round =>
   obtain ⟨k, hk, rfl, ha, hb, c4, c5, c6, c7⟩ := hrel
   have HA := qhd ha
   clear ha
   have hbx := hb.size
   have hbw := block_lt_of_cell c4
   by_cases hlt : k < len
   ·obtain ⟨b, off, rfl, hlo, hbl, hr⟩ := h3.stays qas (Keeps.of_below hb) (by omega)
    obtain ⟨⟨xat, xl, xs⟩, cs, e0, e1, e2, e3⟩ := hr k hlt
    obtain ⟨u1, u2, rfl, t1, t2⟩ := e3
    obtain ⟨ua1, ul1, uc1, rfl⟩ := t1.form
    obtain ⟨ua2, ul2, uc2, rfl⟩ := t2.form
    have q1 : wr.cell? ⟨b, off + k * 3, none⟩ = some (.int .i64 xat) := e2 0 _ rfl
    have q2 : wr.cell? ⟨b, off + k * 3 + 1, none⟩ = some (.slice ua1 ul1 uc1) := e2 1 _ rfl
    have q3 : wr.cell? ⟨b, off + k * 3 + 2, none⟩ = some (.slice ua2 ul2 uc2) := e2 2 _ rfl
    have E0 := qhd e0
    clear e0 e1 e2
    go_wp2_with fail
    obtain ⟨wB, hwB⟩ : ∃ wB, wB = wr.alloc (.cells #[.int .i64 xat, .slice ua1 ul1 uc1, .slice ua2 ul2 uc2] 98) := ⟨_, rfl⟩
    rw [← hwB]
    have hBB : Below w.heap.size w wB := by rw [hwB]; exact bbel
    have hBR : Below wr.heap.size wr wB := by rw [hwB]; exact bbel
    have hzB : wr.heap.size < wB.heap.size := by rw [hwB]; simp
    have hzw : w.heap.size ≤ wB.heap.size := by omega
    have d4 : wB.cell? ⟨w.heap.size, 4, none⟩ = some (.int .i64 m.fLocals) := by rw [hwB]; go_simp
    have d5 : wB.cell? ⟨w.heap.size, 5, none⟩ = some (.int .i64 m.fStack) := by rw [hwB]; go_simp
    have d6 : wB.cell? ⟨w.heap.size, 6, none⟩ = some (.slice na2 nl2 nc2) := by rw [hwB]; go_simp
    have d7 : wB.cell? ⟨w.heap.size, 7, none⟩ = some (.slice (some ⟨b, off, none⟩) len cap) := by rw [hwB]; go_simp
    have x1 := In.cell (show wB.cell? ⟨wr.heap.size, 0, none⟩ = some (.int .i64 xat) by rw [hwB]; go_simp)
    have x2 := In.cell (show wB.cell? ⟨wr.heap.size, 1, none⟩ = some (.slice ua1 ul1 uc1) by rw [hwB]; go_simp)
    have x3 := In.cell (show wB.cell? ⟨wr.heap.size, 2, none⟩ = some (.slice ua2 ul2 uc2) by rw [hwB]; go_simp)
    have D4 := qhd d4
    have D5 := qhd d5
    have D6 := qhd d6
    have D7 := qhd d7
    have y4 := In.cell d4
    have y5 := In.cell d5
    have y6 := In.cell d6
    have y7 := In.cell d7
    have T1 : ∀ y : In wB, Sl 2 rTagTag 0 y.x (.slice ua1 ul1 uc1) xl := fun y => t1.stays qaq ((Keeps.of_below hBR).trans (Keeps.of_below y.h))
    have T2 : ∀ y : In wB, Sl 2 rTagTag 0 y.x (.slice ua2 ul2 uc2) xs := fun y => t2.stays qaq ((Keeps.of_below hBR).trans (Keeps.of_below y.h))
    obtain ⟨tl1, _, tm1⟩ := t1.len
    obtain ⟨tl2, _, tm2⟩ := t2.len
    have TL1 := qhd tl1
    have TL2 := qhd tl2
    have tm1' : ul1 ≤ 9223372036854775807 := by unfold maxLen at tm1; omega
    have tm2' : ul2 ≤ 9223372036854775807 := by unfold maxLen at tm2; omega
    clear q1 q2 q3 c4 c5 c6 c7 hwB tl1 tl2 tm1 tm2 d4 d5 d6 d7
    have KZ : k = 0 ∨ 1 ≤ k := by omega
    by_cases iA : ¬ (1 ≤ xat ∧ xat ≤ (nl2 : Int) - 1)
    ·have L1 : ∀ W, Calls Tryz.prog 23 #[.int .i64 xat, .int .i64 1, .int .i64 ((nl2 : Int) - 1)] W fun e w' => e = .returned (.bool false) ∧ W = w' := fun W => Calls.val (S_l1In _ _ _ W) (by rw [show (decide ((1 : Int) ≤ xat) && decide (xat ≤ (nl2 : Int) - 1)) = false from by simp; omega])
     have ST : mapIn m k ⟨xat, xl, xs⟩ = false := by
      have hc := HL2.out
      unfold mapIn
      by_cases h9 : xat < (m.fCode.length : Int)
      ·have h8 : ¬ lastAt m.fMaps k < xat := by
        have : 0 ≤ lastAt m.fMaps k := lastAt_pos HA.out
        omega
       simp [h8]
      ·simp [h9]
     have ST' := qhd ST
     clear iA hr KZ ST
     refine qaj (by kernel_rfl) (by kernel_rfl) ?_
     repeat (go_big_quiet_step (first | (go_at_call 23; exact Calls.ins_same (L1 _))))
     refine wpQuiet_nil ?_
     rintro wZ ⟨⟨wE, hwE⟩, hq⟩
     obtain rfl : wE = wZ := hq.symm
     clear hq
     have hwEs := hwE.size
     (try dsimp only)
     go_wp2
     all_goals (try go_returns)
     all_goals exact HR.out _ _ ⟨qah (by unfold mapsOk; rw [qal E0.out (ST'.out)]; simp), hBB.trans (hwE.mono hzw)⟩
    have iA' : 1 ≤ xat ∧ xat ≤ (nl2 : Int) - 1 := Decidable.byContradiction iA
    obtain ⟨iA1, iA2⟩ := iA'
    clear iA
    have L1 : ∀ W, Calls Tryz.prog 23 #[.int .i64 xat, .int .i64 1, .int .i64 ((nl2 : Int) - 1)] W fun e w' => e = .returned (.bool true) ∧ W = w' := fun W => Calls.val (S_l1In _ _ _ W) (by rw [show (decide ((1 : Int) ≤ xat) && decide (xat ≤ (nl2 : Int) - 1)) = true from by simp; omega])
    have h7 := h3.stays qas (Keeps.of_below hBB)
    have KK : (k < 1 ∧ Hid (lastAt m.fMaps k < xat) ∧ ∀ y : In wB, True) ∨ (1 ≤ k ∧ ∃ z : Int, Hid (lastAt m.fMaps k = z) ∧ ∀ y : In wB, y.x.cell? ⟨b, off + (k - 1) * 3, none⟩ = some (.int .i64 z)) := by
     rcases KZ with h | h
     ·subst h
      exact Or.inl ⟨by omega, qhd (show (0 : Int) < xat by omega), fun _ => trivial⟩
     ·obtain ⟨b', off', e', _, _, hr'⟩ := h7 (by omega)
      cases e'
      obtain ⟨x', cs', f0, f1, f2, f3⟩ := hr' (k - 1) (by omega)
      obtain ⟨_, _, rfl, _, _⟩ := f3
      refine Or.inr ⟨h, x'.fAt, qhd ?_, In.cell (f2 0 _ rfl)⟩
      obtain ⟨j, rfl⟩ : ∃ j, k = j + 1 := ⟨k - 1, by omega⟩
      rw [show j + 1 - 1 = j from rfl] at f0
      simp only [lastAt, f0]
    clear KZ hr h7
    rcases KK with ⟨hk1, LA, _⟩ | ⟨hk1, z, LZ, qz⟩
    ·have g0 : decide (0 < k) = false := by simp; omega
     have g0' : decide ((0 : Int) < (k : Int)) = false := by simp; omega
     by_cases iC : ¬ (ul1 : Int) = m.fLocals
     ·have ST' := qhd (show mapIn m k ⟨xat, xl, xs⟩ = false from by have h5 := TL1.out; have h6 := TL2.out; unfold mapIn; rw [h5]; simp [iC])
      have iC1 : ((ul1 : Int) != m.fLocals) = true := by simpa using iC
      have iC2 : ((ul1 : Int) == m.fLocals) = false := by simpa using iC
      clear iC
      refine qaj (by kernel_rfl) (by kernel_rfl) ?_
      repeat (go_big_quiet_step (first | (go_at_call 23; exact Calls.ins_same (L1 _))))
      refine wpQuiet_nil ?_
      rintro wZ ⟨⟨wE, hwE⟩, hq⟩
      obtain rfl : wE = wZ := hq.symm
      clear hq
      have hwEs := hwE.size
      (try dsimp only)
      go_wp2
      all_goals (try go_returns)
      all_goals exact HR.out _ _ ⟨qah (by unfold mapsOk; rw [qal E0.out (ST'.out)]; simp), hBB.trans (hwE.mono hzw)⟩
     have IC := qhd (Decidable.byContradiction iC)
     have iC1 : ((ul1 : Int) != m.fLocals) = false := by simpa using IC.out
     have iC2 : ((ul1 : Int) == m.fLocals) = true := by simpa using IC.out
     clear iC
     by_cases iD : m.fStack < (ul2 : Int)
     ·have ST' := qhd (show mapIn m k ⟨xat, xl, xs⟩ = false from by have h5 := TL1.out; have h6 := TL2.out; unfold mapIn; rw [h6, decide_eq_false (show ¬ (ul2 : Int) ≤ m.fStack by omega)]; simp)
      have iD1 : decide (m.fStack < (ul2 : Int)) = true := by simpa using iD
      clear iD
      refine qaj (by kernel_rfl) (by kernel_rfl) ?_
      repeat (go_big_quiet_step (first | (go_at_call 23; exact Calls.ins_same (L1 _))))
      refine wpQuiet_nil ?_
      rintro wZ ⟨⟨wE, hwE⟩, hq⟩
      obtain rfl : wE = wZ := hq.symm
      clear hq
      have hwEs := hwE.size
      (try dsimp only)
      go_wp2
      all_goals (try go_returns)
      all_goals exact HR.out _ _ ⟨qah (by unfold mapsOk; rw [qal E0.out (ST'.out)]; simp), hBB.trans (hwE.mono hzw)⟩
     have ID := qhd (Int.not_lt.1 iD)
     have iD1 : decide (m.fStack < (ul2 : Int)) = false := by simpa using iD
     clear iD
     by_cases iE : tagsOk xl = false
     ·have ST' := qhd (show mapIn m k ⟨xat, xl, xs⟩ = false from by have h5 := TL1.out; have h6 := TL2.out; unfold mapIn; simp [iE])
      have IE := qhd iE
      have LE : ∀ y : In wB, Calls Tryz.prog 79 #[.slice ua1 ul1 uc1] y.x fun e w' => e = .returned (.bool false) ∧ Below y.x.heap.size y.x w' := fun y => Calls.val2 (S_l2Tags _ _ _ (T1 y)) IE.out
      clear iE
      refine qaj (by kernel_rfl) (by kernel_rfl) ?_
      repeat (go_big_quiet_step (first | (go_at_call 23; exact Calls.ins_same (L1 _)) | (go_at_call 79; with_reducible exact Calls.ins (LE _))))
      refine wpQuiet_nil ?_
      rintro wZ ⟨⟨wE, hwE⟩, hq⟩
      obtain rfl : wE = wZ := hq.symm
      clear hq
      have hwEs := hwE.size
      (try dsimp only)
      go_wp2
      all_goals (try go_returns)
      all_goals exact HR.out _ _ ⟨qah (by unfold mapsOk; rw [qal E0.out (ST'.out)]; simp), hBB.trans (hwE.mono hzw)⟩
     have IE : Hid (tagsOk xl = true) := qhd (by simpa using iE)
     have LE : ∀ y : In wB, Calls Tryz.prog 79 #[.slice ua1 ul1 uc1] y.x fun e w' => e = .returned (.bool true) ∧ Below y.x.heap.size y.x w' := fun y => Calls.val2 (S_l2Tags _ _ _ (T1 y)) IE.out
     clear iE
     by_cases iF : tagsOk xs = false
     ·have ST' := qhd (show mapIn m k ⟨xat, xl, xs⟩ = false from by have h5 := TL1.out; have h6 := TL2.out; unfold mapIn; simp [iF])
      have IF := qhd iF
      have LF : ∀ y : In wB, Calls Tryz.prog 79 #[.slice ua2 ul2 uc2] y.x fun e w' => e = .returned (.bool false) ∧ Below y.x.heap.size y.x w' := fun y => Calls.val2 (S_l2Tags _ _ _ (T2 y)) IF.out
      clear iF
      refine qaj (by kernel_rfl) (by kernel_rfl) ?_
      repeat (go_big_quiet_step (first | (go_at_call 23; exact Calls.ins_same (L1 _)) | (go_at_call 79; with_reducible exact Calls.ins (LE _)) | (go_at_call 79; with_reducible exact Calls.ins (LF _))))
      refine wpQuiet_nil ?_
      rintro wZ ⟨⟨wE, hwE⟩, hq⟩
      obtain rfl : wE = wZ := hq.symm
      clear hq
      have hwEs := hwE.size
      (try dsimp only)
      go_wp2
      all_goals (try go_returns)
      all_goals exact HR.out _ _ ⟨qah (by unfold mapsOk; rw [qal E0.out (ST'.out)]; simp), hBB.trans (hwE.mono hzw)⟩
     have IF : Hid (tagsOk xs = true) := qhd (by simpa using iF)
     have LF : ∀ y : In wB, Calls Tryz.prog 79 #[.slice ua2 ul2 uc2] y.x fun e w' => e = .returned (.bool true) ∧ Below y.x.heap.size y.x w' := fun y => Calls.val2 (S_l2Tags _ _ _ (T2 y)) IF.out
     clear iF
     refine qaj (by kernel_rfl) (by kernel_rfl) ?_
     repeat (go_big_quiet_step (first | (go_at_call 23; exact Calls.ins_same (L1 _)) | (go_at_call 79; with_reducible exact Calls.ins (LE _)) | (go_at_call 79; with_reducible exact Calls.ins (LF _))))
     refine wpQuiet_nil ?_
     rintro wZ ⟨⟨wE, hwE⟩, hq⟩
     obtain rfl : wE = wZ := hq.symm
     clear hq
     have hwEs := hwE.size
     (try dsimp only)
     go_wp2
     go_roundw
     case measure => simp [intOf]; omega
     case rel => exact ⟨k + 1, by omega, by go_num, EachTo.step HA.out E0.out (by have h1 := LA.out; have h2 := HL2.out; have h3 := TL1.out; have h4 := TL2.out; have h5 := IC.out; have h6 := ID.out; simp only [mapIn, IE.out, IF.out, h2, h3, h4, h5]; simp; omega), hBB.trans (hwE.mono hzw), In.cell D4.out ⟨wE, hwE⟩, In.cell D5.out ⟨wE, hwE⟩, In.cell D6.out ⟨wE, hwE⟩, In.cell D7.out ⟨wE, hwE⟩⟩
    ·have g0 : decide (0 < k) = true := by simp; omega
     have g0' : decide ((0 : Int) < (k : Int)) = true := by simp; omega
     have j0 : (0 : Int) ≤ (k : Int) - 1 := by omega
     have j1 : ((k : Int) - 1).toNat = k - 1 := by omega
     have j2 : (k : Int) - 1 < (len : Int) := by omega
     have j3 : IntKind.i64.wrap ((k : Int) - 1) = (k : Int) - 1 := IntWalk.i64_in _ (by omega)
     by_cases iB : xat ≤ z
     ·have iB1 : decide (xat ≤ z) = true := by simpa using iB
      have ST' := qhd (show mapIn m k ⟨xat, xl, xs⟩ = false from by have := LZ.out; unfold mapIn; rw [this]; simp; intros; omega)
      clear iB
      refine qaj (by kernel_rfl) (by kernel_rfl) ?_
      repeat (go_big_quiet_step (first | (go_at_call 23; exact Calls.ins_same (L1 _))))
      refine wpQuiet_nil ?_
      rintro wZ ⟨⟨wE, hwE⟩, hq⟩
      obtain rfl : wE = wZ := hq.symm
      clear hq
      have hwEs := hwE.size
      (try dsimp only)
      clear j1 j3
      go_wp2
      all_goals (try go_returns)
      all_goals exact HR.out _ _ ⟨qah (by unfold mapsOk; rw [qal E0.out (ST'.out)]; simp), hBB.trans (hwE.mono hzw)⟩
     have LA : Hid (lastAt m.fMaps k < xat) := qhd (by rw [LZ.out]; omega)
     have iB1 : decide (xat ≤ z) = false := by simpa using iB
     clear iB
     by_cases iC : ¬ (ul1 : Int) = m.fLocals
     ·have ST' := qhd (show mapIn m k ⟨xat, xl, xs⟩ = false from by have h5 := TL1.out; have h6 := TL2.out; unfold mapIn; rw [h5]; simp [iC])
      have iC1 : ((ul1 : Int) != m.fLocals) = true := by simpa using iC
      have iC2 : ((ul1 : Int) == m.fLocals) = false := by simpa using iC
      clear iC
      refine qaj (by kernel_rfl) (by kernel_rfl) ?_
      repeat (go_big_quiet_step (first | (go_at_call 23; exact Calls.ins_same (L1 _))))
      refine wpQuiet_nil ?_
      rintro wZ ⟨⟨wE, hwE⟩, hq⟩
      obtain rfl : wE = wZ := hq.symm
      clear hq
      have hwEs := hwE.size
      (try dsimp only)
      clear j1 j3
      go_wp2
      all_goals (try go_returns)
      all_goals exact HR.out _ _ ⟨qah (by unfold mapsOk; rw [qal E0.out (ST'.out)]; simp), hBB.trans (hwE.mono hzw)⟩
     have IC := qhd (Decidable.byContradiction iC)
     have iC1 : ((ul1 : Int) != m.fLocals) = false := by simpa using IC.out
     have iC2 : ((ul1 : Int) == m.fLocals) = true := by simpa using IC.out
     clear iC
     by_cases iD : m.fStack < (ul2 : Int)
     ·have ST' := qhd (show mapIn m k ⟨xat, xl, xs⟩ = false from by have h5 := TL1.out; have h6 := TL2.out; unfold mapIn; rw [h6, decide_eq_false (show ¬ (ul2 : Int) ≤ m.fStack by omega)]; simp)
      have iD1 : decide (m.fStack < (ul2 : Int)) = true := by simpa using iD
      clear iD
      refine qaj (by kernel_rfl) (by kernel_rfl) ?_
      repeat (go_big_quiet_step (first | (go_at_call 23; exact Calls.ins_same (L1 _))))
      refine wpQuiet_nil ?_
      rintro wZ ⟨⟨wE, hwE⟩, hq⟩
      obtain rfl : wE = wZ := hq.symm
      clear hq
      have hwEs := hwE.size
      (try dsimp only)
      clear j1 j3
      go_wp2
      all_goals (try go_returns)
      all_goals exact HR.out _ _ ⟨qah (by unfold mapsOk; rw [qal E0.out (ST'.out)]; simp), hBB.trans (hwE.mono hzw)⟩
     have ID := qhd (Int.not_lt.1 iD)
     have iD1 : decide (m.fStack < (ul2 : Int)) = false := by simpa using iD
     clear iD
     by_cases iE : tagsOk xl = false
     ·have ST' := qhd (show mapIn m k ⟨xat, xl, xs⟩ = false from by have h5 := TL1.out; have h6 := TL2.out; unfold mapIn; simp [iE])
      have IE := qhd iE
      have LE : ∀ y : In wB, Calls Tryz.prog 79 #[.slice ua1 ul1 uc1] y.x fun e w' => e = .returned (.bool false) ∧ Below y.x.heap.size y.x w' := fun y => Calls.val2 (S_l2Tags _ _ _ (T1 y)) IE.out
      clear iE
      refine qaj (by kernel_rfl) (by kernel_rfl) ?_
      repeat (go_big_quiet_step (first | (go_at_call 23; exact Calls.ins_same (L1 _)) | (go_at_call 79; with_reducible exact Calls.ins (LE _))))
      refine wpQuiet_nil ?_
      rintro wZ ⟨⟨wE, hwE⟩, hq⟩
      obtain rfl : wE = wZ := hq.symm
      clear hq
      have hwEs := hwE.size
      (try dsimp only)
      clear j1 j3
      go_wp2
      all_goals (try go_returns)
      all_goals exact HR.out _ _ ⟨qah (by unfold mapsOk; rw [qal E0.out (ST'.out)]; simp), hBB.trans (hwE.mono hzw)⟩
     have IE : Hid (tagsOk xl = true) := qhd (by simpa using iE)
     have LE : ∀ y : In wB, Calls Tryz.prog 79 #[.slice ua1 ul1 uc1] y.x fun e w' => e = .returned (.bool true) ∧ Below y.x.heap.size y.x w' := fun y => Calls.val2 (S_l2Tags _ _ _ (T1 y)) IE.out
     clear iE
     by_cases iF : tagsOk xs = false
     ·have ST' := qhd (show mapIn m k ⟨xat, xl, xs⟩ = false from by have h5 := TL1.out; have h6 := TL2.out; unfold mapIn; simp [iF])
      have IF := qhd iF
      have LF : ∀ y : In wB, Calls Tryz.prog 79 #[.slice ua2 ul2 uc2] y.x fun e w' => e = .returned (.bool false) ∧ Below y.x.heap.size y.x w' := fun y => Calls.val2 (S_l2Tags _ _ _ (T2 y)) IF.out
      clear iF
      refine qaj (by kernel_rfl) (by kernel_rfl) ?_
      repeat (go_big_quiet_step (first | (go_at_call 23; exact Calls.ins_same (L1 _)) | (go_at_call 79; with_reducible exact Calls.ins (LE _)) | (go_at_call 79; with_reducible exact Calls.ins (LF _))))
      refine wpQuiet_nil ?_
      rintro wZ ⟨⟨wE, hwE⟩, hq⟩
      obtain rfl : wE = wZ := hq.symm
      clear hq
      have hwEs := hwE.size
      (try dsimp only)
      clear j1 j3
      go_wp2
      all_goals (try go_returns)
      all_goals exact HR.out _ _ ⟨qah (by unfold mapsOk; rw [qal E0.out (ST'.out)]; simp), hBB.trans (hwE.mono hzw)⟩
     have IF : Hid (tagsOk xs = true) := qhd (by simpa using iF)
     have LF : ∀ y : In wB, Calls Tryz.prog 79 #[.slice ua2 ul2 uc2] y.x fun e w' => e = .returned (.bool true) ∧ Below y.x.heap.size y.x w' := fun y => Calls.val2 (S_l2Tags _ _ _ (T2 y)) IF.out
     clear iF
     refine qaj (by kernel_rfl) (by kernel_rfl) ?_
     repeat (go_big_quiet_step (first | (go_at_call 23; exact Calls.ins_same (L1 _)) | (go_at_call 79; with_reducible exact Calls.ins (LE _)) | (go_at_call 79; with_reducible exact Calls.ins (LF _))))
     refine wpQuiet_nil ?_
     rintro wZ ⟨⟨wE, hwE⟩, hq⟩
     obtain rfl : wE = wZ := hq.symm
     clear hq
     have hwEs := hwE.size
     (try dsimp only)
     clear j1 j3
     go_wp2
     go_roundw
     case measure => simp [intOf]; omega
     case rel => exact ⟨k + 1, by omega, by go_num, EachTo.step HA.out E0.out (by have h1 := LA.out; have h2 := HL2.out; have h3 := TL1.out; have h4 := TL2.out; have h5 := IC.out; have h6 := ID.out; simp only [mapIn, IE.out, IF.out, h2, h3, h4, h5]; simp; omega), hBB.trans (hwE.mono hzw), In.cell D4.out ⟨wE, hwE⟩, In.cell D5.out ⟨wE, hwE⟩, In.cell D6.out ⟨wE, hwE⟩, In.cell D7.out ⟨wE, hwE⟩⟩
   ·obtain rfl : k = len := by omega
    go_wp2
    all_goals (try go_returns)
    all_goals exact HR.out _ _ ⟨qah (by unfold mapsOk; rw [qav HA.out HL.out, HL.out]; simp; omega), bbel⟩
 ·have HI := qhd hlen
  refine qab fun R HR => ?_
  go_enter Tryz.func64, Tryz.ntmps64
  go_wp2
  all_goals (try go_returns)
  all_goals exact HR.out _ _ ⟨qah (by have := HI.out; unfold mapsOk; rw [HL.out]; simp; omega), bbel⟩

theorem S_MthOk (m : DClsMethod) (v1 v2 v3 : Value) (w : World) (s1 : Sl 2 rKndKind 0 w v1 m.fArgs) (s2 : Sl 4 rClsIns 0 w v2 m.fCode) (s3 : Sl 3 rClsMap 0 w v3 m.fMaps) (b1 : m.fName.size ≤ maxLen) (b2 : m.fRet.fName.size ≤ maxLen) :
  Calls Tryz.prog 38 #[.agg #[.string m.fName, v1, .int .i64 m.fRet.fKind, .string m.fRet.fName, .int .i64 m.fLocals, .int .i64 m.fStack, v2, v3]] w fun e w' => e = .returned (.bool (mthOk m)) ∧ Below w.heap.size w w' := by
 obtain ⟨na2, nl2, nc2, rfl⟩ := s2.form
 obtain ⟨na3, nl3, nc3, rfl⟩ := s3.form
 obtain ⟨a, len, cap, rfl, hl, h1, h2, h3⟩ := id s1
 have m1 : len ≤ 9223372036854775807 := by unfold maxLen at h2; omega
 have HL := qhd hl
 have H1 := qhd h1
 clear h2 hl h1
 refine qab fun R HR => ?_
 go_enter Tryz.func38, Tryz.ntmps38
 go_wp2_with fail
 refine (S_NamOk _ _ b1).mono ?_
 rintro _ _ ⟨rfl, rfl⟩
 cases hx : namOk m.fName
 ·have HX := qhd hx
  clear hx
  go_wp2
  all_goals (try go_returns)
  all_goals exact HR.out _ _ ⟨qah (by simp [mthOk, HX.out]), bbel⟩
 have HX := qhd hx
 clear hx
 by_cases hlen : 3 < len
 ·have HN := qhd hlen
  go_wp2
  all_goals (try go_returns)
  all_goals exact HR.out _ _ ⟨qah (by have h5 := HL.out; have h6 := HN.out; have h7 : ¬ m.fArgs.length ≤ 3 := (by omega); simp [mthOk, h7]), bbel⟩
 go_wp2_with fail
 refine (S_KndOk _ _ _ b2).mono ?_
 rintro _ w1 ⟨rfl, g1⟩
 have g1s := (g1).size; (try simp only [qsz] at g1s)
 obtain ⟨g1ad, g1ao, g1ag, g1ap, g1ax, g1ay⟩ := bf1 (n := w.heap.size) g1
 have hE1 : Below w.heap.size w w1 := bbel
 cases hx : kndOk m.fRet.fKind m.fRet.fName
 ·have HY := qhd hx
  clear hx
  go_wp2
  all_goals (try go_returns)
  all_goals exact HR.out _ _ ⟨qah (by simp [mthOk, kndOkD, HY.out]), hE1⟩
 have HY := qhd hx
 clear hx
 have z0 : w1.cell? ⟨w.heap.size, 0, none⟩ = some (.string m.fName) := by go_simp
 have z1 : w1.cell? ⟨w.heap.size, 1, none⟩ = some (.slice a len cap) := by go_simp
 have z2 : w1.cell? ⟨w.heap.size, 2, none⟩ = some (.int .i64 m.fRet.fKind) := by go_simp
 have z3 : w1.cell? ⟨w.heap.size, 3, none⟩ = some (.string m.fRet.fName) := by go_simp
 have z4 : w1.cell? ⟨w.heap.size, 4, none⟩ = some (.int .i64 m.fLocals) := by go_simp
 have z5 : w1.cell? ⟨w.heap.size, 5, none⟩ = some (.int .i64 m.fStack) := by go_simp
 have z6 : w1.cell? ⟨w.heap.size, 6, none⟩ = some (.slice na2 nl2 nc2) := by go_simp
 have z7 : w1.cell? ⟨w.heap.size, 7, none⟩ = some (.slice na3 nl3 nc3) := by go_simp
 clear g1ad g1ag g1ax g1ay g1ao g1ap
 have hz1 := hE1.size
 by_cases hc1 : ¬ ((len : Int) + 1 ≤ m.fLocals ∧ m.fLocals ≤ 6)
 ·have L1 : ∀ W, Calls Tryz.prog 23 #[.int .i64 m.fLocals, .int .i64 ((len : Int) + 1), .int .i64 6] W fun e w' => e = .returned (.bool false) ∧ W = w' := fun W => Calls.val (S_l1In _ _ _ W) (by rw [show (decide ((len : Int) + 1 ≤ m.fLocals) && decide (m.fLocals ≤ 6)) = false from by simp; omega])
  have HC := qhd hc1
  clear hc1
  go_wp2_with fail
  refine (L1 _).mono ?_
  rintro _ _ ⟨rfl, rfl⟩
  go_wp2
  all_goals (try go_returns)
  all_goals exact HR.out _ _ ⟨qah (by have h5 := HL.out; have h6 := HC.out; by_cases h8 : m.fLocals ≤ 6; (have h7 : ¬ (m.fArgs.length : Int) + 1 ≤ m.fLocals := (by rw [h5]; omega); simp [mthOk, h7]); simp [mthOk, h8]), hE1⟩
 have hc1' := Decidable.byContradiction hc1
 obtain ⟨hl1, hl2⟩ := hc1'
 clear hc1
 have L1 : ∀ W, Calls Tryz.prog 23 #[.int .i64 m.fLocals, .int .i64 ((len : Int) + 1), .int .i64 6] W fun e w' => e = .returned (.bool true) ∧ W = w' := fun W => Calls.val (S_l1In _ _ _ W) (by rw [show (decide ((len : Int) + 1 ≤ m.fLocals) && decide (m.fLocals ≤ 6)) = true from by simp; omega])
 go_wp2_with fail
 refine (L1 _).mono ?_
 rintro _ _ ⟨rfl, rfl⟩
 by_cases hc2 : ¬ (1 ≤ m.fStack ∧ m.fStack ≤ 5)
 ·have L2 : ∀ W, Calls Tryz.prog 23 #[.int .i64 m.fStack, .int .i64 1, .int .i64 5] W fun e w' => e = .returned (.bool false) ∧ W = w' := fun W => Calls.val (S_l1In _ _ _ W) (by rw [show (decide ((1 : Int) ≤ m.fStack) && decide (m.fStack ≤ 5)) = false from by simp; omega])
  have HC := qhd hc2
  clear hc2
  go_wp2_with fail
  refine (L2 _).mono ?_
  rintro _ _ ⟨rfl, rfl⟩
  go_wp2
  all_goals (try go_returns)
  all_goals exact HR.out _ _ ⟨qah (by have h6 := HC.out; by_cases h8 : m.fStack ≤ 5; (have h7 : ¬ 1 ≤ m.fStack := (by omega); simp [mthOk, h7]); simp [mthOk, h8]), hE1⟩
 have hc2' := Decidable.byContradiction hc2
 obtain ⟨hs1, hs2⟩ := hc2'
 clear hc2
 have L2 : ∀ W, Calls Tryz.prog 23 #[.int .i64 m.fStack, .int .i64 1, .int .i64 5] W fun e w' => e = .returned (.bool true) ∧ W = w' := fun W => Calls.val (S_l1In _ _ _ W) (by rw [show (decide ((1 : Int) ≤ m.fStack) && decide (m.fStack ≤ 5)) = true from by simp; omega])
 go_wp2_with fail
 refine (L2 _).mono ?_
 rintro _ _ ⟨rfl, rfl⟩
 go_wp2_with fail
 refine (S_l2Code m _ _ _ _ (s1.stays qar (Keeps.of_below hE1)) (s2.stays qau (Keeps.of_below hE1)) (s3.stays qas (Keeps.of_below hE1))).mono ?_
 rintro _ wC ⟨rfl, hC⟩
 have hWC : Below w.heap.size w wC := hE1.trans (hC.mono hE1.size)
 replace z0 := qad hC z0
 replace z1 := qad hC z1
 replace z2 := qad hC z2
 replace z3 := qad hC z3
 replace z4 := qad hC z4
 replace z5 := qad hC z5
 replace z6 := qad hC z6
 replace z7 := qad hC z7
 cases hx : codeOk m
 ·have HW := qhd hx
  clear hx
  go_wp2
  all_goals (try go_returns)
  all_goals exact HR.out _ _ ⟨qah (by simp [mthOk, HW.out]), hWC⟩
 have HW := qhd hx
 clear hx
 go_wp2_with fail
 refine (S_l2Maps m _ _ _ _ (s1.stays qar (Keeps.of_below hWC)) (s2.stays qau (Keeps.of_below hWC)) (s3.stays qas (Keeps.of_below hWC))).mono ?_
 rintro _ wD ⟨rfl, hD⟩
 have hWD : Below w.heap.size w wD := hWC.trans (hD.mono hWC.size)
 have hzD := hWD.size
 replace z1 := qad hD z1
 clear z0 z2 z3 z4 z5 z6 z7
 cases hx : mapsOk m
 ·have HV := qhd hx
  clear hx
  go_wp2
  all_goals (try go_returns)
  all_goals exact HR.out _ _ ⟨qah (by simp [mthOk, HV.out]), hWD⟩
 have HV := qhd hx
 clear hx
 go_wp2_with fail
 go_loopw [3] (fun i wr => ∃ k : Nat, k ≤ len ∧ i = .int .i64 k ∧ EachTo (fun _ t => kndOkD t) m.fArgs k = true ∧ Below w.heap.size w wr ∧ wr.cell? ⟨w.heap.size, 1, none⟩ = some (.slice a len cap)) (fun i _ => len - (intOf i).toNat)
 case atStart => exact ⟨0, Nat.zero_le _, rfl, rfl, hWD, z1⟩
 clear z1
 case round =>
  obtain ⟨k, hk, rfl, ha, hb, z1⟩ := hrel
  have HA := qhd ha
  clear ha
  have hbx := hb.size
  by_cases hlt : k < len
  ·obtain ⟨b, off, rfl, hlo, hbl, hr⟩ := h3.stays qar (Keeps.of_below hb) (by omega)
   obtain ⟨x, cs, e0, e1, e2, e3⟩ := hr k hlt
   obtain ⟨rfl, bx⟩ := e3
   have q1 : wr.cell? ⟨b, off + k * 2, none⟩ = some (.int .i64 x.fKind) := e2 0 _ rfl
   have q2 : wr.cell? ⟨b, off + k * 2 + 1, none⟩ = some (.string x.fName) := e2 1 _ rfl
   have E0 := qhd e0
   clear e0 e1 e2 hr
   go_wp2_with fail
   refine (S_KndOk x.fKind x.fName _ bx).mono ?_
   rintro _ wA ⟨rfl, hA⟩
   have hWA : Below w.heap.size w wA := bbel
   have y1 := qad hA z1
   clear q1 q2 z1
   cases hx : kndOk x.fKind x.fName
   ·have HZ := qhd hx
    clear hx
    go_wp2
    all_goals (try go_returns)
    all_goals exact HR.out _ _ ⟨qah (by have h5 : kndsOk m.fArgs = false := qal E0.out HZ.out; simp [mthOk, h5]), hWA⟩
   ·have HZ := qhd hx
    clear hx
    go_wp2
    go_roundw
    case measure => simp [intOf]; omega
    case rel => exact ⟨k + 1, by omega, by go_num, EachTo.step HA.out E0.out HZ.out, hWA, y1⟩
  ·obtain rfl : k = len := by omega
   have AK : Hid (kndsOk m.fArgs = true) := qhd (qav HA.out HL.out)
   go_wp2
   all_goals (try go_returns)
   all_goals exact HR.out _ _ ⟨qah (by
    have h5 := HL.out
    simp only [mthOk, HX.out, HY.out, AK.out, HW.out, HV.out, kndOkD, h5]
    have i1 : k ≤ 3 := by omega
    simp [i1, hl1, hl2, hs1, hs2]), hb⟩

theorem cls_stop_f {c : DClsClass} (h : each (fieldIn c.fFields) c.fFields = false) : false = clsOk c := by simp [clsOk, h]
theorem cls_stop_m {c : DClsClass} (h : each (methodIn c.fMethods) c.fMethods = false) : false = clsOk c := by simp [clsOk, h]

theorem S_ClsOk (c : DClsClass) (v1 v2 : Value) (w : World) (s1 : Sl 3 rClsField 0 w v1 c.fFields) (s2 : Sl 8 rClsMethod 0 w v2 c.fMethods) (b1 : c.fName.size ≤ maxLen) (b2 : c.fSuper.size ≤ maxLen) :
  Calls Tryz.prog 15 #[.agg #[.string c.fName, .string c.fSuper, v1, v2]] w fun e w' => e = .returned (.bool (clsOk c)) ∧ Below w.heap.size w w' := by
 obtain ⟨a, len, cap, rfl, hl, h1, h2, h3⟩ := id s1
 obtain ⟨a', len', cap', rfl, hl', h1', h2', h3'⟩ := id s2
 have m1 : len ≤ 9223372036854775807 := by unfold maxLen at h2; omega
 have m1' : len' ≤ 9223372036854775807 := by unfold maxLen at h2'; omega
 have HL := qhd hl
 have HL' := qhd hl'
 have H1 := h1
 have H1' := h1'
 clear h2 hl h2' hl' h1 h1'
 by_cases hsu : c.fSuper.toList.isEmpty = false ∧ namOk c.fSuper = false
 ·obtain ⟨i1, i2⟩ := hsu
  have HS := qhd i1
  have HS2 := qhd i2
  have i3 : (!c.fSuper.toList.isEmpty) = true := by simp [i1]
  have i4 : ¬ c.fSuper.toList = [] := by simpa using i1
  have CS : ∀ W, Calls Tryz.prog 35 #[.string c.fSuper] W fun e w' => e = .returned (.bool false) ∧ W = w' := fun W => Calls.val2 (S_NamOk c.fSuper W b2) i2
  clear i2
  refine qab fun R HR => ?_
  go_enter Tryz.func15, Tryz.ntmps15
  go_wp2_with fail
  refine (S_NamOk _ _ b1).mono ?_
  rintro _ _ ⟨rfl, rfl⟩
  go_wp2_with (first | (go_at_call 35; refine (CS _).mono ?_; rintro _ _ ⟨rfl, rfl⟩))
  all_goals (try go_returns)
  all_goals exact HR.out _ _ ⟨qah (by simp [clsOk, HS.out, HS2.out]), bbel⟩
 have SO : Hid ((c.fSuper.toList.isEmpty || namOk c.fSuper) = true) := qhd (by
  cases h5 : c.fSuper.toList.isEmpty <;> cases h6 : namOk c.fSuper <;> simp_all)
 have SP : (∃ bb : Bool, c.fSuper.toList = [] ∧ c.fSuper.toList.isEmpty = true ∧ (!c.fSuper.toList.isEmpty) = false ∧ ∀ W, Calls Tryz.prog 35 #[.string c.fSuper] W fun e w' => e = .returned (.bool bb) ∧ W = w') ∨ (∃ bb : Bool, ¬ c.fSuper.toList = [] ∧ c.fSuper.toList.isEmpty = false ∧ (!c.fSuper.toList.isEmpty) = true ∧ bb = true ∧ ∀ W, Calls Tryz.prog 35 #[.string c.fSuper] W fun e w' => e = .returned (.bool bb) ∧ W = w') := by
  have h7 := SO.out
  cases h5 : c.fSuper.toList.isEmpty
  ·exact Or.inr ⟨namOk c.fSuper, by simpa using h5, rfl, rfl, by simpa [h5] using h7, fun W => S_NamOk c.fSuper W b2⟩
  ·exact Or.inl ⟨namOk c.fSuper, by simpa using h5, rfl, rfl, fun W => S_NamOk c.fSuper W b2⟩
 clear hsu
 cases hx : namOk c.fName
 ·have HX := qhd hx
  have CN : ∀ W, Calls Tryz.prog 35 #[.string c.fName] W fun e w' => e = .returned (.bool false) ∧ W = w' := fun W => Calls.val2 (S_NamOk c.fName W b1) hx
  clear hx SP
  refine qab fun R HR => ?_
  go_enter Tryz.func15, Tryz.ntmps15
  go_wp2_with (first | (go_at_call 35; refine (CN _).mono ?_; rintro _ _ ⟨rfl, rfl⟩))
  all_goals (try go_returns)
  all_goals exact HR.out _ _ ⟨qah (by simp [clsOk, HX.out]), bbel⟩
 have HX := qhd hx
 have CN : ∀ W, Calls Tryz.prog 35 #[.string c.fName] W fun e w' => e = .returned (.bool true) ∧ W = w' := fun W => Calls.val2 (S_NamOk c.fName W b1) hx
 clear hx
 by_cases hlen : ¬ (len ≤ 3 ∧ len' ≤ 4)
 ·have HN : Hid (¬ (len ≤ 3 ∧ len' ≤ 4)) := qhd hlen
  have hlen' : 3 < len ∨ len ≤ 3 ∧ 4 < len' := by omega
  clear hlen
  rcases SP with ⟨bb, p1, p2, p3, CS⟩ | ⟨bb, p1, p2, p3, rfl, CS⟩
  all_goals
   rcases hlen' with hl1 | ⟨hl1, hl2⟩
  all_goals
   refine qab fun R HR => ?_
   go_enter Tryz.func15, Tryz.ntmps15
   go_wp2_with fail
   refine (CN _).mono ?_
   rintro _ _ ⟨rfl, rfl⟩
   go_wp2_with (first | (go_at_call 35; refine (CS _).mono ?_; rintro _ _ ⟨rfl, rfl⟩))
  all_goals (try go_returns)
  all_goals exact HR.out _ _ ⟨qah (by
   have h5 := HL.out; have h6 := HL'.out; have h7 := HN.out
   by_cases h8 : len ≤ 3
   ·have h9 : ¬ len' ≤ 4 := by omega
    simp [clsOk, h6, h9]
   ·simp [clsOk, h5, h8]), bbel⟩
 have hlen' : len ≤ 3 ∧ len' ≤ 4 := Decidable.byContradiction hlen
 obtain ⟨hn1, hn2⟩ := hlen'
 clear hlen
 rcases SP with ⟨bb, p1, p2, p3, CS⟩ | ⟨bb, p1, p2, p3, rfl, CS⟩
 all_goals
  refine qab fun R HR => ?_
  go_enter Tryz.func15, Tryz.ntmps15
  go_wp2_with fail
  refine (CN _).mono ?_
  rintro _ _ ⟨rfl, rfl⟩
  clear CN
  go_wp2_with (first | (go_at_call 35; refine (CS _).mono ?_; rintro _ _ ⟨rfl, rfl⟩))
  clear p1 p2 p3 CS
  go_loopw [3] (fun i wr => ∃ k : Nat, k ≤ len ∧ i = .int .i64 k ∧ EachTo (fieldIn c.fFields) c.fFields k = true ∧ Below w.heap.size w wr ∧ wr.cell? ⟨w.heap.size, 2, none⟩ = some (.slice a len cap) ∧ wr.cell? ⟨w.heap.size, 3, none⟩ = some (.slice a' len' cap')) (fun i _ => len - (intOf i).toNat)
  case atStart => exact ⟨0, Nat.zero_le _, rfl, rfl, bbel, by go_simp, by go_simp⟩
  case round =>
   obtain ⟨k, hk, rfl, ha, hb, c2, c3⟩ := hrel
   have HA := qhd ha
   clear ha
   have hbx := hb.size
   have hbw := block_lt_of_cell c2
   by_cases hlt : k < len
   ·go_wp2_with fail
    obtain ⟨b, off, rfl, hlo, hbl, hr⟩ := h3.stays qap (Keeps.of_below hb) (by omega)
    obtain ⟨⟨fn, fk, fkn⟩, cs, e0, e1, e2, e3⟩ := hr k hlt
    obtain ⟨rfl, bx1, bx2⟩ := e3
    have q1 := In.cell (show wr.cell? ⟨b, off + k * 3, none⟩ = some (.string fn) from e2 0 _ rfl)
    have q2 := In.cell (show wr.cell? ⟨b, off + k * 3 + 1, none⟩ = some (.int .i64 fk) from e2 1 _ rfl)
    have q3 := In.cell (show wr.cell? ⟨b, off + k * 3 + 2, none⟩ = some (.string fkn) from e2 2 _ rfl)
    have E0 := qhd e0
    have D2 := qhd c2
    have D3 := qhd c3
    have y2 := In.cell c2
    have y3 := In.cell c3
    have SF : ∀ y : In wr, Calls Tryz.prog 37 #[.slice (some ⟨b, off, none⟩) k cap, .string fn] y.x fun e w' => e = .returned (.int .i64 (fieldAt (c.fFields.take k) fn)) ∧ y.x = w' := fun y => S_l2Field _ _ fn y.x ((s1.stays qap (Keeps.of_below (hb.trans (y.h.mono hbx)))).take (by omega))
    have CN : ∀ y : In wr, Calls Tryz.prog 35 #[.string fn] y.x fun e w' => e = .returned (.bool (namOk fn)) ∧ y.x = w' := fun y => S_NamOk fn y.x bx1
    have CK : ∀ y : In wr, Calls Tryz.prog 36 #[.agg #[.int .i64 fk, .string fkn]] y.x fun e w' => e = .returned (.bool (kndOk fk fkn)) ∧ Below y.x.heap.size y.x w' := fun y => S_KndOk fk fkn y.x bx2
    obtain ⟨z, hz⟩ : ∃ z, z = fieldAt (c.fFields.take k) fn := ⟨_, rfl⟩
    rw [← hz] at SF
    have HZ := qhd hz
    have g1 : (k : Int) ≤ (cap : Int) := by have := H1; omega
    have g2 : (k : Int) < (len : Int) := by omega
    have g3 : (0 : Int) ≤ (k : Int) := by omega
    clear e0 e1 e2 hr hz
    clear c2 c3
    cases hx : namOk fn
    ·have H5 := qhd hx
     rw [hx] at CN
     clear hx
     refine qaj (by kernel_rfl) (by kernel_rfl) ?_
     repeat (go_big_quiet_step (first | (go_at_call 35; exact Calls.ins_same (CN _))))
     refine wpQuiet_nil ?_
     rintro wZ ⟨⟨wE, hwE⟩, hq⟩
     obtain rfl : wE = wZ := hq.symm
     clear hq
     have hwEs := hwE.size
     (try dsimp only)
     have hEE := hb.trans (hwE.mono hbx)
     go_wp2
     all_goals (try go_returns)
     all_goals exact HR.out _ _ ⟨qah (cls_stop_f (qal E0.out (by simp [fieldIn, H5.out]))), hEE⟩
    have H5 := qhd hx
    rw [hx] at CN
    clear hx
    cases hx : kndOk fk fkn
    ·have H6 := qhd hx
     rw [hx] at CK
     clear hx
     refine qaj (by kernel_rfl) (by kernel_rfl) ?_
     repeat (go_big_quiet_step (first | (go_at_call 35; exact Calls.ins_same (CN _)) | (go_at_call 36; exact Calls.ins (CK _))))
     refine wpQuiet_nil ?_
     rintro wZ ⟨⟨wE, hwE⟩, hq⟩
     obtain rfl : wE = wZ := hq.symm
     clear hq
     have hwEs := hwE.size
     (try dsimp only)
     have hEE := hb.trans (hwE.mono hbx)
     go_wp2
     all_goals (try go_returns)
     all_goals exact HR.out _ _ ⟨qah (cls_stop_f (qal E0.out (by simp [fieldIn, kndOkD, H6.out]))), hEE⟩
    have H6 := qhd hx
    rw [hx] at CK
    clear hx
    by_cases hzz : 0 ≤ z
    ·have H7 := qhd hzz
     have g0 : decide (0 ≤ z) = true := by simpa using hzz
     refine qaj (by kernel_rfl) (by kernel_rfl) ?_
     repeat (go_big_quiet_step (first | (go_at_call 35; exact Calls.ins_same (CN _)) | (go_at_call 36; exact Calls.ins (CK _)) | (go_at_call 37; exact Calls.ins_same (SF _))))
     refine wpQuiet_nil ?_
     rintro wZ ⟨⟨wE, hwE⟩, hq⟩
     obtain rfl : wE = wZ := hq.symm
     clear hq
     have hwEs := hwE.size
     (try dsimp only)
     have hEE := hb.trans (hwE.mono hbx)
     go_wp2
     all_goals (try go_returns)
     all_goals exact HR.out _ _ ⟨qah (cls_stop_f (qal E0.out (by have h8 := HZ.out; have h9 := H7.out; have h10 : ¬ fieldAt (c.fFields.take k) fn < 0 := (by omega); simp [fieldIn, h10]))), hEE⟩
    have H7 := qhd hzz
    have g0 : decide (0 ≤ z) = false := by simpa using hzz
    refine qaj (by kernel_rfl) (by kernel_rfl) ?_
    repeat (go_big_quiet_step (first | (go_at_call 35; exact Calls.ins_same (CN _)) | (go_at_call 36; exact Calls.ins (CK _)) | (go_at_call 37; exact Calls.ins_same (SF _))))
    refine wpQuiet_nil ?_
    rintro wZ ⟨⟨wE, hwE⟩, hq⟩
    obtain rfl : wE = wZ := hq.symm
    clear hq
    have hwEs := hwE.size
    (try dsimp only)
    have hEE := hb.trans (hwE.mono hbx)
    go_wp2
    go_roundw
    case measure => simp [intOf]; omega
    case rel => exact ⟨k + 1, by omega, by go_num, EachTo.step HA.out E0.out (by have h8 := HZ.out; have h9 := H7.out; have h10 : fieldAt (c.fFields.take k) fn < 0 := (by omega); simp [fieldIn, kndOkD, H5.out, H6.out, h10]), hEE, In.cell D2.out ⟨wE, hwE⟩, In.cell D3.out ⟨wE, hwE⟩⟩
   ·obtain rfl : k = len := by omega
    have HF : Hid (each (fieldIn c.fFields) c.fFields = true) := qhd (qav HA.out HL.out)
    clear HA
    obtain ⟨wo, rfl⟩ : ∃ wo : World, wo = wr := ⟨_, rfl⟩
    go_wp2_with fail
    go_loopw [4] (fun i wr => ∃ k : Nat, k ≤ len' ∧ i = .int .i64 k ∧ EachTo (methodIn c.fMethods) c.fMethods k = true ∧ Below w.heap.size w wr ∧ wr.cell? ⟨w.heap.size, 3, none⟩ = some (.slice a' len' cap')) (fun i _ => len' - (intOf i).toNat)
    case atStart => exact ⟨0, Nat.zero_le _, rfl, rfl, hb, c3⟩
    case round =>
     clear hb c2 c3 hbx hbw
     obtain ⟨j, hj, rfl, ha, hb, c3⟩ := hrel
     have HA := qhd ha
     clear ha
     have hbx := hb.size
     have hbw := block_lt_of_cell c3
     by_cases hlt' : j < len'
     ·go_wp2_with fail
      obtain ⟨b, off, rfl, hlo, hbl, hr⟩ := h3'.stays rClsMethod_good (Keeps.of_below hb) (by omega)
      obtain ⟨⟨mn, ma, mr, ml, ms, mc, mm⟩, cs, e0, e1, e2, e3⟩ := hr j hlt'
      obtain ⟨x1, x2, x3, rfl, t1, t2, t3, bx1, bx2⟩ := e3
      obtain ⟨xa1, xl1, xc1, rfl⟩ := t1.form
      obtain ⟨xa2, xl2, xc2, rfl⟩ := t2.form
      obtain ⟨xa3, xl3, xc3, rfl⟩ := t3.form
      have q1 := In.cell (show wr.cell? ⟨b, off + j * 8, none⟩ = some (.string mn) from e2 0 _ rfl)
      have q2 := In.cell (show wr.cell? ⟨b, off + j * 8 + 1, none⟩ = some (.slice xa1 xl1 xc1) from e2 1 _ rfl)
      have q3 := In.cell (show wr.cell? ⟨b, off + j * 8 + 2, none⟩ = some (.int .i64 mr.fKind) from e2 2 _ rfl)
      have q4 := In.cell (show wr.cell? ⟨b, off + j * 8 + 3, none⟩ = some (.string mr.fName) from e2 3 _ rfl)
      have q5 := In.cell (show wr.cell? ⟨b, off + j * 8 + 4, none⟩ = some (.int .i64 ml) from e2 4 _ rfl)
      have q6 := In.cell (show wr.cell? ⟨b, off + j * 8 + 5, none⟩ = some (.int .i64 ms) from e2 5 _ rfl)
      have q7 := In.cell (show wr.cell? ⟨b, off + j * 8 + 6, none⟩ = some (.slice xa2 xl2 xc2) from e2 6 _ rfl)
      have q8 := In.cell (show wr.cell? ⟨b, off + j * 8 + 7, none⟩ = some (.slice xa3 xl3 xc3) from e2 7 _ rfl)
      have E0 := qhd e0
      have D3 := qhd c3
      have y3 := In.cell c3
      have SM : ∀ y : In wr, Calls Tryz.prog 39 #[.slice (some ⟨b, off, none⟩) j cap', .string mn] y.x fun e w' => e = .returned (.int .i64 (methodAt (c.fMethods.take j) mn)) ∧ y.x = w' := fun y => S_l2Method _ _ mn y.x ((s2.stays rClsMethod_good (Keeps.of_below (hb.trans (y.h.mono hbx)))).take (by omega))
      have CM : ∀ y : In wr, Calls Tryz.prog 38 #[.agg #[.string mn, .slice xa1 xl1 xc1, .int .i64 mr.fKind, .string mr.fName, .int .i64 ml, .int .i64 ms, .slice xa2 xl2 xc2, .slice xa3 xl3 xc3]] y.x fun e w' => e = .returned (.bool (mthOk ⟨mn, ma, mr, ml, ms, mc, mm⟩)) ∧ Below y.x.heap.size y.x w' := fun y => S_MthOk ⟨mn, ma, mr, ml, ms, mc, mm⟩ _ _ _ y.x (t1.stays qar (Keeps.of_below y.h)) (t2.stays qau (Keeps.of_below y.h)) (t3.stays qas (Keeps.of_below y.h)) bx1 bx2
      obtain ⟨z, hz⟩ : ∃ z, z = methodAt (c.fMethods.take j) mn := ⟨_, rfl⟩
      rw [← hz] at SM
      have HZ := qhd hz
      obtain ⟨y, hy⟩ : ∃ y, y = mthOk ⟨mn, ma, mr, ml, ms, mc, mm⟩ := ⟨_, rfl⟩
      rw [← hy] at CM
      have HY := qhd hy
      have g1 : (j : Int) ≤ (cap' : Int) := by have := H1'; omega
      have g2 : (j : Int) < (len' : Int) := by omega
      have g3 : (0 : Int) ≤ (j : Int) := by omega
      clear e0 e1 e2 hr c3 hz hy
      cases y
      ·refine qaj (by kernel_rfl) (by kernel_rfl) ?_
       repeat (go_big_quiet_step (first | (go_at_call 38; exact Calls.ins (CM _))))
       refine wpQuiet_nil ?_
       rintro wZ ⟨⟨wE, hwE⟩, hq⟩
       obtain rfl : wE = wZ := hq.symm
       clear hq
       have hwEs := hwE.size
       (try dsimp only)
       have hEE := hb.trans (hwE.mono hbx)
       go_wp2
       all_goals (try go_returns)
       all_goals exact HR.out _ _ ⟨qah (cls_stop_m (qal E0.out (by simp [methodIn, ← HY.out]))), hEE⟩
      by_cases hzz : 0 ≤ z
      ·have H7 := qhd hzz
       have g0 : decide (0 ≤ z) = true := by simpa using hzz
       refine qaj (by kernel_rfl) (by kernel_rfl) ?_
       repeat (go_big_quiet_step (first | (go_at_call 38; exact Calls.ins (CM _)) | (go_at_call 39; exact Calls.ins_same (SM _))))
       refine wpQuiet_nil ?_
       rintro wZ ⟨⟨wE, hwE⟩, hq⟩
       obtain rfl : wE = wZ := hq.symm
       clear hq
       have hwEs := hwE.size
       (try dsimp only)
       have hEE := hb.trans (hwE.mono hbx)
       go_wp2
       all_goals (try go_returns)
       all_goals exact HR.out _ _ ⟨qah (cls_stop_m (qal E0.out (by have h8 := HZ.out; have h9 := H7.out; have h10 : ¬ methodAt (c.fMethods.take j) mn < 0 := (by omega); simp [methodIn, h10]))), hEE⟩
      have H7 := qhd hzz
      have g0 : decide (0 ≤ z) = false := by simpa using hzz
      refine qaj (by kernel_rfl) (by kernel_rfl) ?_
      repeat (go_big_quiet_step (first | (go_at_call 38; exact Calls.ins (CM _)) | (go_at_call 39; exact Calls.ins_same (SM _))))
      refine wpQuiet_nil ?_
      rintro wZ ⟨⟨wE, hwE⟩, hq⟩
      obtain rfl : wE = wZ := hq.symm
      clear hq
      have hwEs := hwE.size
      (try dsimp only)
      have hEE := hb.trans (hwE.mono hbx)
      go_wp2
      go_roundw
      case measure => simp [intOf]; omega
      case rel => exact ⟨j + 1, by omega, by go_num, EachTo.step HA.out E0.out (by have h8 := HZ.out; have h9 := H7.out; have h10 : methodAt (c.fMethods.take j) mn < 0 := (by omega); simp [methodIn, ← HY.out, h10]), hEE, In.cell D3.out ⟨wE, hwE⟩⟩
     ·obtain rfl : j = len' := by omega
      go_wp2
      all_goals (try go_returns)
      all_goals exact HR.out _ _ ⟨qah (by
       have h5 : each (methodIn c.fMethods) c.fMethods = true := qav HA.out HL'.out
       have h6 := HL.out
       have h7 := HL'.out
       simp only [clsOk, HX.out, SO.out, HF.out, h5, h6, h7]
       simp; omega), hb⟩

theorem keep_stop_o {many : Int} {x : DLodKeeper} (h : each (ownIn x.fOwns) x.fOwns = false) : false = keeperOk many x := by simp [keeperOk, h]
theorem keep_stop_a {many : Int} {x : DLodKeeper} (h : each (askIn many x.fAsks) x.fAsks = false) : false = keeperOk many x := by simp [keeperOk, h]

theorem S_l3Keeper (x : DLodKeeper) (v1 v2 : Value) (many : Nat) (w : World) (s1 : Sl 4 rClsClass 0 w v1 x.fOwns) (s2 : Sl 2 rLodAsk 0 w v2 x.fAsks) (hm : many ≤ 3) :
  Calls Tryz.prog 24 #[.agg #[v1, v2], .int .i64 (many : Int)] w fun e w' => e = .returned (.bool (keeperOk many x)) ∧ Below w.heap.size w w' := by
 obtain ⟨a, len, cap, rfl, hl, h1, h2, h3⟩ := id s1
 obtain ⟨a', len', cap', rfl, hl', h1', h2', h3'⟩ := id s2
 have m1 : len ≤ 9223372036854775807 := by unfold maxLen at h2; omega
 have m1' : len' ≤ 9223372036854775807 := by unfold maxLen at h2'; omega
 have HL := qhd hl
 have HL' := qhd hl'
 have H1 := h1
 have H1' := h1'
 clear h2 hl h2' hl' h1 h1'
 have NIL : ∀ {α : Type} (k : Nat) (R : RowRel α) (W : World), Sl k R 0 W (.slice none 0 0) [] := fun k R W => ⟨none, 0, 0, rfl, rfl, Nat.le_refl _, Nat.zero_le _, fun h => absurd h (by omega)⟩
 refine qab fun R HR => ?_
 go_enter Tryz.func24, Tryz.ntmps24
 go_wp2_with fail
 all_goals first
  | (try go_returns
     exact HR.out _ _ ⟨qah (by
      unfold keeperOk; rw [HL.out, HL'.out]
      by_cases h8 : len ≤ 5
      ·have h9 : ¬ len' ≤ 4 := by omega
       simp [h9]
      ·simp [h8]), bbel⟩)
  | skip
 have hn1 : len ≤ 5 := by omega
 have hn2 : len' ≤ 4 := by omega
 go_loopw [5] (fun i wr => ∃ k : Nat, k ≤ len ∧ i = .int .i64 k ∧ EachTo (ownIn x.fOwns) x.fOwns k = true ∧ Below w.heap.size w wr ∧ wr.cell? ⟨w.heap.size, 0, none⟩ = some (.slice a len cap) ∧ wr.cell? ⟨w.heap.size, 1, none⟩ = some (.slice a' len' cap')) (fun i _ => len - (intOf i).toNat)
 case atStart => exact ⟨0, Nat.zero_le _, rfl, rfl, bbel, by go_simp, by go_simp⟩
 case round =>
  obtain ⟨k, hk, rfl, ha, hb, c0, c1⟩ := hrel
  have HA := qhd ha
  clear ha
  have hbx := hb.size
  have hbw := block_lt_of_cell c0
  by_cases hlt : k < len
  ·go_wp2_with fail
   obtain ⟨b, off, rfl, hlo, hbl, hr⟩ := h3.stays rClsClass_good (Keeps.of_below hb) (by omega)
   obtain ⟨c, cs, e0, e1, e2, e3⟩ := hr k hlt
   obtain ⟨x1, x2, rfl, t1, t2, bx1, bx2⟩ := e3
   obtain ⟨xa1, xl1, xc1, rfl⟩ := t1.form
   obtain ⟨xa2, xl2, xc2, rfl⟩ := t2.form
   have q1 := In.cell (show wr.cell? ⟨b, off + k * 4, none⟩ = some (.string c.fName) from e2 0 _ rfl)
   have q2 := In.cell (show wr.cell? ⟨b, off + k * 4 + 1, none⟩ = some (.string c.fSuper) from e2 1 _ rfl)
   have q3 := In.cell (show wr.cell? ⟨b, off + k * 4 + 2, none⟩ = some (.slice xa1 xl1 xc1) from e2 2 _ rfl)
   have q4 := In.cell (show wr.cell? ⟨b, off + k * 4 + 3, none⟩ = some (.slice xa2 xl2 xc2) from e2 3 _ rfl)
   have E0 := qhd e0
   have D0 := qhd c0
   have D1 := qhd c1
   have y0 := In.cell c0
   have y1 := In.cell c1
   have SO : ∀ y : In wr, Calls Tryz.prog 47 #[.agg #[.slice (some ⟨b, off, none⟩) k cap, .slice none 0 0], .string c.fName] y.x fun e w' => e = .returned (.int .i64 (ownAt (x.fOwns.take k) c.fName)) ∧ Below y.x.heap.size y.x w' := fun y => S_l3Own ⟨x.fOwns.take k, []⟩ _ _ c.fName y.x ((s1.stays rClsClass_good (Keeps.of_below (hb.trans (y.h.mono hbx)))).take (by omega)) (NIL _ _ _)
   have CC : ∀ y : In wr, Calls Tryz.prog 15 #[.agg #[.string c.fName, .string c.fSuper, .slice xa1 xl1 xc1, .slice xa2 xl2 xc2]] y.x fun e w' => e = .returned (.bool (clsOk c)) ∧ Below y.x.heap.size y.x w' := fun y => S_ClsOk c _ _ y.x (t1.stays qap (Keeps.of_below y.h)) (t2.stays rClsMethod_good (Keeps.of_below y.h)) bx1 bx2
   obtain ⟨z, hz⟩ : ∃ z, z = ownAt (x.fOwns.take k) c.fName := ⟨_, rfl⟩
   rw [← hz] at SO
   have HZ := qhd hz
   have g1 : (k : Int) ≤ (cap : Int) := by omega
   have g2 : (k : Int) < (len : Int) := by omega
   have g3 : (0 : Int) ≤ (k : Int) := by omega
   clear e0 e1 e2 hr hz c0 c1 NIL
   cases hx : clsOk c
   ·have H5 := qhd hx
    rw [hx] at CC
    clear hx
    refine qaj (by kernel_rfl) (by kernel_rfl) ?_
    repeat (go_big_quiet_step (first | (go_at_call 15; exact Calls.ins (CC _))))
    refine wpQuiet_nil ?_
    rintro wZ ⟨⟨wE, hwE⟩, hq⟩
    obtain rfl : wE = wZ := hq.symm
    clear hq
    have hwEs := hwE.size
    (try dsimp only)
    have hEE := hb.trans (hwE.mono hbx)
    go_wp2
    all_goals (try go_returns)
    all_goals exact HR.out _ _ ⟨qah (keep_stop_o (qal E0.out (by simp [ownIn, H5.out]))), hEE⟩
   have H5 := qhd hx
   rw [hx] at CC
   clear hx
   by_cases hzz : 0 ≤ z
   ·have H7 := qhd hzz
    have g0 : decide (0 ≤ z) = true := by simpa using hzz
    refine qaj (by kernel_rfl) (by kernel_rfl) ?_
    repeat (go_big_quiet_step (first | (go_at_call 15; exact Calls.ins (CC _)) | (go_at_call 47; exact Calls.ins (SO _))))
    refine wpQuiet_nil ?_
    rintro wZ ⟨⟨wE, hwE⟩, hq⟩
    obtain rfl : wE = wZ := hq.symm
    clear hq
    have hwEs := hwE.size
    (try dsimp only)
    have hEE := hb.trans (hwE.mono hbx)
    go_wp2
    all_goals (try go_returns)
    all_goals exact HR.out _ _ ⟨qah (keep_stop_o (qal E0.out (by have h8 := HZ.out; have h9 := H7.out; have h10 : ¬ ownAt (x.fOwns.take k) c.fName < 0 := (by omega); simp [ownIn, h10]))), hEE⟩
   have H7 := qhd hzz
   have g0 : decide (0 ≤ z) = false := by simpa using hzz
   refine qaj (by kernel_rfl) (by kernel_rfl) ?_
   repeat (go_big_quiet_step (first | (go_at_call 15; exact Calls.ins (CC _)) | (go_at_call 47; exact Calls.ins (SO _))))
   refine wpQuiet_nil ?_
   rintro wZ ⟨⟨wE, hwE⟩, hq⟩
   obtain rfl : wE = wZ := hq.symm
   clear hq
   have hwEs := hwE.size
   (try dsimp only)
   have hEE := hb.trans (hwE.mono hbx)
   go_wp2
   go_roundw
   case measure => simp [intOf]; omega
   case rel => exact ⟨k + 1, by omega, by go_num, EachTo.step HA.out E0.out (by have h8 := HZ.out; have h9 := H7.out; have h10 : ownAt (x.fOwns.take k) c.fName < 0 := (by omega); simp [ownIn, H5.out, h10]), hEE, In.cell D0.out ⟨wE, hwE⟩, In.cell D1.out ⟨wE, hwE⟩⟩
  ·obtain rfl : k = len := by omega
   have HF : Hid (each (ownIn x.fOwns) x.fOwns = true) := qhd (qav HA.out HL.out)
   clear HA
   obtain ⟨wo, rfl⟩ : ∃ wo : World, wo = wr := ⟨_, rfl⟩
   go_wp2_with fail
   go_loopw [6] (fun i wr => ∃ k : Nat, k ≤ len' ∧ i = .int .i64 k ∧ EachTo (askIn many x.fAsks) x.fAsks k = true ∧ Below w.heap.size w wr ∧ wr.cell? ⟨w.heap.size, 1, none⟩ = some (.slice a' len' cap')) (fun i _ => len' - (intOf i).toNat)
   case atStart => exact ⟨0, Nat.zero_le _, rfl, rfl, hb, c1⟩
   case round =>
    clear hb c0 c1 hbx hbw
    obtain ⟨j, hj, rfl, ha, hb, c1⟩ := hrel
    have HA := qhd ha
    clear ha
    have hbx := hb.size
    have hbw := block_lt_of_cell c1
    by_cases hlt' : j < len'
    ·go_wp2_with fail
     obtain ⟨b, off, rfl, hlo, hbl, hr⟩ := h3'.stays rLodAsk_good (Keeps.of_below hb) (by omega)
     obtain ⟨⟨an, ak⟩, cs, e0, e1, e2, e3⟩ := hr j hlt'
     obtain ⟨rfl, bx1⟩ := e3
     have q1 := In.cell (show wr.cell? ⟨b, off + j * 2, none⟩ = some (.string an) from e2 0 _ rfl)
     have q2 := In.cell (show wr.cell? ⟨b, off + j * 2 + 1, none⟩ = some (.int .i64 ak) from e2 1 _ rfl)
     have E0 := qhd e0
     have D1 := qhd c1
     have y1 := In.cell c1
     have SA : ∀ y : In wr, Calls Tryz.prog 48 #[.agg #[.slice none 0 0, .slice (some ⟨b, off, none⟩) j cap'], .string an] y.x fun e w' => e = .returned (.int .i64 (asksOf (x.fAsks.take j) an)) ∧ Below y.x.heap.size y.x w' := fun y => S_l3Asks ⟨[], x.fAsks.take j⟩ _ _ an y.x (NIL _ _ _) ((s2.stays rLodAsk_good (Keeps.of_below (hb.trans (y.h.mono hbx)))).take (by omega))
     have CN : ∀ y : In wr, Calls Tryz.prog 35 #[.string an] y.x fun e w' => e = .returned (.bool (namOk an)) ∧ y.x = w' := fun y => S_NamOk an y.x bx1
     have CI : ∀ y : In wr, Calls Tryz.prog 23 #[.int .i64 ak, .int .i64 0, .int .i64 ((many : Int) - 1)] y.x fun e w' => e = .returned (.bool (decide (0 ≤ ak) && decide (ak ≤ (many : Int) - 1))) ∧ y.x = w' := fun y => S_l1In _ _ _ y.x
     obtain ⟨z, hz⟩ : ∃ z, z = asksOf (x.fAsks.take j) an := ⟨_, rfl⟩
     have HZ : Hid (z < 0 ↔ askAt (x.fAsks.take j) an < 0) := qhd (by rw [hz]; exact asksOf_sign HA.out an)
     rw [← hz] at SA
     have g1 : (j : Int) ≤ (cap' : Int) := by omega
     have g2 : (j : Int) < (len' : Int) := by omega
     have g3 : (0 : Int) ≤ (j : Int) := by omega
     have g4 : IntKind.i64.wrap ((many : Int) - 1) = (many : Int) - 1 := IntWalk.i64_in _ (by omega)
     clear e0 e1 e2 hr c1 hz NIL
     cases hx : namOk an
     ·have H5 := qhd hx
      rw [hx] at CN
      clear hx
      refine qaj (by kernel_rfl) (by kernel_rfl) ?_
      repeat (go_big_quiet_step (first | (go_at_call 35; exact Calls.ins_same (CN _))))
      refine wpQuiet_nil ?_
      rintro wZ ⟨⟨wE, hwE⟩, hq⟩
      obtain rfl : wE = wZ := hq.symm
      clear hq
      have hwEs := hwE.size
      (try dsimp only)
      clear g4
      have hEE := hb.trans (hwE.mono hbx)
      go_wp2
      all_goals (try go_returns)
      all_goals exact HR.out _ _ ⟨qah (keep_stop_a (qal E0.out (by simp [askIn, H5.out]))), hEE⟩
     have H5 := qhd hx
     rw [hx] at CN
     clear hx
     cases hx : (decide (0 ≤ ak) && decide (ak ≤ (many : Int) - 1))
     ·have H6 := qhd hx
      rw [hx] at CI
      clear hx
      refine qaj (by kernel_rfl) (by kernel_rfl) ?_
      repeat (go_big_quiet_step (first | (go_at_call 35; exact Calls.ins_same (CN _)) | (go_at_call 23; exact Calls.ins_same (CI _))))
      refine wpQuiet_nil ?_
      rintro wZ ⟨⟨wE, hwE⟩, hq⟩
      obtain rfl : wE = wZ := hq.symm
      clear hq
      have hwEs := hwE.size
      (try dsimp only)
      clear g4
      have hEE := hb.trans (hwE.mono hbx)
      go_wp2
      all_goals (try go_returns)
      all_goals exact HR.out _ _ ⟨qah (keep_stop_a (qal E0.out (by simp only [askIn, H6.out]; simp))), hEE⟩
     have H6 := qhd hx
     rw [hx] at CI
     clear hx
     by_cases hzz : 0 ≤ z
     ·have H7 := qhd hzz
      have g0 : decide (0 ≤ z) = true := by simpa using hzz
      refine qaj (by kernel_rfl) (by kernel_rfl) ?_
      repeat (go_big_quiet_step (first | (go_at_call 35; exact Calls.ins_same (CN _)) | (go_at_call 23; exact Calls.ins_same (CI _)) | (go_at_call 48; exact Calls.ins (SA _))))
      refine wpQuiet_nil ?_
      rintro wZ ⟨⟨wE, hwE⟩, hq⟩
      obtain rfl : wE = wZ := hq.symm
      clear hq
      have hwEs := hwE.size
      (try dsimp only)
      clear g4
      have hEE := hb.trans (hwE.mono hbx)
      go_wp2
      all_goals (try go_returns)
      all_goals exact HR.out _ _ ⟨qah (keep_stop_a (qal E0.out (by have h8 := HZ.out; have h9 := H7.out; have h10 : ¬ askAt (x.fAsks.take j) an < 0 := (fun h => absurd (h8.2 h) (by omega)); simp [askIn, h10]))), hEE⟩
     have H7 := qhd hzz
     have g0 : decide (0 ≤ z) = false := by simpa using hzz
     refine qaj (by kernel_rfl) (by kernel_rfl) ?_
     repeat (go_big_quiet_step (first | (go_at_call 35; exact Calls.ins_same (CN _)) | (go_at_call 23; exact Calls.ins_same (CI _)) | (go_at_call 48; exact Calls.ins (SA _))))
     refine wpQuiet_nil ?_
     rintro wZ ⟨⟨wE, hwE⟩, hq⟩
     obtain rfl : wE = wZ := hq.symm
     clear hq
     have hwEs := hwE.size
     (try dsimp only)
     clear g4
     have hEE := hb.trans (hwE.mono hbx)
     go_wp2
     go_roundw
     case measure => simp [intOf]; omega
     case rel => exact ⟨j + 1, by omega, by go_num, EachTo.step HA.out E0.out (by have h8 := HZ.out; have h9 := H7.out; have h10 : askAt (x.fAsks.take j) an < 0 := (h8.1 (by omega)); simp only [askIn, H5.out, H6.out]; simp [h10]), hEE, In.cell D1.out ⟨wE, hwE⟩⟩
    ·obtain rfl : j = len' := by omega
     go_wp2
     all_goals (try go_returns)
     all_goals exact HR.out _ _ ⟨qah (by
      have h5 : each (askIn many x.fAsks) x.fAsks = true := qav HA.out HL'.out
      have h6 := HL.out
      have h7 := HL'.out
      simp only [keeperOk, HF.out, h5, h6, h7]
      simp; omega), hb⟩

theorem S_LodOk (x : DLodPlan) (v1 : Value) (w : World) (s1 : Sl 2 rLodKeeper 0 w v1 x.fKeepers) :
  Calls Tryz.prog 9 #[.agg #[v1]] w fun e w' => e = .returned (.bool (lodOk x)) ∧ Below w.heap.size w w' := by
 obtain ⟨a, len, cap, rfl, hl, h1, h2, h3⟩ := id s1
 have m1 : len ≤ 9223372036854775807 := by unfold maxLen at h2; omega
 have HL := qhd hl
 clear h2 hl
 by_cases hn : ¬ (1 ≤ len ∧ len ≤ 3)
 ·have L1 : ∀ W, Calls Tryz.prog 23 #[.int .i64 (len : Int), .int .i64 1, .int .i64 3] W fun e w' => e = .returned (.bool false) ∧ W = w' := fun W => Calls.val2 (S_l1In _ _ _ W) (by simp; omega)
  have HN := qhd hn
  clear hn
  refine qab fun R HR => ?_
  go_enter Tryz.func9, Tryz.ntmps9
  go_wp2_with fail
  refine (L1 _).mono ?_
  rintro _ _ ⟨rfl, rfl⟩
  go_wp2
  all_goals (try go_returns)
  all_goals exact HR.out _ _ ⟨qah (by
   have h5 := HL.out; have h6 := HN.out
   by_cases h8 : len ≤ 3
   ·have h9 : ¬ 1 ≤ len := by omega
    unfold lodOk; rw [h5, decide_eq_false h9]; simp
   ·unfold lodOk; rw [h5, decide_eq_false h8]; simp), bbel⟩
 obtain ⟨hn1, hn2⟩ : 1 ≤ len ∧ len ≤ 3 := Decidable.byContradiction hn
 clear hn
 have L1 : ∀ W, Calls Tryz.prog 23 #[.int .i64 (len : Int), .int .i64 1, .int .i64 3] W fun e w' => e = .returned (.bool true) ∧ W = w' := fun W => Calls.val2 (S_l1In _ _ _ W) (by simp; omega)
 refine qab fun R HR => ?_
 go_enter Tryz.func9, Tryz.ntmps9
 go_wp2_with fail
 refine (L1 _).mono ?_
 rintro _ _ ⟨rfl, rfl⟩
 go_wp2_with fail
 go_loopw [3] (fun i wr => ∃ k : Nat, k ≤ len ∧ i = .int .i64 k ∧ EachTo (fun _ k => keeperOk x.fKeepers.length k) x.fKeepers k = true ∧ Below w.heap.size w wr ∧ wr.cell? ⟨w.heap.size, 0, none⟩ = some (.slice a len cap)) (fun i _ => len - (intOf i).toNat)
 case atStart => exact ⟨0, Nat.zero_le _, rfl, rfl, bbel, by go_simp⟩
 case round =>
  obtain ⟨k, hk, rfl, ha, hb, c0⟩ := hrel
  have HA := qhd ha
  clear ha
  have hbx := hb.size
  have hbw := block_lt_of_cell c0
  by_cases hlt : k < len
  ·go_wp2_with fail
   obtain ⟨b, off, rfl, hlo, hbl, hr⟩ := h3.stays rLodKeeper_good (Keeps.of_below hb) (by omega)
   obtain ⟨c, cs, e0, e1, e2, e3⟩ := hr k hlt
   obtain ⟨x1, x2, rfl, t1, t2⟩ := e3
   obtain ⟨xa1, xl1, xc1, rfl⟩ := t1.form
   obtain ⟨xa2, xl2, xc2, rfl⟩ := t2.form
   have q1 := In.cell (show wr.cell? ⟨b, off + k * 2, none⟩ = some (.slice xa1 xl1 xc1) from e2 0 _ rfl)
   have q2 := In.cell (show wr.cell? ⟨b, off + k * 2 + 1, none⟩ = some (.slice xa2 xl2 xc2) from e2 1 _ rfl)
   have E0 := qhd e0
   have D0 := qhd c0
   have y0 := In.cell c0
   have CK : ∀ y : In wr, Calls Tryz.prog 24 #[.agg #[.slice xa1 xl1 xc1, .slice xa2 xl2 xc2], .int .i64 (len : Int)] y.x fun e w' => e = .returned (.bool (keeperOk x.fKeepers.length c)) ∧ Below y.x.heap.size y.x w' := fun y => by
    rw [HL.out]
    exact S_l3Keeper c _ _ len y.x (t1.stays rClsClass_good (Keeps.of_below y.h)) (t2.stays rLodAsk_good (Keeps.of_below y.h)) hn2
   obtain ⟨z, hz⟩ : ∃ z, z = keeperOk x.fKeepers.length c := ⟨_, rfl⟩
   rw [← hz] at CK
   have HZ := qhd hz
   have g2 : (k : Int) < (len : Int) := by omega
   have g3 : (0 : Int) ≤ (k : Int) := by omega
   clear e0 e1 e2 hr c0 hz
   cases z
   ·refine qaj (by kernel_rfl) (by kernel_rfl) ?_
    repeat (go_big_quiet_step (first | (go_at_call 24; exact Calls.ins (CK _))))
    refine wpQuiet_nil ?_
    rintro wZ ⟨⟨wE, hwE⟩, hq⟩
    obtain rfl : wE = wZ := hq.symm
    clear hq
    have hwEs := hwE.size
    (try dsimp only)
    have hEE := hb.trans (hwE.mono hbx)
    go_wp2
    all_goals (try go_returns)
    all_goals exact HR.out _ _ ⟨qah (by
     have h5 : each (fun _ k => keeperOk x.fKeepers.length k) x.fKeepers = false := qal E0.out HZ.out.symm
     unfold lodOk; rw [h5]; simp), hEE⟩
   refine qaj (by kernel_rfl) (by kernel_rfl) ?_
   repeat (go_big_quiet_step (first | (go_at_call 24; exact Calls.ins (CK _))))
   refine wpQuiet_nil ?_
   rintro wZ ⟨⟨wE, hwE⟩, hq⟩
   obtain rfl : wE = wZ := hq.symm
   clear hq
   have hwEs := hwE.size
   (try dsimp only)
   have hEE := hb.trans (hwE.mono hbx)
   go_wp2
   go_roundw
   case measure => simp [intOf]; omega
   case rel => exact ⟨k + 1, by omega, by go_num, EachTo.step HA.out E0.out HZ.out.symm, hEE, In.cell D0.out ⟨wE, hwE⟩⟩
  ·obtain rfl : k = len := by omega
   go_wp2
   all_goals (try go_returns)
   all_goals exact HR.out _ _ ⟨qah (by
    have h5 : each (fun _ k => keeperOk x.fKeepers.length k) x.fKeepers = true := qav HA.out HL.out
    unfold lodOk; rw [h5, HL.out, decide_eq_true hn1, decide_eq_true hn2]; rfl), hb⟩

end Go.Proofs.YtfbonocadpknbaaGreatDoor
