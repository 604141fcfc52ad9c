

/-
  The walks of the program's MthOk and of what it calls. Condition: the data can be read.
-/
import Derived.Test.YtmmlhnjmjmbfpaaGreatMthS
import Derived.Test.YtmmlhnjmjmbfpaaGreatInsO
namespace Go.Proofs.YtmmlhnjmjmbfpaaGreat
set_option linter.unusedSimpArgs false
set_option linter.unusedVariables false
open Go.RowKit

set_option maxHeartbeats 2000000 in
theorem I_tagsOk (xs : List DTagTag) (v : Value) (w : World) (hv : Sl 2 rTagTag 0 w v xs) :
    Calls Tryz.prog 97 #[v] w fun e w' => e = .returned (.bool (tagsOk xs)) ∧ Below w.heap.size w w' := by
  obtain ⟨a, len, cap, rfl, hl, h1, h2, h3⟩ := id hv
  have m1 : len ≤ 9223372036854775807 := by unfold maxLen at h2; omega
  have HL := Lib.hid hl
  have H1 := Lib.hid h1
  clear h2 hl h1
  refine calls_hide fun R HR => ?_
  go_enter Tryz.func97, Tryz.ntmps97
  go_wp2_with fail
  go_loopw [7] (fun i wr => ∃ k : Nat, k ≤ len ∧ i = .int .i64 k ∧ EachTo (fun _ t => tagOkD t) xs k = true ∧ Below w.heap.size w wr) (fun i _ => len - (intOf i).toNat)
  case atStart => exact ⟨0, Nat.zero_le _, rfl, rfl, by (repeat' (first | (with_reducible exact Below.refl _ _) | (with_reducible refine Below.alloc ?_ ?_ _) | (with_reducible refine Below.setCell ?_ ?_ _) | (with_reducible refine Below.drew ?_) | (refine below_hyp (by assumption) ?_ ?_) | go_size))⟩
  case round =>
    obtain ⟨k, hk, rfl, ha, hb⟩ := hrel
    have HA := Lib.hid ha
    clear ha
    have hbx := hb.size
    by_cases hlt : k < len
    · obtain ⟨b, off, rfl, hlo, hbl, hr⟩ := h3.stays rTagTag_good (Keeps.of_below hb) (by omega)
      obtain ⟨x, cs, e0, e1, e2, e3⟩ := hr k hlt
      obtain ⟨rfl, b1⟩ := e3
      have q1 : wr.cell? ⟨b, off + k * 2, none⟩ = some (.int .i64 x.fKind) := e2 0 _ rfl
      have q2 : wr.cell? ⟨b, off + k * 2 + 1, none⟩ = some (.string x.fName) := e2 1 _ rfl
      have E0 := Lib.hid e0
      clear e0 e1 e2 hr
      go_wp2_with fail
      refine (I_TagOk x.fKind x.fName _ b1).mono ?_
      rintro _ wA ⟨rfl, hA⟩
      have hz := hA.size
      clear q1 q2
      cases hx : tagOk x.fKind x.fName
      · have HX := Lib.hid hx
        clear hx
        go_wp2
        all_goals (try go_returns)
        all_goals exact HR.out _ _ ⟨ret_bool (each_stop E0.out HX.out).symm, by (repeat' (first | (with_reducible exact Below.refl _ _) | (with_reducible refine Below.alloc ?_ ?_ _) | (with_reducible refine Below.setCell ?_ ?_ _) | (with_reducible refine Below.drew ?_) | (refine below_hyp (by assumption) ?_ ?_) | go_size))⟩
      · have HX := Lib.hid hx
        clear hx
        go_wp2
        go_roundw
        case measure => simp [intOf]; omega
        case rel => exact ⟨k + 1, by omega, by go_num, EachTo.step HA.out E0.out HX.out, by (repeat' (first | (with_reducible exact Below.refl _ _) | (with_reducible refine Below.alloc ?_ ?_ _) | (with_reducible refine Below.setCell ?_ ?_ _) | (with_reducible refine Below.drew ?_) | (refine below_hyp (by assumption) ?_ ?_) | go_size))⟩
    · obtain rfl : k = len := by omega
      go_wp2
      all_goals (try go_returns)
      all_goals exact HR.out _ _ ⟨ret_bool (each_done HA.out HL.out).symm, by (repeat' (first | (with_reducible exact Below.refl _ _) | (with_reducible refine Below.alloc ?_ ?_ _) | (with_reducible refine Below.setCell ?_ ?_ _) | (with_reducible refine Below.drew ?_) | (refine below_hyp (by assumption) ?_ ?_) | go_size))⟩

set_option maxHeartbeats 4000000 in
theorem I_codeOk (m : DClsMethod) (v1 v2 v3 : Value) (w : World) (s1 : Sl 2 rKndKind 0 w v1 m.fArgs) (s2 : Sl 4 rClsIns 0 w v2 m.fCode) (s3 : Sl 3 rClsMap 0 w v3 m.fMaps) :
    Calls Tryz.prog 85 #[.agg #[.string m.fName, v1, .int .i64 m.fRet.fKind, .string m.fRet.fName, .int .i64 m.fLocals, .int .i64 m.fStack, v2, v3]] w fun e w' => e = .returned (.bool (codeOk m)) ∧ Below w.heap.size w w' := by
  obtain ⟨na1, nl1, nc1, rfl⟩ := s1.form
  obtain ⟨na3, nl3, nc3, rfl⟩ := s3.form
  obtain ⟨a, len, cap, rfl, hl, h1, h2, h3⟩ := id s2
  have m1 : len ≤ 9223372036854775807 := by unfold maxLen at h2; omega
  have HL := Lib.hid hl
  have H1 := Lib.hid h1
  clear h2 hl h1
  refine calls_hide fun R HR => ?_
  go_enter Tryz.func85, Tryz.ntmps85
  go_wp2_with fail
  all_goals first
    | (try go_returns
       exact HR.out _ _ ⟨ret_bool (by unfold codeOk; rw [HL.out]; simp; intros; omega), by (repeat' (first | (with_reducible exact Below.refl _ _) | (with_reducible refine Below.alloc ?_ ?_ _) | (with_reducible refine Below.setCell ?_ ?_ _) | (with_reducible refine Below.drew ?_) | (refine below_hyp (by assumption) ?_ ?_) | go_size))⟩)
    | skip
  go_loopw [18] (fun i wr => ∃ k : Nat, k ≤ len ∧ i = .int .i64 k ∧ EachTo (fun _ i => insIn m.fLocals m.fCode.length i) m.fCode k = true ∧ Below w.heap.size w wr ∧ wr.cell? ⟨w.heap.size, 4, none⟩ = some (.int .i64 m.fLocals) ∧ wr.cell? ⟨w.heap.size, 6, none⟩ = some (.slice a len cap)) (fun i _ => len - (intOf i).toNat)
  case atStart => exact ⟨0, Nat.zero_le _, rfl, rfl, by (repeat' (first | (with_reducible exact Below.refl _ _) | (with_reducible refine Below.alloc ?_ ?_ _) | (with_reducible refine Below.setCell ?_ ?_ _) | (with_reducible refine Below.drew ?_) | (refine below_hyp (by assumption) ?_ ?_) | go_size)), by go_simp, by go_simp⟩
  case round =>
    obtain ⟨k, hk, rfl, ha, hb, c4, c6⟩ := hrel
    have HA := Lib.hid ha
    clear ha
    have hbx := hb.size
    have hbw := block_lt_of_cell c4
    by_cases hlt : k < len
    · obtain ⟨b, off, rfl, hlo, hbl, hr⟩ := h3.stays rClsIns_good (Keeps.of_below hb) (by omega)
      obtain ⟨⟨op, ar, nm, mem⟩, cs, e0, e1, e2, e3⟩ := hr k hlt
      obtain ⟨rfl, b1, b2⟩ := e3
      have q1 : wr.cell? ⟨b, off + k * 4, none⟩ = some (.int .i64 op) := e2 0 _ rfl
      have q2 : wr.cell? ⟨b, off + k * 4 + 1, none⟩ = some (.int .i64 ar) := e2 1 _ rfl
      have q3 : wr.cell? ⟨b, off + k * 4 + 2, none⟩ = some (.string nm) := e2 2 _ rfl
      have q4 : wr.cell? ⟨b, off + k * 4 + 3, none⟩ = some (.string mem) := e2 3 _ rfl
      have E0 := Lib.hid e0
      clear e0 e1 e2 hr
      go_wp2_with fail
      refine (I_InsOk op ar nm mem _ b1 b2).mono ?_
      rintro _ wA ⟨rfl, hA⟩
      have hz := hA.size
      have hz' : wr.heap.size < wA.heap.size := by simp at hz; omega
      have r4 : wA.cell? ⟨w.heap.size, 4, none⟩ = some (.int .i64 m.fLocals) := (hA.cell (by simp; omega)).trans (by go_simp)
      have r6 : wA.cell? ⟨w.heap.size, 6, none⟩ = some (.slice (some ⟨b, off, none⟩) len cap) := (hA.cell (by simp; omega)).trans (by go_simp)
      have p1 : wA.cell? ⟨wr.heap.size, 0, none⟩ = some (.int .i64 op) := (hA.cell (by simp)).trans (by go_simp)
      have p2 : wA.cell? ⟨wr.heap.size, 1, none⟩ = some (.int .i64 ar) := (hA.cell (by simp)).trans (by go_simp)
      clear q1 q2 q3 q4 c4 c6
      cases hx : insOk op ar nm mem
      · have HX := Lib.hid hx
        clear hx
        go_wp2
        all_goals (try go_returns)
        all_goals exact HR.out _ _ ⟨ret_bool (by unfold codeOk; rw [each_stop E0.out (by simp [insIn, insOkD, HX.out])]; simp), by (repeat' (first | (with_reducible exact Below.refl _ _) | (with_reducible refine Below.alloc ?_ ?_ _) | (with_reducible refine Below.setCell ?_ ?_ _) | (with_reducible refine Below.drew ?_) | (refine below_hyp (by assumption) ?_ ?_) | go_size))⟩
      · have HX := Lib.hid hx
        clear hx
        by_cases o1 : op = 2 ∨ op = 3 ∨ op = 11 ∨ op = 12 ∨ op = 13
        · rcases o1 with rfl | rfl | rfl | rfl | rfl
          all_goals
            go_wp2
            all_goals first
              | (try go_returns
                 exact HR.out _ _ ⟨ret_bool (by unfold codeOk; rw [each_stop E0.out (by have h5 := HL.out; simp [insIn]; intros; omega)]; simp), by (repeat' (first | (with_reducible exact Below.refl _ _) | (with_reducible refine Below.alloc ?_ ?_ _) | (with_reducible refine Below.setCell ?_ ?_ _) | (with_reducible refine Below.drew ?_) | (refine below_hyp (by assumption) ?_ ?_) | go_size))⟩)
              | (go_roundw
                 case measure => simp [intOf]; omega
                 case rel => exact ⟨k + 1, by omega, by go_num, EachTo.step HA.out E0.out (by have h5 := HL.out; simp [insIn, insOkD, HX.out]; omega), by (repeat' (first | (with_reducible exact Below.refl _ _) | (with_reducible refine Below.alloc ?_ ?_ _) | (with_reducible refine Below.setCell ?_ ?_ _) | (with_reducible refine Below.drew ?_) | (refine below_hyp (by assumption) ?_ ?_) | go_size)), r4, r6⟩)
        · have o2 : (op == 2) = false := by simp; omega
          have o3 : (op == 3) = false := by simp; omega
          have o11 : (op == 11) = false := by simp; omega
          have o12 : (op == 12) = false := by simp; omega
          have o13 : (op == 13) = false := by simp; omega
          have p2' : ¬ op = 2 := by omega
          have p3' : ¬ op = 3 := by omega
          have p11' : ¬ op = 11 := by omega
          have p12' : ¬ op = 12 := by omega
          have p13' : ¬ op = 13 := by omega
          clear o1
          go_wp2
          go_roundw
          case measure => simp [intOf]; omega
          case rel => exact ⟨k + 1, by omega, by go_num, EachTo.step HA.out E0.out (by simp [insIn, insOkD, HX.out, o2, o3, o11, o12, o13]), by (repeat' (first | (with_reducible exact Below.refl _ _) | (with_reducible refine Below.alloc ?_ ?_ _) | (with_reducible refine Below.setCell ?_ ?_ _) | (with_reducible refine Below.drew ?_) | (refine below_hyp (by assumption) ?_ ?_) | go_size)), r4, r6⟩
    · obtain rfl : k = len := by omega
      go_wp2
      all_goals (try go_returns)
      all_goals exact HR.out _ _ ⟨ret_bool (by unfold codeOk; rw [each_done HA.out HL.out, HL.out]; simp; omega), by (repeat' (first | (with_reducible exact Below.refl _ _) | (with_reducible refine Below.alloc ?_ ?_ _) | (with_reducible refine Below.setCell ?_ ?_ _) | (with_reducible refine Below.drew ?_) | (refine below_hyp (by assumption) ?_ ?_) | go_size))⟩

end Go.Proofs.YtmmlhnjmjmbfpaaGreat
