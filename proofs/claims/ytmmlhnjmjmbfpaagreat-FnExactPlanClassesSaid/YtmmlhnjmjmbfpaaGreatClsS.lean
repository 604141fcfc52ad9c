

/-
  The walks of the reference's l2Field and l2Method. Condition: the data can be read.
-/
import Derived.Test.YtmmlhnjmjmbfpaaGreatOk
import Derived.Deep.LoopGhost
namespace Go.Proofs.YtmmlhnjmjmbfpaaGreat
set_option linter.unusedSimpArgs false
set_option linter.unusedVariables false
open Go.RowKit

set_option maxHeartbeats 4000000 in
theorem S_l2Field (xs : List DClsField) (v : Value) (nm : ByteArray) (w : World) (hv : Sl 3 rClsField 0 w v xs) :
    Calls Tryz.prog 77 #[v, .string nm] w fun e w' => e = .returned (.int .i64 (fieldAt xs nm)) ∧ w = w' := by
  obtain ⟨a, len, cap, rfl, hl, h1, h2, h3⟩ := id hv
  have m1 : len ≤ 9223372036854775807 := by unfold maxLen at h2; omega
  have HL := Lib.hid hl
  have H1 := Lib.hid h1
  clear h2 hl h1
  refine calls_hide fun R HR => ?_
  go_enter Tryz.func77, Tryz.ntmps77
  go_wp2_with fail
  go_loop [5] (fun i => ∃ k : Nat, k ≤ len ∧ i = .int .i64 k ∧ EachTo (nots fun f => sameN f.fName nm) xs k = true) (fun i => len - (intOf i).toNat)
  case atStart => exact ⟨0, Nat.zero_le _, rfl, rfl⟩
  case round =>
    obtain ⟨k, hk, rfl, ha⟩ := hrel
    have HA := Lib.hid ha
    clear ha
    by_cases hlt : k < len
    · obtain ⟨b, off, rfl, hlo, hbl, hr⟩ := h3 (by omega)
      obtain ⟨x, cs, e0, e1, e2, e3⟩ := hr k hlt
      obtain ⟨rfl, b1, b2⟩ := e3
      have q1 : w.cell? ⟨b, off + k * 3, none⟩ = some (.string x.fName) := e2 0 _ rfl
      have E0 := Lib.hid e0
      clear e0 e1 e2 hr
      cases hx : sameN x.fName nm
      · have HX := Lib.hid hx
        have hx2 : (x.fName.toList == nm.toList) = false := hx
        clear hx
        go_wp2
        go_round
        case rel => exact ⟨k + 1, by omega, by go_num, EachTo.step HA.out E0.out (by simp [nots, HX.out])⟩
        case measure => simp [intOf]; omega
      · have HX := Lib.hid hx
        have hx2 : (x.fName.toList == nm.toList) = true := hx
        clear hx
        go_wp2
        all_goals (try go_returns)
        all_goals exact HR.out _ _ ⟨ret_int (firstAt_hit' HA.out E0.out HX.out).symm, rfl⟩
    · obtain rfl : k = len := by omega
      go_wp2
      all_goals (try go_returns)
      all_goals exact HR.out _ _ ⟨ret_int (firstAt_none' HA.out HL.out).symm, rfl⟩

set_option maxHeartbeats 4000000 in
theorem S_l2Method (xs : List DClsMethod) (v : Value) (nm : ByteArray) (w : World) (hv : Sl 8 rClsMethod 0 w v xs) :
    Calls Tryz.prog 79 #[v, .string nm] w fun e w' => e = .returned (.int .i64 (methodAt xs nm)) ∧ w = w' := by
  obtain ⟨a, len, cap, rfl, hl, h1, h2, h3⟩ := id hv
  have m1 : len ≤ 9223372036854775807 := by unfold maxLen at h2; omega
  have HL := Lib.hid hl
  have H1 := Lib.hid h1
  clear h2 hl h1
  refine calls_hide fun R HR => ?_
  go_enter Tryz.func79, Tryz.ntmps79
  go_wp2_with fail
  go_loop [5] (fun i => ∃ k : Nat, k ≤ len ∧ i = .int .i64 k ∧ EachTo (nots fun f => sameN f.fName nm) xs k = true) (fun i => len - (intOf i).toNat)
  case atStart => exact ⟨0, Nat.zero_le _, rfl, rfl⟩
  case round =>
    obtain ⟨k, hk, rfl, ha⟩ := hrel
    have HA := Lib.hid ha
    clear ha
    by_cases hlt : k < len
    · obtain ⟨b, off, rfl, hlo, hbl, hr⟩ := h3 (by omega)
      obtain ⟨x, cs, e0, e1, e2, e3⟩ := hr k hlt
      obtain ⟨v1, v2, v3, rfl, s1, s2, s3, b1, b2⟩ := e3
      obtain ⟨na1, nl1, nc1, rfl⟩ := s1.form
      obtain ⟨na2, nl2, nc2, rfl⟩ := s2.form
      obtain ⟨na3, nl3, nc3, rfl⟩ := s3.form
      have q1 : w.cell? ⟨b, off + k * 8, none⟩ = some (.string x.fName) := e2 0 _ rfl
      have E0 := Lib.hid e0
      clear e0 e1 e2 hr
      cases hx : sameN x.fName nm
      · have HX := Lib.hid hx
        have hx2 : (x.fName.toList == nm.toList) = false := hx
        clear hx
        go_wp2
        go_round
        case rel => exact ⟨k + 1, by omega, by go_num, EachTo.step HA.out E0.out (by simp [nots, HX.out])⟩
        case measure => simp [intOf]; omega
      · have HX := Lib.hid hx
        have hx2 : (x.fName.toList == nm.toList) = true := hx
        clear hx
        go_wp2
        all_goals (try go_returns)
        all_goals exact HR.out _ _ ⟨ret_int (firstAt_hit' HA.out E0.out HX.out).symm, rfl⟩
    · obtain rfl : k = len := by omega
      go_wp2
      all_goals (try go_returns)
      all_goals exact HR.out _ _ ⟨ret_int (firstAt_none' HA.out HL.out).symm, rfl⟩

end Go.Proofs.YtmmlhnjmjmbfpaaGreat
