

/-
  The walk of the law FnExactInsRead. Condition: the library's variables hold what their texts lay; the text is no longer than a text may be.
-/
import Derived.Test.YtmbfpbgkchncgaaDoorRdK
namespace Go.Proofs.YtmbfpbgkchncgaaDoor
set_option linter.unusedSimpArgs false
set_option linter.unusedVariables false
open Go.RowKit

set_option maxHeartbeats 2000000 in
theorem L_eqClsIns (op a : Int) (n m : ByteArray) (w : World) :
    Calls Tryd.prog 14 #[.agg #[.int .i64 op, .int .i64 a, .string n, .string m], .agg #[.int .i64 op, .int .i64 a, .string n, .string m]] w fun e w' => e = .returned (.bool true) ∧ Below w.heap.size w w' := by
  refine calls_hide fun R HR => ?_
  go_enter Tryd.func14, Tryd.ntmps14
  go_wp2
  all_goals (try go_returns)
  all_goals exact HR.out _ _ ⟨rfl, by (repeat' (first | (with_reducible exact Below.refl _ _) | (with_reducible refine Below.alloc ?_ ?_ _) | (with_reducible refine Below.setCell ?_ ?_ _) | (with_reducible refine Below.drew ?_) | (refine below_hyp (by assumption) ?_ ?_) | go_size))⟩

set_option maxRecDepth 100000 in
set_option maxHeartbeats 8000000 in
theorem L_FnExactInsRead (s : ByteArray) (w : World) (hs : s.size ≤ maxLen) (h : Lay w) :
    Calls Tryd.prog 4 #[.string s] w fun e w' => e = .returned (.bool true) ∧ Below w.heap.size w w' := by
  have m1 : s.size ≤ 9223372036854775807 := by unfold maxLen at hs; omega
  by_cases hl : 1048576 < s.size
  · have d : decide ((1048576 : Int) < (s.size : Int)) = true := by simp; omega
    clear h hs
    refine calls_hide fun R HR => ?_
    go_enter Tryd.func4, Tryd.ntmps4
    go_wp2
    all_goals (try go_returns)
    all_goals exact HR.out _ _ ⟨rfl, by (repeat' (first | (with_reducible exact Below.refl _ _) | (with_reducible refine Below.alloc ?_ ?_ _) | (with_reducible refine Below.setCell ?_ ?_ _) | (with_reducible refine Below.drew ?_) | (refine below_hyp (by assumption) ?_ ?_) | go_size))⟩
  have d : decide ((1048576 : Int) < (s.size : Int)) = false := by simp; omega
  obtain ⟨⟨⟨op, a, n, m⟩, q⟩, hr⟩ : ∃ r, r = insRead s := ⟨_, rfl⟩
  have SA : Hid (∀ W, Calls Tryd.prog 8 #[.string s] W fun e w' => e = .returned (.tuple #[.agg #[.int .i64 op, .int .i64 a, .string n, .string m], .bool q]) ∧ Below W.heap.size W w') := Lib.hid fun W => by
    have := S_InsReadL s W (by omega)
    rw [← hr] at this; exact this
  have H := Lib.hid h
  have IA : Hid (∀ W, Below w.heap.size w W → Calls Tryd.prog 7 #[.string s] W fun e w' => e = .returned (.tuple #[.agg #[.int .i64 op, .int .i64 a, .string n, .string m], .bool q]) ∧ Below W.heap.size W w') := Lib.hid fun W hW => by
    have := I_InsRead s W hs (H.out.below hW)
    rw [← hr] at this; exact this
  clear hr h hl hs
  refine calls_hide fun R HR => ?_
  go_enter Tryd.func4, Tryd.ntmps4
  go_wp2_with fail
  refine (SA.out _).mono ?_
  rintro _ w1 ⟨rfl, g1⟩
  have g1z := g1.size
  have hB1 : Hid (Below w.heap.size w w1) := Lib.hid g1
  clear g1
  go_wp2_with fail
  refine nameV (P := fun W => Calls Tryd.prog 7 #[.string s] W _) _ (fun w4 hw4 => ?_)
  have hB14 : Below w1.heap.size w1 w4 := by rw [hw4]; clear hB1; (repeat' (first | (with_reducible exact Below.refl _ _) | (with_reducible refine Below.alloc ?_ ?_ _) | (with_reducible refine Below.setCell ?_ ?_ _) | (with_reducible refine Below.drew ?_) | (refine below_hyp (by assumption) ?_ ?_) | go_size))
  have T4 : Four w4 w1.heap.size (.int .i64 op) (.int .i64 a) (.string n) (.string m) := by rw [hw4]; exact Four.new _ _ _ _ _ _
  have HB4 : Hid (Below w.heap.size w w4) := Lib.hid (hB1.out.trans (hB14.mono g1z))
  clear hw4 hB14 hB1
  refine (IA.out _ HB4.out).mono ?_
  rintro _ w2 ⟨rfl, g2⟩
  have g2z := g2.size
  obtain ⟨lt, t0, t1, t2, t3, y0, y1, y2, y3⟩ := T4.keep g2
  have HB2 : Hid (Below w.heap.size w w2) := Lib.hid (HB4.out.trans (g2.mono HB4.out.size))
  have hz4 := HB4.out.size
  clear T4 g2 HB4
  go_wp2_with fail
  refine nameV (P := fun W => Calls Tryd.prog 14 #[.agg #[.int .i64 op, .int .i64 a, .string n, .string m], .agg #[.int .i64 op, .int .i64 a, .string n, .string m]] W _) _ (fun w5 hw5 => ?_)
  have hB25 : Below w2.heap.size w2 w5 := by rw [hw5]; clear HB2; (repeat' (first | (with_reducible exact Below.refl _ _) | (with_reducible refine Below.alloc ?_ ?_ _) | (with_reducible refine Below.setCell ?_ ?_ _) | (with_reducible refine Below.drew ?_) | (refine below_hyp (by assumption) ?_ ?_) | go_size))
  have HB5 : Hid (Below w.heap.size w w5) := Lib.hid (HB2.out.trans (hB25.mono HB2.out.size))
  clear hw5 hB25
  refine (L_eqClsIns op a n m w5).mono ?_
  rintro _ w3 ⟨rfl, g3⟩
  have g3z := g3.size
  have HB3 : Below w.heap.size w w3 := HB5.out.trans (g3.mono HB5.out.size)
  clear g3 HB5 HB2
  cases q <;> go_wp2
  all_goals (try go_returns)
  all_goals exact HR.out _ _ ⟨rfl, by (repeat' (first | (with_reducible exact Below.refl _ _) | (with_reducible refine Below.alloc ?_ ?_ _) | (with_reducible refine Below.setCell ?_ ?_ _) | (with_reducible refine Below.drew ?_) | (refine below_hyp (by assumption) ?_ ?_) | go_size))⟩

end Go.Proofs.YtmbfpbgkchncgaaDoor
