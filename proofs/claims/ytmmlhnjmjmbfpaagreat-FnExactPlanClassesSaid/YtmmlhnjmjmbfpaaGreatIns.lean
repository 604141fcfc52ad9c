

/-
  The walks of InsOk and of what it calls, of the reference and of the program. Condition: the texts are no longer than a text may be.
-/
import Derived.Test.YtmmlhnjmjmbfpaaGreatName
import Derived.Deep.RegionHeld3
namespace Go.Proofs.YtmmlhnjmjmbfpaaGreat
set_option linter.unusedSimpArgs false
set_option linter.unusedVariables false
open Go.RowKit

/-- an instruction that is ok by itself -/
def insOk (op a : Int) (n m : ByteArray) : Bool :=
  if op == 1 then decide (-9999 ≤ a) && decide (a ≤ 9999) && n.toList.isEmpty && m.toList.isEmpty
  else if op == 2 || op == 3 then decide (0 ≤ a) && decide (a ≤ 5) && n.toList.isEmpty && m.toList.isEmpty
  else if op == 11 || op == 12 || op == 13 then decide (0 ≤ a) && decide (a ≤ 15) && n.toList.isEmpty && m.toList.isEmpty
  else if op == 6 || op == 15 then a == 0 && namOk n && m.toList.isEmpty
  else if op == 7 || op == 8 || op == 9 then a == 0 && namOk n && namOk m
  else (op == 4 || op == 5 || op == 10 || op == 14) && a == 0 && n.toList.isEmpty && m.toList.isEmpty

set_option maxHeartbeats 400000 in
theorem S_l1In (a lo hi : Int) (w : World) :
    Calls Tryz.prog 32 #[.int .i64 a, .int .i64 lo, .int .i64 hi] w fun e w' => e = .returned (.bool (decide (lo ≤ a) && decide (a ≤ hi))) ∧ w = w' := by
  refine calls_hide fun R HR => ?_
  go_enter Tryz.func32, Tryz.ntmps32
  go_wp2
  go_ways
  all_goals (try go_returns)
  all_goals exact HR.out _ _ ⟨ret_bool (by first | (simp [true_and, *]; done) | (simp_all [true_and]; done) | (simp_all [true_and]; omega) | (simp [true_and, *]; intros; omega)), rfl⟩

set_option maxHeartbeats 2000000 in
theorem S_InsOk (op a : Int) (n m : ByteArray) (w : World) (hn : n.size ≤ maxLen) (hm : m.size ≤ maxLen) :
    Calls Tryz.prog 100 #[.agg #[.int .i64 op, .int .i64 a, .string n, .string m]] w fun e w' => e = .returned (.bool (insOk op a n m)) ∧ Below w.heap.size w w' := by
  refine calls_hide fun R HR => ?_
  go_enter Tryz.func100, Tryz.ntmps100
  go_wp2_with (first | (go_at_call 32; refine (S_l1In _ _ _ _).mono ?_; rintro _ _ ⟨rfl, rfl⟩) | (go_at_call 33; refine (S_NamOk _ _ ?_).mono ?_; (first | exact hn | exact hm); rintro _ _ ⟨rfl, rfl⟩))
  all_goals (try go_returns)
  all_goals exact HR.out _ _ ⟨ret_bool (by first | (simp [insOk, *]; done) | (simp_all [insOk]; done) | (simp_all [insOk]; omega) | (simp [insOk, *]; intros; omega)), by (repeat' (first | (with_reducible exact Below.refl _ _) | (with_reducible refine Below.alloc ?_ ?_ _) | (with_reducible refine Below.setCell ?_ ?_ _) | (with_reducible refine Below.drew ?_) | (refine below_hyp (by assumption) ?_ ?_) | go_size))⟩

end Go.Proofs.YtmmlhnjmjmbfpaaGreat
