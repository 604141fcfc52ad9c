

/-
  The walk of the law FnExactInsText. Condition: the library's table of powers of ten holds what its text lays; the texts are no longer than a text may be.
-/
import Derived.Test.YtchhappoidncjaaDoorNumI
namespace Go.Proofs.YtchhappoidncjaaDoor
set_option linter.unusedSimpArgs false
set_option linter.unusedVariables false
open Go.RowKit

set_option maxHeartbeats 2000000 in
theorem L_szClsIns (op a : Int) (n m : ByteArray) (l : Int) (w : World) (b1 : n.size ≤ maxLen) (b2 : m.size ≤ maxLen) (hl : 0 ≤ l ∧ l ≤ 1048576) :
    Calls Tryd.prog 4 #[.agg #[.int .i64 op, .int .i64 a, .string n, .string m], .int .i64 l] w fun e w' => (∃ r : Int, e = .returned (.int .i64 r)) ∧ Below w.heap.size w w' := by
  have m1 : n.size ≤ 9223372036854775807 := by unfold maxLen at b1; omega
  have m2 : m.size ≤ 9223372036854775807 := by unfold maxLen at b2; omega
  obtain ⟨hl1, hl2⟩ := hl
  refine calls_hide fun R HR => ?_
  go_enter Tryd.func4, Tryd.ntmps4
  go_wp2
  all_goals (try go_returns)
  all_goals exact HR.out _ _ ⟨⟨_, rfl⟩, by (repeat' (first | (with_reducible exact Below.refl _ _) | (with_reducible refine Below.alloc ?_ ?_ _) | (with_reducible refine Below.setCell ?_ ?_ _) | (with_reducible refine Below.drew ?_) | (refine below_hyp (by assumption) ?_ ?_) | go_size))⟩

set_option maxHeartbeats 2000000 in
theorem L_toClsIns (op a : Int) (n m : ByteArray) (w : World) :
    Calls Tryd.prog 6 #[.agg #[.int .i64 op, .int .i64 a, .string n, .string m]] w fun e w' => e = .returned (.agg #[.int .i64 op, .int .i64 a, .string n, .string m]) ∧ Below w.heap.size w w' := by
  refine calls_hide fun R HR => ?_
  go_enter Tryd.func6, Tryd.ntmps6
  go_wp2
  all_goals
    refine bodyPost_ret (v := ?_) ?hrun rfl ?_
    case hrun => (simp only [results, Tryd.results6]; go_simp; first | done | exact rfl)
    exact HR.out _ _ ⟨rfl, by (repeat' (first | (with_reducible exact Below.refl _ _) | (with_reducible refine Below.alloc ?_ ?_ _) | (with_reducible refine Below.setCell ?_ ?_ _) | (with_reducible refine Below.drew ?_) | (refine below_hyp (by assumption) ?_ ?_) | go_size))⟩

set_option maxRecDepth 100000 in
set_option maxHeartbeats 8000000 in
theorem L_FnExactInsText (op a : Int) (n m : ByteArray) (w : World) (b1 : n.size ≤ maxLen) (b2 : m.size ≤ maxLen) (ht : Tab w) :
    Calls Tryd.prog 3 #[.agg #[.int .i64 op, .int .i64 a, .string n, .string m]] w fun e w' => e = .returned (.bool true) ∧ Below w.heap.size w w' := by
  have HT := Lib.hid ht
  obtain ⟨z, hz⟩ : ∃ z, z = tx (insTxt op a n m) := ⟨_, rfl⟩
  have SA : ∀ W, Calls Tryd.prog 5 #[.agg #[.int .i64 op, .int .i64 a, .string n, .string m]] W fun e w' => e = .returned (.string z) ∧ Below W.heap.size W w' := fun W => by rw [hz]; exact S_InsText op a n m W b1 b2
  have IA : ∀ W, Below w.heap.size w W → Calls Tryd.prog 7 #[.agg #[.int .i64 op, .int .i64 a, .string n, .string m]] W fun e w' => e = .returned (.string z) ∧ Below W.heap.size W w' := fun W hW => by rw [hz]; exact I_InsText op a n m W b1 b2 (HT.out.below hW)
  clear hz ht
  refine calls_hide fun R HR => ?_
  go_enter Tryd.func3, Tryd.ntmps3
  go_wp2_with fail
  refine (L_szClsIns op a n m _ _ b1 b2 ⟨by omega, by omega⟩).mono ?_
  rintro _ w1 ⟨⟨r, rfl⟩, g1⟩
  have g1s := (g1).size; (try simp only [World.size_alloc, World.size_setCell, World.size_drew] at g1s)
  obtain ⟨g1ac, g1ad, g1ao, g1af, g1ag, g1ap, g1az, g1ax, g1ay⟩ := bfacts (n := w.heap.size) (k := 1) g1 (by go_size) (by go_size); replace g1ad := g1ad (by decide); replace g1ag := g1ag (by decide); replace g1ax := g1ax (by decide); clear g1ac g1af g1az
  by_cases hr : r < 0
  · go_wp2
    all_goals (try go_returns)
    all_goals exact HR.out _ _ ⟨rfl, by (repeat' (first | (with_reducible exact Below.refl _ _) | (with_reducible refine Below.alloc ?_ ?_ _) | (with_reducible refine Below.setCell ?_ ?_ _) | (with_reducible refine Below.drew ?_) | (refine below_hyp (by assumption) ?_ ?_) | go_size))⟩
  go_wp2_with fail
  refine (L_toClsIns op a n m _).mono ?_
  rintro _ w2 ⟨rfl, g2⟩
  have g2s := (g2).size; (try simp only [World.size_alloc, World.size_setCell, World.size_drew] at g2s)
  obtain ⟨g2ac, g2ad, g2ao, g2af, g2ag, g2ap, g2az, g2ax, g2ay⟩ := bfacts (n := w.heap.size) (k := 1) g2 (by go_size) (by go_size); replace g2ad := g2ad (by decide); replace g2ag := g2ag (by decide); replace g2ax := g2ax (by decide); clear g2ac g2af g2az
  go_wp2_with fail
  refine (SA _).mono ?_
  rintro _ w3 ⟨rfl, g3⟩
  have g3s := (g3).size; (try simp only [World.size_alloc, World.size_setCell, World.size_drew] at g3s)
  obtain ⟨g3ac, g3ad, g3ao, g3af, g3ag, g3ap, g3az, g3ax, g3ay⟩ := bfacts (n := w.heap.size) (k := 1) g3 (by go_size) (by go_size); replace g3ad := g3ad (by decide); replace g3ag := g3ag (by decide); replace g3ax := g3ax (by decide); clear g3ac g3af g3az
  go_wp2_with fail
  refine (L_toClsIns op a n m _).mono ?_
  rintro _ w4 ⟨rfl, g4⟩
  have g4s := (g4).size; (try simp only [World.size_alloc, World.size_setCell, World.size_drew] at g4s)
  obtain ⟨g4ac, g4ad, g4ao, g4af, g4ag, g4ap, g4az, g4ax, g4ay⟩ := bfacts (n := w.heap.size) (k := 1) g4 (by go_size) (by go_size); replace g4ad := g4ad (by decide); replace g4ag := g4ag (by decide); replace g4ax := g4ax (by decide); clear g4ac g4af g4az
  go_wp2_with fail
  refine (IA _ (by (repeat' (first | (with_reducible exact Below.refl _ _) | (with_reducible refine Below.alloc ?_ ?_ _) | (with_reducible refine Below.setCell ?_ ?_ _) | (with_reducible refine Below.drew ?_) | (refine below_hyp (by assumption) ?_ ?_) | go_size)))).mono ?_
  rintro _ w5 ⟨rfl, g5⟩
  have g5s := (g5).size; (try simp only [World.size_alloc, World.size_setCell, World.size_drew] at g5s)
  have zz : (z.toList == z.toList) = true := by simp
  go_wp2
  all_goals (try go_returns)
  all_goals exact HR.out _ _ ⟨rfl, by (repeat' (first | (with_reducible exact Below.refl _ _) | (with_reducible refine Below.alloc ?_ ?_ _) | (with_reducible refine Below.setCell ?_ ?_ _) | (with_reducible refine Below.drew ?_) | (refine below_hyp (by assumption) ?_ ?_) | go_size))⟩

end Go.Proofs.YtchhappoidncjaaDoor
