

/-
  The walks of KndOk, TagOk and of what they call, of the reference and of the program. Condition: the texts are no longer than a text may be.
-/
import Derived.Test.YtmmlhnjmjmbfpaaGreatName
namespace Go.Proofs.YtmmlhnjmjmbfpaaGreat
set_option linter.unusedSimpArgs false
set_option linter.unusedVariables false
open Go.RowKit

set_option maxHeartbeats 400000 in
theorem S_KndOk (k : Int) (n : ByteArray) (w : World) (hn : n.size ≤ maxLen) :
    Calls Tryz.prog 76 #[.agg #[.int .i64 k, .string n]] w fun e w' => e = .returned (.bool (kndOk k n)) ∧ Below w.heap.size w w' := by
  refine calls_hide fun R HR => ?_
  go_enter Tryz.func76, Tryz.ntmps76
  go_wp2_with (go_at_call 33; refine (S_NamOk _ _ hn).mono ?_; rintro e w' ⟨rfl, rfl⟩)
  all_goals (try go_returns)
  all_goals exact HR.out _ _ ⟨ret_bool (by first | (simp [kndOk, *]; done) | (simp_all [kndOk]; done) | (simp_all [kndOk]; omega) | (simp [kndOk, *]; intros; omega)), by (repeat' (first | (with_reducible exact Below.refl _ _) | (with_reducible refine Below.alloc ?_ ?_ _) | (with_reducible refine Below.setCell ?_ ?_ _) | (with_reducible refine Below.drew ?_) | (refine below_hyp (by assumption) ?_ ?_) | go_size))⟩

/-- the shape of a kind, as a value of the interface type -/
def shapeV (k : Int) (n : ByteArray) : Value := if k == 1 && n.toList.isEmpty then .iface 165 (.agg #[]) else if k == 2 && namOk n then .iface 167 (.agg #[.string n]) else .nilIface

set_option maxHeartbeats 400000 in
theorem I_shapeOf (k : Int) (n : ByteArray) (w : World) (hn : n.size ≤ maxLen) :
    Calls Tryz.prog 84 #[.agg #[.int .i64 k, .string n]] w fun e w' => e = .returned (shapeV k n) ∧ Below w.heap.size w w' := by
  refine calls_hide fun R HR => ?_
  go_enter Tryz.func84, Tryz.ntmps84
  go_wp2_with (go_at_call 67; refine (I_word_ok _ _ hn).mono ?_; rintro e w' ⟨rfl, rfl⟩)
  all_goals (try go_returns)
  all_goals exact HR.out _ _ ⟨ret_val (by first | (simp [shapeV, *]; done) | (simp_all [shapeV]; done) | (simp_all [shapeV]; omega) | (simp [shapeV, *]; intros; omega)), by (repeat' (first | (with_reducible exact Below.refl _ _) | (with_reducible refine Below.alloc ?_ ?_ _) | (with_reducible refine Below.setCell ?_ ?_ _) | (with_reducible refine Below.drew ?_) | (refine below_hyp (by assumption) ?_ ?_) | go_size))⟩

theorem neq_shape (k : Int) (n : ByteArray) (w : World) : (binOp .neq 142 (shapeV k n) .nilIface).run Tryz.prog w = .ok (.bool (kndOk k n)) w := by
  unfold shapeV kndOk
  cases (k == 1 && n.toList.isEmpty) <;> cases (k == 2 && namOk n) <;> simp [go_sem]
theorem grd_shape (k : Int) (n : ByteArray) (x : Operand) (w : World) : (eqGuard .neq 142 x (.const .nilIface) (shapeV k n) .nilIface).run Tryz.prog w = .ok () w := by
  unfold shapeV
  cases (k == 1 && n.toList.isEmpty) <;> cases (k == 2 && namOk n) <;> simp [go_sem, eqGuard]

set_option maxHeartbeats 400000 in
theorem I_KndOk (k : Int) (n : ByteArray) (w : World) (hn : n.size ≤ maxLen) :
    Calls Tryz.prog 65 #[.agg #[.int .i64 k, .string n]] w fun e w' => e = .returned (.bool (kndOk k n)) ∧ Below w.heap.size w w' := by
  have hq := neq_shape k n
  have hg := grd_shape k n
  refine calls_hide fun R HR => ?_
  go_enter Tryz.func65, Tryz.ntmps65
  go_wp2_with (go_at_call 84; refine (I_shapeOf _ _ _ hn).mono ?_; rintro e w' ⟨rfl, hb⟩)
  all_goals (try go_returns)
  all_goals exact HR.out _ _ ⟨rfl, by (repeat' (first | (with_reducible exact Below.refl _ _) | (with_reducible refine Below.alloc ?_ ?_ _) | (with_reducible refine Below.setCell ?_ ?_ _) | (with_reducible refine Below.drew ?_) | (refine below_hyp (by assumption) ?_ ?_) | go_size))⟩

set_option maxHeartbeats 400000 in
theorem S_TagOk (k : Int) (n : ByteArray) (w : World) (hn : n.size ≤ maxLen) :
    Calls Tryz.prog 118 #[.agg #[.int .i64 k, .string n]] w fun e w' => e = .returned (.bool (tagOk k n)) ∧ Below w.heap.size w w' := by
  refine calls_hide fun R HR => ?_
  go_enter Tryz.func118, Tryz.ntmps118
  go_wp2_with (go_at_call 33; refine (S_NamOk _ _ hn).mono ?_; rintro e w' ⟨rfl, rfl⟩)
  all_goals (try go_returns)
  all_goals exact HR.out _ _ ⟨ret_bool (by first | (simp [tagOk, *]; done) | (simp_all [tagOk]; done) | (simp_all [tagOk]; omega) | (simp [tagOk, *]; intros; omega)), by (repeat' (first | (with_reducible exact Below.refl _ _) | (with_reducible refine Below.alloc ?_ ?_ _) | (with_reducible refine Below.setCell ?_ ?_ _) | (with_reducible refine Below.drew ?_) | (refine below_hyp (by assumption) ?_ ?_) | go_size))⟩

set_option maxHeartbeats 400000 in
theorem I_TagOk (k : Int) (n : ByteArray) (w : World) (hn : n.size ≤ maxLen) :
    Calls Tryz.prog 113 #[.agg #[.int .i64 k, .string n]] w fun e w' => e = .returned (.bool (tagOk k n)) ∧ Below w.heap.size w w' := by
  refine calls_hide fun R HR => ?_
  go_enter Tryz.func113, Tryz.ntmps113
  go_wp2_with (go_at_call 52; refine (I_NamOk _ _ hn).mono ?_; rintro e w' ⟨rfl, rfl⟩)
  all_goals (try go_returns)
  all_goals exact HR.out _ _ ⟨ret_bool (by first | (simp [tagOk, *]; done) | (simp_all [tagOk]; done) | (simp_all [tagOk]; omega) | (simp [tagOk, *]; intros; omega)), by (repeat' (first | (with_reducible exact Below.refl _ _) | (with_reducible refine Below.alloc ?_ ?_ _) | (with_reducible refine Below.setCell ?_ ?_ _) | (with_reducible refine Below.drew ?_) | (refine below_hyp (by assumption) ?_ ?_) | go_size))⟩

end Go.Proofs.YtmmlhnjmjmbfpaaGreat
