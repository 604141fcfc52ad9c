

/-
  The walks of KndOk, TagOk and of what they call, of the reference and of the program. Condition: the texts are no longer than a text may be.
-/
import Derived.Test.YtejfecmmcghpmaaName
namespace Go.Proofs.Ytejfecmmcghpmaa
set_option linter.unusedSimpArgs false
set_option linter.unusedVariables false
open Go.RowKit

set_option maxHeartbeats 400000 in
theorem S_KndOk (k : Int) (n : ByteArray) (w : World) (hn : n.size ≤ maxLen) :
    Calls Try.prog 45 #[.agg #[.int .i64 k, .string n]] w fun e w' => e = .returned (.bool (kndOk k n)) ∧ Below w.heap.size w w' := by
  refine calls_hide fun R HR => ?_
  go_enter Try.func45, Try.ntmps45
  go_wp2_with (go_at_call 44; refine (S_NamOk _ _ hn).mono ?_; rintro e w' ⟨rfl, rfl⟩)
  all_goals (try go_returns)
  all_goals exact HR.out _ _ ⟨ret_bool (by first | (simp [kndOk, *]; done) | (simp_all [kndOk]; done) | (simp_all [kndOk]; omega) | (simp [kndOk, *]; intros; omega)), by (repeat' (first | (with_reducible exact Below.refl _ _) | (with_reducible refine Below.alloc ?_ ?_ _) | (with_reducible refine Below.setCell ?_ ?_ _) | (with_reducible refine Below.drew ?_) | (refine below_hyp (by assumption) ?_ ?_) | go_size))⟩

/-- the shape of a kind, as a value of the interface type -/
def shapeV (k : Int) (n : ByteArray) : Value := if k == 1 && n.toList.isEmpty then .iface 168 (.agg #[]) else if k == 2 && namOk n then .iface 170 (.agg #[.string n]) else .nilIface

set_option maxHeartbeats 400000 in
theorem I_shapeOf (k : Int) (n : ByteArray) (w : World) (hn : n.size ≤ maxLen) :
    Calls Try.prog 86 #[.agg #[.int .i64 k, .string n]] w fun e w' => e = .returned (shapeV k n) ∧ Below w.heap.size w w' := by
  refine calls_hide fun R HR => ?_
  go_enter Try.func86, Try.ntmps86
  go_wp2_with (go_at_call 85; refine (I_word_ok _ _ hn).mono ?_; rintro e w' ⟨rfl, rfl⟩)
  all_goals (try go_returns)
  all_goals exact HR.out _ _ ⟨ret_val (by first | (simp [shapeV, *]; done) | (simp_all [shapeV]; done) | (simp_all [shapeV]; omega) | (simp [shapeV, *]; intros; omega)), by (repeat' (first | (with_reducible exact Below.refl _ _) | (with_reducible refine Below.alloc ?_ ?_ _) | (with_reducible refine Below.setCell ?_ ?_ _) | (with_reducible refine Below.drew ?_) | (refine below_hyp (by assumption) ?_ ?_) | go_size))⟩

theorem neq_shape (k : Int) (n : ByteArray) (w : World) : (binOp .neq 139 (shapeV k n) .nilIface).run Try.prog w = .ok (.bool (kndOk k n)) w := by
  unfold shapeV kndOk
  cases (k == 1 && n.toList.isEmpty) <;> cases (k == 2 && namOk n) <;> simp [go_sem]
theorem grd_shape (k : Int) (n : ByteArray) (x : Operand) (w : World) : (eqGuard .neq 139 x (.const .nilIface) (shapeV k n) .nilIface).run Try.prog w = .ok () w := by
  unfold shapeV
  cases (k == 1 && n.toList.isEmpty) <;> cases (k == 2 && namOk n) <;> simp [go_sem, eqGuard]

set_option maxHeartbeats 400000 in
theorem I_KndOk (k : Int) (n : ByteArray) (w : World) (hn : n.size ≤ maxLen) :
    Calls Try.prog 54 #[.agg #[.int .i64 k, .string n]] w fun e w' => e = .returned (.bool (kndOk k n)) ∧ Below w.heap.size w w' := by
  have hq := neq_shape k n
  have hg := grd_shape k n
  refine calls_hide fun R HR => ?_
  go_enter Try.func54, Try.ntmps54
  go_wp2_with (go_at_call 86; refine (I_shapeOf _ _ _ hn).mono ?_; rintro e w' ⟨rfl, hb⟩)
  all_goals (try go_returns)
  all_goals exact HR.out _ _ ⟨rfl, by (repeat' (first | (with_reducible exact Below.refl _ _) | (with_reducible refine Below.alloc ?_ ?_ _) | (with_reducible refine Below.setCell ?_ ?_ _) | (with_reducible refine Below.drew ?_) | (refine below_hyp (by assumption) ?_ ?_) | go_size))⟩

set_option maxHeartbeats 400000 in
theorem S_TagOk (k : Int) (n : ByteArray) (w : World) (hn : n.size ≤ maxLen) :
    Calls Try.prog 99 #[.agg #[.int .i64 k, .string n]] w fun e w' => e = .returned (.bool (tagOk k n)) ∧ Below w.heap.size w w' := by
  refine calls_hide fun R HR => ?_
  go_enter Try.func99, Try.ntmps99
  go_wp2_with (go_at_call 44; refine (S_NamOk _ _ hn).mono ?_; rintro e w' ⟨rfl, rfl⟩)
  all_goals (try go_returns)
  all_goals exact HR.out _ _ ⟨ret_bool (by first | (simp [tagOk, *]; done) | (simp_all [tagOk]; done) | (simp_all [tagOk]; omega) | (simp [tagOk, *]; intros; omega)), by (repeat' (first | (with_reducible exact Below.refl _ _) | (with_reducible refine Below.alloc ?_ ?_ _) | (with_reducible refine Below.setCell ?_ ?_ _) | (with_reducible refine Below.drew ?_) | (refine below_hyp (by assumption) ?_ ?_) | go_size))⟩

set_option maxHeartbeats 400000 in
theorem I_TagOk (k : Int) (n : ByteArray) (w : World) (hn : n.size ≤ maxLen) :
    Calls Try.prog 104 #[.agg #[.int .i64 k, .string n]] w fun e w' => e = .returned (.bool (tagOk k n)) ∧ Below w.heap.size w w' := by
  refine calls_hide fun R HR => ?_
  go_enter Try.func104, Try.ntmps104
  go_wp2_with (go_at_call 53; refine (I_NamOk _ _ hn).mono ?_; rintro e w' ⟨rfl, rfl⟩)
  all_goals (try go_returns)
  all_goals exact HR.out _ _ ⟨ret_bool (by first | (simp [tagOk, *]; done) | (simp_all [tagOk]; done) | (simp_all [tagOk]; omega) | (simp [tagOk, *]; intros; omega)), by (repeat' (first | (with_reducible exact Below.refl _ _) | (with_reducible refine Below.alloc ?_ ?_ _) | (with_reducible refine Below.setCell ?_ ?_ _) | (with_reducible refine Below.drew ?_) | (refine below_hyp (by assumption) ?_ ?_) | go_size))⟩

end Go.Proofs.Ytejfecmmcghpmaa
