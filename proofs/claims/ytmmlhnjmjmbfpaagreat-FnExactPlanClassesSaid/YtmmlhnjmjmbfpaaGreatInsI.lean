

/-
  The walks of the program's InsOk and of what it calls. Condition: the texts are no longer than a text may be.
-/
import Derived.Test.YtmmlhnjmjmbfpaaGreatIns
namespace Go.Proofs.YtmmlhnjmjmbfpaaGreat
set_option linter.unusedSimpArgs false
set_option linter.unusedVariables false
open Go.RowKit

def opNum (op : Int) : Bool := op == 1 || op == 2 || op == 3 || op == 11 || op == 12 || op == 13
def opCls (op : Int) : Bool := op == 6 || op == 15
def opMem (op : Int) : Bool := op == 7 || op == 8 || op == 9
def opPln (op : Int) : Bool := op == 4 || op == 5 || op == 10 || op == 14
/-- the form of an instruction, as a value of the interface type -/
def formV (op a : Int) (n m : ByteArray) : Value :=
  if opNum op then .iface 198 (.agg #[.int .i64 op, .int .i64 a])
  else if opCls op then .iface 200 (.agg #[.int .i64 op, .string n])
  else if opMem op then .iface 202 (.agg #[.int .i64 op, .string n, .string m])
  else if opPln op then .iface 204 (.agg #[.int .i64 op])
  else .nilIface

set_option maxHeartbeats 2000000 in
theorem I_formOf (op a : Int) (n m : ByteArray) (w : World) :
    Calls Tryz.prog 110 #[.agg #[.int .i64 op, .int .i64 a, .string n, .string m]] w fun e w' => e = .returned (formV op a n m) ∧ Below w.heap.size w w' := by
  refine calls_hide fun R HR => ?_
  go_enter Tryz.func110, Tryz.ntmps110
  go_wp2
  all_goals (try go_returns)
  all_goals exact HR.out _ _ ⟨ret_val (by first | (simp [formV, opNum, opCls, opMem, opPln, *]; done) | (simp_all [formV, opNum, opCls, opMem, opPln]; done)), by (repeat' (first | (with_reducible exact Below.refl _ _) | (with_reducible refine Below.alloc ?_ ?_ _) | (with_reducible refine Below.setCell ?_ ?_ _) | (with_reducible refine Below.drew ?_) | (refine below_hyp (by assumption) ?_ ?_) | go_size))⟩

@[go_sem ↓] theorem ta_num_num (v : Value) (w : World) : (Instr.typeAssert (.iface 198 v) 20 198 true).run Tryz.prog w = .ok (.tuple #[v, .bool true]) w := by kernel_rfl
@[go_sem ↓] theorem ta_num_cls (v : Value) (w : World) : (Instr.typeAssert (.iface 198 v) 20 200 true).run Tryz.prog w = .ok (.tuple #[.agg #[.int .i64 0, .string ⟨#[]⟩], .bool false]) w := by kernel_rfl
@[go_sem ↓] theorem ta_num_mem (v : Value) (w : World) : (Instr.typeAssert (.iface 198 v) 20 202 true).run Tryz.prog w = .ok (.tuple #[.agg #[.int .i64 0, .string ⟨#[]⟩, .string ⟨#[]⟩], .bool false]) w := by kernel_rfl
@[go_sem ↓] theorem ta_num_pln (v : Value) (w : World) : (Instr.typeAssert (.iface 198 v) 20 204 true).run Tryz.prog w = .ok (.tuple #[.agg #[.int .i64 0], .bool false]) w := by kernel_rfl
@[go_sem ↓] theorem ta_cls_num (v : Value) (w : World) : (Instr.typeAssert (.iface 200 v) 20 198 true).run Tryz.prog w = .ok (.tuple #[.agg #[.int .i64 0, .int .i64 0], .bool false]) w := by kernel_rfl
@[go_sem ↓] theorem ta_cls_cls (v : Value) (w : World) : (Instr.typeAssert (.iface 200 v) 20 200 true).run Tryz.prog w = .ok (.tuple #[v, .bool true]) w := by kernel_rfl
@[go_sem ↓] theorem ta_cls_mem (v : Value) (w : World) : (Instr.typeAssert (.iface 200 v) 20 202 true).run Tryz.prog w = .ok (.tuple #[.agg #[.int .i64 0, .string ⟨#[]⟩, .string ⟨#[]⟩], .bool false]) w := by kernel_rfl
@[go_sem ↓] theorem ta_cls_pln (v : Value) (w : World) : (Instr.typeAssert (.iface 200 v) 20 204 true).run Tryz.prog w = .ok (.tuple #[.agg #[.int .i64 0], .bool false]) w := by kernel_rfl
@[go_sem ↓] theorem ta_mem_num (v : Value) (w : World) : (Instr.typeAssert (.iface 202 v) 20 198 true).run Tryz.prog w = .ok (.tuple #[.agg #[.int .i64 0, .int .i64 0], .bool false]) w := by kernel_rfl
@[go_sem ↓] theorem ta_mem_cls (v : Value) (w : World) : (Instr.typeAssert (.iface 202 v) 20 200 true).run Tryz.prog w = .ok (.tuple #[.agg #[.int .i64 0, .string ⟨#[]⟩], .bool false]) w := by kernel_rfl
@[go_sem ↓] theorem ta_mem_mem (v : Value) (w : World) : (Instr.typeAssert (.iface 202 v) 20 202 true).run Tryz.prog w = .ok (.tuple #[v, .bool true]) w := by kernel_rfl
@[go_sem ↓] theorem ta_mem_pln (v : Value) (w : World) : (Instr.typeAssert (.iface 202 v) 20 204 true).run Tryz.prog w = .ok (.tuple #[.agg #[.int .i64 0], .bool false]) w := by kernel_rfl
@[go_sem ↓] theorem ta_pln_num (v : Value) (w : World) : (Instr.typeAssert (.iface 204 v) 20 198 true).run Tryz.prog w = .ok (.tuple #[.agg #[.int .i64 0, .int .i64 0], .bool false]) w := by kernel_rfl
@[go_sem ↓] theorem ta_pln_cls (v : Value) (w : World) : (Instr.typeAssert (.iface 204 v) 20 200 true).run Tryz.prog w = .ok (.tuple #[.agg #[.int .i64 0, .string ⟨#[]⟩], .bool false]) w := by kernel_rfl
@[go_sem ↓] theorem ta_pln_mem (v : Value) (w : World) : (Instr.typeAssert (.iface 204 v) 20 202 true).run Tryz.prog w = .ok (.tuple #[.agg #[.int .i64 0, .string ⟨#[]⟩, .string ⟨#[]⟩], .bool false]) w := by kernel_rfl
@[go_sem ↓] theorem ta_pln_pln (v : Value) (w : World) : (Instr.typeAssert (.iface 204 v) 20 204 true).run Tryz.prog w = .ok (.tuple #[v, .bool true]) w := by kernel_rfl


set_option maxHeartbeats 400000 in
theorem I_insOf_num (op a : Int) (n m : ByteArray) (w : World) :
    Calls Tryz.prog 111 #[.iface 198 (.agg #[.int .i64 op, .int .i64 a])] w fun e w' => e = .returned (.agg #[.int .i64 op, .int .i64 a, .string ⟨#[]⟩, .string ⟨#[]⟩]) ∧ Below w.heap.size w w' := by
  refine calls_hide fun R HR => ?_
  go_enter Tryz.func111, Tryz.ntmps111
  go_wp2
  all_goals
    refine bodyPost_ret (v := ?_) ?hrun rfl ?_
    case hrun => (simp only [results, Tryz.results111]; go_simp; first | done | exact rfl)
    exact HR.out _ _ ⟨rfl, by (repeat' (first | (with_reducible exact Below.refl _ _) | (with_reducible refine Below.alloc ?_ ?_ _) | (with_reducible refine Below.setCell ?_ ?_ _) | (with_reducible refine Below.drew ?_) | (refine below_hyp (by assumption) ?_ ?_) | go_size))⟩

set_option maxHeartbeats 400000 in
theorem I_insOf_cls (op a : Int) (n m : ByteArray) (w : World) :
    Calls Tryz.prog 111 #[.iface 200 (.agg #[.int .i64 op, .string n])] w fun e w' => e = .returned (.agg #[.int .i64 op, .int .i64 0, .string n, .string ⟨#[]⟩]) ∧ Below w.heap.size w w' := by
  refine calls_hide fun R HR => ?_
  go_enter Tryz.func111, Tryz.ntmps111
  go_wp2
  all_goals
    refine bodyPost_ret (v := ?_) ?hrun rfl ?_
    case hrun => (simp only [results, Tryz.results111]; go_simp; first | done | exact rfl)
    exact HR.out _ _ ⟨rfl, by (repeat' (first | (with_reducible exact Below.refl _ _) | (with_reducible refine Below.alloc ?_ ?_ _) | (with_reducible refine Below.setCell ?_ ?_ _) | (with_reducible refine Below.drew ?_) | (refine below_hyp (by assumption) ?_ ?_) | go_size))⟩

set_option maxHeartbeats 400000 in
theorem I_insOf_mem (op a : Int) (n m : ByteArray) (w : World) :
    Calls Tryz.prog 111 #[.iface 202 (.agg #[.int .i64 op, .string n, .string m])] w fun e w' => e = .returned (.agg #[.int .i64 op, .int .i64 0, .string n, .string m]) ∧ Below w.heap.size w w' := by
  refine calls_hide fun R HR => ?_
  go_enter Tryz.func111, Tryz.ntmps111
  go_wp2
  all_goals
    refine bodyPost_ret (v := ?_) ?hrun rfl ?_
    case hrun => (simp only [results, Tryz.results111]; go_simp; first | done | exact rfl)
    exact HR.out _ _ ⟨rfl, by (repeat' (first | (with_reducible exact Below.refl _ _) | (with_reducible refine Below.alloc ?_ ?_ _) | (with_reducible refine Below.setCell ?_ ?_ _) | (with_reducible refine Below.drew ?_) | (refine below_hyp (by assumption) ?_ ?_) | go_size))⟩

set_option maxHeartbeats 400000 in
theorem I_insOf_pln (op a : Int) (n m : ByteArray) (w : World) :
    Calls Tryz.prog 111 #[.iface 204 (.agg #[.int .i64 op])] w fun e w' => e = .returned (.agg #[.int .i64 op, .int .i64 0, .string ⟨#[]⟩, .string ⟨#[]⟩]) ∧ Below w.heap.size w w' := by
  refine calls_hide fun R HR => ?_
  go_enter Tryz.func111, Tryz.ntmps111
  go_wp2
  all_goals
    refine bodyPost_ret (v := ?_) ?hrun rfl ?_
    case hrun => (simp only [results, Tryz.results111]; go_simp; first | done | exact rfl)
    exact HR.out _ _ ⟨rfl, by (repeat' (first | (with_reducible exact Below.refl _ _) | (with_reducible refine Below.alloc ?_ ?_ _) | (with_reducible refine Below.setCell ?_ ?_ _) | (with_reducible refine Below.drew ?_) | (refine below_hyp (by assumption) ?_ ?_) | go_size))⟩

def rangeLo (op : Int) : Int := if op == 1 then -9999 else 0
def rangeHi (op : Int) : Int := if op == 1 then 9999 else if op == 2 || op == 3 then 5 else 15

set_option maxHeartbeats 400000 in
theorem I_numRange (op : Int) (w : World) :
    Calls Tryz.prog 123 #[.int .i64 op] w fun e w' => e = .returned (.tuple #[.int .i64 (rangeLo op), .int .i64 (rangeHi op)]) ∧ w = w' := by
  refine calls_hide fun R HR => ?_
  go_enter Tryz.func123, Tryz.ntmps123
  go_wp2
  all_goals (try go_returns)
  all_goals exact HR.out _ _ ⟨ret_val (by simp [rangeLo, rangeHi, *]), rfl⟩

set_option maxHeartbeats 400000 in
theorem I_formOk_num (op a : Int) (w : World) :
    Calls Tryz.prog 112 #[.iface 198 (.agg #[.int .i64 op, .int .i64 a])] w fun e w' => e = .returned (.bool (decide (rangeLo op ≤ a) && decide (a ≤ rangeHi op))) ∧ Below w.heap.size w w' := by
  refine calls_hide fun R HR => ?_
  go_enter Tryz.func112, Tryz.ntmps112
  go_wp2_with (go_at_call 123; refine (I_numRange _ _).mono ?_; rintro _ _ ⟨rfl, rfl⟩)
  all_goals (try go_returns)
  all_goals exact HR.out _ _ ⟨ret_bool (by first | (simp [true_and, *]; done) | (simp_all [true_and]; done) | (simp_all [true_and]; omega) | (simp [true_and, *]; intros; omega)), by (repeat' (first | (with_reducible exact Below.refl _ _) | (with_reducible refine Below.alloc ?_ ?_ _) | (with_reducible refine Below.setCell ?_ ?_ _) | (with_reducible refine Below.drew ?_) | (refine below_hyp (by assumption) ?_ ?_) | go_size))⟩

set_option maxHeartbeats 400000 in
theorem I_formOk_cls (op : Int) (n : ByteArray) (w : World) (hn : n.size ≤ maxLen) :
    Calls Tryz.prog 112 #[.iface 200 (.agg #[.int .i64 op, .string n])] w fun e w' => e = .returned (.bool (namOk n)) ∧ Below w.heap.size w w' := by
  refine calls_hide fun R HR => ?_
  go_enter Tryz.func112, Tryz.ntmps112
  go_wp2_with (go_at_call 67; refine (I_word_ok _ _ hn).mono ?_; rintro _ _ ⟨rfl, rfl⟩)
  all_goals (try go_returns)
  all_goals exact HR.out _ _ ⟨rfl, by (repeat' (first | (with_reducible exact Below.refl _ _) | (with_reducible refine Below.alloc ?_ ?_ _) | (with_reducible refine Below.setCell ?_ ?_ _) | (with_reducible refine Below.drew ?_) | (refine below_hyp (by assumption) ?_ ?_) | go_size))⟩

set_option maxHeartbeats 400000 in
theorem I_formOk_mem (op : Int) (n m : ByteArray) (w : World) (hn : n.size ≤ maxLen) (hm : m.size ≤ maxLen) :
    Calls Tryz.prog 112 #[.iface 202 (.agg #[.int .i64 op, .string n, .string m])] w fun e w' => e = .returned (.bool (namOk n && namOk m)) ∧ Below w.heap.size w w' := by
  refine calls_hide fun R HR => ?_
  go_enter Tryz.func112, Tryz.ntmps112
  go_wp2_with (go_at_call 67; refine (I_word_ok _ _ ?_).mono ?_; (first | exact hn | exact hm); rintro _ _ ⟨rfl, rfl⟩)
  all_goals (try go_returns)
  all_goals exact HR.out _ _ ⟨ret_bool (by first | (simp [true_and, *]; done) | (simp_all [true_and]; done) | (simp_all [true_and]; omega) | (simp [true_and, *]; intros; omega)), by (repeat' (first | (with_reducible exact Below.refl _ _) | (with_reducible refine Below.alloc ?_ ?_ _) | (with_reducible refine Below.setCell ?_ ?_ _) | (with_reducible refine Below.drew ?_) | (refine below_hyp (by assumption) ?_ ?_) | go_size))⟩

set_option maxHeartbeats 400000 in
theorem I_formOk_pln (op : Int) (w : World) :
    Calls Tryz.prog 112 #[.iface 204 (.agg #[.int .i64 op])] w fun e w' => e = .returned (.bool true) ∧ Below w.heap.size w w' := by
  refine calls_hide fun R HR => ?_
  go_enter Tryz.func112, Tryz.ntmps112
  go_wp2
  all_goals (try go_returns)
  all_goals exact HR.out _ _ ⟨rfl, by (repeat' (first | (with_reducible exact Below.refl _ _) | (with_reducible refine Below.alloc ?_ ?_ _) | (with_reducible refine Below.setCell ?_ ?_ _) | (with_reducible refine Below.drew ?_) | (refine below_hyp (by assumption) ?_ ?_) | go_size))⟩

@[go_sem] theorem eg_ins : Tryz.prog.eqGuardType Tryz.prog.depth 147 = false := by kernel_rfl
@[go_sem] theorem eq_ins (a1 a2 b1 b2 : Int) (a3 a4 b3 b4 : ByteArray) (w : World) : (Op.equalIn 10000 147 (.agg #[.int .i64 a1, .int .i64 a2, .string a3, .string a4]) (.agg #[.int .i64 b1, .int .i64 b2, .string b3, .string b4])).run Tryz.prog w = .ok (a1 == b1 && a2 == b2 && a3.toList == b3.toList && a4.toList == b4.toList) w := by
  have iu3 := Tryz.underlying3
  have ia3 := Tryz.isAgg3
  have iz3 := Tryz.sizeOf3
  have iu9 := Tryz.underlying9
  have ia9 := Tryz.isAgg9
  have iz9 := Tryz.sizeOf9
  have hS : Tryz.prog.underlying 147 = some (.struct (Tryz.prog.fieldsOf 147)) := by kernel_rfl
  have hp : Tryz.prog.stoodInHeld 147 = false := by kernel_rfl
  rw [show (10000 : Nat) = 9999 + 1 from rfl, run_equalIn_agg w 9999 147 _ _ hS hp]
  simp only [Program.fieldsOf, Tryz.underlying147]
  go_simp
  by_cases h1 : a1 = b1 <;> by_cases h2 : a2 = b2 <;> by_cases h3 : a3.toList = b3.toList <;> by_cases h4 : a4.toList = b4.toList <;> simp [h1, h2, h3, h4]

end Go.Proofs.YtmmlhnjmjmbfpaaGreat
