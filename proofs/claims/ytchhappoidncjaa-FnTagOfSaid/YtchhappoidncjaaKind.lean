
/-
  The walks of KndOk, TagOk, KndRead and of what they call, of the reference and of the program. Condition: the texts are no longer than a text may be.
-/
import Derived.Test.YtchhappoidncjaaName
namespace Go.Proofs.Ytchhappoidncjaa
set_option linter.unusedSimpArgs false
set_option linter.unusedVariables false
open Go.RowKit

set_option maxHeartbeats 400000 in
theorem S_KndOk (k : Int) (n : ByteArray) (w : World) (hn : n.size ≤ maxLen) :
    Calls Try.prog 44 #[.agg #[.int .i64 k, .string n]] w fun e w' => e = .returned (.bool (kndOk k n)) ∧ Below w.heap.size w w' := by
  refine calls_hide fun R HR => ?_
  go_enter Try.func44, Try.ntmps44
  go_wp2_with (go_at_call 27; refine (S_NamOk _ _ hn).mono ?_; rintro e w' ⟨rfl, rfl⟩)
  all_goals (try go_returns)
  all_goals exact HR.out _ _ ⟨ret_bool (by first | (simp [kndOk, *]; done) | (simp_all [kndOk]; done) | (simp_all [kndOk]; omega) | (simp [kndOk, *]; intros; omega)), by (repeat' (first | (with_reducible exact Below.refl _ _) | (with_reducible refine Below.alloc ?_ ?_ _) | (with_reducible refine Below.setCell ?_ ?_ _) | (with_reducible refine Below.drew ?_) | (refine below_hyp (by assumption) ?_ ?_) | go_size))⟩

/-- the shape of a kind, as a value of the interface type -/
def shapeV (k : Int) (n : ByteArray) : Value := if k == 1 && n.toList.isEmpty then .iface 93 (.agg #[]) else if k == 2 && namOk n then .iface 96 (.agg #[.string n]) else .nilIface

set_option maxHeartbeats 400000 in
theorem I_shapeOf (k : Int) (n : ByteArray) (w : World) (hn : n.size ≤ maxLen) :
    Calls Try.prog 54 #[.agg #[.int .i64 k, .string n]] w fun e w' => e = .returned (shapeV k n) ∧ Below w.heap.size w w' := by
  refine calls_hide fun R HR => ?_
  go_enter Try.func54, Try.ntmps54
  go_wp2_with (go_at_call 56; refine (I_word_ok _ _ hn).mono ?_; rintro e w' ⟨rfl, rfl⟩)
  all_goals (try go_returns)
  all_goals exact HR.out _ _ ⟨ret_val (by first | (simp [shapeV, *]; done) | (simp_all [shapeV]; done) | (simp_all [shapeV]; omega) | (simp [shapeV, *]; intros; omega)), by (repeat' (first | (with_reducible exact Below.refl _ _) | (with_reducible refine Below.alloc ?_ ?_ _) | (with_reducible refine Below.setCell ?_ ?_ _) | (with_reducible refine Below.drew ?_) | (refine below_hyp (by assumption) ?_ ?_) | go_size))⟩

theorem neq_shape (k : Int) (n : ByteArray) (w : World) : (binOp .neq 82 (shapeV k n) .nilIface).run Try.prog w = .ok (.bool (kndOk k n)) w := by
  unfold shapeV kndOk
  cases (k == 1 && n.toList.isEmpty) <;> cases (k == 2 && namOk n) <;> simp [go_sem]
theorem grd_shape (k : Int) (n : ByteArray) (x : Operand) (w : World) : (eqGuard .neq 82 x (.const .nilIface) (shapeV k n) .nilIface).run Try.prog w = .ok () w := by
  unfold shapeV
  cases (k == 1 && n.toList.isEmpty) <;> cases (k == 2 && namOk n) <;> simp [go_sem, eqGuard]

set_option maxHeartbeats 400000 in
theorem I_KndOk (k : Int) (n : ByteArray) (w : World) (hn : n.size ≤ maxLen) :
    Calls Try.prog 43 #[.agg #[.int .i64 k, .string n]] w fun e w' => e = .returned (.bool (kndOk k n)) ∧ Below w.heap.size w w' := by
  have hq := neq_shape k n
  have hg := grd_shape k n
  refine calls_hide fun R HR => ?_
  go_enter Try.func43, Try.ntmps43
  go_wp2_with (go_at_call 54; refine (I_shapeOf _ _ _ hn).mono ?_; rintro e w' ⟨rfl, hb⟩)
  all_goals (try go_returns)
  all_goals exact HR.out _ _ ⟨rfl, by (repeat' (first | (with_reducible exact Below.refl _ _) | (with_reducible refine Below.alloc ?_ ?_ _) | (with_reducible refine Below.setCell ?_ ?_ _) | (with_reducible refine Below.drew ?_) | (refine below_hyp (by assumption) ?_ ?_) | go_size))⟩

set_option maxHeartbeats 400000 in
theorem S_TagOk (k : Int) (n : ByteArray) (w : World) (hn : n.size ≤ maxLen) :
    Calls Try.prog 34 #[.agg #[.int .i64 k, .string n]] w fun e w' => e = .returned (.bool (tagOk k n)) ∧ Below w.heap.size w w' := by
  refine calls_hide fun R HR => ?_
  go_enter Try.func34, Try.ntmps34
  go_wp2_with (go_at_call 27; refine (S_NamOk _ _ hn).mono ?_; rintro e w' ⟨rfl, rfl⟩)
  all_goals (try go_returns)
  all_goals exact HR.out _ _ ⟨ret_bool (by first | (simp [tagOk, *]; done) | (simp_all [tagOk]; done) | (simp_all [tagOk]; omega) | (simp [tagOk, *]; intros; omega)), by (repeat' (first | (with_reducible exact Below.refl _ _) | (with_reducible refine Below.alloc ?_ ?_ _) | (with_reducible refine Below.setCell ?_ ?_ _) | (with_reducible refine Below.drew ?_) | (refine below_hyp (by assumption) ?_ ?_) | go_size))⟩

set_option maxHeartbeats 400000 in
theorem I_TagOk (k : Int) (n : ByteArray) (w : World) (hn : n.size ≤ maxLen) :
    Calls Try.prog 33 #[.agg #[.int .i64 k, .string n]] w fun e w' => e = .returned (.bool (tagOk k n)) ∧ Below w.heap.size w w' := by
  refine calls_hide fun R HR => ?_
  go_enter Try.func33, Try.ntmps33
  go_wp2_with (go_at_call 26; refine (I_NamOk _ _ hn).mono ?_; rintro e w' ⟨rfl, rfl⟩)
  all_goals (try go_returns)
  all_goals exact HR.out _ _ ⟨ret_bool (by first | (simp [tagOk, *]; done) | (simp_all [tagOk]; done) | (simp_all [tagOk]; omega) | (simp [tagOk, *]; intros; omega)), by (repeat' (first | (with_reducible exact Below.refl _ _) | (with_reducible refine Below.alloc ?_ ?_ _) | (with_reducible refine Below.setCell ?_ ?_ _) | (with_reducible refine Below.drew ?_) | (refine below_hyp (by assumption) ?_ ?_) | go_size))⟩

/-- what KndRead of a text returns -/
def kndReadV (s : ByteArray) : Value :=
  if s.toList == [35] then .tuple #[.agg #[.int .i64 1, .string ⟨#[]⟩], .bool true] else if namOk s then .tuple #[.agg #[.int .i64 2, .string s], .bool true] else .tuple #[.agg #[.int .i64 0, .string ⟨#[]⟩], .bool false]

set_option maxHeartbeats 400000 in
theorem S_KndRead (s : ByteArray) (w : World) (hs : s.size ≤ maxLen) :
    Calls Try.prog 42 #[.string s] w fun e w' => e = .returned (kndReadV s) ∧ Below w.heap.size w w' := by
  refine calls_hide fun R HR => ?_
  go_enter Try.func42, Try.ntmps42
  go_wp2_with (go_at_call 27; refine (S_NamOk _ _ hs).mono ?_; rintro e w' ⟨rfl, rfl⟩)
  all_goals (try go_returns)
  all_goals exact HR.out _ _ ⟨ret_val (by first | (simp [kndReadV, *]; done) | (simp_all [kndReadV]; done) | (simp_all [kndReadV]; omega) | (simp [kndReadV, *]; intros; omega)), by (repeat' (first | (with_reducible exact Below.refl _ _) | (with_reducible refine Below.alloc ?_ ?_ _) | (with_reducible refine Below.setCell ?_ ?_ _) | (with_reducible refine Below.drew ?_) | (refine below_hyp (by assumption) ?_ ?_) | go_size))⟩

set_option maxHeartbeats 400000 in
theorem I_numShape_kind (w : World) :
    Calls Try.prog 62 #[.agg #[]] w fun e w' => e = .returned (.agg #[.int .i64 1, .string ⟨#[]⟩]) ∧ Below w.heap.size w w' := by
  refine calls_hide fun R HR => ?_
  go_enter Try.func62, Try.ntmps62
  go_wp2
  all_goals (try go_returns)
  all_goals exact HR.out _ _ ⟨rfl, by (repeat' (first | (with_reducible exact Below.refl _ _) | (with_reducible refine Below.alloc ?_ ?_ _) | (with_reducible refine Below.setCell ?_ ?_ _) | (with_reducible refine Below.drew ?_) | (refine below_hyp (by assumption) ?_ ?_) | go_size))⟩

set_option maxHeartbeats 400000 in
theorem I_refShape_kind (s : ByteArray) (w : World) :
    Calls Try.prog 63 #[.agg #[.string s]] w fun e w' => e = .returned (.agg #[.int .i64 2, .string s]) ∧ Below w.heap.size w w' := by
  refine calls_hide fun R HR => ?_
  go_enter Try.func63, Try.ntmps63
  go_wp2
  all_goals (try go_returns)
  all_goals exact HR.out _ _ ⟨rfl, by (repeat' (first | (with_reducible exact Below.refl _ _) | (with_reducible refine Below.alloc ?_ ?_ _) | (with_reducible refine Below.setCell ?_ ?_ _) | (with_reducible refine Below.drew ?_) | (refine below_hyp (by assumption) ?_ ?_) | go_size))⟩

set_option maxHeartbeats 400000 in
theorem I_KndRead (s : ByteArray) (w : World) (hs : s.size ≤ maxLen) :
    Calls Try.prog 41 #[.string s] w fun e w' => e = .returned (kndReadV s) ∧ Below w.heap.size w w' := by
  refine calls_hide fun R HR => ?_
  go_enter Try.func41, Try.ntmps41
  go_wp2_with (first | (go_at_call 56; refine (I_word_ok _ _ hs).mono ?_; rintro e w' ⟨rfl, rfl⟩) | (go_at_call 62; refine (I_numShape_kind _).mono ?_; rintro _ w1 ⟨rfl, hb⟩; have hbs := (hb).size; (try simp only [World.size_alloc, World.size_setCell, World.size_drew] at hbs); obtain ⟨hbc, hbd, hbo, hbf, hbg, hbp, hbz, hbx, hby⟩ := bfacts (n := w.heap.size) (k := 1) hb (by go_size) (by go_size); replace hbd := hbd (by decide); replace hbg := hbg (by decide); replace hbx := hbx (by decide); clear hbc hbf hbz) | (go_at_call 63; refine (I_refShape_kind _ _).mono ?_; rintro _ w1 ⟨rfl, hb⟩; have hbs := (hb).size; (try simp only [World.size_alloc, World.size_setCell, World.size_drew] at hbs); obtain ⟨hbc, hbd, hbo, hbf, hbg, hbp, hbz, hbx, hby⟩ := bfacts (n := w.heap.size) (k := 1) hb (by go_size) (by go_size); replace hbd := hbd (by decide); replace hbg := hbg (by decide); replace hbx := hbx (by decide); clear hbc hbf hbz))
  · refine bodyPost_ret (v := .tuple #[.agg #[.int .i64 1, .string ⟨#[]⟩], .bool true]) (by simp only [results, Try.results41]; go_simp) rfl ?_
    exact HR.out _ _ ⟨ret_val (by first | (simp [kndReadV, *]; done) | (simp_all [kndReadV]; done) | (simp_all [kndReadV]; omega) | (simp [kndReadV, *]; intros; omega)), by (repeat' (first | (with_reducible exact Below.refl _ _) | (with_reducible refine Below.alloc ?_ ?_ _) | (with_reducible refine Below.setCell ?_ ?_ _) | (with_reducible refine Below.drew ?_) | (refine below_hyp (by assumption) ?_ ?_) | go_size))⟩
  · refine bodyPost_ret (v := .tuple #[.agg #[.int .i64 2, .string s], .bool true]) (by simp only [results, Try.results41]; go_simp) rfl ?_
    exact HR.out _ _ ⟨ret_val (by first | (simp [kndReadV, *]; done) | (simp_all [kndReadV]; done) | (simp_all [kndReadV]; omega) | (simp [kndReadV, *]; intros; omega)), by (repeat' (first | (with_reducible exact Below.refl _ _) | (with_reducible refine Below.alloc ?_ ?_ _) | (with_reducible refine Below.setCell ?_ ?_ _) | (with_reducible refine Below.drew ?_) | (refine below_hyp (by assumption) ?_ ?_) | go_size))⟩
  · refine bodyPost_ret (v := .tuple #[.agg #[.int .i64 0, .string ⟨#[]⟩], .bool false]) (by simp only [results, Try.results41]; go_simp) rfl ?_
    exact HR.out _ _ ⟨ret_val (by first | (simp [kndReadV, *]; done) | (simp_all [kndReadV]; done) | (simp_all [kndReadV]; omega) | (simp [kndReadV, *]; intros; omega)), by (repeat' (first | (with_reducible exact Below.refl _ _) | (with_reducible refine Below.alloc ?_ ?_ _) | (with_reducible refine Below.setCell ?_ ?_ _) | (with_reducible refine Below.drew ?_) | (refine below_hyp (by assumption) ?_ ?_) | go_size))⟩

end Go.Proofs.Ytchhappoidncjaa
