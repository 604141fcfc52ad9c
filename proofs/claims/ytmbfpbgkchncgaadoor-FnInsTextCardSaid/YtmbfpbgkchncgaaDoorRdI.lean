

/-
  The walks of the program's shortNumber, of the readers of instructions, and of insReader. Condition: the library's variables hold what their texts lay; the texts are no longer than a text may be. (Printed by genrd.py, a program of the prover of this repo.)
-/
import Derived.Test.YtmbfpbgkchncgaaDoorNumI
import Derived.Test.YtmbfpbgkchncgaaDoorWords
import Derived.Test.YtmbfpbgkchncgaaDoorXP
import Derived.MapKept
import Derived.Lib.SmallJoins
import Derived.Lib.AtoiBound
namespace Go.Proofs.YtmbfpbgkchncgaaDoor
set_option linter.unusedSimpArgs false
set_option linter.unusedVariables false
open Go.RowKit

theorem var_below {w w' : World} {nm : String} {xs : Array Value} (h : w.var? Tryd.prog nm = some xs) (hb : Below w.heap.size w w') : w'.var? Tryd.prog nm = some xs := by
  unfold World.var? at h ⊢
  cases hg : Tryd.prog.globalNamed nm with
  | none => rw [hg] at h; cases h
  | some g =>
    rw [hg] at h
    simp only [Option.bind_some] at h ⊢
    cases ho : w.heap[g]? with
    | none => rw [ho] at h; cases h
    | some o =>
      rw [hb.block g (Array.getElem?_eq_some_iff.1 ho).1]
      exact h
/-- what the library's variables hold -/
structure Lay (w : World) : Prop where
  tab : Tab w
  max : ∃ m : Int, w.cell? ⟨0, 0, none⟩ = some (.int .i64 m)
  err : ∃ tp p, w.var? Tryd.prog "strconv.ErrSyntax" = some #[.iface tp p]
theorem Lay.below {w w' : World} (h : Lay w) (hb : Below w.heap.size w w') : Lay w' := by
  obtain ⟨h1, ⟨m, h2⟩, ⟨tp, p, h3⟩⟩ := h
  exact ⟨h1.below hb, ⟨m, keep_cell hb h2⟩, ⟨tp, p, var_below h3 hb⟩⟩


set_option maxRecDepth 100000 in
set_option maxHeartbeats 4000000 in
theorem I_shortNumber (s : ByteArray) (w : World) (hs : s.size ≤ maxLen) (h : Lay w) :
    Calls Tryd.prog 39 #[.string s] w fun e w' => e = .returned (.tuple #[.int .i64 (shortN s).1, .bool (shortN s).2]) ∧ Below w.heap.size w w' := by
  have m1 : s.size ≤ 9223372036854775807 := by unfold maxLen at hs; omega
  by_cases h1 : s.size < 1
  · have RV : Hid (shortN s = (0, false)) := Lib.hid (by unfold shortN; rw [if_pos (Or.inl h1)])
    have d1 : decide ((s.size : Int) < 1) = true := by simp; omega
    clear h h1
    refine calls_hide fun R HR => ?_
    go_enter Tryd.func39, Tryd.ntmps39
    go_wp2
    (all_goals (try go_returns)); (all_goals exact HR.out _ _ ⟨by first | (rw [RV.out]; done) | (rw [RV.out]; rfl), by (repeat' (first | (with_reducible exact Below.refl _ _) | (with_reducible refine Below.alloc ?_ ?_ _) | (with_reducible refine Below.setCell ?_ ?_ _) | (with_reducible refine Below.drew ?_) | (refine below_hyp (by assumption) ?_ ?_) | go_size))⟩)
  have d1 : decide ((s.size : Int) < 1) = false := by simp; omega
  by_cases h5 : 5 < s.size
  · have RV : Hid (shortN s = (0, false)) := Lib.hid (by unfold shortN; rw [if_pos (Or.inr h5)])
    have d5 : decide ((5 : Int) < (s.size : Int)) = true := by simp; omega
    clear h h1 h5
    refine calls_hide fun R HR => ?_
    go_enter Tryd.func39, Tryd.ntmps39
    go_wp2
    (all_goals (try go_returns)); (all_goals exact HR.out _ _ ⟨by first | (rw [RV.out]; done) | (rw [RV.out]; rfl), by (repeat' (first | (with_reducible exact Below.refl _ _) | (with_reducible refine Below.alloc ?_ ?_ _) | (with_reducible refine Below.setCell ?_ ?_ _) | (with_reducible refine Below.drew ?_) | (refine below_hyp (by assumption) ?_ ?_) | go_size))⟩)
  have d5 : decide ((5 : Int) < (s.size : Int)) = false := by simp; omega
  have h18 : s.size ≤ 18 := by omega
  have SH : shortN s = match Lib.atoi s.data.toList with | none => (0, false) | some n => if Lib.itoa n = s.data.toList ∧ n ≤ 9999 ∧ -9999 ≤ n then (n, true) else (0, false) := by
    unfold shortN; rw [if_neg (by omega)]
    cases Lib.atoi s.data.toList <;> rfl
  have H := Lib.hid h
  clear h h1 h5
  cases ha : Lib.atoi s.data.toList with
  | none =>
    have RV : Hid (shortN s = (0, false)) := Lib.hid (by rw [SH, ha])
    have CA : Hid (∀ W, Below w.heap.size w W → Calls Tryd.prog 51 #[.string s] W fun e w' => (∃ N, e = .returned (.tuple #[.int .i64 0, .iface 93 (.pointer (some ⟨N, 0, none⟩))])) ∧ Below W.heap.size W w') := Lib.hid fun W hW => by
      obtain ⟨tp, p, hv⟩ := (H.out.below hW).err
      exact (Tryd.strconv_Atoi_err_var s h18 ha tp p W hv).mono fun e w' ⟨N, h1, _, _, h2⟩ => ⟨⟨N, h1⟩, h2⟩
    clear SH ha
    refine calls_hide fun R HR => ?_
    go_enter Tryd.func39, Tryd.ntmps39
    go_wp2_with fail
    refine (CA.out _ (by (repeat' (first | (with_reducible exact Below.refl _ _) | (with_reducible refine Below.alloc ?_ ?_ _) | (with_reducible refine Below.setCell ?_ ?_ _) | (with_reducible refine Below.drew ?_) | (refine below_hyp (by assumption) ?_ ?_) | go_size)))).mono ?_
    rintro _ w1 ⟨⟨N, rfl⟩, h1⟩
    go_wp2
    (all_goals (try go_returns)); (all_goals exact HR.out _ _ ⟨by first | (rw [RV.out]; done) | (rw [RV.out]; rfl), by (repeat' (first | (with_reducible exact Below.refl _ _) | (with_reducible refine Below.alloc ?_ ?_ _) | (with_reducible refine Below.setCell ?_ ?_ _) | (with_reducible refine Below.drew ?_) | (refine below_hyp (by assumption) ?_ ?_) | go_size))⟩)
  | some n =>
    rw [ha] at SH
    simp only at SH
    obtain ⟨b1, b2⟩ := Lib.atoi_bound ha (by have : s.data.toList.length = s.size := by rw [Array.length_toList]; rfl
                                             omega)
    have CA : Hid (∀ W, Calls Tryd.prog 51 #[.string s] W fun e w' => e = .returned (.tuple #[.int .i64 n, .nilIface]) ∧ Below W.heap.size W w') := Lib.hid fun W =>
      (Tryd.strconv_Atoi s n h18 ha W).mono fun e w' ⟨h1, t, h2⟩ => ⟨h1, by rw [h2]; exact Go.Joins.below_bytesWorld _ _ _ _ (Nat.le_refl _)⟩
    have CI : Hid (∀ W, Below w.heap.size w W → Calls Tryd.prog 28 #[.int .i64 n] W fun e w' => e = .returned (.string (tx (Lib.itoa n))) ∧ Below W.heap.size W w') := Lib.hid fun W hW =>
      (Tryd.strconv_Itoa n (by omega) (by omega) W (H.out.below hW).tab).mono fun e w' ⟨he, k, os, hw⟩ => ⟨he, by rw [hw]; exact below_grow W k os⟩
    have hts : (tx (Lib.itoa n)).toList = s.toList ↔ Lib.itoa n = s.data.toList := by
      rw [ByteArray.toList_eq, ByteArray.toList_eq]
      simp [tx]
    obtain ⟨q, hq⟩ : ∃ q, q = ((tx (Lib.itoa n)).toList == s.toList) := ⟨_, rfl⟩
    have hz : ((tx (Lib.itoa n)).toList == s.toList) = q := hq.symm
    have hzn : ((tx (Lib.itoa n)).toList != s.toList) = !q := by rw [bne, hz]
    have SH2 : Hid (shortN s = if q = true ∧ n ≤ 9999 ∧ -9999 ≤ n then (n, true) else (0, false)) := Lib.hid (by
      have hqi : (q = true) ↔ Lib.itoa n = s.data.toList := by rw [hq, beq_iff_eq, hts]
      rw [SH]; simp only [hqi])
    clear SH hts hq ha
    cases q
    · have RV : Hid (shortN s = (0, false)) := Lib.hid (by rw [SH2.out, if_neg (by simp)])
      refine calls_hide fun R HR => ?_
      go_enter Tryd.func39, Tryd.ntmps39
      go_wp2_with fail
      refine (CA.out _).mono ?_
      rintro _ w1 ⟨rfl, h1⟩
      have h1s := h1.size
      go_wp2_with fail
      refine (CI.out _ (by first | exact h1 | (repeat' (first | (with_reducible exact Below.refl _ _) | (with_reducible refine Below.alloc ?_ ?_ _) | (with_reducible refine Below.setCell ?_ ?_ _) | (with_reducible refine Below.drew ?_) | (refine below_hyp (by assumption) ?_ ?_) | go_size)))).mono ?_
      rintro _ w2 ⟨rfl, h2⟩
      go_wp2
      (all_goals (try go_returns)); (all_goals exact HR.out _ _ ⟨by first | (rw [RV.out]; done) | (rw [RV.out]; rfl), by (repeat' (first | (with_reducible exact Below.refl _ _) | (with_reducible refine Below.alloc ?_ ?_ _) | (with_reducible refine Below.setCell ?_ ?_ _) | (with_reducible refine Below.drew ?_) | (refine below_hyp (by assumption) ?_ ?_) | go_size))⟩)
    by_cases g1 : 9999 < n
    · have RV : Hid (shortN s = (0, false)) := Lib.hid (by rw [SH2.out, if_neg (by omega)])
      have e1 : decide (9999 < n) = true := by simpa using g1
      clear g1
      refine calls_hide fun R HR => ?_
      go_enter Tryd.func39, Tryd.ntmps39
      go_wp2_with fail
      refine (CA.out _).mono ?_
      rintro _ w1 ⟨rfl, h1⟩
      have h1s := h1.size
      go_wp2_with fail
      refine (CI.out _ (by first | exact h1 | (repeat' (first | (with_reducible exact Below.refl _ _) | (with_reducible refine Below.alloc ?_ ?_ _) | (with_reducible refine Below.setCell ?_ ?_ _) | (with_reducible refine Below.drew ?_) | (refine below_hyp (by assumption) ?_ ?_) | go_size)))).mono ?_
      rintro _ w2 ⟨rfl, h2⟩
      go_wp2
      (all_goals (try go_returns)); (all_goals exact HR.out _ _ ⟨by first | (rw [RV.out]; done) | (rw [RV.out]; rfl), by (repeat' (first | (with_reducible exact Below.refl _ _) | (with_reducible refine Below.alloc ?_ ?_ _) | (with_reducible refine Below.setCell ?_ ?_ _) | (with_reducible refine Below.drew ?_) | (refine below_hyp (by assumption) ?_ ?_) | go_size))⟩)
    have e1 : decide (9999 < n) = false := by simpa using g1
    by_cases g2 : n < -9999
    · have RV : Hid (shortN s = (0, false)) := Lib.hid (by rw [SH2.out, if_neg (by omega)])
      have e2 : decide (n < -9999) = true := by simpa using g2
      clear g1 g2
      refine calls_hide fun R HR => ?_
      go_enter Tryd.func39, Tryd.ntmps39
      go_wp2_with fail
      refine (CA.out _).mono ?_
      rintro _ w1 ⟨rfl, h1⟩
      have h1s := h1.size
      go_wp2_with fail
      refine (CI.out _ (by first | exact h1 | (repeat' (first | (with_reducible exact Below.refl _ _) | (with_reducible refine Below.alloc ?_ ?_ _) | (with_reducible refine Below.setCell ?_ ?_ _) | (with_reducible refine Below.drew ?_) | (refine below_hyp (by assumption) ?_ ?_) | go_size)))).mono ?_
      rintro _ w2 ⟨rfl, h2⟩
      go_wp2
      (all_goals (try go_returns)); (all_goals exact HR.out _ _ ⟨by first | (rw [RV.out]; done) | (rw [RV.out]; rfl), by (repeat' (first | (with_reducible exact Below.refl _ _) | (with_reducible refine Below.alloc ?_ ?_ _) | (with_reducible refine Below.setCell ?_ ?_ _) | (with_reducible refine Below.drew ?_) | (refine below_hyp (by assumption) ?_ ?_) | go_size))⟩)
    have e2 : decide (n < -9999) = false := by simpa using g2
    have RV : Hid (shortN s = (n, true)) := Lib.hid (by rw [SH2.out, if_pos ⟨rfl, by omega, by omega⟩])
    clear g1 g2
    refine calls_hide fun R HR => ?_
    go_enter Tryd.func39, Tryd.ntmps39
    go_wp2_with fail
    refine (CA.out _).mono ?_
    rintro _ w1 ⟨rfl, h1⟩
    have h1s := h1.size
    go_wp2_with fail
    refine (CI.out _ (by first | exact h1 | (repeat' (first | (with_reducible exact Below.refl _ _) | (with_reducible refine Below.alloc ?_ ?_ _) | (with_reducible refine Below.setCell ?_ ?_ _) | (with_reducible refine Below.drew ?_) | (refine below_hyp (by assumption) ?_ ?_) | go_size)))).mono ?_
    rintro _ w2 ⟨rfl, h2⟩
    go_wp2
    (all_goals (try go_returns)); (all_goals exact HR.out _ _ ⟨by first | (rw [RV.out]; done) | (rw [RV.out]; rfl), by (repeat' (first | (with_reducible exact Below.refl _ _) | (with_reducible refine Below.alloc ?_ ?_ _) | (with_reducible refine Below.setCell ?_ ?_ _) | (with_reducible refine Below.drew ?_) | (refine below_hyp (by assumption) ?_ ?_) | go_size))⟩)

/-! the readers: what a reader makes of the words behind the first -/
set_option maxHeartbeats 400000 in
theorem I_rdPlain (op : Int) (b : Nat) (a : Option Addr) (len cap : Nat) (w : World) (hl : len ≤ 9223372036854775807) (hb : w.cell? ⟨b, 0, none⟩ = some (.int .i64 op)) :
    Calls Tryd.prog 36 #[.slice a len cap, .pointer (some ⟨b, 0, none⟩)] w fun e w' => e = .returned (if len = 0 then .iface 65 (.agg #[.int .i64 op]) else .nilIface) ∧ Below w.heap.size w w' := by
  by_cases h : len = 0
  · have RV : Hid ((if len = 0 then .iface 65 (.agg #[.int .i64 op]) else .nilIface : Value) = .iface 65 (.agg #[.int .i64 op])) := Lib.hid (if_pos h)
    subst h
    refine calls_hide fun R HR => ?_
    go_enter Tryd.func36, Tryd.ntmps36
    go_wp2
    (all_goals (try go_returns)); (all_goals exact HR.out _ _ ⟨by first | (rw [RV.out]; done) | (rw [RV.out]; rfl), by (repeat' (first | (with_reducible exact Below.refl _ _) | (with_reducible refine Below.alloc ?_ ?_ _) | (with_reducible refine Below.setCell ?_ ?_ _) | (with_reducible refine Below.drew ?_) | (refine below_hyp (by assumption) ?_ ?_) | go_size))⟩)
  · have RV : Hid ((if len = 0 then .iface 65 (.agg #[.int .i64 op]) else .nilIface : Value) = .nilIface) := Lib.hid (if_neg h)
    have d : ((len : Int) != 0) = true := by simp; omega
    have d' : ¬ (len : Int) = 0 := by omega
    clear h
    refine calls_hide fun R HR => ?_
    go_enter Tryd.func36, Tryd.ntmps36
    go_wp2
    (all_goals (try go_returns)); (all_goals exact HR.out _ _ ⟨by first | (rw [RV.out]; done) | (rw [RV.out]; rfl), by (repeat' (first | (with_reducible exact Below.refl _ _) | (with_reducible refine Below.alloc ?_ ?_ _) | (with_reducible refine Below.setCell ?_ ?_ _) | (with_reducible refine Below.drew ?_) | (refine below_hyp (by assumption) ?_ ?_) | go_size))⟩)
def numV (op : Int) (s : ByteArray) : Value := if (shortN s).2 then .iface 52 (.agg #[.int .i64 op, .int .i64 (shortN s).1]) else .nilIface
set_option maxHeartbeats 400000 in
theorem I_rdOff (F : Bool) (b : Nat) (a : Option Addr) (len cap : Nat) (w : World) (hl : len ≤ 9223372036854775807) (hne : len ≠ 1) :
    Calls Tryd.prog (if F then 38 else 41) #[.slice a len cap, .pointer (some ⟨b, 0, none⟩)] w fun e w' => e = .returned .nilIface ∧ Below w.heap.size w w' := by
  have d : ((len : Int) != 1) = true := by simp; omega
  have d' : ¬ (len : Int) = 1 := by omega
  cases F
  · show Calls Tryd.prog 41 _ _ _
    refine calls_hide fun R HR => ?_
    go_enter Tryd.func41, Tryd.ntmps41
    go_wp2
    all_goals (try go_returns)
    all_goals exact HR.out _ _ ⟨rfl, by (repeat' (first | (with_reducible exact Below.refl _ _) | (with_reducible refine Below.alloc ?_ ?_ _) | (with_reducible refine Below.setCell ?_ ?_ _) | (with_reducible refine Below.drew ?_) | (refine below_hyp (by assumption) ?_ ?_) | go_size))⟩
  · show Calls Tryd.prog 38 _ _ _
    refine calls_hide fun R HR => ?_
    go_enter Tryd.func38, Tryd.ntmps38
    go_wp2
    all_goals (try go_returns)
    all_goals exact HR.out _ _ ⟨rfl, by (repeat' (first | (with_reducible exact Below.refl _ _) | (with_reducible refine Below.alloc ?_ ?_ _) | (with_reducible refine Below.setCell ?_ ?_ _) | (with_reducible refine Below.drew ?_) | (refine below_hyp (by assumption) ?_ ?_) | go_size))⟩
set_option maxHeartbeats 1000000 in
theorem I_rdNumber (op : Int) (b g off cap : Nat) (s : ByteArray) (w : World) (hc : 1 ≤ cap) (hb : w.cell? ⟨b, 0, none⟩ = some (.int .i64 op)) (hg : w.cell? ⟨g, off, none⟩ = some (.string s)) (hs : s.size ≤ maxLen) (h : Lay w) :
    Calls Tryd.prog 38 #[.slice (some ⟨g, off, none⟩) 1 cap, .pointer (some ⟨b, 0, none⟩)] w fun e w' => e = .returned (numV op s) ∧ Below w.heap.size w w' := by
  obtain ⟨n, q, hnq⟩ : ∃ n q, shortN s = (n, q) := ⟨_, _, rfl⟩
  have RV : Hid (numV op s = if q then .iface 52 (.agg #[.int .i64 op, .int .i64 n]) else .nilIface) := Lib.hid (by unfold numV; rw [hnq])
  have CN : Hid (∀ W, Below w.heap.size w W → Calls Tryd.prog 39 #[.string s] W fun e w' => e = .returned (.tuple #[.int .i64 n, .bool q]) ∧ Below W.heap.size W w') := Lib.hid fun W hW => by
    have := I_shortNumber s W hs (h.below hW)
    rw [hnq] at this; exact this
  have hbl := block_lt_of_cell hb
  clear h hnq
  refine calls_hide fun R HR => ?_
  go_enter Tryd.func38, Tryd.ntmps38
  go_wp2_with fail
  refine (CN.out _ (by (repeat' (first | (with_reducible exact Below.refl _ _) | (with_reducible refine Below.alloc ?_ ?_ _) | (with_reducible refine Below.setCell ?_ ?_ _) | (with_reducible refine Below.drew ?_) | (refine below_hyp (by assumption) ?_ ?_) | go_size)))).mono ?_
  rintro _ w1 ⟨rfl, h1⟩
  have hb1 := keep_cell h1 hb
  clear hb hg
  cases q
  · go_wp2
    (all_goals (try go_returns)); (all_goals exact HR.out _ _ ⟨by first | (rw [RV.out]; done) | (rw [RV.out]; rfl), by (repeat' (first | (with_reducible exact Below.refl _ _) | (with_reducible refine Below.alloc ?_ ?_ _) | (with_reducible refine Below.setCell ?_ ?_ _) | (with_reducible refine Below.drew ?_) | (refine below_hyp (by assumption) ?_ ?_) | go_size))⟩)
  · go_wp2
    (all_goals (try go_returns)); (all_goals exact HR.out _ _ ⟨by first | (rw [RV.out]; done) | (rw [RV.out]; rfl), by (repeat' (first | (with_reducible exact Below.refl _ _) | (with_reducible refine Below.alloc ?_ ?_ _) | (with_reducible refine Below.setCell ?_ ?_ _) | (with_reducible refine Below.drew ?_) | (refine below_hyp (by assumption) ?_ ?_) | go_size))⟩)
set_option maxHeartbeats 1000000 in
theorem I_rdClass (op : Int) (b g off cap : Nat) (s : ByteArray) (w : World) (hc : 1 ≤ cap) (hb : w.cell? ⟨b, 0, none⟩ = some (.int .i64 op)) (hg : w.cell? ⟨g, off, none⟩ = some (.string s)) :
    Calls Tryd.prog 41 #[.slice (some ⟨g, off, none⟩) 1 cap, .pointer (some ⟨b, 0, none⟩)] w fun e w' => e = .returned (.iface 55 (.agg #[.int .i64 op, .string s])) ∧ Below w.heap.size w w' := by
  refine calls_hide fun R HR => ?_
  go_enter Tryd.func41, Tryd.ntmps41
  go_wp2_with fail
  go_region
  go_wp2
  all_goals (try go_returns)
  all_goals exact HR.out _ _ ⟨rfl, by (repeat' (first | (with_reducible exact Below.refl _ _) | (with_reducible refine Below.alloc ?_ ?_ _) | (with_reducible refine Below.setCell ?_ ?_ _) | (with_reducible refine Below.drew ?_) | (refine below_hyp (by assumption) ?_ ?_) | go_size))⟩
set_option maxHeartbeats 400000 in
theorem I_rdMemberOff (b : Nat) (a : Option Addr) (len cap : Nat) (w : World) (hl : len ≤ 9223372036854775807) (hne : len ≠ 2) :
    Calls Tryd.prog 43 #[.slice a len cap, .pointer (some ⟨b, 0, none⟩)] w fun e w' => e = .returned .nilIface ∧ Below w.heap.size w w' := by
  have d : ((len : Int) != 2) = true := by simp; omega
  have d' : ¬ (len : Int) = 2 := by omega
  refine calls_hide fun R HR => ?_
  go_enter Tryd.func43, Tryd.ntmps43
  go_wp2
  all_goals (try go_returns)
  all_goals exact HR.out _ _ ⟨rfl, by (repeat' (first | (with_reducible exact Below.refl _ _) | (with_reducible refine Below.alloc ?_ ?_ _) | (with_reducible refine Below.setCell ?_ ?_ _) | (with_reducible refine Below.drew ?_) | (refine below_hyp (by assumption) ?_ ?_) | go_size))⟩
set_option maxHeartbeats 1000000 in
theorem I_rdMember (op : Int) (b g off cap : Nat) (s t : ByteArray) (w : World) (hc : 2 ≤ cap) (hb : w.cell? ⟨b, 0, none⟩ = some (.int .i64 op)) (hg : w.cell? ⟨g, off, none⟩ = some (.string s)) (hg1 : w.cell? ⟨g, off + 1, none⟩ = some (.string t)) :
    Calls Tryd.prog 43 #[.slice (some ⟨g, off, none⟩) 2 cap, .pointer (some ⟨b, 0, none⟩)] w fun e w' => e = .returned (.iface 57 (.agg #[.int .i64 op, .string s, .string t])) ∧ Below w.heap.size w w' := by
  refine calls_hide fun R HR => ?_
  go_enter Tryd.func43, Tryd.ntmps43
  go_wp2_with fail
  go_region
  go_wp2
  all_goals (try go_returns)
  all_goals exact HR.out _ _ ⟨rfl, by (repeat' (first | (with_reducible exact Below.refl _ _) | (with_reducible refine Below.alloc ?_ ?_ _) | (with_reducible refine Below.setCell ?_ ?_ _) | (with_reducible refine Below.drew ?_) | (refine below_hyp (by assumption) ?_ ?_) | go_size))⟩

set_option maxHeartbeats 400000 in
theorem I_mk1 (op : Int) (w : World) : Calls Tryd.prog 35 #[.int .i64 op] w fun e w' => e = .returned (.func (.func 36) #[] #[.pointer (some ⟨w.heap.size, 0, none⟩)]) ∧ w' = w.alloc (.cells #[.int .i64 op] 3) := by
  refine calls_hide fun R HR => ?_
  go_enter Tryd.func35, Tryd.ntmps35
  go_wp2
  all_goals (try go_returns)
  all_goals exact HR.out _ _ ⟨rfl, rfl⟩
set_option maxHeartbeats 400000 in
theorem I_mk2 (op : Int) (w : World) : Calls Tryd.prog 37 #[.int .i64 op] w fun e w' => e = .returned (.func (.func 38) #[] #[.pointer (some ⟨w.heap.size, 0, none⟩)]) ∧ w' = w.alloc (.cells #[.int .i64 op] 3) := by
  refine calls_hide fun R HR => ?_
  go_enter Tryd.func37, Tryd.ntmps37
  go_wp2
  all_goals (try go_returns)
  all_goals exact HR.out _ _ ⟨rfl, rfl⟩
set_option maxHeartbeats 400000 in
theorem I_mk3 (op : Int) (w : World) : Calls Tryd.prog 40 #[.int .i64 op] w fun e w' => e = .returned (.func (.func 41) #[] #[.pointer (some ⟨w.heap.size, 0, none⟩)]) ∧ w' = w.alloc (.cells #[.int .i64 op] 3) := by
  refine calls_hide fun R HR => ?_
  go_enter Tryd.func40, Tryd.ntmps40
  go_wp2
  all_goals (try go_returns)
  all_goals exact HR.out _ _ ⟨rfl, rfl⟩
set_option maxHeartbeats 400000 in
theorem I_mk4 (op : Int) (w : World) : Calls Tryd.prog 42 #[.int .i64 op] w fun e w' => e = .returned (.func (.func 43) #[] #[.pointer (some ⟨w.heap.size, 0, none⟩)]) ∧ w' = w.alloc (.cells #[.int .i64 op] 3) := by
  refine calls_hide fun R HR => ?_
  go_enter Tryd.func42, Tryd.ntmps42
  go_wp2
  all_goals (try go_returns)
  all_goals exact HR.out _ _ ⟨rfl, rfl⟩

/-! the map of readers -/
theorem findNow_str (s : ByteArray) (L : List MapEntry) (h : ∀ e ∈ L, ∃ k, e.key = .string k) : (Instr.findNow .string (.string s) L 0 = some none ∧ ∀ e ∈ L, e.key ≠ .string s) ∨ ∃ j e, Instr.findNow .string (.string s) L 0 = some (some (j, e.val)) ∧ e ∈ L ∧ e.key = .string s := by
  rcases Go.MapKept.findNow_spec (d := .string) (k := .string s) (by simp [Go.MapKept.IsKey]) L 0 (fun e he => by obtain ⟨k, hk⟩ := h e he; rw [hk]; simp [Go.MapKept.IsKey]) with h1 | ⟨j, e, h1, h2, h3⟩
  · exact Or.inl h1
  · exact Or.inr ⟨_, e, h1, List.mem_of_getElem? h2, h3⟩
theorem mapUnd : Tryd.prog.underlying 67 = some (.map 9 42) := Tryd.underlying67
set_option maxRecDepth 100000 in
theorem wpList_insertS {w : World} {ops : Array Oper} {rest : List Oper} {o : Oper} {a : Act} {Q : Exit → Act → World → Prop} (hg : o.guard = none) (k : ByteArray) (m x : Operand) (hop : o.op = Op.insert 67 m (.const (.string k)) x) {M c : Nat} {L : List MapEntry} {v : Value} (hm : a.eval m = .map (some M)) (hx : a.eval x = v) (hh : w.heap[M]? = some (.map L.toArray c)) (hnew : Instr.findNow .string (.string k) L 0 = some none)
    (hK : ∀ w', w'.heap[M]? = some (.map (L ++ [({ key := .string k, val := v, born := c } : MapEntry)]).toArray (c + 1)) → (∀ b, b ≠ M → w'.heap[b]? = w.heap[b]?) → w'.heap.size = w.heap.size → (∀ B, B ≤ M → Below B w w') → wpList Tryd.prog ops Q rest (a.put o.dst undef) w') : wpList Tryd.prog ops Q (o :: rest) a w := by
  refine wpList_plain hg fun K' hK' => ?_
  have hun : ∀ W : World, (underlying 67).run Tryd.prog W = .ok (.map 9 42) W := fun W => run_underlying mapUnd W
  have hus : ∀ W : World, (underlying 9).run Tryd.prog W = .ok .string W := fun W => run_underlying Tryd.underlying9 W
  have hM := (Array.getElem?_eq_some_iff.1 hh).1
  have hrun : (Instr.mapUpdate 67 (.map (some M)) (.string k) v).run Tryd.prog w = .ok () { w with heap := w.heap.setIfInBounds M (.map (L ++ [({ key := .string k, val := v, born := c } : MapEntry)]).toArray (c + 1)) } := by
    have hkey : (Instr.checkKey false 10000 9 (.string k)).run Tryd.prog w = .ok () w := by
      unfold Instr.checkKey
      simp [hus, Result.andThen]
    have hfind : (Instr.findKey 9 (.string k) L).run Tryd.prog w = .ok none w := by
      unfold Instr.findKey
      simp [hus, hnew, Result.andThen]
    unfold Instr.mapUpdate
    simp [hun, Go.MapKept.run_getObj_map hh, hkey, hfind, Go.MapKept.run_setObj_map _ hh, Result.andThen]
  unfold Oper.wp
  have hkk : a.eval (.const (.string k)) = .string k := rfl
  simp [execOp, hop, hm, hx, hkk, hrun, Result.andThen]
  refine hK' _ _ (hK _ ?_ ?_ ?_ ?_)
  · simp [hM]
  · intro b hb
    simp [Array.getElem?_setIfInBounds, Ne.symm hb]
  · simp
  · intro B hB
    exact ⟨rfl, rfl, rfl, by simp, fun i hi => by
      have : M ≠ i := by omega
      simp [Array.getElem?_setIfInBounds, this]⟩

def lookV (r : Option (Nat × Value)) : Value := match r with | some x => x.2 | none => .nilFunc
set_option maxRecDepth 100000 in
theorem run_lookS {w : World} {M c : Nat} {L : List MapEntry} (hh : w.heap[M]? = some (.map L.toArray c)) (s : ByteArray) (r : Option (Nat × Value)) (hf : Instr.findNow .string (.string s) L 0 = some r) :
    (Instr.lookup 67 (.map (some M)) (.string s) false).run Tryd.prog w = .ok (lookV r) w := by
  have hun : ∀ W : World, (underlying 67).run Tryd.prog W = .ok (.map 9 42) W := fun W => run_underlying mapUnd W
  have hus : ∀ W : World, (underlying 9).run Tryd.prog W = .ok .string W := fun W => run_underlying Tryd.underlying9 W
  have hkey : ∀ b, (Instr.checkKey b 10000 9 (.string s)).run Tryd.prog w = .ok () w := fun b => by
    unfold Instr.checkKey
    simp [hus, Result.andThen]
  have hfind : (Instr.findKey 9 (.string s) L).run Tryd.prog w = .ok r w := by
    unfold Instr.findKey
    simp [hus, hf, Result.andThen]
  have hz : (zeroValue 42).run Tryd.prog w = .ok .nilFunc w := by kernel_rfl
  unfold Instr.lookup
  unfold lookV
  cases r with
  | none => simp [hun, Go.MapKept.run_getObj_map hh, hkey, hfind, hz, Result.andThen]
  | some r =>
    obtain ⟨i, v⟩ := r
    simp [hun, Go.MapKept.run_getObj_map hh, hkey, hfind, hz, Result.andThen]

/-- the reader of an operation -/
def rdFn (op : Int) : FuncId := if isNumOp op then 38 else if isClsOp op then 41 else if isMemOp op then 43 else 36
def Rdr (op : Int) (v : Value) (w : World) : Prop := ∃ b, v = .func (.func (rdFn op)) #[] #[.pointer (some ⟨b, 0, none⟩)] ∧ w.cell? ⟨b, 0, none⟩ = some (.int .i64 op)
/-- the entries so far: readers of their words, made behind block M -/
def Ents (M : Nat) (L : List MapEntry) (w : World) : Prop := ∀ e ∈ L, ∃ op b, (1 ≤ op ∧ op ≤ 15) ∧ e.key = .string (tx (opText op)) ∧ e.val = .func (.func (rdFn op)) #[] #[.pointer (some ⟨b, 0, none⟩)] ∧ M < b ∧ w.cell? ⟨b, 0, none⟩ = some (.int .i64 op)
theorem Ents.step {M c : Nat} {L : List MapEntry} {w w' : World} {op : Int} {k : ByteArray} (h : Ents M L w) (hM : M < w.heap.size) (hb : ∀ b, b ≠ M → w'.heap[b]? = (w.alloc (.cells #[.int .i64 op] 3)).heap[b]?) (ho : 1 ≤ op ∧ op ≤ 15) (hk : k = tx (opText op)) : Ents M (L ++ [({ key := .string k, val := .func (.func (rdFn op)) #[] #[.pointer (some ⟨w.heap.size, 0, none⟩)], born := c } : MapEntry)]) w' := by
  intro e he
  rcases List.mem_append.1 he with he | he
  · obtain ⟨op', b, h1, h2, h3, h4, h5⟩ := h e he
    have hl := block_lt_of_cell h5
    exact ⟨op', b, h1, h2, h3, h4, (cell_of_heap ((hb b (by omega)).trans (Below.heap_alloc _ _ _ (by omega)))).trans h5⟩
  · obtain rfl := List.mem_singleton.1 he
    refine ⟨op, w.heap.size, ho, by rw [hk], rfl, hM, ?_⟩
    rw [cell_of_heap (hb _ (by omega))]
    simp
def RdPost (s : ByteArray) (e : Ending) (w' : World) : Prop := (∃ op v, (1 ≤ op ∧ op ≤ 15) ∧ s = tx (opText op) ∧ e = .returned v ∧ Rdr op v w') ∨ (e = .returned .nilFunc ∧ ∀ op, 1 ≤ op ∧ op ≤ 15 → s ≠ tx (opText op))

set_option maxRecDepth 100000 in
set_option maxHeartbeats 16000000 in
theorem I_insReader (s : ByteArray) (w : World) : Calls Tryd.prog 20 #[.string s] w fun e w' => RdPost s e w' ∧ Below w.heap.size w w' := by
  have hmm := @run_makeMap Tryd.prog
  refine calls_hide fun R HR => ?_
  go_enter Tryd.func20, Tryd.ntmps20
  go_wp2_with fail
  obtain ⟨M, hM⟩ : ∃ M, M = w.heap.size := ⟨_, rfl⟩
  obtain ⟨W0, hW0⟩ : ∃ W, W = w.alloc (.map #[] 0) := ⟨_, rfl⟩
  rw [← hW0]
  have hh0 : W0.heap[M]? = some (.map ([] : List MapEntry).toArray 0) := by rw [hW0, hM]; exact heap_alloc_new w _
  have B0 : Below w.heap.size w W0 := by rw [hW0]; exact (Below.refl _ _).alloc (Nat.le_refl _) _
  have l0 : M < W0.heap.size := by rw [hW0, hM]; simp
  have E0 : Hid (Ents M [] W0) := Lib.hid (fun e he => by cases he)
  have HB0 := Lib.hid B0
  have HM := Lib.hid hM
  rw [← hM]
  clear hmm hW0 B0 hM
  refine (I_mk2 1 W0).mono ?_
  rintro _ _ ⟨rfl, rfl⟩
  have ha0 : (W0.alloc (.cells #[.int .i64 1] 3)).heap[M]? = some (.map ([] : List MapEntry).toArray 0) := (Below.heap_alloc _ _ _ (by omega)).trans hh0
  have HA0 := Lib.hid ha0
  clear hh0 ha0
  go_wp2_with (refine wpList_insertS (by rfl) ⟨#[110, 117, 109]⟩ (.tmp 8) (.tmp 10) (by rfl) (by rfl) (by rfl) HA0.out (by rfl) ?_)
  intro W1 hh1 hk hs hb
  have E1 : Hid (Ents M _ W1) := Lib.hid (E0.out.step (c := 0) (k := ⟨#[110, 117, 109]⟩) (op := 1) l0 hk (by decide) (by rfl))
  have l1 : M < W1.heap.size := by first | omega | (rw [World.size_alloc] at hs; omega)
  have HB1 : Hid (Below w.heap.size w W1) := Lib.hid ((HB0.out.alloc (by have := HB0.out.size; exact this) _).trans (hb _ (by rw [HM.out]; exact Nat.le_refl _)))
  clear hk hs hb E0 HB0 HA0
  go_wp2_with fail
  refine (I_mk2 2 W1).mono ?_
  rintro _ _ ⟨rfl, rfl⟩
  have ha1 : (W1.alloc (.cells #[.int .i64 2] 3)).heap[M]? = some (.map ([({ key := .string ⟨#[110, 117, 109]⟩, val := .func (.func 38) #[] #[.pointer (some ⟨W0.heap.size, 0, none⟩)], born := 0 } : MapEntry)] : List MapEntry).toArray 1) := (Below.heap_alloc _ _ _ (by omega)).trans hh1
  have HA1 := Lib.hid ha1
  clear hh1 ha1
  go_wp2_with (refine wpList_insertS (by rfl) ⟨#[116, 97, 107, 101]⟩ (.tmp 8) (.tmp 12) (by rfl) (by rfl) (by rfl) HA1.out (by rfl) ?_)
  intro W2 hh2 hk hs hb
  have E2 : Hid (Ents M _ W2) := Lib.hid (E1.out.step (c := 1) (k := ⟨#[116, 97, 107, 101]⟩) (op := 2) l1 hk (by decide) (by rfl))
  have l2 : M < W2.heap.size := by first | omega | (rw [World.size_alloc] at hs; omega)
  have HB2 : Hid (Below w.heap.size w W2) := Lib.hid ((HB1.out.alloc (by have := HB1.out.size; exact this) _).trans (hb _ (by rw [HM.out]; exact Nat.le_refl _)))
  clear hk hs hb E1 HB1 HA1
  go_wp2_with fail
  refine (I_mk2 3 W2).mono ?_
  rintro _ _ ⟨rfl, rfl⟩
  have ha2 : (W2.alloc (.cells #[.int .i64 3] 3)).heap[M]? = some (.map ([({ key := .string ⟨#[110, 117, 109]⟩, val := .func (.func 38) #[] #[.pointer (some ⟨W0.heap.size, 0, none⟩)], born := 0 } : MapEntry), ({ key := .string ⟨#[116, 97, 107, 101]⟩, val := .func (.func 38) #[] #[.pointer (some ⟨W1.heap.size, 0, none⟩)], born := 1 } : MapEntry)] : List MapEntry).toArray 2) := (Below.heap_alloc _ _ _ (by omega)).trans hh2
  have HA2 := Lib.hid ha2
  clear hh2 ha2
  go_wp2_with (refine wpList_insertS (by rfl) ⟨#[112, 117, 116]⟩ (.tmp 8) (.tmp 14) (by rfl) (by rfl) (by rfl) HA2.out (by rfl) ?_)
  intro W3 hh3 hk hs hb
  have E3 : Hid (Ents M _ W3) := Lib.hid (E2.out.step (c := 2) (k := ⟨#[112, 117, 116]⟩) (op := 3) l2 hk (by decide) (by rfl))
  have l3 : M < W3.heap.size := by first | omega | (rw [World.size_alloc] at hs; omega)
  have HB3 : Hid (Below w.heap.size w W3) := Lib.hid ((HB2.out.alloc (by have := HB2.out.size; exact this) _).trans (hb _ (by rw [HM.out]; exact Nat.le_refl _)))
  clear hk hs hb E2 HB2 HA2
  go_wp2_with fail
  refine (I_mk1 4 W3).mono ?_
  rintro _ _ ⟨rfl, rfl⟩
  have ha3 : (W3.alloc (.cells #[.int .i64 4] 3)).heap[M]? = some (.map ([({ key := .string ⟨#[110, 117, 109]⟩, val := .func (.func 38) #[] #[.pointer (some ⟨W0.heap.size, 0, none⟩)], born := 0 } : MapEntry), ({ key := .string ⟨#[116, 97, 107, 101]⟩, val := .func (.func 38) #[] #[.pointer (some ⟨W1.heap.size, 0, none⟩)], born := 1 } : MapEntry), ({ key := .string ⟨#[112, 117, 116]⟩, val := .func (.func 38) #[] #[.pointer (some ⟨W2.heap.size, 0, none⟩)], born := 2 } : MapEntry)] : List MapEntry).toArray 3) := (Below.heap_alloc _ _ _ (by omega)).trans hh3
  have HA3 := Lib.hid ha3
  clear hh3 ha3
  go_wp2_with (refine wpList_insertS (by rfl) ⟨#[97, 100, 100]⟩ (.tmp 8) (.tmp 16) (by rfl) (by rfl) (by rfl) HA3.out (by rfl) ?_)
  intro W4 hh4 hk hs hb
  have E4 : Hid (Ents M _ W4) := Lib.hid (E3.out.step (c := 3) (k := ⟨#[97, 100, 100]⟩) (op := 4) l3 hk (by decide) (by rfl))
  have l4 : M < W4.heap.size := by first | omega | (rw [World.size_alloc] at hs; omega)
  have HB4 : Hid (Below w.heap.size w W4) := Lib.hid ((HB3.out.alloc (by have := HB3.out.size; exact this) _).trans (hb _ (by rw [HM.out]; exact Nat.le_refl _)))
  clear hk hs hb E3 HB3 HA3
  go_wp2_with fail
  refine (I_mk1 5 W4).mono ?_
  rintro _ _ ⟨rfl, rfl⟩
  have ha4 : (W4.alloc (.cells #[.int .i64 5] 3)).heap[M]? = some (.map ([({ key := .string ⟨#[110, 117, 109]⟩, val := .func (.func 38) #[] #[.pointer (some ⟨W0.heap.size, 0, none⟩)], born := 0 } : MapEntry), ({ key := .string ⟨#[116, 97, 107, 101]⟩, val := .func (.func 38) #[] #[.pointer (some ⟨W1.heap.size, 0, none⟩)], born := 1 } : MapEntry), ({ key := .string ⟨#[112, 117, 116]⟩, val := .func (.func 38) #[] #[.pointer (some ⟨W2.heap.size, 0, none⟩)], born := 2 } : MapEntry), ({ key := .string ⟨#[97, 100, 100]⟩, val := .func (.func 36) #[] #[.pointer (some ⟨W3.heap.size, 0, none⟩)], born := 3 } : MapEntry)] : List MapEntry).toArray 4) := (Below.heap_alloc _ _ _ (by omega)).trans hh4
  have HA4 := Lib.hid ha4
  clear hh4 ha4
  go_wp2_with (refine wpList_insertS (by rfl) ⟨#[110, 117, 108, 108]⟩ (.tmp 8) (.tmp 18) (by rfl) (by rfl) (by rfl) HA4.out (by rfl) ?_)
  intro W5 hh5 hk hs hb
  have E5 : Hid (Ents M _ W5) := Lib.hid (E4.out.step (c := 4) (k := ⟨#[110, 117, 108, 108]⟩) (op := 5) l4 hk (by decide) (by rfl))
  have l5 : M < W5.heap.size := by first | omega | (rw [World.size_alloc] at hs; omega)
  have HB5 : Hid (Below w.heap.size w W5) := Lib.hid ((HB4.out.alloc (by have := HB4.out.size; exact this) _).trans (hb _ (by rw [HM.out]; exact Nat.le_refl _)))
  clear hk hs hb E4 HB4 HA4
  go_wp2_with fail
  refine (I_mk3 6 W5).mono ?_
  rintro _ _ ⟨rfl, rfl⟩
  have ha5 : (W5.alloc (.cells #[.int .i64 6] 3)).heap[M]? = some (.map ([({ key := .string ⟨#[110, 117, 109]⟩, val := .func (.func 38) #[] #[.pointer (some ⟨W0.heap.size, 0, none⟩)], born := 0 } : MapEntry), ({ key := .string ⟨#[116, 97, 107, 101]⟩, val := .func (.func 38) #[] #[.pointer (some ⟨W1.heap.size, 0, none⟩)], born := 1 } : MapEntry), ({ key := .string ⟨#[112, 117, 116]⟩, val := .func (.func 38) #[] #[.pointer (some ⟨W2.heap.size, 0, none⟩)], born := 2 } : MapEntry), ({ key := .string ⟨#[97, 100, 100]⟩, val := .func (.func 36) #[] #[.pointer (some ⟨W3.heap.size, 0, none⟩)], born := 3 } : MapEntry), ({ key := .string ⟨#[110, 117, 108, 108]⟩, val := .func (.func 36) #[] #[.pointer (some ⟨W4.heap.size, 0, none⟩)], born := 4 } : MapEntry)] : List MapEntry).toArray 5) := (Below.heap_alloc _ _ _ (by omega)).trans hh5
  have HA5 := Lib.hid ha5
  clear hh5 ha5
  go_wp2_with (refine wpList_insertS (by rfl) ⟨#[110, 101, 119]⟩ (.tmp 8) (.tmp 20) (by rfl) (by rfl) (by rfl) HA5.out (by rfl) ?_)
  intro W6 hh6 hk hs hb
  have E6 : Hid (Ents M _ W6) := Lib.hid (E5.out.step (c := 5) (k := ⟨#[110, 101, 119]⟩) (op := 6) l5 hk (by decide) (by rfl))
  have l6 : M < W6.heap.size := by first | omega | (rw [World.size_alloc] at hs; omega)
  have HB6 : Hid (Below w.heap.size w W6) := Lib.hid ((HB5.out.alloc (by have := HB5.out.size; exact this) _).trans (hb _ (by rw [HM.out]; exact Nat.le_refl _)))
  clear hk hs hb E5 HB5 HA5
  go_wp2_with fail
  refine (I_mk4 7 W6).mono ?_
  rintro _ _ ⟨rfl, rfl⟩
  have ha6 : (W6.alloc (.cells #[.int .i64 7] 3)).heap[M]? = some (.map ([({ key := .string ⟨#[110, 117, 109]⟩, val := .func (.func 38) #[] #[.pointer (some ⟨W0.heap.size, 0, none⟩)], born := 0 } : MapEntry), ({ key := .string ⟨#[116, 97, 107, 101]⟩, val := .func (.func 38) #[] #[.pointer (some ⟨W1.heap.size, 0, none⟩)], born := 1 } : MapEntry), ({ key := .string ⟨#[112, 117, 116]⟩, val := .func (.func 38) #[] #[.pointer (some ⟨W2.heap.size, 0, none⟩)], born := 2 } : MapEntry), ({ key := .string ⟨#[97, 100, 100]⟩, val := .func (.func 36) #[] #[.pointer (some ⟨W3.heap.size, 0, none⟩)], born := 3 } : MapEntry), ({ key := .string ⟨#[110, 117, 108, 108]⟩, val := .func (.func 36) #[] #[.pointer (some ⟨W4.heap.size, 0, none⟩)], born := 4 } : MapEntry), ({ key := .string ⟨#[110, 101, 119]⟩, val := .func (.func 41) #[] #[.pointer (some ⟨W5.heap.size, 0, none⟩)], born := 5 } : MapEntry)] : List MapEntry).toArray 6) := (Below.heap_alloc _ _ _ (by omega)).trans hh6
  have HA6 := Lib.hid ha6
  clear hh6 ha6
  go_wp2_with (refine wpList_insertS (by rfl) ⟨#[103, 101, 116]⟩ (.tmp 8) (.tmp 22) (by rfl) (by rfl) (by rfl) HA6.out (by rfl) ?_)
  intro W7 hh7 hk hs hb
  have E7 : Hid (Ents M _ W7) := Lib.hid (E6.out.step (c := 6) (k := ⟨#[103, 101, 116]⟩) (op := 7) l6 hk (by decide) (by rfl))
  have l7 : M < W7.heap.size := by first | omega | (rw [World.size_alloc] at hs; omega)
  have HB7 : Hid (Below w.heap.size w W7) := Lib.hid ((HB6.out.alloc (by have := HB6.out.size; exact this) _).trans (hb _ (by rw [HM.out]; exact Nat.le_refl _)))
  clear hk hs hb E6 HB6 HA6
  go_wp2_with fail
  refine (I_mk4 8 W7).mono ?_
  rintro _ _ ⟨rfl, rfl⟩
  have ha7 : (W7.alloc (.cells #[.int .i64 8] 3)).heap[M]? = some (.map ([({ key := .string ⟨#[110, 117, 109]⟩, val := .func (.func 38) #[] #[.pointer (some ⟨W0.heap.size, 0, none⟩)], born := 0 } : MapEntry), ({ key := .string ⟨#[116, 97, 107, 101]⟩, val := .func (.func 38) #[] #[.pointer (some ⟨W1.heap.size, 0, none⟩)], born := 1 } : MapEntry), ({ key := .string ⟨#[112, 117, 116]⟩, val := .func (.func 38) #[] #[.pointer (some ⟨W2.heap.size, 0, none⟩)], born := 2 } : MapEntry), ({ key := .string ⟨#[97, 100, 100]⟩, val := .func (.func 36) #[] #[.pointer (some ⟨W3.heap.size, 0, none⟩)], born := 3 } : MapEntry), ({ key := .string ⟨#[110, 117, 108, 108]⟩, val := .func (.func 36) #[] #[.pointer (some ⟨W4.heap.size, 0, none⟩)], born := 4 } : MapEntry), ({ key := .string ⟨#[110, 101, 119]⟩, val := .func (.func 41) #[] #[.pointer (some ⟨W5.heap.size, 0, none⟩)], born := 5 } : MapEntry), ({ key := .string ⟨#[103, 101, 116]⟩, val := .func (.func 43) #[] #[.pointer (some ⟨W6.heap.size, 0, none⟩)], born := 6 } : MapEntry)] : List MapEntry).toArray 7) := (Below.heap_alloc _ _ _ (by omega)).trans hh7
  have HA7 := Lib.hid ha7
  clear hh7 ha7
  go_wp2_with (refine wpList_insertS (by rfl) ⟨#[115, 101, 116]⟩ (.tmp 8) (.tmp 24) (by rfl) (by rfl) (by rfl) HA7.out (by rfl) ?_)
  intro W8 hh8 hk hs hb
  have E8 : Hid (Ents M _ W8) := Lib.hid (E7.out.step (c := 7) (k := ⟨#[115, 101, 116]⟩) (op := 8) l7 hk (by decide) (by rfl))
  have l8 : M < W8.heap.size := by first | omega | (rw [World.size_alloc] at hs; omega)
  have HB8 : Hid (Below w.heap.size w W8) := Lib.hid ((HB7.out.alloc (by have := HB7.out.size; exact this) _).trans (hb _ (by rw [HM.out]; exact Nat.le_refl _)))
  clear hk hs hb E7 HB7 HA7
  go_wp2_with fail
  refine (I_mk4 9 W8).mono ?_
  rintro _ _ ⟨rfl, rfl⟩
  have ha8 : (W8.alloc (.cells #[.int .i64 9] 3)).heap[M]? = some (.map ([({ key := .string ⟨#[110, 117, 109]⟩, val := .func (.func 38) #[] #[.pointer (some ⟨W0.heap.size, 0, none⟩)], born := 0 } : MapEntry), ({ key := .string ⟨#[116, 97, 107, 101]⟩, val := .func (.func 38) #[] #[.pointer (some ⟨W1.heap.size, 0, none⟩)], born := 1 } : MapEntry), ({ key := .string ⟨#[112, 117, 116]⟩, val := .func (.func 38) #[] #[.pointer (some ⟨W2.heap.size, 0, none⟩)], born := 2 } : MapEntry), ({ key := .string ⟨#[97, 100, 100]⟩, val := .func (.func 36) #[] #[.pointer (some ⟨W3.heap.size, 0, none⟩)], born := 3 } : MapEntry), ({ key := .string ⟨#[110, 117, 108, 108]⟩, val := .func (.func 36) #[] #[.pointer (some ⟨W4.heap.size, 0, none⟩)], born := 4 } : MapEntry), ({ key := .string ⟨#[110, 101, 119]⟩, val := .func (.func 41) #[] #[.pointer (some ⟨W5.heap.size, 0, none⟩)], born := 5 } : MapEntry), ({ key := .string ⟨#[103, 101, 116]⟩, val := .func (.func 43) #[] #[.pointer (some ⟨W6.heap.size, 0, none⟩)], born := 6 } : MapEntry), ({ key := .string ⟨#[115, 101, 116]⟩, val := .func (.func 43) #[] #[.pointer (some ⟨W7.heap.size, 0, none⟩)], born := 7 } : MapEntry)] : List MapEntry).toArray 8) := (Below.heap_alloc _ _ _ (by omega)).trans hh8
  have HA8 := Lib.hid ha8
  clear hh8 ha8
  go_wp2_with (refine wpList_insertS (by rfl) ⟨#[99, 97, 108, 108]⟩ (.tmp 8) (.tmp 26) (by rfl) (by rfl) (by rfl) HA8.out (by rfl) ?_)
  intro W9 hh9 hk hs hb
  have E9 : Hid (Ents M _ W9) := Lib.hid (E8.out.step (c := 8) (k := ⟨#[99, 97, 108, 108]⟩) (op := 9) l8 hk (by decide) (by rfl))
  have l9 : M < W9.heap.size := by first | omega | (rw [World.size_alloc] at hs; omega)
  have HB9 : Hid (Below w.heap.size w W9) := Lib.hid ((HB8.out.alloc (by have := HB8.out.size; exact this) _).trans (hb _ (by rw [HM.out]; exact Nat.le_refl _)))
  clear hk hs hb E8 HB8 HA8
  go_wp2_with fail
  refine (I_mk1 10 W9).mono ?_
  rintro _ _ ⟨rfl, rfl⟩
  have ha9 : (W9.alloc (.cells #[.int .i64 10] 3)).heap[M]? = some (.map ([({ key := .string ⟨#[110, 117, 109]⟩, val := .func (.func 38) #[] #[.pointer (some ⟨W0.heap.size, 0, none⟩)], born := 0 } : MapEntry), ({ key := .string ⟨#[116, 97, 107, 101]⟩, val := .func (.func 38) #[] #[.pointer (some ⟨W1.heap.size, 0, none⟩)], born := 1 } : MapEntry), ({ key := .string ⟨#[112, 117, 116]⟩, val := .func (.func 38) #[] #[.pointer (some ⟨W2.heap.size, 0, none⟩)], born := 2 } : MapEntry), ({ key := .string ⟨#[97, 100, 100]⟩, val := .func (.func 36) #[] #[.pointer (some ⟨W3.heap.size, 0, none⟩)], born := 3 } : MapEntry), ({ key := .string ⟨#[110, 117, 108, 108]⟩, val := .func (.func 36) #[] #[.pointer (some ⟨W4.heap.size, 0, none⟩)], born := 4 } : MapEntry), ({ key := .string ⟨#[110, 101, 119]⟩, val := .func (.func 41) #[] #[.pointer (some ⟨W5.heap.size, 0, none⟩)], born := 5 } : MapEntry), ({ key := .string ⟨#[103, 101, 116]⟩, val := .func (.func 43) #[] #[.pointer (some ⟨W6.heap.size, 0, none⟩)], born := 6 } : MapEntry), ({ key := .string ⟨#[115, 101, 116]⟩, val := .func (.func 43) #[] #[.pointer (some ⟨W7.heap.size, 0, none⟩)], born := 7 } : MapEntry), ({ key := .string ⟨#[99, 97, 108, 108]⟩, val := .func (.func 43) #[] #[.pointer (some ⟨W8.heap.size, 0, none⟩)], born := 8 } : MapEntry)] : List MapEntry).toArray 9) := (Below.heap_alloc _ _ _ (by omega)).trans hh9
  have HA9 := Lib.hid ha9
  clear hh9 ha9
  go_wp2_with (refine wpList_insertS (by rfl) ⟨#[114, 101, 116]⟩ (.tmp 8) (.tmp 28) (by rfl) (by rfl) (by rfl) HA9.out (by rfl) ?_)
  intro W10 hh10 hk hs hb
  have E10 : Hid (Ents M _ W10) := Lib.hid (E9.out.step (c := 9) (k := ⟨#[114, 101, 116]⟩) (op := 10) l9 hk (by decide) (by rfl))
  have l10 : M < W10.heap.size := by first | omega | (rw [World.size_alloc] at hs; omega)
  have HB10 : Hid (Below w.heap.size w W10) := Lib.hid ((HB9.out.alloc (by have := HB9.out.size; exact this) _).trans (hb _ (by rw [HM.out]; exact Nat.le_refl _)))
  clear hk hs hb E9 HB9 HA9
  go_wp2_with fail
  refine (I_mk2 11 W10).mono ?_
  rintro _ _ ⟨rfl, rfl⟩
  have ha10 : (W10.alloc (.cells #[.int .i64 11] 3)).heap[M]? = some (.map ([({ key := .string ⟨#[110, 117, 109]⟩, val := .func (.func 38) #[] #[.pointer (some ⟨W0.heap.size, 0, none⟩)], born := 0 } : MapEntry), ({ key := .string ⟨#[116, 97, 107, 101]⟩, val := .func (.func 38) #[] #[.pointer (some ⟨W1.heap.size, 0, none⟩)], born := 1 } : MapEntry), ({ key := .string ⟨#[112, 117, 116]⟩, val := .func (.func 38) #[] #[.pointer (some ⟨W2.heap.size, 0, none⟩)], born := 2 } : MapEntry), ({ key := .string ⟨#[97, 100, 100]⟩, val := .func (.func 36) #[] #[.pointer (some ⟨W3.heap.size, 0, none⟩)], born := 3 } : MapEntry), ({ key := .string ⟨#[110, 117, 108, 108]⟩, val := .func (.func 36) #[] #[.pointer (some ⟨W4.heap.size, 0, none⟩)], born := 4 } : MapEntry), ({ key := .string ⟨#[110, 101, 119]⟩, val := .func (.func 41) #[] #[.pointer (some ⟨W5.heap.size, 0, none⟩)], born := 5 } : MapEntry), ({ key := .string ⟨#[103, 101, 116]⟩, val := .func (.func 43) #[] #[.pointer (some ⟨W6.heap.size, 0, none⟩)], born := 6 } : MapEntry), ({ key := .string ⟨#[115, 101, 116]⟩, val := .func (.func 43) #[] #[.pointer (some ⟨W7.heap.size, 0, none⟩)], born := 7 } : MapEntry), ({ key := .string ⟨#[99, 97, 108, 108]⟩, val := .func (.func 43) #[] #[.pointer (some ⟨W8.heap.size, 0, none⟩)], born := 8 } : MapEntry), ({ key := .string ⟨#[114, 101, 116]⟩, val := .func (.func 36) #[] #[.pointer (some ⟨W9.heap.size, 0, none⟩)], born := 9 } : MapEntry)] : List MapEntry).toArray 10) := (Below.heap_alloc _ _ _ (by omega)).trans hh10
  have HA10 := Lib.hid ha10
  clear hh10 ha10
  go_wp2_with (refine wpList_insertS (by rfl) ⟨#[122, 101, 114, 111]⟩ (.tmp 8) (.tmp 30) (by rfl) (by rfl) (by rfl) HA10.out (by rfl) ?_)
  intro W11 hh11 hk hs hb
  have E11 : Hid (Ents M _ W11) := Lib.hid (E10.out.step (c := 10) (k := ⟨#[122, 101, 114, 111]⟩) (op := 11) l10 hk (by decide) (by rfl))
  have l11 : M < W11.heap.size := by first | omega | (rw [World.size_alloc] at hs; omega)
  have HB11 : Hid (Below w.heap.size w W11) := Lib.hid ((HB10.out.alloc (by have := HB10.out.size; exact this) _).trans (hb _ (by rw [HM.out]; exact Nat.le_refl _)))
  clear hk hs hb E10 HB10 HA10
  go_wp2_with fail
  refine (I_mk2 12 W11).mono ?_
  rintro _ _ ⟨rfl, rfl⟩
  have ha11 : (W11.alloc (.cells #[.int .i64 12] 3)).heap[M]? = some (.map ([({ key := .string ⟨#[110, 117, 109]⟩, val := .func (.func 38) #[] #[.pointer (some ⟨W0.heap.size, 0, none⟩)], born := 0 } : MapEntry), ({ key := .string ⟨#[116, 97, 107, 101]⟩, val := .func (.func 38) #[] #[.pointer (some ⟨W1.heap.size, 0, none⟩)], born := 1 } : MapEntry), ({ key := .string ⟨#[112, 117, 116]⟩, val := .func (.func 38) #[] #[.pointer (some ⟨W2.heap.size, 0, none⟩)], born := 2 } : MapEntry), ({ key := .string ⟨#[97, 100, 100]⟩, val := .func (.func 36) #[] #[.pointer (some ⟨W3.heap.size, 0, none⟩)], born := 3 } : MapEntry), ({ key := .string ⟨#[110, 117, 108, 108]⟩, val := .func (.func 36) #[] #[.pointer (some ⟨W4.heap.size, 0, none⟩)], born := 4 } : MapEntry), ({ key := .string ⟨#[110, 101, 119]⟩, val := .func (.func 41) #[] #[.pointer (some ⟨W5.heap.size, 0, none⟩)], born := 5 } : MapEntry), ({ key := .string ⟨#[103, 101, 116]⟩, val := .func (.func 43) #[] #[.pointer (some ⟨W6.heap.size, 0, none⟩)], born := 6 } : MapEntry), ({ key := .string ⟨#[115, 101, 116]⟩, val := .func (.func 43) #[] #[.pointer (some ⟨W7.heap.size, 0, none⟩)], born := 7 } : MapEntry), ({ key := .string ⟨#[99, 97, 108, 108]⟩, val := .func (.func 43) #[] #[.pointer (some ⟨W8.heap.size, 0, none⟩)], born := 8 } : MapEntry), ({ key := .string ⟨#[114, 101, 116]⟩, val := .func (.func 36) #[] #[.pointer (some ⟨W9.heap.size, 0, none⟩)], born := 9 } : MapEntry), ({ key := .string ⟨#[122, 101, 114, 111]⟩, val := .func (.func 38) #[] #[.pointer (some ⟨W10.heap.size, 0, none⟩)], born := 10 } : MapEntry)] : List MapEntry).toArray 11) := (Below.heap_alloc _ _ _ (by omega)).trans hh11
  have HA11 := Lib.hid ha11
  clear hh11 ha11
  go_wp2_with (refine wpList_insertS (by rfl) ⟨#[110, 105, 108]⟩ (.tmp 8) (.tmp 32) (by rfl) (by rfl) (by rfl) HA11.out (by rfl) ?_)
  intro W12 hh12 hk hs hb
  have E12 : Hid (Ents M _ W12) := Lib.hid (E11.out.step (c := 11) (k := ⟨#[110, 105, 108]⟩) (op := 12) l11 hk (by decide) (by rfl))
  have l12 : M < W12.heap.size := by first | omega | (rw [World.size_alloc] at hs; omega)
  have HB12 : Hid (Below w.heap.size w W12) := Lib.hid ((HB11.out.alloc (by have := HB11.out.size; exact this) _).trans (hb _ (by rw [HM.out]; exact Nat.le_refl _)))
  clear hk hs hb E11 HB11 HA11
  go_wp2_with fail
  refine (I_mk2 13 W12).mono ?_
  rintro _ _ ⟨rfl, rfl⟩
  have ha12 : (W12.alloc (.cells #[.int .i64 13] 3)).heap[M]? = some (.map ([({ key := .string ⟨#[110, 117, 109]⟩, val := .func (.func 38) #[] #[.pointer (some ⟨W0.heap.size, 0, none⟩)], born := 0 } : MapEntry), ({ key := .string ⟨#[116, 97, 107, 101]⟩, val := .func (.func 38) #[] #[.pointer (some ⟨W1.heap.size, 0, none⟩)], born := 1 } : MapEntry), ({ key := .string ⟨#[112, 117, 116]⟩, val := .func (.func 38) #[] #[.pointer (some ⟨W2.heap.size, 0, none⟩)], born := 2 } : MapEntry), ({ key := .string ⟨#[97, 100, 100]⟩, val := .func (.func 36) #[] #[.pointer (some ⟨W3.heap.size, 0, none⟩)], born := 3 } : MapEntry), ({ key := .string ⟨#[110, 117, 108, 108]⟩, val := .func (.func 36) #[] #[.pointer (some ⟨W4.heap.size, 0, none⟩)], born := 4 } : MapEntry), ({ key := .string ⟨#[110, 101, 119]⟩, val := .func (.func 41) #[] #[.pointer (some ⟨W5.heap.size, 0, none⟩)], born := 5 } : MapEntry), ({ key := .string ⟨#[103, 101, 116]⟩, val := .func (.func 43) #[] #[.pointer (some ⟨W6.heap.size, 0, none⟩)], born := 6 } : MapEntry), ({ key := .string ⟨#[115, 101, 116]⟩, val := .func (.func 43) #[] #[.pointer (some ⟨W7.heap.size, 0, none⟩)], born := 7 } : MapEntry), ({ key := .string ⟨#[99, 97, 108, 108]⟩, val := .func (.func 43) #[] #[.pointer (some ⟨W8.heap.size, 0, none⟩)], born := 8 } : MapEntry), ({ key := .string ⟨#[114, 101, 116]⟩, val := .func (.func 36) #[] #[.pointer (some ⟨W9.heap.size, 0, none⟩)], born := 9 } : MapEntry), ({ key := .string ⟨#[122, 101, 114, 111]⟩, val := .func (.func 38) #[] #[.pointer (some ⟨W10.heap.size, 0, none⟩)], born := 10 } : MapEntry), ({ key := .string ⟨#[110, 105, 108]⟩, val := .func (.func 38) #[] #[.pointer (some ⟨W11.heap.size, 0, none⟩)], born := 11 } : MapEntry)] : List MapEntry).toArray 12) := (Below.heap_alloc _ _ _ (by omega)).trans hh12
  have HA12 := Lib.hid ha12
  clear hh12 ha12
  go_wp2_with (refine wpList_insertS (by rfl) ⟨#[103, 111]⟩ (.tmp 8) (.tmp 34) (by rfl) (by rfl) (by rfl) HA12.out (by rfl) ?_)
  intro W13 hh13 hk hs hb
  have E13 : Hid (Ents M _ W13) := Lib.hid (E12.out.step (c := 12) (k := ⟨#[103, 111]⟩) (op := 13) l12 hk (by decide) (by rfl))
  have l13 : M < W13.heap.size := by first | omega | (rw [World.size_alloc] at hs; omega)
  have HB13 : Hid (Below w.heap.size w W13) := Lib.hid ((HB12.out.alloc (by have := HB12.out.size; exact this) _).trans (hb _ (by rw [HM.out]; exact Nat.le_refl _)))
  clear hk hs hb E12 HB12 HA12
  go_wp2_with fail
  refine (I_mk1 14 W13).mono ?_
  rintro _ _ ⟨rfl, rfl⟩
  have ha13 : (W13.alloc (.cells #[.int .i64 14] 3)).heap[M]? = some (.map ([({ key := .string ⟨#[110, 117, 109]⟩, val := .func (.func 38) #[] #[.pointer (some ⟨W0.heap.size, 0, none⟩)], born := 0 } : MapEntry), ({ key := .string ⟨#[116, 97, 107, 101]⟩, val := .func (.func 38) #[] #[.pointer (some ⟨W1.heap.size, 0, none⟩)], born := 1 } : MapEntry), ({ key := .string ⟨#[112, 117, 116]⟩, val := .func (.func 38) #[] #[.pointer (some ⟨W2.heap.size, 0, none⟩)], born := 2 } : MapEntry), ({ key := .string ⟨#[97, 100, 100]⟩, val := .func (.func 36) #[] #[.pointer (some ⟨W3.heap.size, 0, none⟩)], born := 3 } : MapEntry), ({ key := .string ⟨#[110, 117, 108, 108]⟩, val := .func (.func 36) #[] #[.pointer (some ⟨W4.heap.size, 0, none⟩)], born := 4 } : MapEntry), ({ key := .string ⟨#[110, 101, 119]⟩, val := .func (.func 41) #[] #[.pointer (some ⟨W5.heap.size, 0, none⟩)], born := 5 } : MapEntry), ({ key := .string ⟨#[103, 101, 116]⟩, val := .func (.func 43) #[] #[.pointer (some ⟨W6.heap.size, 0, none⟩)], born := 6 } : MapEntry), ({ key := .string ⟨#[115, 101, 116]⟩, val := .func (.func 43) #[] #[.pointer (some ⟨W7.heap.size, 0, none⟩)], born := 7 } : MapEntry), ({ key := .string ⟨#[99, 97, 108, 108]⟩, val := .func (.func 43) #[] #[.pointer (some ⟨W8.heap.size, 0, none⟩)], born := 8 } : MapEntry), ({ key := .string ⟨#[114, 101, 116]⟩, val := .func (.func 36) #[] #[.pointer (some ⟨W9.heap.size, 0, none⟩)], born := 9 } : MapEntry), ({ key := .string ⟨#[122, 101, 114, 111]⟩, val := .func (.func 38) #[] #[.pointer (some ⟨W10.heap.size, 0, none⟩)], born := 10 } : MapEntry), ({ key := .string ⟨#[110, 105, 108]⟩, val := .func (.func 38) #[] #[.pointer (some ⟨W11.heap.size, 0, none⟩)], born := 11 } : MapEntry), ({ key := .string ⟨#[103, 111]⟩, val := .func (.func 38) #[] #[.pointer (some ⟨W12.heap.size, 0, none⟩)], born := 12 } : MapEntry)] : List MapEntry).toArray 13) := (Below.heap_alloc _ _ _ (by omega)).trans hh13
  have HA13 := Lib.hid ha13
  clear hh13 ha13
  go_wp2_with (refine wpList_insertS (by rfl) ⟨#[111, 117, 116]⟩ (.tmp 8) (.tmp 36) (by rfl) (by rfl) (by rfl) HA13.out (by rfl) ?_)
  intro W14 hh14 hk hs hb
  have E14 : Hid (Ents M _ W14) := Lib.hid (E13.out.step (c := 13) (k := ⟨#[111, 117, 116]⟩) (op := 14) l13 hk (by decide) (by rfl))
  have l14 : M < W14.heap.size := by first | omega | (rw [World.size_alloc] at hs; omega)
  have HB14 : Hid (Below w.heap.size w W14) := Lib.hid ((HB13.out.alloc (by have := HB13.out.size; exact this) _).trans (hb _ (by rw [HM.out]; exact Nat.le_refl _)))
  clear hk hs hb E13 HB13 HA13
  go_wp2_with fail
  refine (I_mk3 15 W14).mono ?_
  rintro _ _ ⟨rfl, rfl⟩
  have ha14 : (W14.alloc (.cells #[.int .i64 15] 3)).heap[M]? = some (.map ([({ key := .string ⟨#[110, 117, 109]⟩, val := .func (.func 38) #[] #[.pointer (some ⟨W0.heap.size, 0, none⟩)], born := 0 } : MapEntry), ({ key := .string ⟨#[116, 97, 107, 101]⟩, val := .func (.func 38) #[] #[.pointer (some ⟨W1.heap.size, 0, none⟩)], born := 1 } : MapEntry), ({ key := .string ⟨#[112, 117, 116]⟩, val := .func (.func 38) #[] #[.pointer (some ⟨W2.heap.size, 0, none⟩)], born := 2 } : MapEntry), ({ key := .string ⟨#[97, 100, 100]⟩, val := .func (.func 36) #[] #[.pointer (some ⟨W3.heap.size, 0, none⟩)], born := 3 } : MapEntry), ({ key := .string ⟨#[110, 117, 108, 108]⟩, val := .func (.func 36) #[] #[.pointer (some ⟨W4.heap.size, 0, none⟩)], born := 4 } : MapEntry), ({ key := .string ⟨#[110, 101, 119]⟩, val := .func (.func 41) #[] #[.pointer (some ⟨W5.heap.size, 0, none⟩)], born := 5 } : MapEntry), ({ key := .string ⟨#[103, 101, 116]⟩, val := .func (.func 43) #[] #[.pointer (some ⟨W6.heap.size, 0, none⟩)], born := 6 } : MapEntry), ({ key := .string ⟨#[115, 101, 116]⟩, val := .func (.func 43) #[] #[.pointer (some ⟨W7.heap.size, 0, none⟩)], born := 7 } : MapEntry), ({ key := .string ⟨#[99, 97, 108, 108]⟩, val := .func (.func 43) #[] #[.pointer (some ⟨W8.heap.size, 0, none⟩)], born := 8 } : MapEntry), ({ key := .string ⟨#[114, 101, 116]⟩, val := .func (.func 36) #[] #[.pointer (some ⟨W9.heap.size, 0, none⟩)], born := 9 } : MapEntry), ({ key := .string ⟨#[122, 101, 114, 111]⟩, val := .func (.func 38) #[] #[.pointer (some ⟨W10.heap.size, 0, none⟩)], born := 10 } : MapEntry), ({ key := .string ⟨#[110, 105, 108]⟩, val := .func (.func 38) #[] #[.pointer (some ⟨W11.heap.size, 0, none⟩)], born := 11 } : MapEntry), ({ key := .string ⟨#[103, 111]⟩, val := .func (.func 38) #[] #[.pointer (some ⟨W12.heap.size, 0, none⟩)], born := 12 } : MapEntry), ({ key := .string ⟨#[111, 117, 116]⟩, val := .func (.func 36) #[] #[.pointer (some ⟨W13.heap.size, 0, none⟩)], born := 13 } : MapEntry)] : List MapEntry).toArray 14) := (Below.heap_alloc _ _ _ (by omega)).trans hh14
  have HA14 := Lib.hid ha14
  clear hh14 ha14
  go_wp2_with (refine wpList_insertS (by rfl) ⟨#[99, 97, 115, 116]⟩ (.tmp 8) (.tmp 38) (by rfl) (by rfl) (by rfl) HA14.out (by rfl) ?_)
  intro W15 hh15 hk hs hb
  have E15 : Hid (Ents M _ W15) := Lib.hid (E14.out.step (c := 14) (k := ⟨#[99, 97, 115, 116]⟩) (op := 15) l14 hk (by decide) (by rfl))
  have l15 : M < W15.heap.size := by first | omega | (rw [World.size_alloc] at hs; omega)
  have HB15 : Hid (Below w.heap.size w W15) := Lib.hid ((HB14.out.alloc (by have := HB14.out.size; exact this) _).trans (hb _ (by rw [HM.out]; exact Nat.le_refl _)))
  clear hk hs hb E14 HB14 HA14
  have hk15 : ∀ e ∈ ([({ key := .string ⟨#[110, 117, 109]⟩, val := .func (.func 38) #[] #[.pointer (some ⟨W0.heap.size, 0, none⟩)], born := 0 } : MapEntry), ({ key := .string ⟨#[116, 97, 107, 101]⟩, val := .func (.func 38) #[] #[.pointer (some ⟨W1.heap.size, 0, none⟩)], born := 1 } : MapEntry), ({ key := .string ⟨#[112, 117, 116]⟩, val := .func (.func 38) #[] #[.pointer (some ⟨W2.heap.size, 0, none⟩)], born := 2 } : MapEntry), ({ key := .string ⟨#[97, 100, 100]⟩, val := .func (.func 36) #[] #[.pointer (some ⟨W3.heap.size, 0, none⟩)], born := 3 } : MapEntry), ({ key := .string ⟨#[110, 117, 108, 108]⟩, val := .func (.func 36) #[] #[.pointer (some ⟨W4.heap.size, 0, none⟩)], born := 4 } : MapEntry), ({ key := .string ⟨#[110, 101, 119]⟩, val := .func (.func 41) #[] #[.pointer (some ⟨W5.heap.size, 0, none⟩)], born := 5 } : MapEntry), ({ key := .string ⟨#[103, 101, 116]⟩, val := .func (.func 43) #[] #[.pointer (some ⟨W6.heap.size, 0, none⟩)], born := 6 } : MapEntry), ({ key := .string ⟨#[115, 101, 116]⟩, val := .func (.func 43) #[] #[.pointer (some ⟨W7.heap.size, 0, none⟩)], born := 7 } : MapEntry), ({ key := .string ⟨#[99, 97, 108, 108]⟩, val := .func (.func 43) #[] #[.pointer (some ⟨W8.heap.size, 0, none⟩)], born := 8 } : MapEntry), ({ key := .string ⟨#[114, 101, 116]⟩, val := .func (.func 36) #[] #[.pointer (some ⟨W9.heap.size, 0, none⟩)], born := 9 } : MapEntry), ({ key := .string ⟨#[122, 101, 114, 111]⟩, val := .func (.func 38) #[] #[.pointer (some ⟨W10.heap.size, 0, none⟩)], born := 10 } : MapEntry), ({ key := .string ⟨#[110, 105, 108]⟩, val := .func (.func 38) #[] #[.pointer (some ⟨W11.heap.size, 0, none⟩)], born := 11 } : MapEntry), ({ key := .string ⟨#[103, 111]⟩, val := .func (.func 38) #[] #[.pointer (some ⟨W12.heap.size, 0, none⟩)], born := 12 } : MapEntry), ({ key := .string ⟨#[111, 117, 116]⟩, val := .func (.func 36) #[] #[.pointer (some ⟨W13.heap.size, 0, none⟩)], born := 13 } : MapEntry), ({ key := .string ⟨#[99, 97, 115, 116]⟩, val := .func (.func 41) #[] #[.pointer (some ⟨W14.heap.size, 0, none⟩)], born := 14 } : MapEntry)] : List MapEntry), ∃ k, e.key = .string k := fun e he => by
    obtain ⟨op, b, _, h, _⟩ := E15.out e he
    exact ⟨_, h⟩
  rcases findNow_str s _ hk15 with ⟨hf, hno⟩ | ⟨j, e, hf, he, hke⟩
  · have hlk := run_lookS hh15 s none hf
    have HNO : Hid (∀ op, 1 ≤ op ∧ op ≤ 15 → s ≠ tx (opText op)) := Lib.hid fun op ho hs => by
      rcases fifteen ho with rfl | rfl | rfl | rfl | rfl | rfl | rfl | rfl | rfl | rfl | rfl | rfl | rfl | rfl | rfl
      · exact hno _ (List.mem_of_getElem? (i := 0) rfl) (by rw [hs]; rfl)
      · exact hno _ (List.mem_of_getElem? (i := 1) rfl) (by rw [hs]; rfl)
      · exact hno _ (List.mem_of_getElem? (i := 2) rfl) (by rw [hs]; rfl)
      · exact hno _ (List.mem_of_getElem? (i := 3) rfl) (by rw [hs]; rfl)
      · exact hno _ (List.mem_of_getElem? (i := 4) rfl) (by rw [hs]; rfl)
      · exact hno _ (List.mem_of_getElem? (i := 5) rfl) (by rw [hs]; rfl)
      · exact hno _ (List.mem_of_getElem? (i := 6) rfl) (by rw [hs]; rfl)
      · exact hno _ (List.mem_of_getElem? (i := 7) rfl) (by rw [hs]; rfl)
      · exact hno _ (List.mem_of_getElem? (i := 8) rfl) (by rw [hs]; rfl)
      · exact hno _ (List.mem_of_getElem? (i := 9) rfl) (by rw [hs]; rfl)
      · exact hno _ (List.mem_of_getElem? (i := 10) rfl) (by rw [hs]; rfl)
      · exact hno _ (List.mem_of_getElem? (i := 11) rfl) (by rw [hs]; rfl)
      · exact hno _ (List.mem_of_getElem? (i := 12) rfl) (by rw [hs]; rfl)
      · exact hno _ (List.mem_of_getElem? (i := 13) rfl) (by rw [hs]; rfl)
      · exact hno _ (List.mem_of_getElem? (i := 14) rfl) (by rw [hs]; rfl)
    clear hf hno hk15 hh15
    go_wp2
    all_goals (try go_returns)
    all_goals exact HR.out _ _ ⟨Or.inr ⟨rfl, HNO.out⟩, HB15.out⟩
  · have hlk := run_lookS hh15 s (some (j, e.val)) hf
    simp only [lookV] at hlk
    obtain ⟨op, b, ho, h1, h2, _, h3⟩ := E15.out e he
    have hs : s = tx (opText op) := by rw [h1] at hke; cases hke; rfl
    rw [h2] at hlk
    have RD : Hid (Rdr op (.func (.func (rdFn op)) #[] #[.pointer (some ⟨b, 0, none⟩)]) W15) := Lib.hid ⟨b, rfl, h3⟩
    have HS := Lib.hid hs
    clear hf he hke h1 h2 h3 hk15 hh15 hs
    go_wp2
    all_goals (try go_returns)
    all_goals exact HR.out _ _ ⟨Or.inl ⟨op, _, ho, HS.out, rfl, RD.out⟩, HB15.out⟩

end Go.Proofs.YtmbfpbgkchncgaaDoor
