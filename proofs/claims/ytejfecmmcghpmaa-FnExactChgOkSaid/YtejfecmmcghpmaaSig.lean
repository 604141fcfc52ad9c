

/-
  Methods that take and give back kinds of the same names: plain words, and the walks of the reference's l4Same and of slices.Equal at kinds. Condition: the data can be read.
-/
import Derived.Test.YtejfecmmcghpmaaLodP
import Derived.Test.YtejfecmmcghpmaaReg
import Derived.Deep.LoopGhost
namespace Go.Proofs.Ytejfecmmcghpmaa
set_option linter.unusedSimpArgs false
set_option linter.unusedVariables false
open Go.RowKit

def kndEq (a b : DKndKind) : Bool := a.fKind == b.fKind && a.fName.toList == b.fName.toList
def argAt (ys : List DKndKind) (k : Nat) (x : DKndKind) : Bool := match ys[k]? with | some y => kndEq x y | none => true
def sameArgs (xs ys : List DKndKind) : Bool := decide (xs.length = ys.length) && each (argAt ys) xs
def sameSig (a b : DClsMethod) : Bool := kndEq a.fRet b.fRet && sameArgs a.fArgs b.fArgs

theorem kndEq_iff {a b : DKndKind} : kndEq a b = true ↔ a = b := by
  obtain ⟨ak, an⟩ := a
  obtain ⟨bk, bn⟩ := b
  unfold kndEq
  simp only [Bool.and_eq_true, beq_iff_eq, DKndKind.mk.injEq]
  constructor
  · rintro ⟨h1, h2⟩; exact ⟨h1, sameN_iff.1 (by simpa [sameN] using h2)⟩
  · rintro ⟨h1, h2⟩; exact ⟨h1, by rw [h2]⟩

@[go_sem] theorem eg_knd : Try.prog.eqGuardType Try.prog.depth 44 = false := by kernel_rfl
@[go_sem] theorem eq_knd (a c : Int) (b d : ByteArray) (w : World) : (Op.equalIn 10000 44 (.agg #[.int .i64 a, .string b]) (.agg #[.int .i64 c, .string d])).run Try.prog w = .ok (a == c && b.toList == d.toList) w := by
  have iu3 := Try.underlying3
  have ia3 := Try.isAgg3
  have iz3 := Try.sizeOf3
  have iu9 := Try.underlying9
  have ia9 := Try.isAgg9
  have iz9 := Try.sizeOf9
  have hS : Try.prog.underlying 44 = some (.struct (Try.prog.fieldsOf 44)) := by kernel_rfl
  have hp : Try.prog.stoodInHeld 44 = false := by kernel_rfl
  rw [show (10000 : Nat) = 9999 + 1 from rfl, run_equalIn_agg w 9999 44 _ _ hS hp]
  simp only [Program.fieldsOf, Try.underlying44]
  go_simp
  by_cases h1 : a = c <;> by_cases h2 : b.toList = d.toList <;> simp [h1, h2]

theorem sameSig_len {m n : DClsMethod} (h : m.fArgs.length ≠ n.fArgs.length) : sameSig m n = false := by simp [sameSig, sameArgs, h]
theorem sameSig_ret {m n : DClsMethod} (h : kndEq m.fRet n.fRet = false) : sameSig m n = false := by simp [sameSig, h]
theorem sameSig_stop {m n : DClsMethod} (h : each (argAt n.fArgs) m.fArgs = false) : sameSig m n = false := by simp [sameSig, sameArgs, h]
theorem sameSig_done {m n : DClsMethod} (h1 : m.fArgs.length = n.fArgs.length) (h2 : kndEq m.fRet n.fRet = true) (h : each (argAt n.fArgs) m.fArgs = true) : sameSig m n = true := by simp [sameSig, sameArgs, h, h1, h2]

set_option maxRecDepth 100000 in
set_option maxHeartbeats 8000000 in
theorem S_l4Same (m n : DClsMethod) (v1 u1 : Value) (a2 a3 c2 c3 : Option Addr) (l2 l3 k2 k3 d2 d3 e2 e3 : Nat) (w : World) (s1 : Sl 2 rKndKind 0 w v1 m.fArgs) (t1 : Sl 2 rKndKind 0 w u1 n.fArgs) :
    Calls Try.prog 71 #[.agg #[.string m.fName, v1, .int .i64 m.fRet.fKind, .string m.fRet.fName, .int .i64 m.fLocals, .int .i64 m.fStack, .slice a2 l2 k2, .slice a3 l3 k3], .agg #[.string n.fName, u1, .int .i64 n.fRet.fKind, .string n.fRet.fName, .int .i64 n.fLocals, .int .i64 n.fStack, .slice c2 d2 e2, .slice c3 d3 e3]] w fun e w' => e = .returned (.bool (sameSig m n)) ∧ Below w.heap.size w w' := by
  obtain ⟨a, len, cap, rfl, hl, h1, h2, h3⟩ := id s1
  obtain ⟨a', len', cap', rfl, hl', h1', h2', h3'⟩ := id t1
  have m1 : len ≤ 9223372036854775807 := by unfold maxLen at h2; omega
  have m1' : len' ≤ 9223372036854775807 := by unfold maxLen at h2'; omega
  have HL := Lib.hid hl
  have HL' := Lib.hid hl'
  clear h2 hl h2' hl' h1 h1'
  obtain ⟨z, hz⟩ : ∃ z, z = sameSig m n := ⟨_, rfl⟩
  have HZ := Lib.hid hz
  rw [← hz]
  clear hz
  by_cases hlen : ¬ len = len'
  · have RV : Hid (z = false) := Lib.hid (by rw [HZ.out]; exact sameSig_len (by rw [HL.out, HL'.out]; exact hlen))
    have i1 : ((len : Int) != (len' : Int)) = true := by simp; omega
    have i2 : ¬ (len : Int) = (len' : Int) := by omega
    refine calls_hide fun R HR => ?_
    go_enter Try.func71, Try.ntmps71
    go_wp2
    all_goals (try go_returns)
    all_goals exact HR.out _ _ ⟨by first | (rw [RV.out]; done) | (rw [RV.out]; rfl), by (repeat' (first | (with_reducible exact Below.refl _ _) | (with_reducible refine Below.alloc ?_ ?_ _) | (with_reducible refine Below.setCell ?_ ?_ _) | (with_reducible refine Below.drew ?_) | (refine below_hyp (by assumption) ?_ ?_) | go_size))⟩
  obtain rfl : len = len' := Decidable.byContradiction hlen
  clear hlen
  cases hr : kndEq m.fRet n.fRet
  · have RV : Hid (z = false) := Lib.hid (by rw [HZ.out]; exact sameSig_ret hr)
    have hq2 : (m.fRet.fKind == n.fRet.fKind && m.fRet.fName.toList == n.fRet.fName.toList) = false := hr
    clear hr
    have bo : ∀ W, (binOp .neq 44 (.agg #[.int .i64 m.fRet.fKind, .string m.fRet.fName]) (.agg #[.int .i64 n.fRet.fKind, .string n.fRet.fName])).run Try.prog W = .ok (.bool true) W := fun W => by
      simp only [run_neq_struct, eq_knd, hq2]
      try simp [Result.andThen]
    clear hq2
    refine calls_hide fun R HR => ?_
    go_enter Try.func71, Try.ntmps71
    go_wp2
    all_goals (try go_returns)
    all_goals exact HR.out _ _ ⟨by first | (rw [RV.out]; done) | (rw [RV.out]; rfl), by (repeat' (first | (with_reducible exact Below.refl _ _) | (with_reducible refine Below.alloc ?_ ?_ _) | (with_reducible refine Below.setCell ?_ ?_ _) | (with_reducible refine Below.drew ?_) | (refine below_hyp (by assumption) ?_ ?_) | go_size))⟩
  have HRET := Lib.hid hr
  have hreq := kndEq_iff.1 hr
  have bo : ∀ W, (binOp .neq 44 (.agg #[.int .i64 m.fRet.fKind, .string m.fRet.fName]) (.agg #[.int .i64 n.fRet.fKind, .string n.fRet.fName])).run Try.prog W = .ok (.bool false) W := fun W => by
    rw [hreq]
    simp only [run_neq_struct, eq_knd]
    try simp [Result.andThen]
  clear hr hreq
  refine calls_hide fun R HR => ?_
  go_enter Try.func71, Try.ntmps71
  go_wp2_with fail
  clear bo
  go_loopw [5] (fun i wr => ∃ k : Nat, k ≤ len ∧ i = .int .i64 k ∧ EachTo (argAt n.fArgs) m.fArgs k = true ∧ Below w.heap.size w wr ∧ wr.cell? ⟨w.heap.size, 1, none⟩ = some (.slice a len cap) ∧ wr.cell? ⟨w.heap.size + 1, 1, none⟩ = some (.slice a' len cap')) (fun i _ => len - (intOf i).toNat)
  case atStart => exact ⟨0, Nat.zero_le _, rfl, rfl, by (repeat' (first | (with_reducible exact Below.refl _ _) | (with_reducible refine Below.alloc ?_ ?_ _) | (with_reducible refine Below.setCell ?_ ?_ _) | (with_reducible refine Below.drew ?_) | (refine below_hyp (by assumption) ?_ ?_) | go_size)), by go_simp, by go_simp⟩
  case round =>
    obtain ⟨k, hk, rfl, ha, hb, c1, c2'⟩ := hrel
    have HA := Lib.hid ha
    clear ha
    have hbl := block_lt_of_cell c1
    have hbl2 := block_lt_of_cell c2'
    by_cases hlt : k < len
    · obtain ⟨b, off, rfl, _, _, hr⟩ := h3.stays rKndKind_good (Keeps.of_below hb) (by omega)
      obtain ⟨b', off', rfl, _, _, hr'⟩ := h3'.stays rKndKind_good (Keeps.of_below hb) (by omega)
      obtain ⟨⟨xk, xn⟩, cs, e0, _, e1, e4⟩ := hr k hlt
      obtain ⟨⟨yk, yn⟩, cs', f0, _, f1, f4⟩ := hr' k hlt
      obtain ⟨rfl, _⟩ := e4
      obtain ⟨rfl, _⟩ := f4
      have q1 : wr.cell? ⟨b, off + k * 2, none⟩ = some (.int .i64 xk) := e1 0 _ rfl
      have q2 : wr.cell? ⟨b, off + k * 2 + 1, none⟩ = some (.string xn) := e1 1 _ rfl
      have q3 : wr.cell? ⟨b', off' + k * 2, none⟩ = some (.int .i64 yk) := f1 0 _ rfl
      have q4 : wr.cell? ⟨b', off' + k * 2 + 1, none⟩ = some (.string yn) := f1 1 _ rfl
      have E0 := Lib.hid e0
      have F0 := Lib.hid f0
      clear e0 e1 f0 f1 hr hr'
      cases hx : kndEq ⟨xk, xn⟩ ⟨yk, yn⟩
      · have RV : Hid (z = false) := Lib.hid (by rw [HZ.out]; exact sameSig_stop (each_stop E0.out (by unfold argAt; rw [F0.out]; exact hx)))
        have hq2 : (xk == yk && xn.toList == yn.toList) = false := hx
        have bo : ∀ W, (binOp .neq 44 (.agg #[.int .i64 xk, .string xn]) (.agg #[.int .i64 yk, .string yn])).run Try.prog W = .ok (.bool true) W := fun W => by
          simp only [run_neq_struct, eq_knd, hq2]
          try simp [Result.andThen]
        clear hq2 hx
        go_wp2_with fail
        go_region
        go_wp2
        all_goals (try go_returns)
        all_goals exact HR.out _ _ ⟨by first | (rw [RV.out]; done) | (rw [RV.out]; rfl), by (repeat' (first | (with_reducible exact Below.refl _ _) | (with_reducible refine Below.alloc ?_ ?_ _) | (with_reducible refine Below.setCell ?_ ?_ _) | (with_reducible refine Below.drew ?_) | (refine below_hyp (by assumption) ?_ ?_) | go_size))⟩
      · have heq := kndEq_iff.1 hx
        have HX := Lib.hid hx
        cases heq
        clear hx
        have bo : ∀ W, (binOp .neq 44 (.agg #[.int .i64 xk, .string xn]) (.agg #[.int .i64 xk, .string xn])).run Try.prog W = .ok (.bool false) W := fun W => by
          simp only [run_neq_struct, eq_knd]
          try simp [Result.andThen]
        go_wp2_with fail
        go_region
        go_wp2
        go_roundw
        case measure => simp [intOf]; omega
        case rel => exact ⟨k + 1, by omega, by go_num, EachTo.step HA.out E0.out (by unfold argAt; rw [F0.out]; exact HX.out), by (repeat' (first | (with_reducible exact Below.refl _ _) | (with_reducible refine Below.alloc ?_ ?_ _) | (with_reducible refine Below.setCell ?_ ?_ _) | (with_reducible refine Below.drew ?_) | (refine below_hyp (by assumption) ?_ ?_) | go_size)), by first | exact c1 | simpa using c1, by first | exact c2' | simpa using c2'⟩
    · obtain rfl : k = len := by omega
      have RV : Hid (z = true) := Lib.hid (by rw [HZ.out]; exact sameSig_done (HL.out.trans HL'.out.symm) HRET.out (each_done HA.out HL.out))
      go_wp2
      all_goals (try go_returns)
      all_goals exact HR.out _ _ ⟨by first | (rw [RV.out]; done) | (rw [RV.out]; rfl), by (repeat' (first | (with_reducible exact Below.refl _ _) | (with_reducible refine Below.alloc ?_ ?_ _) | (with_reducible refine Below.setCell ?_ ?_ _) | (with_reducible refine Below.drew ?_) | (refine below_hyp (by assumption) ?_ ?_) | go_size))⟩

set_option maxRecDepth 100000 in
set_option maxHeartbeats 8000000 in
theorem I_eqKnds (xs ys : List DKndKind) (v1 u1 : Value) (w : World) (s1 : Sl 2 rKndKind 0 w v1 xs) (t1 : Sl 2 rKndKind 0 w u1 ys) :
    Calls Try.prog 74 #[v1, u1] w fun e w' => e = .returned (.bool (sameArgs xs ys)) ∧ Below w.heap.size w w' := by
  obtain ⟨a, len, cap, rfl, hl, h1, h2, h3⟩ := id s1
  obtain ⟨a', len', cap', rfl, hl', h1', h2', h3'⟩ := id t1
  have m1 : len ≤ 9223372036854775807 := by unfold maxLen at h2; omega
  have m1' : len' ≤ 9223372036854775807 := by unfold maxLen at h2'; omega
  have HL := Lib.hid hl
  have HL' := Lib.hid hl'
  clear h2 hl h2' hl' h1 h1'
  obtain ⟨z, hz⟩ : ∃ z, z = sameArgs xs ys := ⟨_, rfl⟩
  have HZ := Lib.hid hz
  rw [← hz]
  clear hz
  by_cases hlen : ¬ len = len'
  · have RV : Hid (z = false) := Lib.hid (by rw [HZ.out]; unfold sameArgs; rw [HL.out, HL'.out]; simp [hlen])
    have i1 : ((len : Int) != (len' : Int)) = true := by simp; omega
    have i2 : ¬ (len : Int) = (len' : Int) := by omega
    refine calls_hide fun R HR => ?_
    go_enter Try.func74, Try.ntmps74
    go_wp2
    all_goals (try go_returns)
    all_goals exact HR.out _ _ ⟨by rw [RV.out]; rfl, by (repeat' (first | (with_reducible exact Below.refl _ _) | (with_reducible refine Below.alloc ?_ ?_ _) | (with_reducible refine Below.setCell ?_ ?_ _) | (with_reducible refine Below.drew ?_) | (refine below_hyp (by assumption) ?_ ?_) | go_size))⟩
  obtain rfl : len = len' := Decidable.byContradiction hlen
  clear hlen
  refine calls_hide fun R HR => ?_
  go_enter Try.func74, Try.ntmps74
  go_wp2_with fail
  go_loopw [5, 13] (fun _ i wr => ∃ k : Nat, k ≤ len ∧ i = .int .i64 k ∧ EachTo (argAt ys) xs k = true ∧ Below w.heap.size w wr) (fun _ i _ => len - (intOf i).toNat)
  case atStart => exact ⟨0, Nat.zero_le _, rfl, rfl, by (repeat' (first | (with_reducible exact Below.refl _ _) | (with_reducible refine Below.alloc ?_ ?_ _) | (with_reducible refine Below.setCell ?_ ?_ _) | (with_reducible refine Below.drew ?_) | (refine below_hyp (by assumption) ?_ ?_) | go_size))⟩
  case round =>
    obtain ⟨k, hk, rfl, ha, hb⟩ := hrel
    have HA := Lib.hid ha
    clear ha
    by_cases hlt : k < len
    · obtain ⟨b, off, rfl, _, _, hr⟩ := h3.stays rKndKind_good (Keeps.of_below hb) (by omega)
      obtain ⟨b', off', rfl, _, _, hr'⟩ := h3'.stays rKndKind_good (Keeps.of_below hb) (by omega)
      obtain ⟨⟨xk, xn⟩, cs, e0, _, e1, e4⟩ := hr k hlt
      obtain ⟨⟨yk, yn⟩, cs', f0, _, f1, f4⟩ := hr' k hlt
      obtain ⟨rfl, _⟩ := e4
      obtain ⟨rfl, _⟩ := f4
      have q1 : wr.cell? ⟨b, off + k * 2, none⟩ = some (.int .i64 xk) := e1 0 _ rfl
      have q2 : wr.cell? ⟨b, off + k * 2 + 1, none⟩ = some (.string xn) := e1 1 _ rfl
      have q3 : wr.cell? ⟨b', off' + k * 2, none⟩ = some (.int .i64 yk) := f1 0 _ rfl
      have q4 : wr.cell? ⟨b', off' + k * 2 + 1, none⟩ = some (.string yn) := f1 1 _ rfl
      have E0 := Lib.hid e0
      have F0 := Lib.hid f0
      clear e0 e1 f0 f1 hr hr'
      cases hx : kndEq ⟨xk, xn⟩ ⟨yk, yn⟩
      · have RV : Hid (z = false) := Lib.hid (by rw [HZ.out]; unfold sameArgs; rw [each_stop E0.out (by unfold argAt; rw [F0.out]; exact hx)]; simp)
        have hq2 : (xk == yk && xn.toList == yn.toList) = false := hx
        have bo : ∀ W, (binOp .neq 44 (.agg #[.int .i64 xk, .string xn]) (.agg #[.int .i64 yk, .string yn])).run Try.prog W = .ok (.bool true) W := fun W => by
          simp only [run_neq_struct, eq_knd, hq2]
          try simp [Result.andThen]
        clear hq2 hx
        go_wp2_with fail
        go_region
        go_wp2
        all_goals (try go_returns)
        all_goals exact HR.out _ _ ⟨by first | (rw [RV.out]; done) | (rw [RV.out]; rfl), by (repeat' (first | (with_reducible exact Below.refl _ _) | (with_reducible refine Below.alloc ?_ ?_ _) | (with_reducible refine Below.setCell ?_ ?_ _) | (with_reducible refine Below.drew ?_) | (refine below_hyp (by assumption) ?_ ?_) | go_size))⟩
      · have heq := kndEq_iff.1 hx
        have HX := Lib.hid hx
        cases heq
        clear hx
        have bo : ∀ W, (binOp .neq 44 (.agg #[.int .i64 xk, .string xn]) (.agg #[.int .i64 xk, .string xn])).run Try.prog W = .ok (.bool false) W := fun W => by
          simp only [run_neq_struct, eq_knd]
          try simp [Result.andThen]
        go_wp2_with fail
        go_region
        go_wp2
        go_roundw
        case measure => simp [intOf]; omega
        case rel => exact ⟨k + 1, by omega, by go_num, EachTo.step HA.out E0.out (by unfold argAt; rw [F0.out]; exact HX.out), by (repeat' (first | (with_reducible exact Below.refl _ _) | (with_reducible refine Below.alloc ?_ ?_ _) | (with_reducible refine Below.setCell ?_ ?_ _) | (with_reducible refine Below.drew ?_) | (refine below_hyp (by assumption) ?_ ?_) | go_size))⟩
    · obtain rfl : k = len := by omega
      have RV : Hid (z = true) := Lib.hid (by rw [HZ.out]; unfold sameArgs; rw [each_done HA.out HL.out, HL.out, HL'.out]; simp)
      go_wp2
      all_goals (try go_returns)
      all_goals exact HR.out _ _ ⟨by rw [RV.out]; rfl, by (repeat' (first | (with_reducible exact Below.refl _ _) | (with_reducible refine Below.alloc ?_ ?_ _) | (with_reducible refine Below.setCell ?_ ?_ _) | (with_reducible refine Below.drew ?_) | (refine below_hyp (by assumption) ?_ ?_) | go_size))⟩

end Go.Proofs.Ytejfecmmcghpmaa
