

/-
  The walks of the reference's l3Own and l3Asks. Condition: the data can be read.
-/
import Derived.Test.YtmmlhnjmjmbfpaaGreatLodP
import Derived.Test.YtmmlhnjmjmbfpaaGreatReg
import Derived.Deep.LoopGhost
namespace Go.Proofs.YtmmlhnjmjmbfpaaGreat
set_option linter.unusedSimpArgs false
set_option linter.unusedVariables false
open Go.RowKit

theorem asksOf_hit {xs : List DLodAsk} {n : ByteArray} {k : Nat} {x : DLodAsk} (h : EachTo (nots fun c => sameN c.fName n) xs k = true) (e : xs[k]? = some x) (hx : sameN x.fName n = true) : asksOf xs n = x.fKeeper := by
  have h1 : askAt xs n = k := firstAt_hit' h e hx
  obtain ⟨a, _, _, h3, h4⟩ := asksOf_some (xs := xs) (n := n) (by omega)
  rw [h1] at h4
  simp at h4
  rw [e] at h4
  cases h4
  exact h3
theorem asksOf_miss {xs : List DLodAsk} {n : ByteArray} {k : Nat} (h : EachTo (nots fun c => sameN c.fName n) xs k = true) (hk : xs.length = k) : asksOf xs n = -1 :=
  asksOf_none (by have : askAt xs n = -1 := firstAt_none' h hk; omega)

set_option maxHeartbeats 4000000 in
theorem S_l3Own (x : DLodKeeper) (v1 v2 : Value) (nm : ByteArray) (w : World) (s1 : Sl 4 rClsClass 0 w v1 x.fOwns) (s2 : Sl 2 rLodAsk 0 w v2 x.fAsks) :
    Calls Tryz.prog 47 #[.agg #[v1, v2], .string nm] w fun e w' => e = .returned (.int .i64 (ownAt x.fOwns nm)) ∧ Below w.heap.size w w' := by
  obtain ⟨na2, nl2, nc2, rfl⟩ := s2.form
  obtain ⟨a, len, cap, rfl, hl, h1, h2, h3⟩ := id s1
  have m1 : len ≤ 9223372036854775807 := by unfold maxLen at h2; omega
  have HL := Lib.hid hl
  have H1 := Lib.hid h1
  clear h2 hl h1
  refine calls_hide fun R HR => ?_
  go_enter Tryz.func47, Tryz.ntmps47
  go_wp2_with fail
  go_loopw [5] (fun i wr => ∃ k : Nat, k ≤ len ∧ i = .int .i64 k ∧ EachTo (nots fun c => sameN c.fName nm) x.fOwns k = true ∧ Below w.heap.size w wr ∧ wr.cell? ⟨w.heap.size, 0, none⟩ = some (.slice a len cap)) (fun i _ => len - (intOf i).toNat)
  case atStart => exact ⟨0, Nat.zero_le _, rfl, rfl, by (repeat' (first | (with_reducible exact Below.refl _ _) | (with_reducible refine Below.alloc ?_ ?_ _) | (with_reducible refine Below.setCell ?_ ?_ _) | (with_reducible refine Below.drew ?_) | (refine below_hyp (by assumption) ?_ ?_) | go_size)), by go_simp⟩
  case round =>
    obtain ⟨k, hk, rfl, ha, hb, c0⟩ := hrel
    have HA := Lib.hid ha
    clear ha
    by_cases hlt : k < len
    · obtain ⟨b, off, rfl, hlo, hbl, hr⟩ := h3.stays rClsClass_good (Keeps.of_below hb) (by omega)
      obtain ⟨y, cs, e0, e1, e2, e3⟩ := hr k hlt
      obtain ⟨z1, z2, rfl, t1, t2, by1, by2⟩ := e3
      have q1 : wr.cell? ⟨b, off + k * 4, none⟩ = some (.string y.fName) := e2 0 _ rfl
      have E0 := Lib.hid e0
      clear e0 e1 e2 hr
      cases hx : sameN y.fName nm
      · have HX := Lib.hid hx
        have hx2 : (y.fName.toList == nm.toList) = false := hx
        clear hx
        go_wp2
        go_roundw
        case measure => simp [intOf]; omega
        case rel => exact ⟨k + 1, by omega, by go_num, EachTo.step HA.out E0.out (by simp [nots, HX.out]), hb, c0⟩
      · have HX := Lib.hid hx
        have hx2 : (y.fName.toList == nm.toList) = true := hx
        clear hx
        go_wp2
        all_goals (try go_returns)
        all_goals exact HR.out _ _ ⟨ret_int (firstAt_hit' HA.out E0.out HX.out).symm, hb⟩
    · obtain rfl : k = len := by omega
      go_wp2
      all_goals (try go_returns)
      all_goals exact HR.out _ _ ⟨ret_int (firstAt_none' HA.out HL.out).symm, hb⟩

set_option maxHeartbeats 4000000 in
theorem S_l3Asks (x : DLodKeeper) (v1 v2 : Value) (nm : ByteArray) (w : World) (s1 : Sl 4 rClsClass 0 w v1 x.fOwns) (s2 : Sl 2 rLodAsk 0 w v2 x.fAsks) :
    Calls Tryz.prog 48 #[.agg #[v1, v2], .string nm] w fun e w' => e = .returned (.int .i64 (asksOf x.fAsks nm)) ∧ Below w.heap.size w w' := by
  obtain ⟨na2, nl2, nc2, rfl⟩ := s1.form
  obtain ⟨a, len, cap, rfl, hl, h1, h2, h3⟩ := id s2
  have m1 : len ≤ 9223372036854775807 := by unfold maxLen at h2; omega
  have HL := Lib.hid hl
  have H1 := Lib.hid h1
  clear h2 hl h1
  refine calls_hide fun R HR => ?_
  go_enter Tryz.func48, Tryz.ntmps48
  go_wp2_with fail
  go_loopw [5] (fun i wr => ∃ k : Nat, k ≤ len ∧ i = .int .i64 k ∧ EachTo (nots fun c => sameN c.fName nm) x.fAsks k = true ∧ Below w.heap.size w wr ∧ wr.cell? ⟨w.heap.size, 1, none⟩ = some (.slice a len cap)) (fun i _ => len - (intOf i).toNat)
  case atStart => exact ⟨0, Nat.zero_le _, rfl, rfl, by (repeat' (first | (with_reducible exact Below.refl _ _) | (with_reducible refine Below.alloc ?_ ?_ _) | (with_reducible refine Below.setCell ?_ ?_ _) | (with_reducible refine Below.drew ?_) | (refine below_hyp (by assumption) ?_ ?_) | go_size)), by go_simp⟩
  case round =>
    obtain ⟨k, hk, rfl, ha, hb, c0⟩ := hrel
    have HA := Lib.hid ha
    clear ha
    by_cases hlt : k < len
    · obtain ⟨b, off, rfl, hlo, hbl, hr⟩ := h3.stays rLodAsk_good (Keeps.of_below hb) (by omega)
      obtain ⟨y, cs, e0, e1, e2, e3⟩ := hr k hlt
      obtain ⟨rfl, by1⟩ := e3
      have q1 : wr.cell? ⟨b, off + k * 2, none⟩ = some (.string y.fName) := e2 0 _ rfl
      have q2 : wr.cell? ⟨b, off + k * 2 + 1, none⟩ = some (.int .i64 y.fKeeper) := e2 1 _ rfl
      have E0 := Lib.hid e0
      clear e0 e1 e2 hr
      cases hx : sameN y.fName nm
      · have HX := Lib.hid hx
        have hx2 : (y.fName.toList == nm.toList) = false := hx
        clear hx
        go_wp2
        go_roundw
        case measure => simp [intOf]; omega
        case rel => exact ⟨k + 1, by omega, by go_num, EachTo.step HA.out E0.out (by simp [nots, HX.out]), hb, c0⟩
      · have HX := Lib.hid hx
        have hx2 : (y.fName.toList == nm.toList) = true := hx
        clear hx
        go_wp2
        all_goals (try go_returns)
        all_goals exact HR.out _ _ ⟨ret_int (asksOf_hit HA.out E0.out HX.out).symm, hb⟩
    · obtain rfl : k = len := by omega
      go_wp2
      all_goals (try go_returns)
      all_goals exact HR.out _ _ ⟨ret_int (asksOf_miss HA.out HL.out).symm, hb⟩

end Go.Proofs.YtmmlhnjmjmbfpaaGreat
