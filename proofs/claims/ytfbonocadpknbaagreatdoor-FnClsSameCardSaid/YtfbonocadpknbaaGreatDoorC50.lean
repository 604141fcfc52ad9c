/-
  Texts of mine, packed: LoTx. No condition beside those of the single theorems.
-/
import Derived.Test.YtfbonocadpknbaaGreatDoorC17
import Derived.Test.YtfbonocadpknbaaGreatDoorC18
import Derived.Test.YtfbonocadpknbaaGreatDoorC14
set_option linter.unusedSimpArgs false
set_option linter.unusedVariables false
set_option maxHeartbeats 16000000
set_option maxRecDepth 100000
namespace Go.Proofs.YtfbonocadpknbaaGreatDoor
open Go.RowKit
theorem L_loTexts (xs ys : List ByteArray) (v1 u1 : Value) (w : World) (s1 : Sl 1 rStr 0 w v1 xs) (t1 : Sl 1 rStr 0 w u1 ys) :
  Calls Tryz.prog 6 #[v1, u1] w fun e w' => e = .returned (.bool (eqL sameN xs ys)) ∧ Below w.heap.size w w' := by
 obtain ⟨a, len, cap, rfl, hl, h1, h2, h3⟩ := id s1
 obtain ⟨a', len', cap', rfl, hl', h1', h2', h3'⟩ := id t1
 have m1 : len ≤ 9223372036854775807 := by unfold maxLen at h2; omega
 have m1' : len' ≤ 9223372036854775807 := by unfold maxLen at h2'; omega
 have HL := qhd hl
 have HL' := qhd hl'
 clear h2 hl h2' hl' h1 h1'
 obtain ⟨z, hz⟩ : ∃ z, z = eqL sameN xs ys := ⟨_, rfl⟩
 have HZ := qhd hz
 rw [← hz]
 clear hz
 by_cases hlen : ¬ len = len'
 ·have RV : Hid (z = false) := qhd (by rw [HZ.out]; exact eqL_len (by rw [HL.out, HL'.out]; exact hlen))
  have i1 : ((len : Int) != (len' : Int)) = true := by simp; omega
  have i2 : ¬ (len : Int) = (len' : Int) := by omega
  refine qab fun R HR => ?_
  go_enter Tryz.func6, Tryz.ntmps6
  go_wp2
  (all_goals (try go_returns)); (all_goals exact HR.out _ _ ⟨by first | (rw [RV.out]; done) | (rw [RV.out]; rfl), bbel⟩)
 obtain rfl : len = len' := Decidable.byContradiction hlen
 clear hlen
 refine qab fun R HR => ?_
 go_enter Tryz.func6, Tryz.ntmps6
 go_wp2_with fail
 go_loopw [5] (fun i wr => ∃ k : Nat, k ≤ len ∧ i = .int .i64 k ∧ EachTo (eqAt sameN ys) xs k = true ∧ Below w.heap.size w wr) (fun i _ => len - (intOf i).toNat)
 case atStart => exact ⟨0, Nat.zero_le _, rfl, rfl, bbel⟩
 case round =>
  obtain ⟨k, hk, rfl, ha, hb⟩ := hrel
  have HA := qhd ha
  clear ha
  by_cases hlt : k < len
  ·obtain ⟨b, off, rfl, _, _, hr⟩ := h3.stays rStr_good (Keeps.of_below hb) (by omega)
   obtain ⟨b', off', rfl, _, _, hr'⟩ := h3'.stays rStr_good (Keeps.of_below hb) (by omega)
   obtain ⟨x, cs, e0, _, e1, e4⟩ := hr k hlt
   obtain ⟨y, cs', f0, _, f1, f4⟩ := hr' k hlt
   obtain ⟨rfl, _⟩ := e4
   obtain ⟨rfl, _⟩ := f4
   have q0 : wr.cell? ⟨b, off + k, none⟩ = some (.string x) := by have := e1 0 _ rfl; simpa using this
   have p0 : wr.cell? ⟨b', off' + k, none⟩ = some (.string y) := by have := f1 0 _ rfl; simpa using this
   have E0 := qhd e0
   have F0 := qhd f0
   clear e0 e1 f0 f1 hr hr'
   obtain ⟨q, hq⟩ : ∃ q, q = sameN x y := ⟨_, rfl⟩
   have bo : ∀ W, (binOp .neq 9 (.string x) (.string y)).run Tryz.prog W = .ok (.bool !q) W := fun W => by
    rw [hq]
    unfold sameN
    go_simp
    try simp [bne]
   have HQ := qhd hq
   clear hq
   cases q
   ·have RV : Hid (z = false) := qhd (by rw [HZ.out]; exact eqL_stop (qal E0.out (by unfold eqAt; rw [F0.out]; exact HQ.out.symm)))
    have b1 : (x.toList == y.toList) = false := HQ.out.symm
    have b2 : (x.toList != y.toList) = true := by unfold bne; rw [b1]; rfl
    clear bo
    go_wp2_with fail
    go_region
    go_wp2
    (all_goals (try go_returns)); (all_goals exact HR.out _ _ ⟨by first | (rw [RV.out]; done) | (rw [RV.out]; rfl), bbel⟩)
   ·have b1 : (x.toList == y.toList) = true := HQ.out.symm
    have b2 : (x.toList != y.toList) = false := by unfold bne; rw [b1]; rfl
    clear bo
    go_wp2_with fail
    go_region
    go_wp2
    go_roundw
    case measure => simp [intOf]; omega
    case rel => exact ⟨k + 1, by omega, by go_num, EachTo.step HA.out E0.out (by unfold eqAt; rw [F0.out]; exact HQ.out.symm), bbel⟩
  ·obtain rfl : k = len := by omega
   have RV : Hid (z = true) := qhd (by rw [HZ.out]; exact eqL_done (HL.out.trans HL'.out.symm) (qav HA.out HL.out))
   go_wp2
   (all_goals (try go_returns)); (all_goals exact HR.out _ _ ⟨by first | (rw [RV.out]; done) | (rw [RV.out]; rfl), bbel⟩)

theorem eqT_iff {xs ys : List ByteArray} : eqL sameN xs ys = true ↔ xs = ys := eqL_iff (fun a b => sameN_iff)
theorem L_loOkT (w : World) : Calls Tryz.prog 10 #[] w fun e w' => e = .returned (.bool true) ∧ Below w.heap.size w w' := by
 refine qab fun R HR => ?_
 go_enter Tryz.func10, Tryz.ntmps10
 go_wp2_with (go_at_call 25; refine (I_NamOk _ _ (by decide)).mono ?_; rintro _ _ ⟨rfl, rfl⟩)
 all_goals (try go_returns)
 all_goals exact HR.out _ _ ⟨rfl, bbel⟩
theorem TOwn.str0 {lo B : Nat} {w : World} {v : Value} {xs : List ByteArray} (h : TOwn 1 rStr 9 lo B w v xs) : Sl 1 rStr 0 w v xs := (h.sl.sl fun _ _ h => h).low rStr_good (Nat.zero_le _)

end Go.Proofs.YtfbonocadpknbaaGreatDoor
