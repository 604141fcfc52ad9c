

/-
  The walks of NamOk, of the reference and of the program: each returns whether the text is a name. Condition: the text is no longer than a text may be.
-/
import Derived.Test.YtmmlhnjmjmbfpaaGreatBase
namespace Go.Proofs.YtmmlhnjmjmbfpaaGreat
set_option linter.unusedSimpArgs false
set_option linter.unusedVariables false
open Go.RowKit

set_option maxHeartbeats 400000 in
theorem S_NamOk (s : ByteArray) (w : World) (hs : s.size ≤ maxLen) :
    Calls Tryz.prog 33 #[.string s] w fun e w' => e = .returned (.bool (namOk s)) ∧ w = w' := by
  unfold maxLen at hs
  by_cases h0 : s.size = 0
  · have : s = ByteArray.empty := by simpa using h0
    subst this
    refine calls_hide fun R HR => ?_
    go_enter Tryz.func33, Tryz.ntmps33
    go_wp2
    (try go_returns)
    exact HR.out _ _ ⟨rfl, rfl⟩
  by_cases h6 : 6 < s.size
  · have HH := Lib.hid (namOk_long h6)
    have h0' : ((s.size : Int) == 0) = false := by simpa using h0
    have h6' : decide ((6 : Int) < (s.size : Int)) = true := by simp; omega
    refine calls_hide fun R HR => ?_
    go_enter Tryz.func33, Tryz.ntmps33
    go_wp2
    all_goals (try go_returns)
    all_goals exact HR.out _ _ ⟨ret_bool HH.out.symm, rfl⟩
  have h0' : ((s.size : Int) == 0) = false := by simpa using h0
  have h6' : decide ((6 : Int) < (s.size : Int)) = false := by simp; omega
  refine calls_hide fun R HR => ?_
  go_enter Tryz.func33, Tryz.ntmps33
  go_wp2
  go_loop [3] (fun i => ∃ k : Nat, k ≤ s.size ∧ i = .int .i64 k ∧ (s.data.toList.take k).all small = true) (fun i => s.size - (intOf i).toNat)
  case atStart => exact ⟨0, Nat.zero_le _, rfl, rfl⟩
  case round =>
    obtain ⟨k, hk, rfl, ha⟩ := hrel
    have HA := Lib.hid ha
    clear ha
    by_cases hlt : k < s.size
    · have HS := Lib.hid (all_snoc s k hlt)
      go_wp2
      all_goals first
        | (go_round
           case rel => exact ⟨k + 1, by omega, by go_num, by rw [HS.out, HA.out, small_yes (by assumption)]; rfl⟩
           case measure => simp [intOf]; omega)
        | (try go_returns
           exact HR.out _ _ ⟨ret_bool (namOk_stop hlt (small_no (by omega))).symm, rfl⟩)
    · go_wp2
      (try go_returns)
      exact HR.out _ _ ⟨ret_bool (by rw [namOk_ne h0 (by omega)]; have := HA.out; rw [List.take_of_length_le (by simp; omega)] at this; rw [this]), rfl⟩

set_option maxHeartbeats 400000 in
theorem I_word_ok (s : ByteArray) (w : World) (hs : s.size ≤ maxLen) :
    Calls Tryz.prog 67 #[.string s] w fun e w' => e = .returned (.bool (namOk s)) ∧ w = w' := by
  unfold maxLen at hs
  by_cases h0 : s.size = 0
  · have : s = ByteArray.empty := by simpa using h0
    subst this
    refine calls_hide fun R HR => ?_
    go_enter Tryz.func67, Tryz.ntmps67
    go_wp2
    (try go_returns)
    exact HR.out _ _ ⟨rfl, rfl⟩
  by_cases h6 : 6 < s.size
  · have HH := Lib.hid (namOk_long h6)
    have h0' : decide ((s.size : Int) < 1) = false := by simp; omega
    have h6' : decide ((6 : Int) < (s.size : Int)) = true := by simp; omega
    refine calls_hide fun R HR => ?_
    go_enter Tryz.func67, Tryz.ntmps67
    go_wp2
    all_goals (try go_returns)
    all_goals exact HR.out _ _ ⟨ret_bool HH.out.symm, rfl⟩
  have h0' : decide ((s.size : Int) < 1) = false := by simp; omega
  have h6' : decide ((6 : Int) < (s.size : Int)) = false := by simp; omega
  refine calls_hide fun R HR => ?_
  go_enter Tryz.func67, Tryz.ntmps67
  go_wp2
  go_loop [3] (fun i => ∃ k : Nat, k ≤ s.size ∧ i = .int .i64 k ∧ (s.data.toList.take k).all small = true) (fun i => s.size - (intOf i).toNat)
  case atStart => exact ⟨0, Nat.zero_le _, rfl, rfl⟩
  case round =>
    obtain ⟨k, hk, rfl, ha⟩ := hrel
    have HA := Lib.hid ha
    clear ha
    by_cases hlt : k < s.size
    · have HS := Lib.hid (all_snoc s k hlt)
      go_wp2
      all_goals first
        | (go_round
           case rel => exact ⟨k + 1, by omega, by go_num, by rw [HS.out, HA.out, small_yes (by assumption)]; rfl⟩
           case measure => simp [intOf]; omega)
        | (try go_returns
           exact HR.out _ _ ⟨ret_bool (namOk_stop hlt (small_no (by omega))).symm, rfl⟩)
    · go_wp2
      (try go_returns)
      exact HR.out _ _ ⟨ret_bool (by rw [namOk_ne h0 (by omega)]; have := HA.out; rw [List.take_of_length_le (by simp; omega)] at this; rw [this]), rfl⟩

set_option maxHeartbeats 400000 in
theorem I_NamOk (s : ByteArray) (w : World) (hs : s.size ≤ maxLen) :
    Calls Tryz.prog 52 #[.string s] w fun e w' => e = .returned (.bool (namOk s)) ∧ w = w' := by
  refine calls_hide fun R HR => ?_
  go_enter Tryz.func52, Tryz.ntmps52
  go_wp2_with (go_at_call 67; refine (I_word_ok _ _ hs).mono ?_; rintro e w' ⟨rfl, rfl⟩)
  (try go_returns)
  exact HR.out _ _ ⟨rfl, rfl⟩

end Go.Proofs.YtmmlhnjmjmbfpaaGreat
