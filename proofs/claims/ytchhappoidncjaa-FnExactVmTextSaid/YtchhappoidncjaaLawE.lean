

/-
  The walk of the law FnNamOk: it returns true and leaves what was there as it was. Condition: the code can be read.
-/
import Derived.Test.YtchhappoidncjaaDrawN
namespace Go.Proofs.Ytchhappoidncjaa
set_option linter.unusedSimpArgs false
set_option linter.unusedVariables false
open Go.RowKit

theorem namOk_a' : namOk ⟨#[97]⟩ = true := by decide

set_option maxHeartbeats 400000 in
theorem L_loOk' (w : World) : Calls Try.prog 17 #[] w fun e w' => e = .returned (.bool true) ∧ Below w.heap.size w w' := by
  refine calls_hide fun R HR => ?_
  go_enter Try.func17, Try.ntmps17
  go_wp2_with (go_at_call 26; refine (I_NamOk _ _ (by decide)).mono ?_; rintro e w' ⟨rfl, rfl⟩)
  all_goals (try go_returns)
  all_goals exact HR.out _ _ ⟨ret_bool namOk_a', by (repeat' (first | (with_reducible exact Below.refl _ _) | (with_reducible refine Below.alloc ?_ ?_ _) | (with_reducible refine Below.setCell ?_ ?_ _) | (with_reducible refine Below.drew ?_) | (refine below_hyp (by assumption) ?_ ?_) | go_size))⟩

theorem small_bits {c : UInt8} (h1 : 97 ≤ (c.toNat : Int)) : small c = decide ((c.toNat : Int) ≤ 122) := by
  unfold small; simp [h1]
theorem small_low {c : UInt8} (h1 : (c.toNat : Int) < 97) : small c = false := small_no (Or.inl h1)

set_option maxHeartbeats 400000 in
theorem L_FnNamOk (v : Value) (w : World) (hv : Bytes w v) :
    Calls Try.prog 6 #[v] w fun e w' => e = .returned (.bool true) ∧ Below w.heap.size w w' := by
  obtain ⟨a, len, cap, rfl, g1, g2, g3⟩ := id hv
  have m1 : len ≤ 9223372036854775807 := by unfold maxLen at g2; omega
  clear g2 g3
  refine calls_hide fun R HR => ?_
  go_enter Try.func6, Try.ntmps6
  go_wp2_with fail
  all_goals first
    | (try go_returns
       exact HR.out _ _ ⟨rfl, by (repeat' (first | (with_reducible exact Below.refl _ _) | (with_reducible refine Below.alloc ?_ ?_ _) | (with_reducible refine Below.setCell ?_ ?_ _) | (with_reducible refine Below.drew ?_) | (refine below_hyp (by assumption) ?_ ?_) | go_size))⟩)
    | skip
  refine (S_DrawNamOk _ _ hv).mono ?_
  rintro _ w1 ⟨⟨s, hs, rfl⟩, hb⟩
  have hbs := (hb).size; (try simp only [World.size_alloc, World.size_setCell, World.size_drew] at hbs)
  have hm : s.size ≤ maxLen := by unfold maxLen; omega
  have HS := Lib.hid hs
  by_cases h1 : 0 < s.size ∧ s.size ≤ 6
  · obtain ⟨h2, h3⟩ := h1
    have e1 : decide ((0 : Int) < (s.size : Int)) = true := by simp; omega
    have e2 : decide ((s.size : Int) ≤ 6) = true := by simp; omega
    go_wp2_with fail
    go_loop [4, 5] (fun ok i => ∃ k : Nat, k ≤ s.size ∧ i = .int .i64 k ∧ ok = .bool ((s.data.toList.take k).all small)) (fun _ i => s.size - (intOf i).toNat)
    case atStart => exact ⟨0, Nat.zero_le _, rfl, rfl⟩
    case round =>
      obtain ⟨k, hk, rfl, rfl⟩ := hrel
      by_cases hlt : k < s.size
      · have HA := Lib.hid (all_snoc s k hlt)
        cases hall : (s.data.toList.take k).all small
        all_goals rw [hall] at HA
        all_goals
          go_wp2
          all_goals
            go_round
            case rel => exact ⟨k + 1, by omega, by go_num, by rw [HA.out]; first | rfl | (congr 1; first | (rw [small_bits (by assumption)]; simp) | (rw [small_low (by omega)]; simp))⟩
            case measure => simp [intOf]; omega
      · have hkk : k = s.size := by omega
        have hn : (s.data.toList.take k).all small = namOk s := by rw [namOk_ne (by omega) h3, hkk, List.take_of_length_le (by simp)]
        rw [hn]
        clear hkk hn
        go_wp2_with (first | (go_at_call 26; refine (I_NamOk _ _ hm).mono ?_; rintro _ _ ⟨rfl, rfl⟩) | (go_at_call 27; refine (S_NamOk _ _ hm).mono ?_; rintro _ _ ⟨rfl, rfl⟩) | (go_at_call 17; refine (L_loOk' _).mono ?_; rintro _ w5 ⟨rfl, h5⟩))
        all_goals (try go_returns)
        all_goals exact HR.out _ _ ⟨ret_bool (by simp), by (repeat' (first | (with_reducible exact Below.refl _ _) | (with_reducible refine Below.alloc ?_ ?_ _) | (with_reducible refine Below.setCell ?_ ?_ _) | (with_reducible refine Below.drew ?_) | (refine below_hyp (by assumption) ?_ ?_) | go_size))⟩
  · have hno : namOk s = false := by
      unfold namOk
      by_cases h0 : s.size = 0
      · simp [h0]
      · have : ¬ s.size ≤ 6 := by omega
        simp [this]
    have hb : (¬ 0 < s.size ∧ decide ((0 : Int) < (s.size : Int)) = false) ∨ (0 < s.size ∧ decide ((0 : Int) < (s.size : Int)) = true ∧ decide ((s.size : Int) ≤ 6) = false) := by
      by_cases h0 : s.size = 0
      · exact Or.inl ⟨by omega, by simp [h0]⟩
      · exact Or.inr ⟨by omega, by simp; omega, by simp; omega⟩
    clear h1
    rcases hb with ⟨e0, e1⟩ | ⟨e0, e1, e2⟩
    · go_wp2_with fail
      go_loop [4, 5] (fun ok i => i = .int .i64 0 ∧ ok = .bool false) (fun _ i => 0)
      case atStart => exact ⟨rfl, rfl⟩
      case round =>
        obtain ⟨rfl, rfl⟩ := hrel
        go_wp2_with (first | (go_at_call 26; refine (I_NamOk _ _ hm).mono ?_; rintro _ _ ⟨rfl, rfl⟩) | (go_at_call 27; refine (S_NamOk _ _ hm).mono ?_; rintro _ _ ⟨rfl, rfl⟩) | (go_at_call 17; refine (L_loOk' _).mono ?_; rintro _ w5 ⟨rfl, h5⟩))
        all_goals (try go_returns)
        all_goals exact HR.out _ _ ⟨ret_bool (by simp [hno]), by (repeat' (first | (with_reducible exact Below.refl _ _) | (with_reducible refine Below.alloc ?_ ?_ _) | (with_reducible refine Below.setCell ?_ ?_ _) | (with_reducible refine Below.drew ?_) | (refine below_hyp (by assumption) ?_ ?_) | go_size))⟩
    · go_wp2_with fail
      go_loop [4, 5] (fun ok i => ∃ k : Nat, k ≤ s.size ∧ i = .int .i64 k ∧ ok = .bool false) (fun _ i => s.size - (intOf i).toNat)
      case atStart => exact ⟨0, Nat.zero_le _, rfl, rfl⟩
      case round =>
        obtain ⟨k, hk, rfl, rfl⟩ := hrel
        by_cases hlt : k < s.size
        · go_wp2
          all_goals
            go_round
            case rel => exact ⟨k + 1, by omega, by go_num, rfl⟩
            case measure => simp [intOf]; omega
        · go_wp2_with (first | (go_at_call 26; refine (I_NamOk _ _ hm).mono ?_; rintro _ _ ⟨rfl, rfl⟩) | (go_at_call 27; refine (S_NamOk _ _ hm).mono ?_; rintro _ _ ⟨rfl, rfl⟩) | (go_at_call 17; refine (L_loOk' _).mono ?_; rintro _ w5 ⟨rfl, h5⟩))
          all_goals (try go_returns)
          all_goals exact HR.out _ _ ⟨ret_bool (by simp [hno]), by (repeat' (first | (with_reducible exact Below.refl _ _) | (with_reducible refine Below.alloc ?_ ?_ _) | (with_reducible refine Below.setCell ?_ ?_ _) | (with_reducible refine Below.drew ?_) | (refine below_hyp (by assumption) ?_ ?_) | go_size))⟩

end Go.Proofs.Ytchhappoidncjaa
