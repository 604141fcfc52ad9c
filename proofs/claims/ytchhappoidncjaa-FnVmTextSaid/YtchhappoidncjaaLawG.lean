
/-
  The walk of the law FnVmText. Condition: the codes can be read.
-/
import Derived.Test.YtchhappoidncjaaVm
namespace Go.Proofs.Ytchhappoidncjaa
set_option linter.unusedSimpArgs false
set_option linter.unusedVariables false
open Go.RowKit

theorem vmWord_eq {a b : Int} (ha : 1 ≤ a ∧ a ≤ 10) (hb : -1 ≤ b ∧ b ≤ 11) : ((vmWord a).toList == (vmWord b).toList) = (a == b) := by
  have hb' : b = -1 ∨ b = 0 ∨ b = 1 ∨ b = 2 ∨ b = 3 ∨ b = 4 ∨ b = 5 ∨ b = 6 ∨ b = 7 ∨ b = 8 ∨ b = 9 ∨ b = 10 ∨ b = 11 := by omega
  simp only [ByteArray.toList_eq]
  rcases ten ha with rfl | rfl | rfl | rfl | rfl | rfl | rfl | rfl | rfl | rfl
  all_goals
    rcases hb' with rfl | rfl | rfl | rfl | rfl | rfl | rfl | rfl | rfl | rfl | rfl | rfl | rfl
    all_goals decide
theorem vmWord_ne {a : Int} (ha : 1 ≤ a ∧ a ≤ 10) : ((vmWord a).toList == []) = false := by
  simp only [ByteArray.toList_eq]
  rcases ten ha with rfl | rfl | rfl | rfl | rfl | rfl | rfl | rfl | rfl | rfl
  all_goals decide

set_option maxHeartbeats 1000000 in
theorem L_FnVmText (v v' : Value) (w : World) (hv : Bytes w v) (hv' : Bytes w v') :
    Calls Try.prog 3 #[v, v'] w fun e w' => e = .returned (.bool true) ∧ Below w.heap.size w w' := by
  obtain ⟨c, len, cap, rfl, g1, g2, g3⟩ := id hv
  obtain ⟨c', len', cap', rfl, g1', g2', g3'⟩ := id hv'
  have m1 : len ≤ 9223372036854775807 := by unfold maxLen at g2; omega
  have m1' : len' ≤ 9223372036854775807 := by unfold maxLen at g2'; omega
  clear g2 g3 g2' g3'
  have hbx : ∀ w1 : World, Below w.heap.size w w1 → Bytes w1 (.slice c' len' cap') := fun w1 hb => bytes_below hb hv'
  refine calls_hide fun R HR => ?_
  go_enter Try.func3, Try.ntmps3
  go_wp2_with fail
  all_goals first
    | (try go_returns
       exact HR.out _ _ ⟨rfl, by (repeat' (first | (with_reducible exact Below.refl _ _) | (with_reducible refine Below.alloc ?_ ?_ _) | (with_reducible refine Below.setCell ?_ ?_ _) | (with_reducible refine Below.drew ?_) | (refine below_hyp (by assumption) ?_ ?_) | go_size))⟩)
    | skip
  refine (S_DrawVmText _ _ hv).mono ?_
  rintro _ w1 ⟨⟨a, a1, a2, rfl⟩, hb⟩
  have hbs := (hb).size; (try simp only [World.size_alloc, World.size_setCell, World.size_drew] at hbs)
  unfold vmV
  go_wp2_with fail
  refine (S_DrawVmText _ _ (Bytes.alloc (hbx _ hb) _)).mono ?_
  rintro _ w2 ⟨⟨b, b1, b2, rfl⟩, hb2⟩
  unfold vmV
  have hb2s := (hb2).size; (try simp only [World.size_alloc, World.size_setCell, World.size_drew] at hb2s)
  obtain ⟨hb2ac, hb2ad, hb2ao, hb2af, hb2ag, hb2ap, hb2az, hb2ax, hb2ay⟩ := bfacts (n := w1.heap.size) (k := 1) hb2 (by go_size) (by go_size); replace hb2ad := hb2ad (by decide); replace hb2ag := hb2ag (by decide); replace hb2ax := hb2ax (by decide); clear hb2ac hb2af hb2az
  go_wp2_with fail
  refine (I_VmText a none 0 0 none 0 0 none 0 0 0 0 _).mono ?_
  rintro _ w3 ⟨rfl, h3⟩
  have h3s := (h3).size; (try simp only [World.size_alloc, World.size_setCell, World.size_drew] at h3s)
  obtain ⟨h3b0c, h3b0d, h3b0o, h3b0f, h3b0g, h3b0p, h3b0z, h3b0x, h3b0y⟩ := bfacts (n := w1.heap.size) (k := 1) h3 (by go_size) (by go_size); replace h3b0d := h3b0d (by decide); replace h3b0g := h3b0g (by decide); replace h3b0x := h3b0x (by decide); clear h3b0c h3b0f h3b0z
  obtain ⟨h3b1c, h3b1d, h3b1o, h3b1f, h3b1g, h3b1p, h3b1z, h3b1x, h3b1y⟩ := bfacts (n := w2.heap.size) (k := 1) h3 (by go_size) (by go_size); replace h3b1d := h3b1d (by decide); replace h3b1g := h3b1g (by decide); replace h3b1x := h3b1x (by decide); clear h3b1c h3b1f h3b1z
  go_wp2_with fail
  refine (I_VmText b none 0 0 none 0 0 none 0 0 0 0 _).mono ?_
  rintro _ w4 ⟨rfl, h4⟩
  have h4s := (h4).size; (try simp only [World.size_alloc, World.size_setCell, World.size_drew] at h4s)
  obtain ⟨h4c0c, h4c0d, h4c0o, h4c0f, h4c0g, h4c0p, h4c0z, h4c0x, h4c0y⟩ := bfacts (n := w1.heap.size) (k := 1) h4 (by go_size) (by go_size); replace h4c0d := h4c0d (by decide); replace h4c0g := h4c0g (by decide); replace h4c0x := h4c0x (by decide); clear h4c0c h4c0f h4c0z
  obtain ⟨h4c1c, h4c1d, h4c1o, h4c1f, h4c1g, h4c1p, h4c1z, h4c1x, h4c1y⟩ := bfacts (n := w2.heap.size) (k := 1) h4 (by go_size) (by go_size); replace h4c1d := h4c1d (by decide); replace h4c1g := h4c1g (by decide); replace h4c1x := h4c1x (by decide); clear h4c1c h4c1f h4c1z
  go_wp2_with fail
  refine (S_VmText a none 0 0 none 0 0 none 0 0 0 0 _).mono ?_
  rintro _ w5 ⟨rfl, h5⟩
  have h5s := (h5).size; (try simp only [World.size_alloc, World.size_setCell, World.size_drew] at h5s)
  obtain ⟨h5d0c, h5d0d, h5d0o, h5d0f, h5d0g, h5d0p, h5d0z, h5d0x, h5d0y⟩ := bfacts (n := w1.heap.size) (k := 1) h5 (by go_size) (by go_size); replace h5d0d := h5d0d (by decide); replace h5d0g := h5d0g (by decide); replace h5d0x := h5d0x (by decide); clear h5d0c h5d0f h5d0z
  obtain ⟨h5d1c, h5d1d, h5d1o, h5d1f, h5d1g, h5d1p, h5d1z, h5d1x, h5d1y⟩ := bfacts (n := w2.heap.size) (k := 1) h5 (by go_size) (by go_size); replace h5d1d := h5d1d (by decide); replace h5d1g := h5d1g (by decide); replace h5d1x := h5d1x (by decide); clear h5d1c h5d1f h5d1z
  go_wp2_with fail
  refine (S_VmText b none 0 0 none 0 0 none 0 0 0 0 _).mono ?_
  rintro _ w6 ⟨rfl, h6⟩
  have h6s := (h6).size; (try simp only [World.size_alloc, World.size_setCell, World.size_drew] at h6s)
  obtain ⟨h6e0c, h6e0d, h6e0o, h6e0f, h6e0g, h6e0p, h6e0z, h6e0x, h6e0y⟩ := bfacts (n := w1.heap.size) (k := 1) h6 (by go_size) (by go_size); replace h6e0d := h6e0d (by decide); replace h6e0g := h6e0g (by decide); replace h6e0x := h6e0x (by decide); clear h6e0c h6e0f h6e0z
  obtain ⟨h6e1c, h6e1d, h6e1o, h6e1f, h6e1g, h6e1p, h6e1z, h6e1x, h6e1y⟩ := bfacts (n := w2.heap.size) (k := 1) h6 (by go_size) (by go_size); replace h6e1d := h6e1d (by decide); replace h6e1g := h6e1g (by decide); replace h6e1x := h6e1x (by decide); clear h6e1c h6e1f h6e1z
  have hc0 : w6.cell? ⟨w1.heap.size, 0, none⟩ = some (.int .i64 a) := by go_simp
  have hc1 : w6.cell? ⟨w2.heap.size, 0, none⟩ = some (.int .i64 b) := by go_simp
  have hE : Below w.heap.size w w6 := by (repeat' (first | (with_reducible exact Below.refl _ _) | (with_reducible refine Below.alloc ?_ ?_ _) | (with_reducible refine Below.setCell ?_ ?_ _) | (with_reducible refine Below.drew ?_) | (refine below_hyp (by assumption) ?_ ?_) | go_size))
  have hz : w.heap.size ≤ w6.heap.size := hE.size
  have hl1 : w1.heap.size < w6.heap.size := by omega
  have hl2 : w2.heap.size < w6.heap.size := by omega
  clear hb2ad hb2ag hb2ax hb2ay hb2ao hb2ap h3b0d h3b0g h3b0x h3b0y h3b0o h3b0p h3b1d h3b1g h3b1x h3b1y h3b1o h3b1p h4c0d h4c0g h4c0x h4c0y h4c0o h4c0p h4c1d h4c1g h4c1x h4c1y h4c1o h4c1p h5d0d h5d0g h5d0x h5d0y h5d0o h5d0p h5d1d h5d1g h5d1x h5d1y h5d1o h5d1p h6e0d h6e0g h6e0x h6e0y h6e0o h6e0p h6e1d h6e1g h6e1x h6e1y h6e1o h6e1p h3 h4 h5 h6 hb2 hb
  by_cases hs : 1 ≤ a ∧ a ≤ 10
  · have e1 := vmWord_ne hs
    have e2 : ¬ (vmWord a).toList = [] := by simpa using e1
    have e3 := vmWord_eq hs ⟨b1, b2⟩
    by_cases hab : a = b
    · subst hab
      generalize vmWord a = s at *
      obtain ⟨s1, s2⟩ := hs
      go_wp2
      all_goals (try go_returns)
      all_goals exact HR.out _ _ ⟨rfl, by (repeat' (first | (with_reducible exact Below.refl _ _) | (with_reducible refine Below.alloc ?_ ?_ _) | (with_reducible refine Below.setCell ?_ ?_ _) | (with_reducible refine Below.drew ?_) | (refine below_hyp (by assumption) ?_ ?_) | go_size))⟩
    · have hab' : (a == b) = false := by simpa using hab
      rw [hab'] at e3
      have e4 : ¬ (vmWord a).toList = (vmWord b).toList := by simpa using e3
      generalize vmWord a = s at *
      generalize vmWord b = t at *
      obtain ⟨s1, s2⟩ := hs
      go_wp2
      all_goals (try go_returns)
      all_goals exact HR.out _ _ ⟨rfl, by (repeat' (first | (with_reducible exact Below.refl _ _) | (with_reducible refine Below.alloc ?_ ?_ _) | (with_reducible refine Below.setCell ?_ ?_ _) | (with_reducible refine Below.drew ?_) | (refine below_hyp (by assumption) ?_ ?_) | go_size))⟩
  · rw [vmWord_no hs]
    by_cases h1 : a < 1
    all_goals
      go_wp2_with ((go_at_call 17; refine (L_loOk' _).mono ?_; rintro _ w7 ⟨rfl, h7⟩))
      all_goals (try go_returns)
      all_goals exact HR.out _ _ ⟨rfl, by (repeat' (first | (with_reducible exact Below.refl _ _) | (with_reducible refine Below.alloc ?_ ?_ _) | (with_reducible refine Below.setCell ?_ ?_ _) | (with_reducible refine Below.drew ?_) | (refine below_hyp (by assumption) ?_ ?_) | go_size))⟩

end Go.Proofs.Ytchhappoidncjaa
