

/-
  The walks of the drawing of a name and of a bent text. Condition: the code can be read, the text is short.
-/
import Derived.Test.YtmbfpbgkchncgaaDoorDrawK
namespace Go.Proofs.YtmbfpbgkchncgaaDoor
set_option linter.unusedSimpArgs false
set_option linter.unusedVariables false
open Go.RowKit

theorem eleven {x : Int} (h : InPick 11 x) : x = 0 ∨ x = 1 ∨ x = 2 ∨ x = 3 ∨ x = 4 ∨ x = 5 ∨ x = 6 ∨ x = 7 ∨ x = 8 ∨ x = 9 ∨ x = 10 := by
  obtain ⟨h1, h2, h3⟩ := h; omega
theorem three {x : Int} (h : InPick 3 x) : x = 0 ∨ x = 1 ∨ x = 2 := by
  obtain ⟨h1, h2, h3⟩ := h; omega

/-- a text of one byte -/
def oneB (v : Int) : ByteArray := ByteArray.empty.push (UInt8.ofNat v.toNat)
theorem oneB_size (v : Int) : (oneB v).size = 1 := rfl
theorem conv1 (v : Int) (b : Nat) (w : World) (h : w.cell? ⟨b, 0, none⟩ = some (.int .u8 v)) :
    (convert 22 9 (.slice (some ⟨b, 0, none⟩) 1 1)).run Tryd.prog w = .ok (.string (oneB v)) w := by
  rw [run_convert_bytes_string w 22 9 5 _ 1 1 Tryd.underlying22 Tryd.underlying5 Tryd.underlying9]
  rw [run_bytesToString w ⟨b, 0, none⟩ 1 1 [v] (by rw [show (1 : Nat) = [Value.int .u8 v].length from rfl, run_loadCells_list w ⟨b, 0, none⟩ [.int .u8 v] (by intro j x hx; cases j with | zero => simp at hx; subst hx; simpa [Addr.add] using h | succ j => simp at hx)]; rfl)]
  rfl

theorem app_size (a b : ByteArray) : (a ++ b).size = a.size + b.size := ByteArray.size_append

theorem add_str (a b : ByteArray) (h : a.size + b.size ≤ 4000000) (w : World) : (binOp .add 9 (.string a) (.string b)).run Tryd.prog w = .ok (.string (a ++ b)) w :=
  run_string_add_sum w a b (by omega)

set_option maxHeartbeats 1000000 in
theorem S_l20Bent (r p : Nat) (s : ByteArray) (w : World) (hs : s.size ≤ 1000000) (hr : Rd w r p) (hp : p < 900000) :
    Calls Tryd.prog 18 #[.pointer (some ⟨r, 0, none⟩), .string s] w fun e w' => (∃ t : ByteArray, t.size ≤ s.size + 1 ∧ e = .returned (.string t)) ∧ Rd w' r (p + 4) ∧ Ex r w.heap.size w w' := by
  have hlt := hr.lt
  have hss : s.size ≤ 9223372036854775806 := by omega
  refine calls_hide fun R HR => ?_
  go_enter Tryd.func18, Tryd.ntmps18
  go_wp2_with fail
  refine (S_pick r p _ _ (by omega) (by (repeat' (first | assumption | (with_reducible refine Rd.alloc ?_ _) | (with_reducible refine Rd.setCell ?_ ?_ _) | (with_reducible refine Rd.drew ?_) | (with_reducible refine Rd.drewN ?_ _) | (refine rd_below (by assumption) ?_ ?_) | go_size))) (by omega)).mono ?_
  rintro e w1 ⟨⟨k, hk, rfl⟩, h1, h2⟩
  obtain ⟨k1, k2, k3⟩ := hk
  have k4 : k ≤ (s.size : Int) := by have := k2 (by omega); omega
  clear k2 k3
  have h2s := (h2).size; (try simp only [World.size_alloc, World.size_setCell, World.size_drew] at h2s)
  go_wp2_with fail
  refine (S_pick r (p + 1) 256 _ (by omega) (by (repeat' (first | assumption | (with_reducible refine Rd.alloc ?_ _) | (with_reducible refine Rd.setCell ?_ ?_ _) | (with_reducible refine Rd.drew ?_) | (with_reducible refine Rd.drewN ?_ _) | (refine rd_below (by assumption) ?_ ?_) | go_size))) (by omega)).mono ?_
  rintro e w2 ⟨⟨q, hq, rfl⟩, h3, h4⟩
  obtain ⟨q1, q2, q3⟩ := hq
  have q4 : q ≤ 255 := by have := q2 (by omega); omega
  clear q2 q3
  have h4s := (h4).size; (try simp only [World.size_alloc, World.size_setCell, World.size_drew] at h4s)
  go_wp2_with fail
  refine (S_pick r (p + 2) 11 _ (by omega) (by (repeat' (first | assumption | (with_reducible refine Rd.alloc ?_ _) | (with_reducible refine Rd.setCell ?_ ?_ _) | (with_reducible refine Rd.drew ?_) | (with_reducible refine Rd.drewN ?_ _) | (refine rd_below (by assumption) ?_ ?_) | go_size))) (by omega)).mono ?_
  rintro e w3 ⟨⟨y, hy, rfl⟩, h5, h6⟩
  have h6s := (h6).size; (try simp only [World.size_alloc, World.size_setCell, World.size_drew] at h6s)
  obtain ⟨h6ac, h6ad, h6af, h6ag, h6az, h6ax, h6ay⟩ := efacts (n := w2.heap.size) (k := 1) h6 (by go_size) (by go_size) (by first | omega | (simp; omega)); replace h6ad := h6ad (by decide); replace h6ag := h6ag (by decide); replace h6ax := h6ax (by decide); clear h6ac h6af h6az
  have hcell : ∃ v : Int, 0 ≤ v ∧ v ≤ 255 ∧ w3.cell? ⟨w2.heap.size, y.toNat, none⟩ = some (.int .i64 v) := by
    rcases eleven hy with rfl | rfl | rfl | rfl | rfl | rfl | rfl | rfl | rfl | rfl | rfl
    all_goals
      refine ⟨_, ?_, ?_, (by rw [h6ad, World.cell?_alloc_at (hn := rfl)]; rfl)⟩
      all_goals first | decide | exact q1 | exact q4
  obtain ⟨v, v1, v2, hc⟩ := hcell
  obtain ⟨y1, y2, y3⟩ := hy
  have y4 : y < 11 := y2 (by omega)
  clear y2 y3 h6ad h6ag h6ax h6ay
  have HC := Lib.hid hs
  clear hs
  have hcv := conv1 v w3.heap.size (w3.alloc (.cells #[.int .u8 v] 5)) (by go_simp)
  set_option maxRecDepth 100000 in
  go_wp2_with fail
  refine (S_pick r (p + 3) 3 _ (by omega) (by (repeat' (first | assumption | (with_reducible refine Rd.alloc ?_ _) | (with_reducible refine Rd.setCell ?_ ?_ _) | (with_reducible refine Rd.drew ?_) | (with_reducible refine Rd.drewN ?_ _) | (refine rd_below (by assumption) ?_ ?_) | go_size))) (by omega)).mono ?_
  rintro e w4 ⟨⟨z, hz, rfl⟩, h7, h8⟩
  have h8s := (h8).size; (try simp only [World.size_alloc, World.size_setCell, World.size_drew] at h8s)
  clear hcv hc
  obtain ⟨j, rfl⟩ := Int.eq_ofNat_of_zero_le k1
  clear k1
  have hj : j ≤ s.size := by omega
  clear k4
  have x1 : (s.extract 0 j).size ≤ j := by simp; omega
  have x2 : (oneB v).size ≤ 1 := Nat.le_refl _
  have x3 : (s.extract 0 j ++ oneB v).size ≤ j + 1 := by rw [app_size]; omega
  have x4 : (s.extract j s.size).size ≤ s.size - j := by simp
  have x5 : (s.extract (j + 1) s.size).size ≤ s.size - j := by simp; omega
  rcases three hz with rfl | rfl | rfl
  · go_wp2_with fail
    go_quiet (fail)
    go_wp2
    all_goals (try go_returns)
    all_goals exact HR.out _ _ ⟨⟨_, by simp [app_size, oneB_size]; omega, rfl⟩, by (repeat' (first | assumption | (with_reducible refine Rd.alloc ?_ _) | (with_reducible refine Rd.setCell ?_ ?_ _) | (with_reducible refine Rd.drew ?_) | (with_reducible refine Rd.drewN ?_ _) | (refine rd_below (by assumption) ?_ ?_) | go_size)), by (repeat' (first | (with_reducible exact Ex.refl _ _ _) | (with_reducible exact Below.refl _ _) | (with_reducible refine Ex.alloc ?_ ?_ _) | (with_reducible refine Ex.setCell ?_ ?_ _) | (with_reducible refine Ex.drew ?_) | (with_reducible refine Ex.drewN ?_ _) | (with_reducible refine Below.alloc ?_ ?_ _) | (with_reducible refine Below.setCell ?_ ?_ _) | (with_reducible refine Below.drew ?_) | (refine ex_hyp (by assumption) ?_ ?_) | (refine ex_below (by assumption) ?_ ?_) | (refine below_ex (by assumption) ?_ ?_ ?_) | (refine below_hyp (by assumption) ?_ ?_) | go_size))⟩
  all_goals
    by_cases hjs : j < s.size
    · have hb : decide ((j : Int) < (s.size : Int)) = true := by simp; omega
      have v1 : IntKind.i64.wrap ((j : Int) + 1) = (j : Int) + 1 := IntWalk.i64_in _ (by omega)
      have v2 : ((j : Int) + 1).toNat = j + 1 := by omega
      have v3 : 0 ≤ (j : Int) + 1 := by omega
      go_wp2_with fail
      go_quiet (fail)
      go_wp2
      all_goals (try go_returns)
      all_goals exact HR.out _ _ ⟨⟨_, by simp [app_size, oneB_size]; omega, rfl⟩, by (repeat' (first | assumption | (with_reducible refine Rd.alloc ?_ _) | (with_reducible refine Rd.setCell ?_ ?_ _) | (with_reducible refine Rd.drew ?_) | (with_reducible refine Rd.drewN ?_ _) | (refine rd_below (by assumption) ?_ ?_) | go_size)), by (repeat' (first | (with_reducible exact Ex.refl _ _ _) | (with_reducible exact Below.refl _ _) | (with_reducible refine Ex.alloc ?_ ?_ _) | (with_reducible refine Ex.setCell ?_ ?_ _) | (with_reducible refine Ex.drew ?_) | (with_reducible refine Ex.drewN ?_ _) | (with_reducible refine Below.alloc ?_ ?_ _) | (with_reducible refine Below.setCell ?_ ?_ _) | (with_reducible refine Below.drew ?_) | (refine ex_hyp (by assumption) ?_ ?_) | (refine ex_below (by assumption) ?_ ?_) | (refine below_ex (by assumption) ?_ ?_ ?_) | (refine below_hyp (by assumption) ?_ ?_) | go_size))⟩
    · have hb : decide ((j : Int) < (s.size : Int)) = false := by simp; omega
      go_wp2
      all_goals (try go_returns)
      all_goals exact HR.out _ _ ⟨⟨_, by omega, rfl⟩, by (repeat' (first | assumption | (with_reducible refine Rd.alloc ?_ _) | (with_reducible refine Rd.setCell ?_ ?_ _) | (with_reducible refine Rd.drew ?_) | (with_reducible refine Rd.drewN ?_ _) | (refine rd_below (by assumption) ?_ ?_) | go_size)), by (repeat' (first | (with_reducible exact Ex.refl _ _ _) | (with_reducible exact Below.refl _ _) | (with_reducible refine Ex.alloc ?_ ?_ _) | (with_reducible refine Ex.setCell ?_ ?_ _) | (with_reducible refine Ex.drew ?_) | (with_reducible refine Ex.drewN ?_ _) | (with_reducible refine Below.alloc ?_ ?_ _) | (with_reducible refine Below.setCell ?_ ?_ _) | (with_reducible refine Below.drew ?_) | (refine ex_hyp (by assumption) ?_ ?_) | (refine ex_below (by assumption) ?_ ?_) | (refine below_ex (by assumption) ?_ ?_ ?_) | (refine below_hyp (by assumption) ?_ ?_) | go_size))⟩

theorem eight {x : Int} (h : InPick 8 x) : x = 0 ∨ x = 1 ∨ x = 2 ∨ x = 3 ∨ x = 4 ∨ x = 5 ∨ x = 6 ∨ x = 7 := by
  obtain ⟨h1, h2, h3⟩ := h; omega

end Go.Proofs.YtmbfpbgkchncgaaDoor
