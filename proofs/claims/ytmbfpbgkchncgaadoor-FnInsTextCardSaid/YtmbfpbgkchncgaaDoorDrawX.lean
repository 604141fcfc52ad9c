

/-
  The walks of DrawInsText and DrawInsRead: an instruction, and a text, drawn off a code. Condition: the code can be read.
-/
import Derived.Test.YtmbfpbgkchncgaaDoorDrawI
import Derived.Test.YtmbfpbgkchncgaaDoorRdP
namespace Go.Proofs.YtmbfpbgkchncgaaDoor
set_option linter.unusedSimpArgs false
set_option linter.unusedVariables false
open Go.RowKit

set_option maxHeartbeats 400000 in
theorem S_DrawInsText (v : Value) (w : World) (hv : Bytes w v) :
    Calls Tryd.prog 5 #[v] w fun e w' => (∃ (op a : Int) (n m : ByteArray), n.size ≤ 4 ∧ m.size ≤ 4 ∧ e = .returned (.agg #[.int .i64 op, .int .i64 a, .string n, .string m])) ∧ Below w.heap.size w w' := by
  have hv' := hv
  refine calls_hide fun R HR => ?_
  go_enter Tryd.func5, Tryd.ntmps5
  go_wp2_with fail
  refine (S_l20Open _ _ (by (first | exact hv' | exact hv'.alloc _))).mono ?_
  rintro e w1 ⟨rfl, h1, h2, h3⟩
  (try simp only [World.size_alloc] at h1)
  have h2s := (h2).size; (try simp only [World.size_alloc, World.size_setCell, World.size_drew] at h2s)
  obtain ⟨h2ac, h2ad, h2ao, h2af, h2ag, h2ap, h2az, h2ax, h2ay⟩ := bfacts (n := w.heap.size) (k := 1) h2 (by go_size) (by go_size); replace h2ad := h2ad (by decide); replace h2ag := h2ag (by decide); replace h2ax := h2ax (by decide); clear h2ac h2af h2az
  go_wp2_with fail
  refine (S_l20Ins _ 0 _ _ (by omega) (by omega) (by (repeat' (first | assumption | (with_reducible refine Rd.alloc ?_ _) | (with_reducible refine Rd.setCell ?_ ?_ _) | (with_reducible refine Rd.drew ?_) | (with_reducible refine Rd.drewN ?_ _) | (refine rd_below (by assumption) ?_ ?_) | go_size))) (by omega)).mono ?_
  rintro e w2 ⟨⟨op, a, n, m, hk, hk2, rfl⟩, ⟨q, hq, h4⟩, h5⟩
  have h5s := (h5).size; (try simp only [World.size_alloc, World.size_setCell, World.size_drew] at h5s)
  obtain ⟨h5bc, h5bd, h5bf, h5bg, h5bz, h5bx, h5by⟩ := efacts (n := w.heap.size) (k := 1) h5 (by go_size) (by go_size) (by first | omega | (simp; omega)); replace h5bd := h5bd (by decide); replace h5bg := h5bg (by decide); replace h5bx := h5bx (by decide); clear h5bc h5bf h5bz
  go_wp2
  all_goals
    refine bodyPost_ret (v := ?_) ?hrun rfl ?_
    case hrun => (simp only [results, Tryd.results5]; go_simp; first | done | exact rfl)
    exact HR.out _ _ ⟨⟨_, _, _, _, hk, hk2, rfl⟩, by (repeat' (first | (with_reducible exact Ex.refl _ _ _) | (with_reducible exact Below.refl _ _) | (with_reducible refine Ex.alloc ?_ ?_ _) | (with_reducible refine Ex.setCell ?_ ?_ _) | (with_reducible refine Ex.drew ?_) | (with_reducible refine Ex.drewN ?_ _) | (with_reducible refine Below.alloc ?_ ?_ _) | (with_reducible refine Below.setCell ?_ ?_ _) | (with_reducible refine Below.drew ?_) | (refine ex_hyp (by assumption) ?_ ?_) | (refine ex_below (by assumption) ?_ ?_) | (refine below_ex (by assumption) ?_ ?_ ?_) | (refine below_hyp (by assumption) ?_ ?_) | go_size))⟩

theorem thirteen {x : Int} (h : InPick 13 x) : x = 0 ∨ x = 1 ∨ x = 2 ∨ x = 3 ∨ x = 4 ∨ x = 5 ∨ x = 6 ∨ x = 7 ∨ x = 8 ∨ x = 9 ∨ x = 10 ∨ x = 11 ∨ x = 12 := by
  obtain ⟨h1, h2, h3⟩ := h; omega
theorem txt_size (op a : Int) (n m : ByteArray) : (tx (insTxt op a n m)).size ≤ 18 := by
  have h := insText_len (i := ⟨op, a, n, m⟩)
  rw [insText_txt] at h
  rw [tx_size]; exact h

set_option maxHeartbeats 2000000 in
set_option maxHeartbeats 400000 in
theorem S_DrawInsRead (v : Value) (w : World) (hv : Bytes w v) :
    Calls Tryd.prog 6 #[v] w fun e w' => (∃ s : ByteArray, s.size ≤ 100 ∧ e = .returned (.string s)) ∧ Below w.heap.size w w' := by
  have hv' := hv
  refine calls_hide fun R HR => ?_
  go_enter Tryd.func6, Tryd.ntmps6
  go_wp2_with fail
  refine (S_l20Open _ _ (by (first | exact hv' | exact hv'.alloc _))).mono ?_
  rintro e w1 ⟨rfl, h1, h2, h3⟩
  (try simp only [World.size_alloc] at h1)
  have h2s := (h2).size; (try simp only [World.size_alloc, World.size_setCell, World.size_drew] at h2s)
  go_wp2_with fail
  refine (S_l20Ins _ 0 _ _ (by omega) (by omega) (by (repeat' (first | assumption | (with_reducible refine Rd.alloc ?_ _) | (with_reducible refine Rd.setCell ?_ ?_ _) | (with_reducible refine Rd.drew ?_) | (with_reducible refine Rd.drewN ?_ _) | (refine rd_below (by assumption) ?_ ?_) | go_size))) (by omega)).mono ?_
  rintro e w2 ⟨⟨op, a, n, m, hk, hk2, rfl⟩, ⟨q, hq, h4⟩, h5⟩
  have h5s := (h5).size; (try simp only [World.size_alloc, World.size_setCell, World.size_drew] at h5s)
  go_wp2_with fail
  refine (S_InsText op a n m _ (by unfold maxLen; omega) (by unfold maxLen; omega)).mono ?_
  rintro e w3 ⟨rfl, h6⟩
  have hs := txt_size op a n m
  generalize tx (insTxt op a n m) = s at hs ⊢
  have h6s := (h6).size; (try simp only [World.size_alloc, World.size_setCell, World.size_drew] at h6s)
  have h7 := rd_below h6 h4 (by omega)
  go_wp2_with fail
  refine (S_pick _ q 4 _ (by omega) (by (repeat' (first | assumption | (with_reducible refine Rd.alloc ?_ _) | (with_reducible refine Rd.setCell ?_ ?_ _) | (with_reducible refine Rd.drew ?_) | (with_reducible refine Rd.drewN ?_ _) | (refine rd_below (by assumption) ?_ ?_) | go_size))) (by omega)).mono ?_
  rintro e w4 ⟨⟨y, hy, rfl⟩, h8, h9⟩
  have h9s := (h9).size; (try simp only [World.size_alloc, World.size_setCell, World.size_drew] at h9s)
  clear h7 h4
  rcases four hy with rfl | rfl | rfl | rfl
  · go_wp2_with fail
    refine (S_l20Bent _ (q + 1) s _ (by omega) (by (repeat' (first | assumption | (with_reducible refine Rd.alloc ?_ _) | (with_reducible refine Rd.setCell ?_ ?_ _) | (with_reducible refine Rd.drew ?_) | (with_reducible refine Rd.drewN ?_ _) | (refine rd_below (by assumption) ?_ ?_) | go_size))) (by omega)).mono ?_
    rintro e w5 ⟨⟨u, hu, rfl⟩, h10, h11⟩
    have h11s := (h11).size; (try simp only [World.size_alloc, World.size_setCell, World.size_drew] at h11s)
    go_wp2
    all_goals
      exact HR.out _ _ ⟨⟨_, by omega, rfl⟩, by (repeat' (first | (with_reducible exact Ex.refl _ _ _) | (with_reducible exact Below.refl _ _) | (with_reducible refine Ex.alloc ?_ ?_ _) | (with_reducible refine Ex.setCell ?_ ?_ _) | (with_reducible refine Ex.drew ?_) | (with_reducible refine Ex.drewN ?_ _) | (with_reducible refine Below.alloc ?_ ?_ _) | (with_reducible refine Below.setCell ?_ ?_ _) | (with_reducible refine Below.drew ?_) | (refine ex_hyp (by assumption) ?_ ?_) | (refine ex_below (by assumption) ?_ ?_) | (refine below_ex (by assumption) ?_ ?_ ?_) | (refine below_hyp (by assumption) ?_ ?_) | go_size))⟩
  · go_wp2_with fail
    refine (S_pick _ (q + 1) 13 _ (by omega) (by (repeat' (first | assumption | (with_reducible refine Rd.alloc ?_ _) | (with_reducible refine Rd.setCell ?_ ?_ _) | (with_reducible refine Rd.drew ?_) | (with_reducible refine Rd.drewN ?_ _) | (refine rd_below (by assumption) ?_ ?_) | go_size))) (by omega)).mono ?_
    rintro e w5 ⟨⟨z, hz, rfl⟩, h10, h11⟩
    have h11s := (h11).size; (try simp only [World.size_alloc, World.size_setCell, World.size_drew] at h11s)
    obtain ⟨h11ac, h11ad, h11af, h11ag, h11az, h11ax, h11ay⟩ := efacts (n := w4.heap.size) (k := 1) h11 (by go_size) (by go_size) (by first | omega | (simp; omega)); replace h11ad := h11ad (by decide); replace h11ag := h11ag (by decide); replace h11ax := h11ax (by decide); clear h11ac h11af h11az
    have hcell : ∃ s : ByteArray, s.size ≤ 9 ∧ w5.cell? ⟨w4.heap.size, z.toNat, none⟩ = some (.string s) := by
      rcases thirteen hz with rfl | rfl | rfl | rfl | rfl | rfl | rfl | rfl | rfl | rfl | rfl | rfl | rfl
      all_goals
        refine ⟨_, ?_, (by rw [h11ad, World.cell?_alloc_at (hn := rfl)]; rfl)⟩
        decide
    obtain ⟨s', hs', hc⟩ := hcell
    obtain ⟨y1, y2, y3⟩ := hz
    have y4 : z < 13 := y2 (by omega)
    clear y2 y3 h11ad h11ag h11ax h11ay
    go_wp2
    all_goals
      exact HR.out _ _ ⟨⟨_, by omega, rfl⟩, by (repeat' (first | (with_reducible exact Ex.refl _ _ _) | (with_reducible exact Below.refl _ _) | (with_reducible refine Ex.alloc ?_ ?_ _) | (with_reducible refine Ex.setCell ?_ ?_ _) | (with_reducible refine Ex.drew ?_) | (with_reducible refine Ex.drewN ?_ _) | (with_reducible refine Below.alloc ?_ ?_ _) | (with_reducible refine Below.setCell ?_ ?_ _) | (with_reducible refine Below.drew ?_) | (refine ex_hyp (by assumption) ?_ ?_) | (refine ex_below (by assumption) ?_ ?_) | (refine below_ex (by assumption) ?_ ?_ ?_) | (refine below_hyp (by assumption) ?_ ?_) | go_size))⟩
  · go_wp2
    all_goals
      exact HR.out _ _ ⟨⟨_, by omega, rfl⟩, by (repeat' (first | (with_reducible exact Ex.refl _ _ _) | (with_reducible exact Below.refl _ _) | (with_reducible refine Ex.alloc ?_ ?_ _) | (with_reducible refine Ex.setCell ?_ ?_ _) | (with_reducible refine Ex.drew ?_) | (with_reducible refine Ex.drewN ?_ _) | (with_reducible refine Below.alloc ?_ ?_ _) | (with_reducible refine Below.setCell ?_ ?_ _) | (with_reducible refine Below.drew ?_) | (refine ex_hyp (by assumption) ?_ ?_) | (refine ex_below (by assumption) ?_ ?_) | (refine below_ex (by assumption) ?_ ?_ ?_) | (refine below_hyp (by assumption) ?_ ?_) | go_size))⟩
  · go_wp2
    all_goals
      exact HR.out _ _ ⟨⟨_, by omega, rfl⟩, by (repeat' (first | (with_reducible exact Ex.refl _ _ _) | (with_reducible exact Below.refl _ _) | (with_reducible refine Ex.alloc ?_ ?_ _) | (with_reducible refine Ex.setCell ?_ ?_ _) | (with_reducible refine Ex.drew ?_) | (with_reducible refine Ex.drewN ?_ _) | (with_reducible refine Below.alloc ?_ ?_ _) | (with_reducible refine Below.setCell ?_ ?_ _) | (with_reducible refine Below.drew ?_) | (refine ex_hyp (by assumption) ?_ ?_) | (refine ex_below (by assumption) ?_ ?_) | (refine below_ex (by assumption) ?_ ?_ ?_) | (refine below_hyp (by assumption) ?_ ?_) | go_size))⟩

end Go.Proofs.YtmbfpbgkchncgaaDoor
