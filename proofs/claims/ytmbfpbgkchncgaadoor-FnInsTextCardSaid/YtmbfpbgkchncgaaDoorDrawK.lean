

/-
  The walks of the drawing functions of kinds, tags, names and ways of standing: each gives a thing whose texts are short. Condition: the code can be read.
-/
import Derived.Test.YtmbfpbgkchncgaaDoorDraw
namespace Go.Proofs.YtmbfpbgkchncgaaDoor
set_option linter.unusedSimpArgs false
set_option linter.unusedVariables false
open Go.RowKit

set_option maxHeartbeats 400000 in
theorem S_odd (r p : Nat) (n : Int) (w : World) (hn : -9223372036854775808 < n) (hn2 : n ≤ 9223372036854775807) (hr : Rd w r p) (hp : p < 1000000) :
    Calls Tryd.prog 33 #[.pointer (some ⟨r, 0, none⟩), .int .i64 n] w fun e w' => (∃ x : Bool, e = .returned (.bool x)) ∧ Rd w' r (p + 1) ∧ Ex r w.heap.size w w' := by
  refine calls_hide fun R HR => ?_
  go_enter Tryd.func33, Tryd.ntmps33
  go_wp2_with fail
  refine (S_pick r p n w hn2 hr hp).mono ?_
  rintro e w1 ⟨⟨x, hx, rfl⟩, h1, h2⟩
  have hX := Lib.hid hx
  clear hx
  go_wp2
  all_goals (try go_returns)
  all_goals exact HR.out _ _ ⟨⟨_, rfl⟩, h1, h2⟩

theorem five {x : Int} (h : InPick 5 x) : x = 0 ∨ x = 1 ∨ x = 2 ∨ x = 3 ∨ x = 4 := by
  obtain ⟨h1, h2, h3⟩ := h; omega

/-- a kind or a tag with a short name -/
def ShortK (v : Value) : Prop := ∃ (k : Int) (n : ByteArray), v = .agg #[.int .i64 k, .string n] ∧ n.size ≤ 4 ∧ 0 ≤ k + 1 ∧ k ≤ 4


theorem seven {x : Int} (h : InPick 7 x) : x = 0 ∨ x = 1 ∨ x = 2 ∨ x = 3 ∨ x = 4 ∨ x = 5 ∨ x = 6 := by
  obtain ⟨h1, h2, h3⟩ := h; omega


theorem rd_new {w : World} {a : Option Addr} {len cap : Nat} (hl : len ≤ 2000) (h : 0 < len → ∃ b off, a = some ⟨b, off, none⟩ ∧ b < w.heap.size ∧ ∀ i, i < len → ∃ c : Nat, c < 256 ∧ w.cell? ⟨b, off + i, none⟩ = some (.int .u8 c)) :
    Rd (w.alloc (.cells #[.slice a len cap, .int .i64 0] 62)) w.heap.size 0 := by
  refine ⟨by simp, a, len, cap, by simp [go_sem], by simp [go_sem], by simp [go_sem], hl, fun h0 => ?_⟩
  obtain ⟨b, off, rfl, hb, hc⟩ := h h0
  refine ⟨b, off, rfl, hb, fun i hi => ?_⟩
  obtain ⟨c, c1, c2⟩ := hc i hi
  exact ⟨c, c1, by rw [World.cell?_alloc_past (hn := hb)]; exact c2⟩

set_option maxHeartbeats 400000 in
theorem S_l20Open (v : Value) (w : World) (hv : Bytes w v) :
    Calls Tryd.prog 16 #[v] w fun e w' => e = .returned (.pointer (some ⟨w.heap.size, 0, none⟩)) ∧ Rd w' w.heap.size 0 ∧ Below w.heap.size w w' ∧ w.heap.size < w'.heap.size := by
  obtain ⟨a, len, cap, rfl, h1, h2, h3⟩ := hv
  have hm : len ≤ 9223372036854775807 := by unfold maxLen at h2; omega
  have hm2 : cap ≤ 9223372036854775807 := by unfold maxLen at h2; omega
  clear h2
  have H3 := Lib.hid h3
  clear h3
  by_cases hl : 2000 < len
  · obtain ⟨b, off, rfl, hb, hc⟩ := H3.out (by omega)
    have HC := Lib.hid hc
    clear hc
    have hl' : decide ((2000 : Int) < (len : Int)) = true := by simp; omega
    refine calls_hide fun R HR => ?_
    go_enter Tryd.func16, Tryd.ntmps16
    go_wp2
    all_goals (try go_returns)
    all_goals exact HR.out _ _ ⟨rfl, rd_new (by omega) (fun _ => ⟨b, off, rfl, hb, fun i hi => HC.out i (by omega)⟩), by (repeat' (first | (with_reducible exact Below.refl _ _) | (with_reducible refine Below.alloc ?_ ?_ _) | (with_reducible refine Below.setCell ?_ ?_ _) | (with_reducible refine Below.drew ?_) | (refine below_hyp (by assumption) ?_ ?_) | go_size)), by simp⟩
  · have hl' : decide ((2000 : Int) < (len : Int)) = false := by simp; omega
    refine calls_hide fun R HR => ?_
    go_enter Tryd.func16, Tryd.ntmps16
    go_wp2
    all_goals (try go_returns)
    all_goals exact HR.out _ _ ⟨rfl, rd_new (by omega) H3.out, by (repeat' (first | (with_reducible exact Below.refl _ _) | (with_reducible refine Below.alloc ?_ ?_ _) | (with_reducible refine Below.setCell ?_ ?_ _) | (with_reducible refine Below.drew ?_) | (refine below_hyp (by assumption) ?_ ?_) | go_size)), by simp⟩


theorem Bytes.stay {w w' : World} {v : Value} (h : Bytes w v) (hs : w.heap.size ≤ w'.heap.size) (hb : ∀ k, k < w.heap.size → w'.heap[k]? = w.heap[k]?) : Bytes w' v := by
  obtain ⟨a, len, cap, h0, h1, h2, h3⟩ := h
  refine ⟨a, len, cap, h0, h1, h2, fun hl => ?_⟩
  obtain ⟨b, off, rfl, hbr, hc⟩ := h3 hl
  exact ⟨b, off, rfl, by omega, fun i hi => by obtain ⟨c, hc1, hc2⟩ := hc i hi; exact ⟨c, hc1, (cell_of_heap (hb b hbr)).trans hc2⟩⟩
theorem Bytes.alloc {w : World} {v : Value} (h : Bytes w v) (o : Obj) : Bytes (w.alloc o) v := h.stay (by simp) fun k hk => Below.heap_alloc _ _ _ hk
theorem bytes_below {w w' : World} {v : Value} (hb : Below w.heap.size w w') (h : Bytes w v) : Bytes w' v := h.stay hb.size hb.block





end Go.Proofs.YtmbfpbgkchncgaaDoor
