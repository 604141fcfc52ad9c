

/-
  The walks of the weights, the copies and the sameness of data. Printed by gen_rep.py, a program of the prover of this repo.
-/
import Derived.Test.YtchhappoidncjaaDatV
import Derived.Deep.LoopGhost
import Derived.Deep.RegionHeld3
namespace Go.Proofs.Ytchhappoidncjaa
set_option linter.unusedSimpArgs false
set_option linter.unusedVariables false
open Go.RowKit

set_option maxHeartbeats 2000000 in
theorem L_toVmVal (x : DVmVal) (w : World) :
    Calls Try.prog 71 #[.agg #[.int .i64 x.fKind, .int .i64 x.fN]] w fun e w' => e = .returned (.agg #[.int .i64 x.fKind, .int .i64 x.fN]) ∧ Below w.heap.size w w' := by
  refine calls_hide fun R HR => ?_
  go_enter Try.func71, Try.ntmps71
  go_wp2
  all_goals
    refine bodyPost_ret (v := ?_) ?hrun rfl ?_
    case hrun => (simp only [results, Try.results71]; go_simp; first | done | exact rfl)
    exact HR.out _ _ ⟨rfl, by (repeat' (first | (with_reducible exact Below.refl _ _) | (with_reducible refine Below.alloc ?_ ?_ _) | (with_reducible refine Below.setCell ?_ ?_ _) | (with_reducible refine Below.drew ?_) | (refine below_hyp (by assumption) ?_ ?_) | go_size))⟩

set_option maxHeartbeats 2000000 in
theorem L_eqVmVal (x : DVmVal) (w : World) :
    Calls Try.prog 75 #[.agg #[.int .i64 x.fKind, .int .i64 x.fN], .agg #[.int .i64 x.fKind, .int .i64 x.fN]] w fun e w' => e = .returned (.bool true) ∧ Below w.heap.size w w' := by
  refine calls_hide fun R HR => ?_
  go_enter Try.func75, Try.ntmps75
  go_wp2
  all_goals (try go_returns)
  all_goals exact HR.out _ _ ⟨rfl, by (repeat' (first | (with_reducible exact Below.refl _ _) | (with_reducible refine Below.alloc ?_ ?_ _) | (with_reducible refine Below.setCell ?_ ?_ _) | (with_reducible refine Below.drew ?_) | (refine below_hyp (by assumption) ?_ ?_) | go_size))⟩

set_option maxHeartbeats 2000000 in
theorem L_szVmValS (xs : List DVmVal) (v : Value) (l : Int) (w : World) (hv : Sl 2 rVmVal 0 w v xs) (hl0 : 0 ≤ l ∧ l ≤ 1048576) :
    Calls Try.prog 85 #[v, .int .i64 l] w fun e w' => (∃ r : Int, e = .returned (.int .i64 r) ∧ (r = -1 ∨ (0 ≤ r ∧ r + wtS (fun _ => 0) xs ≤ l))) ∧ Below w.heap.size w w' := by
  obtain ⟨a, len, cap, rfl, hl, h1, h2, h3⟩ := id hv
  have m1 : len ≤ 9223372036854775807 := by unfold maxLen at h2; omega
  have HL := Lib.hid hl
  have H1 := Lib.hid h1
  obtain ⟨l1, l2⟩ := hl0
  clear h2 hl h1
  refine calls_hide fun R HR => ?_
  go_enter Try.func85, Try.ntmps85
  go_wp2
  all_goals (try go_returns)
  all_goals exact HR.out _ _ ⟨⟨_, rfl, by first | exact Or.inl rfl | exact Or.inr ⟨by omega, by rw [wtS_none, HL.out]; omega⟩⟩, by (repeat' (first | (with_reducible exact Below.refl _ _) | (with_reducible refine Below.alloc ?_ ?_ _) | (with_reducible refine Below.setCell ?_ ?_ _) | (with_reducible refine Below.drew ?_) | (refine below_hyp (by assumption) ?_ ?_) | go_size))⟩

set_option maxHeartbeats 2000000 in
theorem L_toVmValS (xs : List DVmVal) (v : Value) (w : World) (hv : Sl 2 rVmVal 0 w v xs) (hs : xs.length ≤ 1048576) :
    Calls Try.prog 88 #[v] w fun e w' => (∃ v', e = .returned v' ∧ Sl 2 rVmVal w.heap.size w' v' xs) ∧ Below w.heap.size w w' := by
  obtain ⟨a, len, cap, rfl, hl, h1, h2, h3⟩ := id hv
  have hs' : len ≤ 1048576 := by omega
  have hmk := make_rows (P := Try.prog) w 138 27 (.agg #[.int .i64 0, .int .i64 0]) 2 16 (by kernel_rfl) (by kernel_rfl) (by omega) len hs'
  have hP := Part.start (k := 2) (R := rVmVal) (w := w) (len := len) (xs := xs) (Value.cells (.agg #[.int .i64 0, .int .i64 0])) 27
  have hB : Below w.heap.size w (w.alloc (.cells (madeCells (Value.cells (.agg #[.int .i64 0, .int .i64 0])) (len * 2)) 27)) := by (repeat' (first | (with_reducible exact Below.refl _ _) | (with_reducible refine Below.alloc ?_ ?_ _) | (with_reducible refine Below.setCell ?_ ?_ _) | (with_reducible refine Below.drew ?_) | (refine below_hyp (by assumption) ?_ ?_) | go_size))
  have m1 : len ≤ 9223372036854775807 := by omega
  have m2 : len ≤ maxLen := by unfold maxLen; omega
  have hsz : (w.alloc (.cells (madeCells (Value.cells (.agg #[.int .i64 0, .int .i64 0])) (len * 2)) 27)).heap.size = w.heap.size + 1 := by simp
  generalize w.alloc (.cells (madeCells (Value.cells (.agg #[.int .i64 0, .int .i64 0])) (len * 2)) 27) = wm at *
  have HL := Lib.hid hl
  have H1 := Lib.hid h1
  have HS := Lib.hid hs'
  have M2 := Lib.hid m2
  clear h2 hl h1 hs hs' m2
  refine calls_hide fun R HR => ?_
  go_enter Try.func88, Try.ntmps88
  go_wp2_with fail
  go_loopw [4] (fun i wr => ∃ k : Nat, k ≤ len ∧ i = .int .i64 k ∧ Below w.heap.size w wr ∧ Part 2 rVmVal wr w.heap.size len k xs) (fun i _ => len - (intOf i).toNat)
  case atStart => exact ⟨0, Nat.zero_le _, rfl, hB, hP⟩
  case round =>
    clear hmk hP hB hsz
    obtain ⟨k, hk, rfl, hb, hp⟩ := hrel
    by_cases hlt : k < len
    · obtain ⟨b, off, rfl, hlo, hbl, hr⟩ := h3.stays rVmVal_good (Keeps.of_below hb) (by omega)
      obtain ⟨x, cs, e0, e1, e2, e3⟩ := hr k hlt
      cases e3
      have q1 : wr.cell? ⟨b, off + k * 2, none⟩ = some (.int .i64 x.fKind) := e2 0 _ rfl
      have q2 : wr.cell? ⟨b, off + k * 2 + 1, none⟩ = some (.int .i64 x.fN) := e2 1 _ rfl
      have hbx := hb.size
      have hpl := hp.lt
      clear e1 e2 hr
      go_wp2_with fail
      refine (L_toVmVal x _).mono ?_
      rintro _ wA ⟨rfl, hA⟩
      have hz := hA.size
      have hp' := hp.below rVmVal_good hA
      have t00 := hp'.there (k * 2) (by omega)
      rw [Nat.zero_add] at t00
      obtain ⟨u00, hu0⟩ := Option.isSome_iff_exists.1 t00.1
      have hf0 := t00.2
      have t01 := hp'.there (k * 2 + 1) (by omega)
      rw [Nat.zero_add] at t01
      obtain ⟨u01, hu1⟩ := Option.isSome_iff_exists.1 t01.1
      have hf1 := t01.2
      clear t00 t01 q1 q2
      have h7 := hp'.step rVmVal_good hlt e0 (cs := [.int .i64 x.fKind, .int .i64 x.fN]) rfl rfl
      simp only [World.setCells, Nat.add_assoc, Nat.reduceAdd] at h7
      have H7 := Lib.hid h7
      clear h7
      go_wp2
      go_roundw
      case measure => simp [intOf]; omega
      case rel => exact ⟨k + 1, by omega, by go_num, by (repeat' (first | (with_reducible exact Below.refl _ _) | (with_reducible refine Below.alloc ?_ ?_ _) | (with_reducible refine Below.setCell ?_ ?_ _) | (with_reducible refine Below.drew ?_) | (refine below_hyp (by assumption) ?_ ?_) | go_size)), H7.out⟩
    · obtain rfl : k = len := by omega
      go_wp2
      all_goals (try go_returns)
      all_goals exact HR.out _ _ ⟨⟨_, rfl, hp.done rVmVal_good HL.out M2.out⟩, by (repeat' (first | (with_reducible exact Below.refl _ _) | (with_reducible refine Below.alloc ?_ ?_ _) | (with_reducible refine Below.setCell ?_ ?_ _) | (with_reducible refine Below.drew ?_) | (refine below_hyp (by assumption) ?_ ?_) | go_size))⟩

set_option maxHeartbeats 2000000 in
theorem L_eqVmValS (xs : List DVmVal) (v v' : Value) (w : World) (hv : Sl 2 rVmVal 0 w v xs) (hv' : Sl 2 rVmVal 0 w v' xs) :
    Calls Try.prog 91 #[v, v'] w fun e w' => e = .returned (.bool true) ∧ Below w.heap.size w w' := by
  obtain ⟨a, len, cap, rfl, hl, h1, h2, h3⟩ := id hv
  obtain ⟨a', len', cap', rfl, hl', h1', h2', h3'⟩ := id hv'
  obtain rfl : len' = len := hl'.symm.trans hl
  have m1 : len' ≤ 9223372036854775807 := by unfold maxLen at h2; omega
  have HL := Lib.hid hl
  have H1 := Lib.hid h1
  have H1' := Lib.hid h1'
  clear h2 h2' hl hl' h1 h1'
  refine calls_hide fun R HR => ?_
  go_enter Try.func91, Try.ntmps91
  go_wp2_with fail
  go_loopw [5] (fun i wr => ∃ k : Nat, k ≤ len' ∧ i = .int .i64 k ∧ Below w.heap.size w wr) (fun i _ => len' - (intOf i).toNat)
  case atStart => exact ⟨0, Nat.zero_le _, rfl, by (repeat' (first | (with_reducible exact Below.refl _ _) | (with_reducible refine Below.alloc ?_ ?_ _) | (with_reducible refine Below.setCell ?_ ?_ _) | (with_reducible refine Below.drew ?_) | (refine below_hyp (by assumption) ?_ ?_) | go_size))⟩
  case round =>
    obtain ⟨k, hk, rfl, hb⟩ := hrel
    by_cases hlt : k < len'
    · obtain ⟨b, off, rfl, hlo, hbl, hr⟩ := h3.stays rVmVal_good (Keeps.of_below hb) (by omega)
      obtain ⟨b', off', rfl, hlo', hbl', hr'⟩ := h3'.stays rVmVal_good (Keeps.of_below hb) (by omega)
      obtain ⟨x, cs, e0, e1, e2, e3⟩ := hr k hlt
      obtain ⟨x', cs', e0', e1', e2', e3'⟩ := hr' k hlt
      obtain rfl : x = x' := Option.some.inj (e0.symm.trans e0')
      cases e3
      cases e3'
      go_wp2_with fail
      have q1 : ∀ W, Below wr.heap.size wr W → W.cell? ⟨b, off + k * 2, none⟩ = some (.int .i64 x.fKind) := fun W hW => range_below e2 hW hbl 0 _ rfl
      have q2 : ∀ W, Below wr.heap.size wr W → W.cell? ⟨b, off + k * 2 + 1, none⟩ = some (.int .i64 x.fN) := fun W hW => range_below e2 hW hbl 1 _ rfl
      have o1 : ∀ W, Below wr.heap.size wr W → W.cell? ⟨b', off' + k * 2, none⟩ = some (.int .i64 x.fKind) := fun W hW => range_below e2' hW hbl' 0 _ rfl
      have o2 : ∀ W, Below wr.heap.size wr W → W.cell? ⟨b', off' + k * 2 + 1, none⟩ = some (.int .i64 x.fN) := fun W hW => range_below e2' hW hbl' 1 _ rfl
      clear e1 e2 e1' e2' hr hr'
      have hbx := hb.size
      have keepA : ∀ x x' : World, Below x.heap.size x x' → Below wr.heap.size wr x → Below wr.heap.size wr x' := fun x x' hb e => keep_below hb e (Nat.le_refl _)
      go_region_held3 (fun x => Below wr.heap.size wr x) (first | exact (Below.refl _ _).drew | exact keepA _ _ (by assumption) (by assumption)) (first | (go_at_call 75; refine (L_eqVmVal x _).mono ?_; rintro _ _ ⟨rfl, _⟩))
      rename_i wA _ hA
      have hz := hA.size
      clear q1 o1 q2 o2 keepA
      go_wp2
      go_roundw
      case measure => simp [intOf]; omega
      case rel => exact ⟨k + 1, by omega, by go_num, hb.trans (hA.mono hbx)⟩
    · skip
      go_wp2
      all_goals (try go_returns)
      all_goals exact HR.out _ _ ⟨rfl, by (repeat' (first | (with_reducible exact Below.refl _ _) | (with_reducible refine Below.alloc ?_ ?_ _) | (with_reducible refine Below.setCell ?_ ?_ _) | (with_reducible refine Below.drew ?_) | (refine below_hyp (by assumption) ?_ ?_) | go_size))⟩

set_option maxHeartbeats 2000000 in
theorem L_szIntS (xs : List Int) (v : Value) (l : Int) (w : World) (hv : Sl 1 rInt 0 w v xs) (hl0 : 0 ≤ l ∧ l ≤ 1048576) :
    Calls Try.prog 67 #[v, .int .i64 l] w fun e w' => (∃ r : Int, e = .returned (.int .i64 r) ∧ (r = -1 ∨ (0 ≤ r ∧ r + wtS (fun _ => 0) xs ≤ l))) ∧ Below w.heap.size w w' := by
  obtain ⟨a, len, cap, rfl, hl, h1, h2, h3⟩ := id hv
  have m1 : len ≤ 9223372036854775807 := by unfold maxLen at h2; omega
  have HL := Lib.hid hl
  have H1 := Lib.hid h1
  obtain ⟨l1, l2⟩ := hl0
  clear h2 hl h1
  refine calls_hide fun R HR => ?_
  go_enter Try.func67, Try.ntmps67
  go_wp2
  all_goals (try go_returns)
  all_goals exact HR.out _ _ ⟨⟨_, rfl, by first | exact Or.inl rfl | exact Or.inr ⟨by omega, by rw [wtS_none, HL.out]; omega⟩⟩, by (repeat' (first | (with_reducible exact Below.refl _ _) | (with_reducible refine Below.alloc ?_ ?_ _) | (with_reducible refine Below.setCell ?_ ?_ _) | (with_reducible refine Below.drew ?_) | (refine below_hyp (by assumption) ?_ ?_) | go_size))⟩

set_option maxHeartbeats 2000000 in
theorem L_toIntS (xs : List Int) (v : Value) (w : World) (hv : Sl 1 rInt 0 w v xs) (hs : xs.length ≤ 1048576) :
    Calls Try.prog 70 #[v] w fun e w' => (∃ v', e = .returned v' ∧ Sl 1 rInt w.heap.size w' v' xs) ∧ Below w.heap.size w w' := by
  obtain ⟨a, len, cap, rfl, hl, h1, h2, h3⟩ := id hv
  have hs' : len ≤ 1048576 := by omega
  have hmk := make_rows (P := Try.prog) w 25 3 (.int .i64 0) 1 8 (by kernel_rfl) (by kernel_rfl) (by omega) len hs'
  have hP := Part.start (k := 1) (R := rInt) (w := w) (len := len) (xs := xs) (Value.cells (.int .i64 0)) 3
  have hB : Below w.heap.size w (w.alloc (.cells (madeCells (Value.cells (.int .i64 0)) (len * 1)) 3)) := by (repeat' (first | (with_reducible exact Below.refl _ _) | (with_reducible refine Below.alloc ?_ ?_ _) | (with_reducible refine Below.setCell ?_ ?_ _) | (with_reducible refine Below.drew ?_) | (refine below_hyp (by assumption) ?_ ?_) | go_size))
  have m1 : len ≤ 9223372036854775807 := by omega
  have m2 : len ≤ maxLen := by unfold maxLen; omega
  have hsz : (w.alloc (.cells (madeCells (Value.cells (.int .i64 0)) (len * 1)) 3)).heap.size = w.heap.size + 1 := by simp
  generalize w.alloc (.cells (madeCells (Value.cells (.int .i64 0)) (len * 1)) 3) = wm at *
  have HL := Lib.hid hl
  have H1 := Lib.hid h1
  have HS := Lib.hid hs'
  have M2 := Lib.hid m2
  clear h2 hl h1 hs hs' m2
  refine calls_hide fun R HR => ?_
  go_enter Try.func70, Try.ntmps70
  go_wp2_with fail
  go_loopw [4] (fun i wr => ∃ k : Nat, k ≤ len ∧ i = .int .i64 k ∧ Below w.heap.size w wr ∧ Part 1 rInt wr w.heap.size len k xs) (fun i _ => len - (intOf i).toNat)
  case atStart => exact ⟨0, Nat.zero_le _, rfl, hB, hP⟩
  case round =>
    clear hmk hP hB hsz
    obtain ⟨k, hk, rfl, hb, hp⟩ := hrel
    by_cases hlt : k < len
    · obtain ⟨b, off, rfl, hlo, hbl, hr⟩ := h3.stays rInt_good (Keeps.of_below hb) (by omega)
      obtain ⟨x, cs, e0, e1, e2, e3⟩ := hr k hlt
      cases e3
      have q1 : wr.cell? ⟨b, off + k, none⟩ = some (.int .i64 x) := by have := e2 0 _ rfl; rwa [Nat.mul_one] at this
      have hbx := hb.size
      have hpl := hp.lt
      clear e1 e2 hr
      have hp' := hp
      have t00 := hp'.there (k * 1) (by omega)
      rw [Nat.zero_add] at t00
      rw [Nat.mul_one] at t00
      obtain ⟨u00, hu0⟩ := Option.isSome_iff_exists.1 t00.1
      have hf0 := t00.2
      clear t00
      have h7 := hp'.step rInt_good hlt e0 (cs := [.int .i64 x]) rfl rfl
      simp only [World.setCells, Nat.mul_one] at h7
      have H7 := Lib.hid h7
      clear h7
      go_wp2
      go_roundw
      case measure => simp [intOf]; omega
      case rel => exact ⟨k + 1, by omega, by go_num, by (repeat' (first | (with_reducible exact Below.refl _ _) | (with_reducible refine Below.alloc ?_ ?_ _) | (with_reducible refine Below.setCell ?_ ?_ _) | (with_reducible refine Below.drew ?_) | (refine below_hyp (by assumption) ?_ ?_) | go_size)), H7.out⟩
    · obtain rfl : k = len := by omega
      go_wp2
      all_goals (try go_returns)
      all_goals exact HR.out _ _ ⟨⟨_, rfl, hp.done rInt_good HL.out M2.out⟩, by (repeat' (first | (with_reducible exact Below.refl _ _) | (with_reducible refine Below.alloc ?_ ?_ _) | (with_reducible refine Below.setCell ?_ ?_ _) | (with_reducible refine Below.drew ?_) | (refine below_hyp (by assumption) ?_ ?_) | go_size))⟩

set_option maxHeartbeats 2000000 in
theorem L_eqIntS (xs : List Int) (v v' : Value) (w : World) (hv : Sl 1 rInt 0 w v xs) (hv' : Sl 1 rInt 0 w v' xs) :
    Calls Try.prog 74 #[v, v'] w fun e w' => e = .returned (.bool true) ∧ Below w.heap.size w w' := by
  obtain ⟨a, len, cap, rfl, hl, h1, h2, h3⟩ := id hv
  obtain ⟨a', len', cap', rfl, hl', h1', h2', h3'⟩ := id hv'
  obtain rfl : len' = len := hl'.symm.trans hl
  have m1 : len' ≤ 9223372036854775807 := by unfold maxLen at h2; omega
  have HL := Lib.hid hl
  have H1 := Lib.hid h1
  have H1' := Lib.hid h1'
  clear h2 h2' hl hl' h1 h1'
  refine calls_hide fun R HR => ?_
  go_enter Try.func74, Try.ntmps74
  go_wp2_with fail
  go_loopw [5] (fun i wr => ∃ k : Nat, k ≤ len' ∧ i = .int .i64 k ∧ Below w.heap.size w wr) (fun i _ => len' - (intOf i).toNat)
  case atStart => exact ⟨0, Nat.zero_le _, rfl, by (repeat' (first | (with_reducible exact Below.refl _ _) | (with_reducible refine Below.alloc ?_ ?_ _) | (with_reducible refine Below.setCell ?_ ?_ _) | (with_reducible refine Below.drew ?_) | (refine below_hyp (by assumption) ?_ ?_) | go_size))⟩
  case round =>
    obtain ⟨k, hk, rfl, hb⟩ := hrel
    by_cases hlt : k < len'
    · obtain ⟨b, off, rfl, hlo, hbl, hr⟩ := h3.stays rInt_good (Keeps.of_below hb) (by omega)
      obtain ⟨b', off', rfl, hlo', hbl', hr'⟩ := h3'.stays rInt_good (Keeps.of_below hb) (by omega)
      obtain ⟨x, cs, e0, e1, e2, e3⟩ := hr k hlt
      obtain ⟨x', cs', e0', e1', e2', e3'⟩ := hr' k hlt
      obtain rfl : x = x' := Option.some.inj (e0.symm.trans e0')
      cases e3
      cases e3'
      go_wp2_with fail
      have q1 : ∀ W, Below wr.heap.size wr W → W.cell? ⟨b, off + k, none⟩ = some (.int .i64 x) := fun W hW => by have := range_below e2 hW hbl 0 _ rfl; rwa [Nat.mul_one] at this
      have o1 : ∀ W, Below wr.heap.size wr W → W.cell? ⟨b', off' + k, none⟩ = some (.int .i64 x) := fun W hW => by have := range_below e2' hW hbl' 0 _ rfl; rwa [Nat.mul_one] at this
      clear e1 e2 e1' e2' hr hr'
      have hbx := hb.size
      have keepA : ∀ x x' : World, Below x.heap.size x x' → Below wr.heap.size wr x → Below wr.heap.size wr x' := fun x x' hb e => keep_below hb e (Nat.le_refl _)
      go_region_held3 (fun x => Below wr.heap.size wr x) (first | exact (Below.refl _ _).drew | exact keepA _ _ (by assumption) (by assumption)) (fail)
      rename_i wA hA
      have hz := hA.size
      clear q1 o1 keepA
      go_wp2
      go_roundw
      case measure => simp [intOf]; omega
      case rel => exact ⟨k + 1, by omega, by go_num, hb.trans (hA.mono hbx)⟩
    · skip
      go_wp2
      all_goals (try go_returns)
      all_goals exact HR.out _ _ ⟨rfl, by (repeat' (first | (with_reducible exact Below.refl _ _) | (with_reducible refine Below.alloc ?_ ?_ _) | (with_reducible refine Below.setCell ?_ ?_ _) | (with_reducible refine Below.drew ?_) | (refine below_hyp (by assumption) ?_ ?_) | go_size))⟩

set_option maxHeartbeats 2000000 in
theorem L_szLodRef (x : DLodRef) (l : Int) (w : World) (b1 : x.fName.size ≤ maxLen) (hl : 0 ≤ l ∧ l ≤ 1048576) :
    Calls Try.prog 86 #[.agg #[.int .i64 x.fKeeper, .string x.fName], .int .i64 l] w fun e w' => (∃ r : Int, e = .returned (.int .i64 r) ∧ (r = -1 ∨ (0 ≤ r ∧ r + wtLodRef x ≤ l))) ∧ Below w.heap.size w w' := by
  have m1 : x.fName.size ≤ 9223372036854775807 := by unfold maxLen at b1; omega
  obtain ⟨hl1, hl2⟩ := hl
  refine calls_hide fun R HR => ?_
  go_enter Try.func86, Try.ntmps86
  go_wp2
  all_goals (try go_returns)
  all_goals exact HR.out _ _ ⟨⟨_, rfl, by first | exact Or.inl rfl | exact Or.inr ⟨by omega, by unfold wtLodRef; omega⟩⟩, by (repeat' (first | (with_reducible exact Below.refl _ _) | (with_reducible refine Below.alloc ?_ ?_ _) | (with_reducible refine Below.setCell ?_ ?_ _) | (with_reducible refine Below.drew ?_) | (refine below_hyp (by assumption) ?_ ?_) | go_size))⟩

set_option maxHeartbeats 2000000 in
theorem L_toLodRef (x : DLodRef) (w : World) :
    Calls Try.prog 89 #[.agg #[.int .i64 x.fKeeper, .string x.fName]] w fun e w' => e = .returned (.agg #[.int .i64 x.fKeeper, .string x.fName]) ∧ Below w.heap.size w w' := by
  refine calls_hide fun R HR => ?_
  go_enter Try.func89, Try.ntmps89
  go_wp2
  all_goals
    refine bodyPost_ret (v := ?_) ?hrun rfl ?_
    case hrun => (simp only [results, Try.results89]; go_simp; first | done | exact rfl)
    exact HR.out _ _ ⟨rfl, by (repeat' (first | (with_reducible exact Below.refl _ _) | (with_reducible refine Below.alloc ?_ ?_ _) | (with_reducible refine Below.setCell ?_ ?_ _) | (with_reducible refine Below.drew ?_) | (refine below_hyp (by assumption) ?_ ?_) | go_size))⟩

set_option maxHeartbeats 2000000 in
theorem L_eqLodRef (x : DLodRef) (w : World) :
    Calls Try.prog 92 #[.agg #[.int .i64 x.fKeeper, .string x.fName], .agg #[.int .i64 x.fKeeper, .string x.fName]] w fun e w' => e = .returned (.bool true) ∧ Below w.heap.size w w' := by
  refine calls_hide fun R HR => ?_
  go_enter Try.func92, Try.ntmps92
  go_wp2
  all_goals (try go_returns)
  all_goals exact HR.out _ _ ⟨rfl, by (repeat' (first | (with_reducible exact Below.refl _ _) | (with_reducible refine Below.alloc ?_ ?_ _) | (with_reducible refine Below.setCell ?_ ?_ _) | (with_reducible refine Below.drew ?_) | (refine below_hyp (by assumption) ?_ ?_) | go_size))⟩

set_option maxHeartbeats 2000000 in
theorem L_szLnkMethod (x : DLnkMethod) (l : Int) (w : World) (b1 : x.fOf.fName.size ≤ maxLen) (hl : 0 ≤ l ∧ l ≤ 1048576) :
    Calls Try.prog 84 #[.agg #[.int .i64 x.fOf.fKeeper, .string x.fOf.fName, .int .i64 x.fAt], .int .i64 l] w fun e w' => (∃ r : Int, e = .returned (.int .i64 r) ∧ (r = -1 ∨ (0 ≤ r ∧ r + wtLnkMethod x ≤ l))) ∧ Below w.heap.size w w' := by
  have m1 : x.fOf.fName.size ≤ 9223372036854775807 := by unfold maxLen at b1; omega
  obtain ⟨hl1, hl2⟩ := hl
  refine calls_hide fun R HR => ?_
  go_enter Try.func84, Try.ntmps84
  go_wp2_with fail
  all_goals first
    | (try go_returns
       exact HR.out _ _ ⟨⟨_, rfl, by first | exact Or.inl rfl | exact Or.inr ⟨by omega, by unfold wtLnkMethod; omega⟩⟩, by (repeat' (first | (with_reducible exact Below.refl _ _) | (with_reducible refine Below.alloc ?_ ?_ _) | (with_reducible refine Below.setCell ?_ ?_ _) | (with_reducible refine Below.drew ?_) | (refine below_hyp (by assumption) ?_ ?_) | go_size))⟩)
    | skip
  refine (L_szLodRef x.fOf _ _ b1 ⟨by omega, by omega⟩).mono ?_
  rintro _ w1 ⟨⟨r1, rfl, hr1⟩, g1⟩
  have g1s := (g1).size; (try simp only [World.size_alloc, World.size_setCell, World.size_drew] at g1s)
  obtain ⟨g1ac, g1ad, g1ao, g1af, g1ag, g1ap, g1az, g1ax, g1ay⟩ := bfacts (n := w.heap.size) (k := 1) g1 (by go_size) (by go_size); replace g1ad := g1ad (by decide); replace g1ag := g1ag (by decide); replace g1ax := g1ax (by decide); clear g1ac g1af g1az
  rcases hr1 with rfl | ⟨ra1, rb1⟩
  · go_wp2
    all_goals (try go_returns)
    all_goals exact HR.out _ _ ⟨⟨_, rfl, by first | exact Or.inl rfl | exact Or.inr ⟨by omega, by unfold wtLnkMethod; omega⟩⟩, by (repeat' (first | (with_reducible exact Below.refl _ _) | (with_reducible refine Below.alloc ?_ ?_ _) | (with_reducible refine Below.setCell ?_ ?_ _) | (with_reducible refine Below.drew ?_) | (refine below_hyp (by assumption) ?_ ?_) | go_size))⟩
  have rn1 : ¬ r1 < 0 := by omega
  go_wp2
  all_goals (try go_returns)
  all_goals exact HR.out _ _ ⟨⟨_, rfl, by first | exact Or.inl rfl | exact Or.inr ⟨by omega, by unfold wtLnkMethod; omega⟩⟩, by (repeat' (first | (with_reducible exact Below.refl _ _) | (with_reducible refine Below.alloc ?_ ?_ _) | (with_reducible refine Below.setCell ?_ ?_ _) | (with_reducible refine Below.drew ?_) | (refine below_hyp (by assumption) ?_ ?_) | go_size))⟩

set_option maxHeartbeats 2000000 in
theorem L_toLnkMethod (x : DLnkMethod) (w : World) :
    Calls Try.prog 87 #[.agg #[.int .i64 x.fOf.fKeeper, .string x.fOf.fName, .int .i64 x.fAt]] w fun e w' => e = .returned (.agg #[.int .i64 x.fOf.fKeeper, .string x.fOf.fName, .int .i64 x.fAt]) ∧ Below w.heap.size w w' := by
  refine calls_hide fun R HR => ?_
  go_enter Try.func87, Try.ntmps87
  go_wp2_with fail
  refine (L_toLodRef x.fOf _).mono ?_
  rintro _ w1 ⟨rfl, g1⟩
  have g1s := (g1).size; (try simp only [World.size_alloc, World.size_setCell, World.size_drew] at g1s)
  obtain ⟨g1ac, g1ad, g1ao, g1af, g1ag, g1ap, g1az, g1ax, g1ay⟩ := bfacts (n := w.heap.size) (k := 3) g1 (by go_size) (by go_size); replace g1ad := g1ad (by decide); replace g1ag := g1ag (by decide); replace g1ax := g1ax (by decide); have g1ac1 := fun o => g1ac 1 o (by decide); have g1af1 := fun o => g1af 1 o (by decide); have g1az1 := g1az 1 (by decide); have g1ac2 := fun o => g1ac 2 o (by decide); have g1af2 := fun o => g1af 2 o (by decide); have g1az2 := g1az 2 (by decide); clear g1ac g1af g1az
  go_wp2
  all_goals
    refine bodyPost_ret (v := ?_) ?hrun rfl ?_
    case hrun => (simp only [results, Try.results87]; go_simp; first | done | exact rfl)
    exact HR.out _ _ ⟨rfl, by (repeat' (first | (with_reducible exact Below.refl _ _) | (with_reducible refine Below.alloc ?_ ?_ _) | (with_reducible refine Below.setCell ?_ ?_ _) | (with_reducible refine Below.drew ?_) | (refine below_hyp (by assumption) ?_ ?_) | go_size))⟩

set_option maxHeartbeats 2000000 in
theorem L_eqLnkMethod (x : DLnkMethod) (w : World) :
    Calls Try.prog 90 #[.agg #[.int .i64 x.fOf.fKeeper, .string x.fOf.fName, .int .i64 x.fAt], .agg #[.int .i64 x.fOf.fKeeper, .string x.fOf.fName, .int .i64 x.fAt]] w fun e w' => e = .returned (.bool true) ∧ Below w.heap.size w w' := by
  refine calls_hide fun R HR => ?_
  go_enter Try.func90, Try.ntmps90
  go_wp2_with fail
  refine (L_eqLodRef x.fOf _).mono ?_
  rintro _ w1 ⟨rfl, g1⟩
  have g1s := (g1).size; (try simp only [World.size_alloc, World.size_setCell, World.size_drew] at g1s)
  obtain ⟨g1ac, g1ad, g1ao, g1af, g1ag, g1ap, g1az, g1ax, g1ay⟩ := bfacts (n := w.heap.size) (k := 2) g1 (by go_size) (by go_size); replace g1ad := g1ad (by decide); replace g1ag := g1ag (by decide); replace g1ax := g1ax (by decide); have g1ac1 := fun o => g1ac 1 o (by decide); have g1af1 := fun o => g1af 1 o (by decide); have g1az1 := g1az 1 (by decide); clear g1ac g1af g1az
  go_wp2
  all_goals (try go_returns)
  all_goals exact HR.out _ _ ⟨rfl, by (repeat' (first | (with_reducible exact Below.refl _ _) | (with_reducible refine Below.alloc ?_ ?_ _) | (with_reducible refine Below.setCell ?_ ?_ _) | (with_reducible refine Below.drew ?_) | (refine below_hyp (by assumption) ?_ ?_) | go_size))⟩

end Go.Proofs.Ytchhappoidncjaa
