

/-
  The walks of the drawing reader: l20Open makes one, pick gives a number in its range and moves on, odd a bool. Condition: the reader has been moved on fewer than 1,000,000 times.
-/
import Derived.Test.YtmbfpbgkchncgaaDoorName
import Derived.Deep.QuietTactic
import Derived.BigQuiet
import Derived.StillTailTactics
import Derived.IntWalk
namespace Go.Proofs.YtmbfpbgkchncgaaDoor
set_option linter.unusedSimpArgs false
set_option linter.unusedVariables false
open Go.RowKit

/-- the reader in block r, moved on p times -/
def Rd (w : World) (r p : Nat) : Prop :=
  r < w.heap.size ∧ ∃ (a : Option Addr) (len cap : Nat), w.cell? ⟨r, 0, none⟩ = some (.slice a len cap) ∧ w.cell? ⟨r, 1, none⟩ = some (.int .i64 p) ∧ w.frozen? ⟨r, 1, none⟩ = false ∧ len ≤ 2000 ∧ (0 < len → ∃ b off, a = some ⟨b, off, none⟩ ∧ b < r ∧ ∀ i, i < len → ∃ c : Nat, c < 256 ∧ w.cell? ⟨b, off + i, none⟩ = some (.int .u8 c))

/-- below block B nothing but block r turned -/
structure Ex (r B : Nat) (w w' : World) : Prop where
  os : w'.os = w.os
  tape : w'.tape = w.tape
  output : w'.output = w.output
  size : w.heap.size ≤ w'.heap.size
  block : ∀ k, k ≠ r → k < B → w'.heap[k]? = w.heap[k]?

/-- the exclusive or of two small numbers that are not negative is none, too -/
theorem xor_small (a b : Nat) (ha : a < 4611686018427387904) (hb : b < 4611686018427387904) : 0 ≤ bits .xor .i64 (a : Int) (b : Int) := by
  have hx : a ^^^ b < 2 ^ 62 := Nat.xor_lt_two_pow (by omega) (by omega)
  have h1 : (BitVec.ofInt 64 (a : Int)).toNat = a := by simp [BitVec.toNat_ofInt]; omega
  have h2 : (BitVec.ofInt 64 (b : Int)).toNat = b := by simp [BitVec.toNat_ofInt]; omega
  show 0 ≤ IntKind.i64.wrap ((BitVec.ofInt 64 (a : Int) ^^^ BitVec.ofInt 64 (b : Int)).toNat : Int)
  rw [BitVec.toNat_xor, h1, h2, IntKind.wrap_i64]
  omega

/-- what pick may give -/
def InPick (n x : Int) : Prop := 0 ≤ x ∧ (1 ≤ n → x < n) ∧ (n < 1 → x = 0)

set_option maxHeartbeats 400000 in
theorem S_pick_low (r p : Nat) (n : Int) (a : Option Addr) (len cap : Nat) (w : World) (hp : p < 1000000) (hn : n < 1)
    (h0 : w.cell? ⟨r, 0, none⟩ = some (.slice a len cap)) (h1 : w.cell? ⟨r, 1, none⟩ = some (.int .i64 p)) (hf : w.frozen? ⟨r, 1, none⟩ = false) :
    Calls Tryd.prog 17 #[.pointer (some ⟨r, 0, none⟩), .int .i64 n] w fun e w' => e = .returned (.int .i64 0) ∧ w' = w.setCell ⟨r, 1, none⟩ (.int .i64 (p + 1)) := by
  refine calls_hide fun R HR => ?_
  go_enter Tryd.func17, Tryd.ntmps17
  go_wp2
  all_goals (try go_returns)
  all_goals exact HR.out _ _ ⟨rfl, rfl⟩

set_option maxHeartbeats 400000 in
theorem S_pick_none (r p : Nat) (n : Int) (a : Option Addr) (cap : Nat) (w : World) (hp : p < 1000000) (hn : 1 ≤ n)
    (h0 : w.cell? ⟨r, 0, none⟩ = some (.slice a 0 cap)) (h1 : w.cell? ⟨r, 1, none⟩ = some (.int .i64 p)) (hf : w.frozen? ⟨r, 1, none⟩ = false) :
    Calls Tryd.prog 17 #[.pointer (some ⟨r, 0, none⟩), .int .i64 n] w fun e w' => e = .returned (.int .i64 0) ∧ w' = w.setCell ⟨r, 1, none⟩ (.int .i64 (p + 1)) := by
  have hn' : decide (n < 1) = false := by simp; omega
  refine calls_hide fun R HR => ?_
  go_enter Tryd.func17, Tryd.ntmps17
  go_wp2
  all_goals (try go_returns)
  all_goals exact HR.out _ _ ⟨rfl, rfl⟩

set_option maxHeartbeats 400000 in
theorem S_pick_in (r p : Nat) (n : Int) (b off len cap : Nat) (c : Nat) (w : World) (hp : p < 1000000) (hn : 1 ≤ n) (hn2 : n ≤ 9223372036854775807)
    (h0 : w.cell? ⟨r, 0, none⟩ = some (.slice (some ⟨b, off, none⟩) len cap)) (h1 : w.cell? ⟨r, 1, none⟩ = some (.int .i64 p)) (hf : w.frozen? ⟨r, 1, none⟩ = false) (hl : p < len) (hl2 : len ≤ 2000)
    (hb : b < r) (hc : w.cell? ⟨b, off + p, none⟩ = some (.int .u8 c)) (hc2 : c < 256) :
    Calls Tryd.prog 17 #[.pointer (some ⟨r, 0, none⟩), .int .i64 n] w fun e w' => e = .returned (.int .i64 ((c : Int) % n)) ∧ w' = w.setCell ⟨r, 1, none⟩ (.int .i64 (p + 1)) := by
  have hn' : decide (n < 1) = false := by simp; omega
  have hl' : ((len : Int) == 0) = false := by simp; omega
  have hbr : b ≠ r := by omega
  refine calls_hide fun R HR => ?_
  go_enter Tryd.func17, Tryd.ntmps17
  go_wp2
  all_goals (try go_returns)
  all_goals exact HR.out _ _ ⟨rfl, rfl⟩

set_option maxHeartbeats 400000 in
theorem S_pick_past (r p : Nat) (n : Int) (b off len cap : Nat) (c d : Nat) (w : World) (hp : p < 1000000) (hn : 1 ≤ n) (hn2 : n ≤ 9223372036854775807)
    (h0 : w.cell? ⟨r, 0, none⟩ = some (.slice (some ⟨b, off, none⟩) len cap)) (h1 : w.cell? ⟨r, 1, none⟩ = some (.int .i64 p)) (hf : w.frozen? ⟨r, 1, none⟩ = false) (hl : len ≤ p) (hl0 : 0 < len) (hl2 : len ≤ 2000)
    (hb : b < r) (hc : w.cell? ⟨b, off + ((p : Int) % (len : Int)).toNat, none⟩ = some (.int .u8 c)) (hc2 : c < 256) (hd : w.cell? ⟨b, off + (((p : Int) * 7 + 3) % (len : Int)).toNat, none⟩ = some (.int .u8 d)) (hd2 : d < 256) :
    Calls Tryd.prog 17 #[.pointer (some ⟨r, 0, none⟩), .int .i64 n] w fun e w' => (∃ x : Int, InPick n x ∧ e = .returned (.int .i64 x)) ∧ ∃ q, w' = (w.setCell ⟨r, 1, none⟩ (.int .i64 (p + 1))).drewN q := by
  have hn' : decide (n < 1) = false := by simp; omega
  have hl' : ((len : Int) == 0) = false := by simp; omega
  have hbr : b ≠ r := by omega
  have l1 : 0 ≤ (p : Int) % (len : Int) := Int.emod_nonneg _ (by omega)
  have l2 : (p : Int) % (len : Int) < len := Int.emod_lt_of_pos _ (by omega)
  have l3 : 0 ≤ ((p : Int) * 7 + 3) % (len : Int) := Int.emod_nonneg _ (by omega)
  have l4 : ((p : Int) * 7 + 3) % (len : Int) < len := Int.emod_lt_of_pos _ (by omega)
  have hne : ¬ len = 0 := by omega
  have m1 : 0 ≤ (p : Int) / (len : Int) := Int.ediv_nonneg (by omega) (by omega)
  have m2 : (p : Int) / (len : Int) ≤ p := Int.ediv_le_self _ (by omega)
  have t1 : Int.tmod (p : Int) (len : Int) = (p : Int) % len := Int.tmod_eq_emod_of_nonneg (by omega)
  have t2 : Int.tmod ((p : Int) * 7 + 3) (len : Int) = ((p : Int) * 7 + 3) % len := Int.tmod_eq_emod_of_nonneg (by omega)
  have t3 : Int.tdiv (p : Int) (len : Int) = (p : Int) / len := Int.tdiv_eq_ediv_of_nonneg (by omega)
  have v1 : IntKind.i64.wrap ((p : Int) * 7) = (p : Int) * 7 := IntWalk.i64_in _ (by omega)
  have v2 : IntKind.i64.wrap ((p : Int) * 7 + 3) = (p : Int) * 7 + 3 := IntWalk.i64_in _ (by omega)
  have v3 : IntKind.i64.wrap ((c : Int) * 131) = (c : Int) * 131 := IntWalk.i64_in _ (by omega)
  have v4 : IntKind.i64.wrap ((d : Int) * 1117) = (d : Int) * 1117 := IntWalk.i64_in _ (by omega)
  have v5 : IntKind.i64.wrap ((c : Int) * 131 + (d : Int) * 1117) = (c : Int) * 131 + (d : Int) * 1117 := IntWalk.i64_in _ (by omega)
  have v6 : IntKind.i64.wrap ((p : Int) * 29) = (p : Int) * 29 := IntWalk.i64_in _ (by omega)
  have v7 : IntKind.i64.wrap ((c : Int) * 131 + (d : Int) * 1117 + (p : Int) * 29) = (c : Int) * 131 + (d : Int) * 1117 + (p : Int) * 29 := IntWalk.i64_in _ (by omega)
  have v8 : IntKind.i64.wrap ((p : Int) / (len : Int)) = (p : Int) / (len : Int) := IntWalk.i64_in _ (by omega)
  have v9 : IntKind.i64.wrap ((p : Int) / (len : Int) * 53) = (p : Int) / (len : Int) * 53 := IntWalk.i64_in _ (by omega)
  have va : IntKind.i64.wrap ((c : Int) * 131 + (d : Int) * 1117 + (p : Int) * 29 + (p : Int) / (len : Int) * 53) = (c : Int) * 131 + (d : Int) * 1117 + (p : Int) * 29 + (p : Int) / (len : Int) * 53 := IntWalk.i64_in _ (by omega)
  obtain ⟨X, hX⟩ : ∃ X : Nat, (X : Int) = (c : Int) * 131 + (d : Int) * 1117 + (p : Int) * 29 + (p : Int) / (len : Int) * 53 := ⟨((c : Int) * 131 + (d : Int) * 1117 + (p : Int) * 29 + (p : Int) / (len : Int) * 53).toNat, by omega⟩
  have hXx : 0 ≤ bits .xor .i64 ((c : Int) * 131 + (d : Int) * 1117 + (p : Int) * 29 + (p : Int) / (len : Int) * 53) (((c : Int) * 131 + (d : Int) * 1117 + (p : Int) * 29 + (p : Int) / (len : Int) * 53) / 64) := by
    rw [← hX, show (X : Int) / 64 = ((X / 64 : Nat) : Int) from by simp]
    exact xor_small _ _ (by omega) (by omega)
  clear hX
  refine calls_hide fun R HR => ?_
  go_enter Tryd.func17, Tryd.ntmps17
  go_wp2_with fail
  go_quiet (fail)
  clear t1 t2 t3 v1 v2 v3 v4 v5 v6 v7 v8 v9 va
  go_wp2_with fail
  all_goals (try go_returns)
  all_goals exact HR.out _ _ ⟨⟨_, ⟨Int.emod_nonneg _ (by omega), fun _ => Int.emod_lt_of_pos _ (by omega), fun _ => by omega⟩, rfl⟩, ⟨_, rfl⟩⟩

theorem toNat_mod (a b : Nat) : ((a : Int) % (b : Int)).toNat = a % b := by
  have h : (a : Int) % (b : Int) = ((a % b : Nat) : Int) := by simp
  rw [h, Int.toNat_natCast]
theorem Ex.refl (r B : Nat) (w : World) : Ex r B w w := ⟨rfl, rfl, rfl, Nat.le_refl _, fun _ _ _ => rfl⟩
theorem Ex.trans {r B : Nat} {a b c : World} (h : Ex r B a b) (k : Ex r B b c) : Ex r B a c :=
  ⟨k.os.trans h.os, k.tape.trans h.tape, k.output.trans h.output, Nat.le_trans h.size k.size, fun i hi hl => (k.block i hi hl).trans (h.block i hi hl)⟩
theorem Ex.mono {r B B1 : Nat} {a b : World} (h : Ex r B1 a b) (hB : B ≤ B1) : Ex r B a b := ⟨h.os, h.tape, h.output, h.size, fun k hk hl => h.block k hk (by omega)⟩
theorem ex_hyp {r B B1 : Nat} {w w1 w' : World} (h : Ex r B1 w1 w') (k : Ex r B w w1) (hB : B ≤ B1) : Ex r B w w' := k.trans (h.mono hB)
theorem ex_below {r B B1 : Nat} {w w1 w' : World} (h : Below B1 w1 w') (k : Ex r B w w1) (hB : B ≤ B1) : Ex r B w w' := k.trans ⟨h.os, h.tape, h.output, h.size, fun k _ hl => h.block k (by omega)⟩
theorem Ex.below {r B : Nat} {a b : World} (h : Ex r B a b) (hB : B ≤ r) : Below B a b := ⟨h.os, h.tape, h.output, h.size, fun k hk => h.block k (by omega) hk⟩
theorem below_ex {r B B1 : Nat} {w w1 w' : World} (h : Ex r B1 w1 w') (k : Below B w w1) (hB : B ≤ B1) (hr : B ≤ r) : Below B w w' := k.trans ((h.mono hB).below hr)
theorem Ex.alloc {r B : Nat} {w a : World} (h : Ex r B w a) (hB : B ≤ a.heap.size) (o : Obj) : Ex r B w (a.alloc o) :=
  h.trans ⟨rfl, rfl, rfl, by simp, fun k _ hk => Below.heap_alloc _ _ _ (by omega)⟩
theorem Ex.setCell {r B : Nat} {w a : World} (h : Ex r B w a) {p : Addr} (hp : B ≤ p.block) (u : Value) : Ex r B w (a.setCell p u) :=
  h.trans ⟨rfl, rfl, rfl, by simp [World.setCell], fun k _ hk => Below.heap_setCell _ _ _ _ (by omega)⟩
theorem Ex.drew {r B : Nat} {w a : World} (h : Ex r B w a) : Ex r B w a.drew := ⟨h.os, h.tape, h.output, h.size, h.block⟩
theorem Ex.drewN {r B : Nat} {w a : World} (h : Ex r B w a) (q : Nat) : Ex r B w (a.drewN q) := ⟨h.os, h.tape, h.output, h.size, h.block⟩
theorem Ex.setDrewN (r p q : Nat) (w : World) (v : Value) (B : Nat) : Ex r B w ((w.setCell ⟨r, p, none⟩ v).drewN q) :=
  ⟨rfl, rfl, rfl, by show w.heap.size ≤ (w.setCell _ v).heap.size; simp [World.setCell], fun k hk _ => Below.heap_setCell _ _ _ _ hk⟩

/-- Behind a call that moves the reader in block r: what else was there reads as it did, in the walk's form. -/
theorem efacts {W w1 : World} {r B n k : Nat} (hb : Ex r B W w1) (hB : n + k ≤ B) (hs : B ≤ W.heap.size) (hr : r < n ∨ n + k ≤ r) :
    (∀ j o, j < k → w1.cell? ⟨n + j, o, none⟩ = W.cell? ⟨n + j, o, none⟩) ∧ (0 < k → ∀ o, w1.cell? ⟨n, o, none⟩ = W.cell? ⟨n, o, none⟩) ∧
    (∀ j o, j < k → w1.frozen? ⟨n + j, o, none⟩ = W.frozen? ⟨n + j, o, none⟩) ∧ (0 < k → ∀ o, w1.frozen? ⟨n, o, none⟩ = W.frozen? ⟨n, o, none⟩) ∧
    (∀ j, j < k → n + j < w1.heap.size) ∧ (0 < k → n < w1.heap.size) ∧ (∀ b, b < n → b < w1.heap.size) := by
  have hz := hb.size
  have hc : ∀ b, b ≠ r → b < B → w1.heap[b]? = W.heap[b]? := hb.block
  refine ⟨fun j o h => cell_of_heap (hc _ ?_ ?_), fun h o => cell_of_heap (hc _ ?_ ?_), fun j o h => frozen_of_heap (hc _ ?_ ?_), fun h o => frozen_of_heap (hc _ ?_ ?_), fun j h => ?_, fun h => ?_, fun b h => ?_⟩
  all_goals first | omega | (simp; omega)


/-- the reader stays where nothing of it turns -/
theorem Rd.stay {w w' : World} {r p : Nat} (h : Rd w r p) (hs : w.heap.size ≤ w'.heap.size) (hb : ∀ k, k ≤ r → w'.heap[k]? = w.heap[k]?) : Rd w' r p := by
  obtain ⟨h0, a, len, cap, h1, h2, h3, h4, h5⟩ := h
  refine ⟨by omega, a, len, cap, (cell_of_heap (hb r (Nat.le_refl _))).trans h1, (cell_of_heap (hb r (Nat.le_refl _))).trans h2, (frozen_of_heap (hb r (Nat.le_refl _))).trans h3, h4, fun hl => ?_⟩
  obtain ⟨b, off, rfl, hbr, hc⟩ := h5 hl
  exact ⟨b, off, rfl, hbr, fun i hi => by obtain ⟨c, hc1, hc2⟩ := hc i hi; exact ⟨c, hc1, (cell_of_heap (hb b (by omega))).trans hc2⟩⟩

theorem Rd.moved {w : World} {r p q : Nat} (h : Rd w r p) : Rd ((w.setCell ⟨r, 1, none⟩ (.int .i64 ((p : Int) + 1))).drewN q) r (p + 1) := by
  obtain ⟨h0, a, len, cap, h1, h2, h3, h4, h5⟩ := h
  refine ⟨by show r < (w.setCell _ _).heap.size; simpa [World.setCell] using h0, a, len, cap, ?_, ?_, ?_, h4, fun hl => ?_⟩
  · show (w.setCell _ _).cell? _ = _
    rw [World.cell?_setCell_other _ _ _ _ (by simp)]; exact h1
  · show (w.setCell _ _).cell? _ = _
    rw [World.cell?_setCell_same _ _ _ h2]; simp
  · show (w.setCell _ _).frozen? _ = _
    rw [World.frozen?_setCell]; exact h3
  · obtain ⟨b, off, rfl, hbr, hc⟩ := h5 hl
    exact ⟨b, off, rfl, hbr, fun i hi => by
      obtain ⟨c, hc1, hc2⟩ := hc i hi
      exact ⟨c, hc1, (show (w.setCell _ _).cell? _ = _ by rw [World.cell?_setCell_other _ _ _ _ (by intro h; simp at h <;> omega)]; exact hc2)⟩⟩

theorem Rd.lt {w : World} {r p : Nat} (h : Rd w r p) : r < w.heap.size := h.1
theorem Rd.alloc {w : World} {r p : Nat} (h : Rd w r p) (o : Obj) : Rd (w.alloc o) r p :=
  h.stay (by simp) fun k hk => Below.heap_alloc _ _ _ (by have := h.1; omega)
theorem Rd.setCell {w : World} {r p : Nat} (h : Rd w r p) {a : Addr} (ha : r < a.block) (v : Value) : Rd (w.setCell a v) r p :=
  h.stay (by simp [World.setCell]) fun k hk => Below.heap_setCell _ _ _ _ (by omega)
theorem Rd.drew {w : World} {r p : Nat} (h : Rd w r p) : Rd w.drew r p := h.stay (Nat.le_refl _) fun k hk => rfl
theorem Rd.drewN {w : World} {r p : Nat} (h : Rd w r p) (q : Nat) : Rd (w.drewN q) r p := h.stay (Nat.le_refl _) fun k hk => rfl
theorem rd_below {w1 w' : World} {r p B : Nat} (hb : Below B w1 w') (h : Rd w1 r p) (hB : r < B) : Rd w' r p := h.stay hb.size fun k hk => hb.block k (by omega)

/-- pick: a number in its range; the reader is moved on by one, nothing else turns -/
theorem S_pick (r p : Nat) (n : Int) (w : World) (hn2 : n ≤ 9223372036854775807) (hr : Rd w r p) (hp : p < 1000000) :
    Calls Tryd.prog 17 #[.pointer (some ⟨r, 0, none⟩), .int .i64 n] w fun e w' => (∃ x : Int, InPick n x ∧ e = .returned (.int .i64 x)) ∧ Rd w' r (p + 1) ∧ Ex r w.heap.size w w' := by
  have hr' := hr
  obtain ⟨h0, a, len, cap, h1, h2, h3, h4, h5⟩ := hr
  by_cases hn : n < 1
  · refine (S_pick_low r p n a len cap w hp hn h1 h2 h3).mono ?_
    rintro e w' ⟨rfl, rfl⟩
    exact ⟨⟨0, ⟨by omega, by omega, by omega⟩, rfl⟩, hr'.moved (q := 0), Ex.setDrewN r 1 0 w _ _⟩
  by_cases hl : len = 0
  · subst hl
    refine (S_pick_none r p n a cap w hp (by omega) h1 h2 h3).mono ?_
    rintro e w' ⟨rfl, rfl⟩
    exact ⟨⟨0, ⟨by omega, by omega, by omega⟩, rfl⟩, hr'.moved (q := 0), Ex.setDrewN r 1 0 w _ _⟩
  obtain ⟨b, off, rfl, hbr, hc⟩ := h5 (by omega)
  by_cases hpl : p < len
  · obtain ⟨c, hc1, hc2⟩ := hc p hpl
    refine (S_pick_in r p n b off len cap c w hp (by omega) hn2 h1 h2 h3 hpl h4 hbr hc2 hc1).mono ?_
    rintro e w' ⟨rfl, rfl⟩
    exact ⟨⟨_, ⟨Int.emod_nonneg _ (by omega), fun _ => Int.emod_lt_of_pos _ (by omega), fun _ => by omega⟩, rfl⟩, hr'.moved (q := 0), Ex.setDrewN r 1 0 w _ _⟩
  · have g1 : 0 < len := by omega
    have g2 : len ≤ p := by omega
    have g3 : 1 ≤ n := by omega
    have e1 : ((p : Int) % (len : Int)).toNat = p % len := toNat_mod p len
    have e2 : (((p : Int) * 7 + 3) % (len : Int)).toNat = (p * 7 + 3) % len := by rw [show ((p : Int) * 7 + 3) = ((p * 7 + 3 : Nat) : Int) from by omega]; exact toNat_mod _ _
    obtain ⟨c, hc1, hc2⟩ := hc (p % len) (Nat.mod_lt _ g1)
    obtain ⟨d, hd1, hd2⟩ := hc ((p * 7 + 3) % len) (Nat.mod_lt _ g1)
    refine (S_pick_past r p n b off len cap c d w hp g3 hn2 h1 h2 h3 g2 g1 h4 hbr (by rw [e1]; exact hc2) hc1 (by rw [e2]; exact hd2) hd1).mono ?_
    rintro e w' ⟨hx, q, rfl⟩
    exact ⟨hx, hr'.moved, Ex.setDrewN r 1 q w _ _⟩

end Go.Proofs.YtmbfpbgkchncgaaDoor
