

/-
  The walks of the weights, the copies and the sameness of data. Printed by gen_rep.py, a program of the prover of this repo.
-/
import Derived.Test.YtmmlhnjmjmbfpaaGreatRepE
namespace Go.Proofs.YtmmlhnjmjmbfpaaGreat
set_option linter.unusedSimpArgs false
set_option linter.unusedVariables false
open Go.RowKit

set_option maxHeartbeats 2000000 in
theorem L_szLodAsk (x : DLodAsk) (l : Int) (w : World) (b1 : x.fName.size ≤ maxLen) (hl : 0 ≤ l ∧ l ≤ 1048576) :
    Calls Tryz.prog 62 #[.agg #[.string x.fName, .int .i64 x.fKeeper], .int .i64 l] w fun e w' => (∃ r : Int, e = .returned (.int .i64 r) ∧ (r = -1 ∨ (0 ≤ r ∧ r + wtLodAsk x ≤ l))) ∧ Below w.heap.size w w' := by
  have m1 : x.fName.size ≤ 9223372036854775807 := by unfold maxLen at b1; omega
  obtain ⟨hl1, hl2⟩ := hl
  refine calls_hide fun R HR => ?_
  go_enter Tryz.func62, Tryz.ntmps62
  go_wp2
  all_goals (try go_returns)
  all_goals exact HR.out _ _ ⟨⟨_, rfl, by first | exact Or.inl rfl | exact Or.inr ⟨by omega, by unfold wtLodAsk; omega⟩⟩, by (repeat' (first | (with_reducible exact Below.refl _ _) | (with_reducible refine Below.alloc ?_ ?_ _) | (with_reducible refine Below.setCell ?_ ?_ _) | (with_reducible refine Below.drew ?_) | (refine below_hyp (by assumption) ?_ ?_) | go_size))⟩

set_option maxHeartbeats 2000000 in
theorem L_toLodAsk (x : DLodAsk) (w : World) :
    Calls Tryz.prog 64 #[.agg #[.string x.fName, .int .i64 x.fKeeper]] w fun e w' => e = .returned (.agg #[.string x.fName, .int .i64 x.fKeeper]) ∧ Below w.heap.size w w' := by
  refine calls_hide fun R HR => ?_
  go_enter Tryz.func64, Tryz.ntmps64
  go_wp2
  all_goals
    refine bodyPost_ret (v := ?_) ?hrun rfl ?_
    case hrun => (simp only [results, Tryz.results64]; go_simp; first | done | exact rfl)
    exact HR.out _ _ ⟨rfl, by (repeat' (first | (with_reducible exact Below.refl _ _) | (with_reducible refine Below.alloc ?_ ?_ _) | (with_reducible refine Below.setCell ?_ ?_ _) | (with_reducible refine Below.drew ?_) | (refine below_hyp (by assumption) ?_ ?_) | go_size))⟩

set_option maxHeartbeats 2000000 in
theorem L_eqLodAsk (x : DLodAsk) (w : World) :
    Calls Tryz.prog 72 #[.agg #[.string x.fName, .int .i64 x.fKeeper], .agg #[.string x.fName, .int .i64 x.fKeeper]] w fun e w' => e = .returned (.bool true) ∧ Below w.heap.size w w' := by
  refine calls_hide fun R HR => ?_
  go_enter Tryz.func72, Tryz.ntmps72
  go_wp2
  all_goals (try go_returns)
  all_goals exact HR.out _ _ ⟨rfl, by (repeat' (first | (with_reducible exact Below.refl _ _) | (with_reducible refine Below.alloc ?_ ?_ _) | (with_reducible refine Below.setCell ?_ ?_ _) | (with_reducible refine Below.drew ?_) | (refine below_hyp (by assumption) ?_ ?_) | go_size))⟩

set_option maxHeartbeats 2000000 in
theorem L_szLodAskS (xs : List DLodAsk) (v : Value) (l : Int) (w : World) (hv : Sl 2 rLodAsk 0 w v xs) (hl0 : 0 ≤ l ∧ l ≤ 1048576) :
    Calls Tryz.prog 46 #[v, .int .i64 l] w fun e w' => (∃ r : Int, e = .returned (.int .i64 r) ∧ (r = -1 ∨ (0 ≤ r ∧ r + wtS wtLodAsk xs ≤ l))) ∧ Below w.heap.size w w' := by
  obtain ⟨a, len, cap, rfl, hl, h1, h2, h3⟩ := id hv
  have m1 : len ≤ 9223372036854775807 := by unfold maxLen at h2; omega
  have HL := Lib.hid hl
  have H1 := Lib.hid h1
  obtain ⟨l1, l2⟩ := hl0
  clear h2 hl h1
  refine calls_hide fun R HR => ?_
  go_enter Tryz.func46, Tryz.ntmps46
  go_wp2_with fail
  all_goals first
    | (try go_returns
       exact HR.out _ _ ⟨⟨_, rfl, Or.inl rfl⟩, by (repeat' (first | (with_reducible exact Below.refl _ _) | (with_reducible refine Below.alloc ?_ ?_ _) | (with_reducible refine Below.setCell ?_ ?_ _) | (with_reducible refine Below.drew ?_) | (refine below_hyp (by assumption) ?_ ?_) | go_size))⟩)
    | skip
  go_loopw [1, 5] (fun lv i wr => ∃ (k : Nat) (c : Int), k ≤ len ∧ i = .int .i64 k ∧ lv = .int .i64 c ∧ 0 ≤ c ∧ c + (len : Int) + (((xs.take k).map wtLodAsk).sum : Nat) ≤ l ∧ Below w.heap.size w wr) (fun _ i _ => len - (intOf i).toNat)
  case atStart => exact ⟨0, _, Nat.zero_le _, rfl, rfl, by omega, by first | (simp; done) | (simp; omega), by (repeat' (first | (with_reducible exact Below.refl _ _) | (with_reducible refine Below.alloc ?_ ?_ _) | (with_reducible refine Below.setCell ?_ ?_ _) | (with_reducible refine Below.drew ?_) | (refine below_hyp (by assumption) ?_ ?_) | go_size))⟩
  case round =>
    obtain ⟨k, c, hk, rfl, rfl, hc1, hc2, hb⟩ := hrel
    have hbx := hb.size
    by_cases hlt : k < len
    · obtain ⟨b, off, rfl, hlo, hbl, hr⟩ := h3.stays rLodAsk_good (Keeps.of_below hb) (by omega)
      obtain ⟨x, cs, e0, e1, e2, e3⟩ := hr k hlt
      have hw := take_wt wtLodAsk e0
      obtain ⟨rfl, b1⟩ := e3
      have q1 : wr.cell? ⟨b, off + k * 2, none⟩ = some (.string x.fName) := e2 0 _ rfl
      have q2 : wr.cell? ⟨b, off + k * 2 + 1, none⟩ = some (.int .i64 x.fKeeper) := e2 1 _ rfl
      clear e1 e2 hr
      have hcl : c ≤ 1048576 := by omega
      go_wp2_with fail
      refine (L_szLodAsk x _ _ b1 ⟨by omega, by omega⟩).mono ?_
      rintro _ wA ⟨⟨r, rfl, hr⟩, hA⟩
      have hz := hA.size
      clear q1 q2
      rcases hr with rfl | ⟨ra, rb⟩
      · go_wp2
        all_goals (try go_returns)
        all_goals exact HR.out _ _ ⟨⟨_, rfl, Or.inl rfl⟩, by (repeat' (first | (with_reducible exact Below.refl _ _) | (with_reducible refine Below.alloc ?_ ?_ _) | (with_reducible refine Below.setCell ?_ ?_ _) | (with_reducible refine Below.drew ?_) | (refine below_hyp (by assumption) ?_ ?_) | go_size))⟩
      have rn : ¬ r < 0 := by omega
      go_wp2
      go_roundw
      case measure => simp [intOf]; omega
      case rel => exact ⟨k + 1, r, by omega, by go_num, rfl, by omega, by omega, by (repeat' (first | (with_reducible exact Below.refl _ _) | (with_reducible refine Below.alloc ?_ ?_ _) | (with_reducible refine Below.setCell ?_ ?_ _) | (with_reducible refine Below.drew ?_) | (refine below_hyp (by assumption) ?_ ?_) | go_size))⟩
    · obtain rfl : k = len := by omega
      go_wp2
      all_goals (try go_returns)
      all_goals exact HR.out _ _ ⟨⟨_, rfl, Or.inr ⟨by omega, by rw [wtS, HL.out]; rw [List.take_of_length_le (by rw [HL.out]; exact Nat.le_refl _)] at hc2; omega⟩⟩, by (repeat' (first | (with_reducible exact Below.refl _ _) | (with_reducible refine Below.alloc ?_ ?_ _) | (with_reducible refine Below.setCell ?_ ?_ _) | (with_reducible refine Below.drew ?_) | (refine below_hyp (by assumption) ?_ ?_) | go_size))⟩

set_option maxHeartbeats 2000000 in
theorem L_toLodAskS (xs : List DLodAsk) (v : Value) (w : World) (hv : Sl 2 rLodAsk 0 w v xs) (hs : xs.length ≤ 1048576) :
    Calls Tryz.prog 50 #[v] w fun e w' => (∃ v', e = .returned v' ∧ Sl 2 rLodAsk w.heap.size w' v' xs) ∧ Below w.heap.size w w' := by
  obtain ⟨a, len, cap, rfl, hl, h1, h2, h3⟩ := id hv
  have hs' : len ≤ 1048576 := by omega
  have hmk := make_rows (P := Tryz.prog) w 72 95 (.agg #[.string ⟨#[]⟩, .int .i64 0]) 2 24 (by kernel_rfl) (by kernel_rfl) (by omega) len hs'
  have hP := Part.start (k := 2) (R := rLodAsk) (w := w) (len := len) (xs := xs) (Value.cells (.agg #[.string ⟨#[]⟩, .int .i64 0])) 95
  have hB : Below w.heap.size w (w.alloc (.cells (madeCells (Value.cells (.agg #[.string ⟨#[]⟩, .int .i64 0])) (len * 2)) 95)) := by (repeat' (first | (with_reducible exact Below.refl _ _) | (with_reducible refine Below.alloc ?_ ?_ _) | (with_reducible refine Below.setCell ?_ ?_ _) | (with_reducible refine Below.drew ?_) | (refine below_hyp (by assumption) ?_ ?_) | go_size))
  have m1 : len ≤ 9223372036854775807 := by omega
  have m2 : len ≤ maxLen := by unfold maxLen; omega
  have hsz : (w.alloc (.cells (madeCells (Value.cells (.agg #[.string ⟨#[]⟩, .int .i64 0])) (len * 2)) 95)).heap.size = w.heap.size + 1 := by simp
  generalize w.alloc (.cells (madeCells (Value.cells (.agg #[.string ⟨#[]⟩, .int .i64 0])) (len * 2)) 95) = wm at *
  have HL := Lib.hid hl
  have H1 := Lib.hid h1
  have HS := Lib.hid hs'
  have M2 := Lib.hid m2
  clear h2 hl h1 hs hs' m2
  refine calls_hide fun R HR => ?_
  go_enter Tryz.func50, Tryz.ntmps50
  go_wp2_with fail
  go_loopw [4] (fun i wr => ∃ k : Nat, k ≤ len ∧ i = .int .i64 k ∧ Below w.heap.size w wr ∧ Part 2 rLodAsk wr w.heap.size len k xs) (fun i _ => len - (intOf i).toNat)
  case atStart => exact ⟨0, Nat.zero_le _, rfl, hB, hP⟩
  case round =>
    clear hmk hP hB hsz
    obtain ⟨k, hk, rfl, hb, hp⟩ := hrel
    by_cases hlt : k < len
    · obtain ⟨b, off, rfl, hlo, hbl, hr⟩ := h3.stays rLodAsk_good (Keeps.of_below hb) (by omega)
      obtain ⟨x, cs, e0, e1, e2, e3⟩ := hr k hlt
      obtain ⟨rfl, b1⟩ := e3
      have q1 : wr.cell? ⟨b, off + k * 2, none⟩ = some (.string x.fName) := e2 0 _ rfl
      have q2 : wr.cell? ⟨b, off + k * 2 + 1, none⟩ = some (.int .i64 x.fKeeper) := e2 1 _ rfl
      have hbx := hb.size
      have hpl := hp.lt
      clear e1 e2 hr
      go_wp2_with fail
      refine (L_toLodAsk x _).mono ?_
      rintro _ wA ⟨rfl, hA⟩
      have hz := hA.size
      have hp' := hp.below rLodAsk_good hA
      have t00 := hp'.there (k * 2) (by omega)
      rw [Nat.zero_add] at t00
      obtain ⟨u00, hu0⟩ := Option.isSome_iff_exists.1 t00.1
      have hf0 := t00.2
      have t01 := hp'.there (k * 2 + 1) (by omega)
      rw [Nat.zero_add] at t01
      obtain ⟨u01, hu1⟩ := Option.isSome_iff_exists.1 t01.1
      have hf1 := t01.2
      clear t00 t01 q1 q2
      have h7 := hp'.step rLodAsk_good hlt e0 (cs := [.string x.fName, .int .i64 x.fKeeper]) rfl ⟨rfl, b1⟩
      simp only [World.setCells, Nat.add_assoc, Nat.reduceAdd] at h7
      have H7 := Lib.hid h7
      clear h7
      go_wp2
      go_roundw
      case measure => simp [intOf]; omega
      case rel => exact ⟨k + 1, by omega, by go_num, by (repeat' (first | (with_reducible exact Below.refl _ _) | (with_reducible refine Below.alloc ?_ ?_ _) | (with_reducible refine Below.setCell ?_ ?_ _) | (with_reducible refine Below.drew ?_) | (refine below_hyp (by assumption) ?_ ?_) | go_size)), H7.out⟩
    · obtain rfl : k = len := by omega
      go_wp2
      all_goals (try go_returns)
      all_goals exact HR.out _ _ ⟨⟨_, rfl, hp.done rLodAsk_good HL.out M2.out⟩, by (repeat' (first | (with_reducible exact Below.refl _ _) | (with_reducible refine Below.alloc ?_ ?_ _) | (with_reducible refine Below.setCell ?_ ?_ _) | (with_reducible refine Below.drew ?_) | (refine below_hyp (by assumption) ?_ ?_) | go_size))⟩

set_option maxHeartbeats 2000000 in
theorem L_eqLodAskS (xs : List DLodAsk) (v v' : Value) (w : World) (hv : Sl 2 rLodAsk 0 w v xs) (hv' : Sl 2 rLodAsk 0 w v' xs) :
    Calls Tryz.prog 57 #[v, v'] w fun e w' => e = .returned (.bool true) ∧ Below w.heap.size w w' := by
  obtain ⟨a, len, cap, rfl, hl, h1, h2, h3⟩ := id hv
  obtain ⟨a', len', cap', rfl, hl', h1', h2', h3'⟩ := id hv'
  obtain rfl : len' = len := hl'.symm.trans hl
  have m1 : len' ≤ 9223372036854775807 := by unfold maxLen at h2; omega
  have HL := Lib.hid hl
  have H1 := Lib.hid h1
  have H1' := Lib.hid h1'
  clear h2 h2' hl hl' h1 h1'
  refine calls_hide fun R HR => ?_
  go_enter Tryz.func57, Tryz.ntmps57
  go_wp2_with fail
  go_loopw [5] (fun i wr => ∃ k : Nat, k ≤ len' ∧ i = .int .i64 k ∧ Below w.heap.size w wr) (fun i _ => len' - (intOf i).toNat)
  case atStart => exact ⟨0, Nat.zero_le _, rfl, by (repeat' (first | (with_reducible exact Below.refl _ _) | (with_reducible refine Below.alloc ?_ ?_ _) | (with_reducible refine Below.setCell ?_ ?_ _) | (with_reducible refine Below.drew ?_) | (refine below_hyp (by assumption) ?_ ?_) | go_size))⟩
  case round =>
    obtain ⟨k, hk, rfl, hb⟩ := hrel
    by_cases hlt : k < len'
    · obtain ⟨b, off, rfl, hlo, hbl, hr⟩ := h3.stays rLodAsk_good (Keeps.of_below hb) (by omega)
      obtain ⟨b', off', rfl, hlo', hbl', hr'⟩ := h3'.stays rLodAsk_good (Keeps.of_below hb) (by omega)
      obtain ⟨x, cs, e0, e1, e2, e3⟩ := hr k hlt
      obtain ⟨x', cs', e0', e1', e2', e3'⟩ := hr' k hlt
      obtain rfl : x = x' := Option.some.inj (e0.symm.trans e0')
      obtain ⟨rfl, b1⟩ := e3
      obtain ⟨rfl, db1⟩ := e3'
      go_wp2_with fail
      have q1 : ∀ W, Below wr.heap.size wr W → W.cell? ⟨b, off + k * 2, none⟩ = some (.string x.fName) := fun W hW => range_below e2 hW hbl 0 _ rfl
      have q2 : ∀ W, Below wr.heap.size wr W → W.cell? ⟨b, off + k * 2 + 1, none⟩ = some (.int .i64 x.fKeeper) := fun W hW => range_below e2 hW hbl 1 _ rfl
      have o1 : ∀ W, Below wr.heap.size wr W → W.cell? ⟨b', off' + k * 2, none⟩ = some (.string x.fName) := fun W hW => range_below e2' hW hbl' 0 _ rfl
      have o2 : ∀ W, Below wr.heap.size wr W → W.cell? ⟨b', off' + k * 2 + 1, none⟩ = some (.int .i64 x.fKeeper) := fun W hW => range_below e2' hW hbl' 1 _ rfl
      clear e1 e2 e1' e2' hr hr'
      have hbx := hb.size
      have keepA : ∀ x x' : World, Below x.heap.size x x' → Below wr.heap.size wr x → Below wr.heap.size wr x' := fun x x' hb e => keep_below hb e (Nat.le_refl _)
      go_region_held3 (fun x => Below wr.heap.size wr x) (first | exact (Below.refl _ _).drew | exact keepA _ _ (by assumption) (by assumption)) (first | (go_at_call 72; refine (L_eqLodAsk x _).mono ?_; rintro _ _ ⟨rfl, _⟩))
      rename_i wA _ hA
      have hz := hA.size
      clear q1 o1 q2 o2 keepA
      go_wp2
      go_roundw
      case measure => simp [intOf]; omega
      case rel => exact ⟨k + 1, by omega, by go_num, hb.trans (hA.mono hbx)⟩
    · skip
      go_wp2
      all_goals (try go_returns)
      all_goals exact HR.out _ _ ⟨rfl, by (repeat' (first | (with_reducible exact Below.refl _ _) | (with_reducible refine Below.alloc ?_ ?_ _) | (with_reducible refine Below.setCell ?_ ?_ _) | (with_reducible refine Below.drew ?_) | (refine below_hyp (by assumption) ?_ ?_) | go_size))⟩

set_option maxHeartbeats 2000000 in
theorem L_szLodKeeper (x : DLodKeeper) (v1 v2 : Value) (l : Int) (w : World) (s1 : Sl 4 rClsClass 0 w v1 x.fOwns) (s2 : Sl 2 rLodAsk 0 w v2 x.fAsks) (hl : 0 ≤ l ∧ l ≤ 1048576) :
    Calls Tryz.prog 31 #[.agg #[v1, v2], .int .i64 l] w fun e w' => (∃ r : Int, e = .returned (.int .i64 r) ∧ (r = -1 ∨ (0 ≤ r ∧ r + wtLodKeeper x ≤ l))) ∧ Below w.heap.size w w' := by
  obtain ⟨na1, nl1, nc1, rfl⟩ := s1.form
  obtain ⟨na2, nl2, nc2, rfl⟩ := s2.form
  obtain ⟨hl1, hl2⟩ := hl
  refine calls_hide fun R HR => ?_
  go_enter Tryz.func31, Tryz.ntmps31
  go_wp2_with fail
  all_goals first
    | (try go_returns
       exact HR.out _ _ ⟨⟨_, rfl, by first | exact Or.inl rfl | exact Or.inr ⟨by omega, by unfold wtLodKeeper; omega⟩⟩, by (repeat' (first | (with_reducible exact Below.refl _ _) | (with_reducible refine Below.alloc ?_ ?_ _) | (with_reducible refine Below.setCell ?_ ?_ _) | (with_reducible refine Below.drew ?_) | (refine below_hyp (by assumption) ?_ ?_) | go_size))⟩)
    | skip
  refine (L_szClsClassS x.fOwns _ _ _ (s1.stays rClsClass_good (Keeps.of_below' (B := w.heap.size) (by (repeat' (first | (with_reducible exact Below.refl _ _) | (with_reducible refine Below.alloc ?_ ?_ _) | (with_reducible refine Below.setCell ?_ ?_ _) | (with_reducible refine Below.drew ?_) | (refine below_hyp (by assumption) ?_ ?_) | go_size))) (Nat.le_refl _))) ⟨by omega, by omega⟩).mono ?_
  rintro _ w1 ⟨⟨r1, rfl, hr1⟩, g1⟩
  have g1s := (g1).size; (try simp only [World.size_alloc, World.size_setCell, World.size_drew] at g1s)
  obtain ⟨g1ac, g1ad, g1ao, g1af, g1ag, g1ap, g1az, g1ax, g1ay⟩ := bfacts (n := w.heap.size) (k := 1) g1 (by go_size) (by go_size); replace g1ad := g1ad (by decide); replace g1ag := g1ag (by decide); replace g1ax := g1ax (by decide); clear g1ac g1af g1az
  rcases hr1 with rfl | ⟨ra1, rb1⟩
  · go_wp2
    all_goals (try go_returns)
    all_goals exact HR.out _ _ ⟨⟨_, rfl, by first | exact Or.inl rfl | exact Or.inr ⟨by omega, by unfold wtLodKeeper; omega⟩⟩, by (repeat' (first | (with_reducible exact Below.refl _ _) | (with_reducible refine Below.alloc ?_ ?_ _) | (with_reducible refine Below.setCell ?_ ?_ _) | (with_reducible refine Below.drew ?_) | (refine below_hyp (by assumption) ?_ ?_) | go_size))⟩
  have rn1 : ¬ r1 < 0 := by omega
  go_wp2_with fail
  all_goals first
    | (try go_returns
       exact HR.out _ _ ⟨⟨_, rfl, by first | exact Or.inl rfl | exact Or.inr ⟨by omega, by unfold wtLodKeeper; omega⟩⟩, by (repeat' (first | (with_reducible exact Below.refl _ _) | (with_reducible refine Below.alloc ?_ ?_ _) | (with_reducible refine Below.setCell ?_ ?_ _) | (with_reducible refine Below.drew ?_) | (refine below_hyp (by assumption) ?_ ?_) | go_size))⟩)
    | skip
  refine (L_szLodAskS x.fAsks _ _ _ (s2.stays rLodAsk_good (Keeps.of_below' (B := w.heap.size) (by (repeat' (first | (with_reducible exact Below.refl _ _) | (with_reducible refine Below.alloc ?_ ?_ _) | (with_reducible refine Below.setCell ?_ ?_ _) | (with_reducible refine Below.drew ?_) | (refine below_hyp (by assumption) ?_ ?_) | go_size))) (Nat.le_refl _))) ⟨by omega, by omega⟩).mono ?_
  rintro _ w2 ⟨⟨r2, rfl, hr2⟩, g2⟩
  have g2s := (g2).size; (try simp only [World.size_alloc, World.size_setCell, World.size_drew] at g2s)
  obtain ⟨g2ac, g2ad, g2ao, g2af, g2ag, g2ap, g2az, g2ax, g2ay⟩ := bfacts (n := w.heap.size) (k := 1) g2 (by go_size) (by go_size); replace g2ad := g2ad (by decide); replace g2ag := g2ag (by decide); replace g2ax := g2ax (by decide); clear g2ac g2af g2az
  rcases hr2 with rfl | ⟨ra2, rb2⟩
  · go_wp2
    all_goals (try go_returns)
    all_goals exact HR.out _ _ ⟨⟨_, rfl, by first | exact Or.inl rfl | exact Or.inr ⟨by omega, by unfold wtLodKeeper; omega⟩⟩, by (repeat' (first | (with_reducible exact Below.refl _ _) | (with_reducible refine Below.alloc ?_ ?_ _) | (with_reducible refine Below.setCell ?_ ?_ _) | (with_reducible refine Below.drew ?_) | (refine below_hyp (by assumption) ?_ ?_) | go_size))⟩
  have rn2 : ¬ r2 < 0 := by omega
  go_wp2
  all_goals (try go_returns)
  all_goals exact HR.out _ _ ⟨⟨_, rfl, by first | exact Or.inl rfl | exact Or.inr ⟨by omega, by unfold wtLodKeeper; omega⟩⟩, by (repeat' (first | (with_reducible exact Below.refl _ _) | (with_reducible refine Below.alloc ?_ ?_ _) | (with_reducible refine Below.setCell ?_ ?_ _) | (with_reducible refine Below.drew ?_) | (refine below_hyp (by assumption) ?_ ?_) | go_size))⟩

set_option maxHeartbeats 2000000 in
theorem L_toLodKeeper (x : DLodKeeper) (v1 v2 : Value) (w : World) (s1 : Sl 4 rClsClass 0 w v1 x.fOwns) (s2 : Sl 2 rLodAsk 0 w v2 x.fAsks) (hw : wtLodKeeper x ≤ 1048576) :
    Calls Tryz.prog 37 #[.agg #[v1, v2]] w fun e w' => (∃ y1 y2 : Value, e = .returned (.agg #[y1, y2]) ∧ Sl 4 rClsClass w.heap.size w' y1 x.fOwns ∧ Sl 2 rLodAsk w.heap.size w' y2 x.fAsks) ∧ Below w.heap.size w w' := by
  obtain ⟨na1, nl1, nc1, rfl⟩ := s1.form
  obtain ⟨na2, nl2, nc2, rfl⟩ := s2.form
  unfold wtLodKeeper at hw
  have HW := Lib.hid hw
  clear hw
  refine calls_hide fun R HR => ?_
  go_enter Tryz.func37, Tryz.ntmps37
  go_wp2_with fail
  refine (L_toClsClassS x.fOwns _ _ (s1.stays rClsClass_good (Keeps.of_below' (B := w.heap.size) (by (repeat' (first | (with_reducible exact Below.refl _ _) | (with_reducible refine Below.alloc ?_ ?_ _) | (with_reducible refine Below.setCell ?_ ?_ _) | (with_reducible refine Below.drew ?_) | (refine below_hyp (by assumption) ?_ ?_) | go_size))) (Nat.le_refl _))) (by have := HW.out; first | omega | (have h9 := wtS_len wtClsClass x.fOwns; omega))).mono ?_
  rintro _ w1 ⟨⟨y1, rfl, t1⟩, g1⟩
  obtain ⟨ya1, yl1, yc1, rfl⟩ := t1.form
  have g1s := (g1).size; (try simp only [World.size_alloc, World.size_setCell, World.size_drew] at g1s)
  obtain ⟨g1ac, g1ad, g1ao, g1af, g1ag, g1ap, g1az, g1ax, g1ay⟩ := bfacts (n := w.heap.size) (k := 3) g1 (by go_size) (by go_size); replace g1ad := g1ad (by decide); replace g1ag := g1ag (by decide); replace g1ax := g1ax (by decide); have g1ac1 := fun o => g1ac 1 o (by decide); have g1af1 := fun o => g1af 1 o (by decide); have g1az1 := g1az 1 (by decide); have g1ac2 := fun o => g1ac 2 o (by decide); have g1af2 := fun o => g1af 2 o (by decide); have g1az2 := g1az 2 (by decide); clear g1ac g1af g1az
  go_wp2_with fail
  refine (L_toLodAskS x.fAsks _ _ (s2.stays rLodAsk_good (Keeps.of_below' (B := w.heap.size) (by (repeat' (first | (with_reducible exact Below.refl _ _) | (with_reducible refine Below.alloc ?_ ?_ _) | (with_reducible refine Below.setCell ?_ ?_ _) | (with_reducible refine Below.drew ?_) | (refine below_hyp (by assumption) ?_ ?_) | go_size))) (Nat.le_refl _))) (by have := HW.out; first | omega | (have h9 := wtS_len wtLodAsk x.fAsks; omega))).mono ?_
  rintro _ w2 ⟨⟨y2, rfl, t2⟩, g2⟩
  obtain ⟨ya2, yl2, yc2, rfl⟩ := t2.form
  have g2s := (g2).size; (try simp only [World.size_alloc, World.size_setCell, World.size_drew] at g2s)
  obtain ⟨g2ac, g2ad, g2ao, g2af, g2ag, g2ap, g2az, g2ax, g2ay⟩ := bfacts (n := w.heap.size) (k := 3) g2 (by go_size) (by go_size); replace g2ad := g2ad (by decide); replace g2ag := g2ag (by decide); replace g2ax := g2ax (by decide); have g2ac1 := fun o => g2ac 1 o (by decide); have g2af1 := fun o => g2af 1 o (by decide); have g2az1 := g2az 1 (by decide); have g2ac2 := fun o => g2ac 2 o (by decide); have g2af2 := fun o => g2af 2 o (by decide); have g2az2 := g2az 2 (by decide); clear g2ac g2af g2az
  go_wp2
  all_goals
    refine bodyPost_ret (v := ?_) ?hrun rfl ?_
    case hrun => (simp only [results, Tryz.results37]; go_simp; first | done | exact rfl)
    exact HR.out _ _ ⟨⟨_, _, rfl, (t1.stays rClsClass_good (by (repeat' (first | (with_reducible exact Keeps.refl _ _) | (with_reducible refine Keeps.alloc ?_ _) | (with_reducible refine Keeps.setCell ?_ ?_ _) | (with_reducible refine Keeps.drew ?_) | (refine keeps_hyp (by assumption) ?_ ?_) | go_size)))).low rClsClass_good (by go_size), (t2.stays rLodAsk_good (by (repeat' (first | (with_reducible exact Keeps.refl _ _) | (with_reducible refine Keeps.alloc ?_ _) | (with_reducible refine Keeps.setCell ?_ ?_ _) | (with_reducible refine Keeps.drew ?_) | (refine keeps_hyp (by assumption) ?_ ?_) | go_size)))).low rLodAsk_good (by go_size)⟩, by (repeat' (first | (with_reducible exact Below.refl _ _) | (with_reducible refine Below.alloc ?_ ?_ _) | (with_reducible refine Below.setCell ?_ ?_ _) | (with_reducible refine Below.drew ?_) | (refine below_hyp (by assumption) ?_ ?_) | go_size))⟩

set_option maxHeartbeats 2000000 in
theorem L_eqLodKeeper (x : DLodKeeper) (v1 v2 : Value) (z1 z2 : Value) (w : World) (s1 : Sl 4 rClsClass 0 w v1 x.fOwns) (s2 : Sl 2 rLodAsk 0 w v2 x.fAsks) (d1 : Sl 4 rClsClass 0 w z1 x.fOwns) (d2 : Sl 2 rLodAsk 0 w z2 x.fAsks) :
    Calls Tryz.prog 41 #[.agg #[v1, v2], .agg #[z1, z2]] w fun e w' => e = .returned (.bool true) ∧ Below w.heap.size w w' := by
  obtain ⟨na1, nl1, nc1, rfl⟩ := s1.form
  obtain ⟨na2, nl2, nc2, rfl⟩ := s2.form
  obtain ⟨za1, zl1, zc1, rfl⟩ := d1.form
  obtain ⟨za2, zl2, zc2, rfl⟩ := d2.form
  refine calls_hide fun R HR => ?_
  go_enter Tryz.func41, Tryz.ntmps41
  go_wp2_with fail
  refine (L_eqClsClassS x.fOwns _ _ _ (s1.stays rClsClass_good (Keeps.of_below' (B := w.heap.size) (by (repeat' (first | (with_reducible exact Below.refl _ _) | (with_reducible refine Below.alloc ?_ ?_ _) | (with_reducible refine Below.setCell ?_ ?_ _) | (with_reducible refine Below.drew ?_) | (refine below_hyp (by assumption) ?_ ?_) | go_size))) (Nat.le_refl _))) (d1.stays rClsClass_good (Keeps.of_below' (B := w.heap.size) (by (repeat' (first | (with_reducible exact Below.refl _ _) | (with_reducible refine Below.alloc ?_ ?_ _) | (with_reducible refine Below.setCell ?_ ?_ _) | (with_reducible refine Below.drew ?_) | (refine below_hyp (by assumption) ?_ ?_) | go_size))) (Nat.le_refl _)))).mono ?_
  rintro _ w1 ⟨rfl, g1⟩
  have g1s := (g1).size; (try simp only [World.size_alloc, World.size_setCell, World.size_drew] at g1s)
  obtain ⟨g1ac, g1ad, g1ao, g1af, g1ag, g1ap, g1az, g1ax, g1ay⟩ := bfacts (n := w.heap.size) (k := 2) g1 (by go_size) (by go_size); replace g1ad := g1ad (by decide); replace g1ag := g1ag (by decide); replace g1ax := g1ax (by decide); have g1ac1 := fun o => g1ac 1 o (by decide); have g1af1 := fun o => g1af 1 o (by decide); have g1az1 := g1az 1 (by decide); clear g1ac g1af g1az
  go_wp2_with fail
  refine (L_eqLodAskS x.fAsks _ _ _ (s2.stays rLodAsk_good (Keeps.of_below' (B := w.heap.size) (by (repeat' (first | (with_reducible exact Below.refl _ _) | (with_reducible refine Below.alloc ?_ ?_ _) | (with_reducible refine Below.setCell ?_ ?_ _) | (with_reducible refine Below.drew ?_) | (refine below_hyp (by assumption) ?_ ?_) | go_size))) (Nat.le_refl _))) (d2.stays rLodAsk_good (Keeps.of_below' (B := w.heap.size) (by (repeat' (first | (with_reducible exact Below.refl _ _) | (with_reducible refine Below.alloc ?_ ?_ _) | (with_reducible refine Below.setCell ?_ ?_ _) | (with_reducible refine Below.drew ?_) | (refine below_hyp (by assumption) ?_ ?_) | go_size))) (Nat.le_refl _)))).mono ?_
  rintro _ w2 ⟨rfl, g2⟩
  have g2s := (g2).size; (try simp only [World.size_alloc, World.size_setCell, World.size_drew] at g2s)
  obtain ⟨g2ac, g2ad, g2ao, g2af, g2ag, g2ap, g2az, g2ax, g2ay⟩ := bfacts (n := w.heap.size) (k := 2) g2 (by go_size) (by go_size); replace g2ad := g2ad (by decide); replace g2ag := g2ag (by decide); replace g2ax := g2ax (by decide); have g2ac1 := fun o => g2ac 1 o (by decide); have g2af1 := fun o => g2af 1 o (by decide); have g2az1 := g2az 1 (by decide); clear g2ac g2af g2az
  go_wp2
  all_goals (try go_returns)
  all_goals exact HR.out _ _ ⟨rfl, by (repeat' (first | (with_reducible exact Below.refl _ _) | (with_reducible refine Below.alloc ?_ ?_ _) | (with_reducible refine Below.setCell ?_ ?_ _) | (with_reducible refine Below.drew ?_) | (refine below_hyp (by assumption) ?_ ?_) | go_size))⟩

set_option maxHeartbeats 2000000 in
theorem L_szLodKeeperS (xs : List DLodKeeper) (v : Value) (l : Int) (w : World) (hv : Sl 2 rLodKeeper 0 w v xs) (hl0 : 0 ≤ l ∧ l ≤ 1048576) :
    Calls Tryz.prog 18 #[v, .int .i64 l] w fun e w' => (∃ r : Int, e = .returned (.int .i64 r) ∧ (r = -1 ∨ (0 ≤ r ∧ r + wtS wtLodKeeper xs ≤ l))) ∧ Below w.heap.size w w' := by
  obtain ⟨a, len, cap, rfl, hl, h1, h2, h3⟩ := id hv
  have m1 : len ≤ 9223372036854775807 := by unfold maxLen at h2; omega
  have HL := Lib.hid hl
  have H1 := Lib.hid h1
  obtain ⟨l1, l2⟩ := hl0
  clear h2 hl h1
  refine calls_hide fun R HR => ?_
  go_enter Tryz.func18, Tryz.ntmps18
  go_wp2_with fail
  all_goals first
    | (try go_returns
       exact HR.out _ _ ⟨⟨_, rfl, Or.inl rfl⟩, by (repeat' (first | (with_reducible exact Below.refl _ _) | (with_reducible refine Below.alloc ?_ ?_ _) | (with_reducible refine Below.setCell ?_ ?_ _) | (with_reducible refine Below.drew ?_) | (refine below_hyp (by assumption) ?_ ?_) | go_size))⟩)
    | skip
  go_loopw [1, 5] (fun lv i wr => ∃ (k : Nat) (c : Int), k ≤ len ∧ i = .int .i64 k ∧ lv = .int .i64 c ∧ 0 ≤ c ∧ c + (len : Int) + (((xs.take k).map wtLodKeeper).sum : Nat) ≤ l ∧ Below w.heap.size w wr) (fun _ i _ => len - (intOf i).toNat)
  case atStart => exact ⟨0, _, Nat.zero_le _, rfl, rfl, by omega, by first | (simp; done) | (simp; omega), by (repeat' (first | (with_reducible exact Below.refl _ _) | (with_reducible refine Below.alloc ?_ ?_ _) | (with_reducible refine Below.setCell ?_ ?_ _) | (with_reducible refine Below.drew ?_) | (refine below_hyp (by assumption) ?_ ?_) | go_size))⟩
  case round =>
    obtain ⟨k, c, hk, rfl, rfl, hc1, hc2, hb⟩ := hrel
    have hbx := hb.size
    by_cases hlt : k < len
    · obtain ⟨b, off, rfl, hlo, hbl, hr⟩ := h3.stays rLodKeeper_good (Keeps.of_below hb) (by omega)
      obtain ⟨x, cs, e0, e1, e2, e3⟩ := hr k hlt
      have hw := take_wt wtLodKeeper e0
      obtain ⟨v1, v2, rfl, s1, s2⟩ := e3
      obtain ⟨na1, nl1, nc1, rfl⟩ := s1.form
      obtain ⟨na2, nl2, nc2, rfl⟩ := s2.form
      have q1 : wr.cell? ⟨b, off + k * 2, none⟩ = some (.slice na1 nl1 nc1) := e2 0 _ rfl
      have q2 : wr.cell? ⟨b, off + k * 2 + 1, none⟩ = some (.slice na2 nl2 nc2) := e2 1 _ rfl
      clear e1 e2 hr
      have hcl : c ≤ 1048576 := by omega
      go_wp2_with fail
      refine (L_szLodKeeper x _ _ _ _ s1 s2 ⟨by omega, by omega⟩).mono ?_
      rintro _ wA ⟨⟨r, rfl, hr⟩, hA⟩
      have hz := hA.size
      clear q1 q2
      rcases hr with rfl | ⟨ra, rb⟩
      · go_wp2
        all_goals (try go_returns)
        all_goals exact HR.out _ _ ⟨⟨_, rfl, Or.inl rfl⟩, by (repeat' (first | (with_reducible exact Below.refl _ _) | (with_reducible refine Below.alloc ?_ ?_ _) | (with_reducible refine Below.setCell ?_ ?_ _) | (with_reducible refine Below.drew ?_) | (refine below_hyp (by assumption) ?_ ?_) | go_size))⟩
      have rn : ¬ r < 0 := by omega
      go_wp2
      go_roundw
      case measure => simp [intOf]; omega
      case rel => exact ⟨k + 1, r, by omega, by go_num, rfl, by omega, by omega, by (repeat' (first | (with_reducible exact Below.refl _ _) | (with_reducible refine Below.alloc ?_ ?_ _) | (with_reducible refine Below.setCell ?_ ?_ _) | (with_reducible refine Below.drew ?_) | (refine below_hyp (by assumption) ?_ ?_) | go_size))⟩
    · obtain rfl : k = len := by omega
      go_wp2
      all_goals (try go_returns)
      all_goals exact HR.out _ _ ⟨⟨_, rfl, Or.inr ⟨by omega, by rw [wtS, HL.out]; rw [List.take_of_length_le (by rw [HL.out]; exact Nat.le_refl _)] at hc2; omega⟩⟩, by (repeat' (first | (with_reducible exact Below.refl _ _) | (with_reducible refine Below.alloc ?_ ?_ _) | (with_reducible refine Below.setCell ?_ ?_ _) | (with_reducible refine Below.drew ?_) | (refine below_hyp (by assumption) ?_ ?_) | go_size))⟩

set_option maxHeartbeats 2000000 in
theorem L_toLodKeeperS (xs : List DLodKeeper) (v : Value) (w : World) (hv : Sl 2 rLodKeeper 0 w v xs) (hs : wtS wtLodKeeper xs ≤ 1048576) :
    Calls Tryz.prog 21 #[v] w fun e w' => (∃ v', e = .returned v' ∧ Sl 2 rLodKeeper w.heap.size w' v' xs) ∧ Below w.heap.size w w' := by
  obtain ⟨a, len, cap, rfl, hl, h1, h2, h3⟩ := id hv
  have hs0 := wtS_len wtLodKeeper xs
  have HSW := Lib.hid hs
  have hs' : len ≤ 1048576 := by omega
  clear hs0
  have hmk := make_rows (P := Tryz.prog) w 31 74 (.agg #[.slice none 0 0, .slice none 0 0]) 2 48 (by kernel_rfl) (by kernel_rfl) (by omega) len hs'
  have hP := Part.start (k := 2) (R := rLodKeeper) (w := w) (len := len) (xs := xs) (Value.cells (.agg #[.slice none 0 0, .slice none 0 0])) 74
  have hB : Below w.heap.size w (w.alloc (.cells (madeCells (Value.cells (.agg #[.slice none 0 0, .slice none 0 0])) (len * 2)) 74)) := by (repeat' (first | (with_reducible exact Below.refl _ _) | (with_reducible refine Below.alloc ?_ ?_ _) | (with_reducible refine Below.setCell ?_ ?_ _) | (with_reducible refine Below.drew ?_) | (refine below_hyp (by assumption) ?_ ?_) | go_size))
  have m1 : len ≤ 9223372036854775807 := by omega
  have m2 : len ≤ maxLen := by unfold maxLen; omega
  have hsz : (w.alloc (.cells (madeCells (Value.cells (.agg #[.slice none 0 0, .slice none 0 0])) (len * 2)) 74)).heap.size = w.heap.size + 1 := by simp
  generalize w.alloc (.cells (madeCells (Value.cells (.agg #[.slice none 0 0, .slice none 0 0])) (len * 2)) 74) = wm at *
  have HL := Lib.hid hl
  have H1 := Lib.hid h1
  have HS := Lib.hid hs'
  have M2 := Lib.hid m2
  clear h2 hl h1 hs hs' m2
  refine calls_hide fun R HR => ?_
  go_enter Tryz.func21, Tryz.ntmps21
  go_wp2_with fail
  go_loopw [4] (fun i wr => ∃ k : Nat, k ≤ len ∧ i = .int .i64 k ∧ Below w.heap.size w wr ∧ Part 2 rLodKeeper wr w.heap.size len k xs) (fun i _ => len - (intOf i).toNat)
  case atStart => exact ⟨0, Nat.zero_le _, rfl, hB, hP⟩
  case round =>
    clear hmk hP hB hsz
    obtain ⟨k, hk, rfl, hb, hp⟩ := hrel
    by_cases hlt : k < len
    · obtain ⟨b, off, rfl, hlo, hbl, hr⟩ := h3.stays rLodKeeper_good (Keeps.of_below hb) (by omega)
      obtain ⟨x, cs, e0, e1, e2, e3⟩ := hr k hlt
      obtain ⟨v1, v2, rfl, s1, s2⟩ := e3
      obtain ⟨na1, nl1, nc1, rfl⟩ := s1.form
      obtain ⟨na2, nl2, nc2, rfl⟩ := s2.form
      have q1 : wr.cell? ⟨b, off + k * 2, none⟩ = some (.slice na1 nl1 nc1) := e2 0 _ rfl
      have q2 : wr.cell? ⟨b, off + k * 2 + 1, none⟩ = some (.slice na2 nl2 nc2) := e2 1 _ rfl
      have hbx := hb.size
      have hpl := hp.lt
      clear e1 e2 hr
      go_wp2_with fail
      refine (L_toLodKeeper x _ _ _ s1 s2 (by have h8 := wtS_mem wtLodKeeper e0; have h9 := HSW.out; omega)).mono ?_
      rintro _ wA ⟨⟨y1, y2, rfl, t1, t2⟩, hA⟩
      obtain ⟨ya1, yl1, yc1, rfl⟩ := t1.form
      obtain ⟨ya2, yl2, yc2, rfl⟩ := t2.form
      have hz := hA.size
      have hp' := hp.below rLodKeeper_good hA
      have t00 := hp'.there (k * 2) (by omega)
      rw [Nat.zero_add] at t00
      obtain ⟨u00, hu0⟩ := Option.isSome_iff_exists.1 t00.1
      have hf0 := t00.2
      have t01 := hp'.there (k * 2 + 1) (by omega)
      rw [Nat.zero_add] at t01
      obtain ⟨u01, hu1⟩ := Option.isSome_iff_exists.1 t01.1
      have hf1 := t01.2
      clear t00 t01 q1 q2
      have h7 := hp'.step rLodKeeper_good hlt e0 (cs := [.slice ya1 yl1 yc1, .slice ya2 yl2 yc2]) rfl ⟨_, _, rfl, t1.low rClsClass_good (by omega), t2.low rLodAsk_good (by omega)⟩
      simp only [World.setCells, Nat.add_assoc, Nat.reduceAdd] at h7
      have H7 := Lib.hid h7
      clear h7
      go_wp2
      go_roundw
      case measure => simp [intOf]; omega
      case rel => exact ⟨k + 1, by omega, by go_num, by (repeat' (first | (with_reducible exact Below.refl _ _) | (with_reducible refine Below.alloc ?_ ?_ _) | (with_reducible refine Below.setCell ?_ ?_ _) | (with_reducible refine Below.drew ?_) | (refine below_hyp (by assumption) ?_ ?_) | go_size)), H7.out⟩
    · obtain rfl : k = len := by omega
      go_wp2
      all_goals (try go_returns)
      all_goals exact HR.out _ _ ⟨⟨_, rfl, hp.done rLodKeeper_good HL.out M2.out⟩, by (repeat' (first | (with_reducible exact Below.refl _ _) | (with_reducible refine Below.alloc ?_ ?_ _) | (with_reducible refine Below.setCell ?_ ?_ _) | (with_reducible refine Below.drew ?_) | (refine below_hyp (by assumption) ?_ ?_) | go_size))⟩

set_option maxHeartbeats 2000000 in
theorem L_eqLodKeeperS (xs : List DLodKeeper) (v v' : Value) (w : World) (hv : Sl 2 rLodKeeper 0 w v xs) (hv' : Sl 2 rLodKeeper 0 w v' xs) :
    Calls Tryz.prog 25 #[v, v'] w fun e w' => e = .returned (.bool true) ∧ Below w.heap.size w w' := by
  obtain ⟨a, len, cap, rfl, hl, h1, h2, h3⟩ := id hv
  obtain ⟨a', len', cap', rfl, hl', h1', h2', h3'⟩ := id hv'
  obtain rfl : len' = len := hl'.symm.trans hl
  have m1 : len' ≤ 9223372036854775807 := by unfold maxLen at h2; omega
  have HL := Lib.hid hl
  have H1 := Lib.hid h1
  have H1' := Lib.hid h1'
  clear h2 h2' hl hl' h1 h1'
  refine calls_hide fun R HR => ?_
  go_enter Tryz.func25, Tryz.ntmps25
  go_wp2_with fail
  go_loopw [5] (fun i wr => ∃ k : Nat, k ≤ len' ∧ i = .int .i64 k ∧ Below w.heap.size w wr) (fun i _ => len' - (intOf i).toNat)
  case atStart => exact ⟨0, Nat.zero_le _, rfl, by (repeat' (first | (with_reducible exact Below.refl _ _) | (with_reducible refine Below.alloc ?_ ?_ _) | (with_reducible refine Below.setCell ?_ ?_ _) | (with_reducible refine Below.drew ?_) | (refine below_hyp (by assumption) ?_ ?_) | go_size))⟩
  case round =>
    obtain ⟨k, hk, rfl, hb⟩ := hrel
    by_cases hlt : k < len'
    · obtain ⟨b, off, rfl, hlo, hbl, hr⟩ := h3.stays rLodKeeper_good (Keeps.of_below hb) (by omega)
      obtain ⟨b', off', rfl, hlo', hbl', hr'⟩ := h3'.stays rLodKeeper_good (Keeps.of_below hb) (by omega)
      obtain ⟨x, cs, e0, e1, e2, e3⟩ := hr k hlt
      obtain ⟨x', cs', e0', e1', e2', e3'⟩ := hr' k hlt
      obtain rfl : x = x' := Option.some.inj (e0.symm.trans e0')
      obtain ⟨v1, v2, rfl, s1, s2⟩ := e3
      obtain ⟨na1, nl1, nc1, rfl⟩ := s1.form
      obtain ⟨na2, nl2, nc2, rfl⟩ := s2.form
      obtain ⟨z1, z2, rfl, d1, d2⟩ := e3'
      obtain ⟨pa1, pl1, pc1, rfl⟩ := d1.form
      obtain ⟨pa2, pl2, pc2, rfl⟩ := d2.form
      go_wp2_with fail
      have q1 : ∀ W, Below wr.heap.size wr W → W.cell? ⟨b, off + k * 2, none⟩ = some (.slice na1 nl1 nc1) := fun W hW => range_below e2 hW hbl 0 _ rfl
      have q2 : ∀ W, Below wr.heap.size wr W → W.cell? ⟨b, off + k * 2 + 1, none⟩ = some (.slice na2 nl2 nc2) := fun W hW => range_below e2 hW hbl 1 _ rfl
      have o1 : ∀ W, Below wr.heap.size wr W → W.cell? ⟨b', off' + k * 2, none⟩ = some (.slice pa1 pl1 pc1) := fun W hW => range_below e2' hW hbl' 0 _ rfl
      have o2 : ∀ W, Below wr.heap.size wr W → W.cell? ⟨b', off' + k * 2 + 1, none⟩ = some (.slice pa2 pl2 pc2) := fun W hW => range_below e2' hW hbl' 1 _ rfl
      clear e1 e2 e1' e2' hr hr'
      have hbx := hb.size
      have keepA : ∀ x x' : World, Below x.heap.size x x' → Below wr.heap.size wr x → Below wr.heap.size wr x' := fun x x' hb e => keep_below hb e (Nat.le_refl _)
      go_region_held3 (fun x => Below wr.heap.size wr x) (first | exact (Below.refl _ _).drew | exact keepA _ _ (by assumption) (by assumption)) (first | (go_at_call 41; refine (L_eqLodKeeper x _ _ _ _ _ (s1.stays rClsClass_good (Keeps.of_below' (by assumption) (Nat.le_refl _))) (s2.stays rLodAsk_good (Keeps.of_below' (by assumption) (Nat.le_refl _))) (d1.stays rClsClass_good (Keeps.of_below' (by assumption) (Nat.le_refl _))) (d2.stays rLodAsk_good (Keeps.of_below' (by assumption) (Nat.le_refl _)))).mono ?_; rintro _ _ ⟨rfl, _⟩))
      rename_i wA _ hA
      have hz := hA.size
      clear q1 o1 q2 o2 keepA
      go_wp2
      go_roundw
      case measure => simp [intOf]; omega
      case rel => exact ⟨k + 1, by omega, by go_num, hb.trans (hA.mono hbx)⟩
    · skip
      go_wp2
      all_goals (try go_returns)
      all_goals exact HR.out _ _ ⟨rfl, by (repeat' (first | (with_reducible exact Below.refl _ _) | (with_reducible refine Below.alloc ?_ ?_ _) | (with_reducible refine Below.setCell ?_ ?_ _) | (with_reducible refine Below.drew ?_) | (refine below_hyp (by assumption) ?_ ?_) | go_size))⟩

set_option maxHeartbeats 2000000 in
theorem L_szLodPlan (x : DLodPlan) (v1 : Value) (l : Int) (w : World) (s1 : Sl 2 rLodKeeper 0 w v1 x.fKeepers) (hl : 0 ≤ l ∧ l ≤ 1048576) :
    Calls Tryz.prog 5 #[.agg #[v1], .int .i64 l] w fun e w' => (∃ r : Int, e = .returned (.int .i64 r) ∧ (r = -1 ∨ (0 ≤ r ∧ r + wtLodPlan x ≤ l))) ∧ Below w.heap.size w w' := by
  obtain ⟨na1, nl1, nc1, rfl⟩ := s1.form
  obtain ⟨hl1, hl2⟩ := hl
  refine calls_hide fun R HR => ?_
  go_enter Tryz.func5, Tryz.ntmps5
  go_wp2_with fail
  all_goals first
    | (try go_returns
       exact HR.out _ _ ⟨⟨_, rfl, by first | exact Or.inl rfl | exact Or.inr ⟨by omega, by unfold wtLodPlan; omega⟩⟩, by (repeat' (first | (with_reducible exact Below.refl _ _) | (with_reducible refine Below.alloc ?_ ?_ _) | (with_reducible refine Below.setCell ?_ ?_ _) | (with_reducible refine Below.drew ?_) | (refine below_hyp (by assumption) ?_ ?_) | go_size))⟩)
    | skip
  refine (L_szLodKeeperS x.fKeepers _ _ _ (s1.stays rLodKeeper_good (Keeps.of_below' (B := w.heap.size) (by (repeat' (first | (with_reducible exact Below.refl _ _) | (with_reducible refine Below.alloc ?_ ?_ _) | (with_reducible refine Below.setCell ?_ ?_ _) | (with_reducible refine Below.drew ?_) | (refine below_hyp (by assumption) ?_ ?_) | go_size))) (Nat.le_refl _))) ⟨by omega, by omega⟩).mono ?_
  rintro _ w1 ⟨⟨r1, rfl, hr1⟩, g1⟩
  have g1s := (g1).size; (try simp only [World.size_alloc, World.size_setCell, World.size_drew] at g1s)
  obtain ⟨g1ac, g1ad, g1ao, g1af, g1ag, g1ap, g1az, g1ax, g1ay⟩ := bfacts (n := w.heap.size) (k := 1) g1 (by go_size) (by go_size); replace g1ad := g1ad (by decide); replace g1ag := g1ag (by decide); replace g1ax := g1ax (by decide); clear g1ac g1af g1az
  rcases hr1 with rfl | ⟨ra1, rb1⟩
  · go_wp2
    all_goals (try go_returns)
    all_goals exact HR.out _ _ ⟨⟨_, rfl, by first | exact Or.inl rfl | exact Or.inr ⟨by omega, by unfold wtLodPlan; omega⟩⟩, by (repeat' (first | (with_reducible exact Below.refl _ _) | (with_reducible refine Below.alloc ?_ ?_ _) | (with_reducible refine Below.setCell ?_ ?_ _) | (with_reducible refine Below.drew ?_) | (refine below_hyp (by assumption) ?_ ?_) | go_size))⟩
  have rn1 : ¬ r1 < 0 := by omega
  go_wp2
  all_goals (try go_returns)
  all_goals exact HR.out _ _ ⟨⟨_, rfl, by first | exact Or.inl rfl | exact Or.inr ⟨by omega, by unfold wtLodPlan; omega⟩⟩, by (repeat' (first | (with_reducible exact Below.refl _ _) | (with_reducible refine Below.alloc ?_ ?_ _) | (with_reducible refine Below.setCell ?_ ?_ _) | (with_reducible refine Below.drew ?_) | (refine below_hyp (by assumption) ?_ ?_) | go_size))⟩

set_option maxHeartbeats 2000000 in
theorem L_toLodPlan (x : DLodPlan) (v1 : Value) (w : World) (s1 : Sl 2 rLodKeeper 0 w v1 x.fKeepers) (hw : wtLodPlan x ≤ 1048576) :
    Calls Tryz.prog 8 #[.agg #[v1]] w fun e w' => (∃ y1 : Value, e = .returned (.agg #[y1]) ∧ Sl 2 rLodKeeper w.heap.size w' y1 x.fKeepers) ∧ Below w.heap.size w w' := by
  obtain ⟨na1, nl1, nc1, rfl⟩ := s1.form
  unfold wtLodPlan at hw
  have HW := Lib.hid hw
  clear hw
  refine calls_hide fun R HR => ?_
  go_enter Tryz.func8, Tryz.ntmps8
  go_wp2_with fail
  refine (L_toLodKeeperS x.fKeepers _ _ (s1.stays rLodKeeper_good (Keeps.of_below' (B := w.heap.size) (by (repeat' (first | (with_reducible exact Below.refl _ _) | (with_reducible refine Below.alloc ?_ ?_ _) | (with_reducible refine Below.setCell ?_ ?_ _) | (with_reducible refine Below.drew ?_) | (refine below_hyp (by assumption) ?_ ?_) | go_size))) (Nat.le_refl _))) (by have := HW.out; first | omega | (have h9 := wtS_len wtLodKeeper x.fKeepers; omega))).mono ?_
  rintro _ w1 ⟨⟨y1, rfl, t1⟩, g1⟩
  obtain ⟨ya1, yl1, yc1, rfl⟩ := t1.form
  have g1s := (g1).size; (try simp only [World.size_alloc, World.size_setCell, World.size_drew] at g1s)
  obtain ⟨g1ac, g1ad, g1ao, g1af, g1ag, g1ap, g1az, g1ax, g1ay⟩ := bfacts (n := w.heap.size) (k := 3) g1 (by go_size) (by go_size); replace g1ad := g1ad (by decide); replace g1ag := g1ag (by decide); replace g1ax := g1ax (by decide); have g1ac1 := fun o => g1ac 1 o (by decide); have g1af1 := fun o => g1af 1 o (by decide); have g1az1 := g1az 1 (by decide); have g1ac2 := fun o => g1ac 2 o (by decide); have g1af2 := fun o => g1af 2 o (by decide); have g1az2 := g1az 2 (by decide); clear g1ac g1af g1az
  go_wp2
  all_goals
    refine bodyPost_ret (v := ?_) ?hrun rfl ?_
    case hrun => (simp only [results, Tryz.results8]; go_simp; first | done | exact rfl)
    exact HR.out _ _ ⟨⟨_, rfl, (t1.stays rLodKeeper_good (by (repeat' (first | (with_reducible exact Keeps.refl _ _) | (with_reducible refine Keeps.alloc ?_ _) | (with_reducible refine Keeps.setCell ?_ ?_ _) | (with_reducible refine Keeps.drew ?_) | (refine keeps_hyp (by assumption) ?_ ?_) | go_size)))).low rLodKeeper_good (by go_size)⟩, by (repeat' (first | (with_reducible exact Below.refl _ _) | (with_reducible refine Below.alloc ?_ ?_ _) | (with_reducible refine Below.setCell ?_ ?_ _) | (with_reducible refine Below.drew ?_) | (refine below_hyp (by assumption) ?_ ?_) | go_size))⟩

set_option maxHeartbeats 2000000 in
theorem L_eqLodPlan (x : DLodPlan) (v1 : Value) (z1 : Value) (w : World) (s1 : Sl 2 rLodKeeper 0 w v1 x.fKeepers) (d1 : Sl 2 rLodKeeper 0 w z1 x.fKeepers) :
    Calls Tryz.prog 12 #[.agg #[v1], .agg #[z1]] w fun e w' => e = .returned (.bool true) ∧ Below w.heap.size w w' := by
  obtain ⟨na1, nl1, nc1, rfl⟩ := s1.form
  obtain ⟨za1, zl1, zc1, rfl⟩ := d1.form
  refine calls_hide fun R HR => ?_
  go_enter Tryz.func12, Tryz.ntmps12
  go_wp2_with fail
  refine (L_eqLodKeeperS x.fKeepers _ _ _ (s1.stays rLodKeeper_good (Keeps.of_below' (B := w.heap.size) (by (repeat' (first | (with_reducible exact Below.refl _ _) | (with_reducible refine Below.alloc ?_ ?_ _) | (with_reducible refine Below.setCell ?_ ?_ _) | (with_reducible refine Below.drew ?_) | (refine below_hyp (by assumption) ?_ ?_) | go_size))) (Nat.le_refl _))) (d1.stays rLodKeeper_good (Keeps.of_below' (B := w.heap.size) (by (repeat' (first | (with_reducible exact Below.refl _ _) | (with_reducible refine Below.alloc ?_ ?_ _) | (with_reducible refine Below.setCell ?_ ?_ _) | (with_reducible refine Below.drew ?_) | (refine below_hyp (by assumption) ?_ ?_) | go_size))) (Nat.le_refl _)))).mono ?_
  rintro _ w1 ⟨rfl, g1⟩
  have g1s := (g1).size; (try simp only [World.size_alloc, World.size_setCell, World.size_drew] at g1s)
  obtain ⟨g1ac, g1ad, g1ao, g1af, g1ag, g1ap, g1az, g1ax, g1ay⟩ := bfacts (n := w.heap.size) (k := 2) g1 (by go_size) (by go_size); replace g1ad := g1ad (by decide); replace g1ag := g1ag (by decide); replace g1ax := g1ax (by decide); have g1ac1 := fun o => g1ac 1 o (by decide); have g1af1 := fun o => g1af 1 o (by decide); have g1az1 := g1az 1 (by decide); clear g1ac g1af g1az
  go_wp2
  all_goals (try go_returns)
  all_goals exact HR.out _ _ ⟨rfl, by (repeat' (first | (with_reducible exact Below.refl _ _) | (with_reducible refine Below.alloc ?_ ?_ _) | (with_reducible refine Below.setCell ?_ ?_ _) | (with_reducible refine Below.drew ?_) | (refine below_hyp (by assumption) ?_ ?_) | go_size))⟩

end Go.Proofs.YtmmlhnjmjmbfpaaGreat
