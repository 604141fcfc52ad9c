

/-
  The walks of the weights, the copies and the sameness of data. Printed by gen_rep.py, a program of the prover of this repo.
-/
import Derived.Test.YtmmlhnjmjmbfpaaGreatDatC
import Derived.Deep.LoopGhost
import Derived.Deep.RegionHeld3
namespace Go.Proofs.YtmmlhnjmjmbfpaaGreat
set_option linter.unusedSimpArgs false
set_option linter.unusedVariables false
open Go.RowKit

set_option maxHeartbeats 2000000 in
theorem L_szKndKind (x : DKndKind) (l : Int) (w : World) (b1 : x.fName.size ≤ maxLen) (hl : 0 ≤ l ∧ l ≤ 1048576) :
    Calls Tryz.prog 102 #[.agg #[.int .i64 x.fKind, .string x.fName], .int .i64 l] w fun e w' => (∃ r : Int, e = .returned (.int .i64 r) ∧ (r = -1 ∨ (0 ≤ r ∧ r + wtKndKind x ≤ l))) ∧ Below w.heap.size w w' := by
  have m1 : x.fName.size ≤ 9223372036854775807 := by unfold maxLen at b1; omega
  obtain ⟨hl1, hl2⟩ := hl
  refine calls_hide fun R HR => ?_
  go_enter Tryz.func102, Tryz.ntmps102
  go_wp2
  all_goals (try go_returns)
  all_goals exact HR.out _ _ ⟨⟨_, rfl, by first | exact Or.inl rfl | exact Or.inr ⟨by omega, by unfold wtKndKind; omega⟩⟩, by (repeat' (first | (with_reducible exact Below.refl _ _) | (with_reducible refine Below.alloc ?_ ?_ _) | (with_reducible refine Below.setCell ?_ ?_ _) | (with_reducible refine Below.drew ?_) | (refine below_hyp (by assumption) ?_ ?_) | go_size))⟩

set_option maxHeartbeats 2000000 in
theorem L_toKndKind (x : DKndKind) (w : World) :
    Calls Tryz.prog 106 #[.agg #[.int .i64 x.fKind, .string x.fName]] w fun e w' => e = .returned (.agg #[.int .i64 x.fKind, .string x.fName]) ∧ Below w.heap.size w w' := by
  refine calls_hide fun R HR => ?_
  go_enter Tryz.func106, Tryz.ntmps106
  go_wp2
  all_goals
    refine bodyPost_ret (v := ?_) ?hrun rfl ?_
    case hrun => (simp only [results, Tryz.results106]; go_simp; first | done | exact rfl)
    exact HR.out _ _ ⟨rfl, by (repeat' (first | (with_reducible exact Below.refl _ _) | (with_reducible refine Below.alloc ?_ ?_ _) | (with_reducible refine Below.setCell ?_ ?_ _) | (with_reducible refine Below.drew ?_) | (refine below_hyp (by assumption) ?_ ?_) | go_size))⟩

set_option maxHeartbeats 2000000 in
theorem L_eqKndKind (x : DKndKind) (w : World) :
    Calls Tryz.prog 114 #[.agg #[.int .i64 x.fKind, .string x.fName], .agg #[.int .i64 x.fKind, .string x.fName]] w fun e w' => e = .returned (.bool true) ∧ Below w.heap.size w w' := by
  refine calls_hide fun R HR => ?_
  go_enter Tryz.func114, Tryz.ntmps114
  go_wp2
  all_goals (try go_returns)
  all_goals exact HR.out _ _ ⟨rfl, by (repeat' (first | (with_reducible exact Below.refl _ _) | (with_reducible refine Below.alloc ?_ ?_ _) | (with_reducible refine Below.setCell ?_ ?_ _) | (with_reducible refine Below.drew ?_) | (refine below_hyp (by assumption) ?_ ?_) | go_size))⟩

set_option maxHeartbeats 2000000 in
theorem L_szKndKindS (xs : List DKndKind) (v : Value) (l : Int) (w : World) (hv : Sl 2 rKndKind 0 w v xs) (hl0 : 0 ≤ l ∧ l ≤ 1048576) :
    Calls Tryz.prog 103 #[v, .int .i64 l] w fun e w' => (∃ r : Int, e = .returned (.int .i64 r) ∧ (r = -1 ∨ (0 ≤ r ∧ r + wtS wtKndKind xs ≤ l))) ∧ Below w.heap.size w w' := by
  obtain ⟨a, len, cap, rfl, hl, h1, h2, h3⟩ := id hv
  have m1 : len ≤ 9223372036854775807 := by unfold maxLen at h2; omega
  have HL := Lib.hid hl
  have H1 := Lib.hid h1
  obtain ⟨l1, l2⟩ := hl0
  clear h2 hl h1
  refine calls_hide fun R HR => ?_
  go_enter Tryz.func103, Tryz.ntmps103
  go_wp2_with fail
  all_goals first
    | (try go_returns
       exact HR.out _ _ ⟨⟨_, rfl, Or.inl rfl⟩, by (repeat' (first | (with_reducible exact Below.refl _ _) | (with_reducible refine Below.alloc ?_ ?_ _) | (with_reducible refine Below.setCell ?_ ?_ _) | (with_reducible refine Below.drew ?_) | (refine below_hyp (by assumption) ?_ ?_) | go_size))⟩)
    | skip
  go_loopw [1, 5] (fun lv i wr => ∃ (k : Nat) (c : Int), k ≤ len ∧ i = .int .i64 k ∧ lv = .int .i64 c ∧ 0 ≤ c ∧ c + (len : Int) + (((xs.take k).map wtKndKind).sum : Nat) ≤ l ∧ Below w.heap.size w wr) (fun _ i _ => len - (intOf i).toNat)
  case atStart => exact ⟨0, _, Nat.zero_le _, rfl, rfl, by omega, by first | (simp; done) | (simp; omega), by (repeat' (first | (with_reducible exact Below.refl _ _) | (with_reducible refine Below.alloc ?_ ?_ _) | (with_reducible refine Below.setCell ?_ ?_ _) | (with_reducible refine Below.drew ?_) | (refine below_hyp (by assumption) ?_ ?_) | go_size))⟩
  case round =>
    obtain ⟨k, c, hk, rfl, rfl, hc1, hc2, hb⟩ := hrel
    have hbx := hb.size
    by_cases hlt : k < len
    · obtain ⟨b, off, rfl, hlo, hbl, hr⟩ := h3.stays rKndKind_good (Keeps.of_below hb) (by omega)
      obtain ⟨x, cs, e0, e1, e2, e3⟩ := hr k hlt
      have hw := take_wt wtKndKind e0
      obtain ⟨rfl, b1⟩ := e3
      have q1 : wr.cell? ⟨b, off + k * 2, none⟩ = some (.int .i64 x.fKind) := e2 0 _ rfl
      have q2 : wr.cell? ⟨b, off + k * 2 + 1, none⟩ = some (.string x.fName) := e2 1 _ rfl
      clear e1 e2 hr
      have hcl : c ≤ 1048576 := by omega
      go_wp2_with fail
      refine (L_szKndKind x _ _ b1 ⟨by omega, by omega⟩).mono ?_
      rintro _ wA ⟨⟨r, rfl, hr⟩, hA⟩
      have hz := hA.size
      clear q1 q2
      rcases hr with rfl | ⟨ra, rb⟩
      · go_wp2
        all_goals (try go_returns)
        all_goals exact HR.out _ _ ⟨⟨_, rfl, Or.inl rfl⟩, by (repeat' (first | (with_reducible exact Below.refl _ _) | (with_reducible refine Below.alloc ?_ ?_ _) | (with_reducible refine Below.setCell ?_ ?_ _) | (with_reducible refine Below.drew ?_) | (refine below_hyp (by assumption) ?_ ?_) | go_size))⟩
      have rn : ¬ r < 0 := by omega
      go_wp2
      go_roundw
      case measure => simp [intOf]; omega
      case rel => exact ⟨k + 1, r, by omega, by go_num, rfl, by omega, by omega, by (repeat' (first | (with_reducible exact Below.refl _ _) | (with_reducible refine Below.alloc ?_ ?_ _) | (with_reducible refine Below.setCell ?_ ?_ _) | (with_reducible refine Below.drew ?_) | (refine below_hyp (by assumption) ?_ ?_) | go_size))⟩
    · obtain rfl : k = len := by omega
      go_wp2
      all_goals (try go_returns)
      all_goals exact HR.out _ _ ⟨⟨_, rfl, Or.inr ⟨by omega, by rw [wtS, HL.out]; rw [List.take_of_length_le (by rw [HL.out]; exact Nat.le_refl _)] at hc2; omega⟩⟩, by (repeat' (first | (with_reducible exact Below.refl _ _) | (with_reducible refine Below.alloc ?_ ?_ _) | (with_reducible refine Below.setCell ?_ ?_ _) | (with_reducible refine Below.drew ?_) | (refine below_hyp (by assumption) ?_ ?_) | go_size))⟩

set_option maxHeartbeats 2000000 in
theorem L_toKndKindS (xs : List DKndKind) (v : Value) (w : World) (hv : Sl 2 rKndKind 0 w v xs) (hs : xs.length ≤ 1048576) :
    Calls Tryz.prog 107 #[v] w fun e w' => (∃ v', e = .returned v' ∧ Sl 2 rKndKind w.heap.size w' v' xs) ∧ Below w.heap.size w w' := by
  obtain ⟨a, len, cap, rfl, hl, h1, h2, h3⟩ := id hv
  have hs' : len ≤ 1048576 := by omega
  have hmk := make_rows (P := Tryz.prog) w 117 113 (.agg #[.int .i64 0, .string ⟨#[]⟩]) 2 24 (by kernel_rfl) (by kernel_rfl) (by omega) len hs'
  have hP := Part.start (k := 2) (R := rKndKind) (w := w) (len := len) (xs := xs) (Value.cells (.agg #[.int .i64 0, .string ⟨#[]⟩])) 113
  have hB : Below w.heap.size w (w.alloc (.cells (madeCells (Value.cells (.agg #[.int .i64 0, .string ⟨#[]⟩])) (len * 2)) 113)) := by (repeat' (first | (with_reducible exact Below.refl _ _) | (with_reducible refine Below.alloc ?_ ?_ _) | (with_reducible refine Below.setCell ?_ ?_ _) | (with_reducible refine Below.drew ?_) | (refine below_hyp (by assumption) ?_ ?_) | go_size))
  have m1 : len ≤ 9223372036854775807 := by omega
  have m2 : len ≤ maxLen := by unfold maxLen; omega
  have hsz : (w.alloc (.cells (madeCells (Value.cells (.agg #[.int .i64 0, .string ⟨#[]⟩])) (len * 2)) 113)).heap.size = w.heap.size + 1 := by simp
  generalize w.alloc (.cells (madeCells (Value.cells (.agg #[.int .i64 0, .string ⟨#[]⟩])) (len * 2)) 113) = wm at *
  have HL := Lib.hid hl
  have H1 := Lib.hid h1
  have HS := Lib.hid hs'
  have M2 := Lib.hid m2
  clear h2 hl h1 hs hs' m2
  refine calls_hide fun R HR => ?_
  go_enter Tryz.func107, Tryz.ntmps107
  go_wp2_with fail
  go_loopw [4] (fun i wr => ∃ k : Nat, k ≤ len ∧ i = .int .i64 k ∧ Below w.heap.size w wr ∧ Part 2 rKndKind wr w.heap.size len k xs) (fun i _ => len - (intOf i).toNat)
  case atStart => exact ⟨0, Nat.zero_le _, rfl, hB, hP⟩
  case round =>
    clear hmk hP hB hsz
    obtain ⟨k, hk, rfl, hb, hp⟩ := hrel
    by_cases hlt : k < len
    · obtain ⟨b, off, rfl, hlo, hbl, hr⟩ := h3.stays rKndKind_good (Keeps.of_below hb) (by omega)
      obtain ⟨x, cs, e0, e1, e2, e3⟩ := hr k hlt
      obtain ⟨rfl, b1⟩ := e3
      have q1 : wr.cell? ⟨b, off + k * 2, none⟩ = some (.int .i64 x.fKind) := e2 0 _ rfl
      have q2 : wr.cell? ⟨b, off + k * 2 + 1, none⟩ = some (.string x.fName) := e2 1 _ rfl
      have hbx := hb.size
      have hpl := hp.lt
      clear e1 e2 hr
      go_wp2_with fail
      refine (L_toKndKind x _).mono ?_
      rintro _ wA ⟨rfl, hA⟩
      have hz := hA.size
      have hp' := hp.below rKndKind_good hA
      have t00 := hp'.there (k * 2) (by omega)
      rw [Nat.zero_add] at t00
      obtain ⟨u00, hu0⟩ := Option.isSome_iff_exists.1 t00.1
      have hf0 := t00.2
      have t01 := hp'.there (k * 2 + 1) (by omega)
      rw [Nat.zero_add] at t01
      obtain ⟨u01, hu1⟩ := Option.isSome_iff_exists.1 t01.1
      have hf1 := t01.2
      clear t00 t01 q1 q2
      have h7 := hp'.step rKndKind_good hlt e0 (cs := [.int .i64 x.fKind, .string x.fName]) rfl ⟨rfl, b1⟩
      simp only [World.setCells, Nat.add_assoc, Nat.reduceAdd] at h7
      have H7 := Lib.hid h7
      clear h7
      go_wp2
      go_roundw
      case measure => simp [intOf]; omega
      case rel => exact ⟨k + 1, by omega, by go_num, by (repeat' (first | (with_reducible exact Below.refl _ _) | (with_reducible refine Below.alloc ?_ ?_ _) | (with_reducible refine Below.setCell ?_ ?_ _) | (with_reducible refine Below.drew ?_) | (refine below_hyp (by assumption) ?_ ?_) | go_size)), H7.out⟩
    · obtain rfl : k = len := by omega
      go_wp2
      all_goals (try go_returns)
      all_goals exact HR.out _ _ ⟨⟨_, rfl, hp.done rKndKind_good HL.out M2.out⟩, by (repeat' (first | (with_reducible exact Below.refl _ _) | (with_reducible refine Below.alloc ?_ ?_ _) | (with_reducible refine Below.setCell ?_ ?_ _) | (with_reducible refine Below.drew ?_) | (refine below_hyp (by assumption) ?_ ?_) | go_size))⟩

set_option maxHeartbeats 2000000 in
theorem L_eqKndKindS (xs : List DKndKind) (v v' : Value) (w : World) (hv : Sl 2 rKndKind 0 w v xs) (hv' : Sl 2 rKndKind 0 w v' xs) :
    Calls Tryz.prog 115 #[v, v'] w fun e w' => e = .returned (.bool true) ∧ Below w.heap.size w w' := by
  obtain ⟨a, len, cap, rfl, hl, h1, h2, h3⟩ := id hv
  obtain ⟨a', len', cap', rfl, hl', h1', h2', h3'⟩ := id hv'
  obtain rfl : len' = len := hl'.symm.trans hl
  have m1 : len' ≤ 9223372036854775807 := by unfold maxLen at h2; omega
  have HL := Lib.hid hl
  have H1 := Lib.hid h1
  have H1' := Lib.hid h1'
  clear h2 h2' hl hl' h1 h1'
  refine calls_hide fun R HR => ?_
  go_enter Tryz.func115, Tryz.ntmps115
  go_wp2_with fail
  go_loopw [5] (fun i wr => ∃ k : Nat, k ≤ len' ∧ i = .int .i64 k ∧ Below w.heap.size w wr) (fun i _ => len' - (intOf i).toNat)
  case atStart => exact ⟨0, Nat.zero_le _, rfl, by (repeat' (first | (with_reducible exact Below.refl _ _) | (with_reducible refine Below.alloc ?_ ?_ _) | (with_reducible refine Below.setCell ?_ ?_ _) | (with_reducible refine Below.drew ?_) | (refine below_hyp (by assumption) ?_ ?_) | go_size))⟩
  case round =>
    obtain ⟨k, hk, rfl, hb⟩ := hrel
    by_cases hlt : k < len'
    · obtain ⟨b, off, rfl, hlo, hbl, hr⟩ := h3.stays rKndKind_good (Keeps.of_below hb) (by omega)
      obtain ⟨b', off', rfl, hlo', hbl', hr'⟩ := h3'.stays rKndKind_good (Keeps.of_below hb) (by omega)
      obtain ⟨x, cs, e0, e1, e2, e3⟩ := hr k hlt
      obtain ⟨x', cs', e0', e1', e2', e3'⟩ := hr' k hlt
      obtain rfl : x = x' := Option.some.inj (e0.symm.trans e0')
      obtain ⟨rfl, b1⟩ := e3
      obtain ⟨rfl, db1⟩ := e3'
      go_wp2_with fail
      have q1 : ∀ W, Below wr.heap.size wr W → W.cell? ⟨b, off + k * 2, none⟩ = some (.int .i64 x.fKind) := fun W hW => range_below e2 hW hbl 0 _ rfl
      have q2 : ∀ W, Below wr.heap.size wr W → W.cell? ⟨b, off + k * 2 + 1, none⟩ = some (.string x.fName) := fun W hW => range_below e2 hW hbl 1 _ rfl
      have o1 : ∀ W, Below wr.heap.size wr W → W.cell? ⟨b', off' + k * 2, none⟩ = some (.int .i64 x.fKind) := fun W hW => range_below e2' hW hbl' 0 _ rfl
      have o2 : ∀ W, Below wr.heap.size wr W → W.cell? ⟨b', off' + k * 2 + 1, none⟩ = some (.string x.fName) := fun W hW => range_below e2' hW hbl' 1 _ rfl
      clear e1 e2 e1' e2' hr hr'
      have hbx := hb.size
      have keepA : ∀ x x' : World, Below x.heap.size x x' → Below wr.heap.size wr x → Below wr.heap.size wr x' := fun x x' hb e => keep_below hb e (Nat.le_refl _)
      go_region_held3 (fun x => Below wr.heap.size wr x) (first | exact (Below.refl _ _).drew | exact keepA _ _ (by assumption) (by assumption)) (first | (go_at_call 114; refine (L_eqKndKind x _).mono ?_; rintro _ _ ⟨rfl, _⟩))
      rename_i wA _ hA
      have hz := hA.size
      clear q1 o1 q2 o2 keepA
      go_wp2
      go_roundw
      case measure => simp [intOf]; omega
      case rel => exact ⟨k + 1, by omega, by go_num, hb.trans (hA.mono hbx)⟩
    · skip
      go_wp2
      all_goals (try go_returns)
      all_goals exact HR.out _ _ ⟨rfl, by (repeat' (first | (with_reducible exact Below.refl _ _) | (with_reducible refine Below.alloc ?_ ?_ _) | (with_reducible refine Below.setCell ?_ ?_ _) | (with_reducible refine Below.drew ?_) | (refine below_hyp (by assumption) ?_ ?_) | go_size))⟩

set_option maxHeartbeats 2000000 in
theorem L_szClsField (x : DClsField) (l : Int) (w : World) (b1 : x.fName.size ≤ maxLen) (b2 : x.fKind.fName.size ≤ maxLen) (hl : 0 ≤ l ∧ l ≤ 1048576) :
    Calls Tryz.prog 92 #[.agg #[.string x.fName, .int .i64 x.fKind.fKind, .string x.fKind.fName], .int .i64 l] w fun e w' => (∃ r : Int, e = .returned (.int .i64 r) ∧ (r = -1 ∨ (0 ≤ r ∧ r + wtClsField x ≤ l))) ∧ Below w.heap.size w w' := by
  have m1 : x.fName.size ≤ 9223372036854775807 := by unfold maxLen at b1; omega
  have m2 : x.fKind.fName.size ≤ 9223372036854775807 := by unfold maxLen at b2; omega
  obtain ⟨hl1, hl2⟩ := hl
  refine calls_hide fun R HR => ?_
  go_enter Tryz.func92, Tryz.ntmps92
  go_wp2_with fail
  all_goals first
    | (try go_returns
       exact HR.out _ _ ⟨⟨_, rfl, by first | exact Or.inl rfl | exact Or.inr ⟨by omega, by unfold wtClsField; omega⟩⟩, by (repeat' (first | (with_reducible exact Below.refl _ _) | (with_reducible refine Below.alloc ?_ ?_ _) | (with_reducible refine Below.setCell ?_ ?_ _) | (with_reducible refine Below.drew ?_) | (refine below_hyp (by assumption) ?_ ?_) | go_size))⟩)
    | skip
  refine (L_szKndKind x.fKind _ _ b2 ⟨by omega, by omega⟩).mono ?_
  rintro _ w1 ⟨⟨r1, rfl, hr1⟩, g1⟩
  have g1s := (g1).size; (try simp only [World.size_alloc, World.size_setCell, World.size_drew] at g1s)
  obtain ⟨g1ac, g1ad, g1ao, g1af, g1ag, g1ap, g1az, g1ax, g1ay⟩ := bfacts (n := w.heap.size) (k := 1) g1 (by go_size) (by go_size); replace g1ad := g1ad (by decide); replace g1ag := g1ag (by decide); replace g1ax := g1ax (by decide); clear g1ac g1af g1az
  rcases hr1 with rfl | ⟨ra1, rb1⟩
  · go_wp2
    all_goals (try go_returns)
    all_goals exact HR.out _ _ ⟨⟨_, rfl, by first | exact Or.inl rfl | exact Or.inr ⟨by omega, by unfold wtClsField; omega⟩⟩, by (repeat' (first | (with_reducible exact Below.refl _ _) | (with_reducible refine Below.alloc ?_ ?_ _) | (with_reducible refine Below.setCell ?_ ?_ _) | (with_reducible refine Below.drew ?_) | (refine below_hyp (by assumption) ?_ ?_) | go_size))⟩
  have rn1 : ¬ r1 < 0 := by omega
  go_wp2
  all_goals (try go_returns)
  all_goals exact HR.out _ _ ⟨⟨_, rfl, by first | exact Or.inl rfl | exact Or.inr ⟨by omega, by unfold wtClsField; omega⟩⟩, by (repeat' (first | (with_reducible exact Below.refl _ _) | (with_reducible refine Below.alloc ?_ ?_ _) | (with_reducible refine Below.setCell ?_ ?_ _) | (with_reducible refine Below.drew ?_) | (refine below_hyp (by assumption) ?_ ?_) | go_size))⟩

set_option maxHeartbeats 2000000 in
theorem L_toClsField (x : DClsField) (w : World) :
    Calls Tryz.prog 94 #[.agg #[.string x.fName, .int .i64 x.fKind.fKind, .string x.fKind.fName]] w fun e w' => e = .returned (.agg #[.string x.fName, .int .i64 x.fKind.fKind, .string x.fKind.fName]) ∧ Below w.heap.size w w' := by
  refine calls_hide fun R HR => ?_
  go_enter Tryz.func94, Tryz.ntmps94
  go_wp2_with fail
  refine (L_toKndKind x.fKind _).mono ?_
  rintro _ w1 ⟨rfl, g1⟩
  have g1s := (g1).size; (try simp only [World.size_alloc, World.size_setCell, World.size_drew] at g1s)
  obtain ⟨g1ac, g1ad, g1ao, g1af, g1ag, g1ap, g1az, g1ax, g1ay⟩ := bfacts (n := w.heap.size) (k := 3) g1 (by go_size) (by go_size); replace g1ad := g1ad (by decide); replace g1ag := g1ag (by decide); replace g1ax := g1ax (by decide); have g1ac1 := fun o => g1ac 1 o (by decide); have g1af1 := fun o => g1af 1 o (by decide); have g1az1 := g1az 1 (by decide); have g1ac2 := fun o => g1ac 2 o (by decide); have g1af2 := fun o => g1af 2 o (by decide); have g1az2 := g1az 2 (by decide); clear g1ac g1af g1az
  go_wp2
  all_goals
    refine bodyPost_ret (v := ?_) ?hrun rfl ?_
    case hrun => (simp only [results, Tryz.results94]; go_simp; first | done | exact rfl)
    exact HR.out _ _ ⟨rfl, by (repeat' (first | (with_reducible exact Below.refl _ _) | (with_reducible refine Below.alloc ?_ ?_ _) | (with_reducible refine Below.setCell ?_ ?_ _) | (with_reducible refine Below.drew ?_) | (refine below_hyp (by assumption) ?_ ?_) | go_size))⟩

set_option maxHeartbeats 2000000 in
theorem L_eqClsField (x : DClsField) (w : World) :
    Calls Tryz.prog 98 #[.agg #[.string x.fName, .int .i64 x.fKind.fKind, .string x.fKind.fName], .agg #[.string x.fName, .int .i64 x.fKind.fKind, .string x.fKind.fName]] w fun e w' => e = .returned (.bool true) ∧ Below w.heap.size w w' := by
  refine calls_hide fun R HR => ?_
  go_enter Tryz.func98, Tryz.ntmps98
  go_wp2_with fail
  refine (L_eqKndKind x.fKind _).mono ?_
  rintro _ w1 ⟨rfl, g1⟩
  have g1s := (g1).size; (try simp only [World.size_alloc, World.size_setCell, World.size_drew] at g1s)
  obtain ⟨g1ac, g1ad, g1ao, g1af, g1ag, g1ap, g1az, g1ax, g1ay⟩ := bfacts (n := w.heap.size) (k := 2) g1 (by go_size) (by go_size); replace g1ad := g1ad (by decide); replace g1ag := g1ag (by decide); replace g1ax := g1ax (by decide); have g1ac1 := fun o => g1ac 1 o (by decide); have g1af1 := fun o => g1af 1 o (by decide); have g1az1 := g1az 1 (by decide); clear g1ac g1af g1az
  go_wp2
  all_goals (try go_returns)
  all_goals exact HR.out _ _ ⟨rfl, by (repeat' (first | (with_reducible exact Below.refl _ _) | (with_reducible refine Below.alloc ?_ ?_ _) | (with_reducible refine Below.setCell ?_ ?_ _) | (with_reducible refine Below.drew ?_) | (refine below_hyp (by assumption) ?_ ?_) | go_size))⟩

set_option maxHeartbeats 2000000 in
theorem L_szClsFieldS (xs : List DClsField) (v : Value) (l : Int) (w : World) (hv : Sl 3 rClsField 0 w v xs) (hl0 : 0 ≤ l ∧ l ≤ 1048576) :
    Calls Tryz.prog 80 #[v, .int .i64 l] w fun e w' => (∃ r : Int, e = .returned (.int .i64 r) ∧ (r = -1 ∨ (0 ≤ r ∧ r + wtS wtClsField xs ≤ l))) ∧ Below w.heap.size w w' := by
  obtain ⟨a, len, cap, rfl, hl, h1, h2, h3⟩ := id hv
  have m1 : len ≤ 9223372036854775807 := by unfold maxLen at h2; omega
  have HL := Lib.hid hl
  have H1 := Lib.hid h1
  obtain ⟨l1, l2⟩ := hl0
  clear h2 hl h1
  refine calls_hide fun R HR => ?_
  go_enter Tryz.func80, Tryz.ntmps80
  go_wp2_with fail
  all_goals first
    | (try go_returns
       exact HR.out _ _ ⟨⟨_, rfl, Or.inl rfl⟩, by (repeat' (first | (with_reducible exact Below.refl _ _) | (with_reducible refine Below.alloc ?_ ?_ _) | (with_reducible refine Below.setCell ?_ ?_ _) | (with_reducible refine Below.drew ?_) | (refine below_hyp (by assumption) ?_ ?_) | go_size))⟩)
    | skip
  go_loopw [1, 5] (fun lv i wr => ∃ (k : Nat) (c : Int), k ≤ len ∧ i = .int .i64 k ∧ lv = .int .i64 c ∧ 0 ≤ c ∧ c + (len : Int) + (((xs.take k).map wtClsField).sum : Nat) ≤ l ∧ Below w.heap.size w wr) (fun _ i _ => len - (intOf i).toNat)
  case atStart => exact ⟨0, _, Nat.zero_le _, rfl, rfl, by omega, by first | (simp; done) | (simp; omega), by (repeat' (first | (with_reducible exact Below.refl _ _) | (with_reducible refine Below.alloc ?_ ?_ _) | (with_reducible refine Below.setCell ?_ ?_ _) | (with_reducible refine Below.drew ?_) | (refine below_hyp (by assumption) ?_ ?_) | go_size))⟩
  case round =>
    obtain ⟨k, c, hk, rfl, rfl, hc1, hc2, hb⟩ := hrel
    have hbx := hb.size
    by_cases hlt : k < len
    · obtain ⟨b, off, rfl, hlo, hbl, hr⟩ := h3.stays rClsField_good (Keeps.of_below hb) (by omega)
      obtain ⟨x, cs, e0, e1, e2, e3⟩ := hr k hlt
      have hw := take_wt wtClsField e0
      obtain ⟨rfl, b1, b2⟩ := e3
      have q1 : wr.cell? ⟨b, off + k * 3, none⟩ = some (.string x.fName) := e2 0 _ rfl
      have q2 : wr.cell? ⟨b, off + k * 3 + 1, none⟩ = some (.int .i64 x.fKind.fKind) := e2 1 _ rfl
      have q3 : wr.cell? ⟨b, off + k * 3 + 2, none⟩ = some (.string x.fKind.fName) := e2 2 _ rfl
      clear e1 e2 hr
      have hcl : c ≤ 1048576 := by omega
      go_wp2_with fail
      refine (L_szClsField x _ _ b1 b2 ⟨by omega, by omega⟩).mono ?_
      rintro _ wA ⟨⟨r, rfl, hr⟩, hA⟩
      have hz := hA.size
      clear q1 q2 q3
      rcases hr with rfl | ⟨ra, rb⟩
      · go_wp2
        all_goals (try go_returns)
        all_goals exact HR.out _ _ ⟨⟨_, rfl, Or.inl rfl⟩, by (repeat' (first | (with_reducible exact Below.refl _ _) | (with_reducible refine Below.alloc ?_ ?_ _) | (with_reducible refine Below.setCell ?_ ?_ _) | (with_reducible refine Below.drew ?_) | (refine below_hyp (by assumption) ?_ ?_) | go_size))⟩
      have rn : ¬ r < 0 := by omega
      go_wp2
      go_roundw
      case measure => simp [intOf]; omega
      case rel => exact ⟨k + 1, r, by omega, by go_num, rfl, by omega, by omega, by (repeat' (first | (with_reducible exact Below.refl _ _) | (with_reducible refine Below.alloc ?_ ?_ _) | (with_reducible refine Below.setCell ?_ ?_ _) | (with_reducible refine Below.drew ?_) | (refine below_hyp (by assumption) ?_ ?_) | go_size))⟩
    · obtain rfl : k = len := by omega
      go_wp2
      all_goals (try go_returns)
      all_goals exact HR.out _ _ ⟨⟨_, rfl, Or.inr ⟨by omega, by rw [wtS, HL.out]; rw [List.take_of_length_le (by rw [HL.out]; exact Nat.le_refl _)] at hc2; omega⟩⟩, by (repeat' (first | (with_reducible exact Below.refl _ _) | (with_reducible refine Below.alloc ?_ ?_ _) | (with_reducible refine Below.setCell ?_ ?_ _) | (with_reducible refine Below.drew ?_) | (refine below_hyp (by assumption) ?_ ?_) | go_size))⟩

set_option maxHeartbeats 2000000 in
theorem L_toClsFieldS (xs : List DClsField) (v : Value) (w : World) (hv : Sl 3 rClsField 0 w v xs) (hs : xs.length ≤ 1048576) :
    Calls Tryz.prog 82 #[v] w fun e w' => (∃ v', e = .returned v' ∧ Sl 3 rClsField w.heap.size w' v' xs) ∧ Below w.heap.size w w' := by
  obtain ⟨a, len, cap, rfl, hl, h1, h2, h3⟩ := id hv
  have hs' : len ≤ 1048576 := by omega
  have hmk := make_rows (P := Tryz.prog) w 66 115 (.agg #[.string ⟨#[]⟩, .int .i64 0, .string ⟨#[]⟩]) 3 40 (by kernel_rfl) (by kernel_rfl) (by omega) len hs'
  have hP := Part.start (k := 3) (R := rClsField) (w := w) (len := len) (xs := xs) (Value.cells (.agg #[.string ⟨#[]⟩, .int .i64 0, .string ⟨#[]⟩])) 115
  have hB : Below w.heap.size w (w.alloc (.cells (madeCells (Value.cells (.agg #[.string ⟨#[]⟩, .int .i64 0, .string ⟨#[]⟩])) (len * 3)) 115)) := by (repeat' (first | (with_reducible exact Below.refl _ _) | (with_reducible refine Below.alloc ?_ ?_ _) | (with_reducible refine Below.setCell ?_ ?_ _) | (with_reducible refine Below.drew ?_) | (refine below_hyp (by assumption) ?_ ?_) | go_size))
  have m1 : len ≤ 9223372036854775807 := by omega
  have m2 : len ≤ maxLen := by unfold maxLen; omega
  have hsz : (w.alloc (.cells (madeCells (Value.cells (.agg #[.string ⟨#[]⟩, .int .i64 0, .string ⟨#[]⟩])) (len * 3)) 115)).heap.size = w.heap.size + 1 := by simp
  generalize w.alloc (.cells (madeCells (Value.cells (.agg #[.string ⟨#[]⟩, .int .i64 0, .string ⟨#[]⟩])) (len * 3)) 115) = wm at *
  have HL := Lib.hid hl
  have H1 := Lib.hid h1
  have HS := Lib.hid hs'
  have M2 := Lib.hid m2
  clear h2 hl h1 hs hs' m2
  refine calls_hide fun R HR => ?_
  go_enter Tryz.func82, Tryz.ntmps82
  go_wp2_with fail
  go_loopw [4] (fun i wr => ∃ k : Nat, k ≤ len ∧ i = .int .i64 k ∧ Below w.heap.size w wr ∧ Part 3 rClsField wr w.heap.size len k xs) (fun i _ => len - (intOf i).toNat)
  case atStart => exact ⟨0, Nat.zero_le _, rfl, hB, hP⟩
  case round =>
    clear hmk hP hB hsz
    obtain ⟨k, hk, rfl, hb, hp⟩ := hrel
    by_cases hlt : k < len
    · obtain ⟨b, off, rfl, hlo, hbl, hr⟩ := h3.stays rClsField_good (Keeps.of_below hb) (by omega)
      obtain ⟨x, cs, e0, e1, e2, e3⟩ := hr k hlt
      obtain ⟨rfl, b1, b2⟩ := e3
      have q1 : wr.cell? ⟨b, off + k * 3, none⟩ = some (.string x.fName) := e2 0 _ rfl
      have q2 : wr.cell? ⟨b, off + k * 3 + 1, none⟩ = some (.int .i64 x.fKind.fKind) := e2 1 _ rfl
      have q3 : wr.cell? ⟨b, off + k * 3 + 2, none⟩ = some (.string x.fKind.fName) := e2 2 _ rfl
      have hbx := hb.size
      have hpl := hp.lt
      clear e1 e2 hr
      go_wp2_with fail
      refine (L_toClsField x _).mono ?_
      rintro _ wA ⟨rfl, hA⟩
      have hz := hA.size
      have hp' := hp.below rClsField_good hA
      have t00 := hp'.there (k * 3) (by omega)
      rw [Nat.zero_add] at t00
      obtain ⟨u00, hu0⟩ := Option.isSome_iff_exists.1 t00.1
      have hf0 := t00.2
      have t01 := hp'.there (k * 3 + 1) (by omega)
      rw [Nat.zero_add] at t01
      obtain ⟨u01, hu1⟩ := Option.isSome_iff_exists.1 t01.1
      have hf1 := t01.2
      have t02 := hp'.there (k * 3 + 2) (by omega)
      rw [Nat.zero_add] at t02
      obtain ⟨u02, hu2⟩ := Option.isSome_iff_exists.1 t02.1
      have hf2 := t02.2
      clear t00 t01 t02 q1 q2 q3
      have h7 := hp'.step rClsField_good hlt e0 (cs := [.string x.fName, .int .i64 x.fKind.fKind, .string x.fKind.fName]) rfl ⟨rfl, b1, b2⟩
      simp only [World.setCells, Nat.add_assoc, Nat.reduceAdd] at h7
      have H7 := Lib.hid h7
      clear h7
      go_wp2
      go_roundw
      case measure => simp [intOf]; omega
      case rel => exact ⟨k + 1, by omega, by go_num, by (repeat' (first | (with_reducible exact Below.refl _ _) | (with_reducible refine Below.alloc ?_ ?_ _) | (with_reducible refine Below.setCell ?_ ?_ _) | (with_reducible refine Below.drew ?_) | (refine below_hyp (by assumption) ?_ ?_) | go_size)), H7.out⟩
    · obtain rfl : k = len := by omega
      go_wp2
      all_goals (try go_returns)
      all_goals exact HR.out _ _ ⟨⟨_, rfl, hp.done rClsField_good HL.out M2.out⟩, by (repeat' (first | (with_reducible exact Below.refl _ _) | (with_reducible refine Below.alloc ?_ ?_ _) | (with_reducible refine Below.setCell ?_ ?_ _) | (with_reducible refine Below.drew ?_) | (refine below_hyp (by assumption) ?_ ?_) | go_size))⟩

set_option maxHeartbeats 2000000 in
theorem L_eqClsFieldS (xs : List DClsField) (v v' : Value) (w : World) (hv : Sl 3 rClsField 0 w v xs) (hv' : Sl 3 rClsField 0 w v' xs) :
    Calls Tryz.prog 87 #[v, v'] w fun e w' => e = .returned (.bool true) ∧ Below w.heap.size w w' := by
  obtain ⟨a, len, cap, rfl, hl, h1, h2, h3⟩ := id hv
  obtain ⟨a', len', cap', rfl, hl', h1', h2', h3'⟩ := id hv'
  obtain rfl : len' = len := hl'.symm.trans hl
  have m1 : len' ≤ 9223372036854775807 := by unfold maxLen at h2; omega
  have HL := Lib.hid hl
  have H1 := Lib.hid h1
  have H1' := Lib.hid h1'
  clear h2 h2' hl hl' h1 h1'
  refine calls_hide fun R HR => ?_
  go_enter Tryz.func87, Tryz.ntmps87
  go_wp2_with fail
  go_loopw [5] (fun i wr => ∃ k : Nat, k ≤ len' ∧ i = .int .i64 k ∧ Below w.heap.size w wr) (fun i _ => len' - (intOf i).toNat)
  case atStart => exact ⟨0, Nat.zero_le _, rfl, by (repeat' (first | (with_reducible exact Below.refl _ _) | (with_reducible refine Below.alloc ?_ ?_ _) | (with_reducible refine Below.setCell ?_ ?_ _) | (with_reducible refine Below.drew ?_) | (refine below_hyp (by assumption) ?_ ?_) | go_size))⟩
  case round =>
    obtain ⟨k, hk, rfl, hb⟩ := hrel
    by_cases hlt : k < len'
    · obtain ⟨b, off, rfl, hlo, hbl, hr⟩ := h3.stays rClsField_good (Keeps.of_below hb) (by omega)
      obtain ⟨b', off', rfl, hlo', hbl', hr'⟩ := h3'.stays rClsField_good (Keeps.of_below hb) (by omega)
      obtain ⟨x, cs, e0, e1, e2, e3⟩ := hr k hlt
      obtain ⟨x', cs', e0', e1', e2', e3'⟩ := hr' k hlt
      obtain rfl : x = x' := Option.some.inj (e0.symm.trans e0')
      obtain ⟨rfl, b1, b2⟩ := e3
      obtain ⟨rfl, db1, db2⟩ := e3'
      go_wp2_with fail
      have q1 : ∀ W, Below wr.heap.size wr W → W.cell? ⟨b, off + k * 3, none⟩ = some (.string x.fName) := fun W hW => range_below e2 hW hbl 0 _ rfl
      have q2 : ∀ W, Below wr.heap.size wr W → W.cell? ⟨b, off + k * 3 + 1, none⟩ = some (.int .i64 x.fKind.fKind) := fun W hW => range_below e2 hW hbl 1 _ rfl
      have q3 : ∀ W, Below wr.heap.size wr W → W.cell? ⟨b, off + k * 3 + 2, none⟩ = some (.string x.fKind.fName) := fun W hW => range_below e2 hW hbl 2 _ rfl
      have o1 : ∀ W, Below wr.heap.size wr W → W.cell? ⟨b', off' + k * 3, none⟩ = some (.string x.fName) := fun W hW => range_below e2' hW hbl' 0 _ rfl
      have o2 : ∀ W, Below wr.heap.size wr W → W.cell? ⟨b', off' + k * 3 + 1, none⟩ = some (.int .i64 x.fKind.fKind) := fun W hW => range_below e2' hW hbl' 1 _ rfl
      have o3 : ∀ W, Below wr.heap.size wr W → W.cell? ⟨b', off' + k * 3 + 2, none⟩ = some (.string x.fKind.fName) := fun W hW => range_below e2' hW hbl' 2 _ rfl
      clear e1 e2 e1' e2' hr hr'
      have hbx := hb.size
      have keepA : ∀ x x' : World, Below x.heap.size x x' → Below wr.heap.size wr x → Below wr.heap.size wr x' := fun x x' hb e => keep_below hb e (Nat.le_refl _)
      go_region_held3 (fun x => Below wr.heap.size wr x) (first | exact (Below.refl _ _).drew | exact keepA _ _ (by assumption) (by assumption)) (first | (go_at_call 98; refine (L_eqClsField x _).mono ?_; rintro _ _ ⟨rfl, _⟩))
      rename_i wA _ hA
      have hz := hA.size
      clear q1 o1 q2 o2 q3 o3 keepA
      go_wp2
      go_roundw
      case measure => simp [intOf]; omega
      case rel => exact ⟨k + 1, by omega, by go_num, hb.trans (hA.mono hbx)⟩
    · skip
      go_wp2
      all_goals (try go_returns)
      all_goals exact HR.out _ _ ⟨rfl, by (repeat' (first | (with_reducible exact Below.refl _ _) | (with_reducible refine Below.alloc ?_ ?_ _) | (with_reducible refine Below.setCell ?_ ?_ _) | (with_reducible refine Below.drew ?_) | (refine below_hyp (by assumption) ?_ ?_) | go_size))⟩

set_option maxHeartbeats 2000000 in
theorem L_szClsIns (x : DClsIns) (l : Int) (w : World) (b1 : x.fName.size ≤ maxLen) (b2 : x.fMember.size ≤ maxLen) (hl : 0 ≤ l ∧ l ≤ 1048576) :
    Calls Tryz.prog 119 #[.agg #[.int .i64 x.fOp, .int .i64 x.fA, .string x.fName, .string x.fMember], .int .i64 l] w fun e w' => (∃ r : Int, e = .returned (.int .i64 r) ∧ (r = -1 ∨ (0 ≤ r ∧ r + wtClsIns x ≤ l))) ∧ Below w.heap.size w w' := by
  have m1 : x.fName.size ≤ 9223372036854775807 := by unfold maxLen at b1; omega
  have m2 : x.fMember.size ≤ 9223372036854775807 := by unfold maxLen at b2; omega
  obtain ⟨hl1, hl2⟩ := hl
  refine calls_hide fun R HR => ?_
  go_enter Tryz.func119, Tryz.ntmps119
  go_wp2
  all_goals (try go_returns)
  all_goals exact HR.out _ _ ⟨⟨_, rfl, by first | exact Or.inl rfl | exact Or.inr ⟨by omega, by unfold wtClsIns; omega⟩⟩, by (repeat' (first | (with_reducible exact Below.refl _ _) | (with_reducible refine Below.alloc ?_ ?_ _) | (with_reducible refine Below.setCell ?_ ?_ _) | (with_reducible refine Below.drew ?_) | (refine below_hyp (by assumption) ?_ ?_) | go_size))⟩

set_option maxHeartbeats 2000000 in
theorem L_toClsIns (x : DClsIns) (w : World) :
    Calls Tryz.prog 121 #[.agg #[.int .i64 x.fOp, .int .i64 x.fA, .string x.fName, .string x.fMember]] w fun e w' => e = .returned (.agg #[.int .i64 x.fOp, .int .i64 x.fA, .string x.fName, .string x.fMember]) ∧ Below w.heap.size w w' := by
  refine calls_hide fun R HR => ?_
  go_enter Tryz.func121, Tryz.ntmps121
  go_wp2
  all_goals
    refine bodyPost_ret (v := ?_) ?hrun rfl ?_
    case hrun => (simp only [results, Tryz.results121]; go_simp; first | done | exact rfl)
    exact HR.out _ _ ⟨rfl, by (repeat' (first | (with_reducible exact Below.refl _ _) | (with_reducible refine Below.alloc ?_ ?_ _) | (with_reducible refine Below.setCell ?_ ?_ _) | (with_reducible refine Below.drew ?_) | (refine below_hyp (by assumption) ?_ ?_) | go_size))⟩

set_option maxHeartbeats 2000000 in
theorem L_eqClsIns (x : DClsIns) (w : World) :
    Calls Tryz.prog 124 #[.agg #[.int .i64 x.fOp, .int .i64 x.fA, .string x.fName, .string x.fMember], .agg #[.int .i64 x.fOp, .int .i64 x.fA, .string x.fName, .string x.fMember]] w fun e w' => e = .returned (.bool true) ∧ Below w.heap.size w w' := by
  refine calls_hide fun R HR => ?_
  go_enter Tryz.func124, Tryz.ntmps124
  go_wp2
  all_goals (try go_returns)
  all_goals exact HR.out _ _ ⟨rfl, by (repeat' (first | (with_reducible exact Below.refl _ _) | (with_reducible refine Below.alloc ?_ ?_ _) | (with_reducible refine Below.setCell ?_ ?_ _) | (with_reducible refine Below.drew ?_) | (refine below_hyp (by assumption) ?_ ?_) | go_size))⟩

set_option maxHeartbeats 2000000 in
theorem L_szClsInsS (xs : List DClsIns) (v : Value) (l : Int) (w : World) (hv : Sl 4 rClsIns 0 w v xs) (hl0 : 0 ≤ l ∧ l ≤ 1048576) :
    Calls Tryz.prog 104 #[v, .int .i64 l] w fun e w' => (∃ r : Int, e = .returned (.int .i64 r) ∧ (r = -1 ∨ (0 ≤ r ∧ r + wtS wtClsIns xs ≤ l))) ∧ Below w.heap.size w w' := by
  obtain ⟨a, len, cap, rfl, hl, h1, h2, h3⟩ := id hv
  have m1 : len ≤ 9223372036854775807 := by unfold maxLen at h2; omega
  have HL := Lib.hid hl
  have H1 := Lib.hid h1
  obtain ⟨l1, l2⟩ := hl0
  clear h2 hl h1
  refine calls_hide fun R HR => ?_
  go_enter Tryz.func104, Tryz.ntmps104
  go_wp2_with fail
  all_goals first
    | (try go_returns
       exact HR.out _ _ ⟨⟨_, rfl, Or.inl rfl⟩, by (repeat' (first | (with_reducible exact Below.refl _ _) | (with_reducible refine Below.alloc ?_ ?_ _) | (with_reducible refine Below.setCell ?_ ?_ _) | (with_reducible refine Below.drew ?_) | (refine below_hyp (by assumption) ?_ ?_) | go_size))⟩)
    | skip
  go_loopw [1, 5] (fun lv i wr => ∃ (k : Nat) (c : Int), k ≤ len ∧ i = .int .i64 k ∧ lv = .int .i64 c ∧ 0 ≤ c ∧ c + (len : Int) + (((xs.take k).map wtClsIns).sum : Nat) ≤ l ∧ Below w.heap.size w wr) (fun _ i _ => len - (intOf i).toNat)
  case atStart => exact ⟨0, _, Nat.zero_le _, rfl, rfl, by omega, by first | (simp; done) | (simp; omega), by (repeat' (first | (with_reducible exact Below.refl _ _) | (with_reducible refine Below.alloc ?_ ?_ _) | (with_reducible refine Below.setCell ?_ ?_ _) | (with_reducible refine Below.drew ?_) | (refine below_hyp (by assumption) ?_ ?_) | go_size))⟩
  case round =>
    obtain ⟨k, c, hk, rfl, rfl, hc1, hc2, hb⟩ := hrel
    have hbx := hb.size
    by_cases hlt : k < len
    · obtain ⟨b, off, rfl, hlo, hbl, hr⟩ := h3.stays rClsIns_good (Keeps.of_below hb) (by omega)
      obtain ⟨x, cs, e0, e1, e2, e3⟩ := hr k hlt
      have hw := take_wt wtClsIns e0
      obtain ⟨rfl, b1, b2⟩ := e3
      have q1 : wr.cell? ⟨b, off + k * 4, none⟩ = some (.int .i64 x.fOp) := e2 0 _ rfl
      have q2 : wr.cell? ⟨b, off + k * 4 + 1, none⟩ = some (.int .i64 x.fA) := e2 1 _ rfl
      have q3 : wr.cell? ⟨b, off + k * 4 + 2, none⟩ = some (.string x.fName) := e2 2 _ rfl
      have q4 : wr.cell? ⟨b, off + k * 4 + 3, none⟩ = some (.string x.fMember) := e2 3 _ rfl
      clear e1 e2 hr
      have hcl : c ≤ 1048576 := by omega
      go_wp2_with fail
      refine (L_szClsIns x _ _ b1 b2 ⟨by omega, by omega⟩).mono ?_
      rintro _ wA ⟨⟨r, rfl, hr⟩, hA⟩
      have hz := hA.size
      clear q1 q2 q3 q4
      rcases hr with rfl | ⟨ra, rb⟩
      · go_wp2
        all_goals (try go_returns)
        all_goals exact HR.out _ _ ⟨⟨_, rfl, Or.inl rfl⟩, by (repeat' (first | (with_reducible exact Below.refl _ _) | (with_reducible refine Below.alloc ?_ ?_ _) | (with_reducible refine Below.setCell ?_ ?_ _) | (with_reducible refine Below.drew ?_) | (refine below_hyp (by assumption) ?_ ?_) | go_size))⟩
      have rn : ¬ r < 0 := by omega
      go_wp2
      go_roundw
      case measure => simp [intOf]; omega
      case rel => exact ⟨k + 1, r, by omega, by go_num, rfl, by omega, by omega, by (repeat' (first | (with_reducible exact Below.refl _ _) | (with_reducible refine Below.alloc ?_ ?_ _) | (with_reducible refine Below.setCell ?_ ?_ _) | (with_reducible refine Below.drew ?_) | (refine below_hyp (by assumption) ?_ ?_) | go_size))⟩
    · obtain rfl : k = len := by omega
      go_wp2
      all_goals (try go_returns)
      all_goals exact HR.out _ _ ⟨⟨_, rfl, Or.inr ⟨by omega, by rw [wtS, HL.out]; rw [List.take_of_length_le (by rw [HL.out]; exact Nat.le_refl _)] at hc2; omega⟩⟩, by (repeat' (first | (with_reducible exact Below.refl _ _) | (with_reducible refine Below.alloc ?_ ?_ _) | (with_reducible refine Below.setCell ?_ ?_ _) | (with_reducible refine Below.drew ?_) | (refine below_hyp (by assumption) ?_ ?_) | go_size))⟩

set_option maxHeartbeats 2000000 in
theorem L_toClsInsS (xs : List DClsIns) (v : Value) (w : World) (hv : Sl 4 rClsIns 0 w v xs) (hs : xs.length ≤ 1048576) :
    Calls Tryz.prog 108 #[v] w fun e w' => (∃ v', e = .returned v' ∧ Sl 4 rClsIns w.heap.size w' v' xs) ∧ Below w.heap.size w w' := by
  obtain ⟨a, len, cap, rfl, hl, h1, h2, h3⟩ := id hv
  have hs' : len ≤ 1048576 := by omega
  have hmk := make_rows (P := Tryz.prog) w 118 147 (.agg #[.int .i64 0, .int .i64 0, .string ⟨#[]⟩, .string ⟨#[]⟩]) 4 48 (by kernel_rfl) (by kernel_rfl) (by omega) len hs'
  have hP := Part.start (k := 4) (R := rClsIns) (w := w) (len := len) (xs := xs) (Value.cells (.agg #[.int .i64 0, .int .i64 0, .string ⟨#[]⟩, .string ⟨#[]⟩])) 147
  have hB : Below w.heap.size w (w.alloc (.cells (madeCells (Value.cells (.agg #[.int .i64 0, .int .i64 0, .string ⟨#[]⟩, .string ⟨#[]⟩])) (len * 4)) 147)) := by (repeat' (first | (with_reducible exact Below.refl _ _) | (with_reducible refine Below.alloc ?_ ?_ _) | (with_reducible refine Below.setCell ?_ ?_ _) | (with_reducible refine Below.drew ?_) | (refine below_hyp (by assumption) ?_ ?_) | go_size))
  have m1 : len ≤ 9223372036854775807 := by omega
  have m2 : len ≤ maxLen := by unfold maxLen; omega
  have hsz : (w.alloc (.cells (madeCells (Value.cells (.agg #[.int .i64 0, .int .i64 0, .string ⟨#[]⟩, .string ⟨#[]⟩])) (len * 4)) 147)).heap.size = w.heap.size + 1 := by simp
  generalize w.alloc (.cells (madeCells (Value.cells (.agg #[.int .i64 0, .int .i64 0, .string ⟨#[]⟩, .string ⟨#[]⟩])) (len * 4)) 147) = wm at *
  have HL := Lib.hid hl
  have H1 := Lib.hid h1
  have HS := Lib.hid hs'
  have M2 := Lib.hid m2
  clear h2 hl h1 hs hs' m2
  refine calls_hide fun R HR => ?_
  go_enter Tryz.func108, Tryz.ntmps108
  go_wp2_with fail
  go_loopw [4] (fun i wr => ∃ k : Nat, k ≤ len ∧ i = .int .i64 k ∧ Below w.heap.size w wr ∧ Part 4 rClsIns wr w.heap.size len k xs) (fun i _ => len - (intOf i).toNat)
  case atStart => exact ⟨0, Nat.zero_le _, rfl, hB, hP⟩
  case round =>
    clear hmk hP hB hsz
    obtain ⟨k, hk, rfl, hb, hp⟩ := hrel
    by_cases hlt : k < len
    · obtain ⟨b, off, rfl, hlo, hbl, hr⟩ := h3.stays rClsIns_good (Keeps.of_below hb) (by omega)
      obtain ⟨x, cs, e0, e1, e2, e3⟩ := hr k hlt
      obtain ⟨rfl, b1, b2⟩ := e3
      have q1 : wr.cell? ⟨b, off + k * 4, none⟩ = some (.int .i64 x.fOp) := e2 0 _ rfl
      have q2 : wr.cell? ⟨b, off + k * 4 + 1, none⟩ = some (.int .i64 x.fA) := e2 1 _ rfl
      have q3 : wr.cell? ⟨b, off + k * 4 + 2, none⟩ = some (.string x.fName) := e2 2 _ rfl
      have q4 : wr.cell? ⟨b, off + k * 4 + 3, none⟩ = some (.string x.fMember) := e2 3 _ rfl
      have hbx := hb.size
      have hpl := hp.lt
      clear e1 e2 hr
      go_wp2_with fail
      refine (L_toClsIns x _).mono ?_
      rintro _ wA ⟨rfl, hA⟩
      have hz := hA.size
      have hp' := hp.below rClsIns_good hA
      have t00 := hp'.there (k * 4) (by omega)
      rw [Nat.zero_add] at t00
      obtain ⟨u00, hu0⟩ := Option.isSome_iff_exists.1 t00.1
      have hf0 := t00.2
      have t01 := hp'.there (k * 4 + 1) (by omega)
      rw [Nat.zero_add] at t01
      obtain ⟨u01, hu1⟩ := Option.isSome_iff_exists.1 t01.1
      have hf1 := t01.2
      have t02 := hp'.there (k * 4 + 2) (by omega)
      rw [Nat.zero_add] at t02
      obtain ⟨u02, hu2⟩ := Option.isSome_iff_exists.1 t02.1
      have hf2 := t02.2
      have t03 := hp'.there (k * 4 + 3) (by omega)
      rw [Nat.zero_add] at t03
      obtain ⟨u03, hu3⟩ := Option.isSome_iff_exists.1 t03.1
      have hf3 := t03.2
      clear t00 t01 t02 t03 q1 q2 q3 q4
      have h7 := hp'.step rClsIns_good hlt e0 (cs := [.int .i64 x.fOp, .int .i64 x.fA, .string x.fName, .string x.fMember]) rfl ⟨rfl, b1, b2⟩
      simp only [World.setCells, Nat.add_assoc, Nat.reduceAdd] at h7
      have H7 := Lib.hid h7
      clear h7
      go_wp2
      go_roundw
      case measure => simp [intOf]; omega
      case rel => exact ⟨k + 1, by omega, by go_num, by (repeat' (first | (with_reducible exact Below.refl _ _) | (with_reducible refine Below.alloc ?_ ?_ _) | (with_reducible refine Below.setCell ?_ ?_ _) | (with_reducible refine Below.drew ?_) | (refine below_hyp (by assumption) ?_ ?_) | go_size)), H7.out⟩
    · obtain rfl : k = len := by omega
      go_wp2
      all_goals (try go_returns)
      all_goals exact HR.out _ _ ⟨⟨_, rfl, hp.done rClsIns_good HL.out M2.out⟩, by (repeat' (first | (with_reducible exact Below.refl _ _) | (with_reducible refine Below.alloc ?_ ?_ _) | (with_reducible refine Below.setCell ?_ ?_ _) | (with_reducible refine Below.drew ?_) | (refine below_hyp (by assumption) ?_ ?_) | go_size))⟩

set_option maxHeartbeats 2000000 in
theorem L_eqClsInsS (xs : List DClsIns) (v v' : Value) (w : World) (hv : Sl 4 rClsIns 0 w v xs) (hv' : Sl 4 rClsIns 0 w v' xs) :
    Calls Tryz.prog 116 #[v, v'] w fun e w' => e = .returned (.bool true) ∧ Below w.heap.size w w' := by
  obtain ⟨a, len, cap, rfl, hl, h1, h2, h3⟩ := id hv
  obtain ⟨a', len', cap', rfl, hl', h1', h2', h3'⟩ := id hv'
  obtain rfl : len' = len := hl'.symm.trans hl
  have m1 : len' ≤ 9223372036854775807 := by unfold maxLen at h2; omega
  have HL := Lib.hid hl
  have H1 := Lib.hid h1
  have H1' := Lib.hid h1'
  clear h2 h2' hl hl' h1 h1'
  refine calls_hide fun R HR => ?_
  go_enter Tryz.func116, Tryz.ntmps116
  go_wp2_with fail
  go_loopw [5] (fun i wr => ∃ k : Nat, k ≤ len' ∧ i = .int .i64 k ∧ Below w.heap.size w wr) (fun i _ => len' - (intOf i).toNat)
  case atStart => exact ⟨0, Nat.zero_le _, rfl, by (repeat' (first | (with_reducible exact Below.refl _ _) | (with_reducible refine Below.alloc ?_ ?_ _) | (with_reducible refine Below.setCell ?_ ?_ _) | (with_reducible refine Below.drew ?_) | (refine below_hyp (by assumption) ?_ ?_) | go_size))⟩
  case round =>
    obtain ⟨k, hk, rfl, hb⟩ := hrel
    by_cases hlt : k < len'
    · obtain ⟨b, off, rfl, hlo, hbl, hr⟩ := h3.stays rClsIns_good (Keeps.of_below hb) (by omega)
      obtain ⟨b', off', rfl, hlo', hbl', hr'⟩ := h3'.stays rClsIns_good (Keeps.of_below hb) (by omega)
      obtain ⟨x, cs, e0, e1, e2, e3⟩ := hr k hlt
      obtain ⟨x', cs', e0', e1', e2', e3'⟩ := hr' k hlt
      obtain rfl : x = x' := Option.some.inj (e0.symm.trans e0')
      obtain ⟨rfl, b1, b2⟩ := e3
      obtain ⟨rfl, db1, db2⟩ := e3'
      go_wp2_with fail
      have q1 : ∀ W, Below wr.heap.size wr W → W.cell? ⟨b, off + k * 4, none⟩ = some (.int .i64 x.fOp) := fun W hW => range_below e2 hW hbl 0 _ rfl
      have q2 : ∀ W, Below wr.heap.size wr W → W.cell? ⟨b, off + k * 4 + 1, none⟩ = some (.int .i64 x.fA) := fun W hW => range_below e2 hW hbl 1 _ rfl
      have q3 : ∀ W, Below wr.heap.size wr W → W.cell? ⟨b, off + k * 4 + 2, none⟩ = some (.string x.fName) := fun W hW => range_below e2 hW hbl 2 _ rfl
      have q4 : ∀ W, Below wr.heap.size wr W → W.cell? ⟨b, off + k * 4 + 3, none⟩ = some (.string x.fMember) := fun W hW => range_below e2 hW hbl 3 _ rfl
      have o1 : ∀ W, Below wr.heap.size wr W → W.cell? ⟨b', off' + k * 4, none⟩ = some (.int .i64 x.fOp) := fun W hW => range_below e2' hW hbl' 0 _ rfl
      have o2 : ∀ W, Below wr.heap.size wr W → W.cell? ⟨b', off' + k * 4 + 1, none⟩ = some (.int .i64 x.fA) := fun W hW => range_below e2' hW hbl' 1 _ rfl
      have o3 : ∀ W, Below wr.heap.size wr W → W.cell? ⟨b', off' + k * 4 + 2, none⟩ = some (.string x.fName) := fun W hW => range_below e2' hW hbl' 2 _ rfl
      have o4 : ∀ W, Below wr.heap.size wr W → W.cell? ⟨b', off' + k * 4 + 3, none⟩ = some (.string x.fMember) := fun W hW => range_below e2' hW hbl' 3 _ rfl
      clear e1 e2 e1' e2' hr hr'
      have hbx := hb.size
      have keepA : ∀ x x' : World, Below x.heap.size x x' → Below wr.heap.size wr x → Below wr.heap.size wr x' := fun x x' hb e => keep_below hb e (Nat.le_refl _)
      go_region_held3 (fun x => Below wr.heap.size wr x) (first | exact (Below.refl _ _).drew | exact keepA _ _ (by assumption) (by assumption)) (first | (go_at_call 124; refine (L_eqClsIns x _).mono ?_; rintro _ _ ⟨rfl, _⟩))
      rename_i wA _ hA
      have hz := hA.size
      clear q1 o1 q2 o2 q3 o3 q4 o4 keepA
      go_wp2
      go_roundw
      case measure => simp [intOf]; omega
      case rel => exact ⟨k + 1, by omega, by go_num, hb.trans (hA.mono hbx)⟩
    · skip
      go_wp2
      all_goals (try go_returns)
      all_goals exact HR.out _ _ ⟨rfl, by (repeat' (first | (with_reducible exact Below.refl _ _) | (with_reducible refine Below.alloc ?_ ?_ _) | (with_reducible refine Below.setCell ?_ ?_ _) | (with_reducible refine Below.drew ?_) | (refine below_hyp (by assumption) ?_ ?_) | go_size))⟩

set_option maxHeartbeats 2000000 in
theorem L_szTagTag (x : DTagTag) (l : Int) (w : World) (b1 : x.fName.size ≤ maxLen) (hl : 0 ≤ l ∧ l ≤ 1048576) :
    Calls Tryz.prog 129 #[.agg #[.int .i64 x.fKind, .string x.fName], .int .i64 l] w fun e w' => (∃ r : Int, e = .returned (.int .i64 r) ∧ (r = -1 ∨ (0 ≤ r ∧ r + wtTagTag x ≤ l))) ∧ Below w.heap.size w w' := by
  have m1 : x.fName.size ≤ 9223372036854775807 := by unfold maxLen at b1; omega
  obtain ⟨hl1, hl2⟩ := hl
  refine calls_hide fun R HR => ?_
  go_enter Tryz.func129, Tryz.ntmps129
  go_wp2
  all_goals (try go_returns)
  all_goals exact HR.out _ _ ⟨⟨_, rfl, by first | exact Or.inl rfl | exact Or.inr ⟨by omega, by unfold wtTagTag; omega⟩⟩, by (repeat' (first | (with_reducible exact Below.refl _ _) | (with_reducible refine Below.alloc ?_ ?_ _) | (with_reducible refine Below.setCell ?_ ?_ _) | (with_reducible refine Below.drew ?_) | (refine below_hyp (by assumption) ?_ ?_) | go_size))⟩

set_option maxHeartbeats 2000000 in
theorem L_toTagTag (x : DTagTag) (w : World) :
    Calls Tryz.prog 130 #[.agg #[.int .i64 x.fKind, .string x.fName]] w fun e w' => e = .returned (.agg #[.int .i64 x.fKind, .string x.fName]) ∧ Below w.heap.size w w' := by
  refine calls_hide fun R HR => ?_
  go_enter Tryz.func130, Tryz.ntmps130
  go_wp2
  all_goals
    refine bodyPost_ret (v := ?_) ?hrun rfl ?_
    case hrun => (simp only [results, Tryz.results130]; go_simp; first | done | exact rfl)
    exact HR.out _ _ ⟨rfl, by (repeat' (first | (with_reducible exact Below.refl _ _) | (with_reducible refine Below.alloc ?_ ?_ _) | (with_reducible refine Below.setCell ?_ ?_ _) | (with_reducible refine Below.drew ?_) | (refine below_hyp (by assumption) ?_ ?_) | go_size))⟩

set_option maxHeartbeats 2000000 in
theorem L_eqTagTag (x : DTagTag) (w : World) :
    Calls Tryz.prog 131 #[.agg #[.int .i64 x.fKind, .string x.fName], .agg #[.int .i64 x.fKind, .string x.fName]] w fun e w' => e = .returned (.bool true) ∧ Below w.heap.size w w' := by
  refine calls_hide fun R HR => ?_
  go_enter Tryz.func131, Tryz.ntmps131
  go_wp2
  all_goals (try go_returns)
  all_goals exact HR.out _ _ ⟨rfl, by (repeat' (first | (with_reducible exact Below.refl _ _) | (with_reducible refine Below.alloc ?_ ?_ _) | (with_reducible refine Below.setCell ?_ ?_ _) | (with_reducible refine Below.drew ?_) | (refine below_hyp (by assumption) ?_ ?_) | go_size))⟩

set_option maxHeartbeats 2000000 in
theorem L_szTagTagS (xs : List DTagTag) (v : Value) (l : Int) (w : World) (hv : Sl 2 rTagTag 0 w v xs) (hl0 : 0 ≤ l ∧ l ≤ 1048576) :
    Calls Tryz.prog 126 #[v, .int .i64 l] w fun e w' => (∃ r : Int, e = .returned (.int .i64 r) ∧ (r = -1 ∨ (0 ≤ r ∧ r + wtS wtTagTag xs ≤ l))) ∧ Below w.heap.size w w' := by
  obtain ⟨a, len, cap, rfl, hl, h1, h2, h3⟩ := id hv
  have m1 : len ≤ 9223372036854775807 := by unfold maxLen at h2; omega
  have HL := Lib.hid hl
  have H1 := Lib.hid h1
  obtain ⟨l1, l2⟩ := hl0
  clear h2 hl h1
  refine calls_hide fun R HR => ?_
  go_enter Tryz.func126, Tryz.ntmps126
  go_wp2_with fail
  all_goals first
    | (try go_returns
       exact HR.out _ _ ⟨⟨_, rfl, Or.inl rfl⟩, by (repeat' (first | (with_reducible exact Below.refl _ _) | (with_reducible refine Below.alloc ?_ ?_ _) | (with_reducible refine Below.setCell ?_ ?_ _) | (with_reducible refine Below.drew ?_) | (refine below_hyp (by assumption) ?_ ?_) | go_size))⟩)
    | skip
  go_loopw [1, 5] (fun lv i wr => ∃ (k : Nat) (c : Int), k ≤ len ∧ i = .int .i64 k ∧ lv = .int .i64 c ∧ 0 ≤ c ∧ c + (len : Int) + (((xs.take k).map wtTagTag).sum : Nat) ≤ l ∧ Below w.heap.size w wr) (fun _ i _ => len - (intOf i).toNat)
  case atStart => exact ⟨0, _, Nat.zero_le _, rfl, rfl, by omega, by first | (simp; done) | (simp; omega), by (repeat' (first | (with_reducible exact Below.refl _ _) | (with_reducible refine Below.alloc ?_ ?_ _) | (with_reducible refine Below.setCell ?_ ?_ _) | (with_reducible refine Below.drew ?_) | (refine below_hyp (by assumption) ?_ ?_) | go_size))⟩
  case round =>
    obtain ⟨k, c, hk, rfl, rfl, hc1, hc2, hb⟩ := hrel
    have hbx := hb.size
    by_cases hlt : k < len
    · obtain ⟨b, off, rfl, hlo, hbl, hr⟩ := h3.stays rTagTag_good (Keeps.of_below hb) (by omega)
      obtain ⟨x, cs, e0, e1, e2, e3⟩ := hr k hlt
      have hw := take_wt wtTagTag e0
      obtain ⟨rfl, b1⟩ := e3
      have q1 : wr.cell? ⟨b, off + k * 2, none⟩ = some (.int .i64 x.fKind) := e2 0 _ rfl
      have q2 : wr.cell? ⟨b, off + k * 2 + 1, none⟩ = some (.string x.fName) := e2 1 _ rfl
      clear e1 e2 hr
      have hcl : c ≤ 1048576 := by omega
      go_wp2_with fail
      refine (L_szTagTag x _ _ b1 ⟨by omega, by omega⟩).mono ?_
      rintro _ wA ⟨⟨r, rfl, hr⟩, hA⟩
      have hz := hA.size
      clear q1 q2
      rcases hr with rfl | ⟨ra, rb⟩
      · go_wp2
        all_goals (try go_returns)
        all_goals exact HR.out _ _ ⟨⟨_, rfl, Or.inl rfl⟩, by (repeat' (first | (with_reducible exact Below.refl _ _) | (with_reducible refine Below.alloc ?_ ?_ _) | (with_reducible refine Below.setCell ?_ ?_ _) | (with_reducible refine Below.drew ?_) | (refine below_hyp (by assumption) ?_ ?_) | go_size))⟩
      have rn : ¬ r < 0 := by omega
      go_wp2
      go_roundw
      case measure => simp [intOf]; omega
      case rel => exact ⟨k + 1, r, by omega, by go_num, rfl, by omega, by omega, by (repeat' (first | (with_reducible exact Below.refl _ _) | (with_reducible refine Below.alloc ?_ ?_ _) | (with_reducible refine Below.setCell ?_ ?_ _) | (with_reducible refine Below.drew ?_) | (refine below_hyp (by assumption) ?_ ?_) | go_size))⟩
    · obtain rfl : k = len := by omega
      go_wp2
      all_goals (try go_returns)
      all_goals exact HR.out _ _ ⟨⟨_, rfl, Or.inr ⟨by omega, by rw [wtS, HL.out]; rw [List.take_of_length_le (by rw [HL.out]; exact Nat.le_refl _)] at hc2; omega⟩⟩, by (repeat' (first | (with_reducible exact Below.refl _ _) | (with_reducible refine Below.alloc ?_ ?_ _) | (with_reducible refine Below.setCell ?_ ?_ _) | (with_reducible refine Below.drew ?_) | (refine below_hyp (by assumption) ?_ ?_) | go_size))⟩

set_option maxHeartbeats 2000000 in
theorem L_toTagTagS (xs : List DTagTag) (v : Value) (w : World) (hv : Sl 2 rTagTag 0 w v xs) (hs : xs.length ≤ 1048576) :
    Calls Tryz.prog 127 #[v] w fun e w' => (∃ v', e = .returned v' ∧ Sl 2 rTagTag w.heap.size w' v' xs) ∧ Below w.heap.size w w' := by
  obtain ⟨a, len, cap, rfl, hl, h1, h2, h3⟩ := id hv
  have hs' : len ≤ 1048576 := by omega
  have hmk := make_rows (P := Tryz.prog) w 148 172 (.agg #[.int .i64 0, .string ⟨#[]⟩]) 2 24 (by kernel_rfl) (by kernel_rfl) (by omega) len hs'
  have hP := Part.start (k := 2) (R := rTagTag) (w := w) (len := len) (xs := xs) (Value.cells (.agg #[.int .i64 0, .string ⟨#[]⟩])) 172
  have hB : Below w.heap.size w (w.alloc (.cells (madeCells (Value.cells (.agg #[.int .i64 0, .string ⟨#[]⟩])) (len * 2)) 172)) := by (repeat' (first | (with_reducible exact Below.refl _ _) | (with_reducible refine Below.alloc ?_ ?_ _) | (with_reducible refine Below.setCell ?_ ?_ _) | (with_reducible refine Below.drew ?_) | (refine below_hyp (by assumption) ?_ ?_) | go_size))
  have m1 : len ≤ 9223372036854775807 := by omega
  have m2 : len ≤ maxLen := by unfold maxLen; omega
  have hsz : (w.alloc (.cells (madeCells (Value.cells (.agg #[.int .i64 0, .string ⟨#[]⟩])) (len * 2)) 172)).heap.size = w.heap.size + 1 := by simp
  generalize w.alloc (.cells (madeCells (Value.cells (.agg #[.int .i64 0, .string ⟨#[]⟩])) (len * 2)) 172) = wm at *
  have HL := Lib.hid hl
  have H1 := Lib.hid h1
  have HS := Lib.hid hs'
  have M2 := Lib.hid m2
  clear h2 hl h1 hs hs' m2
  refine calls_hide fun R HR => ?_
  go_enter Tryz.func127, Tryz.ntmps127
  go_wp2_with fail
  go_loopw [4] (fun i wr => ∃ k : Nat, k ≤ len ∧ i = .int .i64 k ∧ Below w.heap.size w wr ∧ Part 2 rTagTag wr w.heap.size len k xs) (fun i _ => len - (intOf i).toNat)
  case atStart => exact ⟨0, Nat.zero_le _, rfl, hB, hP⟩
  case round =>
    clear hmk hP hB hsz
    obtain ⟨k, hk, rfl, hb, hp⟩ := hrel
    by_cases hlt : k < len
    · obtain ⟨b, off, rfl, hlo, hbl, hr⟩ := h3.stays rTagTag_good (Keeps.of_below hb) (by omega)
      obtain ⟨x, cs, e0, e1, e2, e3⟩ := hr k hlt
      obtain ⟨rfl, b1⟩ := e3
      have q1 : wr.cell? ⟨b, off + k * 2, none⟩ = some (.int .i64 x.fKind) := e2 0 _ rfl
      have q2 : wr.cell? ⟨b, off + k * 2 + 1, none⟩ = some (.string x.fName) := e2 1 _ rfl
      have hbx := hb.size
      have hpl := hp.lt
      clear e1 e2 hr
      go_wp2_with fail
      refine (L_toTagTag x _).mono ?_
      rintro _ wA ⟨rfl, hA⟩
      have hz := hA.size
      have hp' := hp.below rTagTag_good hA
      have t00 := hp'.there (k * 2) (by omega)
      rw [Nat.zero_add] at t00
      obtain ⟨u00, hu0⟩ := Option.isSome_iff_exists.1 t00.1
      have hf0 := t00.2
      have t01 := hp'.there (k * 2 + 1) (by omega)
      rw [Nat.zero_add] at t01
      obtain ⟨u01, hu1⟩ := Option.isSome_iff_exists.1 t01.1
      have hf1 := t01.2
      clear t00 t01 q1 q2
      have h7 := hp'.step rTagTag_good hlt e0 (cs := [.int .i64 x.fKind, .string x.fName]) rfl ⟨rfl, b1⟩
      simp only [World.setCells, Nat.add_assoc, Nat.reduceAdd] at h7
      have H7 := Lib.hid h7
      clear h7
      go_wp2
      go_roundw
      case measure => simp [intOf]; omega
      case rel => exact ⟨k + 1, by omega, by go_num, by (repeat' (first | (with_reducible exact Below.refl _ _) | (with_reducible refine Below.alloc ?_ ?_ _) | (with_reducible refine Below.setCell ?_ ?_ _) | (with_reducible refine Below.drew ?_) | (refine below_hyp (by assumption) ?_ ?_) | go_size)), H7.out⟩
    · obtain rfl : k = len := by omega
      go_wp2
      all_goals (try go_returns)
      all_goals exact HR.out _ _ ⟨⟨_, rfl, hp.done rTagTag_good HL.out M2.out⟩, by (repeat' (first | (with_reducible exact Below.refl _ _) | (with_reducible refine Below.alloc ?_ ?_ _) | (with_reducible refine Below.setCell ?_ ?_ _) | (with_reducible refine Below.drew ?_) | (refine below_hyp (by assumption) ?_ ?_) | go_size))⟩

set_option maxHeartbeats 2000000 in
theorem L_eqTagTagS (xs : List DTagTag) (v v' : Value) (w : World) (hv : Sl 2 rTagTag 0 w v xs) (hv' : Sl 2 rTagTag 0 w v' xs) :
    Calls Tryz.prog 128 #[v, v'] w fun e w' => e = .returned (.bool true) ∧ Below w.heap.size w w' := by
  obtain ⟨a, len, cap, rfl, hl, h1, h2, h3⟩ := id hv
  obtain ⟨a', len', cap', rfl, hl', h1', h2', h3'⟩ := id hv'
  obtain rfl : len' = len := hl'.symm.trans hl
  have m1 : len' ≤ 9223372036854775807 := by unfold maxLen at h2; omega
  have HL := Lib.hid hl
  have H1 := Lib.hid h1
  have H1' := Lib.hid h1'
  clear h2 h2' hl hl' h1 h1'
  refine calls_hide fun R HR => ?_
  go_enter Tryz.func128, Tryz.ntmps128
  go_wp2_with fail
  go_loopw [5] (fun i wr => ∃ k : Nat, k ≤ len' ∧ i = .int .i64 k ∧ Below w.heap.size w wr) (fun i _ => len' - (intOf i).toNat)
  case atStart => exact ⟨0, Nat.zero_le _, rfl, by (repeat' (first | (with_reducible exact Below.refl _ _) | (with_reducible refine Below.alloc ?_ ?_ _) | (with_reducible refine Below.setCell ?_ ?_ _) | (with_reducible refine Below.drew ?_) | (refine below_hyp (by assumption) ?_ ?_) | go_size))⟩
  case round =>
    obtain ⟨k, hk, rfl, hb⟩ := hrel
    by_cases hlt : k < len'
    · obtain ⟨b, off, rfl, hlo, hbl, hr⟩ := h3.stays rTagTag_good (Keeps.of_below hb) (by omega)
      obtain ⟨b', off', rfl, hlo', hbl', hr'⟩ := h3'.stays rTagTag_good (Keeps.of_below hb) (by omega)
      obtain ⟨x, cs, e0, e1, e2, e3⟩ := hr k hlt
      obtain ⟨x', cs', e0', e1', e2', e3'⟩ := hr' k hlt
      obtain rfl : x = x' := Option.some.inj (e0.symm.trans e0')
      obtain ⟨rfl, b1⟩ := e3
      obtain ⟨rfl, db1⟩ := e3'
      go_wp2_with fail
      have q1 : ∀ W, Below wr.heap.size wr W → W.cell? ⟨b, off + k * 2, none⟩ = some (.int .i64 x.fKind) := fun W hW => range_below e2 hW hbl 0 _ rfl
      have q2 : ∀ W, Below wr.heap.size wr W → W.cell? ⟨b, off + k * 2 + 1, none⟩ = some (.string x.fName) := fun W hW => range_below e2 hW hbl 1 _ rfl
      have o1 : ∀ W, Below wr.heap.size wr W → W.cell? ⟨b', off' + k * 2, none⟩ = some (.int .i64 x.fKind) := fun W hW => range_below e2' hW hbl' 0 _ rfl
      have o2 : ∀ W, Below wr.heap.size wr W → W.cell? ⟨b', off' + k * 2 + 1, none⟩ = some (.string x.fName) := fun W hW => range_below e2' hW hbl' 1 _ rfl
      clear e1 e2 e1' e2' hr hr'
      have hbx := hb.size
      have keepA : ∀ x x' : World, Below x.heap.size x x' → Below wr.heap.size wr x → Below wr.heap.size wr x' := fun x x' hb e => keep_below hb e (Nat.le_refl _)
      go_region_held3 (fun x => Below wr.heap.size wr x) (first | exact (Below.refl _ _).drew | exact keepA _ _ (by assumption) (by assumption)) (first | (go_at_call 131; refine (L_eqTagTag x _).mono ?_; rintro _ _ ⟨rfl, _⟩))
      rename_i wA _ hA
      have hz := hA.size
      clear q1 o1 q2 o2 keepA
      go_wp2
      go_roundw
      case measure => simp [intOf]; omega
      case rel => exact ⟨k + 1, by omega, by go_num, hb.trans (hA.mono hbx)⟩
    · skip
      go_wp2
      all_goals (try go_returns)
      all_goals exact HR.out _ _ ⟨rfl, by (repeat' (first | (with_reducible exact Below.refl _ _) | (with_reducible refine Below.alloc ?_ ?_ _) | (with_reducible refine Below.setCell ?_ ?_ _) | (with_reducible refine Below.drew ?_) | (refine below_hyp (by assumption) ?_ ?_) | go_size))⟩

end Go.Proofs.YtmmlhnjmjmbfpaaGreat
