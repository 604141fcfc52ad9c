

/-
  The walks of the weights, the copies and the sameness of data. Printed by gen_rep.py, a program of the prover of this repo.
-/
import Derived.Test.YtmmlhnjmjmbfpaaGreatRepC
namespace Go.Proofs.YtmmlhnjmjmbfpaaGreat
set_option linter.unusedSimpArgs false
set_option linter.unusedVariables false
open Go.RowKit

set_option maxHeartbeats 2000000 in
theorem L_szClsMap (x : DClsMap) (v1 v2 : Value) (l : Int) (w : World) (s1 : Sl 2 rTagTag 0 w v1 x.fLocals) (s2 : Sl 2 rTagTag 0 w v2 x.fStack) (hl : 0 ≤ l ∧ l ≤ 1048576) :
    Calls Tryz.prog 120 #[.agg #[.int .i64 x.fAt, v1, v2], .int .i64 l] w fun e w' => (∃ r : Int, e = .returned (.int .i64 r) ∧ (r = -1 ∨ (0 ≤ r ∧ r + wtClsMap x ≤ l))) ∧ Below w.heap.size w w' := by
  obtain ⟨na1, nl1, nc1, rfl⟩ := s1.form
  obtain ⟨na2, nl2, nc2, rfl⟩ := s2.form
  obtain ⟨hl1, hl2⟩ := hl
  refine calls_hide fun R HR => ?_
  go_enter Tryz.func120, Tryz.ntmps120
  go_wp2_with fail
  all_goals first
    | (try go_returns
       exact HR.out _ _ ⟨⟨_, rfl, by first | exact Or.inl rfl | exact Or.inr ⟨by omega, by unfold wtClsMap; omega⟩⟩, by (repeat' (first | (with_reducible exact Below.refl _ _) | (with_reducible refine Below.alloc ?_ ?_ _) | (with_reducible refine Below.setCell ?_ ?_ _) | (with_reducible refine Below.drew ?_) | (refine below_hyp (by assumption) ?_ ?_) | go_size))⟩)
    | skip
  refine (L_szTagTagS x.fLocals _ _ _ (s1.stays rTagTag_good (Keeps.of_below' (B := w.heap.size) (by (repeat' (first | (with_reducible exact Below.refl _ _) | (with_reducible refine Below.alloc ?_ ?_ _) | (with_reducible refine Below.setCell ?_ ?_ _) | (with_reducible refine Below.drew ?_) | (refine below_hyp (by assumption) ?_ ?_) | go_size))) (Nat.le_refl _))) ⟨by omega, by omega⟩).mono ?_
  rintro _ w1 ⟨⟨r1, rfl, hr1⟩, g1⟩
  have g1s := (g1).size; (try simp only [World.size_alloc, World.size_setCell, World.size_drew] at g1s)
  obtain ⟨g1ac, g1ad, g1ao, g1af, g1ag, g1ap, g1az, g1ax, g1ay⟩ := bfacts (n := w.heap.size) (k := 1) g1 (by go_size) (by go_size); replace g1ad := g1ad (by decide); replace g1ag := g1ag (by decide); replace g1ax := g1ax (by decide); clear g1ac g1af g1az
  rcases hr1 with rfl | ⟨ra1, rb1⟩
  · go_wp2
    all_goals (try go_returns)
    all_goals exact HR.out _ _ ⟨⟨_, rfl, by first | exact Or.inl rfl | exact Or.inr ⟨by omega, by unfold wtClsMap; omega⟩⟩, by (repeat' (first | (with_reducible exact Below.refl _ _) | (with_reducible refine Below.alloc ?_ ?_ _) | (with_reducible refine Below.setCell ?_ ?_ _) | (with_reducible refine Below.drew ?_) | (refine below_hyp (by assumption) ?_ ?_) | go_size))⟩
  have rn1 : ¬ r1 < 0 := by omega
  go_wp2_with fail
  all_goals first
    | (try go_returns
       exact HR.out _ _ ⟨⟨_, rfl, by first | exact Or.inl rfl | exact Or.inr ⟨by omega, by unfold wtClsMap; omega⟩⟩, by (repeat' (first | (with_reducible exact Below.refl _ _) | (with_reducible refine Below.alloc ?_ ?_ _) | (with_reducible refine Below.setCell ?_ ?_ _) | (with_reducible refine Below.drew ?_) | (refine below_hyp (by assumption) ?_ ?_) | go_size))⟩)
    | skip
  refine (L_szTagTagS x.fStack _ _ _ (s2.stays rTagTag_good (Keeps.of_below' (B := w.heap.size) (by (repeat' (first | (with_reducible exact Below.refl _ _) | (with_reducible refine Below.alloc ?_ ?_ _) | (with_reducible refine Below.setCell ?_ ?_ _) | (with_reducible refine Below.drew ?_) | (refine below_hyp (by assumption) ?_ ?_) | go_size))) (Nat.le_refl _))) ⟨by omega, by omega⟩).mono ?_
  rintro _ w2 ⟨⟨r2, rfl, hr2⟩, g2⟩
  have g2s := (g2).size; (try simp only [World.size_alloc, World.size_setCell, World.size_drew] at g2s)
  obtain ⟨g2ac, g2ad, g2ao, g2af, g2ag, g2ap, g2az, g2ax, g2ay⟩ := bfacts (n := w.heap.size) (k := 1) g2 (by go_size) (by go_size); replace g2ad := g2ad (by decide); replace g2ag := g2ag (by decide); replace g2ax := g2ax (by decide); clear g2ac g2af g2az
  rcases hr2 with rfl | ⟨ra2, rb2⟩
  · go_wp2
    all_goals (try go_returns)
    all_goals exact HR.out _ _ ⟨⟨_, rfl, by first | exact Or.inl rfl | exact Or.inr ⟨by omega, by unfold wtClsMap; omega⟩⟩, by (repeat' (first | (with_reducible exact Below.refl _ _) | (with_reducible refine Below.alloc ?_ ?_ _) | (with_reducible refine Below.setCell ?_ ?_ _) | (with_reducible refine Below.drew ?_) | (refine below_hyp (by assumption) ?_ ?_) | go_size))⟩
  have rn2 : ¬ r2 < 0 := by omega
  go_wp2
  all_goals (try go_returns)
  all_goals exact HR.out _ _ ⟨⟨_, rfl, by first | exact Or.inl rfl | exact Or.inr ⟨by omega, by unfold wtClsMap; omega⟩⟩, by (repeat' (first | (with_reducible exact Below.refl _ _) | (with_reducible refine Below.alloc ?_ ?_ _) | (with_reducible refine Below.setCell ?_ ?_ _) | (with_reducible refine Below.drew ?_) | (refine below_hyp (by assumption) ?_ ?_) | go_size))⟩

set_option maxHeartbeats 2000000 in
theorem L_toClsMap (x : DClsMap) (v1 v2 : Value) (w : World) (s1 : Sl 2 rTagTag 0 w v1 x.fLocals) (s2 : Sl 2 rTagTag 0 w v2 x.fStack) (hw : wtClsMap x ≤ 1048576) :
    Calls Tryz.prog 122 #[.agg #[.int .i64 x.fAt, v1, v2]] w fun e w' => (∃ y1 y2 : Value, e = .returned (.agg #[.int .i64 x.fAt, y1, y2]) ∧ Sl 2 rTagTag w.heap.size w' y1 x.fLocals ∧ Sl 2 rTagTag w.heap.size w' y2 x.fStack) ∧ Below w.heap.size w w' := by
  obtain ⟨na1, nl1, nc1, rfl⟩ := s1.form
  obtain ⟨na2, nl2, nc2, rfl⟩ := s2.form
  unfold wtClsMap at hw
  have HW := Lib.hid hw
  clear hw
  refine calls_hide fun R HR => ?_
  go_enter Tryz.func122, Tryz.ntmps122
  go_wp2_with fail
  refine (L_toTagTagS x.fLocals _ _ (s1.stays rTagTag_good (Keeps.of_below' (B := w.heap.size) (by (repeat' (first | (with_reducible exact Below.refl _ _) | (with_reducible refine Below.alloc ?_ ?_ _) | (with_reducible refine Below.setCell ?_ ?_ _) | (with_reducible refine Below.drew ?_) | (refine below_hyp (by assumption) ?_ ?_) | go_size))) (Nat.le_refl _))) (by have := HW.out; first | omega | (have h9 := wtS_len wtTagTag x.fLocals; omega))).mono ?_
  rintro _ w1 ⟨⟨y1, rfl, t1⟩, g1⟩
  obtain ⟨ya1, yl1, yc1, rfl⟩ := t1.form
  have g1s := (g1).size; (try simp only [World.size_alloc, World.size_setCell, World.size_drew] at g1s)
  obtain ⟨g1ac, g1ad, g1ao, g1af, g1ag, g1ap, g1az, g1ax, g1ay⟩ := bfacts (n := w.heap.size) (k := 3) g1 (by go_size) (by go_size); replace g1ad := g1ad (by decide); replace g1ag := g1ag (by decide); replace g1ax := g1ax (by decide); have g1ac1 := fun o => g1ac 1 o (by decide); have g1af1 := fun o => g1af 1 o (by decide); have g1az1 := g1az 1 (by decide); have g1ac2 := fun o => g1ac 2 o (by decide); have g1af2 := fun o => g1af 2 o (by decide); have g1az2 := g1az 2 (by decide); clear g1ac g1af g1az
  go_wp2_with fail
  refine (L_toTagTagS x.fStack _ _ (s2.stays rTagTag_good (Keeps.of_below' (B := w.heap.size) (by (repeat' (first | (with_reducible exact Below.refl _ _) | (with_reducible refine Below.alloc ?_ ?_ _) | (with_reducible refine Below.setCell ?_ ?_ _) | (with_reducible refine Below.drew ?_) | (refine below_hyp (by assumption) ?_ ?_) | go_size))) (Nat.le_refl _))) (by have := HW.out; first | omega | (have h9 := wtS_len wtTagTag x.fStack; omega))).mono ?_
  rintro _ w2 ⟨⟨y2, rfl, t2⟩, g2⟩
  obtain ⟨ya2, yl2, yc2, rfl⟩ := t2.form
  have g2s := (g2).size; (try simp only [World.size_alloc, World.size_setCell, World.size_drew] at g2s)
  obtain ⟨g2ac, g2ad, g2ao, g2af, g2ag, g2ap, g2az, g2ax, g2ay⟩ := bfacts (n := w.heap.size) (k := 3) g2 (by go_size) (by go_size); replace g2ad := g2ad (by decide); replace g2ag := g2ag (by decide); replace g2ax := g2ax (by decide); have g2ac1 := fun o => g2ac 1 o (by decide); have g2af1 := fun o => g2af 1 o (by decide); have g2az1 := g2az 1 (by decide); have g2ac2 := fun o => g2ac 2 o (by decide); have g2af2 := fun o => g2af 2 o (by decide); have g2az2 := g2az 2 (by decide); clear g2ac g2af g2az
  go_wp2
  all_goals
    refine bodyPost_ret (v := ?_) ?hrun rfl ?_
    case hrun => (simp only [results, Tryz.results122]; go_simp; first | done | exact rfl)
    exact HR.out _ _ ⟨⟨_, _, rfl, (t1.stays rTagTag_good (by (repeat' (first | (with_reducible exact Keeps.refl _ _) | (with_reducible refine Keeps.alloc ?_ _) | (with_reducible refine Keeps.setCell ?_ ?_ _) | (with_reducible refine Keeps.drew ?_) | (refine keeps_hyp (by assumption) ?_ ?_) | go_size)))).low rTagTag_good (by go_size), (t2.stays rTagTag_good (by (repeat' (first | (with_reducible exact Keeps.refl _ _) | (with_reducible refine Keeps.alloc ?_ _) | (with_reducible refine Keeps.setCell ?_ ?_ _) | (with_reducible refine Keeps.drew ?_) | (refine keeps_hyp (by assumption) ?_ ?_) | go_size)))).low rTagTag_good (by go_size)⟩, by (repeat' (first | (with_reducible exact Below.refl _ _) | (with_reducible refine Below.alloc ?_ ?_ _) | (with_reducible refine Below.setCell ?_ ?_ _) | (with_reducible refine Below.drew ?_) | (refine below_hyp (by assumption) ?_ ?_) | go_size))⟩

set_option maxHeartbeats 2000000 in
theorem L_eqClsMap (x : DClsMap) (v1 v2 : Value) (z1 z2 : Value) (w : World) (s1 : Sl 2 rTagTag 0 w v1 x.fLocals) (s2 : Sl 2 rTagTag 0 w v2 x.fStack) (d1 : Sl 2 rTagTag 0 w z1 x.fLocals) (d2 : Sl 2 rTagTag 0 w z2 x.fStack) :
    Calls Tryz.prog 125 #[.agg #[.int .i64 x.fAt, v1, v2], .agg #[.int .i64 x.fAt, z1, z2]] w fun e w' => e = .returned (.bool true) ∧ Below w.heap.size w w' := by
  obtain ⟨na1, nl1, nc1, rfl⟩ := s1.form
  obtain ⟨na2, nl2, nc2, rfl⟩ := s2.form
  obtain ⟨za1, zl1, zc1, rfl⟩ := d1.form
  obtain ⟨za2, zl2, zc2, rfl⟩ := d2.form
  refine calls_hide fun R HR => ?_
  go_enter Tryz.func125, Tryz.ntmps125
  go_wp2_with fail
  refine (L_eqTagTagS x.fLocals _ _ _ (s1.stays rTagTag_good (Keeps.of_below' (B := w.heap.size) (by (repeat' (first | (with_reducible exact Below.refl _ _) | (with_reducible refine Below.alloc ?_ ?_ _) | (with_reducible refine Below.setCell ?_ ?_ _) | (with_reducible refine Below.drew ?_) | (refine below_hyp (by assumption) ?_ ?_) | go_size))) (Nat.le_refl _))) (d1.stays rTagTag_good (Keeps.of_below' (B := w.heap.size) (by (repeat' (first | (with_reducible exact Below.refl _ _) | (with_reducible refine Below.alloc ?_ ?_ _) | (with_reducible refine Below.setCell ?_ ?_ _) | (with_reducible refine Below.drew ?_) | (refine below_hyp (by assumption) ?_ ?_) | go_size))) (Nat.le_refl _)))).mono ?_
  rintro _ w1 ⟨rfl, g1⟩
  have g1s := (g1).size; (try simp only [World.size_alloc, World.size_setCell, World.size_drew] at g1s)
  obtain ⟨g1ac, g1ad, g1ao, g1af, g1ag, g1ap, g1az, g1ax, g1ay⟩ := bfacts (n := w.heap.size) (k := 2) g1 (by go_size) (by go_size); replace g1ad := g1ad (by decide); replace g1ag := g1ag (by decide); replace g1ax := g1ax (by decide); have g1ac1 := fun o => g1ac 1 o (by decide); have g1af1 := fun o => g1af 1 o (by decide); have g1az1 := g1az 1 (by decide); clear g1ac g1af g1az
  go_wp2_with fail
  refine (L_eqTagTagS x.fStack _ _ _ (s2.stays rTagTag_good (Keeps.of_below' (B := w.heap.size) (by (repeat' (first | (with_reducible exact Below.refl _ _) | (with_reducible refine Below.alloc ?_ ?_ _) | (with_reducible refine Below.setCell ?_ ?_ _) | (with_reducible refine Below.drew ?_) | (refine below_hyp (by assumption) ?_ ?_) | go_size))) (Nat.le_refl _))) (d2.stays rTagTag_good (Keeps.of_below' (B := w.heap.size) (by (repeat' (first | (with_reducible exact Below.refl _ _) | (with_reducible refine Below.alloc ?_ ?_ _) | (with_reducible refine Below.setCell ?_ ?_ _) | (with_reducible refine Below.drew ?_) | (refine below_hyp (by assumption) ?_ ?_) | go_size))) (Nat.le_refl _)))).mono ?_
  rintro _ w2 ⟨rfl, g2⟩
  have g2s := (g2).size; (try simp only [World.size_alloc, World.size_setCell, World.size_drew] at g2s)
  obtain ⟨g2ac, g2ad, g2ao, g2af, g2ag, g2ap, g2az, g2ax, g2ay⟩ := bfacts (n := w.heap.size) (k := 2) g2 (by go_size) (by go_size); replace g2ad := g2ad (by decide); replace g2ag := g2ag (by decide); replace g2ax := g2ax (by decide); have g2ac1 := fun o => g2ac 1 o (by decide); have g2af1 := fun o => g2af 1 o (by decide); have g2az1 := g2az 1 (by decide); clear g2ac g2af g2az
  go_wp2
  all_goals (try go_returns)
  all_goals exact HR.out _ _ ⟨rfl, by (repeat' (first | (with_reducible exact Below.refl _ _) | (with_reducible refine Below.alloc ?_ ?_ _) | (with_reducible refine Below.setCell ?_ ?_ _) | (with_reducible refine Below.drew ?_) | (refine below_hyp (by assumption) ?_ ?_) | go_size))⟩

set_option maxHeartbeats 2000000 in
theorem L_szClsMapS (xs : List DClsMap) (v : Value) (l : Int) (w : World) (hv : Sl 3 rClsMap 0 w v xs) (hl0 : 0 ≤ l ∧ l ≤ 1048576) :
    Calls Tryz.prog 105 #[v, .int .i64 l] w fun e w' => (∃ r : Int, e = .returned (.int .i64 r) ∧ (r = -1 ∨ (0 ≤ r ∧ r + wtS wtClsMap xs ≤ l))) ∧ Below w.heap.size w w' := by
  obtain ⟨a, len, cap, rfl, hl, h1, h2, h3⟩ := id hv
  have m1 : len ≤ 9223372036854775807 := by unfold maxLen at h2; omega
  have HL := Lib.hid hl
  have H1 := Lib.hid h1
  obtain ⟨l1, l2⟩ := hl0
  clear h2 hl h1
  refine calls_hide fun R HR => ?_
  go_enter Tryz.func105, Tryz.ntmps105
  go_wp2_with fail
  all_goals first
    | (try go_returns
       exact HR.out _ _ ⟨⟨_, rfl, Or.inl rfl⟩, by (repeat' (first | (with_reducible exact Below.refl _ _) | (with_reducible refine Below.alloc ?_ ?_ _) | (with_reducible refine Below.setCell ?_ ?_ _) | (with_reducible refine Below.drew ?_) | (refine below_hyp (by assumption) ?_ ?_) | go_size))⟩)
    | skip
  go_loopw [1, 5] (fun lv i wr => ∃ (k : Nat) (c : Int), k ≤ len ∧ i = .int .i64 k ∧ lv = .int .i64 c ∧ 0 ≤ c ∧ c + (len : Int) + (((xs.take k).map wtClsMap).sum : Nat) ≤ l ∧ Below w.heap.size w wr) (fun _ i _ => len - (intOf i).toNat)
  case atStart => exact ⟨0, _, Nat.zero_le _, rfl, rfl, by omega, by first | (simp; done) | (simp; omega), by (repeat' (first | (with_reducible exact Below.refl _ _) | (with_reducible refine Below.alloc ?_ ?_ _) | (with_reducible refine Below.setCell ?_ ?_ _) | (with_reducible refine Below.drew ?_) | (refine below_hyp (by assumption) ?_ ?_) | go_size))⟩
  case round =>
    obtain ⟨k, c, hk, rfl, rfl, hc1, hc2, hb⟩ := hrel
    have hbx := hb.size
    by_cases hlt : k < len
    · obtain ⟨b, off, rfl, hlo, hbl, hr⟩ := h3.stays rClsMap_good (Keeps.of_below hb) (by omega)
      obtain ⟨x, cs, e0, e1, e2, e3⟩ := hr k hlt
      have hw := take_wt wtClsMap e0
      obtain ⟨v1, v2, rfl, s1, s2⟩ := e3
      obtain ⟨na1, nl1, nc1, rfl⟩ := s1.form
      obtain ⟨na2, nl2, nc2, rfl⟩ := s2.form
      have q1 : wr.cell? ⟨b, off + k * 3, none⟩ = some (.int .i64 x.fAt) := e2 0 _ rfl
      have q2 : wr.cell? ⟨b, off + k * 3 + 1, none⟩ = some (.slice na1 nl1 nc1) := e2 1 _ rfl
      have q3 : wr.cell? ⟨b, off + k * 3 + 2, none⟩ = some (.slice na2 nl2 nc2) := e2 2 _ rfl
      clear e1 e2 hr
      have hcl : c ≤ 1048576 := by omega
      go_wp2_with fail
      refine (L_szClsMap x _ _ _ _ s1 s2 ⟨by omega, by omega⟩).mono ?_
      rintro _ wA ⟨⟨r, rfl, hr⟩, hA⟩
      have hz := hA.size
      clear q1 q2 q3
      rcases hr with rfl | ⟨ra, rb⟩
      · go_wp2
        all_goals (try go_returns)
        all_goals exact HR.out _ _ ⟨⟨_, rfl, Or.inl rfl⟩, by (repeat' (first | (with_reducible exact Below.refl _ _) | (with_reducible refine Below.alloc ?_ ?_ _) | (with_reducible refine Below.setCell ?_ ?_ _) | (with_reducible refine Below.drew ?_) | (refine below_hyp (by assumption) ?_ ?_) | go_size))⟩
      have rn : ¬ r < 0 := by omega
      go_wp2
      go_roundw
      case measure => simp [intOf]; omega
      case rel => exact ⟨k + 1, r, by omega, by go_num, rfl, by omega, by omega, by (repeat' (first | (with_reducible exact Below.refl _ _) | (with_reducible refine Below.alloc ?_ ?_ _) | (with_reducible refine Below.setCell ?_ ?_ _) | (with_reducible refine Below.drew ?_) | (refine below_hyp (by assumption) ?_ ?_) | go_size))⟩
    · obtain rfl : k = len := by omega
      go_wp2
      all_goals (try go_returns)
      all_goals exact HR.out _ _ ⟨⟨_, rfl, Or.inr ⟨by omega, by rw [wtS, HL.out]; rw [List.take_of_length_le (by rw [HL.out]; exact Nat.le_refl _)] at hc2; omega⟩⟩, by (repeat' (first | (with_reducible exact Below.refl _ _) | (with_reducible refine Below.alloc ?_ ?_ _) | (with_reducible refine Below.setCell ?_ ?_ _) | (with_reducible refine Below.drew ?_) | (refine below_hyp (by assumption) ?_ ?_) | go_size))⟩

set_option maxHeartbeats 2000000 in
theorem L_toClsMapS (xs : List DClsMap) (v : Value) (w : World) (hv : Sl 3 rClsMap 0 w v xs) (hs : wtS wtClsMap xs ≤ 1048576) :
    Calls Tryz.prog 109 #[v] w fun e w' => (∃ v', e = .returned v' ∧ Sl 3 rClsMap w.heap.size w' v' xs) ∧ Below w.heap.size w w' := by
  obtain ⟨a, len, cap, rfl, hl, h1, h2, h3⟩ := id hv
  have hs0 := wtS_len wtClsMap xs
  have HSW := Lib.hid hs
  have hs' : len ≤ 1048576 := by omega
  clear hs0
  have hmk := make_rows (P := Tryz.prog) w 119 150 (.agg #[.int .i64 0, .slice none 0 0, .slice none 0 0]) 3 56 (by kernel_rfl) (by kernel_rfl) (by omega) len hs'
  have hP := Part.start (k := 3) (R := rClsMap) (w := w) (len := len) (xs := xs) (Value.cells (.agg #[.int .i64 0, .slice none 0 0, .slice none 0 0])) 150
  have hB : Below w.heap.size w (w.alloc (.cells (madeCells (Value.cells (.agg #[.int .i64 0, .slice none 0 0, .slice none 0 0])) (len * 3)) 150)) := by (repeat' (first | (with_reducible exact Below.refl _ _) | (with_reducible refine Below.alloc ?_ ?_ _) | (with_reducible refine Below.setCell ?_ ?_ _) | (with_reducible refine Below.drew ?_) | (refine below_hyp (by assumption) ?_ ?_) | go_size))
  have m1 : len ≤ 9223372036854775807 := by omega
  have m2 : len ≤ maxLen := by unfold maxLen; omega
  have hsz : (w.alloc (.cells (madeCells (Value.cells (.agg #[.int .i64 0, .slice none 0 0, .slice none 0 0])) (len * 3)) 150)).heap.size = w.heap.size + 1 := by simp
  generalize w.alloc (.cells (madeCells (Value.cells (.agg #[.int .i64 0, .slice none 0 0, .slice none 0 0])) (len * 3)) 150) = wm at *
  have HL := Lib.hid hl
  have H1 := Lib.hid h1
  have HS := Lib.hid hs'
  have M2 := Lib.hid m2
  clear h2 hl h1 hs hs' m2
  refine calls_hide fun R HR => ?_
  go_enter Tryz.func109, Tryz.ntmps109
  go_wp2_with fail
  go_loopw [4] (fun i wr => ∃ k : Nat, k ≤ len ∧ i = .int .i64 k ∧ Below w.heap.size w wr ∧ Part 3 rClsMap wr w.heap.size len k xs) (fun i _ => len - (intOf i).toNat)
  case atStart => exact ⟨0, Nat.zero_le _, rfl, hB, hP⟩
  case round =>
    clear hmk hP hB hsz
    obtain ⟨k, hk, rfl, hb, hp⟩ := hrel
    by_cases hlt : k < len
    · obtain ⟨b, off, rfl, hlo, hbl, hr⟩ := h3.stays rClsMap_good (Keeps.of_below hb) (by omega)
      obtain ⟨x, cs, e0, e1, e2, e3⟩ := hr k hlt
      obtain ⟨v1, v2, rfl, s1, s2⟩ := e3
      obtain ⟨na1, nl1, nc1, rfl⟩ := s1.form
      obtain ⟨na2, nl2, nc2, rfl⟩ := s2.form
      have q1 : wr.cell? ⟨b, off + k * 3, none⟩ = some (.int .i64 x.fAt) := e2 0 _ rfl
      have q2 : wr.cell? ⟨b, off + k * 3 + 1, none⟩ = some (.slice na1 nl1 nc1) := e2 1 _ rfl
      have q3 : wr.cell? ⟨b, off + k * 3 + 2, none⟩ = some (.slice na2 nl2 nc2) := e2 2 _ rfl
      have hbx := hb.size
      have hpl := hp.lt
      clear e1 e2 hr
      go_wp2_with fail
      refine (L_toClsMap x _ _ _ s1 s2 (by have h8 := wtS_mem wtClsMap e0; have h9 := HSW.out; omega)).mono ?_
      rintro _ wA ⟨⟨y1, y2, rfl, t1, t2⟩, hA⟩
      obtain ⟨ya1, yl1, yc1, rfl⟩ := t1.form
      obtain ⟨ya2, yl2, yc2, rfl⟩ := t2.form
      have hz := hA.size
      have hp' := hp.below rClsMap_good hA
      have t00 := hp'.there (k * 3) (by omega)
      rw [Nat.zero_add] at t00
      obtain ⟨u00, hu0⟩ := Option.isSome_iff_exists.1 t00.1
      have hf0 := t00.2
      have t01 := hp'.there (k * 3 + 1) (by omega)
      rw [Nat.zero_add] at t01
      obtain ⟨u01, hu1⟩ := Option.isSome_iff_exists.1 t01.1
      have hf1 := t01.2
      have t02 := hp'.there (k * 3 + 2) (by omega)
      rw [Nat.zero_add] at t02
      obtain ⟨u02, hu2⟩ := Option.isSome_iff_exists.1 t02.1
      have hf2 := t02.2
      clear t00 t01 t02 q1 q2 q3
      have h7 := hp'.step rClsMap_good hlt e0 (cs := [.int .i64 x.fAt, .slice ya1 yl1 yc1, .slice ya2 yl2 yc2]) rfl ⟨_, _, rfl, t1.low rTagTag_good (by omega), t2.low rTagTag_good (by omega)⟩
      simp only [World.setCells, Nat.add_assoc, Nat.reduceAdd] at h7
      have H7 := Lib.hid h7
      clear h7
      go_wp2
      go_roundw
      case measure => simp [intOf]; omega
      case rel => exact ⟨k + 1, by omega, by go_num, by (repeat' (first | (with_reducible exact Below.refl _ _) | (with_reducible refine Below.alloc ?_ ?_ _) | (with_reducible refine Below.setCell ?_ ?_ _) | (with_reducible refine Below.drew ?_) | (refine below_hyp (by assumption) ?_ ?_) | go_size)), H7.out⟩
    · obtain rfl : k = len := by omega
      go_wp2
      all_goals (try go_returns)
      all_goals exact HR.out _ _ ⟨⟨_, rfl, hp.done rClsMap_good HL.out M2.out⟩, by (repeat' (first | (with_reducible exact Below.refl _ _) | (with_reducible refine Below.alloc ?_ ?_ _) | (with_reducible refine Below.setCell ?_ ?_ _) | (with_reducible refine Below.drew ?_) | (refine below_hyp (by assumption) ?_ ?_) | go_size))⟩

set_option maxHeartbeats 2000000 in
theorem L_eqClsMapS (xs : List DClsMap) (v v' : Value) (w : World) (hv : Sl 3 rClsMap 0 w v xs) (hv' : Sl 3 rClsMap 0 w v' xs) :
    Calls Tryz.prog 117 #[v, v'] w fun e w' => e = .returned (.bool true) ∧ Below w.heap.size w w' := by
  obtain ⟨a, len, cap, rfl, hl, h1, h2, h3⟩ := id hv
  obtain ⟨a', len', cap', rfl, hl', h1', h2', h3'⟩ := id hv'
  obtain rfl : len' = len := hl'.symm.trans hl
  have m1 : len' ≤ 9223372036854775807 := by unfold maxLen at h2; omega
  have HL := Lib.hid hl
  have H1 := Lib.hid h1
  have H1' := Lib.hid h1'
  clear h2 h2' hl hl' h1 h1'
  refine calls_hide fun R HR => ?_
  go_enter Tryz.func117, Tryz.ntmps117
  go_wp2_with fail
  go_loopw [5] (fun i wr => ∃ k : Nat, k ≤ len' ∧ i = .int .i64 k ∧ Below w.heap.size w wr) (fun i _ => len' - (intOf i).toNat)
  case atStart => exact ⟨0, Nat.zero_le _, rfl, by (repeat' (first | (with_reducible exact Below.refl _ _) | (with_reducible refine Below.alloc ?_ ?_ _) | (with_reducible refine Below.setCell ?_ ?_ _) | (with_reducible refine Below.drew ?_) | (refine below_hyp (by assumption) ?_ ?_) | go_size))⟩
  case round =>
    obtain ⟨k, hk, rfl, hb⟩ := hrel
    by_cases hlt : k < len'
    · obtain ⟨b, off, rfl, hlo, hbl, hr⟩ := h3.stays rClsMap_good (Keeps.of_below hb) (by omega)
      obtain ⟨b', off', rfl, hlo', hbl', hr'⟩ := h3'.stays rClsMap_good (Keeps.of_below hb) (by omega)
      obtain ⟨x, cs, e0, e1, e2, e3⟩ := hr k hlt
      obtain ⟨x', cs', e0', e1', e2', e3'⟩ := hr' k hlt
      obtain rfl : x = x' := Option.some.inj (e0.symm.trans e0')
      obtain ⟨v1, v2, rfl, s1, s2⟩ := e3
      obtain ⟨na1, nl1, nc1, rfl⟩ := s1.form
      obtain ⟨na2, nl2, nc2, rfl⟩ := s2.form
      obtain ⟨z1, z2, rfl, d1, d2⟩ := e3'
      obtain ⟨pa1, pl1, pc1, rfl⟩ := d1.form
      obtain ⟨pa2, pl2, pc2, rfl⟩ := d2.form
      go_wp2_with fail
      have q1 : ∀ W, Below wr.heap.size wr W → W.cell? ⟨b, off + k * 3, none⟩ = some (.int .i64 x.fAt) := fun W hW => range_below e2 hW hbl 0 _ rfl
      have q2 : ∀ W, Below wr.heap.size wr W → W.cell? ⟨b, off + k * 3 + 1, none⟩ = some (.slice na1 nl1 nc1) := fun W hW => range_below e2 hW hbl 1 _ rfl
      have q3 : ∀ W, Below wr.heap.size wr W → W.cell? ⟨b, off + k * 3 + 2, none⟩ = some (.slice na2 nl2 nc2) := fun W hW => range_below e2 hW hbl 2 _ rfl
      have o1 : ∀ W, Below wr.heap.size wr W → W.cell? ⟨b', off' + k * 3, none⟩ = some (.int .i64 x.fAt) := fun W hW => range_below e2' hW hbl' 0 _ rfl
      have o2 : ∀ W, Below wr.heap.size wr W → W.cell? ⟨b', off' + k * 3 + 1, none⟩ = some (.slice pa1 pl1 pc1) := fun W hW => range_below e2' hW hbl' 1 _ rfl
      have o3 : ∀ W, Below wr.heap.size wr W → W.cell? ⟨b', off' + k * 3 + 2, none⟩ = some (.slice pa2 pl2 pc2) := fun W hW => range_below e2' hW hbl' 2 _ rfl
      clear e1 e2 e1' e2' hr hr'
      have hbx := hb.size
      have keepA : ∀ x x' : World, Below x.heap.size x x' → Below wr.heap.size wr x → Below wr.heap.size wr x' := fun x x' hb e => keep_below hb e (Nat.le_refl _)
      go_region_held3 (fun x => Below wr.heap.size wr x) (first | exact (Below.refl _ _).drew | exact keepA _ _ (by assumption) (by assumption)) (first | (go_at_call 125; refine (L_eqClsMap x _ _ _ _ _ (s1.stays rTagTag_good (Keeps.of_below' (by assumption) (Nat.le_refl _))) (s2.stays rTagTag_good (Keeps.of_below' (by assumption) (Nat.le_refl _))) (d1.stays rTagTag_good (Keeps.of_below' (by assumption) (Nat.le_refl _))) (d2.stays rTagTag_good (Keeps.of_below' (by assumption) (Nat.le_refl _)))).mono ?_; rintro _ _ ⟨rfl, _⟩))
      rename_i wA _ hA
      have hz := hA.size
      clear q1 o1 q2 o2 q3 o3 keepA
      go_wp2
      go_roundw
      case measure => simp [intOf]; omega
      case rel => exact ⟨k + 1, by omega, by go_num, hb.trans (hA.mono hbx)⟩
    · skip
      go_wp2
      all_goals (try go_returns)
      all_goals exact HR.out _ _ ⟨rfl, by (repeat' (first | (with_reducible exact Below.refl _ _) | (with_reducible refine Below.alloc ?_ ?_ _) | (with_reducible refine Below.setCell ?_ ?_ _) | (with_reducible refine Below.drew ?_) | (refine below_hyp (by assumption) ?_ ?_) | go_size))⟩

set_option maxHeartbeats 2000000 in
theorem L_szClsMethod (x : DClsMethod) (v1 v2 v3 : Value) (l : Int) (w : World) (s1 : Sl 2 rKndKind 0 w v1 x.fArgs) (s2 : Sl 4 rClsIns 0 w v2 x.fCode) (s3 : Sl 3 rClsMap 0 w v3 x.fMaps) (b1 : x.fName.size ≤ maxLen) (b2 : x.fRet.fName.size ≤ maxLen) (hl : 0 ≤ l ∧ l ≤ 1048576) :
    Calls Tryz.prog 93 #[.agg #[.string x.fName, v1, .int .i64 x.fRet.fKind, .string x.fRet.fName, .int .i64 x.fLocals, .int .i64 x.fStack, v2, v3], .int .i64 l] w fun e w' => (∃ r : Int, e = .returned (.int .i64 r) ∧ (r = -1 ∨ (0 ≤ r ∧ r + wtClsMethod x ≤ l))) ∧ Below w.heap.size w w' := by
  obtain ⟨na1, nl1, nc1, rfl⟩ := s1.form
  obtain ⟨na2, nl2, nc2, rfl⟩ := s2.form
  obtain ⟨na3, nl3, nc3, rfl⟩ := s3.form
  have m1 : x.fName.size ≤ 9223372036854775807 := by unfold maxLen at b1; omega
  have m2 : x.fRet.fName.size ≤ 9223372036854775807 := by unfold maxLen at b2; omega
  obtain ⟨hl1, hl2⟩ := hl
  refine calls_hide fun R HR => ?_
  go_enter Tryz.func93, Tryz.ntmps93
  go_wp2_with fail
  all_goals first
    | (try go_returns
       exact HR.out _ _ ⟨⟨_, rfl, by first | exact Or.inl rfl | exact Or.inr ⟨by omega, by unfold wtClsMethod; omega⟩⟩, by (repeat' (first | (with_reducible exact Below.refl _ _) | (with_reducible refine Below.alloc ?_ ?_ _) | (with_reducible refine Below.setCell ?_ ?_ _) | (with_reducible refine Below.drew ?_) | (refine below_hyp (by assumption) ?_ ?_) | go_size))⟩)
    | skip
  refine (L_szKndKindS x.fArgs _ _ _ (s1.stays rKndKind_good (Keeps.of_below' (B := w.heap.size) (by (repeat' (first | (with_reducible exact Below.refl _ _) | (with_reducible refine Below.alloc ?_ ?_ _) | (with_reducible refine Below.setCell ?_ ?_ _) | (with_reducible refine Below.drew ?_) | (refine below_hyp (by assumption) ?_ ?_) | go_size))) (Nat.le_refl _))) ⟨by omega, by omega⟩).mono ?_
  rintro _ w1 ⟨⟨r1, rfl, hr1⟩, g1⟩
  have g1s := (g1).size; (try simp only [World.size_alloc, World.size_setCell, World.size_drew] at g1s)
  obtain ⟨g1ac, g1ad, g1ao, g1af, g1ag, g1ap, g1az, g1ax, g1ay⟩ := bfacts (n := w.heap.size) (k := 1) g1 (by go_size) (by go_size); replace g1ad := g1ad (by decide); replace g1ag := g1ag (by decide); replace g1ax := g1ax (by decide); clear g1ac g1af g1az
  rcases hr1 with rfl | ⟨ra1, rb1⟩
  · go_wp2
    all_goals (try go_returns)
    all_goals exact HR.out _ _ ⟨⟨_, rfl, by first | exact Or.inl rfl | exact Or.inr ⟨by omega, by unfold wtClsMethod; omega⟩⟩, by (repeat' (first | (with_reducible exact Below.refl _ _) | (with_reducible refine Below.alloc ?_ ?_ _) | (with_reducible refine Below.setCell ?_ ?_ _) | (with_reducible refine Below.drew ?_) | (refine below_hyp (by assumption) ?_ ?_) | go_size))⟩
  have rn1 : ¬ r1 < 0 := by omega
  go_wp2_with fail
  all_goals first
    | (try go_returns
       exact HR.out _ _ ⟨⟨_, rfl, by first | exact Or.inl rfl | exact Or.inr ⟨by omega, by unfold wtClsMethod; omega⟩⟩, by (repeat' (first | (with_reducible exact Below.refl _ _) | (with_reducible refine Below.alloc ?_ ?_ _) | (with_reducible refine Below.setCell ?_ ?_ _) | (with_reducible refine Below.drew ?_) | (refine below_hyp (by assumption) ?_ ?_) | go_size))⟩)
    | skip
  refine (L_szKndKind x.fRet _ _ b2 ⟨by omega, by omega⟩).mono ?_
  rintro _ w2 ⟨⟨r2, rfl, hr2⟩, g2⟩
  have g2s := (g2).size; (try simp only [World.size_alloc, World.size_setCell, World.size_drew] at g2s)
  obtain ⟨g2ac, g2ad, g2ao, g2af, g2ag, g2ap, g2az, g2ax, g2ay⟩ := bfacts (n := w.heap.size) (k := 1) g2 (by go_size) (by go_size); replace g2ad := g2ad (by decide); replace g2ag := g2ag (by decide); replace g2ax := g2ax (by decide); clear g2ac g2af g2az
  rcases hr2 with rfl | ⟨ra2, rb2⟩
  · go_wp2
    all_goals (try go_returns)
    all_goals exact HR.out _ _ ⟨⟨_, rfl, by first | exact Or.inl rfl | exact Or.inr ⟨by omega, by unfold wtClsMethod; omega⟩⟩, by (repeat' (first | (with_reducible exact Below.refl _ _) | (with_reducible refine Below.alloc ?_ ?_ _) | (with_reducible refine Below.setCell ?_ ?_ _) | (with_reducible refine Below.drew ?_) | (refine below_hyp (by assumption) ?_ ?_) | go_size))⟩
  have rn2 : ¬ r2 < 0 := by omega
  go_wp2_with fail
  all_goals first
    | (try go_returns
       exact HR.out _ _ ⟨⟨_, rfl, by first | exact Or.inl rfl | exact Or.inr ⟨by omega, by unfold wtClsMethod; omega⟩⟩, by (repeat' (first | (with_reducible exact Below.refl _ _) | (with_reducible refine Below.alloc ?_ ?_ _) | (with_reducible refine Below.setCell ?_ ?_ _) | (with_reducible refine Below.drew ?_) | (refine below_hyp (by assumption) ?_ ?_) | go_size))⟩)
    | skip
  refine (L_szClsInsS x.fCode _ _ _ (s2.stays rClsIns_good (Keeps.of_below' (B := w.heap.size) (by (repeat' (first | (with_reducible exact Below.refl _ _) | (with_reducible refine Below.alloc ?_ ?_ _) | (with_reducible refine Below.setCell ?_ ?_ _) | (with_reducible refine Below.drew ?_) | (refine below_hyp (by assumption) ?_ ?_) | go_size))) (Nat.le_refl _))) ⟨by omega, by omega⟩).mono ?_
  rintro _ w3 ⟨⟨r3, rfl, hr3⟩, g3⟩
  have g3s := (g3).size; (try simp only [World.size_alloc, World.size_setCell, World.size_drew] at g3s)
  obtain ⟨g3ac, g3ad, g3ao, g3af, g3ag, g3ap, g3az, g3ax, g3ay⟩ := bfacts (n := w.heap.size) (k := 1) g3 (by go_size) (by go_size); replace g3ad := g3ad (by decide); replace g3ag := g3ag (by decide); replace g3ax := g3ax (by decide); clear g3ac g3af g3az
  rcases hr3 with rfl | ⟨ra3, rb3⟩
  · go_wp2
    all_goals (try go_returns)
    all_goals exact HR.out _ _ ⟨⟨_, rfl, by first | exact Or.inl rfl | exact Or.inr ⟨by omega, by unfold wtClsMethod; omega⟩⟩, by (repeat' (first | (with_reducible exact Below.refl _ _) | (with_reducible refine Below.alloc ?_ ?_ _) | (with_reducible refine Below.setCell ?_ ?_ _) | (with_reducible refine Below.drew ?_) | (refine below_hyp (by assumption) ?_ ?_) | go_size))⟩
  have rn3 : ¬ r3 < 0 := by omega
  go_wp2_with fail
  all_goals first
    | (try go_returns
       exact HR.out _ _ ⟨⟨_, rfl, by first | exact Or.inl rfl | exact Or.inr ⟨by omega, by unfold wtClsMethod; omega⟩⟩, by (repeat' (first | (with_reducible exact Below.refl _ _) | (with_reducible refine Below.alloc ?_ ?_ _) | (with_reducible refine Below.setCell ?_ ?_ _) | (with_reducible refine Below.drew ?_) | (refine below_hyp (by assumption) ?_ ?_) | go_size))⟩)
    | skip
  refine (L_szClsMapS x.fMaps _ _ _ (s3.stays rClsMap_good (Keeps.of_below' (B := w.heap.size) (by (repeat' (first | (with_reducible exact Below.refl _ _) | (with_reducible refine Below.alloc ?_ ?_ _) | (with_reducible refine Below.setCell ?_ ?_ _) | (with_reducible refine Below.drew ?_) | (refine below_hyp (by assumption) ?_ ?_) | go_size))) (Nat.le_refl _))) ⟨by omega, by omega⟩).mono ?_
  rintro _ w4 ⟨⟨r4, rfl, hr4⟩, g4⟩
  have g4s := (g4).size; (try simp only [World.size_alloc, World.size_setCell, World.size_drew] at g4s)
  obtain ⟨g4ac, g4ad, g4ao, g4af, g4ag, g4ap, g4az, g4ax, g4ay⟩ := bfacts (n := w.heap.size) (k := 1) g4 (by go_size) (by go_size); replace g4ad := g4ad (by decide); replace g4ag := g4ag (by decide); replace g4ax := g4ax (by decide); clear g4ac g4af g4az
  rcases hr4 with rfl | ⟨ra4, rb4⟩
  · go_wp2
    all_goals (try go_returns)
    all_goals exact HR.out _ _ ⟨⟨_, rfl, by first | exact Or.inl rfl | exact Or.inr ⟨by omega, by unfold wtClsMethod; omega⟩⟩, by (repeat' (first | (with_reducible exact Below.refl _ _) | (with_reducible refine Below.alloc ?_ ?_ _) | (with_reducible refine Below.setCell ?_ ?_ _) | (with_reducible refine Below.drew ?_) | (refine below_hyp (by assumption) ?_ ?_) | go_size))⟩
  have rn4 : ¬ r4 < 0 := by omega
  go_wp2
  all_goals (try go_returns)
  all_goals exact HR.out _ _ ⟨⟨_, rfl, by first | exact Or.inl rfl | exact Or.inr ⟨by omega, by unfold wtClsMethod; omega⟩⟩, by (repeat' (first | (with_reducible exact Below.refl _ _) | (with_reducible refine Below.alloc ?_ ?_ _) | (with_reducible refine Below.setCell ?_ ?_ _) | (with_reducible refine Below.drew ?_) | (refine below_hyp (by assumption) ?_ ?_) | go_size))⟩

set_option maxHeartbeats 2000000 in
theorem L_toClsMethod (x : DClsMethod) (v1 v2 v3 : Value) (w : World) (s1 : Sl 2 rKndKind 0 w v1 x.fArgs) (s2 : Sl 4 rClsIns 0 w v2 x.fCode) (s3 : Sl 3 rClsMap 0 w v3 x.fMaps) (hw : wtClsMethod x ≤ 1048576) :
    Calls Tryz.prog 95 #[.agg #[.string x.fName, v1, .int .i64 x.fRet.fKind, .string x.fRet.fName, .int .i64 x.fLocals, .int .i64 x.fStack, v2, v3]] w fun e w' => (∃ y1 y2 y3 : Value, e = .returned (.agg #[.string x.fName, y1, .int .i64 x.fRet.fKind, .string x.fRet.fName, .int .i64 x.fLocals, .int .i64 x.fStack, y2, y3]) ∧ Sl 2 rKndKind w.heap.size w' y1 x.fArgs ∧ Sl 4 rClsIns w.heap.size w' y2 x.fCode ∧ Sl 3 rClsMap w.heap.size w' y3 x.fMaps) ∧ Below w.heap.size w w' := by
  obtain ⟨na1, nl1, nc1, rfl⟩ := s1.form
  obtain ⟨na2, nl2, nc2, rfl⟩ := s2.form
  obtain ⟨na3, nl3, nc3, rfl⟩ := s3.form
  unfold wtClsMethod at hw
  have HW := Lib.hid hw
  clear hw
  refine calls_hide fun R HR => ?_
  go_enter Tryz.func95, Tryz.ntmps95
  go_wp2_with fail
  refine (L_toKndKindS x.fArgs _ _ (s1.stays rKndKind_good (Keeps.of_below' (B := w.heap.size) (by (repeat' (first | (with_reducible exact Below.refl _ _) | (with_reducible refine Below.alloc ?_ ?_ _) | (with_reducible refine Below.setCell ?_ ?_ _) | (with_reducible refine Below.drew ?_) | (refine below_hyp (by assumption) ?_ ?_) | go_size))) (Nat.le_refl _))) (by have := HW.out; first | omega | (have h9 := wtS_len wtKndKind x.fArgs; omega))).mono ?_
  rintro _ w1 ⟨⟨y1, rfl, t1⟩, g1⟩
  obtain ⟨ya1, yl1, yc1, rfl⟩ := t1.form
  have g1s := (g1).size; (try simp only [World.size_alloc, World.size_setCell, World.size_drew] at g1s)
  obtain ⟨g1ac, g1ad, g1ao, g1af, g1ag, g1ap, g1az, g1ax, g1ay⟩ := bfacts (n := w.heap.size) (k := 3) g1 (by go_size) (by go_size); replace g1ad := g1ad (by decide); replace g1ag := g1ag (by decide); replace g1ax := g1ax (by decide); have g1ac1 := fun o => g1ac 1 o (by decide); have g1af1 := fun o => g1af 1 o (by decide); have g1az1 := g1az 1 (by decide); have g1ac2 := fun o => g1ac 2 o (by decide); have g1af2 := fun o => g1af 2 o (by decide); have g1az2 := g1az 2 (by decide); clear g1ac g1af g1az
  go_wp2_with fail
  refine (L_toKndKind x.fRet _).mono ?_
  rintro _ w2 ⟨rfl, g2⟩
  have g2s := (g2).size; (try simp only [World.size_alloc, World.size_setCell, World.size_drew] at g2s)
  obtain ⟨g2ac, g2ad, g2ao, g2af, g2ag, g2ap, g2az, g2ax, g2ay⟩ := bfacts (n := w.heap.size) (k := 3) g2 (by go_size) (by go_size); replace g2ad := g2ad (by decide); replace g2ag := g2ag (by decide); replace g2ax := g2ax (by decide); have g2ac1 := fun o => g2ac 1 o (by decide); have g2af1 := fun o => g2af 1 o (by decide); have g2az1 := g2az 1 (by decide); have g2ac2 := fun o => g2ac 2 o (by decide); have g2af2 := fun o => g2af 2 o (by decide); have g2az2 := g2az 2 (by decide); clear g2ac g2af g2az
  go_wp2_with fail
  refine (L_toClsInsS x.fCode _ _ (s2.stays rClsIns_good (Keeps.of_below' (B := w.heap.size) (by (repeat' (first | (with_reducible exact Below.refl _ _) | (with_reducible refine Below.alloc ?_ ?_ _) | (with_reducible refine Below.setCell ?_ ?_ _) | (with_reducible refine Below.drew ?_) | (refine below_hyp (by assumption) ?_ ?_) | go_size))) (Nat.le_refl _))) (by have := HW.out; first | omega | (have h9 := wtS_len wtClsIns x.fCode; omega))).mono ?_
  rintro _ w3 ⟨⟨y2, rfl, t2⟩, g3⟩
  obtain ⟨ya2, yl2, yc2, rfl⟩ := t2.form
  have g3s := (g3).size; (try simp only [World.size_alloc, World.size_setCell, World.size_drew] at g3s)
  obtain ⟨g3ac, g3ad, g3ao, g3af, g3ag, g3ap, g3az, g3ax, g3ay⟩ := bfacts (n := w.heap.size) (k := 3) g3 (by go_size) (by go_size); replace g3ad := g3ad (by decide); replace g3ag := g3ag (by decide); replace g3ax := g3ax (by decide); have g3ac1 := fun o => g3ac 1 o (by decide); have g3af1 := fun o => g3af 1 o (by decide); have g3az1 := g3az 1 (by decide); have g3ac2 := fun o => g3ac 2 o (by decide); have g3af2 := fun o => g3af 2 o (by decide); have g3az2 := g3az 2 (by decide); clear g3ac g3af g3az
  go_wp2_with fail
  refine (L_toClsMapS x.fMaps _ _ (s3.stays rClsMap_good (Keeps.of_below' (B := w.heap.size) (by (repeat' (first | (with_reducible exact Below.refl _ _) | (with_reducible refine Below.alloc ?_ ?_ _) | (with_reducible refine Below.setCell ?_ ?_ _) | (with_reducible refine Below.drew ?_) | (refine below_hyp (by assumption) ?_ ?_) | go_size))) (Nat.le_refl _))) (by have := HW.out; first | omega | (have h9 := wtS_len wtClsMap x.fMaps; omega))).mono ?_
  rintro _ w4 ⟨⟨y3, rfl, t3⟩, g4⟩
  obtain ⟨ya3, yl3, yc3, rfl⟩ := t3.form
  have g4s := (g4).size; (try simp only [World.size_alloc, World.size_setCell, World.size_drew] at g4s)
  obtain ⟨g4ac, g4ad, g4ao, g4af, g4ag, g4ap, g4az, g4ax, g4ay⟩ := bfacts (n := w.heap.size) (k := 3) g4 (by go_size) (by go_size); replace g4ad := g4ad (by decide); replace g4ag := g4ag (by decide); replace g4ax := g4ax (by decide); have g4ac1 := fun o => g4ac 1 o (by decide); have g4af1 := fun o => g4af 1 o (by decide); have g4az1 := g4az 1 (by decide); have g4ac2 := fun o => g4ac 2 o (by decide); have g4af2 := fun o => g4af 2 o (by decide); have g4az2 := g4az 2 (by decide); clear g4ac g4af g4az
  go_wp2
  all_goals
    refine bodyPost_ret (v := ?_) ?hrun rfl ?_
    case hrun => (simp only [results, Tryz.results95]; go_simp; first | done | exact rfl)
    exact HR.out _ _ ⟨⟨_, _, _, rfl, (t1.stays rKndKind_good (by (repeat' (first | (with_reducible exact Keeps.refl _ _) | (with_reducible refine Keeps.alloc ?_ _) | (with_reducible refine Keeps.setCell ?_ ?_ _) | (with_reducible refine Keeps.drew ?_) | (refine keeps_hyp (by assumption) ?_ ?_) | go_size)))).low rKndKind_good (by go_size), (t2.stays rClsIns_good (by (repeat' (first | (with_reducible exact Keeps.refl _ _) | (with_reducible refine Keeps.alloc ?_ _) | (with_reducible refine Keeps.setCell ?_ ?_ _) | (with_reducible refine Keeps.drew ?_) | (refine keeps_hyp (by assumption) ?_ ?_) | go_size)))).low rClsIns_good (by go_size), (t3.stays rClsMap_good (by (repeat' (first | (with_reducible exact Keeps.refl _ _) | (with_reducible refine Keeps.alloc ?_ _) | (with_reducible refine Keeps.setCell ?_ ?_ _) | (with_reducible refine Keeps.drew ?_) | (refine keeps_hyp (by assumption) ?_ ?_) | go_size)))).low rClsMap_good (by go_size)⟩, by (repeat' (first | (with_reducible exact Below.refl _ _) | (with_reducible refine Below.alloc ?_ ?_ _) | (with_reducible refine Below.setCell ?_ ?_ _) | (with_reducible refine Below.drew ?_) | (refine below_hyp (by assumption) ?_ ?_) | go_size))⟩

set_option maxHeartbeats 2000000 in
theorem L_eqClsMethod (x : DClsMethod) (v1 v2 v3 : Value) (z1 z2 z3 : Value) (w : World) (s1 : Sl 2 rKndKind 0 w v1 x.fArgs) (s2 : Sl 4 rClsIns 0 w v2 x.fCode) (s3 : Sl 3 rClsMap 0 w v3 x.fMaps) (d1 : Sl 2 rKndKind 0 w z1 x.fArgs) (d2 : Sl 4 rClsIns 0 w z2 x.fCode) (d3 : Sl 3 rClsMap 0 w z3 x.fMaps) :
    Calls Tryz.prog 99 #[.agg #[.string x.fName, v1, .int .i64 x.fRet.fKind, .string x.fRet.fName, .int .i64 x.fLocals, .int .i64 x.fStack, v2, v3], .agg #[.string x.fName, z1, .int .i64 x.fRet.fKind, .string x.fRet.fName, .int .i64 x.fLocals, .int .i64 x.fStack, z2, z3]] w fun e w' => e = .returned (.bool true) ∧ Below w.heap.size w w' := by
  obtain ⟨na1, nl1, nc1, rfl⟩ := s1.form
  obtain ⟨na2, nl2, nc2, rfl⟩ := s2.form
  obtain ⟨na3, nl3, nc3, rfl⟩ := s3.form
  obtain ⟨za1, zl1, zc1, rfl⟩ := d1.form
  obtain ⟨za2, zl2, zc2, rfl⟩ := d2.form
  obtain ⟨za3, zl3, zc3, rfl⟩ := d3.form
  refine calls_hide fun R HR => ?_
  go_enter Tryz.func99, Tryz.ntmps99
  go_wp2_with fail
  refine (L_eqKndKindS x.fArgs _ _ _ (s1.stays rKndKind_good (Keeps.of_below' (B := w.heap.size) (by (repeat' (first | (with_reducible exact Below.refl _ _) | (with_reducible refine Below.alloc ?_ ?_ _) | (with_reducible refine Below.setCell ?_ ?_ _) | (with_reducible refine Below.drew ?_) | (refine below_hyp (by assumption) ?_ ?_) | go_size))) (Nat.le_refl _))) (d1.stays rKndKind_good (Keeps.of_below' (B := w.heap.size) (by (repeat' (first | (with_reducible exact Below.refl _ _) | (with_reducible refine Below.alloc ?_ ?_ _) | (with_reducible refine Below.setCell ?_ ?_ _) | (with_reducible refine Below.drew ?_) | (refine below_hyp (by assumption) ?_ ?_) | go_size))) (Nat.le_refl _)))).mono ?_
  rintro _ w1 ⟨rfl, g1⟩
  have g1s := (g1).size; (try simp only [World.size_alloc, World.size_setCell, World.size_drew] at g1s)
  obtain ⟨g1ac, g1ad, g1ao, g1af, g1ag, g1ap, g1az, g1ax, g1ay⟩ := bfacts (n := w.heap.size) (k := 2) g1 (by go_size) (by go_size); replace g1ad := g1ad (by decide); replace g1ag := g1ag (by decide); replace g1ax := g1ax (by decide); have g1ac1 := fun o => g1ac 1 o (by decide); have g1af1 := fun o => g1af 1 o (by decide); have g1az1 := g1az 1 (by decide); clear g1ac g1af g1az
  go_wp2_with fail
  refine (L_eqKndKind x.fRet _).mono ?_
  rintro _ w2 ⟨rfl, g2⟩
  have g2s := (g2).size; (try simp only [World.size_alloc, World.size_setCell, World.size_drew] at g2s)
  obtain ⟨g2ac, g2ad, g2ao, g2af, g2ag, g2ap, g2az, g2ax, g2ay⟩ := bfacts (n := w.heap.size) (k := 2) g2 (by go_size) (by go_size); replace g2ad := g2ad (by decide); replace g2ag := g2ag (by decide); replace g2ax := g2ax (by decide); have g2ac1 := fun o => g2ac 1 o (by decide); have g2af1 := fun o => g2af 1 o (by decide); have g2az1 := g2az 1 (by decide); clear g2ac g2af g2az
  go_wp2_with fail
  refine (L_eqClsInsS x.fCode _ _ _ (s2.stays rClsIns_good (Keeps.of_below' (B := w.heap.size) (by (repeat' (first | (with_reducible exact Below.refl _ _) | (with_reducible refine Below.alloc ?_ ?_ _) | (with_reducible refine Below.setCell ?_ ?_ _) | (with_reducible refine Below.drew ?_) | (refine below_hyp (by assumption) ?_ ?_) | go_size))) (Nat.le_refl _))) (d2.stays rClsIns_good (Keeps.of_below' (B := w.heap.size) (by (repeat' (first | (with_reducible exact Below.refl _ _) | (with_reducible refine Below.alloc ?_ ?_ _) | (with_reducible refine Below.setCell ?_ ?_ _) | (with_reducible refine Below.drew ?_) | (refine below_hyp (by assumption) ?_ ?_) | go_size))) (Nat.le_refl _)))).mono ?_
  rintro _ w3 ⟨rfl, g3⟩
  have g3s := (g3).size; (try simp only [World.size_alloc, World.size_setCell, World.size_drew] at g3s)
  obtain ⟨g3ac, g3ad, g3ao, g3af, g3ag, g3ap, g3az, g3ax, g3ay⟩ := bfacts (n := w.heap.size) (k := 2) g3 (by go_size) (by go_size); replace g3ad := g3ad (by decide); replace g3ag := g3ag (by decide); replace g3ax := g3ax (by decide); have g3ac1 := fun o => g3ac 1 o (by decide); have g3af1 := fun o => g3af 1 o (by decide); have g3az1 := g3az 1 (by decide); clear g3ac g3af g3az
  go_wp2_with fail
  refine (L_eqClsMapS x.fMaps _ _ _ (s3.stays rClsMap_good (Keeps.of_below' (B := w.heap.size) (by (repeat' (first | (with_reducible exact Below.refl _ _) | (with_reducible refine Below.alloc ?_ ?_ _) | (with_reducible refine Below.setCell ?_ ?_ _) | (with_reducible refine Below.drew ?_) | (refine below_hyp (by assumption) ?_ ?_) | go_size))) (Nat.le_refl _))) (d3.stays rClsMap_good (Keeps.of_below' (B := w.heap.size) (by (repeat' (first | (with_reducible exact Below.refl _ _) | (with_reducible refine Below.alloc ?_ ?_ _) | (with_reducible refine Below.setCell ?_ ?_ _) | (with_reducible refine Below.drew ?_) | (refine below_hyp (by assumption) ?_ ?_) | go_size))) (Nat.le_refl _)))).mono ?_
  rintro _ w4 ⟨rfl, g4⟩
  have g4s := (g4).size; (try simp only [World.size_alloc, World.size_setCell, World.size_drew] at g4s)
  obtain ⟨g4ac, g4ad, g4ao, g4af, g4ag, g4ap, g4az, g4ax, g4ay⟩ := bfacts (n := w.heap.size) (k := 2) g4 (by go_size) (by go_size); replace g4ad := g4ad (by decide); replace g4ag := g4ag (by decide); replace g4ax := g4ax (by decide); have g4ac1 := fun o => g4ac 1 o (by decide); have g4af1 := fun o => g4af 1 o (by decide); have g4az1 := g4az 1 (by decide); clear g4ac g4af g4az
  go_wp2
  all_goals (try go_returns)
  all_goals exact HR.out _ _ ⟨rfl, by (repeat' (first | (with_reducible exact Below.refl _ _) | (with_reducible refine Below.alloc ?_ ?_ _) | (with_reducible refine Below.setCell ?_ ?_ _) | (with_reducible refine Below.drew ?_) | (refine below_hyp (by assumption) ?_ ?_) | go_size))⟩

set_option maxHeartbeats 2000000 in
theorem L_szClsMethodS (xs : List DClsMethod) (v : Value) (l : Int) (w : World) (hv : Sl 8 rClsMethod 0 w v xs) (hl0 : 0 ≤ l ∧ l ≤ 1048576) :
    Calls Tryz.prog 81 #[v, .int .i64 l] w fun e w' => (∃ r : Int, e = .returned (.int .i64 r) ∧ (r = -1 ∨ (0 ≤ r ∧ r + wtS wtClsMethod xs ≤ l))) ∧ Below w.heap.size w w' := by
  obtain ⟨a, len, cap, rfl, hl, h1, h2, h3⟩ := id hv
  have m1 : len ≤ 9223372036854775807 := by unfold maxLen at h2; omega
  have HL := Lib.hid hl
  have H1 := Lib.hid h1
  obtain ⟨l1, l2⟩ := hl0
  clear h2 hl h1
  refine calls_hide fun R HR => ?_
  go_enter Tryz.func81, Tryz.ntmps81
  go_wp2_with fail
  all_goals first
    | (try go_returns
       exact HR.out _ _ ⟨⟨_, rfl, Or.inl rfl⟩, by (repeat' (first | (with_reducible exact Below.refl _ _) | (with_reducible refine Below.alloc ?_ ?_ _) | (with_reducible refine Below.setCell ?_ ?_ _) | (with_reducible refine Below.drew ?_) | (refine below_hyp (by assumption) ?_ ?_) | go_size))⟩)
    | skip
  go_loopw [1, 5] (fun lv i wr => ∃ (k : Nat) (c : Int), k ≤ len ∧ i = .int .i64 k ∧ lv = .int .i64 c ∧ 0 ≤ c ∧ c + (len : Int) + (((xs.take k).map wtClsMethod).sum : Nat) ≤ l ∧ Below w.heap.size w wr) (fun _ i _ => len - (intOf i).toNat)
  case atStart => exact ⟨0, _, Nat.zero_le _, rfl, rfl, by omega, by first | (simp; done) | (simp; omega), by (repeat' (first | (with_reducible exact Below.refl _ _) | (with_reducible refine Below.alloc ?_ ?_ _) | (with_reducible refine Below.setCell ?_ ?_ _) | (with_reducible refine Below.drew ?_) | (refine below_hyp (by assumption) ?_ ?_) | go_size))⟩
  case round =>
    obtain ⟨k, c, hk, rfl, rfl, hc1, hc2, hb⟩ := hrel
    have hbx := hb.size
    by_cases hlt : k < len
    · obtain ⟨b, off, rfl, hlo, hbl, hr⟩ := h3.stays rClsMethod_good (Keeps.of_below hb) (by omega)
      obtain ⟨x, cs, e0, e1, e2, e3⟩ := hr k hlt
      have hw := take_wt wtClsMethod e0
      obtain ⟨v1, v2, v3, rfl, s1, s2, s3, b1, b2⟩ := e3
      obtain ⟨na1, nl1, nc1, rfl⟩ := s1.form
      obtain ⟨na2, nl2, nc2, rfl⟩ := s2.form
      obtain ⟨na3, nl3, nc3, rfl⟩ := s3.form
      have q1 : wr.cell? ⟨b, off + k * 8, none⟩ = some (.string x.fName) := e2 0 _ rfl
      have q2 : wr.cell? ⟨b, off + k * 8 + 1, none⟩ = some (.slice na1 nl1 nc1) := e2 1 _ rfl
      have q3 : wr.cell? ⟨b, off + k * 8 + 2, none⟩ = some (.int .i64 x.fRet.fKind) := e2 2 _ rfl
      have q4 : wr.cell? ⟨b, off + k * 8 + 3, none⟩ = some (.string x.fRet.fName) := e2 3 _ rfl
      have q5 : wr.cell? ⟨b, off + k * 8 + 4, none⟩ = some (.int .i64 x.fLocals) := e2 4 _ rfl
      have q6 : wr.cell? ⟨b, off + k * 8 + 5, none⟩ = some (.int .i64 x.fStack) := e2 5 _ rfl
      have q7 : wr.cell? ⟨b, off + k * 8 + 6, none⟩ = some (.slice na2 nl2 nc2) := e2 6 _ rfl
      have q8 : wr.cell? ⟨b, off + k * 8 + 7, none⟩ = some (.slice na3 nl3 nc3) := e2 7 _ rfl
      clear e1 e2 hr
      have hcl : c ≤ 1048576 := by omega
      go_wp2_with fail
      refine (L_szClsMethod x _ _ _ _ _ s1 s2 s3 b1 b2 ⟨by omega, by omega⟩).mono ?_
      rintro _ wA ⟨⟨r, rfl, hr⟩, hA⟩
      have hz := hA.size
      clear q1 q2 q3 q4 q5 q6 q7 q8
      rcases hr with rfl | ⟨ra, rb⟩
      · go_wp2
        all_goals (try go_returns)
        all_goals exact HR.out _ _ ⟨⟨_, rfl, Or.inl rfl⟩, by (repeat' (first | (with_reducible exact Below.refl _ _) | (with_reducible refine Below.alloc ?_ ?_ _) | (with_reducible refine Below.setCell ?_ ?_ _) | (with_reducible refine Below.drew ?_) | (refine below_hyp (by assumption) ?_ ?_) | go_size))⟩
      have rn : ¬ r < 0 := by omega
      go_wp2
      go_roundw
      case measure => simp [intOf]; omega
      case rel => exact ⟨k + 1, r, by omega, by go_num, rfl, by omega, by omega, by (repeat' (first | (with_reducible exact Below.refl _ _) | (with_reducible refine Below.alloc ?_ ?_ _) | (with_reducible refine Below.setCell ?_ ?_ _) | (with_reducible refine Below.drew ?_) | (refine below_hyp (by assumption) ?_ ?_) | go_size))⟩
    · obtain rfl : k = len := by omega
      go_wp2
      all_goals (try go_returns)
      all_goals exact HR.out _ _ ⟨⟨_, rfl, Or.inr ⟨by omega, by rw [wtS, HL.out]; rw [List.take_of_length_le (by rw [HL.out]; exact Nat.le_refl _)] at hc2; omega⟩⟩, by (repeat' (first | (with_reducible exact Below.refl _ _) | (with_reducible refine Below.alloc ?_ ?_ _) | (with_reducible refine Below.setCell ?_ ?_ _) | (with_reducible refine Below.drew ?_) | (refine below_hyp (by assumption) ?_ ?_) | go_size))⟩

set_option maxHeartbeats 2000000 in
theorem L_toClsMethodS (xs : List DClsMethod) (v : Value) (w : World) (hv : Sl 8 rClsMethod 0 w v xs) (hs : wtS wtClsMethod xs ≤ 1048576) :
    Calls Tryz.prog 83 #[v] w fun e w' => (∃ v', e = .returned v' ∧ Sl 8 rClsMethod w.heap.size w' v' xs) ∧ Below w.heap.size w w' := by
  obtain ⟨a, len, cap, rfl, hl, h1, h2, h3⟩ := id hv
  have hs0 := wtS_len wtClsMethod xs
  have HSW := Lib.hid hs
  have hs' : len ≤ 1048576 := by omega
  clear hs0
  have hmk := make_rows (P := Tryz.prog) w 67 121 (.agg #[.string ⟨#[]⟩, .slice none 0 0, .int .i64 0, .string ⟨#[]⟩, .int .i64 0, .int .i64 0, .slice none 0 0, .slice none 0 0]) 8 128 (by kernel_rfl) (by kernel_rfl) (by omega) len hs'
  have hP := Part.start (k := 8) (R := rClsMethod) (w := w) (len := len) (xs := xs) (Value.cells (.agg #[.string ⟨#[]⟩, .slice none 0 0, .int .i64 0, .string ⟨#[]⟩, .int .i64 0, .int .i64 0, .slice none 0 0, .slice none 0 0])) 121
  have hB : Below w.heap.size w (w.alloc (.cells (madeCells (Value.cells (.agg #[.string ⟨#[]⟩, .slice none 0 0, .int .i64 0, .string ⟨#[]⟩, .int .i64 0, .int .i64 0, .slice none 0 0, .slice none 0 0])) (len * 8)) 121)) := by (repeat' (first | (with_reducible exact Below.refl _ _) | (with_reducible refine Below.alloc ?_ ?_ _) | (with_reducible refine Below.setCell ?_ ?_ _) | (with_reducible refine Below.drew ?_) | (refine below_hyp (by assumption) ?_ ?_) | go_size))
  have m1 : len ≤ 9223372036854775807 := by omega
  have m2 : len ≤ maxLen := by unfold maxLen; omega
  have hsz : (w.alloc (.cells (madeCells (Value.cells (.agg #[.string ⟨#[]⟩, .slice none 0 0, .int .i64 0, .string ⟨#[]⟩, .int .i64 0, .int .i64 0, .slice none 0 0, .slice none 0 0])) (len * 8)) 121)).heap.size = w.heap.size + 1 := by simp
  generalize w.alloc (.cells (madeCells (Value.cells (.agg #[.string ⟨#[]⟩, .slice none 0 0, .int .i64 0, .string ⟨#[]⟩, .int .i64 0, .int .i64 0, .slice none 0 0, .slice none 0 0])) (len * 8)) 121) = wm at *
  have HL := Lib.hid hl
  have H1 := Lib.hid h1
  have HS := Lib.hid hs'
  have M2 := Lib.hid m2
  clear h2 hl h1 hs hs' m2
  refine calls_hide fun R HR => ?_
  go_enter Tryz.func83, Tryz.ntmps83
  go_wp2_with fail
  go_loopw [4] (fun i wr => ∃ k : Nat, k ≤ len ∧ i = .int .i64 k ∧ Below w.heap.size w wr ∧ Part 8 rClsMethod wr w.heap.size len k xs) (fun i _ => len - (intOf i).toNat)
  case atStart => exact ⟨0, Nat.zero_le _, rfl, hB, hP⟩
  case round =>
    clear hmk hP hB hsz
    obtain ⟨k, hk, rfl, hb, hp⟩ := hrel
    by_cases hlt : k < len
    · obtain ⟨b, off, rfl, hlo, hbl, hr⟩ := h3.stays rClsMethod_good (Keeps.of_below hb) (by omega)
      obtain ⟨x, cs, e0, e1, e2, e3⟩ := hr k hlt
      obtain ⟨v1, v2, v3, rfl, s1, s2, s3, b1, b2⟩ := e3
      obtain ⟨na1, nl1, nc1, rfl⟩ := s1.form
      obtain ⟨na2, nl2, nc2, rfl⟩ := s2.form
      obtain ⟨na3, nl3, nc3, rfl⟩ := s3.form
      have q1 : wr.cell? ⟨b, off + k * 8, none⟩ = some (.string x.fName) := e2 0 _ rfl
      have q2 : wr.cell? ⟨b, off + k * 8 + 1, none⟩ = some (.slice na1 nl1 nc1) := e2 1 _ rfl
      have q3 : wr.cell? ⟨b, off + k * 8 + 2, none⟩ = some (.int .i64 x.fRet.fKind) := e2 2 _ rfl
      have q4 : wr.cell? ⟨b, off + k * 8 + 3, none⟩ = some (.string x.fRet.fName) := e2 3 _ rfl
      have q5 : wr.cell? ⟨b, off + k * 8 + 4, none⟩ = some (.int .i64 x.fLocals) := e2 4 _ rfl
      have q6 : wr.cell? ⟨b, off + k * 8 + 5, none⟩ = some (.int .i64 x.fStack) := e2 5 _ rfl
      have q7 : wr.cell? ⟨b, off + k * 8 + 6, none⟩ = some (.slice na2 nl2 nc2) := e2 6 _ rfl
      have q8 : wr.cell? ⟨b, off + k * 8 + 7, none⟩ = some (.slice na3 nl3 nc3) := e2 7 _ rfl
      have hbx := hb.size
      have hpl := hp.lt
      clear e1 e2 hr
      go_wp2_with fail
      refine (L_toClsMethod x _ _ _ _ s1 s2 s3 (by have h8 := wtS_mem wtClsMethod e0; have h9 := HSW.out; omega)).mono ?_
      rintro _ wA ⟨⟨y1, y2, y3, rfl, t1, t2, t3⟩, hA⟩
      obtain ⟨ya1, yl1, yc1, rfl⟩ := t1.form
      obtain ⟨ya2, yl2, yc2, rfl⟩ := t2.form
      obtain ⟨ya3, yl3, yc3, rfl⟩ := t3.form
      have hz := hA.size
      have hp' := hp.below rClsMethod_good hA
      have t00 := hp'.there (k * 8) (by omega)
      rw [Nat.zero_add] at t00
      obtain ⟨u00, hu0⟩ := Option.isSome_iff_exists.1 t00.1
      have hf0 := t00.2
      have t01 := hp'.there (k * 8 + 1) (by omega)
      rw [Nat.zero_add] at t01
      obtain ⟨u01, hu1⟩ := Option.isSome_iff_exists.1 t01.1
      have hf1 := t01.2
      have t02 := hp'.there (k * 8 + 2) (by omega)
      rw [Nat.zero_add] at t02
      obtain ⟨u02, hu2⟩ := Option.isSome_iff_exists.1 t02.1
      have hf2 := t02.2
      have t03 := hp'.there (k * 8 + 3) (by omega)
      rw [Nat.zero_add] at t03
      obtain ⟨u03, hu3⟩ := Option.isSome_iff_exists.1 t03.1
      have hf3 := t03.2
      have t04 := hp'.there (k * 8 + 4) (by omega)
      rw [Nat.zero_add] at t04
      obtain ⟨u04, hu4⟩ := Option.isSome_iff_exists.1 t04.1
      have hf4 := t04.2
      have t05 := hp'.there (k * 8 + 5) (by omega)
      rw [Nat.zero_add] at t05
      obtain ⟨u05, hu5⟩ := Option.isSome_iff_exists.1 t05.1
      have hf5 := t05.2
      have t06 := hp'.there (k * 8 + 6) (by omega)
      rw [Nat.zero_add] at t06
      obtain ⟨u06, hu6⟩ := Option.isSome_iff_exists.1 t06.1
      have hf6 := t06.2
      have t07 := hp'.there (k * 8 + 7) (by omega)
      rw [Nat.zero_add] at t07
      obtain ⟨u07, hu7⟩ := Option.isSome_iff_exists.1 t07.1
      have hf7 := t07.2
      clear t00 t01 t02 t03 t04 t05 t06 t07 q1 q2 q3 q4 q5 q6 q7 q8
      have h7 := hp'.step rClsMethod_good hlt e0 (cs := [.string x.fName, .slice ya1 yl1 yc1, .int .i64 x.fRet.fKind, .string x.fRet.fName, .int .i64 x.fLocals, .int .i64 x.fStack, .slice ya2 yl2 yc2, .slice ya3 yl3 yc3]) rfl ⟨_, _, _, rfl, t1.low rKndKind_good (by omega), t2.low rClsIns_good (by omega), t3.low rClsMap_good (by omega), b1, b2⟩
      simp only [World.setCells, Nat.add_assoc, Nat.reduceAdd] at h7
      have H7 := Lib.hid h7
      clear h7
      go_wp2
      go_roundw
      case measure => simp [intOf]; omega
      case rel => exact ⟨k + 1, by omega, by go_num, by (repeat' (first | (with_reducible exact Below.refl _ _) | (with_reducible refine Below.alloc ?_ ?_ _) | (with_reducible refine Below.setCell ?_ ?_ _) | (with_reducible refine Below.drew ?_) | (refine below_hyp (by assumption) ?_ ?_) | go_size)), H7.out⟩
    · obtain rfl : k = len := by omega
      go_wp2
      all_goals (try go_returns)
      all_goals exact HR.out _ _ ⟨⟨_, rfl, hp.done rClsMethod_good HL.out M2.out⟩, by (repeat' (first | (with_reducible exact Below.refl _ _) | (with_reducible refine Below.alloc ?_ ?_ _) | (with_reducible refine Below.setCell ?_ ?_ _) | (with_reducible refine Below.drew ?_) | (refine below_hyp (by assumption) ?_ ?_) | go_size))⟩

set_option maxHeartbeats 2000000 in
theorem L_eqClsMethodS (xs : List DClsMethod) (v v' : Value) (w : World) (hv : Sl 8 rClsMethod 0 w v xs) (hv' : Sl 8 rClsMethod 0 w v' xs) :
    Calls Tryz.prog 88 #[v, v'] w fun e w' => e = .returned (.bool true) ∧ Below w.heap.size w w' := by
  obtain ⟨a, len, cap, rfl, hl, h1, h2, h3⟩ := id hv
  obtain ⟨a', len', cap', rfl, hl', h1', h2', h3'⟩ := id hv'
  obtain rfl : len' = len := hl'.symm.trans hl
  have m1 : len' ≤ 9223372036854775807 := by unfold maxLen at h2; omega
  have HL := Lib.hid hl
  have H1 := Lib.hid h1
  have H1' := Lib.hid h1'
  clear h2 h2' hl hl' h1 h1'
  refine calls_hide fun R HR => ?_
  go_enter Tryz.func88, Tryz.ntmps88
  go_wp2_with fail
  go_loopw [5] (fun i wr => ∃ k : Nat, k ≤ len' ∧ i = .int .i64 k ∧ Below w.heap.size w wr) (fun i _ => len' - (intOf i).toNat)
  case atStart => exact ⟨0, Nat.zero_le _, rfl, by (repeat' (first | (with_reducible exact Below.refl _ _) | (with_reducible refine Below.alloc ?_ ?_ _) | (with_reducible refine Below.setCell ?_ ?_ _) | (with_reducible refine Below.drew ?_) | (refine below_hyp (by assumption) ?_ ?_) | go_size))⟩
  case round =>
    obtain ⟨k, hk, rfl, hb⟩ := hrel
    by_cases hlt : k < len'
    · obtain ⟨b, off, rfl, hlo, hbl, hr⟩ := h3.stays rClsMethod_good (Keeps.of_below hb) (by omega)
      obtain ⟨b', off', rfl, hlo', hbl', hr'⟩ := h3'.stays rClsMethod_good (Keeps.of_below hb) (by omega)
      obtain ⟨x, cs, e0, e1, e2, e3⟩ := hr k hlt
      obtain ⟨x', cs', e0', e1', e2', e3'⟩ := hr' k hlt
      obtain rfl : x = x' := Option.some.inj (e0.symm.trans e0')
      obtain ⟨v1, v2, v3, rfl, s1, s2, s3, b1, b2⟩ := e3
      obtain ⟨na1, nl1, nc1, rfl⟩ := s1.form
      obtain ⟨na2, nl2, nc2, rfl⟩ := s2.form
      obtain ⟨na3, nl3, nc3, rfl⟩ := s3.form
      obtain ⟨z1, z2, z3, rfl, d1, d2, d3, db1, db2⟩ := e3'
      obtain ⟨pa1, pl1, pc1, rfl⟩ := d1.form
      obtain ⟨pa2, pl2, pc2, rfl⟩ := d2.form
      obtain ⟨pa3, pl3, pc3, rfl⟩ := d3.form
      go_wp2_with fail
      have q1 : ∀ W, Below wr.heap.size wr W → W.cell? ⟨b, off + k * 8, none⟩ = some (.string x.fName) := fun W hW => range_below e2 hW hbl 0 _ rfl
      have q2 : ∀ W, Below wr.heap.size wr W → W.cell? ⟨b, off + k * 8 + 1, none⟩ = some (.slice na1 nl1 nc1) := fun W hW => range_below e2 hW hbl 1 _ rfl
      have q3 : ∀ W, Below wr.heap.size wr W → W.cell? ⟨b, off + k * 8 + 2, none⟩ = some (.int .i64 x.fRet.fKind) := fun W hW => range_below e2 hW hbl 2 _ rfl
      have q4 : ∀ W, Below wr.heap.size wr W → W.cell? ⟨b, off + k * 8 + 3, none⟩ = some (.string x.fRet.fName) := fun W hW => range_below e2 hW hbl 3 _ rfl
      have q5 : ∀ W, Below wr.heap.size wr W → W.cell? ⟨b, off + k * 8 + 4, none⟩ = some (.int .i64 x.fLocals) := fun W hW => range_below e2 hW hbl 4 _ rfl
      have q6 : ∀ W, Below wr.heap.size wr W → W.cell? ⟨b, off + k * 8 + 5, none⟩ = some (.int .i64 x.fStack) := fun W hW => range_below e2 hW hbl 5 _ rfl
      have q7 : ∀ W, Below wr.heap.size wr W → W.cell? ⟨b, off + k * 8 + 6, none⟩ = some (.slice na2 nl2 nc2) := fun W hW => range_below e2 hW hbl 6 _ rfl
      have q8 : ∀ W, Below wr.heap.size wr W → W.cell? ⟨b, off + k * 8 + 7, none⟩ = some (.slice na3 nl3 nc3) := fun W hW => range_below e2 hW hbl 7 _ rfl
      have o1 : ∀ W, Below wr.heap.size wr W → W.cell? ⟨b', off' + k * 8, none⟩ = some (.string x.fName) := fun W hW => range_below e2' hW hbl' 0 _ rfl
      have o2 : ∀ W, Below wr.heap.size wr W → W.cell? ⟨b', off' + k * 8 + 1, none⟩ = some (.slice pa1 pl1 pc1) := fun W hW => range_below e2' hW hbl' 1 _ rfl
      have o3 : ∀ W, Below wr.heap.size wr W → W.cell? ⟨b', off' + k * 8 + 2, none⟩ = some (.int .i64 x.fRet.fKind) := fun W hW => range_below e2' hW hbl' 2 _ rfl
      have o4 : ∀ W, Below wr.heap.size wr W → W.cell? ⟨b', off' + k * 8 + 3, none⟩ = some (.string x.fRet.fName) := fun W hW => range_below e2' hW hbl' 3 _ rfl
      have o5 : ∀ W, Below wr.heap.size wr W → W.cell? ⟨b', off' + k * 8 + 4, none⟩ = some (.int .i64 x.fLocals) := fun W hW => range_below e2' hW hbl' 4 _ rfl
      have o6 : ∀ W, Below wr.heap.size wr W → W.cell? ⟨b', off' + k * 8 + 5, none⟩ = some (.int .i64 x.fStack) := fun W hW => range_below e2' hW hbl' 5 _ rfl
      have o7 : ∀ W, Below wr.heap.size wr W → W.cell? ⟨b', off' + k * 8 + 6, none⟩ = some (.slice pa2 pl2 pc2) := fun W hW => range_below e2' hW hbl' 6 _ rfl
      have o8 : ∀ W, Below wr.heap.size wr W → W.cell? ⟨b', off' + k * 8 + 7, none⟩ = some (.slice pa3 pl3 pc3) := fun W hW => range_below e2' hW hbl' 7 _ rfl
      clear e1 e2 e1' e2' hr hr'
      have hbx := hb.size
      have keepA : ∀ x x' : World, Below x.heap.size x x' → Below wr.heap.size wr x → Below wr.heap.size wr x' := fun x x' hb e => keep_below hb e (Nat.le_refl _)
      go_region_held3 (fun x => Below wr.heap.size wr x) (first | exact (Below.refl _ _).drew | exact keepA _ _ (by assumption) (by assumption)) (first | (go_at_call 99; refine (L_eqClsMethod x _ _ _ _ _ _ _ (s1.stays rKndKind_good (Keeps.of_below' (by assumption) (Nat.le_refl _))) (s2.stays rClsIns_good (Keeps.of_below' (by assumption) (Nat.le_refl _))) (s3.stays rClsMap_good (Keeps.of_below' (by assumption) (Nat.le_refl _))) (d1.stays rKndKind_good (Keeps.of_below' (by assumption) (Nat.le_refl _))) (d2.stays rClsIns_good (Keeps.of_below' (by assumption) (Nat.le_refl _))) (d3.stays rClsMap_good (Keeps.of_below' (by assumption) (Nat.le_refl _)))).mono ?_; rintro _ _ ⟨rfl, _⟩))
      rename_i wA _ hA
      have hz := hA.size
      clear q1 o1 q2 o2 q3 o3 q4 o4 q5 o5 q6 o6 q7 o7 q8 o8 keepA
      go_wp2
      go_roundw
      case measure => simp [intOf]; omega
      case rel => exact ⟨k + 1, by omega, by go_num, hb.trans (hA.mono hbx)⟩
    · skip
      go_wp2
      all_goals (try go_returns)
      all_goals exact HR.out _ _ ⟨rfl, by (repeat' (first | (with_reducible exact Below.refl _ _) | (with_reducible refine Below.alloc ?_ ?_ _) | (with_reducible refine Below.setCell ?_ ?_ _) | (with_reducible refine Below.drew ?_) | (refine below_hyp (by assumption) ?_ ?_) | go_size))⟩

end Go.Proofs.YtmmlhnjmjmbfpaaGreat
