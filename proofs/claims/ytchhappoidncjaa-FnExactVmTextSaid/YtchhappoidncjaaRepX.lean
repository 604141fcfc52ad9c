

/-
  The walks of the weights, the copies and the sameness of data. Printed by gen_rep.py, a program of the prover of this repo.
-/
import Derived.Test.YtchhappoidncjaaRepW
namespace Go.Proofs.Ytchhappoidncjaa
set_option linter.unusedSimpArgs false
set_option linter.unusedVariables false
open Go.RowKit

set_option maxHeartbeats 2000000 in
theorem L_szVmState (x : DVmState) (v1 v2 v3 : Value) (l : Int) (w : World) (s1 : Sl 6 rVmFrame 0 w v1 x.fFrames) (s2 : Sl 3 rVmObj 0 w v2 x.fHeap) (s3 : Sl 1 rInt 0 w v3 x.fOuts) (hl : 0 ≤ l ∧ l ≤ 1048576) :
    Calls Try.prog 48 #[.agg #[.int .i64 x.fStatus, v1, v2, v3, .int .i64 x.fBack.fKind, .int .i64 x.fBack.fN], .int .i64 l] w fun e w' => (∃ r : Int, e = .returned (.int .i64 r) ∧ (r = -1 ∨ (0 ≤ r ∧ r + wtVmState x ≤ l))) ∧ Below w.heap.size w w' := by
  obtain ⟨na1, nl1, nc1, rfl⟩ := s1.form
  obtain ⟨na2, nl2, nc2, rfl⟩ := s2.form
  obtain ⟨na3, nl3, nc3, rfl⟩ := s3.form
  obtain ⟨hl1, hl2⟩ := hl
  refine calls_hide fun R HR => ?_
  go_enter Try.func48, Try.ntmps48
  go_wp2_with fail
  all_goals first
    | (try go_returns
       exact HR.out _ _ ⟨⟨_, rfl, by first | exact Or.inl rfl | exact Or.inr ⟨by omega, by unfold wtVmState; omega⟩⟩, by (repeat' (first | (with_reducible exact Below.refl _ _) | (with_reducible refine Below.alloc ?_ ?_ _) | (with_reducible refine Below.setCell ?_ ?_ _) | (with_reducible refine Below.drew ?_) | (refine below_hyp (by assumption) ?_ ?_) | go_size))⟩)
    | skip
  refine (L_szVmFrameS x.fFrames _ _ _ (s1.stays rVmFrame_good (Keeps.of_below' (B := w.heap.size) (by (repeat' (first | (with_reducible exact Below.refl _ _) | (with_reducible refine Below.alloc ?_ ?_ _) | (with_reducible refine Below.setCell ?_ ?_ _) | (with_reducible refine Below.drew ?_) | (refine below_hyp (by assumption) ?_ ?_) | go_size))) (Nat.le_refl _))) ⟨by omega, by omega⟩).mono ?_
  rintro _ w1 ⟨⟨r1, rfl, hr1⟩, g1⟩
  have g1s := (g1).size; (try simp only [World.size_alloc, World.size_setCell, World.size_drew] at g1s)
  obtain ⟨g1ac, g1ad, g1ao, g1af, g1ag, g1ap, g1az, g1ax, g1ay⟩ := bfacts (n := w.heap.size) (k := 1) g1 (by go_size) (by go_size); replace g1ad := g1ad (by decide); replace g1ag := g1ag (by decide); replace g1ax := g1ax (by decide); clear g1ac g1af g1az
  rcases hr1 with rfl | ⟨ra1, rb1⟩
  · go_wp2
    all_goals (try go_returns)
    all_goals exact HR.out _ _ ⟨⟨_, rfl, by first | exact Or.inl rfl | exact Or.inr ⟨by omega, by unfold wtVmState; omega⟩⟩, by (repeat' (first | (with_reducible exact Below.refl _ _) | (with_reducible refine Below.alloc ?_ ?_ _) | (with_reducible refine Below.setCell ?_ ?_ _) | (with_reducible refine Below.drew ?_) | (refine below_hyp (by assumption) ?_ ?_) | go_size))⟩
  have rn1 : ¬ r1 < 0 := by omega
  go_wp2_with fail
  all_goals first
    | (try go_returns
       exact HR.out _ _ ⟨⟨_, rfl, by first | exact Or.inl rfl | exact Or.inr ⟨by omega, by unfold wtVmState; omega⟩⟩, by (repeat' (first | (with_reducible exact Below.refl _ _) | (with_reducible refine Below.alloc ?_ ?_ _) | (with_reducible refine Below.setCell ?_ ?_ _) | (with_reducible refine Below.drew ?_) | (refine below_hyp (by assumption) ?_ ?_) | go_size))⟩)
    | skip
  refine (L_szVmObjS x.fHeap _ _ _ (s2.stays rVmObj_good (Keeps.of_below' (B := w.heap.size) (by (repeat' (first | (with_reducible exact Below.refl _ _) | (with_reducible refine Below.alloc ?_ ?_ _) | (with_reducible refine Below.setCell ?_ ?_ _) | (with_reducible refine Below.drew ?_) | (refine below_hyp (by assumption) ?_ ?_) | go_size))) (Nat.le_refl _))) ⟨by omega, by omega⟩).mono ?_
  rintro _ w2 ⟨⟨r2, rfl, hr2⟩, g2⟩
  have g2s := (g2).size; (try simp only [World.size_alloc, World.size_setCell, World.size_drew] at g2s)
  obtain ⟨g2ac, g2ad, g2ao, g2af, g2ag, g2ap, g2az, g2ax, g2ay⟩ := bfacts (n := w.heap.size) (k := 1) g2 (by go_size) (by go_size); replace g2ad := g2ad (by decide); replace g2ag := g2ag (by decide); replace g2ax := g2ax (by decide); clear g2ac g2af g2az
  rcases hr2 with rfl | ⟨ra2, rb2⟩
  · go_wp2
    all_goals (try go_returns)
    all_goals exact HR.out _ _ ⟨⟨_, rfl, by first | exact Or.inl rfl | exact Or.inr ⟨by omega, by unfold wtVmState; omega⟩⟩, by (repeat' (first | (with_reducible exact Below.refl _ _) | (with_reducible refine Below.alloc ?_ ?_ _) | (with_reducible refine Below.setCell ?_ ?_ _) | (with_reducible refine Below.drew ?_) | (refine below_hyp (by assumption) ?_ ?_) | go_size))⟩
  have rn2 : ¬ r2 < 0 := by omega
  go_wp2_with fail
  all_goals first
    | (try go_returns
       exact HR.out _ _ ⟨⟨_, rfl, by first | exact Or.inl rfl | exact Or.inr ⟨by omega, by unfold wtVmState; omega⟩⟩, by (repeat' (first | (with_reducible exact Below.refl _ _) | (with_reducible refine Below.alloc ?_ ?_ _) | (with_reducible refine Below.setCell ?_ ?_ _) | (with_reducible refine Below.drew ?_) | (refine below_hyp (by assumption) ?_ ?_) | go_size))⟩)
    | skip
  refine (L_szIntS x.fOuts _ _ _ (s3.stays rInt_good (Keeps.of_below' (B := w.heap.size) (by (repeat' (first | (with_reducible exact Below.refl _ _) | (with_reducible refine Below.alloc ?_ ?_ _) | (with_reducible refine Below.setCell ?_ ?_ _) | (with_reducible refine Below.drew ?_) | (refine below_hyp (by assumption) ?_ ?_) | go_size))) (Nat.le_refl _))) ⟨by omega, by omega⟩).mono ?_
  rintro _ w3 ⟨⟨r3, rfl, hr3⟩, g3⟩
  have g3s := (g3).size; (try simp only [World.size_alloc, World.size_setCell, World.size_drew] at g3s)
  obtain ⟨g3ac, g3ad, g3ao, g3af, g3ag, g3ap, g3az, g3ax, g3ay⟩ := bfacts (n := w.heap.size) (k := 1) g3 (by go_size) (by go_size); replace g3ad := g3ad (by decide); replace g3ag := g3ag (by decide); replace g3ax := g3ax (by decide); clear g3ac g3af g3az
  rcases hr3 with rfl | ⟨ra3, rb3⟩
  · go_wp2
    all_goals (try go_returns)
    all_goals exact HR.out _ _ ⟨⟨_, rfl, by first | exact Or.inl rfl | exact Or.inr ⟨by omega, by unfold wtVmState; omega⟩⟩, by (repeat' (first | (with_reducible exact Below.refl _ _) | (with_reducible refine Below.alloc ?_ ?_ _) | (with_reducible refine Below.setCell ?_ ?_ _) | (with_reducible refine Below.drew ?_) | (refine below_hyp (by assumption) ?_ ?_) | go_size))⟩
  have rn3 : ¬ r3 < 0 := by omega
  go_wp2
  all_goals (try go_returns)
  all_goals exact HR.out _ _ ⟨⟨_, rfl, by first | exact Or.inl rfl | exact Or.inr ⟨by omega, by unfold wtVmState; omega⟩⟩, by (repeat' (first | (with_reducible exact Below.refl _ _) | (with_reducible refine Below.alloc ?_ ?_ _) | (with_reducible refine Below.setCell ?_ ?_ _) | (with_reducible refine Below.drew ?_) | (refine below_hyp (by assumption) ?_ ?_) | go_size))⟩

set_option maxHeartbeats 2000000 in
theorem L_toVmState (x : DVmState) (v1 v2 v3 : Value) (w : World) (s1 : Sl 6 rVmFrame 0 w v1 x.fFrames) (s2 : Sl 3 rVmObj 0 w v2 x.fHeap) (s3 : Sl 1 rInt 0 w v3 x.fOuts) (hw : wtVmState x ≤ 1048576) :
    Calls Try.prog 49 #[.agg #[.int .i64 x.fStatus, v1, v2, v3, .int .i64 x.fBack.fKind, .int .i64 x.fBack.fN]] w fun e w' => (∃ y1 y2 y3 : Value, e = .returned (.agg #[.int .i64 x.fStatus, y1, y2, y3, .int .i64 x.fBack.fKind, .int .i64 x.fBack.fN]) ∧ Sl 6 rVmFrame w.heap.size w' y1 x.fFrames ∧ Sl 3 rVmObj w.heap.size w' y2 x.fHeap ∧ Sl 1 rInt w.heap.size w' y3 x.fOuts) ∧ Below w.heap.size w w' := by
  obtain ⟨na1, nl1, nc1, rfl⟩ := s1.form
  obtain ⟨na2, nl2, nc2, rfl⟩ := s2.form
  obtain ⟨na3, nl3, nc3, rfl⟩ := s3.form
  unfold wtVmState at hw
  have HW := Lib.hid hw
  clear hw
  refine calls_hide fun R HR => ?_
  go_enter Try.func49, Try.ntmps49
  go_wp2_with fail
  refine (L_toVmFrameS x.fFrames _ _ (s1.stays rVmFrame_good (Keeps.of_below' (B := w.heap.size) (by (repeat' (first | (with_reducible exact Below.refl _ _) | (with_reducible refine Below.alloc ?_ ?_ _) | (with_reducible refine Below.setCell ?_ ?_ _) | (with_reducible refine Below.drew ?_) | (refine below_hyp (by assumption) ?_ ?_) | go_size))) (Nat.le_refl _))) (by have := HW.out; first | omega | (have h9 := wtS_len wtVmFrame x.fFrames; omega))).mono ?_
  rintro _ w1 ⟨⟨y1, rfl, t1⟩, g1⟩
  obtain ⟨ya1, yl1, yc1, rfl⟩ := t1.form
  have g1s := (g1).size; (try simp only [World.size_alloc, World.size_setCell, World.size_drew] at g1s)
  obtain ⟨g1ac, g1ad, g1ao, g1af, g1ag, g1ap, g1az, g1ax, g1ay⟩ := bfacts (n := w.heap.size) (k := 3) g1 (by go_size) (by go_size); replace g1ad := g1ad (by decide); replace g1ag := g1ag (by decide); replace g1ax := g1ax (by decide); have g1ac1 := fun o => g1ac 1 o (by decide); have g1af1 := fun o => g1af 1 o (by decide); have g1az1 := g1az 1 (by decide); have g1ac2 := fun o => g1ac 2 o (by decide); have g1af2 := fun o => g1af 2 o (by decide); have g1az2 := g1az 2 (by decide); clear g1ac g1af g1az
  go_wp2_with fail
  refine (L_toVmObjS x.fHeap _ _ (s2.stays rVmObj_good (Keeps.of_below' (B := w.heap.size) (by (repeat' (first | (with_reducible exact Below.refl _ _) | (with_reducible refine Below.alloc ?_ ?_ _) | (with_reducible refine Below.setCell ?_ ?_ _) | (with_reducible refine Below.drew ?_) | (refine below_hyp (by assumption) ?_ ?_) | go_size))) (Nat.le_refl _))) (by have := HW.out; first | omega | (have h9 := wtS_len wtVmObj x.fHeap; omega))).mono ?_
  rintro _ w2 ⟨⟨y2, rfl, t2⟩, g2⟩
  obtain ⟨ya2, yl2, yc2, rfl⟩ := t2.form
  have g2s := (g2).size; (try simp only [World.size_alloc, World.size_setCell, World.size_drew] at g2s)
  obtain ⟨g2ac, g2ad, g2ao, g2af, g2ag, g2ap, g2az, g2ax, g2ay⟩ := bfacts (n := w.heap.size) (k := 3) g2 (by go_size) (by go_size); replace g2ad := g2ad (by decide); replace g2ag := g2ag (by decide); replace g2ax := g2ax (by decide); have g2ac1 := fun o => g2ac 1 o (by decide); have g2af1 := fun o => g2af 1 o (by decide); have g2az1 := g2az 1 (by decide); have g2ac2 := fun o => g2ac 2 o (by decide); have g2af2 := fun o => g2af 2 o (by decide); have g2az2 := g2az 2 (by decide); clear g2ac g2af g2az
  go_wp2_with fail
  refine (L_toIntS x.fOuts _ _ (s3.stays rInt_good (Keeps.of_below' (B := w.heap.size) (by (repeat' (first | (with_reducible exact Below.refl _ _) | (with_reducible refine Below.alloc ?_ ?_ _) | (with_reducible refine Below.setCell ?_ ?_ _) | (with_reducible refine Below.drew ?_) | (refine below_hyp (by assumption) ?_ ?_) | go_size))) (Nat.le_refl _))) (by have := HW.out; first | omega | (have h9 := wtS_len (fun _ => 0) x.fOuts; omega))).mono ?_
  rintro _ w3 ⟨⟨y3, rfl, t3⟩, g3⟩
  obtain ⟨ya3, yl3, yc3, rfl⟩ := t3.form
  have g3s := (g3).size; (try simp only [World.size_alloc, World.size_setCell, World.size_drew] at g3s)
  obtain ⟨g3ac, g3ad, g3ao, g3af, g3ag, g3ap, g3az, g3ax, g3ay⟩ := bfacts (n := w.heap.size) (k := 3) g3 (by go_size) (by go_size); replace g3ad := g3ad (by decide); replace g3ag := g3ag (by decide); replace g3ax := g3ax (by decide); have g3ac1 := fun o => g3ac 1 o (by decide); have g3af1 := fun o => g3af 1 o (by decide); have g3az1 := g3az 1 (by decide); have g3ac2 := fun o => g3ac 2 o (by decide); have g3af2 := fun o => g3af 2 o (by decide); have g3az2 := g3az 2 (by decide); clear g3ac g3af g3az
  go_wp2_with fail
  refine (L_toVmVal x.fBack _).mono ?_
  rintro _ w4 ⟨rfl, g4⟩
  have g4s := (g4).size; (try simp only [World.size_alloc, World.size_setCell, World.size_drew] at g4s)
  obtain ⟨g4ac, g4ad, g4ao, g4af, g4ag, g4ap, g4az, g4ax, g4ay⟩ := bfacts (n := w.heap.size) (k := 3) g4 (by go_size) (by go_size); replace g4ad := g4ad (by decide); replace g4ag := g4ag (by decide); replace g4ax := g4ax (by decide); have g4ac1 := fun o => g4ac 1 o (by decide); have g4af1 := fun o => g4af 1 o (by decide); have g4az1 := g4az 1 (by decide); have g4ac2 := fun o => g4ac 2 o (by decide); have g4af2 := fun o => g4af 2 o (by decide); have g4az2 := g4az 2 (by decide); clear g4ac g4af g4az
  go_wp2
  all_goals
    refine bodyPost_ret (v := ?_) ?hrun rfl ?_
    case hrun => (simp only [results, Try.results49]; go_simp; first | done | exact rfl)
    exact HR.out _ _ ⟨⟨_, _, _, rfl, (t1.stays rVmFrame_good (by (repeat' (first | (with_reducible exact Keeps.refl _ _) | (with_reducible refine Keeps.alloc ?_ _) | (with_reducible refine Keeps.setCell ?_ ?_ _) | (with_reducible refine Keeps.drew ?_) | (refine keeps_hyp (by assumption) ?_ ?_) | go_size)))).low rVmFrame_good (by go_size), (t2.stays rVmObj_good (by (repeat' (first | (with_reducible exact Keeps.refl _ _) | (with_reducible refine Keeps.alloc ?_ _) | (with_reducible refine Keeps.setCell ?_ ?_ _) | (with_reducible refine Keeps.drew ?_) | (refine keeps_hyp (by assumption) ?_ ?_) | go_size)))).low rVmObj_good (by go_size), (t3.stays rInt_good (by (repeat' (first | (with_reducible exact Keeps.refl _ _) | (with_reducible refine Keeps.alloc ?_ _) | (with_reducible refine Keeps.setCell ?_ ?_ _) | (with_reducible refine Keeps.drew ?_) | (refine keeps_hyp (by assumption) ?_ ?_) | go_size)))).low rInt_good (by go_size)⟩, by (repeat' (first | (with_reducible exact Below.refl _ _) | (with_reducible refine Below.alloc ?_ ?_ _) | (with_reducible refine Below.setCell ?_ ?_ _) | (with_reducible refine Below.drew ?_) | (refine below_hyp (by assumption) ?_ ?_) | go_size))⟩

set_option maxHeartbeats 2000000 in
theorem L_eqVmState (x : DVmState) (v1 v2 v3 : Value) (z1 z2 z3 : Value) (w : World) (s1 : Sl 6 rVmFrame 0 w v1 x.fFrames) (s2 : Sl 3 rVmObj 0 w v2 x.fHeap) (s3 : Sl 1 rInt 0 w v3 x.fOuts) (d1 : Sl 6 rVmFrame 0 w z1 x.fFrames) (d2 : Sl 3 rVmObj 0 w z2 x.fHeap) (d3 : Sl 1 rInt 0 w z3 x.fOuts) :
    Calls Try.prog 50 #[.agg #[.int .i64 x.fStatus, v1, v2, v3, .int .i64 x.fBack.fKind, .int .i64 x.fBack.fN], .agg #[.int .i64 x.fStatus, z1, z2, z3, .int .i64 x.fBack.fKind, .int .i64 x.fBack.fN]] w fun e w' => e = .returned (.bool true) ∧ Below w.heap.size w w' := by
  obtain ⟨na1, nl1, nc1, rfl⟩ := s1.form
  obtain ⟨na2, nl2, nc2, rfl⟩ := s2.form
  obtain ⟨na3, nl3, nc3, rfl⟩ := s3.form
  obtain ⟨za1, zl1, zc1, rfl⟩ := d1.form
  obtain ⟨za2, zl2, zc2, rfl⟩ := d2.form
  obtain ⟨za3, zl3, zc3, rfl⟩ := d3.form
  refine calls_hide fun R HR => ?_
  go_enter Try.func50, Try.ntmps50
  go_wp2_with fail
  refine (L_eqVmFrameS x.fFrames _ _ _ (s1.stays rVmFrame_good (Keeps.of_below' (B := w.heap.size) (by (repeat' (first | (with_reducible exact Below.refl _ _) | (with_reducible refine Below.alloc ?_ ?_ _) | (with_reducible refine Below.setCell ?_ ?_ _) | (with_reducible refine Below.drew ?_) | (refine below_hyp (by assumption) ?_ ?_) | go_size))) (Nat.le_refl _))) (d1.stays rVmFrame_good (Keeps.of_below' (B := w.heap.size) (by (repeat' (first | (with_reducible exact Below.refl _ _) | (with_reducible refine Below.alloc ?_ ?_ _) | (with_reducible refine Below.setCell ?_ ?_ _) | (with_reducible refine Below.drew ?_) | (refine below_hyp (by assumption) ?_ ?_) | go_size))) (Nat.le_refl _)))).mono ?_
  rintro _ w1 ⟨rfl, g1⟩
  have g1s := (g1).size; (try simp only [World.size_alloc, World.size_setCell, World.size_drew] at g1s)
  obtain ⟨g1ac, g1ad, g1ao, g1af, g1ag, g1ap, g1az, g1ax, g1ay⟩ := bfacts (n := w.heap.size) (k := 2) g1 (by go_size) (by go_size); replace g1ad := g1ad (by decide); replace g1ag := g1ag (by decide); replace g1ax := g1ax (by decide); have g1ac1 := fun o => g1ac 1 o (by decide); have g1af1 := fun o => g1af 1 o (by decide); have g1az1 := g1az 1 (by decide); clear g1ac g1af g1az
  go_wp2_with fail
  refine (L_eqVmObjS x.fHeap _ _ _ (s2.stays rVmObj_good (Keeps.of_below' (B := w.heap.size) (by (repeat' (first | (with_reducible exact Below.refl _ _) | (with_reducible refine Below.alloc ?_ ?_ _) | (with_reducible refine Below.setCell ?_ ?_ _) | (with_reducible refine Below.drew ?_) | (refine below_hyp (by assumption) ?_ ?_) | go_size))) (Nat.le_refl _))) (d2.stays rVmObj_good (Keeps.of_below' (B := w.heap.size) (by (repeat' (first | (with_reducible exact Below.refl _ _) | (with_reducible refine Below.alloc ?_ ?_ _) | (with_reducible refine Below.setCell ?_ ?_ _) | (with_reducible refine Below.drew ?_) | (refine below_hyp (by assumption) ?_ ?_) | go_size))) (Nat.le_refl _)))).mono ?_
  rintro _ w2 ⟨rfl, g2⟩
  have g2s := (g2).size; (try simp only [World.size_alloc, World.size_setCell, World.size_drew] at g2s)
  obtain ⟨g2ac, g2ad, g2ao, g2af, g2ag, g2ap, g2az, g2ax, g2ay⟩ := bfacts (n := w.heap.size) (k := 2) g2 (by go_size) (by go_size); replace g2ad := g2ad (by decide); replace g2ag := g2ag (by decide); replace g2ax := g2ax (by decide); have g2ac1 := fun o => g2ac 1 o (by decide); have g2af1 := fun o => g2af 1 o (by decide); have g2az1 := g2az 1 (by decide); clear g2ac g2af g2az
  go_wp2_with fail
  refine (L_eqIntS x.fOuts _ _ _ (s3.stays rInt_good (Keeps.of_below' (B := w.heap.size) (by (repeat' (first | (with_reducible exact Below.refl _ _) | (with_reducible refine Below.alloc ?_ ?_ _) | (with_reducible refine Below.setCell ?_ ?_ _) | (with_reducible refine Below.drew ?_) | (refine below_hyp (by assumption) ?_ ?_) | go_size))) (Nat.le_refl _))) (d3.stays rInt_good (Keeps.of_below' (B := w.heap.size) (by (repeat' (first | (with_reducible exact Below.refl _ _) | (with_reducible refine Below.alloc ?_ ?_ _) | (with_reducible refine Below.setCell ?_ ?_ _) | (with_reducible refine Below.drew ?_) | (refine below_hyp (by assumption) ?_ ?_) | go_size))) (Nat.le_refl _)))).mono ?_
  rintro _ w3 ⟨rfl, g3⟩
  have g3s := (g3).size; (try simp only [World.size_alloc, World.size_setCell, World.size_drew] at g3s)
  obtain ⟨g3ac, g3ad, g3ao, g3af, g3ag, g3ap, g3az, g3ax, g3ay⟩ := bfacts (n := w.heap.size) (k := 2) g3 (by go_size) (by go_size); replace g3ad := g3ad (by decide); replace g3ag := g3ag (by decide); replace g3ax := g3ax (by decide); have g3ac1 := fun o => g3ac 1 o (by decide); have g3af1 := fun o => g3af 1 o (by decide); have g3az1 := g3az 1 (by decide); clear g3ac g3af g3az
  go_wp2_with fail
  refine (L_eqVmVal x.fBack _).mono ?_
  rintro _ w4 ⟨rfl, g4⟩
  have g4s := (g4).size; (try simp only [World.size_alloc, World.size_setCell, World.size_drew] at g4s)
  obtain ⟨g4ac, g4ad, g4ao, g4af, g4ag, g4ap, g4az, g4ax, g4ay⟩ := bfacts (n := w.heap.size) (k := 2) g4 (by go_size) (by go_size); replace g4ad := g4ad (by decide); replace g4ag := g4ag (by decide); replace g4ax := g4ax (by decide); have g4ac1 := fun o => g4ac 1 o (by decide); have g4af1 := fun o => g4af 1 o (by decide); have g4az1 := g4az 1 (by decide); clear g4ac g4af g4az
  go_wp2
  all_goals (try go_returns)
  all_goals exact HR.out _ _ ⟨rfl, by (repeat' (first | (with_reducible exact Below.refl _ _) | (with_reducible refine Below.alloc ?_ ?_ _) | (with_reducible refine Below.setCell ?_ ?_ _) | (with_reducible refine Below.drew ?_) | (refine below_hyp (by assumption) ?_ ?_) | go_size))⟩

end Go.Proofs.Ytchhappoidncjaa
