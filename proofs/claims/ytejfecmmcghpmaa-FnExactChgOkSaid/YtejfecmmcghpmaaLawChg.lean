

/-
  The walk of the law FnExactChgOk. Printed by gen_rep.py, a program of the prover of this repo.
-/
import Derived.Test.YtejfecmmcghpmaaChg
import Derived.Test.YtejfecmmcghpmaaRepF
namespace Go.Proofs.Ytejfecmmcghpmaa
set_option linter.unusedSimpArgs false
set_option linter.unusedVariables false
open Go.RowKit

set_option maxRecDepth 100000 in
set_option maxHeartbeats 8000000 in
theorem L_FnExactChgOk (x : DChgChange) (v1 v2 : Value) (w : World) (s1 : Sl 3 rClsField 0 w v1 x.fClass.fFields) (s2 : Sl 8 rClsMethod 0 w v2 x.fClass.fMethods) (b1 : x.fName.size ≤ maxLen) (b2 : x.fClass.fName.size ≤ maxLen) (b3 : x.fClass.fSuper.size ≤ maxLen) :
    Calls Try.prog 6 #[.agg #[.int .i64 x.fKind, .int .i64 x.fKeeper, .string x.fName, .int .i64 x.fTo, .string x.fClass.fName, .string x.fClass.fSuper, v1, v2]] w fun e w' => e = .returned (.bool true) ∧ Below w.heap.size w w' := by
  obtain ⟨na1, nl1, nc1, rfl⟩ := s1.form
  obtain ⟨na2, nl2, nc2, rfl⟩ := s2.form
  refine calls_hide fun R HR => ?_
  go_enter Try.func6, Try.ntmps6
  go_wp2_with fail
  refine (L_szChgChange x _ _ _ _ (s1.stays rClsField_good (Keeps.of_below' (B := w.heap.size) (by (repeat' (first | (with_reducible exact Below.refl _ _) | (with_reducible refine Below.alloc ?_ ?_ _) | (with_reducible refine Below.setCell ?_ ?_ _) | (with_reducible refine Below.drew ?_) | (refine below_hyp (by assumption) ?_ ?_) | go_size))) (Nat.le_refl _))) (s2.stays rClsMethod_good (Keeps.of_below' (B := w.heap.size) (by (repeat' (first | (with_reducible exact Below.refl _ _) | (with_reducible refine Below.alloc ?_ ?_ _) | (with_reducible refine Below.setCell ?_ ?_ _) | (with_reducible refine Below.drew ?_) | (refine below_hyp (by assumption) ?_ ?_) | go_size))) (Nat.le_refl _))) b1 b2 b3 ⟨by omega, by omega⟩).mono ?_
  rintro _ w1 ⟨⟨r, rfl, hr⟩, g1⟩
  have g1s := (g1).size; (try simp only [World.size_alloc, World.size_setCell, World.size_drew] at g1s)
  obtain ⟨g1ac, g1ad, g1ao, g1af, g1ag, g1ap, g1az, g1ax, g1ay⟩ := bfacts (n := w.heap.size) (k := 1) g1 (by go_size) (by go_size); replace g1ad := g1ad (by decide); replace g1ag := g1ag (by decide); replace g1ax := g1ax (by decide); clear g1ac g1af g1az
  rcases hr with rfl | ⟨ra, rb⟩
  · go_wp2
    all_goals (try go_returns)
    all_goals exact HR.out _ _ ⟨rfl, by (repeat' (first | (with_reducible exact Below.refl _ _) | (with_reducible refine Below.alloc ?_ ?_ _) | (with_reducible refine Below.setCell ?_ ?_ _) | (with_reducible refine Below.drew ?_) | (refine below_hyp (by assumption) ?_ ?_) | go_size))⟩
  have rn : ¬ r < 0 := by omega
  have hw : wtChgChange x ≤ 1048576 := by omega
  have HW := Lib.hid hw
  clear hw rb
  go_wp2_with fail
  refine (L_toChgChange x _ _ _ (s1.stays rClsField_good (Keeps.of_below' (B := w.heap.size) (by (repeat' (first | (with_reducible exact Below.refl _ _) | (with_reducible refine Below.alloc ?_ ?_ _) | (with_reducible refine Below.setCell ?_ ?_ _) | (with_reducible refine Below.drew ?_) | (refine below_hyp (by assumption) ?_ ?_) | go_size))) (Nat.le_refl _))) (s2.stays rClsMethod_good (Keeps.of_below' (B := w.heap.size) (by (repeat' (first | (with_reducible exact Below.refl _ _) | (with_reducible refine Below.alloc ?_ ?_ _) | (with_reducible refine Below.setCell ?_ ?_ _) | (with_reducible refine Below.drew ?_) | (refine below_hyp (by assumption) ?_ ?_) | go_size))) (Nat.le_refl _))) HW.out).mono ?_
  rintro _ w2 ⟨⟨y1, y2, rfl, t1, t2⟩, g2⟩
  obtain ⟨ya1, yl1, yc1, rfl⟩ := t1.form
  obtain ⟨ya2, yl2, yc2, rfl⟩ := t2.form
  have g2s := (g2).size; (try simp only [World.size_alloc, World.size_setCell, World.size_drew] at g2s)
  obtain ⟨g2ac, g2ad, g2ao, g2af, g2ag, g2ap, g2az, g2ax, g2ay⟩ := bfacts (n := w.heap.size) (k := 1) g2 (by go_size) (by go_size); replace g2ad := g2ad (by decide); replace g2ag := g2ag (by decide); replace g2ax := g2ax (by decide); clear g2ac g2af g2az
  go_wp2_with fail
  refine (S_ChgOk x _ _ _ (t1.low rClsField_good (Nat.zero_le _)) (t2.low rClsMethod_good (Nat.zero_le _)) b1 b2 b3).mono ?_
  rintro _ w3 ⟨rfl, g3⟩
  have g3s := (g3).size; (try simp only [World.size_alloc, World.size_setCell, World.size_drew] at g3s)
  obtain ⟨g3ac, g3ad, g3ao, g3af, g3ag, g3ap, g3az, g3ax, g3ay⟩ := bfacts (n := w.heap.size) (k := 1) g3 (by go_size) (by go_size); replace g3ad := g3ad (by decide); replace g3ag := g3ag (by decide); replace g3ax := g3ax (by decide); clear g3ac g3af g3az
  go_wp2_with fail
  refine (L_toChgChange x _ _ _ (s1.stays rClsField_good (Keeps.of_below' (B := w.heap.size) (by (repeat' (first | (with_reducible exact Below.refl _ _) | (with_reducible refine Below.alloc ?_ ?_ _) | (with_reducible refine Below.setCell ?_ ?_ _) | (with_reducible refine Below.drew ?_) | (refine below_hyp (by assumption) ?_ ?_) | go_size))) (Nat.le_refl _))) (s2.stays rClsMethod_good (Keeps.of_below' (B := w.heap.size) (by (repeat' (first | (with_reducible exact Below.refl _ _) | (with_reducible refine Below.alloc ?_ ?_ _) | (with_reducible refine Below.setCell ?_ ?_ _) | (with_reducible refine Below.drew ?_) | (refine below_hyp (by assumption) ?_ ?_) | go_size))) (Nat.le_refl _))) HW.out).mono ?_
  rintro _ w4 ⟨⟨z1, z2, rfl, d1, d2⟩, g4⟩
  obtain ⟨za1, zl1, zc1, rfl⟩ := d1.form
  obtain ⟨za2, zl2, zc2, rfl⟩ := d2.form
  have g4s := (g4).size; (try simp only [World.size_alloc, World.size_setCell, World.size_drew] at g4s)
  obtain ⟨g4ac, g4ad, g4ao, g4af, g4ag, g4ap, g4az, g4ax, g4ay⟩ := bfacts (n := w.heap.size) (k := 1) g4 (by go_size) (by go_size); replace g4ad := g4ad (by decide); replace g4ag := g4ag (by decide); replace g4ax := g4ax (by decide); clear g4ac g4af g4az
  have hz4 := w4.heap.size
  go_wp2_with fail
  refine (I_ChgOk x _ _ _ ((d1.stays rClsField_good (by (repeat' (first | (with_reducible exact Keeps.refl _ _) | (with_reducible refine Keeps.alloc ?_ _) | (with_reducible refine Keeps.setCell ?_ ?_ _) | (with_reducible refine Keeps.drew ?_) | (refine keeps_hyp (by assumption) ?_ ?_) | go_size)))).low rClsField_good (Nat.zero_le _)) ((d2.stays rClsMethod_good (by (repeat' (first | (with_reducible exact Keeps.refl _ _) | (with_reducible refine Keeps.alloc ?_ _) | (with_reducible refine Keeps.setCell ?_ ?_ _) | (with_reducible refine Keeps.drew ?_) | (refine keeps_hyp (by assumption) ?_ ?_) | go_size)))).low rClsMethod_good (Nat.zero_le _)) b1 b2 b3).mono ?_
  rintro _ w5 ⟨rfl, g5⟩
  have g5s := (g5).size; (try simp only [World.size_alloc, World.size_setCell, World.size_drew] at g5s)
  obtain ⟨g5ac, g5ad, g5ao, g5af, g5ag, g5ap, g5az, g5ax, g5ay⟩ := bfacts (n := w.heap.size) (k := 1) g5 (by go_size) (by go_size); replace g5ad := g5ad (by decide); replace g5ag := g5ag (by decide); replace g5ax := g5ax (by decide); clear g5ac g5af g5az
  obtain ⟨g5bc, g5bd, g5bo, g5bf, g5bg, g5bp, g5bz, g5bx, g5by⟩ := bfacts (n := w4.heap.size) (k := 1) g5 (by go_size) (by go_size); replace g5bd := g5bd (by decide); replace g5bg := g5bg (by decide); replace g5bx := g5bx (by decide); clear g5bc g5bf g5bz
  go_wp2_with fail
  have T1 : Sl 3 rClsField 0 w5 (.slice za1 zl1 zc1) x.fClass.fFields := (d1.stays rClsField_good (by (repeat' (first | (with_reducible exact Keeps.refl _ _) | (with_reducible refine Keeps.alloc ?_ _) | (with_reducible refine Keeps.setCell ?_ ?_ _) | (with_reducible refine Keeps.drew ?_) | (refine keeps_hyp (by assumption) ?_ ?_) | go_size)))).low rClsField_good (Nat.zero_le _)
  have T2 : Sl 8 rClsMethod 0 w5 (.slice za2 zl2 zc2) x.fClass.fMethods := (d2.stays rClsMethod_good (by (repeat' (first | (with_reducible exact Keeps.refl _ _) | (with_reducible refine Keeps.alloc ?_ _) | (with_reducible refine Keeps.setCell ?_ ?_ _) | (with_reducible refine Keeps.drew ?_) | (refine keeps_hyp (by assumption) ?_ ?_) | go_size)))).low rClsMethod_good (Nat.zero_le _)
  have hE : Below w.heap.size w w5 := by (repeat' (first | (with_reducible exact Below.refl _ _) | (with_reducible refine Below.alloc ?_ ?_ _) | (with_reducible refine Below.setCell ?_ ?_ _) | (with_reducible refine Below.drew ?_) | (refine below_hyp (by assumption) ?_ ?_) | go_size))
  have hz := hE.size
  have hE4 : w4.heap.size ≤ w5.heap.size := by omega
  have q0' : w5.cell? ⟨w.heap.size, 0, none⟩ = some (.int .i64 x.fKind) := by go_simp
  have q0 : ∀ W, Below w5.heap.size w5 W → W.cell? ⟨w.heap.size, 0, none⟩ = some (.int .i64 x.fKind) := fun W hW => (hW.cell (p := ⟨w.heap.size, 0, none⟩) (by show w.heap.size < w5.heap.size; omega)).trans q0'
  have o0' : w5.cell? ⟨w4.heap.size, 0, none⟩ = some (.int .i64 x.fKind) := by go_simp
  have o0 : ∀ W, Below w5.heap.size w5 W → W.cell? ⟨w4.heap.size, 0, none⟩ = some (.int .i64 x.fKind) := fun W hW => (hW.cell (p := ⟨w4.heap.size, 0, none⟩) (by show w4.heap.size < w5.heap.size; omega)).trans o0'
  have q1' : w5.cell? ⟨w.heap.size, 1, none⟩ = some (.int .i64 x.fKeeper) := by go_simp
  have q1 : ∀ W, Below w5.heap.size w5 W → W.cell? ⟨w.heap.size, 1, none⟩ = some (.int .i64 x.fKeeper) := fun W hW => (hW.cell (p := ⟨w.heap.size, 1, none⟩) (by show w.heap.size < w5.heap.size; omega)).trans q1'
  have o1' : w5.cell? ⟨w4.heap.size, 1, none⟩ = some (.int .i64 x.fKeeper) := by go_simp
  have o1 : ∀ W, Below w5.heap.size w5 W → W.cell? ⟨w4.heap.size, 1, none⟩ = some (.int .i64 x.fKeeper) := fun W hW => (hW.cell (p := ⟨w4.heap.size, 1, none⟩) (by show w4.heap.size < w5.heap.size; omega)).trans o1'
  have q2' : w5.cell? ⟨w.heap.size, 2, none⟩ = some (.string x.fName) := by go_simp
  have q2 : ∀ W, Below w5.heap.size w5 W → W.cell? ⟨w.heap.size, 2, none⟩ = some (.string x.fName) := fun W hW => (hW.cell (p := ⟨w.heap.size, 2, none⟩) (by show w.heap.size < w5.heap.size; omega)).trans q2'
  have o2' : w5.cell? ⟨w4.heap.size, 2, none⟩ = some (.string x.fName) := by go_simp
  have o2 : ∀ W, Below w5.heap.size w5 W → W.cell? ⟨w4.heap.size, 2, none⟩ = some (.string x.fName) := fun W hW => (hW.cell (p := ⟨w4.heap.size, 2, none⟩) (by show w4.heap.size < w5.heap.size; omega)).trans o2'
  have q3' : w5.cell? ⟨w.heap.size, 3, none⟩ = some (.int .i64 x.fTo) := by go_simp
  have q3 : ∀ W, Below w5.heap.size w5 W → W.cell? ⟨w.heap.size, 3, none⟩ = some (.int .i64 x.fTo) := fun W hW => (hW.cell (p := ⟨w.heap.size, 3, none⟩) (by show w.heap.size < w5.heap.size; omega)).trans q3'
  have o3' : w5.cell? ⟨w4.heap.size, 3, none⟩ = some (.int .i64 x.fTo) := by go_simp
  have o3 : ∀ W, Below w5.heap.size w5 W → W.cell? ⟨w4.heap.size, 3, none⟩ = some (.int .i64 x.fTo) := fun W hW => (hW.cell (p := ⟨w4.heap.size, 3, none⟩) (by show w4.heap.size < w5.heap.size; omega)).trans o3'
  have q4' : w5.cell? ⟨w.heap.size, 4, none⟩ = some (.string x.fClass.fName) := by go_simp
  have q4 : ∀ W, Below w5.heap.size w5 W → W.cell? ⟨w.heap.size, 4, none⟩ = some (.string x.fClass.fName) := fun W hW => (hW.cell (p := ⟨w.heap.size, 4, none⟩) (by show w.heap.size < w5.heap.size; omega)).trans q4'
  have o4' : w5.cell? ⟨w4.heap.size, 4, none⟩ = some (.string x.fClass.fName) := by go_simp
  have o4 : ∀ W, Below w5.heap.size w5 W → W.cell? ⟨w4.heap.size, 4, none⟩ = some (.string x.fClass.fName) := fun W hW => (hW.cell (p := ⟨w4.heap.size, 4, none⟩) (by show w4.heap.size < w5.heap.size; omega)).trans o4'
  have q5' : w5.cell? ⟨w.heap.size, 5, none⟩ = some (.string x.fClass.fSuper) := by go_simp
  have q5 : ∀ W, Below w5.heap.size w5 W → W.cell? ⟨w.heap.size, 5, none⟩ = some (.string x.fClass.fSuper) := fun W hW => (hW.cell (p := ⟨w.heap.size, 5, none⟩) (by show w.heap.size < w5.heap.size; omega)).trans q5'
  have o5' : w5.cell? ⟨w4.heap.size, 5, none⟩ = some (.string x.fClass.fSuper) := by go_simp
  have o5 : ∀ W, Below w5.heap.size w5 W → W.cell? ⟨w4.heap.size, 5, none⟩ = some (.string x.fClass.fSuper) := fun W hW => (hW.cell (p := ⟨w4.heap.size, 5, none⟩) (by show w4.heap.size < w5.heap.size; omega)).trans o5'
  have q6' : w5.cell? ⟨w.heap.size, 6, none⟩ = some (.slice na1 nl1 nc1) := by go_simp
  have q6 : ∀ W, Below w5.heap.size w5 W → W.cell? ⟨w.heap.size, 6, none⟩ = some (.slice na1 nl1 nc1) := fun W hW => (hW.cell (p := ⟨w.heap.size, 6, none⟩) (by show w.heap.size < w5.heap.size; omega)).trans q6'
  have o6' : w5.cell? ⟨w4.heap.size, 6, none⟩ = some (.slice za1 zl1 zc1) := by go_simp
  have o6 : ∀ W, Below w5.heap.size w5 W → W.cell? ⟨w4.heap.size, 6, none⟩ = some (.slice za1 zl1 zc1) := fun W hW => (hW.cell (p := ⟨w4.heap.size, 6, none⟩) (by show w4.heap.size < w5.heap.size; omega)).trans o6'
  have q7' : w5.cell? ⟨w.heap.size, 7, none⟩ = some (.slice na2 nl2 nc2) := by go_simp
  have q7 : ∀ W, Below w5.heap.size w5 W → W.cell? ⟨w.heap.size, 7, none⟩ = some (.slice na2 nl2 nc2) := fun W hW => (hW.cell (p := ⟨w.heap.size, 7, none⟩) (by show w.heap.size < w5.heap.size; omega)).trans q7'
  have o7' : w5.cell? ⟨w4.heap.size, 7, none⟩ = some (.slice za2 zl2 zc2) := by go_simp
  have o7 : ∀ W, Below w5.heap.size w5 W → W.cell? ⟨w4.heap.size, 7, none⟩ = some (.slice za2 zl2 zc2) := fun W hW => (hW.cell (p := ⟨w4.heap.size, 7, none⟩) (by show w4.heap.size < w5.heap.size; omega)).trans o7'
  have P1 : ∀ W, Below w5.heap.size w5 W → Sl 3 rClsField 0 W (.slice na1 nl1 nc1) x.fClass.fFields := fun W hW => s1.stays rClsField_good (Keeps.of_below (hE.trans (hW.mono hz)))
  have D1 : ∀ W, Below w5.heap.size w5 W → Sl 3 rClsField 0 W (.slice za1 zl1 zc1) x.fClass.fFields := fun W hW => T1.stays rClsField_good (Keeps.of_below hW)
  have P2 : ∀ W, Below w5.heap.size w5 W → Sl 8 rClsMethod 0 W (.slice na2 nl2 nc2) x.fClass.fMethods := fun W hW => s2.stays rClsMethod_good (Keeps.of_below (hE.trans (hW.mono hz)))
  have D2 : ∀ W, Below w5.heap.size w5 W → Sl 8 rClsMethod 0 W (.slice za2 zl2 zc2) x.fClass.fMethods := fun W hW => T2.stays rClsMethod_good (Keeps.of_below hW)
  clear q0' o0' q1' o1' q2' o2' q3' o3' q4' o4' q5' o5' q6' o6' q7' o7' g1ad g1ag g1ax g1ay g1ao g1ap g2ad g2ag g2ax g2ay g2ao g2ap g3ad g3ag g3ax g3ay g3ao g3ap g4ad g4ag g4ax g4ay g4ao g4ap g5ad g5ag g5ax g5ay g5ao g5ap g5bd g5bg g5bx g5by g5bo g5bp
  have keepA : ∀ x x' : World, Below x.heap.size x x' → Below w5.heap.size w5 x → Below w5.heap.size w5 x' := fun x x' hb e => keep_below hb e (Nat.le_refl _)
  go_region_held3 (fun x => Below w5.heap.size w5 x) (first | exact (Below.refl _ _).drew | exact keepA _ _ (by assumption) (by assumption)) (first | (go_at_call 22; refine (L_toChgChange x _ _ _ (P1 _ (by assumption)) (P2 _ (by assumption)) HW.out).mono ?_; rintro _ _ ⟨⟨e1, e2, rfl, u1, u2⟩, _⟩) | (go_at_call 24; refine (L_eqChgChange x _ _ _ _ _ (D1 _ (by assumption)) (D2 _ (by assumption)) ((u1.stays rClsField_good (by (repeat' (first | (with_reducible exact Keeps.refl _ _) | (with_reducible refine Keeps.alloc ?_ _) | (with_reducible refine Keeps.setCell ?_ ?_ _) | (with_reducible refine Keeps.drew ?_) | (refine keeps_hyp (by assumption) ?_ ?_) | go_size)))).low rClsField_good (Nat.zero_le _)) ((u2.stays rClsMethod_good (by (repeat' (first | (with_reducible exact Keeps.refl _ _) | (with_reducible refine Keeps.alloc ?_ _) | (with_reducible refine Keeps.setCell ?_ ?_ _) | (with_reducible refine Keeps.drew ?_) | (refine keeps_hyp (by assumption) ?_ ?_) | go_size)))).low rClsMethod_good (Nat.zero_le _))).mono ?_; rintro _ _ ⟨rfl, _⟩))
  rename_i wA _ hA
  clear q0 o0 q1 o1 q2 o2 q3 o3 q4 o4 q5 o5 q6 o6 q7 o7 keepA P1 D1 P2 D2
  go_wp2
  all_goals (try go_returns)
  all_goals exact HR.out _ _ ⟨rfl, hE.trans (hA.mono hz)⟩

end Go.Proofs.Ytejfecmmcghpmaa
