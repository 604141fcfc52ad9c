

/-
  The walk of the law FnExactLodFind. Condition: the data can be read.
-/
import Derived.Test.YtejfecmmcghpmaaGreatFindK
import Derived.Test.YtejfecmmcghpmaaGreatRepP
namespace Go.Proofs.YtejfecmmcghpmaaGreat
set_option linter.unusedSimpArgs false
set_option linter.unusedVariables false
open Go.RowKit

set_option maxHeartbeats 2000000 in
theorem L_eqLodRef (x : DLodRef) (w : World) :
    Calls Tryz.prog 25 #[.agg #[.int .i64 x.fKeeper, .string x.fName], .agg #[.int .i64 x.fKeeper, .string x.fName]] w fun e w' => e = .returned (.bool true) ∧ Below w.heap.size w w' := by
  refine calls_hide fun R HR => ?_
  go_enter Tryz.func25, Tryz.ntmps25
  go_wp2
  all_goals (try go_returns)
  all_goals exact HR.out _ _ ⟨rfl, by (repeat' (first | (with_reducible exact Below.refl _ _) | (with_reducible refine Below.alloc ?_ ?_ _) | (with_reducible refine Below.setCell ?_ ?_ _) | (with_reducible refine Below.drew ?_) | (refine below_hyp (by assumption) ?_ ?_) | go_size))⟩

set_option maxRecDepth 100000 in
set_option maxHeartbeats 8000000 in
theorem L_FnExactLodFind (x : DLodPlan) (v1 : Value) (k : Int) (nm : ByteArray) (w : World) (s1 : Sl 2 rLodKeeper 0 w v1 x.fKeepers) (b1 : nm.size ≤ maxLen) :
    Calls Tryz.prog 5 #[.agg #[v1], .int .i64 k, .string nm] w fun e w' => e = .returned (.bool true) ∧ Below w.heap.size w w' := by
  obtain ⟨na1, nl1, nc1, rfl⟩ := s1.form
  have mm : nm.size ≤ 9223372036854775807 := by unfold maxLen at b1; omega
  by_cases h20 : ¬ nm.size ≤ 1048576
  · refine calls_hide fun R HR => ?_
    go_enter Tryz.func5, Tryz.ntmps5
    go_wp2
    all_goals (try go_returns)
    all_goals exact HR.out _ _ ⟨rfl, by (repeat' (first | (with_reducible exact Below.refl _ _) | (with_reducible refine Below.alloc ?_ ?_ _) | (with_reducible refine Below.setCell ?_ ?_ _) | (with_reducible refine Below.drew ?_) | (refine below_hyp (by assumption) ?_ ?_) | go_size))⟩
  obtain ⟨jw, hjw⟩ : ∃ jw, jw = lodFind x k nm := ⟨_, rfl⟩
  have SF : ∀ (W : World) (a : Option Addr) (l c : Nat), Sl 2 rLodKeeper 0 W (.slice a l c) x.fKeepers → Calls Tryz.prog 23 #[.agg #[.slice a l c], .int .i64 k, .string nm] W fun e w' => e = .returned (refT jw) ∧ Below W.heap.size W w' := fun W a l c h => by
    rw [hjw]; exact S_LodFind x _ k nm W h b1
  have IF : ∀ (W : World) (a : Option Addr) (l c : Nat), Sl 2 rLodKeeper 0 W (.slice a l c) x.fKeepers → Calls Tryz.prog 24 #[.agg #[.slice a l c], .int .i64 k, .string nm] W fun e w' => e = .returned (refT jw) ∧ Below W.heap.size W w' := fun W a l c h => by
    rw [hjw]; exact I_LodFind x _ k nm W h b1
  clear hjw
  obtain ⟨⟨rk, rn⟩, cd⟩ := jw
  unfold refT at SF IF
  dsimp only at SF IF
  have EQ := fun W => L_eqLodRef ⟨rk, rn⟩ W
  dsimp only at EQ
  refine calls_hide fun R HR => ?_
  go_enter Tryz.func5, Tryz.ntmps5
  go_wp2_with fail
  refine (L_szLodPlan x _ _ _ (s1.stays rLodKeeper_good (Keeps.of_below' (B := w.heap.size) (by (repeat' (first | (with_reducible exact Below.refl _ _) | (with_reducible refine Below.alloc ?_ ?_ _) | (with_reducible refine Below.setCell ?_ ?_ _) | (with_reducible refine Below.drew ?_) | (refine below_hyp (by assumption) ?_ ?_) | go_size))) (Nat.le_refl _))) ⟨by omega, by omega⟩).mono ?_
  rintro _ w1 ⟨⟨r, rfl, hr⟩, g1⟩
  have g1s := (g1).size; (try simp only [World.size_alloc, World.size_setCell, World.size_drew] at g1s)
  obtain ⟨g1ac, g1ad, g1ao, g1af, g1ag, g1ap, g1az, g1ax, g1ay⟩ := bfacts (n := w.heap.size) (k := 1) g1 (by go_size) (by go_size); replace g1ad := g1ad (by decide); replace g1ag := g1ag (by decide); replace g1ax := g1ax (by decide); clear g1ac g1af g1az
  rcases hr with rfl | ⟨ra, rb⟩
  · go_wp2
    all_goals (try go_returns)
    all_goals exact HR.out _ _ ⟨rfl, by (repeat' (first | (with_reducible exact Below.refl _ _) | (with_reducible refine Below.alloc ?_ ?_ _) | (with_reducible refine Below.setCell ?_ ?_ _) | (with_reducible refine Below.drew ?_) | (refine below_hyp (by assumption) ?_ ?_) | go_size))⟩
  have rn1 : ¬ r < 0 := by omega
  have hw : wtLodPlan x ≤ 1048576 := by omega
  have HW := Lib.hid hw
  clear hw rb
  go_wp2_with fail
  refine (L_toLodPlan x _ _ (s1.stays rLodKeeper_good (Keeps.of_below' (B := w.heap.size) (by (repeat' (first | (with_reducible exact Below.refl _ _) | (with_reducible refine Below.alloc ?_ ?_ _) | (with_reducible refine Below.setCell ?_ ?_ _) | (with_reducible refine Below.drew ?_) | (refine below_hyp (by assumption) ?_ ?_) | go_size))) (Nat.le_refl _))) HW.out).mono ?_
  rintro _ w2 ⟨⟨y1, rfl, t1⟩, g2⟩
  obtain ⟨ya1, yl1, yc1, rfl⟩ := t1.form
  have g2s := (g2).size; (try simp only [World.size_alloc, World.size_setCell, World.size_drew] at g2s)
  obtain ⟨g2ac, g2ad, g2ao, g2af, g2ag, g2ap, g2az, g2ax, g2ay⟩ := bfacts (n := w.heap.size) (k := 1) g2 (by go_size) (by go_size); replace g2ad := g2ad (by decide); replace g2ag := g2ag (by decide); replace g2ax := g2ax (by decide); clear g2ac g2af g2az
  go_wp2_with fail
  refine (SF _ _ _ _ (t1.low rLodKeeper_good (Nat.zero_le _))).mono ?_
  rintro _ w3 ⟨rfl, g3⟩
  have g3s := (g3).size; (try simp only [World.size_alloc, World.size_setCell, World.size_drew] at g3s)
  obtain ⟨g3ac, g3ad, g3ao, g3af, g3ag, g3ap, g3az, g3ax, g3ay⟩ := bfacts (n := w.heap.size) (k := 1) g3 (by go_size) (by go_size); replace g3ad := g3ad (by decide); replace g3ag := g3ag (by decide); replace g3ax := g3ax (by decide); clear g3ac g3af g3az
  go_wp2_with fail
  refine (L_toLodPlan x _ _ (s1.stays rLodKeeper_good (Keeps.of_below' (B := w.heap.size) (by (repeat' (first | (with_reducible exact Below.refl _ _) | (with_reducible refine Below.alloc ?_ ?_ _) | (with_reducible refine Below.setCell ?_ ?_ _) | (with_reducible refine Below.drew ?_) | (refine below_hyp (by assumption) ?_ ?_) | go_size))) (Nat.le_refl _))) HW.out).mono ?_
  rintro _ w4 ⟨⟨z1, rfl, d1⟩, g4⟩
  obtain ⟨za1, zl1, zc1, rfl⟩ := d1.form
  have g4s := (g4).size; (try simp only [World.size_alloc, World.size_setCell, World.size_drew] at g4s)
  obtain ⟨g4ac, g4ad, g4ao, g4af, g4ag, g4ap, g4az, g4ax, g4ay⟩ := bfacts (n := w.heap.size) (k := 1) g4 (by go_size) (by go_size); replace g4ad := g4ad (by decide); replace g4ag := g4ag (by decide); replace g4ax := g4ax (by decide); clear g4ac g4af g4az
  obtain ⟨g4bc, g4bd, g4bo, g4bf, g4bg, g4bp, g4bz, g4bx, g4by⟩ := bfacts (n := w3.heap.size) (k := 1) g4 (by go_size) (by go_size); replace g4bd := g4bd (by decide); replace g4bg := g4bg (by decide); replace g4bx := g4bx (by decide); clear g4bc g4bf g4bz
  have hz4 := w4.heap.size
  go_wp2_with fail
  refine (IF _ _ _ _ ((d1.stays rLodKeeper_good (by (repeat' (first | (with_reducible exact Keeps.refl _ _) | (with_reducible refine Keeps.alloc ?_ _) | (with_reducible refine Keeps.setCell ?_ ?_ _) | (with_reducible refine Keeps.drew ?_) | (refine keeps_hyp (by assumption) ?_ ?_) | go_size)))).low rLodKeeper_good (Nat.zero_le _))).mono ?_
  rintro _ w5 ⟨rfl, g5⟩
  have g5s := (g5).size; (try simp only [World.size_alloc, World.size_setCell, World.size_drew] at g5s)
  obtain ⟨g5ac, g5ad, g5ao, g5af, g5ag, g5ap, g5az, g5ax, g5ay⟩ := bfacts (n := w.heap.size) (k := 1) g5 (by go_size) (by go_size); replace g5ad := g5ad (by decide); replace g5ag := g5ag (by decide); replace g5ax := g5ax (by decide); clear g5ac g5af g5az
  obtain ⟨g5bc, g5bd, g5bo, g5bf, g5bg, g5bp, g5bz, g5bx, g5by⟩ := bfacts (n := w3.heap.size) (k := 1) g5 (by go_size) (by go_size); replace g5bd := g5bd (by decide); replace g5bg := g5bg (by decide); replace g5bx := g5bx (by decide); clear g5bc g5bf g5bz
  obtain ⟨g5cc, g5cd, g5co, g5cf, g5cg, g5cp, g5cz, g5cx, g5cy⟩ := bfacts (n := w4.heap.size) (k := 1) g5 (by go_size) (by go_size); replace g5cd := g5cd (by decide); replace g5cg := g5cg (by decide); replace g5cx := g5cx (by decide); clear g5cc g5cf g5cz
  go_wp2_with fail
  refine (EQ _).mono ?_
  rintro _ w6 ⟨rfl, g6⟩
  have g6s := (g6).size; (try simp only [World.size_alloc, World.size_setCell, World.size_drew] at g6s)
  obtain ⟨g6ac, g6ad, g6ao, g6af, g6ag, g6ap, g6az, g6ax, g6ay⟩ := bfacts (n := w.heap.size) (k := 1) g6 (by go_size) (by go_size); replace g6ad := g6ad (by decide); replace g6ag := g6ag (by decide); replace g6ax := g6ax (by decide); clear g6ac g6af g6az
  obtain ⟨g6cc, g6cd, g6co, g6cf, g6cg, g6cp, g6cz, g6cx, g6cy⟩ := bfacts (n := w4.heap.size) (k := 1) g6 (by go_size) (by go_size); replace g6cd := g6cd (by decide); replace g6cg := g6cg (by decide); replace g6cx := g6cx (by decide); clear g6cc g6cf g6cz
  go_wp2_with fail
  have T1 : Sl 2 rLodKeeper 0 w6 (.slice za1 zl1 zc1) x.fKeepers := (d1.stays rLodKeeper_good (by (repeat' (first | (with_reducible exact Keeps.refl _ _) | (with_reducible refine Keeps.alloc ?_ _) | (with_reducible refine Keeps.setCell ?_ ?_ _) | (with_reducible refine Keeps.drew ?_) | (refine keeps_hyp (by assumption) ?_ ?_) | go_size)))).low rLodKeeper_good (Nat.zero_le _)
  have hE : Below w.heap.size w w6 := by (repeat' (first | (with_reducible exact Below.refl _ _) | (with_reducible refine Below.alloc ?_ ?_ _) | (with_reducible refine Below.setCell ?_ ?_ _) | (with_reducible refine Below.drew ?_) | (refine below_hyp (by assumption) ?_ ?_) | go_size))
  have hz := hE.size
  have hE4 : w4.heap.size < w6.heap.size := by omega
  have q0' : w6.cell? ⟨w.heap.size, 0, none⟩ = some (.slice na1 nl1 nc1) := by go_simp
  have q0 : ∀ W, Below w6.heap.size w6 W → W.cell? ⟨w.heap.size, 0, none⟩ = some (.slice na1 nl1 nc1) := fun W hW => (hW.cell (p := ⟨w.heap.size, 0, none⟩) (by show w.heap.size < w6.heap.size; omega)).trans q0'
  have o0' : w6.cell? ⟨w4.heap.size, 0, none⟩ = some (.slice za1 zl1 zc1) := by go_simp
  have o0 : ∀ W, Below w6.heap.size w6 W → W.cell? ⟨w4.heap.size, 0, none⟩ = some (.slice za1 zl1 zc1) := fun W hW => (hW.cell (p := ⟨w4.heap.size, 0, none⟩) (by show w4.heap.size < w6.heap.size; omega)).trans o0'
  have P1 : ∀ W, Below w6.heap.size w6 W → Sl 2 rLodKeeper 0 W (.slice na1 nl1 nc1) x.fKeepers := fun W hW => s1.stays rLodKeeper_good (Keeps.of_below (hE.trans (hW.mono hz)))
  have D1 : ∀ W, Below w6.heap.size w6 W → Sl 2 rLodKeeper 0 W (.slice za1 zl1 zc1) x.fKeepers := fun W hW => T1.stays rLodKeeper_good (Keeps.of_below hW)
  clear q0' o0' g1ad g1ag g1ax g1ay g1ao g1ap g2ad g2ag g2ax g2ay g2ao g2ap g3ad g3ag g3ax g3ay g3ao g3ap g4ad g4ag g4ax g4ay g4ao g4ap g5ad g5ag g5ax g5ay g5ao g5ap g6ad g6ag g6ax g6ay g6ao g6ap
  have keepA : ∀ x x' : World, Below x.heap.size x x' → Below w6.heap.size w6 x → Below w6.heap.size w6 x' := fun x x' hb e => keep_below hb e (Nat.le_refl _)
  go_region_held3 (fun x => Below w6.heap.size w6 x) (first | exact (Below.refl _ _).drew | exact keepA _ _ (by assumption) (by assumption)) (first | (go_at_call 13; refine (L_toLodPlan x _ _ (P1 _ (by assumption)) HW.out).mono ?_; rintro _ _ ⟨⟨e1, rfl, u1⟩, _⟩) | (go_at_call 17; refine (L_eqLodPlan x _ _ _ (D1 _ (by assumption)) ((u1.stays rLodKeeper_good (by (repeat' (first | (with_reducible exact Keeps.refl _ _) | (with_reducible refine Keeps.alloc ?_ _) | (with_reducible refine Keeps.setCell ?_ ?_ _) | (with_reducible refine Keeps.drew ?_) | (refine keeps_hyp (by assumption) ?_ ?_) | go_size)))).low rLodKeeper_good (Nat.zero_le _))).mono ?_; rintro _ _ ⟨rfl, _⟩))
  rename_i wA _ hA
  clear q0 o0 keepA P1 D1
  go_wp2
  all_goals (try go_returns)
  all_goals exact HR.out _ _ ⟨rfl, hE.trans (hA.mono hz)⟩

end Go.Proofs.YtejfecmmcghpmaaGreat
