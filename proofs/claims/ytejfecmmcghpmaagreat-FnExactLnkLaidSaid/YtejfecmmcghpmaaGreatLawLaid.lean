

/-
  The walk of the law FnExactLnkLaid. Condition: the data can be read.
-/
import Derived.Test.YtejfecmmcghpmaaGreatLaidK
import Derived.Test.YtejfecmmcghpmaaGreatRepP
namespace Go.Proofs.YtejfecmmcghpmaaGreat
set_option linter.unusedSimpArgs false
set_option linter.unusedVariables false
open Go.RowKit

set_option maxHeartbeats 2000000 in
theorem L_szLodRef (x : DLodRef) (l : Int) (w : World) (b1 : x.fName.size ≤ maxLen) (hl : 0 ≤ l ∧ l ≤ 1048576) :
    Calls Tryz.prog 11 #[.agg #[.int .i64 x.fKeeper, .string x.fName], .int .i64 l] w fun e w' => (∃ r : Int, e = .returned (.int .i64 r) ∧ (r = -1 ∨ (0 ≤ r ∧ r + wtLodRef x ≤ l))) ∧ Below w.heap.size w w' := by
  have m1 : x.fName.size ≤ 9223372036854775807 := by unfold maxLen at b1; omega
  obtain ⟨hl1, hl2⟩ := hl
  refine calls_hide fun R HR => ?_
  go_enter Tryz.func11, Tryz.ntmps11
  go_wp2
  all_goals (try go_returns)
  all_goals exact HR.out _ _ ⟨⟨_, rfl, by first | exact Or.inl rfl | exact Or.inr ⟨by omega, by unfold wtLodRef; omega⟩⟩, by (repeat' (first | (with_reducible exact Below.refl _ _) | (with_reducible refine Below.alloc ?_ ?_ _) | (with_reducible refine Below.setCell ?_ ?_ _) | (with_reducible refine Below.drew ?_) | (refine below_hyp (by assumption) ?_ ?_) | go_size))⟩

set_option maxHeartbeats 2000000 in
theorem L_toLodRef (x : DLodRef) (w : World) :
    Calls Tryz.prog 14 #[.agg #[.int .i64 x.fKeeper, .string x.fName]] w fun e w' => e = .returned (.agg #[.int .i64 x.fKeeper, .string x.fName]) ∧ Below w.heap.size w w' := by
  refine calls_hide fun R HR => ?_
  go_enter Tryz.func14, Tryz.ntmps14
  go_wp2
  all_goals
    refine bodyPost_ret (v := ?_) ?hrun rfl ?_
    case hrun => (simp only [results, Tryz.results14]; go_simp; first | done | exact rfl)
    exact HR.out _ _ ⟨rfl, by (repeat' (first | (with_reducible exact Below.refl _ _) | (with_reducible refine Below.alloc ?_ ?_ _) | (with_reducible refine Below.setCell ?_ ?_ _) | (with_reducible refine Below.drew ?_) | (refine below_hyp (by assumption) ?_ ?_) | go_size))⟩

set_option maxRecDepth 100000 in
set_option maxHeartbeats 8000000 in
theorem L_FnExactLnkLaid (x : DLodPlan) (v1 : Value) (r : DLodRef) (w : World) (s1 : Sl 2 rLodKeeper 0 w v1 x.fKeepers) (b1 : r.fName.size ≤ maxLen) (hk : (Lit.int .i64 r.fKeeper).wf = true) :
    Calls Tryz.prog 9 #[.agg #[v1], .agg #[.int .i64 r.fKeeper, .string r.fName]] w fun e w' => e = .returned (.bool true) ∧ Below w.heap.size w w' := by
  obtain ⟨na1, nl1, nc1, rfl⟩ := s1.form
  obtain ⟨z, hz⟩ : ∃ z, z = lnkLaid x r := ⟨_, rfl⟩
  have SA : ∀ (W : World) (v : Value), Sl 2 rLodKeeper 0 W v x.fKeepers → Calls Tryz.prog 36 #[.agg #[v], .agg #[.int .i64 r.fKeeper, .string r.fName]] W fun e w' => e = .returned (.bool z) ∧ Below W.heap.size W w' := fun W v h => by
    rw [hz]; exact S_LnkLaid x v r W h b1
  have IA : ∀ (W : World) (v : Value), Sl 2 rLodKeeper 0 W v x.fKeepers → Calls Tryz.prog 37 #[.agg #[v], .agg #[.int .i64 r.fKeeper, .string r.fName]] W fun e w' => e = .returned (.bool z) ∧ Below W.heap.size W w' := fun W v h => by
    rw [hz]; exact I_LnkLaid x v r W h b1 hk
  clear hz hk
  refine calls_hide fun R HR => ?_
  go_enter Tryz.func9, Tryz.ntmps9
  go_wp2_with fail
  refine (L_szLodPlan x _ _ _ (s1.stays rLodKeeper_good (Keeps.of_below' (B := w.heap.size) (by (repeat' (first | (with_reducible exact Below.refl _ _) | (with_reducible refine Below.alloc ?_ ?_ _) | (with_reducible refine Below.setCell ?_ ?_ _) | (with_reducible refine Below.drew ?_) | (refine below_hyp (by assumption) ?_ ?_) | go_size))) (Nat.le_refl _))) ⟨by omega, by omega⟩).mono ?_
  rintro _ w1 ⟨⟨r1, rfl, hr⟩, g1⟩
  have g1s := (g1).size; (try simp only [World.size_alloc, World.size_setCell, World.size_drew] at g1s)
  obtain ⟨g1ac, g1ad, g1ao, g1af, g1ag, g1ap, g1az, g1ax, g1ay⟩ := bfacts (n := w.heap.size) (k := 2) g1 (by go_size) (by go_size); replace g1ad := g1ad (by decide); replace g1ag := g1ag (by decide); replace g1ax := g1ax (by decide); have g1ac1 := fun o => g1ac 1 o (by decide); have g1af1 := fun o => g1af 1 o (by decide); have g1az1 := g1az 1 (by decide); clear g1ac g1af g1az
  rcases hr with rfl | ⟨ra, rb⟩
  · go_wp2
    all_goals (try go_returns)
    all_goals exact HR.out _ _ ⟨rfl, by (repeat' (first | (with_reducible exact Below.refl _ _) | (with_reducible refine Below.alloc ?_ ?_ _) | (with_reducible refine Below.setCell ?_ ?_ _) | (with_reducible refine Below.drew ?_) | (refine below_hyp (by assumption) ?_ ?_) | go_size))⟩
  have rn1 : ¬ r1 < 0 := by omega
  have hw : wtLodPlan x ≤ 1048576 := by omega
  have hr2 : r1 ≤ 1048576 := by omega
  have HW := Lib.hid hw
  clear hw rb
  go_wp2_with fail
  refine (L_szLodRef r r1 _ b1 ⟨ra, hr2⟩).mono ?_
  rintro _ w2 ⟨⟨r2, rfl, hq2⟩, g2⟩
  have g2s := (g2).size; (try simp only [World.size_alloc, World.size_setCell, World.size_drew] at g2s)
  obtain ⟨g2ac, g2ad, g2ao, g2af, g2ag, g2ap, g2az, g2ax, g2ay⟩ := bfacts (n := w.heap.size) (k := 2) g2 (by go_size) (by go_size); replace g2ad := g2ad (by decide); replace g2ag := g2ag (by decide); replace g2ax := g2ax (by decide); have g2ac1 := fun o => g2ac 1 o (by decide); have g2af1 := fun o => g2af 1 o (by decide); have g2az1 := g2az 1 (by decide); clear g2ac g2af g2az
  rcases hq2 with rfl | ⟨ra2, rb2⟩
  · go_wp2
    all_goals (try go_returns)
    all_goals exact HR.out _ _ ⟨rfl, by (repeat' (first | (with_reducible exact Below.refl _ _) | (with_reducible refine Below.alloc ?_ ?_ _) | (with_reducible refine Below.setCell ?_ ?_ _) | (with_reducible refine Below.drew ?_) | (refine below_hyp (by assumption) ?_ ?_) | go_size))⟩
  have rn2 : ¬ r2 < 0 := by omega
  clear rb2
  go_wp2_with fail
  have hE : Below w.heap.size w w2 := by (repeat' (first | (with_reducible exact Below.refl _ _) | (with_reducible refine Below.alloc ?_ ?_ _) | (with_reducible refine Below.setCell ?_ ?_ _) | (with_reducible refine Below.drew ?_) | (refine below_hyp (by assumption) ?_ ?_) | go_size))
  have hz := hE.size
  have hb2 : w.heap.size + 1 < w2.heap.size := by omega
  have q0' : w2.cell? ⟨w.heap.size, 0, none⟩ = some (.slice na1 nl1 nc1) := by go_simp
  have q1' : w2.cell? ⟨w.heap.size + 1, 0, none⟩ = some (.int .i64 r.fKeeper) := by go_simp
  have q2' : w2.cell? ⟨w.heap.size + 1, 1, none⟩ = some (.string r.fName) := by go_simp
  have q0 : ∀ W, Below w2.heap.size w2 W → W.cell? ⟨w.heap.size, 0, none⟩ = some (.slice na1 nl1 nc1) := fun W hW => (hW.cell (p := ⟨w.heap.size, 0, none⟩) (by show w.heap.size < w2.heap.size; omega)).trans q0'
  have q1 : ∀ W, Below w2.heap.size w2 W → W.cell? ⟨w.heap.size + 1, 0, none⟩ = some (.int .i64 r.fKeeper) := fun W hW => (hW.cell (p := ⟨w.heap.size + 1, 0, none⟩) (by show w.heap.size + 1 < w2.heap.size; omega)).trans q1'
  have q2 : ∀ W, Below w2.heap.size w2 W → W.cell? ⟨w.heap.size + 1, 1, none⟩ = some (.string r.fName) := fun W hW => (hW.cell (p := ⟨w.heap.size + 1, 1, none⟩) (by show w.heap.size + 1 < w2.heap.size; omega)).trans q2'
  have P1 : ∀ W, Below w2.heap.size w2 W → Sl 2 rLodKeeper 0 W (.slice na1 nl1 nc1) x.fKeepers := fun W hW => s1.stays rLodKeeper_good (Keeps.of_below (hE.trans (hW.mono hz)))
  clear q0' q1' q2' g1ad g1ag g1ax g1ay g1ao g1ap g2ad g2ag g2ax g2ay g2ao g2ap
  have keepA : ∀ x x' : World, Below x.heap.size x x' → Below w2.heap.size w2 x → Below w2.heap.size w2 x' := fun x x' hb e => keep_below hb e (Nat.le_refl _)
  go_region_held3 (fun x => Below w2.heap.size w2 x) (first | exact (Below.refl _ _).drew | exact keepA _ _ (by assumption) (by assumption)) (first | (go_at_call 13; refine (L_toLodPlan x _ _ (P1 _ (by assumption)) HW.out).mono ?_; rintro _ _ ⟨⟨e1, rfl, u1⟩, _⟩) | (go_at_call 14; refine (L_toLodRef r _).mono ?_; rintro _ _ ⟨rfl, _⟩) | (go_at_call 36; refine (SA _ _ ((u1.stays rLodKeeper_good (by first | (with_reducible exact Keeps.refl _ _) | exact Keeps.of_below (by assumption) | (refine Keeps.trans (Keeps.of_below (by assumption)) ?_; exact Keeps.of_below (by assumption)))).low rLodKeeper_good (Nat.zero_le _))).mono ?_; rintro _ _ ⟨rfl, _⟩))
  rename_i wA _ hA
  have hEA := hE.trans (hA.mono hz)
  have hAs := hA.size
  have a0 := q0 wA hA
  have a1 := q1 wA hA
  have a2 := q2 wA hA
  clear q0 q1 q2 P1 keepA
  go_wp2_with fail
  refine (L_toLodPlan x _ _ (s1.stays rLodKeeper_good (Keeps.of_below hEA)) HW.out).mono ?_
  rintro _ w4 ⟨⟨y1, rfl, d1⟩, g4⟩
  obtain ⟨za1, zl1, zc1, rfl⟩ := d1.form
  have g4s := g4.size
  have hE4 := hEA.trans (g4.mono hEA.size)
  replace a0 := keep_cell g4 a0
  replace a1 := keep_cell g4 a1
  replace a2 := keep_cell g4 a2
  go_wp2_with fail
  obtain ⟨w5, hw5⟩ : ∃ w5, w5 = w4.alloc (.cells #[.slice za1 zl1 zc1] 33) := ⟨_, rfl⟩
  rw [← hw5]
  have g5 : Below w4.heap.size w4 w5 := by rw [hw5]; exact (Below.refl _ _).alloc (Nat.le_refl _) _
  have hs5 : w4.heap.size < w5.heap.size := by rw [hw5]; simp
  have hE5 := hE4.trans (g5.mono hE4.size)
  have hz5 := hE5.size
  have T1 : Sl 2 rLodKeeper 0 w5 (.slice za1 zl1 zc1) x.fKeepers := (d1.stays rLodKeeper_good (Keeps.of_below g5)).low rLodKeeper_good (Nat.zero_le _)
  have l0 := block_lt_of_cell a0
  have l1 := block_lt_of_cell a1
  have o0' : w5.cell? ⟨w4.heap.size, 0, none⟩ = some (.slice za1 zl1 zc1) := by rw [hw5]; go_simp
  have q0' : w5.cell? ⟨w.heap.size, 0, none⟩ = some (.slice na1 nl1 nc1) := keep_cell g5 a0
  have q1' : w5.cell? ⟨w.heap.size + 1, 0, none⟩ = some (.int .i64 r.fKeeper) := keep_cell g5 a1
  have q2' : w5.cell? ⟨w.heap.size + 1, 1, none⟩ = some (.string r.fName) := keep_cell g5 a2
  have q0 : ∀ W, Below w5.heap.size w5 W → W.cell? ⟨w.heap.size, 0, none⟩ = some (.slice na1 nl1 nc1) := fun W hW => (hW.cell (p := ⟨w.heap.size, 0, none⟩) (by show w.heap.size < w5.heap.size; omega)).trans q0'
  have q1 : ∀ W, Below w5.heap.size w5 W → W.cell? ⟨w.heap.size + 1, 0, none⟩ = some (.int .i64 r.fKeeper) := fun W hW => (hW.cell (p := ⟨w.heap.size + 1, 0, none⟩) (by show w.heap.size + 1 < w5.heap.size; omega)).trans q1'
  have q2 : ∀ W, Below w5.heap.size w5 W → W.cell? ⟨w.heap.size + 1, 1, none⟩ = some (.string r.fName) := fun W hW => (hW.cell (p := ⟨w.heap.size + 1, 1, none⟩) (by show w.heap.size + 1 < w5.heap.size; omega)).trans q2'
  have o0 : ∀ W, Below w5.heap.size w5 W → W.cell? ⟨w4.heap.size, 0, none⟩ = some (.slice za1 zl1 zc1) := fun W hW => (hW.cell (p := ⟨w4.heap.size, 0, none⟩) (by show w4.heap.size < w5.heap.size; omega)).trans o0'
  have P1 : ∀ W, Below w5.heap.size w5 W → Sl 2 rLodKeeper 0 W (.slice na1 nl1 nc1) x.fKeepers := fun W hW => s1.stays rLodKeeper_good (Keeps.of_below (hE5.trans (hW.mono hz5)))
  have D1 : ∀ W, Below w5.heap.size w5 W → Sl 2 rLodKeeper 0 W (.slice za1 zl1 zc1) x.fKeepers := fun W hW => T1.stays rLodKeeper_good (Keeps.of_below hW)
  have keepA : ∀ x x' : World, Below x.heap.size x x' → Below w5.heap.size w5 x → Below w5.heap.size w5 x' := fun x x' hb e => keep_below hb e (Nat.le_refl _)
  clear hw5 a0 a1 a2 q0' q1' q2' o0' g5 g4 hA g1 g2
  go_region_held3 (fun x => Below w5.heap.size w5 x) (first | exact (Below.refl _ _).drew | exact keepA _ _ (by assumption) (by assumption)) (first | (go_at_call 14; refine (L_toLodRef r _).mono ?_; rintro _ _ ⟨rfl, _⟩) | (go_at_call 37; refine (IA _ _ (D1 _ (by assumption))).mono ?_; rintro _ _ ⟨rfl, _⟩))
  rename_i wB _ hB
  have zz : (z != z) = false := by simp
  go_wp2_with fail
  go_region_held3 (fun x => Below w5.heap.size w5 x) (first | exact hB.drew | exact keepA _ _ (by assumption) (by assumption)) (first | (go_at_call 13; refine (L_toLodPlan x _ _ (P1 _ (by assumption)) HW.out).mono ?_; rintro _ _ ⟨⟨e2, rfl, u2⟩, _⟩) | (go_at_call 17; refine (L_eqLodPlan x _ _ _ (D1 _ (by assumption)) ((u2.stays rLodKeeper_good (by first | (with_reducible exact Keeps.refl _ _) | exact Keeps.of_below (by assumption) | (repeat' (first | (with_reducible exact Keeps.refl _ _) | (with_reducible refine Keeps.alloc ?_ _) | (with_reducible refine Keeps.setCell ?_ ?_ _) | (with_reducible refine Keeps.drew ?_) | (refine keeps_hyp (by assumption) ?_ ?_) | go_size)))).low rLodKeeper_good (Nat.zero_le _))).mono ?_; rintro _ _ ⟨rfl, _⟩))
  rename_i wC _ hC
  clear q0 q1 q2 o0 keepA P1 D1
  go_wp2
  all_goals (try go_returns)
  all_goals exact HR.out _ _ ⟨rfl, hE5.trans (hC.mono hz5)⟩

end Go.Proofs.YtejfecmmcghpmaaGreat
