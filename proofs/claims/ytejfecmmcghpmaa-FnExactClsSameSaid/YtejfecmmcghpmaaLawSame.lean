

/-
  The walk of the law FnExactClsSame. Condition: the data can be read.
-/
import Derived.Test.YtejfecmmcghpmaaSameS
import Derived.Test.YtejfecmmcghpmaaSameI
import Derived.Test.YtejfecmmcghpmaaRepE
namespace Go.Proofs.Ytejfecmmcghpmaa
set_option linter.unusedSimpArgs false
set_option linter.unusedVariables false
open Go.RowKit

set_option maxRecDepth 100000 in
set_option maxHeartbeats 16000000 in
theorem L_FnExactClsSame (x y : DClsClass) (v1 v2 u1 u2 : Value) (w : World) (s1 : Sl 3 rClsField 0 w v1 x.fFields) (s2 : Sl 8 rClsMethod 0 w v2 x.fMethods) (b1 : x.fName.size ≤ maxLen) (b2 : x.fSuper.size ≤ maxLen) (t1 : Sl 3 rClsField 0 w u1 y.fFields) (t2 : Sl 8 rClsMethod 0 w u2 y.fMethods) (d1 : y.fName.size ≤ maxLen) (d2 : y.fSuper.size ≤ maxLen) :
    Calls Try.prog 3 #[.agg #[.string x.fName, .string x.fSuper, v1, v2], .agg #[.string y.fName, .string y.fSuper, u1, u2]] w fun e w' => e = .returned (.bool true) ∧ Below w.heap.size w w' := by
  obtain ⟨na1, nl1, nc1, rfl⟩ := s1.form
  obtain ⟨na2, nl2, nc2, rfl⟩ := s2.form
  obtain ⟨ma1, ml1, mc1, rfl⟩ := t1.form
  obtain ⟨ma2, ml2, mc2, rfl⟩ := t2.form
  obtain ⟨z, hz⟩ : ∃ z, z = clsEq x y := ⟨_, rfl⟩
  have SA : ∀ (W : World) (v1 v2 u1 u2 : Value), Sl 3 rClsField 0 W v1 x.fFields → Sl 8 rClsMethod 0 W v2 x.fMethods → Sl 3 rClsField 0 W u1 y.fFields → Sl 8 rClsMethod 0 W u2 y.fMethods → Calls Try.prog 9 #[.agg #[.string x.fName, .string x.fSuper, v1, v2], .agg #[.string y.fName, .string y.fSuper, u1, u2]] W fun e w' => e = .returned (.bool z) ∧ Below W.heap.size W w' := fun W v1 v2 u1 u2 p1 p2 p3 p4 => by
    rw [hz]; exact S_ClsSame x y v1 v2 u1 u2 W p1 p2 p3 p4
  have IA : ∀ (W : World) (v1 v2 u1 u2 : Value), Sl 3 rClsField 0 W v1 x.fFields → Sl 8 rClsMethod 0 W v2 x.fMethods → Sl 3 rClsField 0 W u1 y.fFields → Sl 8 rClsMethod 0 W u2 y.fMethods → Calls Try.prog 11 #[.agg #[.string x.fName, .string x.fSuper, v1, v2], .agg #[.string y.fName, .string y.fSuper, u1, u2]] W fun e w' => e = .returned (.bool z) ∧ Below W.heap.size W w' := fun W v1 v2 u1 u2 p1 p2 p3 p4 => by
    rw [hz]; exact I_ClsSame x y v1 v2 u1 u2 W p1 p2 p3 p4
  clear hz
  refine calls_hide fun R HR => ?_
  go_enter Try.func3, Try.ntmps3
  go_wp2_with fail
  obtain ⟨wS, hwS⟩ : ∃ wS, wS = (w.alloc (.cells #[.string x.fName, .string x.fSuper, .slice na1 nl1 nc1, .slice na2 nl2 nc2] 25)).alloc (.cells #[.string y.fName, .string y.fSuper, .slice ma1 ml1 mc1, .slice ma2 ml2 mc2] 25) := ⟨_, rfl⟩
  rw [← hwS]
  have hES : Below w.heap.size w wS := by rw [hwS]; (repeat' (first | (with_reducible exact Below.refl _ _) | (with_reducible refine Below.alloc ?_ ?_ _) | (with_reducible refine Below.setCell ?_ ?_ _) | (with_reducible refine Below.drew ?_) | (refine below_hyp (by assumption) ?_ ?_) | go_size))
  have hzS := hES.size
  have Q : Hid ((wS.cell? ⟨w.heap.size, 0, none⟩ = some (.string x.fName) ∧ wS.cell? ⟨w.heap.size, 1, none⟩ = some (.string x.fSuper) ∧ wS.cell? ⟨w.heap.size, 2, none⟩ = some (.slice na1 nl1 nc1) ∧ wS.cell? ⟨w.heap.size, 3, none⟩ = some (.slice na2 nl2 nc2)) ∧ (wS.cell? ⟨w.heap.size + 1, 0, none⟩ = some (.string y.fName) ∧ wS.cell? ⟨w.heap.size + 1, 1, none⟩ = some (.string y.fSuper) ∧ wS.cell? ⟨w.heap.size + 1, 2, none⟩ = some (.slice ma1 ml1 mc1) ∧ wS.cell? ⟨w.heap.size + 1, 3, none⟩ = some (.slice ma2 ml2 mc2))) := Lib.hid (by
    rw [hwS]
    refine ⟨⟨?_, ?_, ?_, ?_⟩, ?_, ?_, ?_, ?_⟩ <;> go_simp)
  obtain ⟨⟨q0, q1, q2, q3⟩, r0, r1, r2, r3⟩ := id Q.out
  clear hwS
  refine (L_szClsClass x _ _ _ _ (s1.stays rClsField_good (Keeps.of_below hES)) (s2.stays rClsMethod_good (Keeps.of_below hES)) b1 b2 ⟨by omega, by omega⟩).mono ?_
  rintro _ w1 ⟨⟨c1, rfl, hr⟩, g1⟩
  have hE1 := hES.trans (g1.mono hzS)
  rcases hr with rfl | ⟨ra, rb⟩
  · go_wp2
    all_goals (try go_returns)
    all_goals exact HR.out _ _ ⟨rfl, hE1⟩
  have rn1 : ¬ c1 < 0 := by omega
  have hw : wtClsClass x ≤ 1048576 := by omega
  have hr2 : c1 ≤ 1048576 := by omega
  have HW := Lib.hid hw
  replace r0 := keep_cell g1 r0
  replace r1 := keep_cell g1 r1
  replace r2 := keep_cell g1 r2
  replace r3 := keep_cell g1 r3
  clear hw rb q0 q1 q2 q3
  go_wp2_with fail
  refine (L_szClsClass y _ _ _ _ (t1.stays rClsField_good (Keeps.of_below hE1)) (t2.stays rClsMethod_good (Keeps.of_below hE1)) d1 d2 ⟨ra, hr2⟩).mono ?_
  rintro _ w2 ⟨⟨c2, rfl, hr⟩, g2⟩
  have hE2 := hE1.trans (g2.mono hE1.size)
  rcases hr with rfl | ⟨ra2, rb2⟩
  · go_wp2
    all_goals (try go_returns)
    all_goals exact HR.out _ _ ⟨rfl, hE2⟩
  have rn2 : ¬ c2 < 0 := by omega
  have hw : wtClsClass y ≤ 1048576 := by omega
  have HY := Lib.hid hw
  clear hw rb2 r0 r1 r2 r3
  have gS2 : Below wS.heap.size wS w2 := g1.trans (g2.mono g1.size)
  have TX : ∀ W, Below wS.heap.size wS W → Calls Try.prog 10 #[.agg #[.string x.fName, .string x.fSuper, .slice na1 nl1 nc1, .slice na2 nl2 nc2]] W fun e w' => (∃ e1 e2, e = .returned (.agg #[.string x.fName, .string x.fSuper, e1, e2]) ∧ Sl 3 rClsField W.heap.size w' e1 x.fFields ∧ Sl 8 rClsMethod W.heap.size w' e2 x.fMethods) ∧ Below W.heap.size W w' := fun W hW => by
    have hk := Keeps.of_below (lo := 0) (hES.trans (hW.mono hzS))
    exact L_toClsClass x _ _ W (s1.stays rClsField_good hk) (s2.stays rClsMethod_good hk) HW.out
  have TY : ∀ W, Below wS.heap.size wS W → Calls Try.prog 10 #[.agg #[.string y.fName, .string y.fSuper, .slice ma1 ml1 mc1, .slice ma2 ml2 mc2]] W fun e w' => (∃ e1 e2, e = .returned (.agg #[.string y.fName, .string y.fSuper, e1, e2]) ∧ Sl 3 rClsField W.heap.size w' e1 y.fFields ∧ Sl 8 rClsMethod W.heap.size w' e2 y.fMethods) ∧ Below W.heap.size W w' := fun W hW => by
    have hk := Keeps.of_below (lo := 0) (hES.trans (hW.mono hzS))
    exact L_toClsClass y _ _ W (t1.stays rClsField_good hk) (t2.stays rClsMethod_good hk) HY.out
  clear g1 g2 hE1
  go_wp2_with fail
  have q0 : ∀ W, Below w2.heap.size w2 W → W.cell? ⟨w.heap.size, 0, none⟩ = some (.string x.fName) := fun W hW => keep_cell hW (keep_cell gS2 Q.out.1.1)
  have q1 : ∀ W, Below w2.heap.size w2 W → W.cell? ⟨w.heap.size, 1, none⟩ = some (.string x.fSuper) := fun W hW => keep_cell hW (keep_cell gS2 Q.out.1.2.1)
  have q2 : ∀ W, Below w2.heap.size w2 W → W.cell? ⟨w.heap.size, 2, none⟩ = some (.slice na1 nl1 nc1) := fun W hW => keep_cell hW (keep_cell gS2 Q.out.1.2.2.1)
  have q3 : ∀ W, Below w2.heap.size w2 W → W.cell? ⟨w.heap.size, 3, none⟩ = some (.slice na2 nl2 nc2) := fun W hW => keep_cell hW (keep_cell gS2 Q.out.1.2.2.2)
  have r0 : ∀ W, Below w2.heap.size w2 W → W.cell? ⟨w.heap.size + 1, 0, none⟩ = some (.string y.fName) := fun W hW => keep_cell hW (keep_cell gS2 Q.out.2.1)
  have r1 : ∀ W, Below w2.heap.size w2 W → W.cell? ⟨w.heap.size + 1, 1, none⟩ = some (.string y.fSuper) := fun W hW => keep_cell hW (keep_cell gS2 Q.out.2.2.1)
  have r2 : ∀ W, Below w2.heap.size w2 W → W.cell? ⟨w.heap.size + 1, 2, none⟩ = some (.slice ma1 ml1 mc1) := fun W hW => keep_cell hW (keep_cell gS2 Q.out.2.2.2.1)
  have r3 : ∀ W, Below w2.heap.size w2 W → W.cell? ⟨w.heap.size + 1, 3, none⟩ = some (.slice ma2 ml2 mc2) := fun W hW => keep_cell hW (keep_cell gS2 Q.out.2.2.2.2)
  have up2 : ∀ W, Below w2.heap.size w2 W → Below wS.heap.size wS W := fun W hW => gS2.trans (hW.mono gS2.size)
  have keepA : ∀ x x' : World, Below x.heap.size x x' → Below w2.heap.size w2 x → Below w2.heap.size w2 x' := fun x x' hb e => keep_below hb e (Nat.le_refl _)
  go_region_held3 (fun x => Below w2.heap.size w2 x) (first | (with_reducible exact (Below.refl _ _).drew) | (with_reducible assumption) | (with_reducible exact keepA _ _ (by with_reducible assumption) (by with_reducible assumption))) (first | (go_at_call 10; (with_reducible refine (TX _ (up2 _ (by with_reducible assumption))).mono ?_); rintro _ wx ⟨⟨e1, e2, rfl, p1, p2⟩, hx⟩; have hx2 := keepA _ _ hx (by with_reducible assumption)) | (go_at_call 10; (with_reducible refine (TY _ (up2 _ (by with_reducible assumption))).mono ?_); rintro _ wy ⟨⟨e3, e4, rfl, p3, p4⟩, hy⟩; have hy2 := keepA _ _ hy (by with_reducible assumption)) | (go_at_call 9; refine (SA _ _ _ _ _ ((p1.stays rClsField_good (Keeps.of_below hy)).low rClsField_good (Nat.zero_le _)) ((p2.stays rClsMethod_good (Keeps.of_below hy)).low rClsMethod_good (Nat.zero_le _)) (p3.low rClsField_good (Nat.zero_le _)) (p4.low rClsMethod_good (Nat.zero_le _))).mono ?_; rintro _ _ ⟨rfl, _⟩))
  rename_i wA _ hA
  have gSA := gS2.trans (hA.mono gS2.size)
  have hEA := hES.trans (gSA.mono hzS)
  clear q0 q1 q2 q3 r0 r1 r2 r3 keepA up2 p1 p2 p3 p4 hx2 hy2 hx hy
  obtain ⟨⟨q0, q1, q2, q3⟩, r0, r1, r2, r3⟩ := id Q.out
  have qA : Hid ((wA.cell? ⟨w.heap.size, 0, none⟩ = some (.string x.fName) ∧ wA.cell? ⟨w.heap.size, 1, none⟩ = some (.string x.fSuper) ∧ wA.cell? ⟨w.heap.size, 2, none⟩ = some (.slice na1 nl1 nc1) ∧ wA.cell? ⟨w.heap.size, 3, none⟩ = some (.slice na2 nl2 nc2)) ∧ (wA.cell? ⟨w.heap.size + 1, 0, none⟩ = some (.string y.fName) ∧ wA.cell? ⟨w.heap.size + 1, 1, none⟩ = some (.string y.fSuper) ∧ wA.cell? ⟨w.heap.size + 1, 2, none⟩ = some (.slice ma1 ml1 mc1) ∧ wA.cell? ⟨w.heap.size + 1, 3, none⟩ = some (.slice ma2 ml2 mc2))) := Lib.hid ⟨⟨keep_cell gSA q0, keep_cell gSA q1, keep_cell gSA q2, keep_cell gSA q3⟩, keep_cell gSA r0, keep_cell gSA r1, keep_cell gSA r2, keep_cell gSA r3⟩
  clear q0 q1 q2 q3 r0 r1 r2 r3
  obtain ⟨⟨q0, q1, q2, q3⟩, r0, r1, r2, r3⟩ := id qA.out
  go_wp2_with fail
  refine (TX _ gSA).mono ?_
  rintro _ wB ⟨⟨e1, e2, rfl, p1, p2⟩, hB⟩
  obtain ⟨ea1, el1, ec1, rfl⟩ := p1.form
  obtain ⟨ea2, el2, ec2, rfl⟩ := p2.form
  have gSB := gSA.trans (hB.mono gSA.size)
  have gSBs := gSB.size
  have hBs := hB.size
  replace r0 := keep_cell hB r0
  replace r1 := keep_cell hB r1
  replace r2 := keep_cell hB r2
  replace r3 := keep_cell hB r3
  have hw1 := block_lt_of_cell r0
  clear q0 q1 q2 q3
  go_wp2_with fail
  obtain ⟨wC, hwC⟩ : ∃ wC, wC = wB.alloc (.cells #[.string x.fName, .string x.fSuper, .slice ea1 el1 ec1, .slice ea2 el2 ec2] 31) := ⟨_, rfl⟩
  have hC : Below wB.heap.size wB wC := by rw [hwC]; exact (Below.refl _ _).alloc (Nat.le_refl _) _
  have hzC : wC.heap.size = wB.heap.size + 1 := by rw [hwC]; simp
  have XC : Hid (wC.cell? ⟨wB.heap.size, 0, none⟩ = some (.string x.fName) ∧ wC.cell? ⟨wB.heap.size, 1, none⟩ = some (.string x.fSuper) ∧ wC.cell? ⟨wB.heap.size, 2, none⟩ = some (.slice ea1 el1 ec1) ∧ wC.cell? ⟨wB.heap.size, 3, none⟩ = some (.slice ea2 el2 ec2)) := Lib.hid (by rw [hwC]; refine ⟨?_, ?_, ?_, ?_⟩ <;> go_simp)
  have gSC := gSB.trans (hC.mono gSBs)
  try rw [← hwC]
  clear hwC
  refine (TY _ gSC).mono ?_
  rintro _ wD ⟨⟨e3, e4, rfl, p3, p4⟩, hD⟩
  obtain ⟨fa1, fl1, fc1, rfl⟩ := p3.form
  obtain ⟨fa2, fl2, fc2, rfl⟩ := p4.form
  have gSD := gSC.trans (hD.mono gSC.size)
  obtain ⟨x0, x1, x2, x3⟩ := id XC.out
  replace x0 := keep_cell hD x0
  replace x1 := keep_cell hD x1
  replace x2 := keep_cell hD x2
  replace x3 := keep_cell hD x3
  have lB := block_lt_of_cell x0
  clear r0 r1 r2 r3 hw1
  have hDs := hD.size
  have U1 : Sl 3 rClsField 0 wD (.slice ea1 el1 ec1) x.fFields := ((p1.stays rClsField_good (Keeps.of_below hC)).stays rClsField_good (Keeps.of_below hD)).low rClsField_good (Nat.zero_le _)
  have U2 : Sl 8 rClsMethod 0 wD (.slice ea2 el2 ec2) x.fMethods := ((p2.stays rClsMethod_good (Keeps.of_below hC)).stays rClsMethod_good (Keeps.of_below hD)).low rClsMethod_good (Nat.zero_le _)
  have V1 : Sl 3 rClsField 0 wD (.slice fa1 fl1 fc1) y.fFields := p3.low rClsField_good (Nat.zero_le _)
  have V2 : Sl 8 rClsMethod 0 wD (.slice fa2 fl2 fc2) y.fMethods := p4.low rClsMethod_good (Nat.zero_le _)
  have YD : Hid ((wD.cell? ⟨w.heap.size, 0, none⟩ = some (.string x.fName) ∧ wD.cell? ⟨w.heap.size, 1, none⟩ = some (.string x.fSuper) ∧ wD.cell? ⟨w.heap.size, 2, none⟩ = some (.slice na1 nl1 nc1) ∧ wD.cell? ⟨w.heap.size, 3, none⟩ = some (.slice na2 nl2 nc2)) ∧ (wD.cell? ⟨w.heap.size + 1, 0, none⟩ = some (.string y.fName) ∧ wD.cell? ⟨w.heap.size + 1, 1, none⟩ = some (.string y.fSuper) ∧ wD.cell? ⟨w.heap.size + 1, 2, none⟩ = some (.slice ma1 ml1 mc1) ∧ wD.cell? ⟨w.heap.size + 1, 3, none⟩ = some (.slice ma2 ml2 mc2))) := Lib.hid (by
    obtain ⟨⟨q0, q1, q2, q3⟩, r0, r1, r2, r3⟩ := id Q.out
    exact ⟨⟨keep_cell gSD q0, keep_cell gSD q1, keep_cell gSD q2, keep_cell gSD q3⟩, keep_cell gSD r0, keep_cell gSD r1, keep_cell gSD r2, keep_cell gSD r3⟩)
  clear p1 p2 p3 p4
  go_wp2_with fail
  have hF0 : Below wD.heap.size wD (wD.alloc (.cells #[.string y.fName, .string y.fSuper, .slice fa1 fl1 fc1, .slice fa2 fl2 fc2] 31)) := (Below.refl _ _).alloc (Nat.le_refl _) _
  refine (IA _ _ _ _ _ (U1.stays rClsField_good (Keeps.of_below hF0)) (U2.stays rClsMethod_good (Keeps.of_below hF0)) (V1.stays rClsField_good (Keeps.of_below hF0)) (V2.stays rClsMethod_good (Keeps.of_below hF0))).mono ?_
  rintro _ wF ⟨rfl, hF1⟩
  have hF : Below wD.heap.size wD wF := hF0.trans (hF1.mono (by simp))
  have gSF := gSD.trans (hF.mono gSD.size)
  have hEF := hES.trans (gSF.mono hzS)
  obtain ⟨y0, y1, y2, y3⟩ : wF.cell? ⟨wD.heap.size, 0, none⟩ = some (.string y.fName) ∧ wF.cell? ⟨wD.heap.size, 1, none⟩ = some (.string y.fSuper) ∧ wF.cell? ⟨wD.heap.size, 2, none⟩ = some (.slice fa1 fl1 fc1) ∧ wF.cell? ⟨wD.heap.size, 3, none⟩ = some (.slice fa2 fl2 fc2) := by
    refine ⟨keep_cell hF1 ?_, keep_cell hF1 ?_, keep_cell hF1 ?_, keep_cell hF1 ?_⟩ <;> go_simp
  have zz : (z != z) = false := by simp
  have XF := Lib.hid (And.intro (keep_cell hF x0) (And.intro (keep_cell hF x1) (And.intro (keep_cell hF x2) (keep_cell hF x3))))
  have YF := Lib.hid (And.intro y0 (And.intro y1 (And.intro y2 y3)))
  have U1' := U1.stays rClsField_good (Keeps.of_below hF)
  have U2' := U2.stays rClsMethod_good (Keeps.of_below hF)
  have V1' := V1.stays rClsField_good (Keeps.of_below hF)
  have V2' := V2.stays rClsMethod_good (Keeps.of_below hF)
  clear x0 x1 x2 x3 y0 y1 y2 y3 hF0 hF1 lB U1 U2 V1 V2
  go_wp2_with fail
  have k0 : ∀ W, Below wF.heap.size wF W → W.cell? ⟨wB.heap.size, 0, none⟩ = some (.string x.fName) := fun W hW => keep_cell hW XF.out.1
  have k1 : ∀ W, Below wF.heap.size wF W → W.cell? ⟨wB.heap.size, 1, none⟩ = some (.string x.fSuper) := fun W hW => keep_cell hW XF.out.2.1
  have k2 : ∀ W, Below wF.heap.size wF W → W.cell? ⟨wB.heap.size, 2, none⟩ = some (.slice ea1 el1 ec1) := fun W hW => keep_cell hW XF.out.2.2.1
  have k3 : ∀ W, Below wF.heap.size wF W → W.cell? ⟨wB.heap.size, 3, none⟩ = some (.slice ea2 el2 ec2) := fun W hW => keep_cell hW XF.out.2.2.2
  have q0 : ∀ W, Below wF.heap.size wF W → W.cell? ⟨w.heap.size, 0, none⟩ = some (.string x.fName) := fun W hW => keep_cell hW (keep_cell hF YD.out.1.1)
  have q1 : ∀ W, Below wF.heap.size wF W → W.cell? ⟨w.heap.size, 1, none⟩ = some (.string x.fSuper) := fun W hW => keep_cell hW (keep_cell hF YD.out.1.2.1)
  have q2 : ∀ W, Below wF.heap.size wF W → W.cell? ⟨w.heap.size, 2, none⟩ = some (.slice na1 nl1 nc1) := fun W hW => keep_cell hW (keep_cell hF YD.out.1.2.2.1)
  have q3 : ∀ W, Below wF.heap.size wF W → W.cell? ⟨w.heap.size, 3, none⟩ = some (.slice na2 nl2 nc2) := fun W hW => keep_cell hW (keep_cell hF YD.out.1.2.2.2)
  have upF : ∀ W, Below wF.heap.size wF W → Below wS.heap.size wS W := fun W hW => gSF.trans (hW.mono gSF.size)
  have keepB : ∀ x x' : World, Below x.heap.size x x' → Below wF.heap.size wF x → Below wF.heap.size wF x' := fun x x' hb e => keep_below hb e (Nat.le_refl _)
  go_region_held3 (fun x => Below wF.heap.size wF x) (first | (with_reducible exact (Below.refl _ _).drew) | (with_reducible assumption) | (with_reducible exact keepB _ _ (by with_reducible assumption) (by with_reducible assumption))) (first | (go_at_call 10; (with_reducible refine (TX _ (upF _ (by with_reducible assumption))).mono ?_); rintro _ wx ⟨⟨e1, e2, rfl, p1, p2⟩, hx⟩; have hx2 := keepB _ _ hx (by with_reducible assumption)) | (go_at_call 12; refine (L_eqClsClass x _ _ _ _ _ (U1'.stays rClsField_good (Keeps.of_below (by with_reducible assumption))) (U2'.stays rClsMethod_good (Keeps.of_below (by with_reducible assumption))) (p1.low rClsField_good (Nat.zero_le _)) (p2.low rClsMethod_good (Nat.zero_le _))).mono ?_; rintro _ _ ⟨rfl, _⟩))
  rename_i wG _ hG
  clear k0 k1 k2 k3 q0 q1 q2 q3 p1 p2 hx hx2
  go_wp2_with fail
  have k0 : ∀ W, Below wF.heap.size wF W → W.cell? ⟨wD.heap.size, 0, none⟩ = some (.string y.fName) := fun W hW => keep_cell hW YF.out.1
  have k1 : ∀ W, Below wF.heap.size wF W → W.cell? ⟨wD.heap.size, 1, none⟩ = some (.string y.fSuper) := fun W hW => keep_cell hW YF.out.2.1
  have k2 : ∀ W, Below wF.heap.size wF W → W.cell? ⟨wD.heap.size, 2, none⟩ = some (.slice fa1 fl1 fc1) := fun W hW => keep_cell hW YF.out.2.2.1
  have k3 : ∀ W, Below wF.heap.size wF W → W.cell? ⟨wD.heap.size, 3, none⟩ = some (.slice fa2 fl2 fc2) := fun W hW => keep_cell hW YF.out.2.2.2
  have q0 : ∀ W, Below wF.heap.size wF W → W.cell? ⟨w.heap.size + 1, 0, none⟩ = some (.string y.fName) := fun W hW => keep_cell hW (keep_cell hF YD.out.2.1)
  have q1 : ∀ W, Below wF.heap.size wF W → W.cell? ⟨w.heap.size + 1, 1, none⟩ = some (.string y.fSuper) := fun W hW => keep_cell hW (keep_cell hF YD.out.2.2.1)
  have q2 : ∀ W, Below wF.heap.size wF W → W.cell? ⟨w.heap.size + 1, 2, none⟩ = some (.slice ma1 ml1 mc1) := fun W hW => keep_cell hW (keep_cell hF YD.out.2.2.2.1)
  have q3 : ∀ W, Below wF.heap.size wF W → W.cell? ⟨w.heap.size + 1, 3, none⟩ = some (.slice ma2 ml2 mc2) := fun W hW => keep_cell hW (keep_cell hF YD.out.2.2.2.2)
  go_region_held3 (fun x => Below wF.heap.size wF x) (first | (with_reducible exact hG.drew) | (with_reducible assumption) | (with_reducible exact keepB _ _ (by with_reducible assumption) (by with_reducible assumption))) (first | (go_at_call 10; (with_reducible refine (TY _ (upF _ (by with_reducible assumption))).mono ?_); rintro _ wx ⟨⟨e1, e2, rfl, p1, p2⟩, hx⟩; have hx2 := keepB _ _ hx (by with_reducible assumption)) | (go_at_call 12; refine (L_eqClsClass y _ _ _ _ _ (V1'.stays rClsField_good (Keeps.of_below (by with_reducible assumption))) (V2'.stays rClsMethod_good (Keeps.of_below (by with_reducible assumption))) (p1.low rClsField_good (Nat.zero_le _)) (p2.low rClsMethod_good (Nat.zero_le _))).mono ?_; rintro _ _ ⟨rfl, _⟩))
  rename_i wH _ hH
  clear k0 k1 k2 k3 q0 q1 q2 q3
  go_wp2
  all_goals (try go_returns)
  all_goals exact HR.out _ _ ⟨rfl, hEF.trans (hH.mono hEF.size)⟩

end Go.Proofs.Ytejfecmmcghpmaa
