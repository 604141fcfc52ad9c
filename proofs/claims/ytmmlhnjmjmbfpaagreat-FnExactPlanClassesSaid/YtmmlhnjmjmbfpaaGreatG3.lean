/-
  Texts merged: LawPlanC, RowPlanC. No condition beside those of the single theorems.
-/
import Derived.Test.YtmmlhnjmjmbfpaaGreatG2
import Derived.Test.YtmmlhnjmjmbfpaaGreatG1
import Derived.Test.YtmmlhnjmjmbfpaaGreatRepP
import Derived.Test.YtmmlhnjmjmbfpaaGreatRely
import Derived.Test.YtmmlhnjmjmbfpaaGreatOpenP
/-
  The walk of the law FnExactPlanClasses: what the program returns is what the reference returns, shares nothing with what was given, and stands while others are made. Condition: the data can be read. (Printed by genex.py, a program of the prover of this repo.)
-/
namespace Go.Proofs.YtmmlhnjmjmbfpaaGreat
set_option linter.unusedSimpArgs false
set_option linter.unusedVariables false
open Go.RowKit

def egF (x : DLodPlan) (na1 : Option Addr) (nl1 nc1 : Nat) (za1 : Option Addr) (zl1 zc1 : Nat)  : Nat → Value → World → Prop
  | 0, v, w => v = .agg #[.slice za1 zl1 zc1]
  | 1, v, w => v = .agg #[.slice na1 nl1 nc1]
  | 2, v, w => ∃ a n c, v = .agg #[.slice a n c] ∧ Sl 2 rLodKeeper 0 w (.slice a n c) x.fKeepers
  | 3, v, w => v = .bool true
  | 4, v, w => v = .bool false
  | _, _, _ => True
theorem egF_stays {x : DLodPlan} {na1 : Option Addr} {nl1 nc1 : Nat} {za1 : Option Addr} {zl1 zc1 : Nat}  : ∀ i j u w w', i ≠ j → Below w.heap.size w w' → egF x na1 nl1 nc1 za1 zl1 zc1 i u w → egF x na1 nl1 nc1 za1 zl1 zc1 i u w' := by
  intro i j u w w' hne hg h
  match i with
  | 0 | 1 | 3 | 4 => exact h
  | 2 =>
    obtain ⟨a, n, c, h1, h2⟩ := h
    exact ⟨a, n, c, h1, h2.stays rLodKeeper_good (Keeps.of_below hg)⟩
  | n + 5 => trivial

set_option maxRecDepth 100000 in
set_option maxHeartbeats 8000000 in
theorem L_FnExactPlanClasses (x : DLodPlan) (v1 : Value) (w : World) (s1 : Sl 2 rLodKeeper 0 w v1 x.fKeepers) :
    Calls Tryz.prog 4 #[.agg #[v1]] w fun e w' => e = .returned (.bool true) ∧ Below w.heap.size w w' := by
  obtain ⟨na1, nl1, nc1, rfl⟩ := s1.form
  obtain ⟨Z, hZ⟩ : ∃ Z, Z = planClasses x := ⟨_, rfl⟩
  have hZ6 : Z.length ≤ 1000 := by rw [hZ]; exact planClasses_len x
  have SA : ∀ (W : World) (v : Value), Sl 2 rLodKeeper 0 W v x.fKeepers → Calls Tryz.prog 16 #[.agg #[v]] W fun e w' => (∃ u, e = .returned u ∧ Refs w' W.heap.size u Z) ∧ Below W.heap.size W w' := fun W v h => by
    rw [hZ]; exact S_PlanClassesE x v W h
  have IA : ∀ (W : World) (v : Value), Sl 2 rLodKeeper 0 W v x.fKeepers → Calls Tryz.prog 17 #[.agg #[v]] W fun e w' => (∃ u, e = .returned u ∧ Refs w' W.heap.size u Z) ∧ Below W.heap.size W w' := fun W v h => by
    rw [hZ]; exact I_PlanClasses x v W h
  clear hZ
  refine calls_hide fun R HR => ?_
  go_enter Tryz.func4, Tryz.ntmps4
  go_wp2_with fail
  refine (L_szLodPlan x _ _ _ (s1.stays rLodKeeper_good (Keeps.of_below' (B := w.heap.size) (by (repeat' (first | (with_reducible exact Below.refl _ _) | (with_reducible refine Below.alloc ?_ ?_ _) | (with_reducible refine Below.setCell ?_ ?_ _) | (with_reducible refine Below.drew ?_) | (refine below_hyp (by assumption) ?_ ?_) | go_size))) (Nat.le_refl _))) ⟨by omega, by omega⟩).mono ?_
  rintro _ w1 ⟨⟨r1, rfl, hr⟩, g1⟩
  have g1s := (g1).size; (try simp only [World.size_alloc, World.size_setCell, World.size_drew] at g1s)
  obtain ⟨g1ac, g1ad, g1ao, g1af, g1ag, g1ap, g1az, g1ax, g1ay⟩ := bfacts (n := w.heap.size) (k := 1) g1 (by go_size) (by go_size); replace g1ad := g1ad (by decide); replace g1ag := g1ag (by decide); replace g1ax := g1ax (by decide); clear g1ac g1af g1az
  rcases hr with rfl | ⟨ra, rb⟩
  · go_wp2
    all_goals (try go_returns)
    all_goals exact HR.out _ _ ⟨rfl, by (repeat' (first | (with_reducible exact Below.refl _ _) | (with_reducible refine Below.alloc ?_ ?_ _) | (with_reducible refine Below.setCell ?_ ?_ _) | (with_reducible refine Below.drew ?_) | (refine below_hyp (by assumption) ?_ ?_) | go_size))⟩
  have rn1 : ¬ r1 < 0 := by omega
  have hw : wtLodPlan x ≤ 1048576 := by omega
  have hr2 : r1 ≤ 1048576 := by omega
  have HW := Lib.hid hw
  clear hw rb
  go_wp2_with fail
  have Ew1 : Below w.heap.size w w1 := by (repeat' (first | (with_reducible exact Below.refl _ _) | (with_reducible refine Below.alloc ?_ ?_ _) | (with_reducible refine Below.setCell ?_ ?_ _) | (with_reducible refine Below.drew ?_) | (refine below_hyp (by assumption) ?_ ?_) | go_size))
  have hz := Ew1.size
  have hb2 : w.heap.size < w1.heap.size := by omega
  have q0 : w1.cell? ⟨w.heap.size, 0, none⟩ = some (.slice na1 nl1 nc1) := by go_simp
  have P1 : Sl 2 rLodKeeper 0 w1 (.slice na1 nl1 nc1) x.fKeepers := s1.stays rLodKeeper_good (Keeps.of_below Ew1)
  try clear g1ad g1ag g1ax g1ay g1ao g1ap
  try clear g1
  refine (L_toLodPlan x _ _ P1 HW.out).mono ?_
  rintro _ wK ⟨⟨y1, rfl, u1⟩, hK⟩
  obtain ⟨ya, yl, yc, rfl⟩ := u1.form
  have hzwK := hK.size
  have EwK := Ew1.trans (hK.mono Ew1.size)
  replace q0 := keep_cell hK q0
  replace P1 := P1.stays rLodKeeper_good (Keeps.of_below hK)
  go_wp2_with fail
  refine (SA _ _ (u1.low rLodKeeper_good (Nat.zero_le _))).mono ?_
  rintro _ wA ⟨⟨v8, rfl, F8⟩, hA⟩
  obtain ⟨sa, sc, rfl, -, -⟩ := own_form F8
  have hzwA := hA.size
  have EwA := EwK.trans (hA.mono EwK.size)
  replace q0 := keep_cell hA q0
  replace P1 := P1.stays rLodKeeper_good (Keeps.of_below hA)
  go_wp2_with fail
  have own8 : ∀ g, (Value.slice sa Z.length sc).ownBlock = some g → g < wA.heap.size := fun g hg => F8.ownLt hg
  refine (L_toLodPlanO x _ _ P1 HW.out).mono ?_
  rintro _ w4 ⟨⟨y1, rfl, d1⟩, g4⟩
  obtain ⟨za1, zl1, zc1, rfl⟩ := d1.form
  have hzw4 := g4.size
  have Ew4 := EwA.trans (g4.mono EwA.size)
  replace q0 := keep_cell g4 q0
  replace P1 := P1.stays rLodKeeper_good (Keeps.of_below g4)
  replace F8 := F8.below g4
  have SH : Hid (Sh 2 (sLodKeeper wA.heap.size w4.heap.size) wA.heap.size w4.heap.size w4 (.slice za1 zl1 zc1) x.fKeepers) := Lib.hid (d1.sh (Nat.le_refl _) (fun cs y b o e1 e2 e3 e4 e5 => oLodKeeper_s _ _ w4 (Nat.le_refl _) cs y b o e1 e2 e3 e4 e5))
  have D1 : Sl 2 rLodKeeper 0 w4 (.slice za1 zl1 zc1) x.fKeepers := (d1.sl oLodKeeper_r).low rLodKeeper_good (Nat.zero_le _)
  clear d1
  go_wp2_with fail
  obtain ⟨w5, hw5⟩ : ∃ w5, w5 = w4.alloc (.cells #[.slice za1 zl1 zc1] 33) := ⟨_, rfl⟩
  rw [← hw5]
  have g5 : Below w4.heap.size w4 w5 := by rw [hw5]; exact (Below.refl _ _).alloc (Nat.le_refl _) _
  have hs5 : w4.heap.size < w5.heap.size := by rw [hw5]; simp
  have o0 : w5.cell? ⟨w4.heap.size, 0, none⟩ = some (.slice za1 zl1 zc1) := by rw [hw5]; go_simp
  clear hw5
  have hzw5 := g5.size
  have Ew5 := Ew4.trans (g5.mono Ew4.size)
  replace q0 := keep_cell g5 q0
  replace P1 := P1.stays rLodKeeper_good (Keeps.of_below g5)
  replace F8 := F8.below g5
  replace D1 := D1.stays rLodKeeper_good (Keeps.of_below g5)
  go_wp2_with fail
  refine (IA _ _ D1).mono ?_
  rintro _ wB ⟨⟨v9, rfl, G9⟩, hB⟩
  obtain ⟨ta, tc, rfl, -, -⟩ := own_form G9
  have hzwB := hB.size
  have EwB := Ew5.trans (hB.mono Ew5.size)
  replace q0 := keep_cell hB q0
  replace P1 := P1.stays rLodKeeper_good (Keeps.of_below hB)
  replace F8 := F8.below hB
  replace D1 := D1.stays rLodKeeper_good (Keeps.of_below hB)
  replace o0 := keep_cell hB o0
  go_wp2_with fail
  refine (L_eqLodRefS _ _ Z _ _ _ G9 F8).mono ?_
  rintro _ wC ⟨rfl, hC⟩
  have hzwC := hC.size
  have EwC := EwB.trans (hC.mono EwB.size)
  replace q0 := keep_cell hC q0
  replace P1 := P1.stays rLodKeeper_good (Keeps.of_below hC)
  replace F8 := F8.below hC
  replace G9 := G9.below hC
  replace D1 := D1.stays rLodKeeper_good (Keeps.of_below hC)
  replace o0 := keep_cell hC o0
  have hCx := Lib.hid hC
  clear hC
  go_wp2_with fail
  refine wp_region_relyE 5 (Below wC.heap.size wC) (fun _ w1 w2 => Below w1.heap.size w1 w2) (fun _ => egF x na1 nl1 nc1 za1 zl1 zc1) (fun _ _ => True) noDeadE (by kernel_rfl) (by decide) (by kernel_rfl) (Or.inl rfl) (by kernel_rfl) ((Below.refl _ _).drew) (fun _ _ _ _ _ _ _ _ _ h => h) noDeadE_dead (fun _ => trivial) (fun _ _ _ _ _ _ _ _ => trivial) (fun _ i j u w1 w2 hne _ _ hg hF => egF_stays i j u w1 w2 hne hg hF) (fun _ _ _ => Below.refl _ _) ?_
  refine wpRelyE_cons2 (d := 27) rfl rfl (fun wx hC hI hd S0 hS => ?_) (fun v0 => ?_)
  · have c0 := keep_cell hC o0
    have HSS := Lib.hid hS; clear hS hd hI
    go_simp
    exact HSS.out _ _ hC (Below.refl _ _) (by simp [egF])
  simp only [Act.put, List.setIfInBounds_toArray, List.set_cons_zero, List.set_cons_succ]
  refine wpRelyE_cons2 (d := 28) rfl rfl (fun wx hC hI hd S0 hS => ?_) (fun v1 => ?_)
  · have c1 := keep_cell hC q0
    have HSS := Lib.hid hS; clear hS hd hI
    go_simp
    exact HSS.out _ _ hC (Below.refl _ _) (by simp [egF])
  simp only [Act.put, List.setIfInBounds_toArray, List.set_cons_zero, List.set_cons_succ]
  refine wpRelyE_cons2 (d := 29) rfl rfl (fun wx hC hI hd S0 hS => ?_) (fun v2 => ?_)
  · have d1 := hd ⟨1, .data⟩ (by simp) rfl v1 (by simp)
    simp only [egF] at d1
    subst d1
    have HSS := Lib.hid hS; clear hS hd hI
    go_simp
    refine (L_toLodPlan x _ _ (P1.stays rLodKeeper_good (Keeps.of_below hC)) HW.out).mono ?_
    rintro _ w' ⟨⟨y1, rfl, u1⟩, hX⟩
    obtain ⟨ya, yl, yc, rfl⟩ := u1.form
    exact HSS.out _ _ (hC.trans (hX.mono hC.size)) hX (by (simp only [List.nil_append, List.cons_append, List.length_cons, List.length_nil, Nat.reduceAdd, egF]); exact ⟨ya, yl, yc, rfl, u1.low rLodKeeper_good (Nat.zero_le _)⟩)
  simp only [Act.put, List.setIfInBounds_toArray, List.set_cons_zero, List.set_cons_succ]
  refine wpRelyE_cons2 (d := 30) rfl rfl (fun wx hC hI hd S0 hS => ?_) (fun v3 => ?_)
  · have d0 := hd ⟨0, .data⟩ (by simp) rfl v0 (by simp)
    simp only [egF] at d0
    subst d0
    have d2 := hd ⟨2, .data⟩ (by simp) rfl v2 (by simp)
    simp only [egF] at d2
    obtain ⟨pa, pn, pc, d2, hs1⟩ := d2
    subst d2
    have HSS := Lib.hid hS; clear hS hd hI
    go_simp
    refine (L_eqLodPlan x _ _ _ (D1.stays rLodKeeper_good (Keeps.of_below hC)) hs1).mono ?_
    rintro _ w' ⟨rfl, hX⟩
    exact HSS.out _ _ (hC.trans (hX.mono hC.size)) hX (by simp [egF])
  simp only [Act.put, List.setIfInBounds_toArray, List.set_cons_zero, List.set_cons_succ]
  refine wpRelyE_cons2 (d := 31) rfl rfl (fun wx hC hI hd S0 hS => ?_) (fun v4 => ?_)
  · have d3 := hd ⟨3, .data⟩ (by simp) rfl v3 (by simp)
    simp only [egF] at d3
    subst d3
    have HSS := Lib.hid hS; clear hS hd hI
    go_simp
    exact HSS.out _ _ hC (Below.refl _ _) (by simp [egF])
  simp only [Act.put, List.setIfInBounds_toArray, List.set_cons_zero, List.set_cons_succ]
  intro wD hD hF
  have f4 := hF 4 v4 (by simp) (fun _ _ => rfl)
  simp only [egF] at f4
  subst f4
  clear hF
  simp only [List.drop_succ_cons, List.drop_zero, List.drop_nil]
  have hzwD := hD.size
  have EwD := EwC.trans (hD.mono EwC.size)
  replace q0 := keep_cell hD q0
  replace P1 := P1.stays rLodKeeper_good (Keeps.of_below hD)
  replace F8 := F8.below hD
  replace G9 := G9.below hD
  replace o0 := keep_cell hD o0
  have B4D : Below w4.heap.size w4 wD := g5.trans ((hB.trans ((hCx.out.trans (hD.mono hCx.out.size)).mono hB.size)).mono g5.size)
  have hMK := MK.of_below (lo := wA.heap.size) B4D (Nat.le_refl _)
  go_wp2_with fail
  refine (L_markLodPlan wA.heap.size w4.heap.size x _ 1 _ (SH.out.mk (sLodKeeper_mk _ _) hMK) B4D.size ⟨by omega, by have := HW.out; omega⟩).mono ?_
  rintro _ wM ⟨⟨c, rfl, hc⟩, hM⟩
  have hcn : ¬ c < 0 := by omega
  have hMs := hM.size
  have EwM := hM.low EwD (by omega) EwD.size
  replace q0 := hM.cell (block_lt_of_cell q0) (Or.inl (by show w.heap.size < wA.heap.size; omega)) q0
  replace P1 := s1.stays rLodKeeper_good (Keeps.of_below EwM)
  have own9 : ∀ g, (Value.slice ta Z.length tc).ownBlock = some g → w5.heap.size ≤ g := fun g hg => G9.ownGe hg
  replace F8 := F8.kept (w' := wM) (fun g hg => hM.out g (by have := own8 g hg; omega) (Or.inl (own8 g hg)))
  replace G9 := G9.kept (w' := wM) (fun g hg => hM.out g (G9.ownLt hg) (Or.inr (by have := own9 g hg; omega)))
  clear D1 o0 hMK SH B4D hM
  go_wp2_with fail
  refine (L_eqLodRefS _ _ Z _ _ _ G9 F8).mono ?_
  rintro _ wN ⟨rfl, hN⟩
  have hzwN := hN.size
  have EwN := EwM.trans (hN.mono EwM.size)
  replace q0 := keep_cell hN q0
  replace P1 := P1.stays rLodKeeper_good (Keeps.of_below hN)
  replace F8 := F8.below hN
  replace G9 := G9.below hN
  go_wp2_with fail
  obtain ⟨g, hg5, hg⟩ := G9.forMark (by omega)
  refine (L_markLodRefS ta g Z.length tc 1 _ hZ6 hg ⟨by omega, by omega⟩).mono ?_
  rintro _ wO ⟨rfl, hO, hMk⟩
  have hOs := hO.size
  have hg2 : 0 < Z.length → ta = some ⟨g, 0, none⟩ ∧ g < wO.heap.size := fun h0 => ⟨(hg h0).1, Nat.lt_of_lt_of_le (hg h0).2.1 hOs⟩
  have EwO := hO.low EwN (by omega)
  replace q0 := hO.cell (block_lt_of_cell q0) (by show w.heap.size ≠ g; omega) q0
  replace P1 := s1.stays rLodKeeper_good (Keeps.of_below EwO)
  replace F8 := F8.kept (w' := wO) (fun g' hg' => hO.out g' (F8.ownLt hg') (by have := own8 g' hg'; omega))
  clear G9 hO hg
  have hz1 : (1 : Int) + 2 * (Z.length : Int) ≤ 3000 := by omega
  have hz0 : ¬ (1 : Int) + 2 * (Z.length : Int) < 0 := by omega
  have hzz : ((1 : Int) + 2 * (Z.length : Int) != (1 : Int) + 2 * (Z.length : Int)) = false := by simp
  go_wp2_with fail
  refine (L_heldLodRefS ta g Z.length tc 1 _ hZ6 hg2 hMk ⟨by omega, by omega⟩).mono ?_
  rintro _ wQ ⟨rfl, hQ⟩
  have hzwQ := hQ.size
  have EwQ := EwO.trans (hQ.mono EwO.size)
  replace q0 := keep_cell hQ q0
  replace P1 := P1.stays rLodKeeper_good (Keeps.of_below hQ)
  replace F8 := F8.below hQ
  replace hMk := hMk.below (fun h0 => (hg2 h0).2) hQ
  replace hg2 : 0 < Z.length → ta = some ⟨g, 0, none⟩ ∧ g < wQ.heap.size := fun h0 => ⟨(hg2 h0).1, Nat.lt_of_lt_of_le (hg2 h0).2 hQ.size⟩
  go_wp2_with fail
  refine (L_toLodPlan x _ _ P1 HW.out).mono ?_
  rintro _ wS ⟨⟨y1, rfl, u1⟩, hS⟩
  obtain ⟨ya, yl, yc, rfl⟩ := u1.form
  have hzwS := hS.size
  have EwS := EwQ.trans (hS.mono EwQ.size)
  replace q0 := keep_cell hS q0
  replace P1 := P1.stays rLodKeeper_good (Keeps.of_below hS)
  replace F8 := F8.below hS
  replace hMk := hMk.below (fun h0 => (hg2 h0).2) hS
  replace hg2 : 0 < Z.length → ta = some ⟨g, 0, none⟩ ∧ g < wS.heap.size := fun h0 => ⟨(hg2 h0).1, Nat.lt_of_lt_of_le (hg2 h0).2 hS.size⟩
  go_wp2_with fail
  refine (IA _ _ (u1.low rLodKeeper_good (Nat.zero_le _))).mono ?_
  rintro _ wR ⟨⟨v12, rfl, H12⟩, hR⟩
  obtain ⟨ua, uc, rfl, -, -⟩ := own_form H12
  have hzwR := hR.size
  have EwR := EwS.trans (hR.mono EwS.size)
  replace q0 := keep_cell hR q0
  replace P1 := P1.stays rLodKeeper_good (Keeps.of_below hR)
  replace F8 := F8.below hR
  replace hMk := hMk.below (fun h0 => (hg2 h0).2) hR
  replace hg2 : 0 < Z.length → ta = some ⟨g, 0, none⟩ ∧ g < wR.heap.size := fun h0 => ⟨(hg2 h0).1, Nat.lt_of_lt_of_le (hg2 h0).2 hR.size⟩
  go_wp2_with fail
  refine (L_eqLodRefS _ _ Z _ _ _ H12 F8).mono ?_
  rintro _ wT ⟨rfl, hT⟩
  have hzwT := hT.size
  have EwT := EwR.trans (hT.mono EwR.size)
  replace q0 := keep_cell hT q0
  replace P1 := P1.stays rLodKeeper_good (Keeps.of_below hT)
  replace F8 := F8.below hT
  replace hMk := hMk.below (fun h0 => (hg2 h0).2) hT
  replace hg2 : 0 < Z.length → ta = some ⟨g, 0, none⟩ ∧ g < wT.heap.size := fun h0 => ⟨(hg2 h0).1, Nat.lt_of_lt_of_le (hg2 h0).2 hT.size⟩
  go_wp2_with fail
  refine (L_heldLodRefS ta g Z.length tc 1 _ hZ6 hg2 hMk ⟨by omega, by omega⟩).mono ?_
  rintro _ wU ⟨rfl, hU⟩
  have EwU := EwT.trans (hU.mono EwT.size)
  go_wp2
  all_goals (try go_returns)
  all_goals exact HR.out _ _ ⟨rfl, EwU⟩

end Go.Proofs.YtmmlhnjmjmbfpaaGreat

/-
  The statement FnExactPlanClasses, proved. No condition beside the row's own.
-/
namespace Go.Proofs.YtmmlhnjmjmbfpaaGreat
set_option linter.unusedSimpArgs false
set_option linter.unusedVariables false
open Go.ChangeShapes Go.WideShapes Go.ChangeAt Go.RowKit Go.Joins
open Go.ChangeMaps (open_string shut_string)

set_option maxRecDepth 100000 in
theorem fnExactPlanClasses_lifted (os : Os) (started : os.Started) (H : Type) (enc : TypeId × Value → H) :
    ReturnsInHanded {} Tryz.checked os 4 .any (Rows.fnExactPlanClassesSpec.pre6 enc Tryz.prog Tryz.f4 Rows.fnExactPlanClassesRow.domain false) (Rows.fnExactPlanClassesSpec.post enc Tryz.prog Tryz.f4 false true false false) := by
  refine returnsInHanded_of_change (C := Tryz.checked) own started (by kernel_rfl) Tryz.func4
    (ChangeSpec.witness6 (enc := enc) (C := Tryz.checked) false ⟨#[], #[.agg #[.slice none 0 0]], []⟩ 8 (by kernel_rfl) (by kernel_rfl) (by kernel_rfl) (by kernel_rfl)) ?_
  intro W base args ds gs before hval0 hW hcnd _
  have hval : ∀ (j : Nat) t v, Tryz.f4.params[j]? = some t → args[j]? = some v → Value.okWide Tryz.prog W .any base t v := hval0
  have hW' := hW
  obtain ⟨p, q, hA0, hV, rfl, hfz, hnd⟩ := hW
  have hA : DataW.TrodAll enc Tryz.prog W 0 (fun _ => true) true Tryz.f4.params.toList args.toList ds p := hA0
  rw [Tryz.params4] at hA hval
  clear hA0 hval0
  obtain ⟨v0, d0, rfl, rfl, h0⟩ := trodAll_one hA
  obtain ⟨rfl, rfl⟩ := trodVars_none hV
  obtain ⟨x, cs, rfl, v1, rfl, s1⟩ := open_struct Tryz.underlying24 (reads_LodPlan enc W) (hval 0 24 v0 rfl rfl) h0
  refine (L_FnExactPlanClasses x v1 W s1).mono fun e W' h => ?_
  obtain ⟨rfl, hb⟩ := h
  exact ⟨_, rfl, law_post (s := Rows.fnExactPlanClassesSpec) hW' hb rfl rfl rfl Tryz.underlying4 (by rw [Tryz.params4]; kernel_rfl)⟩
theorem fnExactPlanClasses_holds : Rows.FnExactPlanClassesSaid :=
  OpenClaim.holds_of_wide 4 Tryz.f4 rfl rfl rfl rfl rfl rfl rfl ⟨rfl, rfl, rfl, rfl, rfl⟩ rfl rfl rfl rfl rfl (by kernel_rfl) Tryz.func4 (by kernel_rfl)
    (of_decide_eq_true (by kernel_rfl)) (by unfold Func.isWrapper; first | (rw [if_pos (by decide +kernel)]; kernel_rfl) | (rw [if_neg (by decide +kernel)]; exact ⟨rfl, rfl⟩))
    (fun os started H enc _ => fnExactPlanClasses_lifted os started H enc)

end Go.Proofs.YtmmlhnjmjmbfpaaGreat
