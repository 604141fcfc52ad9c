/-
  Texts of mine, packed: LawLT, RowLT. No condition beside those of the single theorems.
-/
import Derived.Test.YtfbonocadpknbaaGreatDoorK50
import Derived.Test.YtfbonocadpknbaaGreatDoorK15
import Derived.Test.YtfbonocadpknbaaGreatDoorCards
import Derived.Test.YtfbonocadpknbaaGreatDoorTie
import Derived.ProofKit
import Derived.LaidMore
import Derived.Stop.LaidErr
import Derived.Lib.LaidTab
import Derived.OpenShut
import Derived.Stop.Joined
import Derived.SevenTiedAt
set_option linter.unusedSimpArgs false
set_option linter.unusedVariables false
set_option maxHeartbeats 16000000
set_option maxRecDepth 100000
namespace Go.Proofs.YtfbonocadpknbaaGreatDoor
open Go.RowKit
def ltF (pl : DLodPlan) (fa : Option Addr) (fl fc : Nat)  : Nat → Value → World → Prop
 | 0, v, w => v = .agg #[.slice fa fl fc]
 | 1, v, w => Sl 1 rStr 0 w v (planLines pl)
 | 2, v, w => v = .agg #[.slice fa fl fc]
 | 3, v, w => Sl 1 rStr 0 w v (planLines pl)
 | 4, v, w => v = .bool true
 | 5, v, w => v = .bool false
 | _, _, _ => True
theorem ltF_stays {pl : DLodPlan} {fa : Option Addr} {fl fc : Nat}  : ∀ i j u w w', i ≠ j → Below w.heap.size w w' → ltF pl fa fl fc i u w → ltF pl fa fl fc i u w' := by
 intro i j u w w' hne hg h
 match i with
 | 0 | 2 | 4 | 5 => exact h
 | 1 =>
   exact Sl.stays rStr_good h (Keeps.of_below hg)
 | 3 =>
   exact Sl.stays rStr_good h (Keeps.of_below hg)
 | n + 6 => trivial
def luF (pl ql : DLodPlan) (fa : Option Addr) (fl fc : Nat) (ga : Option Addr) (gl gc : Nat)  : Nat → Value → World → Prop
 | 0, v, w => v = .agg #[.slice fa fl fc]
 | 1, v, w => v = .agg #[.slice ga gl gc]
 | 2, v, w => v = .bool (planEq pl ql)
 | 3, v, w => v = .agg #[.slice fa fl fc]
 | 4, v, w => Sl 1 rStr 0 w v (planLines pl)
 | 5, v, w => v = .agg #[.slice ga gl gc]
 | 6, v, w => Sl 1 rStr 0 w v (planLines ql)
 | 7, v, w => v = .bool (eqL sameN (planLines pl) (planLines ql))
 | 8, v, w => v = .bool true
 | 9, v, w => v = .bool true
 | _, _, _ => True
theorem luF_stays {pl ql : DLodPlan} {fa : Option Addr} {fl fc : Nat} {ga : Option Addr} {gl gc : Nat}  : ∀ i j u w w', i ≠ j → Below w.heap.size w w' → luF pl ql fa fl fc ga gl gc i u w → luF pl ql fa fl fc ga gl gc i u w' := by
 intro i j u w w' hne hg h
 match i with
 | 0 | 1 | 2 | 3 | 5 | 7 | 8 | 9 => exact h
 | 4 =>
   exact Sl.stays rStr_good h (Keeps.of_below hg)
 | 6 =>
   exact Sl.stays rStr_good h (Keeps.of_below hg)
 | n + 10 => trivial

theorem L_FnLodText (v v2 : Value) (w : World) (hv : Bytes w v) (hv2 : Bytes w v2) (htab : Tab w) :
  Calls Tryz.prog 3 #[v, v2] w fun e w' => e = .returned (.bool true) ∧ Below w.heap.size w w' := by
 obtain ⟨c, len, cap, rfl, g1, g2, g3⟩ := id hv
 obtain ⟨c2, len2, cap2, rfl, g4, g5, g6⟩ := id hv2
 have m1 : len ≤ 9223372036854775807 := by unfold maxLen at g2; omega
 have m2 : len2 ≤ 9223372036854775807 := by unfold maxLen at g5; omega
 have TB := qhd htab
 have HV2 := qhd hv2
 clear g2 g3 g5 g6 htab hv2
 refine qac fun R HR => ?_
 go_enter Tryz.func3, Tryz.ntmps3
 go_wp2_with fail
 all_goals first
  | (try go_returns
     exact HR.out _ _ ⟨rfl, bbel⟩)
  | skip
 refine (S_DrawLodPrint _ _ hv).mono ?_
 rintro _ w1 ⟨⟨pv, pl, rfl, hs⟩, h1⟩
 have h1s := (h1).size; (try simp only [qsz] at h1s)
 obtain ⟨fa, fl, fc, rfl⟩ := hs.form
 go_wp2_with fail
 refine nameV (P := fun W => Calls Tryz.prog 5 #[_] W _) _ (fun w2 hw2 => ?_)
 have h2 : Below w1.heap.size w1 w2 := by rw [hw2]; exact (Below.refl _ _).alloc (Nat.le_refl _) _
 have k0 : w2.cell? ⟨w1.heap.size, 0, none⟩ = some (.slice fa fl fc) := by rw [hw2]; go_simp
 have hB2 : Below w.heap.size w w2 := h1.trans (h2.mono h1.size)
 have hs2 : Sl 2 rLodKeeper 0 w2 (.slice fa fl fc) pl.fKeepers := hs.stays rLodKeeper_good (Keeps.of_below h2)
 have l0 := block_lt_of_cell k0
 clear hw2 hs h2 h1
 refine (S_DrawLodPrint _ _ (bytes_below hB2 HV2.out)).mono ?_
 rintro _ w3 ⟨⟨qv, ql, rfl, ht⟩, h3⟩
 have h3s := (h3).size; (try simp only [qsz] at h3s)
 obtain ⟨ga, gl, gc, rfl⟩ := ht.form
 have hs3 : Sl 2 rLodKeeper 0 w3 (.slice fa fl fc) pl.fKeepers := hs2.stays rLodKeeper_good (Keeps.of_below h3)
 replace k0 := qad h3 k0
 have hB3 : Below w.heap.size w w3 := hB2.trans (h3.mono hB2.size)
 have l03 := block_lt_of_cell k0
 clear h3 hs2 hB2
 go_wp2_with fail
 obtain ⟨w4, hw4⟩ : ∃ w4, w4 = w3.alloc (.cells #[.slice ga gl gc] 25) := ⟨_, rfl⟩
 rw [← hw4]
 have h4 : Below w3.heap.size w3 w4 := by rw [hw4]; exact (Below.refl _ _).alloc (Nat.le_refl _) _
 have k1 : w4.cell? ⟨w3.heap.size, 0, none⟩ = some (.slice ga gl gc) := by rw [hw4]; go_simp
 replace k0 := qad h4 k0
 have hs4 : Sl 2 rLodKeeper 0 w4 (.slice fa fl fc) pl.fKeepers := hs3.stays rLodKeeper_good (Keeps.of_below h4)
 have ht4 : Sl 2 rLodKeeper 0 w4 (.slice ga gl gc) ql.fKeepers := ht.stays rLodKeeper_good (Keeps.of_below h4)
 have hB4 : Below w.heap.size w w4 := hB3.trans (h4.mono hB3.size)
 have T4 : Hid (Tab w4) := qhd (TB.out.below hB4)
 clear hw4 hs3 ht h4 hB3
 have CIP : ∀ W, Below w4.heap.size w4 W → Calls Tryz.prog 7 #[.agg #[.slice fa fl fc]] W fun e w' => (∃ v, e = .returned v ∧ TOwn 1 rStr 9 (W.heap.size + 1) (W.heap.size + 1) w' v (planLines pl)) ∧ Below W.heap.size W w' := fun W hW => I_LodPrint pl _ W (hs4.stays rLodKeeper_good (Keeps.of_below hW)) (T4.out.below hW)
 have CSP : ∀ W, Below w4.heap.size w4 W → Calls Tryz.prog 8 #[.agg #[.slice fa fl fc]] W fun e w' => (∃ v, e = .returned v ∧ TOwn 1 rStr 9 (W.heap.size + 1) (W.heap.size + 1) w' v (planLines pl)) ∧ Below W.heap.size W w' := fun W hW => S_LodPrint pl _ W (hs4.stays rLodKeeper_good (Keeps.of_below hW))
 refine qaq 6 (Below w4.heap.size w4) (fun _ w1 w2 => Below w1.heap.size w1 w2) (fun _ => ltF pl fa fl fc) (fun _ _ => True) noDeadP (by kernel_rfl) (by decide) (by kernel_rfl) (Or.inl rfl) (by kernel_rfl) ((Below.refl _ _).drew) (fun _ _ _ _ _ _ _ _ _ h => h) noDeadP_dead (fun _ => trivial) (fun _ _ _ _ _ _ _ _ => trivial) (fun _ i j u w1 w2 hne _ _ hg hF => ltF_stays i j u w1 w2 hne hg hF) (fun _ _ _ => Below.refl _ _) ?_
 refine qaa (d := 19) rfl rfl (fun wx hC hI hd S0 hS => ?_) (fun v0 => ?_)
 ·have c0 := qad hC k0
  have HSS := qhd hS; clear hS hd hI
  go_simp
  exact HSS.out _ _ hC (Below.refl _ _) (by simp [ltF])
 simp only [qnr]
 refine qaa (d := 20) rfl rfl (fun wx hC hI hd S0 hS => ?_) (fun v1 => ?_)
 ·have d0 := hd ⟨0, .data⟩ (by simp) rfl v0 (by simp)
  simp only [ltF] at d0
  subst d0
  have HSS := qhd hS; clear hS hd hI
  go_simp
  refine (CIP _ hC).mono ?_
  rintro _ w' ⟨⟨u, rfl, hu⟩, hX⟩
  exact HSS.out _ _ (hC.trans (hX.mono hC.size)) hX (by (simp only [qls, Nat.reduceAdd, ltF]); exact hu.str0)
 simp only [qnr]
 refine qaa (d := 21) rfl rfl (fun wx hC hI hd S0 hS => ?_) (fun v2 => ?_)
 ·have c0 := qad hC k0
  have HSS := qhd hS; clear hS hd hI
  go_simp
  exact HSS.out _ _ hC (Below.refl _ _) (by simp [ltF])
 simp only [qnr]
 refine qaa (d := 22) rfl rfl (fun wx hC hI hd S0 hS => ?_) (fun v3 => ?_)
 ·have d2 := hd ⟨2, .data⟩ (by simp) rfl v2 (by simp)
  simp only [ltF] at d2
  subst d2
  have HSS := qhd hS; clear hS hd hI
  go_simp
  refine (CSP _ hC).mono ?_
  rintro _ w' ⟨⟨u, rfl, hu⟩, hX⟩
  exact HSS.out _ _ (hC.trans (hX.mono hC.size)) hX (by (simp only [qls, Nat.reduceAdd, ltF]); exact hu.str0)
 simp only [qnr]
 refine qaa (d := 23) rfl rfl (fun wx hC hI hd S0 hS => ?_) (fun v4 => ?_)
 ·have d1 := hd ⟨1, .data⟩ (by simp) rfl v1 (by simp)
  simp only [ltF] at d1
  have d3 := hd ⟨3, .data⟩ (by simp) rfl v3 (by simp)
  simp only [ltF] at d3
  have HSS := qhd hS; clear hS hd hI
  go_simp
  refine (L_loTexts (planLines pl) (planLines pl) _ _ _ d1 d3).mono ?_
  rintro _ w' ⟨rfl, hX⟩
  exact HSS.out _ _ (hC.trans (hX.mono hC.size)) hX (by (simp only [qls, Nat.reduceAdd, ltF]); rw [eqT_self])
 simp only [qnr]
 refine qaa (d := 24) rfl rfl (fun wx hC hI hd S0 hS => ?_) (fun v5 => ?_)
 ·have d4 := hd ⟨4, .data⟩ (by simp) rfl v4 (by simp)
  simp only [ltF] at d4
  subst d4
  have HSS := qhd hS; clear hS hd hI
  go_simp
  exact HSS.out _ _ hC (Below.refl _ _) (by simp [ltF])
 simp only [qnr]
 intro w5 hC hF
 have f5 := hF 5 v5 (by simp) (fun _ _ => rfl)
 simp only [ltF] at f5
 subst f5
 replace k0 := qad hC k0
 replace k1 := qad hC k1
 have hs5 : Sl 2 rLodKeeper 0 w5 (.slice fa fl fc) pl.fKeepers := hs4.stays rLodKeeper_good (Keeps.of_below hC)
 have ht5 : Sl 2 rLodKeeper 0 w5 (.slice ga gl gc) ql.fKeepers := ht4.stays rLodKeeper_good (Keeps.of_below hC)
 have hB5 : Below w.heap.size w w5 := hB4.trans (hC.mono hB4.size)
 have l05 := block_lt_of_cell k0
 have l15 := block_lt_of_cell k1
 clear hF hC CIP CSP hs4 ht4 hB4
 simp only [List.drop_succ_cons, List.drop_zero, List.drop_nil]
 go_wp2_with fail
 refine (S_LodOk pl _ _ hs5).mono ?_
 rintro _ w6 ⟨rfl, h6⟩
 have h6s := h6.size
 replace k0 := qad h6 k0
 replace k1 := qad h6 k1
 have hs6 : Sl 2 rLodKeeper 0 w6 (.slice fa fl fc) pl.fKeepers := hs5.stays rLodKeeper_good (Keeps.of_below h6)
 have ht6 : Sl 2 rLodKeeper 0 w6 (.slice ga gl gc) ql.fKeepers := ht5.stays rLodKeeper_good (Keeps.of_below h6)
 have hB6 : Below w.heap.size w w6 := hB5.trans (h6.mono hB5.size)
 have l06 := block_lt_of_cell k0
 have l16 := block_lt_of_cell k1
 clear h6 hs5 ht5 hB5
 cases hok : lodOk pl
 ·clear hok
  go_wp2_with (go_at_call 10; refine (L_loOkT _).mono ?_; rintro _ w9 ⟨rfl, h9⟩)
  all_goals (try go_returns)
  all_goals exact HR.out _ _ ⟨rfl, bbel⟩
 have HOK := qhd hok
 clear hok
 go_wp2_with fail
 refine (S_LodOk ql _ _ ht6).mono ?_
 rintro _ w7 ⟨rfl, h7⟩
 have h7s := h7.size
 replace k0 := qad h7 k0
 replace k1 := qad h7 k1
 have hs7 : Sl 2 rLodKeeper 0 w7 (.slice fa fl fc) pl.fKeepers := hs6.stays rLodKeeper_good (Keeps.of_below h7)
 have ht7 : Sl 2 rLodKeeper 0 w7 (.slice ga gl gc) ql.fKeepers := ht6.stays rLodKeeper_good (Keeps.of_below h7)
 have hB7 : Below w.heap.size w w7 := hB6.trans (h7.mono hB6.size)
 have l07 := block_lt_of_cell k0
 have l17 := block_lt_of_cell k1
 clear h7 hs6 ht6 hB6
 cases hok : lodOk ql
 ·clear hok
  go_wp2_with (go_at_call 10; refine (L_loOkT _).mono ?_; rintro _ w9 ⟨rfl, h9⟩)
  all_goals (try go_returns)
  all_goals exact HR.out _ _ ⟨rfl, bbel⟩
 have HQE : Hid ((planEq pl ql == eqL sameN (planLines pl) (planLines ql)) = true) := qhd (by
  have h8 : planEq pl ql = eqL sameN (planLines pl) (planLines ql) := by
   rw [Bool.eq_iff_iff, planEq_iff, eqT_iff, plain_lines HOK.out hok]
  rw [h8]; simp)
 clear hok
 have T7 : Hid (Tab w7) := qhd (TB.out.below hB7)
 have SP : ∀ W, Below w7.heap.size w7 W → Sl 2 rLodKeeper 0 W (.slice fa fl fc) pl.fKeepers := fun W hW => hs7.stays rLodKeeper_good (Keeps.of_below hW)
 have SQ : ∀ W, Below w7.heap.size w7 W → Sl 2 rLodKeeper 0 W (.slice ga gl gc) ql.fKeepers := fun W hW => ht7.stays rLodKeeper_good (Keeps.of_below hW)
 have CIP : ∀ W, Below w7.heap.size w7 W → Calls Tryz.prog 7 #[.agg #[.slice fa fl fc]] W fun e w' => (∃ v, e = .returned v ∧ TOwn 1 rStr 9 (W.heap.size + 1) (W.heap.size + 1) w' v (planLines pl)) ∧ Below W.heap.size W w' := fun W hW => I_LodPrint pl _ W (SP W hW) (T7.out.below hW)
 have CIQ : ∀ W, Below w7.heap.size w7 W → Calls Tryz.prog 7 #[.agg #[.slice ga gl gc]] W fun e w' => (∃ v, e = .returned v ∧ TOwn 1 rStr 9 (W.heap.size + 1) (W.heap.size + 1) w' v (planLines ql)) ∧ Below W.heap.size W w' := fun W hW => I_LodPrint ql _ W (SQ W hW) (T7.out.below hW)
 go_wp2_with fail
 refine qaq 10 (Below w7.heap.size w7) (fun _ w1 w2 => Below w1.heap.size w1 w2) (fun _ => luF pl ql fa fl fc ga gl gc) (fun _ _ => True) noDeadP (by kernel_rfl) (by decide) (by kernel_rfl) (Or.inl rfl) (by kernel_rfl) ((Below.refl _ _).drew) (fun _ _ _ _ _ _ _ _ _ h => h) noDeadP_dead (fun _ => trivial) (fun _ _ _ _ _ _ _ _ => trivial) (fun _ i j u w1 w2 hne _ _ hg hF => luF_stays i j u w1 w2 hne hg hF) (fun _ _ _ => Below.refl _ _) ?_
 refine qaa (d := 34) rfl rfl (fun wx hC hI hd S0 hS => ?_) (fun v0 => ?_)
 ·have c0 := qad hC k0
  have HSS := qhd hS; clear hS hd hI
  go_simp
  exact HSS.out _ _ hC (Below.refl _ _) (by simp [luF])
 simp only [qnr]
 refine qaa (d := 35) rfl rfl (fun wx hC hI hd S0 hS => ?_) (fun v1 => ?_)
 ·have c1 := qad hC k1
  have HSS := qhd hS; clear hS hd hI
  go_simp
  exact HSS.out _ _ hC (Below.refl _ _) (by simp [luF])
 simp only [qnr]
 refine qaa (d := 36) rfl rfl (fun wx hC hI hd S0 hS => ?_) (fun v2 => ?_)
 ·have d0 := hd ⟨0, .data⟩ (by simp) rfl v0 (by simp)
  simp only [luF] at d0
  subst d0
  have d1 := hd ⟨1, .data⟩ (by simp) rfl v1 (by simp)
  simp only [luF] at d1
  subst d1
  have HSS := qhd hS; clear hS hd hI
  go_simp
  refine (L_loPlan pl ql _ _ _ (SP _ hC) (SQ _ hC)).mono ?_
  rintro _ w' ⟨rfl, hX⟩
  exact HSS.out _ _ (hC.trans (hX.mono hC.size)) hX (by simp [luF])
 simp only [qnr]
 refine qaa (d := 37) rfl rfl (fun wx hC hI hd S0 hS => ?_) (fun v3 => ?_)
 ·have c0 := qad hC k0
  have HSS := qhd hS; clear hS hd hI
  go_simp
  exact HSS.out _ _ hC (Below.refl _ _) (by simp [luF])
 simp only [qnr]
 refine qaa (d := 38) rfl rfl (fun wx hC hI hd S0 hS => ?_) (fun v4 => ?_)
 ·have d3 := hd ⟨3, .data⟩ (by simp) rfl v3 (by simp)
  simp only [luF] at d3
  subst d3
  have HSS := qhd hS; clear hS hd hI
  go_simp
  refine (CIP _ hC).mono ?_
  rintro _ w' ⟨⟨u, rfl, hu⟩, hX⟩
  exact HSS.out _ _ (hC.trans (hX.mono hC.size)) hX (by (simp only [qls, Nat.reduceAdd, luF]); exact hu.str0)
 simp only [qnr]
 refine qaa (d := 39) rfl rfl (fun wx hC hI hd S0 hS => ?_) (fun v5 => ?_)
 ·have c1 := qad hC k1
  have HSS := qhd hS; clear hS hd hI
  go_simp
  exact HSS.out _ _ hC (Below.refl _ _) (by simp [luF])
 simp only [qnr]
 refine qaa (d := 40) rfl rfl (fun wx hC hI hd S0 hS => ?_) (fun v6 => ?_)
 ·have d5 := hd ⟨5, .data⟩ (by simp) rfl v5 (by simp)
  simp only [luF] at d5
  subst d5
  have HSS := qhd hS; clear hS hd hI
  go_simp
  refine (CIQ _ hC).mono ?_
  rintro _ w' ⟨⟨u, rfl, hu⟩, hX⟩
  exact HSS.out _ _ (hC.trans (hX.mono hC.size)) hX (by (simp only [qls, Nat.reduceAdd, luF]); exact hu.str0)
 simp only [qnr]
 refine qaa (d := 41) rfl rfl (fun wx hC hI hd S0 hS => ?_) (fun v7 => ?_)
 ·have d4 := hd ⟨4, .data⟩ (by simp) rfl v4 (by simp)
  simp only [luF] at d4
  have d6 := hd ⟨6, .data⟩ (by simp) rfl v6 (by simp)
  simp only [luF] at d6
  have HSS := qhd hS; clear hS hd hI
  go_simp
  refine (L_loTexts (planLines pl) (planLines ql) _ _ _ d4 d6).mono ?_
  rintro _ w' ⟨rfl, hX⟩
  exact HSS.out _ _ (hC.trans (hX.mono hC.size)) hX (by (simp only [qls, Nat.reduceAdd, luF]))
 simp only [qnr]
 refine qaa (d := 42) rfl rfl (fun wx hC hI hd S0 hS => ?_) (fun v8 => ?_)
 ·have d2 := hd ⟨2, .data⟩ (by simp) rfl v2 (by simp)
  simp only [luF] at d2
  subst d2
  have d7 := hd ⟨7, .data⟩ (by simp) rfl v7 (by simp)
  simp only [luF] at d7
  subst d7
  have hQE := HQE.out
  have HSS := qhd hS; clear hS hd hI
  go_simp
  exact HSS.out _ _ hC (Below.refl _ _) (by simp [luF])
 simp only [qnr]
 refine qaa (d := 4) rfl rfl (fun wx hC hI hd S0 hS => ?_) (fun v9 => ?_)
 ·have d8 := hd ⟨8, .data⟩ (by simp) rfl v8 (by simp)
  simp only [luF] at d8
  subst d8
  have HSS := qhd hS; clear hS hd hI
  go_simp
  exact HSS.out _ _ hC (Below.refl _ _) (by simp [luF])
 simp only [qnr]
 intro w8 hC hF
 have f9 := hF 9 v9 (by simp) (fun _ _ => rfl)
 simp only [luF] at f9
 subst f9
 have hB8 : Below w.heap.size w w8 := hB7.trans (hC.mono hB7.size)
 clear hF hC CIP CIQ SP SQ
 simp only [List.drop_succ_cons, List.drop_zero, List.drop_nil]
 go_wp2
 all_goals (try go_returns)
 all_goals exact HR.out _ _ ⟨rfl, hB8⟩

end Go.Proofs.YtfbonocadpknbaaGreatDoor
namespace Go.Proofs.YtfbonocadpknbaaGreatDoor
open Go.ChangeShapes Go.WideShapes Go.ChangeAt Go.RowKit Go.Joins
open Go.ChangeMaps (open_string shut_string)
theorem door_met (os : Os) (args : Array Value) : laidMetH Tryz.prog Rows.fnLodTextRow.laid ((World.doorLaid Tryz.prog 400 os).forCall (fun _ _ => 0) ⟨#[], args, []⟩).memory :=
 laidMetH_of_parts3 (fuel := 8) (laidMet_of_run' 8 (by kernel_rfl) (by kernel_rfl)) (by kernel_rfl) (by kernel_rfl)

theorem tab_of_laid {W : World} (h : laidMetH Tryz.prog Rows.fnLodTextRow.laid W) : Tab W := by
 rw [MakeChecks.laidMetH_plain _ _ _ (by kernel_rfl)] at h
 have h3 : laidMet Tryz.prog [("internal/strconv.uint64pow10", Lib.tabData .u64 Lib.pow10Tab)] W := laidMet.tail (laidMet.tail h)
 exact Lib.tabIs_of_head (g := 0) (t := 151) (e := 126) (n := 20) (by kernel_rfl) (by kernel_rfl) (by kernel_rfl) (by kernel_rfl) (by kernel_rfl) (by kernel_rfl) h3

theorem cells_u8 : Tryz.prog.cellsOf 5 = 1 := by kernel_rfl

theorem lifted (os : Os) (started : os.Started) (H : Type) (enc : TypeId × Value → H) :
  ReturnsInHanded {} Tryz.checked os 3 .any (fun w args => (Rows.fnLodTextSpec.pre enc Tryz.prog Tryz.f3 [] false w args ∧ laidMetH Tryz.prog Rows.fnLodTextRow.laid w) ∧ sizedMet enc Tryz.prog Tryz.f3 (OpenSpec.ofChange Rows.fnLodTextSpec) false w args)
   (Rows.fnLodTextSpec.post enc Tryz.prog Tryz.f3 false true false false) := by
 refine returnsInHanded_of_change_and (C := Tryz.checked) (X := fun w _ => laidMetH Tryz.prog Rows.fnLodTextRow.laid w) (fun _ _ _ hh h => h.of_heap hh) own started (by kernel_rfl) Tryz.func3
  (ChangeSpec.witness_shaped (enc := enc) (C := Tryz.checked) (os := os) (X := fun w _ => laidMetH Tryz.prog Rows.fnLodTextRow.laid w) false (World.doorLaid Tryz.prog 400 os) #[.slice none 0 0, .slice none 0 0] 8 rfl (World.shaped_of_RefB (by kernel_rfl) (by kernel_rfl)) (by kernel_rfl) (by kernel_rfl) (by kernel_rfl) (door_met os _)) ?_
 intro W base args ds gs before hval0 hW _ _ hL _
 have hval : ∀ (j : Nat) t v, Tryz.f3.params[j]? = some t → args[j]? = some v → Value.okWide Tryz.prog W .any base t v := hval0
 have hW' := hW
 obtain ⟨p, q, hA0, hV, rfl, hfz, hnd⟩ := hW
 have hA : DataW.TrodAll enc Tryz.prog W 0 (fun _ => true) true Tryz.f3.params.toList args.toList ds p := hA0
 rw [Tryz.params3] at hA hval
 clear hA0 hval0
 obtain ⟨v0, v1, d0, d1, p0, p1, rfl, rfl, rfl, h0, h1⟩ := trodAll_two hA
 obtain ⟨rfl, rfl⟩ := trodVars_none hV
 have b0 := open_bytes Tryz.underlying22 Tryz.underlying5 cells_u8 (hval 0 22 v0 rfl rfl) h0
 have b1 := open_bytes Tryz.underlying22 Tryz.underlying5 cells_u8 (hval 1 22 v1 rfl rfl) h1
 refine (L_FnLodText v0 v1 W b0 b1 (tab_of_laid hL)).mono fun e W' h => ?_
 obtain ⟨rfl, hb⟩ := h
 exact ⟨_, rfl, law_post (s := Rows.fnLodTextSpec) hW' hb rfl rfl rfl Tryz.underlying4 (by rw [Tryz.params3]; kernel_rfl)⟩

theorem fnLodText_row : Rows.FnLodTextSaid :=
 OpenClaim.holds_of_wide 3 Tryz.f3 rfl rfl rfl rfl rfl rfl rfl ⟨rfl, rfl, rfl, rfl, rfl⟩ rfl rfl rfl rfl rfl (by kernel_rfl) Tryz.func3 (by kernel_rfl)
  (of_decide_eq_true (by kernel_rfl)) (by unfold Func.isWrapper; first | (rw [if_pos (by decide +kernel)]; kernel_rfl) | (rw [if_neg (by decide +kernel)]; exact ⟨rfl, rfl⟩))
  (fun os started H enc _ => lifted os started H enc)

theorem fnLodTextCard_holds : Rows.FnLodTextCardSaid :=
 Claim7.holds_tied_plain_at .later [] [.data, .data, .data] true (true, "dbd43149c1f0945c13ac54857c2fac3026f3765a31ac738095234ea220416025") true
  fnLodText_row (fun _ h => by cases h) (by kernel_rfl) (fun _ h => by cases h) fnLodText_row_tie rfl ⟨rfl, rfl⟩ (by kernel_rfl) rfl
  (fun f fn hf hfn => by
   obtain rfl : f = 3 := Option.some.inj ((show Tryz.prog.funcNamed "loop.example/lodgekeeper/laws.FnLodText" = some 3 by kernel_rfl).symm.trans hf) |>.symm
   obtain rfl : fn = Tryz.f3 := (Option.some.inj (Tryz.func3.symm.trans hfn)).symm
   exact ⟨by kernel_rfl, fun j t ht => by
    rw [Tryz.params3] at ht
    have hm : t ∈ [22, 22] := by simpa using Array.mem_of_getElem? ht
    have hall : ([22, 22].all fun u => !Tryz.prog.wantsStandIn u) = true := by kernel_rfl
    exact (show Tryz.prog.wantsStandIn t = false by simpa using List.all_eq_true.1 hall t hm)⟩)
  (by kernel_rfl)

end Go.Proofs.YtfbonocadpknbaaGreatDoor
