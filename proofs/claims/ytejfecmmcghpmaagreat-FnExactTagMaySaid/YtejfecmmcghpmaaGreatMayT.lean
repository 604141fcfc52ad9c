

/-
  The walks of TagMay, the reference's and the program's. Condition: the data can be read.
-/
import Derived.Test.YtejfecmmcghpmaaGreatMayS
namespace Go.Proofs.YtejfecmmcghpmaaGreat
set_option linter.unusedSimpArgs false
set_option linter.unusedVariables false
open Go.RowKit

set_option maxRecDepth 100000 in
set_option maxHeartbeats 8000000 in
theorem S_TagMay (x : DLodPlan) (v1 : Value) (ki : Int) (ta tb : DTagTag) (w : World) (s1 : Sl 2 rLodKeeper 0 w v1 x.fKeepers) (hna : ta.fName.size ≤ maxLen) (hnb : tb.fName.size ≤ maxLen) :
    Calls Tryz.prog 33 #[.agg #[v1], .int .i64 ki, .agg #[.int .i64 ta.fKind, .string ta.fName], .agg #[.int .i64 tb.fKind, .string tb.fName]] w fun e w' => e = .returned (.bool (tagMay x ki ta tb)) ∧ Below w.heap.size w w' := by
  obtain ⟨a, len, cap, rfl⟩ := s1.form
  obtain ⟨hl, hcap, hm⟩ := s1.len
  have m1 : len ≤ 9223372036854775807 := by unfold maxLen at hm; omega
  have HL := Lib.hid hl
  clear hl hm hcap
  have HS := Lib.hid s1
  clear s1
  obtain ⟨z, hz⟩ : ∃ z, z = tagMay x ki ta tb := ⟨_, rfl⟩
  have HZ := Lib.hid hz
  rw [← hz]
  clear hz
  have LG : ∀ (k : Int) W, Calls Tryz.prog 49 #[.int .i64 k, .int .i64 0, .int .i64 ((len : Int) - 1)] W fun e w' => e = .returned (.bool (inPlan x k)) ∧ W = w' := fun k W => Calls.val2 (S_l1In _ _ _ W) (by
    unfold inPlan
    rw [HL.out]
    rw [show (decide (k ≤ (len : Int) - 1)) = decide (k < (len : Int)) from decide_eq_decide.2 (by omega)])
  refine calls_hide fun R HR => ?_
  go_enter Tryz.func33, Tryz.ntmps33
  go_wp2_with fail
  refine (S_LodOk x _ _ (HS.out.stays rLodKeeper_good (Keeps.of_below' (B := w.heap.size) (by (repeat' (first | (with_reducible exact Below.refl _ _) | (with_reducible refine Below.alloc ?_ ?_ _) | (with_reducible refine Below.setCell ?_ ?_ _) | (with_reducible refine Below.drew ?_) | (refine below_hyp (by assumption) ?_ ?_) | go_size))) (Nat.le_refl _)))).mono ?_
  rintro _ wA ⟨rfl, hA⟩
  have hEA : Below w.heap.size w wA := by (repeat' (first | (with_reducible exact Below.refl _ _) | (with_reducible refine Below.alloc ?_ ?_ _) | (with_reducible refine Below.setCell ?_ ?_ _) | (with_reducible refine Below.drew ?_) | (refine below_hyp (by assumption) ?_ ?_) | go_size))
  have hAs := (hA).size; (try simp only [World.size_alloc, World.size_setCell, World.size_drew] at hAs)
  obtain ⟨hAac, hAad, hAao, hAaf, hAag, hAap, hAaz, hAax, hAay⟩ := bfacts (n := w.heap.size) (k := 3) hA (by go_size) (by go_size); replace hAad := hAad (by decide); replace hAag := hAag (by decide); replace hAax := hAax (by decide); have hAac1 := fun o => hAac 1 o (by decide); have hAaf1 := fun o => hAaf 1 o (by decide); have hAaz1 := hAaz 1 (by decide); have hAac2 := fun o => hAac 2 o (by decide); have hAaf2 := fun o => hAaf 2 o (by decide); have hAaz2 := hAaz 2 (by decide); clear hAac hAaf hAaz
  cases h1 : lodOk x
  · have RV : Hid (z = false) := Lib.hid (HZ.out.trans (by unfold tagMay; rw [h1]; rfl))
    clear h1
    go_wp2
    all_goals (try go_returns)
    all_goals exact HR.out _ _ ⟨by rw [RV.out]; rfl, by (repeat' (first | (with_reducible exact Below.refl _ _) | (with_reducible refine Below.alloc ?_ ?_ _) | (with_reducible refine Below.setCell ?_ ?_ _) | (with_reducible refine Below.drew ?_) | (refine below_hyp (by assumption) ?_ ?_) | go_size))⟩
  have H1 := Lib.hid h1
  clear h1
  cases h2 : inPlan x ki
  · have RV : Hid (z = false) := Lib.hid (HZ.out.trans (by unfold tagMay; rw [h2]; simp))
    go_wp2_with (go_at_call 49; refine (LG _ _).mono ?_; rintro _ _ ⟨rfl, rfl⟩; try simp only [h2])
    all_goals (try go_returns)
    all_goals exact HR.out _ _ ⟨by rw [RV.out]; rfl, by (repeat' (first | (with_reducible exact Below.refl _ _) | (with_reducible refine Below.alloc ?_ ?_ _) | (with_reducible refine Below.setCell ?_ ?_ _) | (with_reducible refine Below.drew ?_) | (refine below_hyp (by assumption) ?_ ?_) | go_size))⟩
  have hq := h2
  unfold inPlan at hq
  simp only [Bool.and_eq_true, decide_eq_true_eq] at hq
  obtain ⟨i, rfl⟩ : ∃ i : Nat, ki = (i : Int) := ⟨ki.toNat, by omega⟩
  have hi : i < x.fKeepers.length := by omega
  have HI := Lib.hid hi
  have HZ2 : Hid (z = (tagOk ta.fKind ta.fName && tagOk tb.fKind tb.fName && mayP x i ta tb)) := Lib.hid (HZ.out.trans (by unfold tagMay; rw [H1.out, h2]; simp))
  clear hq hi HZ
  go_wp2_with (go_at_call 49; refine (LG _ _).mono ?_; rintro _ _ ⟨rfl, rfl⟩; try simp only [h2])
  clear h2 LG
  refine (S_TagOk ta.fKind ta.fName _ hna).mono ?_
  rintro _ wB ⟨rfl, hB⟩
  have hEB : Below w.heap.size w wB := by (repeat' (first | (with_reducible exact Below.refl _ _) | (with_reducible refine Below.alloc ?_ ?_ _) | (with_reducible refine Below.setCell ?_ ?_ _) | (with_reducible refine Below.drew ?_) | (refine below_hyp (by assumption) ?_ ?_) | go_size))
  have hBs := (hB).size; (try simp only [World.size_alloc, World.size_setCell, World.size_drew] at hBs)
  obtain ⟨hBbc, hBbd, hBbo, hBbf, hBbg, hBbp, hBbz, hBbx, hBby⟩ := bfacts (n := w.heap.size) (k := 3) hB (by go_size) (by go_size); replace hBbd := hBbd (by decide); replace hBbg := hBbg (by decide); replace hBbx := hBbx (by decide); have hBbc1 := fun o => hBbc 1 o (by decide); have hBbf1 := fun o => hBbf 1 o (by decide); have hBbz1 := hBbz 1 (by decide); have hBbc2 := fun o => hBbc 2 o (by decide); have hBbf2 := fun o => hBbf 2 o (by decide); have hBbz2 := hBbz 2 (by decide); clear hBbc hBbf hBbz
  cases h4 : tagOk ta.fKind ta.fName
  · have RV : Hid (z = false) := Lib.hid (HZ2.out.trans (by rw [h4]; rfl))
    clear h4
    go_wp2
    all_goals (try go_returns)
    all_goals exact HR.out _ _ ⟨by rw [RV.out]; rfl, by (repeat' (first | (with_reducible exact Below.refl _ _) | (with_reducible refine Below.alloc ?_ ?_ _) | (with_reducible refine Below.setCell ?_ ?_ _) | (with_reducible refine Below.drew ?_) | (refine below_hyp (by assumption) ?_ ?_) | go_size))⟩
  have HZ3 : Hid (z = (tagOk tb.fKind tb.fName && mayP x i ta tb)) := Lib.hid (HZ2.out.trans (by rw [h4]; rfl))
  clear h4 HZ2
  go_wp2_with fail
  refine (S_TagOk tb.fKind tb.fName _ hnb).mono ?_
  rintro _ wC ⟨rfl, hC⟩
  have hEC : Below w.heap.size w wC := by (repeat' (first | (with_reducible exact Below.refl _ _) | (with_reducible refine Below.alloc ?_ ?_ _) | (with_reducible refine Below.setCell ?_ ?_ _) | (with_reducible refine Below.drew ?_) | (refine below_hyp (by assumption) ?_ ?_) | go_size))
  have hCs := (hC).size; (try simp only [World.size_alloc, World.size_setCell, World.size_drew] at hCs)
  obtain ⟨hCcc, hCcd, hCco, hCcf, hCcg, hCcp, hCcz, hCcx, hCcy⟩ := bfacts (n := w.heap.size) (k := 3) hC (by go_size) (by go_size); replace hCcd := hCcd (by decide); replace hCcg := hCcg (by decide); replace hCcx := hCcx (by decide); have hCcc1 := fun o => hCcc 1 o (by decide); have hCcf1 := fun o => hCcf 1 o (by decide); have hCcz1 := hCcz 1 (by decide); have hCcc2 := fun o => hCcc 2 o (by decide); have hCcf2 := fun o => hCcf 2 o (by decide); have hCcz2 := hCcz 2 (by decide); clear hCcc hCcf hCcz
  cases h5 : tagOk tb.fKind tb.fName
  · have RV : Hid (z = false) := Lib.hid (HZ3.out.trans (by rw [h5]; rfl))
    clear h5
    go_wp2
    all_goals (try go_returns)
    all_goals exact HR.out _ _ ⟨by rw [RV.out]; rfl, by (repeat' (first | (with_reducible exact Below.refl _ _) | (with_reducible refine Below.alloc ?_ ?_ _) | (with_reducible refine Below.setCell ?_ ?_ _) | (with_reducible refine Below.drew ?_) | (refine below_hyp (by assumption) ?_ ?_) | go_size))⟩
  have RV : Hid (z = mayP x i ta tb) := Lib.hid (HZ3.out.trans (by rw [h5]; rfl))
  clear h5 HZ3
  go_wp2_with fail
  refine (S_l5May x _ i ta tb _ (HS.out.stays rLodKeeper_good (Keeps.of_below hEC)) H1.out HI.out hna hnb).mono ?_
  rintro _ wD ⟨rfl, hD⟩
  have hDs := (hD).size; (try simp only [World.size_alloc, World.size_setCell, World.size_drew] at hDs)
  go_wp2
  all_goals (try go_returns)
  all_goals exact HR.out _ _ ⟨by rw [RV.out]; rfl, by (repeat' (first | (with_reducible exact Below.refl _ _) | (with_reducible refine Below.alloc ?_ ?_ _) | (with_reducible refine Below.setCell ?_ ?_ _) | (with_reducible refine Below.drew ?_) | (refine below_hyp (by assumption) ?_ ?_) | go_size))⟩

set_option maxRecDepth 100000 in
set_option maxHeartbeats 8000000 in
theorem I_TagMay (x : DLodPlan) (v1 : Value) (ki : Int) (ta tb : DTagTag) (w : World) (s1 : Sl 2 rLodKeeper 0 w v1 x.fKeepers) (hna : ta.fName.size ≤ maxLen) (hnb : tb.fName.size ≤ maxLen) :
    Calls Tryz.prog 35 #[.agg #[v1], .int .i64 ki, .agg #[.int .i64 ta.fKind, .string ta.fName], .agg #[.int .i64 tb.fKind, .string tb.fName]] w fun e w' => e = .returned (.bool (tagMay x ki ta tb)) ∧ Below w.heap.size w w' := by
  obtain ⟨a, len, cap, rfl⟩ := s1.form
  have HS := Lib.hid s1
  clear s1
  obtain ⟨z, hz⟩ : ∃ z, z = tagMay x ki ta tb := ⟨_, rfl⟩
  have HZ := Lib.hid hz
  rw [← hz]
  clear hz
  refine calls_hide fun R HR => ?_
  go_enter Tryz.func35, Tryz.ntmps35
  go_wp2_with fail
  refine (I_newLodge x _ _ (HS.out.stays rLodKeeper_good (Keeps.of_below' (B := w.heap.size) (by (repeat' (first | (with_reducible exact Below.refl _ _) | (with_reducible refine Below.alloc ?_ ?_ _) | (with_reducible refine Below.setCell ?_ ?_ _) | (with_reducible refine Below.drew ?_) | (refine below_hyp (by assumption) ?_ ?_) | go_size))) (Nat.le_refl _)))).mono ?_
  rintro _ wA ⟨hA, hq⟩
  have hEA : Below w.heap.size w wA := by (repeat' (first | (with_reducible exact Below.refl _ _) | (with_reducible refine Below.alloc ?_ ?_ _) | (with_reducible refine Below.setCell ?_ ?_ _) | (with_reducible refine Below.drew ?_) | (refine below_hyp (by assumption) ?_ ?_) | go_size))
  have hAs := (hA).size; (try simp only [World.size_alloc, World.size_setCell, World.size_drew] at hAs)
  obtain ⟨hAac, hAad, hAao, hAaf, hAag, hAap, hAaz, hAax, hAay⟩ := bfacts (n := w.heap.size) (k := 3) hA (by go_size) (by go_size); replace hAad := hAad (by decide); replace hAag := hAag (by decide); replace hAax := hAax (by decide); have hAac1 := fun o => hAac 1 o (by decide); have hAaf1 := fun o => hAaf 1 o (by decide); have hAaz1 := hAaz 1 (by decide); have hAac2 := fun o => hAac 2 o (by decide); have hAaf2 := fun o => hAaf 2 o (by decide); have hAaz2 := hAaz 2 (by decide); clear hAac hAaf hAaz
  rcases hq with ⟨hno, rfl⟩ | ⟨hy, L, rfl, hL⟩
  · have RV : Hid (z = false) := Lib.hid (HZ.out.trans (by unfold tagMay; rw [hno]; rfl))
    clear hno
    go_wp2
    all_goals (try go_returns)
    all_goals exact HR.out _ _ ⟨by rw [RV.out]; rfl, by (repeat' (first | (with_reducible exact Below.refl _ _) | (with_reducible refine Below.alloc ?_ ?_ _) | (with_reducible refine Below.setCell ?_ ?_ _) | (with_reducible refine Below.drew ?_) | (refine below_hyp (by assumption) ?_ ?_) | go_size))⟩
  obtain ⟨a2, len2, cap2, bo, ba, bl, n, c0, _, _, _, s2, _, _, _, _⟩ := id hL
  obtain ⟨hln, hcap, hm⟩ := s2.len
  have m2 : len2 ≤ 9223372036854775807 := by unfold maxLen at hm; omega
  have HLL := Lib.hid hL
  have H1 := Lib.hid hy
  have LG : ∀ (k : Int), Calls Tryz.prog 55 #[.pointer (some ⟨L, 0, none⟩), .int .i64 k] wA fun e w' => e = .returned (.bool (inPlan x k)) ∧ wA = w' := fun k => by
    have h := I_has L k _ len2 cap2 wA c0 m2
    rw [← hln] at h
    exact h
  clear hL hy c0 s2 hln hcap hm
  cases h2 : inPlan x ki
  · have RV : Hid (z = false) := Lib.hid (HZ.out.trans (by unfold tagMay; rw [h2]; simp))
    go_wp2_with (go_at_call 55; refine (LG _).mono ?_; rintro _ _ ⟨rfl, rfl⟩; try simp only [h2])
    all_goals (try go_returns)
    all_goals exact HR.out _ _ ⟨by rw [RV.out]; rfl, by (repeat' (first | (with_reducible exact Below.refl _ _) | (with_reducible refine Below.alloc ?_ ?_ _) | (with_reducible refine Below.setCell ?_ ?_ _) | (with_reducible refine Below.drew ?_) | (refine below_hyp (by assumption) ?_ ?_) | go_size))⟩
  have hq := h2
  unfold inPlan at hq
  simp only [Bool.and_eq_true, decide_eq_true_eq] at hq
  obtain ⟨i, rfl⟩ : ∃ i : Nat, ki = (i : Int) := ⟨ki.toNat, by omega⟩
  have hi : i < x.fKeepers.length := by omega
  have HI := Lib.hid hi
  have HZ2 : Hid (z = (tagOk ta.fKind ta.fName && tagOk tb.fKind tb.fName && mayP x i ta tb)) := Lib.hid (HZ.out.trans (by unfold tagMay; rw [H1.out, h2]; simp))
  clear hq hi HZ
  go_wp2_with (go_at_call 55; refine (LG _).mono ?_; rintro _ _ ⟨rfl, rfl⟩; try simp only [h2])
  clear h2 LG
  refine (I_TagOk ta.fKind ta.fName _ hna).mono ?_
  rintro _ wB ⟨rfl, hB⟩
  have hEB : Below w.heap.size w wB := by (repeat' (first | (with_reducible exact Below.refl _ _) | (with_reducible refine Below.alloc ?_ ?_ _) | (with_reducible refine Below.setCell ?_ ?_ _) | (with_reducible refine Below.drew ?_) | (refine below_hyp (by assumption) ?_ ?_) | go_size))
  have hBs := (hB).size; (try simp only [World.size_alloc, World.size_setCell, World.size_drew] at hBs)
  obtain ⟨hBbc, hBbd, hBbo, hBbf, hBbg, hBbp, hBbz, hBbx, hBby⟩ := bfacts (n := w.heap.size) (k := 3) hB (by go_size) (by go_size); replace hBbd := hBbd (by decide); replace hBbg := hBbg (by decide); replace hBbx := hBbx (by decide); have hBbc1 := fun o => hBbc 1 o (by decide); have hBbf1 := fun o => hBbf 1 o (by decide); have hBbz1 := hBbz 1 (by decide); have hBbc2 := fun o => hBbc 2 o (by decide); have hBbf2 := fun o => hBbf 2 o (by decide); have hBbz2 := hBbz 2 (by decide); clear hBbc hBbf hBbz
  cases h4 : tagOk ta.fKind ta.fName
  · have RV : Hid (z = false) := Lib.hid (HZ2.out.trans (by rw [h4]; rfl))
    clear h4
    go_wp2
    all_goals (try go_returns)
    all_goals exact HR.out _ _ ⟨by rw [RV.out]; rfl, by (repeat' (first | (with_reducible exact Below.refl _ _) | (with_reducible refine Below.alloc ?_ ?_ _) | (with_reducible refine Below.setCell ?_ ?_ _) | (with_reducible refine Below.drew ?_) | (refine below_hyp (by assumption) ?_ ?_) | go_size))⟩
  have HZ3 : Hid (z = (tagOk tb.fKind tb.fName && mayP x i ta tb)) := Lib.hid (HZ2.out.trans (by rw [h4]; rfl))
  clear h4 HZ2
  go_wp2_with fail
  refine (I_TagOk tb.fKind tb.fName _ hnb).mono ?_
  rintro _ wC ⟨rfl, hC⟩
  have hEC : Below w.heap.size w wC := by (repeat' (first | (with_reducible exact Below.refl _ _) | (with_reducible refine Below.alloc ?_ ?_ _) | (with_reducible refine Below.setCell ?_ ?_ _) | (with_reducible refine Below.drew ?_) | (refine below_hyp (by assumption) ?_ ?_) | go_size))
  have hCs := (hC).size; (try simp only [World.size_alloc, World.size_setCell, World.size_drew] at hCs)
  obtain ⟨hCcc, hCcd, hCco, hCcf, hCcg, hCcp, hCcz, hCcx, hCcy⟩ := bfacts (n := w.heap.size) (k := 3) hC (by go_size) (by go_size); replace hCcd := hCcd (by decide); replace hCcg := hCcg (by decide); replace hCcx := hCcx (by decide); have hCcc1 := fun o => hCcc 1 o (by decide); have hCcf1 := fun o => hCcf 1 o (by decide); have hCcz1 := hCcz 1 (by decide); have hCcc2 := fun o => hCcc 2 o (by decide); have hCcf2 := fun o => hCcf 2 o (by decide); have hCcz2 := hCcz 2 (by decide); clear hCcc hCcf hCcz
  cases h5 : tagOk tb.fKind tb.fName
  · have RV : Hid (z = false) := Lib.hid (HZ3.out.trans (by rw [h5]; rfl))
    clear h5
    go_wp2
    all_goals (try go_returns)
    all_goals exact HR.out _ _ ⟨by rw [RV.out]; rfl, by (repeat' (first | (with_reducible exact Below.refl _ _) | (with_reducible refine Below.alloc ?_ ?_ _) | (with_reducible refine Below.setCell ?_ ?_ _) | (with_reducible refine Below.drew ?_) | (refine below_hyp (by assumption) ?_ ?_) | go_size))⟩
  have RV : Hid (z = mayP x i ta tb) := Lib.hid (HZ3.out.trans (by rw [h5]; rfl))
  clear h5 HZ3
  go_wp2_with fail
  refine (I_may x L i ta tb _ (HLL.out.below (hB.trans (hC.mono hB.size))) H1.out HI.out hna hnb).mono ?_
  rintro _ wD ⟨rfl, hD⟩
  have hDs := (hD).size; (try simp only [World.size_alloc, World.size_setCell, World.size_drew] at hDs)
  go_wp2
  all_goals (try go_returns)
  all_goals exact HR.out _ _ ⟨by rw [RV.out]; rfl, by (repeat' (first | (with_reducible exact Below.refl _ _) | (with_reducible refine Below.alloc ?_ ?_ _) | (with_reducible refine Below.setCell ?_ ?_ _) | (with_reducible refine Below.drew ?_) | (refine below_hyp (by assumption) ?_ ?_) | go_size))⟩

end Go.Proofs.YtejfecmmcghpmaaGreat
