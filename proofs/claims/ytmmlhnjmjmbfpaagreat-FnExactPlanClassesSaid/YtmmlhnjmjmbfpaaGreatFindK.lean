

/-
  The walks of LodFind, the reference's and the program's. Condition: the data can be read.
-/
import Derived.Test.YtmmlhnjmjmbfpaaGreatFindJ
namespace Go.Proofs.YtmmlhnjmjmbfpaaGreat
set_option linter.unusedSimpArgs false
set_option linter.unusedVariables false
open Go.RowKit

theorem lodFind_findK {p : DLodPlan} (h : lodOk p = true) (k : Int) (nm : ByteArray) : lodFind p k nm = findK p k nm := by
  unfold lodFind findK
  rw [h]
  cases inPlan p k
  · simp
  · cases hn : namOk nm
    · simp [findR, name_whose h hn]
    · simp
theorem lodFind_no {p : DLodPlan} (h : lodOk p = false) (k : Int) (nm : ByteArray) : lodFind p k nm = (noRef, 2) := by
  unfold lodFind; rw [h]; simp


set_option maxRecDepth 100000 in
set_option maxHeartbeats 8000000 in
theorem S_LodFind (x : DLodPlan) (v1 : Value) (k : Int) (nm : ByteArray) (w : World) (s1 : Sl 2 rLodKeeper 0 w v1 x.fKeepers) (hnm : nm.size ≤ maxLen) :
    Calls Tryz.prog 19 #[.agg #[v1], .int .i64 k, .string nm] w fun e w' => e = .returned (refT (lodFind x k nm)) ∧ Below w.heap.size w w' := by
  obtain ⟨a, len, cap, rfl⟩ := s1.form
  obtain ⟨hl, hcap, hm⟩ := s1.len
  have m1 : len ≤ 9223372036854775807 := by unfold maxLen at hm; omega
  have HL := Lib.hid hl
  clear hl hm hcap
  have HS := Lib.hid s1
  clear s1
  obtain ⟨jw, hjw⟩ : ∃ jw, jw = lodFind x k nm := ⟨_, rfl⟩
  have HJ := Lib.hid hjw
  rw [← hjw]
  clear hjw
  have LI : ∀ W, Calls Tryz.prog 32 #[.int .i64 k, .int .i64 0, .int .i64 ((len : Int) - 1)] W fun e w' => e = .returned (.bool (inPlan x k)) ∧ W = w' := fun W => Calls.val2 (S_l1In _ _ _ W) (by
    unfold inPlan
    rw [HL.out]
    rw [show (decide (k ≤ (len : Int) - 1)) = decide (k < (len : Int)) from decide_eq_decide.2 (by omega)])
  have LN : ∀ W, Calls Tryz.prog 33 #[.string nm] W fun e w' => e = .returned (.bool (namOk nm)) ∧ W = w' := fun W => S_NamOk nm W hnm
  refine calls_hide fun R HR => ?_
  go_enter Tryz.func19, Tryz.ntmps19
  go_wp2_with fail
  refine (S_LodOk x _ _ (HS.out.stays rLodKeeper_good (Keeps.of_below' (B := w.heap.size) (by (repeat' (first | (with_reducible exact Below.refl _ _) | (with_reducible refine Below.alloc ?_ ?_ _) | (with_reducible refine Below.setCell ?_ ?_ _) | (with_reducible refine Below.drew ?_) | (refine below_hyp (by assumption) ?_ ?_) | go_size))) (Nat.le_refl _)))).mono ?_
  rintro _ wA ⟨rfl, hA⟩
  have hEA : Below w.heap.size w wA := by (repeat' (first | (with_reducible exact Below.refl _ _) | (with_reducible refine Below.alloc ?_ ?_ _) | (with_reducible refine Below.setCell ?_ ?_ _) | (with_reducible refine Below.drew ?_) | (refine below_hyp (by assumption) ?_ ?_) | go_size))
  have hAs := (hA).size; (try simp only [World.size_alloc, World.size_setCell, World.size_drew] at hAs)
  obtain ⟨hAac, hAad, hAao, hAaf, hAag, hAap, hAaz, hAax, hAay⟩ := bfacts (n := w.heap.size) (k := 2) hA (by go_size) (by go_size); replace hAad := hAad (by decide); replace hAag := hAag (by decide); replace hAax := hAax (by decide); have hAac1 := fun o => hAac 1 o (by decide); have hAaf1 := fun o => hAaf 1 o (by decide); have hAaz1 := hAaz 1 (by decide); clear hAac hAaf hAaz
  cases h1 : lodOk x
  · have RV : Hid (jw = (noRef, 2)) := Lib.hid (HJ.out.trans (lodFind_no h1 k nm))
    clear h1
    go_wp2
    all_goals
      refine bodyPost_ret (v := ?_) ?hrun rfl ?_
      case hrun => (simp only [results, Tryz.results19]; go_simp; first | done | exact rfl)
      exact HR.out _ _ ⟨by rw [RV.out]; rfl, by (repeat' (first | (with_reducible exact Below.refl _ _) | (with_reducible refine Below.alloc ?_ ?_ _) | (with_reducible refine Below.setCell ?_ ?_ _) | (with_reducible refine Below.drew ?_) | (refine below_hyp (by assumption) ?_ ?_) | go_size))⟩
  cases h2 : inPlan x k
  · have RV : Hid (jw = (noRef, 2)) := Lib.hid (HJ.out.trans (by unfold lodFind; rw [h2]; simp))
    rw [h2] at LI
    clear h1 h2
    go_wp2_with (go_at_call 32; refine (LI _).mono ?_; rintro _ _ ⟨rfl, rfl⟩)
    all_goals
      refine bodyPost_ret (v := ?_) ?hrun rfl ?_
      case hrun => (simp only [results, Tryz.results19]; go_simp; first | done | exact rfl)
      exact HR.out _ _ ⟨by rw [RV.out]; rfl, by (repeat' (first | (with_reducible exact Below.refl _ _) | (with_reducible refine Below.alloc ?_ ?_ _) | (with_reducible refine Below.setCell ?_ ?_ _) | (with_reducible refine Below.drew ?_) | (refine below_hyp (by assumption) ?_ ?_) | go_size))⟩
  cases h3 : namOk nm
  · have RV : Hid (jw = (noRef, 2)) := Lib.hid (HJ.out.trans (by unfold lodFind; rw [h3]; simp))
    rw [h2] at LI
    rw [h3] at LN
    clear h1 h2 h3
    go_wp2_with (first | (go_at_call 32; refine (LI _).mono ?_; rintro _ _ ⟨rfl, rfl⟩) | (go_at_call 33; refine (LN _).mono ?_; rintro _ _ ⟨rfl, rfl⟩))
    all_goals
      refine bodyPost_ret (v := ?_) ?hrun rfl ?_
      case hrun => (simp only [results, Tryz.results19]; go_simp; first | done | exact rfl)
      exact HR.out _ _ ⟨by rw [RV.out]; rfl, by (repeat' (first | (with_reducible exact Below.refl _ _) | (with_reducible refine Below.alloc ?_ ?_ _) | (with_reducible refine Below.setCell ?_ ?_ _) | (with_reducible refine Below.drew ?_) | (refine below_hyp (by assumption) ?_ ?_) | go_size))⟩
  · have RV : Hid (jw = findR x k.toNat nm) := Lib.hid (HJ.out.trans (by unfold lodFind; rw [h1, h2, h3]; rfl))
    have hq := h2
    unfold inPlan at hq
    simp only [Bool.and_eq_true, decide_eq_true_eq] at hq
    obtain ⟨i, rfl⟩ : ∃ i : Nat, k = (i : Int) := ⟨k.toNat, by omega⟩
    have hi : i < x.fKeepers.length := by omega
    have HI := Lib.hid hi
    rw [h2] at LI
    rw [h3] at LN
    have H1 := Lib.hid h1
    clear h1 h2 h3 hq hi
    go_wp2_with (first | (go_at_call 32; refine (LI _).mono ?_; rintro _ _ ⟨rfl, rfl⟩) | (go_at_call 33; refine (LN _).mono ?_; rintro _ _ ⟨rfl, rfl⟩))
    refine (S_l3Find x _ i nm _ (HS.out.stays rLodKeeper_good (Keeps.of_below hEA)) H1.out HI.out hnm).mono ?_
    rintro _ wB ⟨rfl, hB⟩
    have hBs := (hB).size; (try simp only [World.size_alloc, World.size_setCell, World.size_drew] at hBs)
    obtain ⟨hBbc, hBbd, hBbo, hBbf, hBbg, hBbp, hBbz, hBbx, hBby⟩ := bfacts (n := w.heap.size) (k := 2) hB (by go_size) (by go_size); replace hBbd := hBbd (by decide); replace hBbg := hBbg (by decide); replace hBbx := hBbx (by decide); have hBbc1 := fun o => hBbc 1 o (by decide); have hBbf1 := fun o => hBbf 1 o (by decide); have hBbz1 := hBbz 1 (by decide); clear hBbc hBbf hBbz
    rw [Int.toNat_natCast] at RV
    obtain ⟨jv, hjv⟩ : ∃ jv, jv = findR x i nm := ⟨_, rfl⟩
    rw [← hjv]
    have RV2 : Hid (jw = jv) := Lib.hid (RV.out.trans hjv.symm)
    clear hjv RV
    obtain ⟨⟨rk, rn⟩, cd⟩ := jv
    unfold refT
    dsimp only
    go_wp2
    all_goals
      refine bodyPost_ret (v := ?_) ?hrun rfl ?_
      case hrun => (simp only [results, Tryz.results19]; go_simp; first | done | exact rfl)
      exact HR.out _ _ ⟨by rw [RV2.out]; rfl, by (repeat' (first | (with_reducible exact Below.refl _ _) | (with_reducible refine Below.alloc ?_ ?_ _) | (with_reducible refine Below.setCell ?_ ?_ _) | (with_reducible refine Below.drew ?_) | (refine below_hyp (by assumption) ?_ ?_) | go_size))⟩

end Go.Proofs.YtmmlhnjmjmbfpaaGreat
