

/-
  The walks of LodFind, the reference's and the program's. Condition: the data can be read.
-/
import Derived.Test.YtmmlhnjmjmbfpaaGreatClimb
import Derived.Test.YtmmlhnjmjmbfpaaGreatIns
namespace Go.Proofs.YtmmlhnjmjmbfpaaGreat
set_option linter.unusedSimpArgs false
set_option linter.unusedVariables false
open Go.RowKit

set_option maxRecDepth 100000 in
set_option maxHeartbeats 8000000 in
theorem I_path_out (p : DLodPlan) (L : Nat) (k : Int) (nm : ByteArray) (w : World) (hl : Lodge w L p) (hk : inPlan p k = false) :
    Calls Tryz.prog 68 #[.pointer (some ⟨L, 0, none⟩), .int .i64 k, .string nm] w fun e w' => e = .returned (.tuple #[.slice none 0 0, .int .i64 2]) ∧ w = w' := by
  obtain ⟨a, len, cap, bo, ba, bl, n, c0, _, _, _, s1, _, _, _, _⟩ := id hl
  obtain ⟨hln, hcap, hm⟩ := s1.len
  have m1 : len ≤ 9223372036854775807 := by unfold maxLen at hm; omega
  unfold inPlan at hk
  rw [hln] at hk
  refine calls_hide fun R HR => ?_
  go_enter Tryz.func68, Tryz.ntmps68
  go_wp2_with fail
  refine (I_has L k _ len cap _ c0 m1).mono ?_
  rintro _ _ ⟨rfl, rfl⟩
  rw [hk]
  go_wp2
  all_goals (try go_returns)
  all_goals exact HR.out _ _ ⟨rfl, rfl⟩

set_option maxRecDepth 100000 in
set_option maxHeartbeats 8000000 in
theorem I_resolve_out (p : DLodPlan) (L : Nat) (k : Int) (nm : ByteArray) (w : World) (hl : Lodge w L p) (hk : inPlan p k = false) :
    Calls Tryz.prog 54 #[.pointer (some ⟨L, 0, none⟩), .int .i64 k, .string nm] w fun e w' => e = .returned (refT (noRef, 2)) ∧ Below w.heap.size w w' := by
  have HLD := Lib.hid hl
  clear hl
  refine calls_hide fun R HR => ?_
  go_enter Tryz.func54, Tryz.ntmps54
  go_wp2_with fail
  refine (I_path_out p L k nm _ (HLD.out.below (by (repeat' (first | (with_reducible exact Below.refl _ _) | (with_reducible refine Below.alloc ?_ ?_ _) | (with_reducible refine Below.setCell ?_ ?_ _) | (with_reducible refine Below.drew ?_) | (refine below_hyp (by assumption) ?_ ?_) | go_size)))) hk).mono ?_
  rintro _ _ ⟨rfl, rfl⟩
  go_wp2
  all_goals
    refine bodyPost_ret (v := ?_) ?hrun rfl ?_
    case hrun => (simp only [results, Tryz.results54]; go_simp; first | done | exact rfl)
    exact HR.out _ _ ⟨rfl, by (repeat' (first | (with_reducible exact Below.refl _ _) | (with_reducible refine Below.alloc ?_ ?_ _) | (with_reducible refine Below.setCell ?_ ?_ _) | (with_reducible refine Below.drew ?_) | (refine below_hyp (by assumption) ?_ ?_) | go_size))⟩

/-- what the program's find finds, for any keeper's number -/
def findK (p : DLodPlan) (k : Int) (nm : ByteArray) : DLodRef × Int := if inPlan p k then findR p k.toNat nm else (noRef, 2)

set_option maxRecDepth 100000 in
set_option maxHeartbeats 8000000 in
theorem I_find (p : DLodPlan) (L : Nat) (k : Int) (nm : ByteArray) (w : World) (hl : Lodge w L p) (hp : lodOk p = true) (hnm : nm.size ≤ maxLen) :
    Calls Tryz.prog 39 #[.pointer (some ⟨L, 0, none⟩), .int .i64 k, .string nm] w fun e w' => e = .returned (refT (findK p k nm)) ∧ Below w.heap.size w w' := by
  have HL := Lib.hid hl
  have HP := Lib.hid hp
  clear hl hp
  obtain ⟨jw, hjw⟩ : ∃ jw, jw = if inPlan p k then whoseR p k.toNat nm else (noRef, 2) := ⟨_, rfl⟩
  have RV0 : findK p k nm = if jw.2 = 1 then (if (chainR p jw.1).isSome then jw else (noRef, 4)) else (noRef, jw.2) := by
    unfold findK
    cases hq : inPlan p k
    · rw [hq] at hjw; rw [hjw]; rfl
    · rw [hq] at hjw
      simp only [if_true] at hjw
      simp only [if_true]
      unfold findR
      rw [hjw]
  have cases' : (∃ j' : Nat, jw = (⟨(j' : Int), nm⟩, 1) ∧ j' < p.fKeepers.length ∧ 0 ≤ ownN p nm j') ∨ (jw.2 ≠ 1 ∧ jw = (noRef, jw.2)) := by
    cases hq : inPlan p k
    · rw [hq] at hjw
      exact Or.inr (by rw [hjw]; exact ⟨by simp, rfl⟩)
    · have hq' := hq
      rw [hq] at hjw
      simp only [if_true] at hjw
      unfold inPlan at hq'
      simp only [Bool.and_eq_true, decide_eq_true_eq] at hq'
      rcases whoseR_code p k.toNat nm with hcd | ⟨hcd, hno⟩
      · obtain ⟨j', he, h1, h2⟩ := whoseR_there HP.out (i := k.toNat) (by omega) hcd
        exact Or.inl ⟨j', hjw.trans he, h1, h2⟩
      · exact Or.inr (by rw [hjw]; exact ⟨hcd, Prod.ext hno rfl⟩)
  have SW : ∀ W, Below w.heap.size w W → Calls Tryz.prog 54 #[.pointer (some ⟨L, 0, none⟩), .int .i64 k, .string nm] W fun e w' => e = .returned (refT jw) ∧ Below W.heap.size W w' := fun W hW => by
    cases hq : inPlan p k
    · rw [hq] at hjw; rw [hjw]
      exact I_resolve_out p L k nm W (HL.out.below hW) hq
    · have hq' := hq
      rw [hq] at hjw
      simp only [if_true] at hjw
      unfold inPlan at hq'
      simp only [Bool.and_eq_true, decide_eq_true_eq] at hq'
      obtain ⟨i, rfl⟩ : ∃ i : Nat, k = (i : Int) := ⟨k.toNat, by omega⟩
      rw [hjw, Int.toNat_natCast]
      exact I_resolve p L i nm W (HL.out.below hW) HP.out (by omega) hnm
  have RVH := Lib.hid RV0
  clear RV0 hjw
  rcases cases' with ⟨j', rfl, hj'1, hj'2⟩ | ⟨hcd, he⟩
  · have HT : Hid (There p ⟨(j' : Int), nm⟩) := Lib.hid ⟨j', rfl, hj'1, hj'2, hnm⟩
    have RV : Hid (findK p k nm = if (chainR p ⟨(j' : Int), nm⟩).isSome then (⟨(j' : Int), nm⟩, 1) else (noRef, 4)) := Lib.hid (by rw [RVH.out]; rfl)
    clear RVH
    unfold refT at SW
    refine calls_hide fun R HR => ?_
    go_enter Tryz.func39, Tryz.ntmps39
    go_wp2_with fail
    refine (SW _ (by (repeat' (first | (with_reducible exact Below.refl _ _) | (with_reducible refine Below.alloc ?_ ?_ _) | (with_reducible refine Below.setCell ?_ ?_ _) | (with_reducible refine Below.drew ?_) | (refine below_hyp (by assumption) ?_ ?_) | go_size)))).mono ?_
    rintro _ wA ⟨rfl, hA⟩
    have hEA : Below w.heap.size w wA := by (repeat' (first | (with_reducible exact Below.refl _ _) | (with_reducible refine Below.alloc ?_ ?_ _) | (with_reducible refine Below.setCell ?_ ?_ _) | (with_reducible refine Below.drew ?_) | (refine below_hyp (by assumption) ?_ ?_) | go_size))
    have hAs := (hA).size; (try simp only [World.size_alloc, World.size_setCell, World.size_drew] at hAs)
    obtain ⟨hAac, hAad, hAao, hAaf, hAag, hAap, hAaz, hAax, hAay⟩ := bfacts (n := w.heap.size) (k := 1) hA (by go_size) (by go_size); replace hAad := hAad (by decide); replace hAag := hAag (by decide); replace hAax := hAax (by decide); clear hAac hAaf hAaz
    go_wp2_with fail
    refine (I_climb p L ⟨(j' : Int), nm⟩ _ (HL.out.below (hEA.trans (by (repeat' (first | (with_reducible exact Below.refl _ _) | (with_reducible refine Below.alloc ?_ ?_ _) | (with_reducible refine Below.setCell ?_ ?_ _) | (with_reducible refine Below.drew ?_) | (refine below_hyp (by assumption) ?_ ?_) | go_size))))) HP.out HT.out).mono ?_
    rintro _ wB ⟨hB, v, rfl, _⟩
    have hAB : Below wA.heap.size wA wB := by (repeat' (first | (with_reducible exact Below.refl _ _) | (with_reducible refine Below.alloc ?_ ?_ _) | (with_reducible refine Below.setCell ?_ ?_ _) | (with_reducible refine Below.drew ?_) | (refine below_hyp (by assumption) ?_ ?_) | go_size))
    have hEB := hEA.trans (hAB.mono hEA.size)
    have hBs := hB.size
    simp only [World.size_alloc] at hBs
    have z0 : wA.cell? ⟨w.heap.size, 0, none⟩ = some (.int .i64 0) := by go_simp
    have z1 : wA.cell? ⟨w.heap.size, 1, none⟩ = some (.string ⟨#[]⟩) := by go_simp
    have zf0 : wA.frozen? ⟨w.heap.size, 0, none⟩ = false := by go_simp
    have zf1 : wA.frozen? ⟨w.heap.size, 1, none⟩ = false := by go_simp
    have y0 := keep_cell hAB z0
    have y1 := keep_cell hAB z1
    have yf0 := keep_frozen hAB z0 zf0
    have yf1 := keep_frozen hAB z1 zf1
    have x0 : wB.cell? ⟨wA.heap.size, 0, none⟩ = some (.int .i64 (j' : Int)) := (hB.cell (by simp)).trans (by go_simp)
    have x1 : wB.cell? ⟨wA.heap.size, 1, none⟩ = some (.string nm) := (hB.cell (by simp)).trans (by go_simp)
    have hBl := block_lt_of_cell y0
    obtain ⟨bb, hbb⟩ : ∃ bb, bb = (chainR p ⟨(j' : Int), nm⟩).isSome := ⟨_, rfl⟩
    rw [← hbb]
    have RV2 : Hid (findK p k nm = if bb then (⟨(j' : Int), nm⟩, 1) else (noRef, 4)) := Lib.hid (by rw [RV.out, hbb])
    have hne : w.heap.size ≠ wA.heap.size := by have := block_lt_of_cell z0; omega
    clear hbb RV z0 z1 zf0 zf1 hAad hAag hAax hAay hAao hAap hB
    cases bb
    all_goals
      go_wp2
      all_goals
        refine bodyPost_ret (v := ?_) ?hrun rfl ?_
        case hrun => (simp only [results, Tryz.results39]; go_simp; first | done | exact rfl)
        exact HR.out _ _ ⟨by rw [RV2.out]; rfl, by (repeat' (first | (with_reducible exact Below.refl _ _) | (with_reducible refine Below.alloc ?_ ?_ _) | (with_reducible refine Below.setCell ?_ ?_ _) | (with_reducible refine Below.drew ?_) | (refine below_hyp (by assumption) ?_ ?_) | go_size))⟩
  · obtain ⟨cd, hcde⟩ : ∃ cd, cd = jw.2 := ⟨_, rfl⟩
    rw [← hcde] at he hcd
    have RV : Hid (findK p k nm = (noRef, cd)) := Lib.hid (by rw [RVH.out, ← hcde, if_neg hcd])
    have i1 : (cd != 1) = true := by simpa using hcd
    have i2 : (cd == 1) = false := by simpa using hcd
    subst he
    clear RVH hcde hcd
    unfold refT noRef at SW
    refine calls_hide fun R HR => ?_
    go_enter Tryz.func39, Tryz.ntmps39
    go_wp2_with fail
    refine (SW _ (by (repeat' (first | (with_reducible exact Below.refl _ _) | (with_reducible refine Below.alloc ?_ ?_ _) | (with_reducible refine Below.setCell ?_ ?_ _) | (with_reducible refine Below.drew ?_) | (refine below_hyp (by assumption) ?_ ?_) | go_size)))).mono ?_
    rintro _ wA ⟨rfl, hA⟩
    have hEA : Below w.heap.size w wA := by (repeat' (first | (with_reducible exact Below.refl _ _) | (with_reducible refine Below.alloc ?_ ?_ _) | (with_reducible refine Below.setCell ?_ ?_ _) | (with_reducible refine Below.drew ?_) | (refine below_hyp (by assumption) ?_ ?_) | go_size))
    have hAs := (hA).size; (try simp only [World.size_alloc, World.size_setCell, World.size_drew] at hAs)
    obtain ⟨hAac, hAad, hAao, hAaf, hAag, hAap, hAaz, hAax, hAay⟩ := bfacts (n := w.heap.size) (k := 1) hA (by go_size) (by go_size); replace hAad := hAad (by decide); replace hAag := hAag (by decide); replace hAax := hAax (by decide); clear hAac hAaf hAaz
    go_wp2
    all_goals
      refine bodyPost_ret (v := ?_) ?hrun rfl ?_
      case hrun => (simp only [results, Tryz.results39]; go_simp; first | done | exact rfl)
      exact HR.out _ _ ⟨by rw [RV.out]; rfl, by (repeat' (first | (with_reducible exact Below.refl _ _) | (with_reducible refine Below.alloc ?_ ?_ _) | (with_reducible refine Below.setCell ?_ ?_ _) | (with_reducible refine Below.drew ?_) | (refine below_hyp (by assumption) ?_ ?_) | go_size))⟩

end Go.Proofs.YtmmlhnjmjmbfpaaGreat
