

/-
  The walks of the program's chain and under. Condition: a lodge of keepers that are ok.
-/
import Derived.Test.YtmmlhnjmjmbfpaaGreatAgreeS
namespace Go.Proofs.YtmmlhnjmjmbfpaaGreat
set_option linter.unusedSimpArgs false
set_option linter.unusedVariables false
open Go.RowKit

/-- the class and those above it, if its keeper has it -/
def lodChain (p : DLodPlan) (r : DLodRef) : List DLodRef := if (lodFind p r.fKeeper r.fName).2 = 1 then (if refEq (lodFind p r.fKeeper r.fName).1 r then (chainR p r).getD [] else []) else []
def lodUnder (p : DLodPlan) (a b : DLodRef) : Bool := (lodChain p a).any fun x => refEq x b
theorem refEq_iff {a b : DLodRef} : refEq a b = true ↔ a = b := by
  obtain ⟨ak, an⟩ := a
  obtain ⟨bk, bn⟩ := b
  unfold refEq
  simp only [Bool.and_eq_true, beq_iff_eq, DLodRef.mk.injEq]
  constructor
  · rintro ⟨h1, h2⟩; exact ⟨h1, sameN_iff.1 (by simpa [sameN] using h2)⟩
  · rintro ⟨h1, h2⟩; exact ⟨h1, by rw [h2]⟩
theorem findR_there {p : DLodPlan} (h : lodOk p = true) {i : Nat} {nm : ByteArray} (hi : i < p.fKeepers.length) (hn : nm.size ≤ maxLen) (hc : (findR p i nm).2 = 1) : ∃ j : Nat, findR p i nm = (⟨(j : Int), nm⟩, 1) ∧ There p ⟨(j : Int), nm⟩ ∧ ∃ rs, chainR p ⟨(j : Int), nm⟩ = some rs := by
  unfold findR at hc ⊢
  by_cases h1 : (whoseR p i nm).2 = 1
  · obtain ⟨j, he, h2, h3⟩ := whoseR_there h hi h1
    rw [if_pos h1] at hc ⊢
    cases e : chainR p (whoseR p i nm).1 with
    | none => rw [e] at hc; simp at hc
    | some rs =>
      rw [he] at e
      exact ⟨j, by simp [he], ⟨j, rfl, h2, h3, hn⟩, rs, e⟩
  · rw [if_neg h1] at hc
    exact absurd hc h1
theorem lodFind_there {p : DLodPlan} {k : Int} {nm : ByteArray} (hn : nm.size ≤ maxLen) (hc : (lodFind p k nm).2 = 1) : lodOk p = true ∧ ∃ j : Nat, lodFind p k nm = (⟨(j : Int), nm⟩, 1) ∧ There p ⟨(j : Int), nm⟩ ∧ ∃ rs, chainR p ⟨(j : Int), nm⟩ = some rs := by
  unfold lodFind at hc ⊢
  by_cases h1 : (lodOk p && inPlan p k && namOk nm) = true
  · rw [if_pos h1] at hc ⊢
    simp only [Bool.and_eq_true] at h1
    have h2 := h1.1.2
    unfold inPlan at h2
    simp only [Bool.and_eq_true, decide_eq_true_eq] at h2
    exact ⟨h1.1.1, findR_there h1.1.1 (by omega) hn hc⟩
  · rw [if_neg h1] at hc; simp at hc
theorem lodChain_there {p : DLodPlan} {r : DLodRef} (hn : r.fName.size ≤ maxLen) (h1 : (lodFind p r.fKeeper r.fName).2 = 1) (h2 : refEq (lodFind p r.fKeeper r.fName).1 r = true) : There p r ∧ ∃ rs, chainR p r = some rs ∧ lodChain p r = rs := by
  obtain ⟨_, j, he, ht, rs, hr⟩ := lodFind_there hn h1
  have e : (⟨(j : Int), r.fName⟩ : DLodRef) = r := by
    have := refEq_iff.1 h2
    rw [he] at this
    exact this
  rw [e] at ht hr
  refine ⟨ht, rs, hr, ?_⟩
  unfold lodChain
  rw [if_pos h1, if_pos h2, hr]; rfl

set_option maxRecDepth 100000 in
set_option maxHeartbeats 8000000 in
theorem I_chain (p : DLodPlan) (L : Nat) (r : DLodRef) (w : World) (hl : Lodge w L p) (hp : lodOk p = true) (hn : r.fName.size ≤ maxLen) :
    Calls Tryz.prog 23 #[.pointer (some ⟨L, 0, none⟩), .agg #[.int .i64 r.fKeeper, .string r.fName]] w fun e w' => (∃ v, e = .returned v ∧ Refs w' w.heap.size v (lodChain p r)) ∧ Below w.heap.size w w' := by
  have HP := Lib.hid hp
  have HL := Lib.hid hl
  clear hl hp
  obtain ⟨jw, hjw⟩ : ∃ jw, jw = lodFind p r.fKeeper r.fName := ⟨_, rfl⟩
  have FA : ∀ W, Below w.heap.size w W → Calls Tryz.prog 39 #[.pointer (some ⟨L, 0, none⟩), .int .i64 r.fKeeper, .string r.fName] W fun e w' => e = .returned (refT jw) ∧ Below W.heap.size W w' := fun W hW => by
    rw [hjw, lodFind_findK HP.out]; exact I_find p L r.fKeeper r.fName W (HL.out.below hW) HP.out hn
  have HJ := Lib.hid hjw
  clear hjw
  obtain ⟨⟨ak, an⟩, ac⟩ := jw
  unfold refT at FA
  dsimp only at FA
  obtain ⟨rk, rn⟩ := r
  dsimp only at FA hn ⊢
  refine calls_hide fun R HR => ?_
  go_enter Tryz.func23, Tryz.ntmps23
  go_wp2_with fail
  refine (FA _ (by (repeat' (first | (with_reducible exact Below.refl _ _) | (with_reducible refine Below.alloc ?_ ?_ _) | (with_reducible refine Below.setCell ?_ ?_ _) | (with_reducible refine Below.drew ?_) | (refine below_hyp (by assumption) ?_ ?_) | go_size)))).mono ?_
  rintro _ wA ⟨rfl, hA⟩
  have hEA : Below w.heap.size w wA := by (repeat' (first | (with_reducible exact Below.refl _ _) | (with_reducible refine Below.alloc ?_ ?_ _) | (with_reducible refine Below.setCell ?_ ?_ _) | (with_reducible refine Below.drew ?_) | (refine below_hyp (by assumption) ?_ ?_) | go_size))
  have hAs := (hA).size; (try simp only [World.size_alloc, World.size_setCell, World.size_drew] at hAs)
  obtain ⟨hAac, hAad, hAao, hAaf, hAag, hAap, hAaz, hAax, hAay⟩ := bfacts (n := w.heap.size) (k := 1) hA (by go_size) (by go_size); replace hAad := hAad (by decide); replace hAag := hAag (by decide); replace hAax := hAax (by decide); clear hAac hAaf hAaz
  by_cases ha : ac = 1
  · obtain ⟨q, hq⟩ : ∃ q, q = (ak == rk && an.toList == rn.toList) := ⟨_, rfl⟩
    cases q
    · have NO : Hid (lodChain p ⟨rk, rn⟩ = []) := Lib.hid (by
        unfold lodChain
        dsimp only
        rw [← HJ.out]
        rw [if_pos ha, if_neg (show ¬ refEq ⟨ak, an⟩ ⟨rk, rn⟩ = true by unfold refEq; dsimp only; rw [← hq]; simp)])
      have hq2 := hq.symm
      clear hq HJ
      subst ha
      go_wp2
      all_goals first
        | (exfalso; simp_all; done)
        | skip
      all_goals (try go_returns)
      all_goals exact HR.out _ _ ⟨⟨_, rfl, by rw [NO.out]; exact ⟨rfl, Or.inl ⟨rfl, rfl⟩⟩⟩, by (repeat' (first | (with_reducible exact Below.refl _ _) | (with_reducible refine Below.alloc ?_ ?_ _) | (with_reducible refine Below.setCell ?_ ?_ _) | (with_reducible refine Below.drew ?_) | (refine below_hyp (by assumption) ?_ ?_) | go_size))⟩
    · obtain ⟨TH, rs, hrs, hcs⟩ := lodChain_there (p := p) (r := ⟨rk, rn⟩) hn (by rw [← HJ.out]; exact ha) (by rw [← HJ.out]; exact hq.symm)
      have hsame : (⟨ak, an⟩ : DLodRef) = ⟨rk, rn⟩ := refEq_iff.1 hq.symm
      obtain ⟨rfl, rfl⟩ : ak = rk ∧ an = rn := by cases hsame; exact ⟨rfl, rfl⟩
      have HTH := Lib.hid TH
      have HRS := Lib.hid hrs
      have HCS := Lib.hid hcs
      subst ha
      clear hq HJ TH hrs hcs hsame
      go_wp2_with fail
      refine (I_climb p L ⟨ak, an⟩ _ (HL.out.below (hEA.trans (by (repeat' (first | (with_reducible exact Below.refl _ _) | (with_reducible refine Below.alloc ?_ ?_ _) | (with_reducible refine Below.setCell ?_ ?_ _) | (with_reducible refine Below.drew ?_) | (refine below_hyp (by assumption) ?_ ?_) | go_size))))) HP.out HTH.out).mono ?_
      rintro _ wB ⟨hB, v, rfl, hv⟩
      have hR := hv rs HRS.out
      have HRR : Hid (Refs wB w.heap.size v (lodChain p ⟨ak, an⟩)) := Lib.hid (by rw [HCS.out]; exact hR.low (by simp; omega))
      have hBs := hB.size
      simp only [World.size_alloc] at hBs
      have hEB : Below w.heap.size w wB := by (repeat' (first | (with_reducible exact Below.refl _ _) | (with_reducible refine Below.alloc ?_ ?_ _) | (with_reducible refine Below.setCell ?_ ?_ _) | (with_reducible refine Below.drew ?_) | (refine below_hyp (by assumption) ?_ ?_) | go_size))
      clear hv hR hB
      rw [show (chainR p ⟨ak, an⟩).isSome = true by rw [HRS.out]; rfl]
      go_wp2
      all_goals (try go_returns)
      all_goals exact HR.out _ _ ⟨⟨_, rfl, HRR.out⟩, hEB⟩
  · have NO : Hid (lodChain p ⟨rk, rn⟩ = []) := Lib.hid (by
      unfold lodChain
      dsimp only
      rw [← HJ.out]
      rw [if_neg ha])
    have ha2 : (ac == 1) = false := by simpa using ha
    have ha3 : (ac != 1) = true := by simpa using ha
    clear HJ
    go_wp2
    all_goals (try go_returns)
    all_goals exact HR.out _ _ ⟨⟨_, rfl, by rw [NO.out]; exact ⟨rfl, Or.inl ⟨rfl, rfl⟩⟩⟩, by (repeat' (first | (with_reducible exact Below.refl _ _) | (with_reducible refine Below.alloc ?_ ?_ _) | (with_reducible refine Below.setCell ?_ ?_ _) | (with_reducible refine Below.drew ?_) | (refine below_hyp (by assumption) ?_ ?_) | go_size))⟩

end Go.Proofs.YtmmlhnjmjmbfpaaGreat
