

/-
  The walks of the reference's LodChain, l3Has, LodUnder. Condition: the data can be read.
-/
import Derived.Test.YtmmlhnjmjmbfpaaGreatUnder
namespace Go.Proofs.YtmmlhnjmjmbfpaaGreat
set_option linter.unusedSimpArgs false
set_option linter.unusedVariables false
open Go.RowKit

set_option maxRecDepth 100000 in
set_option maxHeartbeats 8000000 in
theorem S_LodChain (x : DLodPlan) (v1 : Value) (r : DLodRef) (w : World) (s1 : Sl 2 rLodKeeper 0 w v1 x.fKeepers) (hn : r.fName.size ≤ maxLen) :
    Calls Tryz.prog 7 #[.agg #[v1], .agg #[.int .i64 r.fKeeper, .string r.fName]] w fun e w' => (∃ v, e = .returned v ∧ Refs w' w.heap.size v (lodChain x r)) ∧ Below w.heap.size w w' := by
  obtain ⟨a, len, cap, rfl⟩ := s1.form
  have HS := Lib.hid s1
  clear s1
  obtain ⟨jw, hjw⟩ : ∃ jw, jw = lodFind x r.fKeeper r.fName := ⟨_, rfl⟩
  have FA : ∀ W, Below w.heap.size w W → Calls Tryz.prog 19 #[.agg #[.slice a len cap], .int .i64 r.fKeeper, .string r.fName] W fun e w' => e = .returned (refT jw) ∧ Below W.heap.size W w' := fun W hW => by
    rw [hjw]; exact S_LodFind x _ r.fKeeper r.fName W (HS.out.stays rLodKeeper_good (Keeps.of_below hW)) hn
  have HJ := Lib.hid hjw
  clear hjw
  obtain ⟨⟨ak, an⟩, ac⟩ := jw
  unfold refT at FA
  dsimp only at FA
  obtain ⟨rk, rn⟩ := r
  dsimp only at FA hn ⊢
  refine calls_hide fun R HR => ?_
  go_enter Tryz.func7, Tryz.ntmps7
  go_wp2_with fail
  refine (FA _ (by (repeat' (first | (with_reducible exact Below.refl _ _) | (with_reducible refine Below.alloc ?_ ?_ _) | (with_reducible refine Below.setCell ?_ ?_ _) | (with_reducible refine Below.drew ?_) | (refine below_hyp (by assumption) ?_ ?_) | go_size)))).mono ?_
  rintro _ wA ⟨rfl, hA⟩
  have hEA : Below w.heap.size w wA := by (repeat' (first | (with_reducible exact Below.refl _ _) | (with_reducible refine Below.alloc ?_ ?_ _) | (with_reducible refine Below.setCell ?_ ?_ _) | (with_reducible refine Below.drew ?_) | (refine below_hyp (by assumption) ?_ ?_) | go_size))
  have hAs := (hA).size; (try simp only [World.size_alloc, World.size_setCell, World.size_drew] at hAs)
  obtain ⟨hAac, hAad, hAao, hAaf, hAag, hAap, hAaz, hAax, hAay⟩ := bfacts (n := w.heap.size) (k := 2) hA (by go_size) (by go_size); replace hAad := hAad (by decide); replace hAag := hAag (by decide); replace hAax := hAax (by decide); have hAac1 := fun o => hAac 1 o (by decide); have hAaf1 := fun o => hAaf 1 o (by decide); have hAaz1 := hAaz 1 (by decide); clear hAac hAaf hAaz
  by_cases ha : ac = 1
  · obtain ⟨q, hq⟩ : ∃ q, q = (ak == rk && an.toList == rn.toList) := ⟨_, rfl⟩
    cases q
    · have NO : Hid (lodChain x ⟨rk, rn⟩ = []) := Lib.hid (by
        unfold lodChain
        dsimp only
        rw [← HJ.out]
        rw [if_pos ha, if_neg (show ¬ refEq ⟨ak, an⟩ ⟨rk, rn⟩ = true by unfold refEq; dsimp only; rw [← hq]; simp)])
      have hq2 := hq.symm
      clear hq HJ
      subst ha
      go_wp2
      all_goals first
        | (exfalso; simp_all; done)
        | skip
      all_goals (try go_returns)
      all_goals exact HR.out _ _ ⟨⟨_, rfl, by rw [NO.out]; exact ⟨rfl, Or.inr ⟨_, 0, #[], rfl, by omega, heap_top (by simp), Nat.le_refl _, by decide, rfl, rfl⟩⟩⟩, by (repeat' (first | (with_reducible exact Below.refl _ _) | (with_reducible refine Below.alloc ?_ ?_ _) | (with_reducible refine Below.setCell ?_ ?_ _) | (with_reducible refine Below.drew ?_) | (refine below_hyp (by assumption) ?_ ?_) | go_size))⟩
    · obtain ⟨TH, rs, hrs, hcs⟩ := lodChain_there (p := x) (r := ⟨rk, rn⟩) hn (by rw [← HJ.out]; exact ha) (by rw [← HJ.out]; exact hq.symm)
      have hok := (lodFind_there (p := x) (k := rk) (nm := rn) hn (by have := HJ.out; rw [← this]; exact ha)).1
      have hsame : (⟨ak, an⟩ : DLodRef) = ⟨rk, rn⟩ := refEq_iff.1 hq.symm
      obtain ⟨rfl, rfl⟩ : ak = rk ∧ an = rn := by cases hsame; exact ⟨rfl, rfl⟩
      have HTH := Lib.hid TH
      have HRS := Lib.hid hrs
      have HCS := Lib.hid hcs
      have HOK := Lib.hid hok
      subst ha
      clear hq HJ TH hrs hcs hsame hok
      go_wp2_with fail
      refine (S_l3Chain x _ ⟨ak, an⟩ _ (HS.out.stays rLodKeeper_good (Keeps.of_below (hEA.trans (by (repeat' (first | (with_reducible exact Below.refl _ _) | (with_reducible refine Below.alloc ?_ ?_ _) | (with_reducible refine Below.setCell ?_ ?_ _) | (with_reducible refine Below.drew ?_) | (refine below_hyp (by assumption) ?_ ?_) | go_size)))))) HOK.out HTH.out).mono ?_
      rintro _ wB ⟨hB, v, rfl, hv⟩
      have hR := hv rs HRS.out
      have HRR : Hid (Refs wB w.heap.size v (lodChain x ⟨ak, an⟩)) := Lib.hid (by rw [HCS.out]; exact hR.low (by simp; omega))
      have hBs := hB.size
      simp only [World.size_alloc] at hBs
      have hEB : Below w.heap.size w wB := by (repeat' (first | (with_reducible exact Below.refl _ _) | (with_reducible refine Below.alloc ?_ ?_ _) | (with_reducible refine Below.setCell ?_ ?_ _) | (with_reducible refine Below.drew ?_) | (refine below_hyp (by assumption) ?_ ?_) | go_size))
      clear hv hR hB
      rw [show (chainR x ⟨ak, an⟩).isSome = true by rw [HRS.out]; rfl]
      go_wp2
      all_goals (try go_returns)
      all_goals exact HR.out _ _ ⟨⟨_, rfl, HRR.out⟩, hEB⟩
  · have NO : Hid (lodChain x ⟨rk, rn⟩ = []) := Lib.hid (by
      unfold lodChain
      dsimp only
      rw [← HJ.out]
      rw [if_neg ha])
    have ha2 : (ac == 1) = false := by simpa using ha
    have ha3 : (ac != 1) = true := by simpa using ha
    clear HJ
    go_wp2
    all_goals (try go_returns)
    all_goals exact HR.out _ _ ⟨⟨_, rfl, by rw [NO.out]; exact ⟨rfl, Or.inr ⟨_, 0, #[], rfl, by omega, heap_top (by simp), Nat.le_refl _, by decide, rfl, rfl⟩⟩⟩, by (repeat' (first | (with_reducible exact Below.refl _ _) | (with_reducible refine Below.alloc ?_ ?_ _) | (with_reducible refine Below.setCell ?_ ?_ _) | (with_reducible refine Below.drew ?_) | (refine below_hyp (by assumption) ?_ ?_) | go_size))⟩



end Go.Proofs.YtmmlhnjmjmbfpaaGreat
