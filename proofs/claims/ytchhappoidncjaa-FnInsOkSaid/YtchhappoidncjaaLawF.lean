
/-
  The walk of the law FnInsOk: it returns true and leaves what was there as it was. Condition: the code can be read.
-/
import Derived.Test.YtchhappoidncjaaDrawI
import Derived.Test.YtchhappoidncjaaInsL
import Derived.Test.YtchhappoidncjaaLawE
namespace Go.Proofs.Ytchhappoidncjaa
set_option linter.unusedSimpArgs false
set_option linter.unusedVariables false
open Go.RowKit

set_option maxHeartbeats 400000 in
theorem S_DrawInsOk (v : Value) (w : World) (hv : Bytes w v) :
    Calls Try.prog 47 #[v] w fun e w' => (∃ (op a : Int) (n m : ByteArray), n.size ≤ 4 ∧ m.size ≤ 4 ∧ e = .returned (.agg #[.int .i64 op, .int .i64 a, .string n, .string m])) ∧ Below w.heap.size w w' := by
  have hv' := hv
  refine calls_hide fun R HR => ?_
  go_enter Try.func47, Try.ntmps47
  go_wp2_with fail
  refine (S_l20Open _ _ (by (first | exact hv' | exact hv'.alloc _))).mono ?_
  rintro e w1 ⟨rfl, h1, h2, h3⟩
  simp only [World.size_alloc] at h1
  have h2s := (h2).size; (try simp only [World.size_alloc, World.size_setCell, World.size_drew] at h2s)
  obtain ⟨h2ac, h2ad, h2ao, h2af, h2ag, h2ap, h2az, h2ax, h2ay⟩ := bfacts (n := w.heap.size) (k := 1) h2 (by go_size) (by go_size); replace h2ad := h2ad (by decide); replace h2ag := h2ag (by decide); replace h2ax := h2ax (by decide); clear h2ac h2af h2az
  go_wp2_with fail
  refine (S_l20Ins _ 0 _ _ (by omega) (by omega) (by (repeat' (first | assumption | (with_reducible refine Rd.alloc ?_ _) | (with_reducible refine Rd.setCell ?_ ?_ _) | (with_reducible refine Rd.drew ?_) | (with_reducible refine Rd.drewN ?_ _) | (refine rd_below (by assumption) ?_ ?_) | go_size))) (by omega)).mono ?_
  rintro e w2 ⟨⟨op, a, n, m, hk, hk2, rfl⟩, ⟨q, hq, h4⟩, h5⟩
  have h5s := (h5).size; (try simp only [World.size_alloc, World.size_setCell, World.size_drew] at h5s)
  obtain ⟨h5bc, h5bd, h5bf, h5bg, h5bz, h5bx, h5by⟩ := efacts (n := w.heap.size) (k := 1) h5 (by go_size) (by go_size) (by first | omega | (simp; omega)); replace h5bd := h5bd (by decide); replace h5bg := h5bg (by decide); replace h5bx := h5bx (by decide); clear h5bc h5bf h5bz
  go_wp2
  all_goals
    refine bodyPost_ret (v := ?_) ?hrun rfl ?_
    case hrun => (simp only [results, Try.results47]; go_simp; first | done | exact rfl)
    exact HR.out _ _ ⟨⟨_, _, _, _, hk, hk2, rfl⟩, by (repeat' (first | (with_reducible exact Ex.refl _ _ _) | (with_reducible exact Below.refl _ _) | (with_reducible refine Ex.alloc ?_ ?_ _) | (with_reducible refine Ex.setCell ?_ ?_ _) | (with_reducible refine Ex.drew ?_) | (with_reducible refine Ex.drewN ?_ _) | (with_reducible refine Below.alloc ?_ ?_ _) | (with_reducible refine Below.setCell ?_ ?_ _) | (with_reducible refine Below.drew ?_) | (refine ex_hyp (by assumption) ?_ ?_) | (refine ex_below (by assumption) ?_ ?_) | (refine below_ex (by assumption) ?_ ?_ ?_) | (refine below_hyp (by assumption) ?_ ?_) | go_size))⟩

theorem fifteen {x : Int} (h : 1 ≤ x ∧ x ≤ 15) : x = 1 ∨ x = 2 ∨ x = 3 ∨ x = 4 ∨ x = 5 ∨ x = 6 ∨ x = 7 ∨ x = 8 ∨ x = 9 ∨ x = 10 ∨ x = 11 ∨ x = 12 ∨ x = 13 ∨ x = 14 ∨ x = 15 := by omega
theorem b_ne : ((⟨#[]⟩ : ByteArray) ++ ⟨#[98]⟩).toList ≠ [] := by
  rw [ByteArray.toList_eq, ByteArray.data_append]; decide
theorem insOk_says {op a : Int} {n m : ByteArray} (h : insOk op a n m = true) :
    ((op = 11 ∨ op = 12 ∨ op = 13) → 0 ≤ a ∧ a ≤ 15) ∧ ((op = 2 ∨ op = 3) → 0 ≤ a ∧ a ≤ 5) ∧ (1 ≤ op ∧ op ≤ 15) ∧ (m = ⟨#[]⟩ → ∀ u : ByteArray, u.toList ≠ [] → insOk op a n u = false) := by
  have hn : namOk ⟨#[]⟩ = false := by decide
  have hr : 1 ≤ op ∧ op ≤ 15 := by
    unfold insOk at h
    simp only [Bool.and_eq_true, Bool.or_eq_true, beq_iff_eq, decide_eq_true_eq] at h
    repeat' split at h
    all_goals first | omega | simp at h
    all_goals omega
  rcases fifteen hr with rfl | rfl | rfl | rfl | rfl | rfl | rfl | rfl | rfl | rfl | rfl | rfl | rfl | rfl | rfl
  all_goals
    refine ⟨?_, ?_, hr, ?_⟩
    · intro hx; first | (exfalso; omega) | (simp [insOk] at h; omega)
    · intro hx; first | (exfalso; omega) | (simp [insOk] at h; omega)
    · intro hm u hu
      subst hm
      simp [insOk, hn] at h
      try simp [insOk, hu]

theorem toList_nil {s : ByteArray} (h : s.toList = []) : s = ⟨#[]⟩ := by
  rw [ByteArray.toList_eq] at h
  cases s with | mk d => simp at h; subst h; rfl
set_option maxHeartbeats 1000000 in
theorem L_FnInsOk (v : Value) (w : World) (hv : Bytes w v) :
    Calls Try.prog 12 #[v] w fun e w' => e = .returned (.bool true) ∧ Below w.heap.size w w' := by
  obtain ⟨c, len, cap, rfl, g1, g2, g3⟩ := id hv
  have m1 : len ≤ 9223372036854775807 := by unfold maxLen at g2; omega
  clear g2 g3
  refine calls_hide fun R HR => ?_
  go_enter Try.func12, Try.ntmps12
  go_wp2_with fail
  all_goals first
    | (try go_returns
       exact HR.out _ _ ⟨rfl, by (repeat' (first | (with_reducible exact Below.refl _ _) | (with_reducible refine Below.alloc ?_ ?_ _) | (with_reducible refine Below.setCell ?_ ?_ _) | (with_reducible refine Below.drew ?_) | (refine below_hyp (by assumption) ?_ ?_) | go_size))⟩)
    | skip
  refine (S_DrawInsOk _ _ hv).mono ?_
  rintro _ w1 ⟨⟨op, a, n, m, k1, k2, rfl⟩, hb⟩
  have hbs := (hb).size; (try simp only [World.size_alloc, World.size_setCell, World.size_drew] at hbs)
  have z1 : n.size ≤ maxLen := by unfold maxLen; omega
  have z2 : m.size ≤ maxLen := by unfold maxLen; omega
  go_wp2_with fail
  refine (I_InsOk op a n m _ z1 z2).mono ?_
  rintro _ w2 ⟨rfl, h1⟩
  have h1s := (h1).size; (try simp only [World.size_alloc, World.size_setCell, World.size_drew] at h1s)
  obtain ⟨h1ac, h1ad, h1ao, h1af, h1ag, h1ap, h1az, h1ax, h1ay⟩ := bfacts (n := w1.heap.size) (k := 1) h1 (by go_size) (by go_size); replace h1ad := h1ad (by decide); replace h1ag := h1ag (by decide); replace h1ax := h1ax (by decide); clear h1ac h1af h1az
  go_wp2_with fail
  refine (S_InsOk op a n m _ z1 z2).mono ?_
  rintro _ w3 ⟨rfl, h2⟩
  have h2s := (h2).size; (try simp only [World.size_alloc, World.size_setCell, World.size_drew] at h2s)
  obtain ⟨h2bc, h2bd, h2bo, h2bf, h2bg, h2bp, h2bz, h2bx, h2by⟩ := bfacts (n := w1.heap.size) (k := 1) h2 (by go_size) (by go_size); replace h2bd := h2bd (by decide); replace h2bg := h2bg (by decide); replace h2bx := h2bx (by decide); clear h2bc h2bf h2bz
  cases hok : insOk op a n m
  · go_wp2_with ((go_at_call 17; refine (L_loOk' _).mono ?_; rintro _ w5 ⟨rfl, h5⟩))
    all_goals (try go_returns)
    all_goals exact HR.out _ _ ⟨rfl, by (repeat' (first | (with_reducible exact Below.refl _ _) | (with_reducible refine Below.alloc ?_ ?_ _) | (with_reducible refine Below.setCell ?_ ?_ _) | (with_reducible refine Below.drew ?_) | (refine below_hyp (by assumption) ?_ ?_) | go_size))⟩
  · obtain ⟨o1, o2, o3, o4⟩ := insOk_says hok
    have hc0 : w3.cell? ⟨w1.heap.size, 0, none⟩ = some (.int .i64 op) := by go_simp
    have hc1 : w3.cell? ⟨w1.heap.size, 1, none⟩ = some (.int .i64 a) := by go_simp
    have hc2 : w3.cell? ⟨w1.heap.size, 2, none⟩ = some (.string n) := by go_simp
    have hc3 : w3.cell? ⟨w1.heap.size, 3, none⟩ = some (.string m) := by go_simp
    clear h1ad h1ag h1ay h2bd h2bg h2by hok
    by_cases hm0 : m = ⟨#[]⟩
    · subst hm0
      have HO := Lib.hid (o4 rfl)
      have O1 := Lib.hid o1
      have O2 := Lib.hid o2
      clear o1 o2 o4
      go_wp2_with fail
      refine (I_InsOk op a n _ _ z1 (by rw [app_size]; decide)).mono ?_
      rintro _ w4 ⟨rfl, h4⟩
      rw [HO.out _ b_ne]
      have h4s := (h4).size; (try simp only [World.size_alloc, World.size_setCell, World.size_drew] at h4s)
      obtain ⟨h4dc, h4dd, h4do, h4df, h4dg, h4dp, h4dz, h4dx, h4dy⟩ := bfacts (n := w1.heap.size) (k := 1) h4 (by go_size) (by go_size); replace h4dd := h4dd (by decide); replace h4dg := h4dg (by decide); replace h4dx := h4dx (by decide); clear h4dc h4df h4dz
      clear HO
      have ht := fifteen o3
      rcases ht with rfl | rfl | rfl | rfl | rfl | rfl | rfl | rfl | rfl | rfl | rfl | rfl | rfl | rfl | rfl
      all_goals
        (first
         | (have q := O1.out (by decide); obtain ⟨q1, q2⟩ := q; have q3 : decide (0 ≤ a) = true := (by simp; omega); have q4 : decide (a < 16) = true := (by simp; omega))
         | (have q := O2.out (by decide); obtain ⟨q1, q2⟩ := q; have q3 : decide (0 ≤ a) = true := (by simp; omega); have q4 : decide (a < 6) = true := (by simp; omega))
         | skip)
        go_wp2
        all_goals (try go_returns)
        all_goals exact HR.out _ _ ⟨rfl, by (repeat' (first | (with_reducible exact Below.refl _ _) | (with_reducible refine Below.alloc ?_ ?_ _) | (with_reducible refine Below.setCell ?_ ?_ _) | (with_reducible refine Below.drew ?_) | (refine below_hyp (by assumption) ?_ ?_) | go_size))⟩
    · have hm1 : (m.toList == []) = false := by
        cases hb : (m.toList == [])
        · rfl
        · exact absurd (toList_nil (by simpa using hb)) hm0
      have hm2 : ¬ m.toList = [] := by simpa using hm1
      have O1 := Lib.hid o1
      have O2 := Lib.hid o2
      clear o1 o2 o4
      have ht := fifteen o3
      rcases ht with rfl | rfl | rfl | rfl | rfl | rfl | rfl | rfl | rfl | rfl | rfl | rfl | rfl | rfl | rfl
      all_goals
        (first
         | (have q := O1.out (by decide); obtain ⟨q1, q2⟩ := q; have q3 : decide (0 ≤ a) = true := (by simp; omega); have q4 : decide (a < 16) = true := (by simp; omega))
         | (have q := O2.out (by decide); obtain ⟨q1, q2⟩ := q; have q3 : decide (0 ≤ a) = true := (by simp; omega); have q4 : decide (a < 6) = true := (by simp; omega))
         | skip)
        go_wp2
        all_goals (try go_returns)
        all_goals exact HR.out _ _ ⟨rfl, by (repeat' (first | (with_reducible exact Below.refl _ _) | (with_reducible refine Below.alloc ?_ ?_ _) | (with_reducible refine Below.setCell ?_ ?_ _) | (with_reducible refine Below.drew ?_) | (refine below_hyp (by assumption) ?_ ?_) | go_size))⟩

end Go.Proofs.Ytchhappoidncjaa
