
/-
  The walk of the program's InsOk, and of the law FnExactInsOk: it returns true and leaves what was there as it was. Condition: the texts are no longer than a text may be.
-/
import Derived.Test.YtchhappoidncjaaInsJ
import Derived.Test.YtchhappoidncjaaInsK
import Derived.Deep.RegionWith
namespace Go.Proofs.Ytchhappoidncjaa
set_option linter.unusedSimpArgs false
set_option linter.unusedVariables false
open Go.RowKit

theorem I_InsOk (op a : Int) (n m : ByteArray) (w : World) (hn : n.size ≤ maxLen) (hm : m.size ≤ maxLen) :
    Calls Try.prog 38 #[.agg #[.int .i64 op, .int .i64 a, .string n, .string m]] w fun e w' => e = .returned (.bool (insOk op a n m)) ∧ Below w.heap.size w w' := by
  by_cases h1 : opNum op = true
  · refine I_InsOk_num op a n m w hn hm (by simp [formV, h1]) ?_
    simp only [opNum, Bool.or_eq_true, beq_iff_eq] at h1
    rcases h1 with ((((h1 | h1) | h1) | h1) | h1) | h1 <;> subst h1 <;> simp [insOk, rangeLo, rangeHi] <;> (rw [Bool.eq_iff_iff]; simp; try (constructor <;> (intro h; simp_all)))
  by_cases h2 : opCls op = true
  · refine I_InsOk_cls op a n m w hn hm (by simp [formV, h1, h2]) ?_
    simp only [opCls, Bool.or_eq_true, beq_iff_eq] at h2
    rcases h2 with h2 | h2 <;> subst h2 <;> simp [insOk] <;> (rw [Bool.eq_iff_iff]; simp; try (constructor <;> (intro h; simp_all)))
  by_cases h3 : opMem op = true
  · refine I_InsOk_mem op a n m w hn hm (by simp [formV, h1, h2, h3]) ?_
    simp only [opMem, Bool.or_eq_true, beq_iff_eq] at h3
    rcases h3 with (h3 | h3) | h3 <;> subst h3 <;> simp [insOk] <;> (rw [Bool.eq_iff_iff]; simp; try (constructor <;> (intro h; simp_all)))
  by_cases h4 : opPln op = true
  · refine I_InsOk_pln op a n m w hn hm (by simp [formV, h1, h2, h3, h4]) ?_
    simp only [opPln, Bool.or_eq_true, beq_iff_eq] at h4
    rcases h4 with ((h4 | h4) | h4) | h4 <;> subst h4 <;> simp [insOk] <;> (rw [Bool.eq_iff_iff]; simp; try (intros; constructor <;> (intro h; exact h.symm)))
  · refine I_InsOk_nil op a n m w (by simp [formV, h1, h2, h3, h4]) ?_
    simp [opNum, opCls, opMem, opPln] at h1 h2 h3 h4
    simp [insOk, h1, h2, h3, h4]


set_option maxHeartbeats 400000 in
theorem L_szClsIns (op a l : Int) (n m : ByteArray) (w : World) (hn : n.size ≤ maxLen) (hm : m.size ≤ maxLen) (hl : 0 ≤ l ∧ l ≤ 1048576) :
    Calls Try.prog 35 #[.agg #[.int .i64 op, .int .i64 a, .string n, .string m], .int .i64 l] w fun e w' => (∃ r : Int, -1 ≤ r ∧ r ≤ l ∧ e = .returned (.int .i64 r)) ∧ Below w.heap.size w w' := by
  unfold maxLen at hn hm
  refine calls_hide fun R HR => ?_
  go_enter Try.func35, Try.ntmps35
  go_wp2
  all_goals (try go_returns)
  all_goals exact HR.out _ _ ⟨⟨_, by omega, by omega, rfl⟩, by (repeat' (first | (with_reducible exact Below.refl _ _) | (with_reducible refine Below.alloc ?_ ?_ _) | (with_reducible refine Below.setCell ?_ ?_ _) | (with_reducible refine Below.drew ?_) | (refine below_hyp (by assumption) ?_ ?_) | go_size))⟩

set_option maxHeartbeats 400000 in
theorem L_toClsIns (op a : Int) (n m : ByteArray) (w : World) :
    Calls Try.prog 37 #[.agg #[.int .i64 op, .int .i64 a, .string n, .string m]] w fun e w' => e = .returned (.agg #[.int .i64 op, .int .i64 a, .string n, .string m]) ∧ Below w.heap.size w w' := by
  refine calls_hide fun R HR => ?_
  go_enter Try.func37, Try.ntmps37
  go_wp2
  all_goals (try go_returns)
  all_goals exact HR.out _ _ ⟨rfl, by (repeat' (first | (with_reducible exact Below.refl _ _) | (with_reducible refine Below.alloc ?_ ?_ _) | (with_reducible refine Below.setCell ?_ ?_ _) | (with_reducible refine Below.drew ?_) | (refine below_hyp (by assumption) ?_ ?_) | go_size))⟩

set_option maxHeartbeats 400000 in
theorem L_InsOk (op a : Int) (n m : ByteArray) (w : World) (hn : n.size ≤ maxLen) (hm : m.size ≤ maxLen) :
    Calls Try.prog 9 #[.agg #[.int .i64 op, .int .i64 a, .string n, .string m]] w fun e w' => e = .returned (.bool true) ∧ Below w.heap.size w w' := by
  refine calls_hide fun R HR => ?_
  go_enter Try.func9, Try.ntmps9
  go_wp2_with fail
  refine (L_szClsIns _ _ _ _ _ _ hn hm (by omega)).mono ?_
  rintro e w1 ⟨⟨r, h1, h2, rfl⟩, hb⟩
  have hbs := (hb).size; (try simp only [World.size_alloc, World.size_setCell, World.size_drew] at hbs); obtain ⟨hbc, hbd, hbo, hbf, hbg, hbp, hbz, hbx, hby⟩ := bfacts (n := w.heap.size) (k := 1) hb (by go_size) (by go_size); replace hbd := hbd (by decide); replace hbg := hbg (by decide); replace hbx := hbx (by decide); clear hbc hbf hbz
  by_cases hr : r < 0
  · go_wp2
    all_goals (try go_returns)
    all_goals exact HR.out _ _ ⟨rfl, by (repeat' (first | (with_reducible exact Below.refl _ _) | (with_reducible refine Below.alloc ?_ ?_ _) | (with_reducible refine Below.setCell ?_ ?_ _) | (with_reducible refine Below.drew ?_) | (refine below_hyp (by assumption) ?_ ?_) | go_size))⟩
  go_wp2_with (first | (go_at_call 37; refine (L_toClsIns _ _ _ _ _).mono ?_; rintro _ w2 ⟨rfl, hd⟩; have hds := (hd).size; (try simp only [World.size_alloc, World.size_setCell, World.size_drew] at hds); obtain ⟨hdc, hdd, hdo, hdf, hdg, hdp, hdz, hdx, hdy⟩ := bfacts (n := w.heap.size) (k := 1) hd (by go_size) (by go_size); replace hdd := hdd (by decide); replace hdg := hdg (by decide); replace hdx := hdx (by decide); clear hdc hdf hdz) | (go_at_call 36; refine (S_InsOk _ _ _ _ _ hn hm).mono ?_; rintro _ w3 ⟨rfl, he⟩; have hes := (he).size; (try simp only [World.size_alloc, World.size_setCell, World.size_drew] at hes); obtain ⟨hec, hed, heo, hef, heg, hep, hez, hex, hey⟩ := bfacts (n := w.heap.size) (k := 1) he (by go_size) (by go_size); replace hed := hed (by decide); replace heg := heg (by decide); replace hex := hex (by decide); clear hec hef hez) | (go_at_call 38; refine (I_InsOk _ _ _ _ _ hn hm).mono ?_; rintro _ w4 ⟨rfl, hg⟩; have hgs := (hg).size; (try simp only [World.size_alloc, World.size_setCell, World.size_drew] at hgs); obtain ⟨hgc, hgd, hgo, hgf, hgg, hgp, hgz, hgx, hgy⟩ := bfacts (n := w.heap.size) (k := 1) hg (by go_size) (by go_size); replace hgd := hgd (by decide); replace hgg := hgg (by decide); replace hgx := hgx (by decide); clear hgc hgf hgz))
  all_goals (try go_returns)
  all_goals exact HR.out _ _ ⟨rfl, by (repeat' (first | (with_reducible exact Below.refl _ _) | (with_reducible refine Below.alloc ?_ ?_ _) | (with_reducible refine Below.setCell ?_ ?_ _) | (with_reducible refine Below.drew ?_) | (refine below_hyp (by assumption) ?_ ?_) | go_size))⟩

end Go.Proofs.Ytchhappoidncjaa
