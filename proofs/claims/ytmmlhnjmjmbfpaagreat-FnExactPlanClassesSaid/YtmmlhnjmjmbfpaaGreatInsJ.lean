

/-
  The walk of the program's InsOk, and of the law FnExactInsOk: it returns true and leaves what was there as it was. Condition: the texts are no longer than a text may be.
-/
import Derived.Test.YtmmlhnjmjmbfpaaGreatInsI
import Derived.Deep.RegionWith
namespace Go.Proofs.YtmmlhnjmjmbfpaaGreat
set_option linter.unusedSimpArgs false
set_option linter.unusedVariables false
open Go.RowKit

set_option maxHeartbeats 400000 in
theorem I_InsOk_num (op a : Int) (n m : ByteArray) (w : World) (hn : n.size ≤ maxLen) (hm : m.size ≤ maxLen) (hv : formV op a n m = .iface 198 (.agg #[.int .i64 op, .int .i64 a])) (hfin : ((n.toList.isEmpty && m.toList.isEmpty) && (decide (rangeLo op ≤ a) && decide (a ≤ rangeHi op))) = insOk op a n m) :
    Calls Tryz.prog 96 #[.agg #[.int .i64 op, .int .i64 a, .string n, .string m]] w fun e w' => e = .returned (.bool (insOk op a n m)) ∧ Below w.heap.size w w' := by
  have HF := Lib.hid hfin
  clear hfin
  refine calls_hide fun R HR => ?_
  go_enter Tryz.func96, Tryz.ntmps96
  go_wp2_with fail
  refine (I_formOf _ _ _ _ _).mono ?_
  rw [hv]
  rintro _ w1 ⟨rfl, hb⟩
  clear hv
  have hbs := (hb).size; (try simp only [World.size_alloc, World.size_setCell, World.size_drew] at hbs); obtain ⟨hbc, hbd, hbo, hbf, hbg, hbp, hbz, hbx, hby⟩ := bfacts (n := w.heap.size) (k := 1) hb (by go_size) (by go_size); replace hbd := hbd (by decide); replace hbg := hbg (by decide); replace hbx := hbx (by decide); clear hbc hbf hbz
  go_wp2_with fail
  obtain ⟨bb, hbb⟩ : ∃ bb : Bool, bb = (n.toList.isEmpty && m.toList.isEmpty) := ⟨_, rfl⟩
  have heq : ∀ w, (binOp .eql 147 (.agg #[.int .i64 op, .int .i64 a, .string ⟨#[]⟩, .string ⟨#[]⟩]) (.agg #[.int .i64 op, .int .i64 a, .string n, .string m])).run Tryz.prog w = .ok (.bool bb) w := by
    intro w; rw [hbb]; simp only [run_eql_struct, eq_ins]; simp [Result.andThen, ByteArray.toList_eq]
  obtain ⟨rb, hrb⟩ : ∃ rb : Bool, rb = (decide (rangeLo op ≤ a) && decide (a ≤ rangeHi op)) := ⟨_, rfl⟩
  have HF2 := HF.out
  rw [← hbb, ← hrb] at HF2
  have HF3 := Lib.hid HF2
  have HRB := Lib.hid hrb
  clear hbb hrb HF2 HF
  cases hB : bb
  all_goals subst hB
  all_goals
    first | (go_region_with (first | (go_at_call 111; refine (I_insOf_num _ _ n m _).mono ?_; rintro _ w2 ⟨rfl, hd⟩; have hds := (hd).size; (try simp only [World.size_alloc, World.size_setCell, World.size_drew] at hds); obtain ⟨hdc, hdd, hdo, hdf, hdg, hdp, hdz, hdx, hdy⟩ := bfacts (n := w.heap.size) (k := 1) hd (by go_size) (by go_size); replace hdd := hdd (by decide); replace hdg := hdg (by decide); replace hdx := hdx (by decide); clear hdc hdf hdz) | (go_at_call 112; refine (I_formOk_num _ _ _).mono ?_; (try rw [← HRB.out]); rintro _ w3 ⟨rfl, he⟩))) | fail
  all_goals go_wp2
  all_goals (try go_returns)
  all_goals exact HR.out _ _ ⟨ret_bool (by rw [← HF3.out]; simp [HRB.out]), by (repeat' (first | (with_reducible exact Below.refl _ _) | (with_reducible refine Below.alloc ?_ ?_ _) | (with_reducible refine Below.setCell ?_ ?_ _) | (with_reducible refine Below.drew ?_) | (refine below_hyp (by assumption) ?_ ?_) | go_size))⟩

set_option maxHeartbeats 400000 in
theorem I_InsOk_cls (op a : Int) (n m : ByteArray) (w : World) (hn : n.size ≤ maxLen) (hm : m.size ≤ maxLen) (hv : formV op a n m = .iface 200 (.agg #[.int .i64 op, .string n])) (hfin : ((0 == a && m.toList.isEmpty) && (namOk n)) = insOk op a n m) :
    Calls Tryz.prog 96 #[.agg #[.int .i64 op, .int .i64 a, .string n, .string m]] w fun e w' => e = .returned (.bool (insOk op a n m)) ∧ Below w.heap.size w w' := by
  have HF := Lib.hid hfin
  clear hfin
  refine calls_hide fun R HR => ?_
  go_enter Tryz.func96, Tryz.ntmps96
  go_wp2_with fail
  refine (I_formOf _ _ _ _ _).mono ?_
  rw [hv]
  rintro _ w1 ⟨rfl, hb⟩
  clear hv
  have hbs := (hb).size; (try simp only [World.size_alloc, World.size_setCell, World.size_drew] at hbs); obtain ⟨hbc, hbd, hbo, hbf, hbg, hbp, hbz, hbx, hby⟩ := bfacts (n := w.heap.size) (k := 1) hb (by go_size) (by go_size); replace hbd := hbd (by decide); replace hbg := hbg (by decide); replace hbx := hbx (by decide); clear hbc hbf hbz
  go_wp2_with fail
  obtain ⟨bb, hbb⟩ : ∃ bb : Bool, bb = (0 == a && m.toList.isEmpty) := ⟨_, rfl⟩
  have heq : ∀ w, (binOp .eql 147 (.agg #[.int .i64 op, .int .i64 0, .string n, .string ⟨#[]⟩]) (.agg #[.int .i64 op, .int .i64 a, .string n, .string m])).run Tryz.prog w = .ok (.bool bb) w := by
    intro w; rw [hbb]; simp only [run_eql_struct, eq_ins]; simp [Result.andThen, ByteArray.toList_eq]
  obtain ⟨rb, hrb⟩ : ∃ rb : Bool, rb = (namOk n) := ⟨_, rfl⟩
  have HF2 := HF.out
  rw [← hbb, ← hrb] at HF2
  have HF3 := Lib.hid HF2
  have HRB := Lib.hid hrb
  clear hbb hrb HF2 HF
  cases hB : bb
  all_goals subst hB
  all_goals
    first | (go_region_with (first | (go_at_call 111; refine (I_insOf_cls _ a _ m _).mono ?_; rintro _ w2 ⟨rfl, hd⟩; have hds := (hd).size; (try simp only [World.size_alloc, World.size_setCell, World.size_drew] at hds); obtain ⟨hdc, hdd, hdo, hdf, hdg, hdp, hdz, hdx, hdy⟩ := bfacts (n := w.heap.size) (k := 1) hd (by go_size) (by go_size); replace hdd := hdd (by decide); replace hdg := hdg (by decide); replace hdx := hdx (by decide); clear hdc hdf hdz) | (go_at_call 112; refine (I_formOk_cls _ _ _ hn).mono ?_; (try rw [← HRB.out]); rintro _ w3 ⟨rfl, he⟩))) | fail
  all_goals go_wp2
  all_goals (try go_returns)
  all_goals exact HR.out _ _ ⟨ret_bool (by rw [← HF3.out]; simp [HRB.out]), by (repeat' (first | (with_reducible exact Below.refl _ _) | (with_reducible refine Below.alloc ?_ ?_ _) | (with_reducible refine Below.setCell ?_ ?_ _) | (with_reducible refine Below.drew ?_) | (refine below_hyp (by assumption) ?_ ?_) | go_size))⟩

end Go.Proofs.YtmmlhnjmjmbfpaaGreat
