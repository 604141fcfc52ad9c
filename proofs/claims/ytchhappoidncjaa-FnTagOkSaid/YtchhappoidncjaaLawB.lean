
/-
  The walks of the laws FnExactKndText, FnExactTagOf, FnExactTagText: each returns true and leaves what was there as it was. Condition: the texts are no longer than a text may be.
-/
import Derived.Test.YtchhappoidncjaaText
namespace Go.Proofs.Ytchhappoidncjaa
set_option linter.unusedSimpArgs false
set_option linter.unusedVariables false
open Go.RowKit


set_option maxHeartbeats 400000 in
theorem L_szKndKind (k l : Int) (n : ByteArray) (w : World) (hn : n.size ≤ maxLen) (hl : 0 ≤ l ∧ l ≤ 1048576) :
    Calls Try.prog 18 #[.agg #[.int .i64 k, .string n], .int .i64 l] w fun e w' => (∃ r : Int, -1 ≤ r ∧ r ≤ l ∧ e = .returned (.int .i64 r)) ∧ Below w.heap.size w w' := by
  unfold maxLen at hn
  refine calls_hide fun R HR => ?_
  go_enter Try.func18, Try.ntmps18
  go_wp2
  all_goals (try go_returns)
  all_goals exact HR.out _ _ ⟨⟨_, by omega, by omega, rfl⟩, by (repeat' (first | (with_reducible exact Below.refl _ _) | (with_reducible refine Below.alloc ?_ ?_ _) | (with_reducible refine Below.setCell ?_ ?_ _) | (with_reducible refine Below.drew ?_) | (refine below_hyp (by assumption) ?_ ?_) | go_size))⟩

set_option maxHeartbeats 400000 in
theorem L_szTagTag (k l : Int) (n : ByteArray) (w : World) (hn : n.size ≤ maxLen) (hl : 0 ≤ l ∧ l ≤ 1048576) :
    Calls Try.prog 28 #[.agg #[.int .i64 k, .string n], .int .i64 l] w fun e w' => (∃ r : Int, -1 ≤ r ∧ r ≤ l ∧ e = .returned (.int .i64 r)) ∧ Below w.heap.size w w' := by
  unfold maxLen at hn
  refine calls_hide fun R HR => ?_
  go_enter Try.func28, Try.ntmps28
  go_wp2
  all_goals (try go_returns)
  all_goals exact HR.out _ _ ⟨⟨_, by omega, by omega, rfl⟩, by (repeat' (first | (with_reducible exact Below.refl _ _) | (with_reducible refine Below.alloc ?_ ?_ _) | (with_reducible refine Below.setCell ?_ ?_ _) | (with_reducible refine Below.drew ?_) | (refine below_hyp (by assumption) ?_ ?_) | go_size))⟩

set_option maxHeartbeats 400000 in
theorem L_toKndKind (k : Int) (n : ByteArray) (w : World) :
    Calls Try.prog 20 #[.agg #[.int .i64 k, .string n]] w fun e w' => e = .returned (.agg #[.int .i64 k, .string n]) ∧ Below w.heap.size w w' := by
  refine calls_hide fun R HR => ?_
  go_enter Try.func20, Try.ntmps20
  go_wp2
  all_goals (try go_returns)
  all_goals exact HR.out _ _ ⟨rfl, by (repeat' (first | (with_reducible exact Below.refl _ _) | (with_reducible refine Below.alloc ?_ ?_ _) | (with_reducible refine Below.setCell ?_ ?_ _) | (with_reducible refine Below.drew ?_) | (refine below_hyp (by assumption) ?_ ?_) | go_size))⟩

set_option maxHeartbeats 400000 in
theorem L_toTagTag (k : Int) (n : ByteArray) (w : World) :
    Calls Try.prog 30 #[.agg #[.int .i64 k, .string n]] w fun e w' => e = .returned (.agg #[.int .i64 k, .string n]) ∧ Below w.heap.size w w' := by
  refine calls_hide fun R HR => ?_
  go_enter Try.func30, Try.ntmps30
  go_wp2
  all_goals (try go_returns)
  all_goals exact HR.out _ _ ⟨rfl, by (repeat' (first | (with_reducible exact Below.refl _ _) | (with_reducible refine Below.alloc ?_ ?_ _) | (with_reducible refine Below.setCell ?_ ?_ _) | (with_reducible refine Below.drew ?_) | (refine below_hyp (by assumption) ?_ ?_) | go_size))⟩

set_option maxHeartbeats 400000 in
theorem L_eqTagTag (k : Int) (n : ByteArray) (k' : Int) (n' : ByteArray) (w : World) :
    Calls Try.prog 24 #[.agg #[.int .i64 k, .string n], .agg #[.int .i64 k', .string n']] w fun e w' => e = .returned (.bool (k == k' && n.toList == n'.toList)) ∧ Below w.heap.size w w' := by
  refine calls_hide fun R HR => ?_
  go_enter Try.func24, Try.ntmps24
  go_wp2
  all_goals (try go_returns)
  all_goals exact HR.out _ _ ⟨ret_bool (by first | (simp [true_and, *]; done) | (simp_all [true_and]; done) | (simp_all [true_and]; omega) | (simp [true_and, *]; intros; omega)), by (repeat' (first | (with_reducible exact Below.refl _ _) | (with_reducible refine Below.alloc ?_ ?_ _) | (with_reducible refine Below.setCell ?_ ?_ _) | (with_reducible refine Below.drew ?_) | (refine below_hyp (by assumption) ?_ ?_) | go_size))⟩


set_option maxHeartbeats 400000 in
theorem L_KndText (k : Int) (n : ByteArray) (w : World) (hn : n.size ≤ maxLen) :
    Calls Try.prog 4 #[.agg #[.int .i64 k, .string n]] w fun e w' => e = .returned (.bool true) ∧ Below w.heap.size w w' := by
  refine calls_hide fun R HR => ?_
  go_enter Try.func4, Try.ntmps4
  go_wp2_with fail
  refine (L_szKndKind _ _ _ _ hn (by omega)).mono ?_
  rintro e w1 ⟨⟨r, h1, h2, rfl⟩, hb⟩
  have hbs := (hb).size; (try simp only [World.size_alloc, World.size_setCell, World.size_drew] at hbs); obtain ⟨hbc, hbd, hbo, hbf, hbg, hbp, hbz, hbx, hby⟩ := bfacts (n := w.heap.size) (k := 1) hb (by go_size) (by go_size); replace hbd := hbd (by decide); replace hbg := hbg (by decide); replace hbx := hbx (by decide); clear hbc hbf hbz
  by_cases hr : r < 0
  · go_wp2
    all_goals (try go_returns)
    all_goals exact HR.out _ _ ⟨rfl, by (repeat' (first | (with_reducible exact Below.refl _ _) | (with_reducible refine Below.alloc ?_ ?_ _) | (with_reducible refine Below.setCell ?_ ?_ _) | (with_reducible refine Below.drew ?_) | (refine below_hyp (by assumption) ?_ ?_) | go_size))⟩
  go_wp2_with (first | (go_at_call 20; refine (L_toKndKind _ _ _).mono ?_; rintro _ w2 ⟨rfl, hd⟩; have hds := (hd).size; (try simp only [World.size_alloc, World.size_setCell, World.size_drew] at hds); obtain ⟨hdc, hdd, hdo, hdf, hdg, hdp, hdz, hdx, hdy⟩ := bfacts (n := w.heap.size) (k := 1) hd (by go_size) (by go_size); replace hdd := hdd (by decide); replace hdg := hdg (by decide); replace hdx := hdx (by decide); clear hdc hdf hdz) | (go_at_call 19; refine (S_KndText _ _ _ hn).mono ?_; rintro _ w3 ⟨rfl, he⟩; have hes := (he).size; (try simp only [World.size_alloc, World.size_setCell, World.size_drew] at hes); obtain ⟨hec, hed, heo, hef, heg, hep, hez, hex, hey⟩ := bfacts (n := w.heap.size) (k := 1) he (by go_size) (by go_size); replace hed := hed (by decide); replace heg := heg (by decide); replace hex := hex (by decide); clear hec hef hez) | (go_at_call 21; refine (I_KndText _ _ _ hn).mono ?_; rintro _ w4 ⟨rfl, hg⟩; have hgs := (hg).size; (try simp only [World.size_alloc, World.size_setCell, World.size_drew] at hgs); obtain ⟨hgc, hgd, hgo, hgf, hgg, hgp, hgz, hgx, hgy⟩ := bfacts (n := w.heap.size) (k := 1) hg (by go_size) (by go_size); replace hgd := hgd (by decide); replace hgg := hgg (by decide); replace hgx := hgx (by decide); clear hgc hgf hgz))
  all_goals (try go_returns)
  all_goals exact HR.out _ _ ⟨rfl, by (repeat' (first | (with_reducible exact Below.refl _ _) | (with_reducible refine Below.alloc ?_ ?_ _) | (with_reducible refine Below.setCell ?_ ?_ _) | (with_reducible refine Below.drew ?_) | (refine below_hyp (by assumption) ?_ ?_) | go_size))⟩

set_option maxHeartbeats 400000 in
theorem L_TagText (k : Int) (n : ByteArray) (w : World) (hn : n.size ≤ maxLen) :
    Calls Try.prog 7 #[.agg #[.int .i64 k, .string n]] w fun e w' => e = .returned (.bool true) ∧ Below w.heap.size w w' := by
  refine calls_hide fun R HR => ?_
  go_enter Try.func7, Try.ntmps7
  go_wp2_with fail
  refine (L_szTagTag _ _ _ _ hn (by omega)).mono ?_
  rintro e w1 ⟨⟨r, h1, h2, rfl⟩, hb⟩
  have hbs := (hb).size; (try simp only [World.size_alloc, World.size_setCell, World.size_drew] at hbs); obtain ⟨hbc, hbd, hbo, hbf, hbg, hbp, hbz, hbx, hby⟩ := bfacts (n := w.heap.size) (k := 1) hb (by go_size) (by go_size); replace hbd := hbd (by decide); replace hbg := hbg (by decide); replace hbx := hbx (by decide); clear hbc hbf hbz
  by_cases hr : r < 0
  · go_wp2
    all_goals (try go_returns)
    all_goals exact HR.out _ _ ⟨rfl, by (repeat' (first | (with_reducible exact Below.refl _ _) | (with_reducible refine Below.alloc ?_ ?_ _) | (with_reducible refine Below.setCell ?_ ?_ _) | (with_reducible refine Below.drew ?_) | (refine below_hyp (by assumption) ?_ ?_) | go_size))⟩
  go_wp2_with (first | (go_at_call 30; refine (L_toTagTag _ _ _).mono ?_; rintro _ w2 ⟨rfl, hd⟩; have hds := (hd).size; (try simp only [World.size_alloc, World.size_setCell, World.size_drew] at hds); obtain ⟨hdc, hdd, hdo, hdf, hdg, hdp, hdz, hdx, hdy⟩ := bfacts (n := w.heap.size) (k := 1) hd (by go_size) (by go_size); replace hdd := hdd (by decide); replace hdg := hdg (by decide); replace hdx := hdx (by decide); clear hdc hdf hdz) | (go_at_call 29; refine (S_TagText _ _ _ hn).mono ?_; rintro _ w3 ⟨rfl, he⟩; have hes := (he).size; (try simp only [World.size_alloc, World.size_setCell, World.size_drew] at hes); obtain ⟨hec, hed, heo, hef, heg, hep, hez, hex, hey⟩ := bfacts (n := w.heap.size) (k := 1) he (by go_size) (by go_size); replace hed := hed (by decide); replace heg := heg (by decide); replace hex := hex (by decide); clear hec hef hez) | (go_at_call 31; refine (I_TagText _ _ _ hn).mono ?_; rintro _ w4 ⟨rfl, hg⟩; have hgs := (hg).size; (try simp only [World.size_alloc, World.size_setCell, World.size_drew] at hgs); obtain ⟨hgc, hgd, hgo, hgf, hgg, hgp, hgz, hgx, hgy⟩ := bfacts (n := w.heap.size) (k := 1) hg (by go_size) (by go_size); replace hgd := hgd (by decide); replace hgg := hgg (by decide); replace hgx := hgx (by decide); clear hgc hgf hgz))
  all_goals (try go_returns)
  all_goals exact HR.out _ _ ⟨rfl, by (repeat' (first | (with_reducible exact Below.refl _ _) | (with_reducible refine Below.alloc ?_ ?_ _) | (with_reducible refine Below.setCell ?_ ?_ _) | (with_reducible refine Below.drew ?_) | (refine below_hyp (by assumption) ?_ ?_) | go_size))⟩

/-- the tag of a kind -/
def toK (k : Int) (n : ByteArray) : Int := if kndOk k n then k else 0
def toN (k : Int) (n : ByteArray) : ByteArray := if kndOk k n then n else ⟨#[]⟩
theorem tagOf_eq (k : Int) (n : ByteArray) : (if kndOk k n then Value.agg #[.int .i64 k, .string n] else .agg #[.int .i64 0, .string ⟨#[]⟩]) = .agg #[.int .i64 (toK k n), .string (toN k n)] := by
  unfold toK toN; cases kndOk k n <;> rfl

theorem toN_size {k : Int} {n : ByteArray} (h : n.size ≤ maxLen) : (toN k n).size ≤ maxLen := by
  unfold toN; split
  · exact h
  · exact Nat.zero_le _

theorem S_TagOf' (k : Int) (n : ByteArray) (w : World) (hn : n.size ≤ maxLen) :
    Calls Try.prog 22 #[.agg #[.int .i64 k, .string n]] w fun e w' => e = .returned (.agg #[.int .i64 (toK k n), .string (toN k n)]) ∧ Below w.heap.size w w' := by
  have h := S_TagOf k n w hn
  rw [tagOf_eq] at h; exact h
theorem I_TagOf' (k : Int) (n : ByteArray) (w : World) (hn : n.size ≤ maxLen) :
    Calls Try.prog 23 #[.agg #[.int .i64 k, .string n]] w fun e w' => e = .returned (.agg #[.int .i64 (toK k n), .string (toN k n)]) ∧ Below w.heap.size w w' := by
  have h := I_TagOf k n w hn
  rw [tagOf_eq] at h; exact h

set_option maxHeartbeats 400000 in
theorem L_TagOf (k : Int) (n : ByteArray) (w : World) (hn : n.size ≤ maxLen) :
    Calls Try.prog 5 #[.agg #[.int .i64 k, .string n]] w fun e w' => e = .returned (.bool true) ∧ Below w.heap.size w w' := by
  refine calls_hide fun R HR => ?_
  go_enter Try.func5, Try.ntmps5
  go_wp2_with fail
  refine (L_szKndKind _ _ _ _ hn (by omega)).mono ?_
  rintro e w1 ⟨⟨r, h1, h2, rfl⟩, hb⟩
  have hbs := (hb).size; (try simp only [World.size_alloc, World.size_setCell, World.size_drew] at hbs); obtain ⟨hbc, hbd, hbo, hbf, hbg, hbp, hbz, hbx, hby⟩ := bfacts (n := w.heap.size) (k := 1) hb (by go_size) (by go_size); replace hbd := hbd (by decide); replace hbg := hbg (by decide); replace hbx := hbx (by decide); clear hbc hbf hbz
  by_cases hr : r < 0
  · go_wp2
    all_goals (try go_returns)
    all_goals exact HR.out _ _ ⟨rfl, by (repeat' (first | (with_reducible exact Below.refl _ _) | (with_reducible refine Below.alloc ?_ ?_ _) | (with_reducible refine Below.setCell ?_ ?_ _) | (with_reducible refine Below.drew ?_) | (refine below_hyp (by assumption) ?_ ?_) | go_size))⟩
  go_wp2_with fail
  refine (L_toKndKind _ _ _).mono ?_
  rintro _ w2 ⟨rfl, hd⟩
  have hds := (hd).size; (try simp only [World.size_alloc, World.size_setCell, World.size_drew] at hds); obtain ⟨hdc, hdd, hdo, hdf, hdg, hdp, hdz, hdx, hdy⟩ := bfacts (n := w.heap.size) (k := 1) hd (by go_size) (by go_size); replace hdd := hdd (by decide); replace hdg := hdg (by decide); replace hdx := hdx (by decide); clear hdc hdf hdz
  go_wp2_with fail
  refine (S_TagOf' _ _ _ hn).mono ?_
  rintro _ w3 ⟨rfl, he⟩
  have hes := (he).size; (try simp only [World.size_alloc, World.size_setCell, World.size_drew] at hes); obtain ⟨hec, hed, heo, hef, heg, hep, hez, hex, hey⟩ := bfacts (n := w.heap.size) (k := 1) he (by go_size) (by go_size); replace hed := hed (by decide); replace heg := heg (by decide); replace hex := hex (by decide); clear hec hef hez
  go_wp2_with fail
  refine (L_toKndKind _ _ _).mono ?_
  rintro _ w4 ⟨rfl, hg⟩
  have hgs := (hg).size; (try simp only [World.size_alloc, World.size_setCell, World.size_drew] at hgs)
  obtain ⟨hgac, hgad, hgao, hgaf, hgag, hgap, hgaz, hgax, hgay⟩ := bfacts (n := w3.heap.size) (k := 1) hg (by go_size) (by go_size); replace hgad := hgad (by decide); replace hgag := hgag (by decide); replace hgax := hgax (by decide); clear hgac hgaf hgaz
  go_wp2_with fail
  refine (I_TagOf' _ _ _ hn).mono ?_
  rintro _ w5 ⟨rfl, hh⟩
  have hhs := (hh).size; (try simp only [World.size_alloc, World.size_setCell, World.size_drew] at hhs)
  obtain ⟨hhac, hhad, hhao, hhaf, hhag, hhap, hhaz, hhax, hhay⟩ := bfacts (n := w3.heap.size) (k := 1) hh (by go_size) (by go_size); replace hhad := hhad (by decide); replace hhag := hhag (by decide); replace hhax := hhax (by decide); clear hhac hhaf hhaz
  go_wp2_with fail
  refine (L_eqTagTag _ _ _ _ _).mono ?_
  rintro _ w6 ⟨rfl, hi⟩
  go_wp2
  all_goals (try go_returns)
  all_goals exact HR.out _ _ ⟨ret_bool (by first | (simp [true_and, *]; done) | (simp_all [true_and]; done) | (simp_all [true_and]; omega) | (simp [true_and, *]; intros; omega)), by (repeat' (first | (with_reducible exact Below.refl _ _) | (with_reducible refine Below.alloc ?_ ?_ _) | (with_reducible refine Below.setCell ?_ ?_ _) | (with_reducible refine Below.drew ?_) | (refine below_hyp (by assumption) ?_ ?_) | go_size))⟩

end Go.Proofs.Ytchhappoidncjaa
