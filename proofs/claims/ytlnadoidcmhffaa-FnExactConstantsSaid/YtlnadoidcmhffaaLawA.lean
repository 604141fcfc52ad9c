
/-
  The walks of the laws FnExactConstants, FnExactNamOk, FnExactKndOk, FnExactTagOk, FnExactKndRead: each returns true and leaves what was there as it was. Condition: the texts are no longer than a text may be.
-/
import Derived.Test.YtlnadoidcmhffaaKind
namespace Go.Proofs.Ytlnadoidcmhffaa
set_option linter.unusedSimpArgs false
set_option linter.unusedVariables false
open Go.RowKit

set_option maxHeartbeats 400000 in
theorem L_Constants (w : World) : Calls Try.prog 3 #[] w fun e w' => e = .returned (.bool true) ∧ Below w.heap.size w w' := by
  refine calls_hide fun R HR => ?_
  go_enter Try.func3, Try.ntmps3
  go_wp2
  all_goals (try go_returns)
  all_goals exact HR.out _ _ ⟨rfl, by (repeat' (first | (with_reducible exact Below.refl _ _) | (with_reducible refine Below.alloc ?_ ?_ _) | (with_reducible refine Below.setCell ?_ ?_ _) | (with_reducible refine Below.drew ?_) | (refine below_hyp (by assumption) ?_ ?_) | go_size))⟩

set_option maxHeartbeats 400000 in
theorem L_NamOk (s : ByteArray) (w : World) (hs : s.size ≤ maxLen) :
    Calls Try.prog 4 #[.string s] w fun e w' => e = .returned (.bool true) ∧ Below w.heap.size w w' := by
  refine calls_hide fun R HR => ?_
  go_enter Try.func4, Try.ntmps4
  go_wp2_with (first | (go_at_call 8; refine (S_NamOk _ _ hs).mono ?_; rintro e w' ⟨rfl, rfl⟩) | (go_at_call 9; refine (I_NamOk _ _ hs).mono ?_; rintro e w' ⟨rfl, rfl⟩))
  all_goals (try go_returns)
  all_goals exact HR.out _ _ ⟨rfl, by (repeat' (first | (with_reducible exact Below.refl _ _) | (with_reducible refine Below.alloc ?_ ?_ _) | (with_reducible refine Below.setCell ?_ ?_ _) | (with_reducible refine Below.drew ?_) | (refine below_hyp (by assumption) ?_ ?_) | go_size))⟩

set_option maxHeartbeats 400000 in
theorem L_szKndKind (k l : Int) (n : ByteArray) (w : World) (hn : n.size ≤ maxLen) (hl : 0 ≤ l ∧ l ≤ 1048576) :
    Calls Try.prog 10 #[.agg #[.int .i64 k, .string n], .int .i64 l] w fun e w' => (∃ r : Int, -1 ≤ r ∧ r ≤ l ∧ e = .returned (.int .i64 r)) ∧ Below w.heap.size w w' := by
  unfold maxLen at hn
  refine calls_hide fun R HR => ?_
  go_enter Try.func10, Try.ntmps10
  go_wp2
  all_goals (try go_returns)
  all_goals exact HR.out _ _ ⟨⟨_, by omega, by omega, rfl⟩, by (repeat' (first | (with_reducible exact Below.refl _ _) | (with_reducible refine Below.alloc ?_ ?_ _) | (with_reducible refine Below.setCell ?_ ?_ _) | (with_reducible refine Below.drew ?_) | (refine below_hyp (by assumption) ?_ ?_) | go_size))⟩

set_option maxHeartbeats 400000 in
theorem L_szTagTag (k l : Int) (n : ByteArray) (w : World) (hn : n.size ≤ maxLen) (hl : 0 ≤ l ∧ l ≤ 1048576) :
    Calls Try.prog 14 #[.agg #[.int .i64 k, .string n], .int .i64 l] w fun e w' => (∃ r : Int, -1 ≤ r ∧ r ≤ l ∧ e = .returned (.int .i64 r)) ∧ Below w.heap.size w w' := by
  unfold maxLen at hn
  refine calls_hide fun R HR => ?_
  go_enter Try.func14, Try.ntmps14
  go_wp2
  all_goals (try go_returns)
  all_goals exact HR.out _ _ ⟨⟨_, by omega, by omega, rfl⟩, by (repeat' (first | (with_reducible exact Below.refl _ _) | (with_reducible refine Below.alloc ?_ ?_ _) | (with_reducible refine Below.setCell ?_ ?_ _) | (with_reducible refine Below.drew ?_) | (refine below_hyp (by assumption) ?_ ?_) | go_size))⟩

set_option maxHeartbeats 400000 in
theorem L_toKndKind (k : Int) (n : ByteArray) (w : World) :
    Calls Try.prog 12 #[.agg #[.int .i64 k, .string n]] w fun e w' => e = .returned (.agg #[.int .i64 k, .string n]) ∧ Below w.heap.size w w' := by
  refine calls_hide fun R HR => ?_
  go_enter Try.func12, Try.ntmps12
  go_wp2
  all_goals (try go_returns)
  all_goals exact HR.out _ _ ⟨rfl, by (repeat' (first | (with_reducible exact Below.refl _ _) | (with_reducible refine Below.alloc ?_ ?_ _) | (with_reducible refine Below.setCell ?_ ?_ _) | (with_reducible refine Below.drew ?_) | (refine below_hyp (by assumption) ?_ ?_) | go_size))⟩

set_option maxHeartbeats 400000 in
theorem L_toTagTag (k : Int) (n : ByteArray) (w : World) :
    Calls Try.prog 16 #[.agg #[.int .i64 k, .string n]] w fun e w' => e = .returned (.agg #[.int .i64 k, .string n]) ∧ Below w.heap.size w w' := by
  refine calls_hide fun R HR => ?_
  go_enter Try.func16, Try.ntmps16
  go_wp2
  all_goals (try go_returns)
  all_goals exact HR.out _ _ ⟨rfl, by (repeat' (first | (with_reducible exact Below.refl _ _) | (with_reducible refine Below.alloc ?_ ?_ _) | (with_reducible refine Below.setCell ?_ ?_ _) | (with_reducible refine Below.drew ?_) | (refine below_hyp (by assumption) ?_ ?_) | go_size))⟩

set_option maxHeartbeats 400000 in
theorem L_eqKndKind (k : Int) (n : ByteArray) (k' : Int) (n' : ByteArray) (w : World) :
    Calls Try.prog 20 #[.agg #[.int .i64 k, .string n], .agg #[.int .i64 k', .string n']] w fun e w' => e = .returned (.bool (k == k' && n.toList == n'.toList)) ∧ Below w.heap.size w w' := by
  refine calls_hide fun R HR => ?_
  go_enter Try.func20, Try.ntmps20
  go_wp2
  all_goals (try go_returns)
  all_goals exact HR.out _ _ ⟨ret_bool (by first | (simp [true_and, *]; done) | (simp_all [true_and]; done) | (simp_all [true_and]; omega) | (simp [true_and, *]; intros; omega)), by (repeat' (first | (with_reducible exact Below.refl _ _) | (with_reducible refine Below.alloc ?_ ?_ _) | (with_reducible refine Below.setCell ?_ ?_ _) | (with_reducible refine Below.drew ?_) | (refine below_hyp (by assumption) ?_ ?_) | go_size))⟩

set_option maxHeartbeats 400000 in
theorem L_KndOk (k : Int) (n : ByteArray) (w : World) (hn : n.size ≤ maxLen) :
    Calls Try.prog 5 #[.agg #[.int .i64 k, .string n]] w fun e w' => e = .returned (.bool true) ∧ Below w.heap.size w w' := by
  refine calls_hide fun R HR => ?_
  go_enter Try.func5, Try.ntmps5
  go_wp2_with fail
  refine (L_szKndKind _ _ _ _ hn (by omega)).mono ?_
  rintro e w1 ⟨⟨r, h1, h2, rfl⟩, hb⟩
  have hbs := (hb).size; (try simp only [World.size_alloc, World.size_setCell, World.size_drew] at hbs); obtain ⟨hbc, hbd, hbo, hbf, hbg, hbp, hbz, hbx, hby⟩ := bfacts (n := w.heap.size) (k := 1) hb (by go_size) (by go_size)
  by_cases hr : r < 0
  · go_wp2
    all_goals (try go_returns)
    all_goals exact HR.out _ _ ⟨rfl, by (repeat' (first | (with_reducible exact Below.refl _ _) | (with_reducible refine Below.alloc ?_ ?_ _) | (with_reducible refine Below.setCell ?_ ?_ _) | (with_reducible refine Below.drew ?_) | (refine below_hyp (by assumption) ?_ ?_) | go_size))⟩
  go_wp2_with (first | (go_at_call 12; refine (L_toKndKind _ _ _).mono ?_; rintro _ w2 ⟨rfl, hd⟩; have hds := (hd).size; (try simp only [World.size_alloc, World.size_setCell, World.size_drew] at hds); obtain ⟨hdc, hdd, hdo, hdf, hdg, hdp, hdz, hdx, hdy⟩ := bfacts (n := w.heap.size) (k := 1) hd (by go_size) (by go_size)) | (go_at_call 11; refine (S_KndOk _ _ _ hn).mono ?_; rintro _ w3 ⟨rfl, he⟩; have hes := (he).size; (try simp only [World.size_alloc, World.size_setCell, World.size_drew] at hes); obtain ⟨hec, hed, heo, hef, heg, hep, hez, hex, hey⟩ := bfacts (n := w.heap.size) (k := 1) he (by go_size) (by go_size)) | (go_at_call 13; refine (I_KndOk _ _ _ hn).mono ?_; rintro _ w4 ⟨rfl, hg⟩; have hgs := (hg).size; (try simp only [World.size_alloc, World.size_setCell, World.size_drew] at hgs); obtain ⟨hgc, hgd, hgo, hgf, hgg, hgp, hgz, hgx, hgy⟩ := bfacts (n := w.heap.size) (k := 1) hg (by go_size) (by go_size)))
  all_goals (try go_returns)
  all_goals exact HR.out _ _ ⟨rfl, by (repeat' (first | (with_reducible exact Below.refl _ _) | (with_reducible refine Below.alloc ?_ ?_ _) | (with_reducible refine Below.setCell ?_ ?_ _) | (with_reducible refine Below.drew ?_) | (refine below_hyp (by assumption) ?_ ?_) | go_size))⟩

set_option maxHeartbeats 400000 in
theorem L_TagOk (k : Int) (n : ByteArray) (w : World) (hn : n.size ≤ maxLen) :
    Calls Try.prog 6 #[.agg #[.int .i64 k, .string n]] w fun e w' => e = .returned (.bool true) ∧ Below w.heap.size w w' := by
  refine calls_hide fun R HR => ?_
  go_enter Try.func6, Try.ntmps6
  go_wp2_with fail
  refine (L_szTagTag _ _ _ _ hn (by omega)).mono ?_
  rintro e w1 ⟨⟨r, h1, h2, rfl⟩, hb⟩
  have hbs := (hb).size; (try simp only [World.size_alloc, World.size_setCell, World.size_drew] at hbs); obtain ⟨hbc, hbd, hbo, hbf, hbg, hbp, hbz, hbx, hby⟩ := bfacts (n := w.heap.size) (k := 1) hb (by go_size) (by go_size)
  by_cases hr : r < 0
  · go_wp2
    all_goals (try go_returns)
    all_goals exact HR.out _ _ ⟨rfl, by (repeat' (first | (with_reducible exact Below.refl _ _) | (with_reducible refine Below.alloc ?_ ?_ _) | (with_reducible refine Below.setCell ?_ ?_ _) | (with_reducible refine Below.drew ?_) | (refine below_hyp (by assumption) ?_ ?_) | go_size))⟩
  go_wp2_with (first | (go_at_call 16; refine (L_toTagTag _ _ _).mono ?_; rintro _ w2 ⟨rfl, hd⟩; have hds := (hd).size; (try simp only [World.size_alloc, World.size_setCell, World.size_drew] at hds); obtain ⟨hdc, hdd, hdo, hdf, hdg, hdp, hdz, hdx, hdy⟩ := bfacts (n := w.heap.size) (k := 1) hd (by go_size) (by go_size)) | (go_at_call 15; refine (S_TagOk _ _ _ hn).mono ?_; rintro _ w2 ⟨rfl, hd⟩; have hds := (hd).size; (try simp only [World.size_alloc, World.size_setCell, World.size_drew] at hds); obtain ⟨hdc, hdd, hdo, hdf, hdg, hdp, hdz, hdx, hdy⟩ := bfacts (n := w.heap.size) (k := 1) hd (by go_size) (by go_size)) | (go_at_call 17; refine (I_TagOk _ _ _ hn).mono ?_; rintro _ w2 ⟨rfl, hd⟩; have hds := (hd).size; (try simp only [World.size_alloc, World.size_setCell, World.size_drew] at hds); obtain ⟨hdc, hdd, hdo, hdf, hdg, hdp, hdz, hdx, hdy⟩ := bfacts (n := w.heap.size) (k := 1) hd (by go_size) (by go_size)))
  all_goals (try go_returns)
  all_goals exact HR.out _ _ ⟨rfl, by (repeat' (first | (with_reducible exact Below.refl _ _) | (with_reducible refine Below.alloc ?_ ?_ _) | (with_reducible refine Below.setCell ?_ ?_ _) | (with_reducible refine Below.drew ?_) | (refine below_hyp (by assumption) ?_ ?_) | go_size))⟩

/-- the kind that KndRead reads -/
def krK (s : ByteArray) : Int := if s.toList == [35] then 1 else if namOk s then 2 else 0
def krN (s : ByteArray) : ByteArray := if s.toList == [35] then ⟨#[]⟩ else if namOk s then s else ⟨#[]⟩
def krB (s : ByteArray) : Bool := s.toList == [35] || namOk s
theorem kndReadV_eq (s : ByteArray) : kndReadV s = .tuple #[.agg #[.int .i64 (krK s), .string (krN s)], .bool (krB s)] := by
  unfold kndReadV krK krN krB
  cases s.toList == [35] <;> cases namOk s <;> simp

set_option maxHeartbeats 400000 in
theorem L_KndRead (s : ByteArray) (w : World) (hs : s.size ≤ maxLen) :
    Calls Try.prog 7 #[.string s] w fun e w' => e = .returned (.bool true) ∧ Below w.heap.size w w' := by
  have HS := fun w => S_KndRead s w hs
  have HI := fun w => I_KndRead s w hs
  simp only [kndReadV_eq] at HS HI
  have KS := Lib.hid HS
  have KI := Lib.hid HI
  clear HS HI
  refine calls_hide fun R HR => ?_
  go_enter Try.func7, Try.ntmps7
  go_wp2_with fail
  · (try go_returns)
    exact HR.out _ _ ⟨rfl, by (repeat' (first | (with_reducible exact Below.refl _ _) | (with_reducible refine Below.alloc ?_ ?_ _) | (with_reducible refine Below.setCell ?_ ?_ _) | (with_reducible refine Below.drew ?_) | (refine below_hyp (by assumption) ?_ ?_) | go_size))⟩
  refine (KS.out _).mono ?_
  rintro _ w1 ⟨rfl, h1⟩
  have h1s := (h1).size; (try simp only [World.size_alloc, World.size_setCell, World.size_drew] at h1s)
  go_wp2_with fail
  refine (KI.out _).mono ?_
  rintro _ w2 ⟨rfl, h2⟩
  have h2s := (h2).size; (try simp only [World.size_alloc, World.size_setCell, World.size_drew] at h2s)
  obtain ⟨h2ca, h2da, h2oa, h2fa, h2ga, h2pa, h2za, h2xa, h2ya⟩ := bfacts (n := w1.heap.size) (k := 1) h2 (by go_size) (by go_size)
  go_wp2_with fail
  refine (L_eqKndKind _ _ _ _ _).mono ?_
  rintro _ w3 ⟨rfl, h3⟩
  go_wp2
  all_goals (try go_returns)
  all_goals exact HR.out _ _ ⟨ret_bool (by first | (simp [true_and, *]; done) | (simp_all [true_and]; done) | (simp_all [true_and]; omega) | (simp [true_and, *]; intros; omega)), by (repeat' (first | (with_reducible exact Below.refl _ _) | (with_reducible refine Below.alloc ?_ ?_ _) | (with_reducible refine Below.setCell ?_ ?_ _) | (with_reducible refine Below.drew ?_) | (refine below_hyp (by assumption) ?_ ?_) | go_size))⟩

end Go.Proofs.Ytlnadoidcmhffaa
