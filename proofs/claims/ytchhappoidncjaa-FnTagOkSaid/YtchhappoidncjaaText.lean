
/-
  The walks of KndText, TagOf, TagText, of the reference and of the program. Condition: the texts are no longer than a text may be.
-/
import Derived.Test.YtchhappoidncjaaKind
namespace Go.Proofs.Ytchhappoidncjaa
set_option linter.unusedSimpArgs false
set_option linter.unusedVariables false
open Go.RowKit

def kndText (k : Int) (n : ByteArray) : ByteArray := if k == 1 && n.toList.isEmpty then ⟨#[35]⟩ else if k == 2 && namOk n then n else ⟨#[]⟩
def tagText (k : Int) (n : ByteArray) : ByteArray := if tagOk k n then (if k == 0 then ⟨#[63]⟩ else if k == 1 then ⟨#[35]⟩ else if k == 3 then ⟨#[33]⟩ else n) else ⟨#[]⟩

theorem kt_no {k : Int} {n : ByteArray} (h : (!kndOk k n) = true) : kndText k n = ⟨#[]⟩ := by
  unfold kndOk at h; unfold kndText
  cases h1 : (k == 1 && n.toList.isEmpty) <;> cases h2 : (k == 2 && namOk n) <;> simp_all
theorem kt_num {k : Int} {n : ByteArray} (h : (!kndOk k n) = false) (h1 : (k == 1) = true) : kndText k n = ⟨#[35]⟩ := by
  have : k = 1 := by simpa using h1
  subst this
  unfold kndOk at h; unfold kndText
  cases h3 : n.toList.isEmpty <;> simp_all
theorem kt_ref {k : Int} {n : ByteArray} (h : (!kndOk k n) = false) (h1 : (k == 1) = false) : kndText k n = n := by
  unfold kndOk at h; unfold kndText
  cases h2 : (k == 2 && namOk n) <;> simp_all

set_option maxHeartbeats 400000 in
theorem S_KndText (k : Int) (n : ByteArray) (w : World) (hn : n.size ≤ maxLen) :
    Calls Try.prog 19 #[.agg #[.int .i64 k, .string n]] w fun e w' => e = .returned (.string (kndText k n)) ∧ Below w.heap.size w w' := by
  refine calls_hide fun R HR => ?_
  go_enter Try.func19, Try.ntmps19
  go_wp2_with fail
  refine (S_KndOk _ _ _ hn).mono ?_
  rintro e w1 ⟨rfl, hb⟩
  have hbs := (hb).size; (try simp only [World.size_alloc, World.size_setCell, World.size_drew] at hbs); obtain ⟨hbc, hbd, hbo, hbf, hbg, hbp, hbz, hbx, hby⟩ := bfacts (n := w.heap.size) (k := 1) hb (by go_size) (by go_size); replace hbd := hbd (by decide); replace hbg := hbg (by decide); replace hbx := hbx (by decide); clear hbc hbf hbz
  go_wp2
  all_goals (try go_returns)
  all_goals exact HR.out _ _ ⟨ret_str (by first | exact (kt_no (by assumption)).symm | exact (kt_num (by assumption) (by assumption)).symm | exact (kt_ref (by assumption) (by assumption)).symm), by (repeat' (first | (with_reducible exact Below.refl _ _) | (with_reducible refine Below.alloc ?_ ?_ _) | (with_reducible refine Below.setCell ?_ ?_ _) | (with_reducible refine Below.drew ?_) | (refine below_hyp (by assumption) ?_ ?_) | go_size))⟩

set_option maxHeartbeats 400000 in
theorem I_numShape_text (w : World) :
    Calls Try.prog 108 #[.agg #[]] w fun e w' => e = .returned (.string ⟨#[35]⟩) ∧ Below w.heap.size w w' := by
  refine calls_hide fun R HR => ?_
  go_enter Try.func108, Try.ntmps108
  go_wp2
  all_goals (try go_returns)
  all_goals exact HR.out _ _ ⟨rfl, by (repeat' (first | (with_reducible exact Below.refl _ _) | (with_reducible refine Below.alloc ?_ ?_ _) | (with_reducible refine Below.setCell ?_ ?_ _) | (with_reducible refine Below.drew ?_) | (refine below_hyp (by assumption) ?_ ?_) | go_size))⟩

set_option maxHeartbeats 400000 in
theorem I_refShape_text (s : ByteArray) (w : World) :
    Calls Try.prog 109 #[.agg #[.string s]] w fun e w' => e = .returned (.string s) ∧ Below w.heap.size w w' := by
  refine calls_hide fun R HR => ?_
  go_enter Try.func109, Try.ntmps109
  go_wp2
  all_goals (try go_returns)
  all_goals exact HR.out _ _ ⟨rfl, by (repeat' (first | (with_reducible exact Below.refl _ _) | (with_reducible refine Below.alloc ?_ ?_ _) | (with_reducible refine Below.setCell ?_ ?_ _) | (with_reducible refine Below.drew ?_) | (refine below_hyp (by assumption) ?_ ?_) | go_size))⟩

set_option maxHeartbeats 400000 in
theorem I_KndText (k : Int) (n : ByteArray) (w : World) (hn : n.size ≤ maxLen) :
    Calls Try.prog 21 #[.agg #[.int .i64 k, .string n]] w fun e w' => e = .returned (.string (kndText k n)) ∧ Below w.heap.size w w' := by
  by_cases h1 : (k == 1 && n.toList.isEmpty) = true
  · have hs : shapeV k n = .iface 93 (.agg #[]) := by simp only [shapeV, h1, if_true]
    have ht : kndText k n = ⟨#[35]⟩ := by simp only [kndText, h1, if_true]
    have HT := Lib.hid ht
    clear ht h1
    refine calls_hide fun R HR => ?_
    go_enter Try.func21, Try.ntmps21
    go_wp2_with fail
    refine (I_shapeOf _ _ _ hn).mono ?_
    rw [hs]
    rintro e w1 ⟨rfl, hb⟩
    have hbs := (hb).size; (try simp only [World.size_alloc, World.size_setCell, World.size_drew] at hbs); obtain ⟨hbc, hbd, hbo, hbf, hbg, hbp, hbz, hbx, hby⟩ := bfacts (n := w.heap.size) (k := 1) hb (by go_size) (by go_size); replace hbd := hbd (by decide); replace hbg := hbg (by decide); replace hbx := hbx (by decide); clear hbc hbf hbz
    clear hs
    go_wp2_with fail
    refine (I_numShape_text _).mono ?_
    rintro e w2 ⟨rfl, hc⟩
    go_wp2
    all_goals (try go_returns)
    all_goals exact HR.out _ _ ⟨ret_str HT.out.symm, by (repeat' (first | (with_reducible exact Below.refl _ _) | (with_reducible refine Below.alloc ?_ ?_ _) | (with_reducible refine Below.setCell ?_ ?_ _) | (with_reducible refine Below.drew ?_) | (refine below_hyp (by assumption) ?_ ?_) | go_size))⟩
  by_cases h2 : (k == 2 && namOk n) = true
  · have hs : shapeV k n = .iface 96 (.agg #[.string n]) := by simp only [shapeV, h1, h2, if_true]; rfl
    have ht : kndText k n = n := by simp only [kndText, h1, h2, if_true]; rfl
    have HT := Lib.hid ht
    clear ht h1 h2
    refine calls_hide fun R HR => ?_
    go_enter Try.func21, Try.ntmps21
    go_wp2_with fail
    refine (I_shapeOf _ _ _ hn).mono ?_
    rw [hs]
    rintro e w1 ⟨rfl, hb⟩
    have hbs := (hb).size; (try simp only [World.size_alloc, World.size_setCell, World.size_drew] at hbs); obtain ⟨hbc, hbd, hbo, hbf, hbg, hbp, hbz, hbx, hby⟩ := bfacts (n := w.heap.size) (k := 1) hb (by go_size) (by go_size); replace hbd := hbd (by decide); replace hbg := hbg (by decide); replace hbx := hbx (by decide); clear hbc hbf hbz
    clear hs
    go_wp2_with fail
    refine (I_refShape_text _ _).mono ?_
    rintro e w2 ⟨rfl, hc⟩
    go_wp2
    all_goals (try go_returns)
    all_goals exact HR.out _ _ ⟨ret_str HT.out.symm, by (repeat' (first | (with_reducible exact Below.refl _ _) | (with_reducible refine Below.alloc ?_ ?_ _) | (with_reducible refine Below.setCell ?_ ?_ _) | (with_reducible refine Below.drew ?_) | (refine below_hyp (by assumption) ?_ ?_) | go_size))⟩
  · have hs : shapeV k n = .nilIface := by simp only [shapeV, h1, h2]; rfl
    have ht : kndText k n = ⟨#[]⟩ := by simp only [kndText, h1, h2]; rfl
    have HT := Lib.hid ht
    clear ht h1 h2
    refine calls_hide fun R HR => ?_
    go_enter Try.func21, Try.ntmps21
    go_wp2_with fail
    refine (I_shapeOf _ _ _ hn).mono ?_
    rw [hs]
    rintro e w1 ⟨rfl, hb⟩
    have hbs := (hb).size; (try simp only [World.size_alloc, World.size_setCell, World.size_drew] at hbs); obtain ⟨hbc, hbd, hbo, hbf, hbg, hbp, hbz, hbx, hby⟩ := bfacts (n := w.heap.size) (k := 1) hb (by go_size) (by go_size); replace hbd := hbd (by decide); replace hbg := hbg (by decide); replace hbx := hbx (by decide); clear hbc hbf hbz
    clear hs
    go_wp2
    all_goals (try go_returns)
    all_goals exact HR.out _ _ ⟨ret_str HT.out.symm, by (repeat' (first | (with_reducible exact Below.refl _ _) | (with_reducible refine Below.alloc ?_ ?_ _) | (with_reducible refine Below.setCell ?_ ?_ _) | (with_reducible refine Below.drew ?_) | (refine below_hyp (by assumption) ?_ ?_) | go_size))⟩


set_option maxHeartbeats 400000 in
theorem S_TagOf (k : Int) (n : ByteArray) (w : World) (hn : n.size ≤ maxLen) :
    Calls Try.prog 22 #[.agg #[.int .i64 k, .string n]] w fun e w' => e = .returned (if kndOk k n then .agg #[.int .i64 k, .string n] else .agg #[.int .i64 0, .string ⟨#[]⟩]) ∧ Below w.heap.size w w' := by
  refine calls_hide fun R HR => ?_
  go_enter Try.func22, Try.ntmps22
  go_wp2_with fail
  refine (S_KndOk _ _ _ hn).mono ?_
  rintro e w1 ⟨rfl, hb⟩
  have hbs := (hb).size; (try simp only [World.size_alloc, World.size_setCell, World.size_drew] at hbs)
  obtain ⟨hbac, hbad, hbao, hbaf, hbag, hbap, hbaz, hbax, hbay⟩ := bfacts (n := w.heap.size) (k := 2) hb (by go_size) (by go_size); replace hbad := hbad (by decide); replace hbag := hbag (by decide); replace hbax := hbax (by decide); have hbac1 := fun o => hbac 1 o (by decide); have hbaf1 := fun o => hbaf 1 o (by decide); have hbaz1 := hbaz 1 (by decide); clear hbac hbaf hbaz
  go_wp2
  all_goals
    refine bodyPost_ret (v := ?_) ?hrun rfl ?_
    case hrun => (simp only [results, Try.results22]; go_simp; first | done | exact rfl)
    exact HR.out _ _ ⟨ret_val (by simp_all), by (repeat' (first | (with_reducible exact Below.refl _ _) | (with_reducible refine Below.alloc ?_ ?_ _) | (with_reducible refine Below.setCell ?_ ?_ _) | (with_reducible refine Below.drew ?_) | (refine below_hyp (by assumption) ?_ ?_) | go_size))⟩

set_option maxHeartbeats 400000 in
theorem I_TagOf (k : Int) (n : ByteArray) (w : World) (hn : n.size ≤ maxLen) :
    Calls Try.prog 23 #[.agg #[.int .i64 k, .string n]] w fun e w' => e = .returned (if kndOk k n then .agg #[.int .i64 k, .string n] else .agg #[.int .i64 0, .string ⟨#[]⟩]) ∧ Below w.heap.size w w' := by
  refine calls_hide fun R HR => ?_
  go_enter Try.func23, Try.ntmps23
  go_wp2_with fail
  refine (I_KndOk _ _ _ hn).mono ?_
  rintro e w1 ⟨rfl, hb⟩
  have hbs := (hb).size; (try simp only [World.size_alloc, World.size_setCell, World.size_drew] at hbs)
  obtain ⟨hbac, hbad, hbao, hbaf, hbag, hbap, hbaz, hbax, hbay⟩ := bfacts (n := w.heap.size) (k := 2) hb (by go_size) (by go_size); replace hbad := hbad (by decide); replace hbag := hbag (by decide); replace hbax := hbax (by decide); have hbac1 := fun o => hbac 1 o (by decide); have hbaf1 := fun o => hbaf 1 o (by decide); have hbaz1 := hbaz 1 (by decide); clear hbac hbaf hbaz
  go_wp2
  all_goals
    refine bodyPost_ret (v := ?_) ?hrun rfl ?_
    case hrun => (simp only [results, Try.results23]; go_simp; first | done | exact rfl)
    exact HR.out _ _ ⟨ret_val (by simp_all), by (repeat' (first | (with_reducible exact Below.refl _ _) | (with_reducible refine Below.alloc ?_ ?_ _) | (with_reducible refine Below.setCell ?_ ?_ _) | (with_reducible refine Below.drew ?_) | (refine below_hyp (by assumption) ?_ ?_) | go_size))⟩

set_option maxHeartbeats 400000 in
theorem I_TagText (k : Int) (n : ByteArray) (w : World) (hn : n.size ≤ maxLen) :
    Calls Try.prog 31 #[.agg #[.int .i64 k, .string n]] w fun e w' => e = .returned (.string (tagText k n)) ∧ Below w.heap.size w w' := by
  refine calls_hide fun R HR => ?_
  go_enter Try.func31, Try.ntmps31
  go_wp2_with fail
  refine (I_TagOk _ _ _ hn).mono ?_
  rintro e w1 ⟨rfl, hb⟩
  have hbs := (hb).size; (try simp only [World.size_alloc, World.size_setCell, World.size_drew] at hbs); obtain ⟨hbc, hbd, hbo, hbf, hbg, hbp, hbz, hbx, hby⟩ := bfacts (n := w.heap.size) (k := 1) hb (by go_size) (by go_size); replace hbd := hbd (by decide); replace hbg := hbg (by decide); replace hbx := hbx (by decide); clear hbc hbf hbz
  go_wp2
  all_goals (try go_returns)
  all_goals exact HR.out _ _ ⟨ret_str (by first | (simp [tagText, *]; done) | (simp_all [tagText]; done) | (simp_all [tagText]; omega) | (simp [tagText, *]; intros; omega)), by (repeat' (first | (with_reducible exact Below.refl _ _) | (with_reducible refine Below.alloc ?_ ?_ _) | (with_reducible refine Below.setCell ?_ ?_ _) | (with_reducible refine Below.drew ?_) | (refine below_hyp (by assumption) ?_ ?_) | go_size))⟩

theorem tagOk_range {k : Int} {n : ByteArray} (h : tagOk k n = true) : k = 0 ∨ k = 1 ∨ k = 2 ∨ k = 3 := by
  unfold tagOk at h; simp at h; omega

set_option maxHeartbeats 400000 in
theorem S_TagText (k : Int) (n : ByteArray) (w : World) (hn : n.size ≤ maxLen) :
    Calls Try.prog 29 #[.agg #[.int .i64 k, .string n]] w fun e w' => e = .returned (.string (tagText k n)) ∧ Below w.heap.size w w' := by
  refine calls_hide fun R HR => ?_
  go_enter Try.func29, Try.ntmps29
  go_wp2_with fail
  refine (S_TagOk _ _ _ hn).mono ?_
  rintro e w1 ⟨rfl, hb⟩
  have hbs := (hb).size; (try simp only [World.size_alloc, World.size_setCell, World.size_drew] at hbs); obtain ⟨hbc, hbd, hbo, hbf, hbg, hbp, hbz, hbx, hby⟩ := bfacts (n := w.heap.size) (k := 1) hb (by go_size) (by go_size); replace hbd := hbd (by decide); replace hbg := hbg (by decide); replace hbx := hbx (by decide); clear hbc hbf hbz
  by_cases ht : tagOk k n = true
  · rcases tagOk_range ht with rfl | rfl | rfl | rfl
    all_goals go_wp2
    all_goals (try go_returns)
    all_goals exact HR.out _ _ ⟨ret_str (by first | (simp [tagText, *]; done) | (simp_all [tagText]; done) | (simp_all [tagText]; omega) | (simp [tagText, *]; intros; omega)), by (repeat' (first | (with_reducible exact Below.refl _ _) | (with_reducible refine Below.alloc ?_ ?_ _) | (with_reducible refine Below.setCell ?_ ?_ _) | (with_reducible refine Below.drew ?_) | (refine below_hyp (by assumption) ?_ ?_) | go_size))⟩
  · have ht' : tagOk k n = false := by simpa using ht
    clear ht
    go_wp2
    all_goals (try go_returns)
    all_goals exact HR.out _ _ ⟨ret_str (by first | (simp [tagText, *]; done) | (simp_all [tagText]; done) | (simp_all [tagText]; omega) | (simp [tagText, *]; intros; omega)), by (repeat' (first | (with_reducible exact Below.refl _ _) | (with_reducible refine Below.alloc ?_ ?_ _) | (with_reducible refine Below.setCell ?_ ?_ _) | (with_reducible refine Below.drew ?_) | (refine below_hyp (by assumption) ?_ ?_) | go_size))⟩

end Go.Proofs.Ytchhappoidncjaa
