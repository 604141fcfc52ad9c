

/-
  The walks of VmText, of the reference and of the program, and of the law FnVmText. Condition: the codes can be read.
-/
import Derived.Test.YtchhappoidncjaaDrawI
import Derived.Test.YtchhappoidncjaaIns
import Derived.Test.YtchhappoidncjaaLawE
namespace Go.Proofs.Ytchhappoidncjaa
set_option linter.unusedSimpArgs false
set_option linter.unusedVariables false
open Go.RowKit

def vmWord (st : Int) : ByteArray :=
  if st = 1 then ⟨#[103, 111, 101, 115]⟩ else if st = 2 then ⟨#[100, 111, 110, 101]⟩ else if st = 3 then ⟨#[110, 111, 110, 101]⟩
  else if st = 4 then ⟨#[108, 105, 110, 107]⟩ else if st = 5 then ⟨#[98, 97, 100]⟩ else if st = 6 then ⟨#[99, 97, 115, 116]⟩
  else if st = 7 then ⟨#[100, 101, 101, 112]⟩ else if st = 8 then ⟨#[114, 111, 111, 109]⟩ else if st = 9 then ⟨#[98, 105, 103]⟩
  else if st = 10 then ⟨#[99, 111, 110, 102, 117, 115, 101, 100]⟩ else ⟨#[]⟩
/-- a run that stands so -/
def vmV (st : Int) (fa : Option Addr) (fl fc : Nat) (ha : Option Addr) (hl hc : Nat) (oa : Option Addr) (ol oc : Nat) (k n : Int) : Value :=
  .agg #[.int .i64 st, .slice fa fl fc, .slice ha hl hc, .slice oa ol oc, .int .i64 k, .int .i64 n]
theorem ten {x : Int} (h : 1 ≤ x ∧ x ≤ 10) : x = 1 ∨ x = 2 ∨ x = 3 ∨ x = 4 ∨ x = 5 ∨ x = 6 ∨ x = 7 ∨ x = 8 ∨ x = 9 ∨ x = 10 := by omega
theorem vmWord_no {x : Int} (h : ¬ (1 ≤ x ∧ x ≤ 10)) : vmWord x = ⟨#[]⟩ := by
  unfold vmWord
  repeat' (split; omega)
  rfl

set_option maxHeartbeats 400000 in
theorem S_VmText (st : Int) (fa : Option Addr) (fl fc : Nat) (ha : Option Addr) (hl hc : Nat) (oa : Option Addr) (ol oc : Nat) (k n : Int) (w : World) :
    Calls Try.prog 16 #[vmV st fa fl fc ha hl hc oa ol oc k n] w fun e w' => e = .returned (.string (vmWord st)) ∧ Below w.heap.size w w' := by
  unfold vmV
  by_cases hs : 1 ≤ st ∧ st ≤ 10
  · rcases ten hs with rfl | rfl | rfl | rfl | rfl | rfl | rfl | rfl | rfl | rfl
    all_goals
      refine calls_hide fun R HR => ?_
      go_enter Try.func16, Try.ntmps16
      go_wp2_with ((go_at_call 53; refine (S_l1In _ _ _ _).mono ?_; rintro _ _ ⟨rfl, rfl⟩))
      all_goals (try go_returns)
      all_goals exact HR.out _ _ ⟨rfl, by (repeat' (first | (with_reducible exact Below.refl _ _) | (with_reducible refine Below.alloc ?_ ?_ _) | (with_reducible refine Below.setCell ?_ ?_ _) | (with_reducible refine Below.drew ?_) | (refine below_hyp (by assumption) ?_ ?_) | go_size))⟩
  · rw [vmWord_no hs]
    have h1 : (decide (1 ≤ st) && decide (st ≤ 10)) = false := by simp; omega
    refine calls_hide fun R HR => ?_
    go_enter Try.func16, Try.ntmps16
    go_wp2_with fail
    refine (S_l1In _ _ _ _).mono ?_
    rintro _ _ ⟨rfl, rfl⟩
    rw [h1]
    go_wp2
    all_goals (try go_returns)
    all_goals exact HR.out _ _ ⟨rfl, by (repeat' (first | (with_reducible exact Below.refl _ _) | (with_reducible refine Below.alloc ?_ ?_ _) | (with_reducible refine Below.setCell ?_ ?_ _) | (with_reducible refine Below.drew ?_) | (refine below_hyp (by assumption) ?_ ?_) | go_size))⟩

set_option maxHeartbeats 400000 in
theorem I_VmText_low (st : Int) (fa : Option Addr) (fl fc : Nat) (ha : Option Addr) (hl hc : Nat) (oa : Option Addr) (ol oc : Nat) (k n : Int) (w : World) (h : st < 0) :
    Calls Try.prog 15 #[.agg #[.int .i64 st, .slice fa fl fc, .slice ha hl hc, .slice oa ol oc, .int .i64 k, .int .i64 n]] w fun e w' => e = .returned (.string ⟨#[]⟩) ∧ Below w.heap.size w w' := by
  refine calls_hide fun R HR => ?_
  go_enter Try.func15, Try.ntmps15
  go_wp2
  all_goals (try go_returns)
  all_goals exact HR.out _ _ ⟨rfl, by (repeat' (first | (with_reducible exact Below.refl _ _) | (with_reducible refine Below.alloc ?_ ?_ _) | (with_reducible refine Below.setCell ?_ ?_ _) | (with_reducible refine Below.drew ?_) | (refine below_hyp (by assumption) ?_ ?_) | go_size))⟩
set_option maxHeartbeats 400000 in
theorem I_VmText_high (st : Int) (fa : Option Addr) (fl fc : Nat) (ha : Option Addr) (hl hc : Nat) (oa : Option Addr) (ol oc : Nat) (k n : Int) (w : World) (h : 11 ≤ st) :
    Calls Try.prog 15 #[.agg #[.int .i64 st, .slice fa fl fc, .slice ha hl hc, .slice oa ol oc, .int .i64 k, .int .i64 n]] w fun e w' => e = .returned (.string ⟨#[]⟩) ∧ Below w.heap.size w w' := by
  have h3 : ¬ st < 0 := by omega
  refine calls_hide fun R HR => ?_
  go_enter Try.func15, Try.ntmps15
  go_wp2
  all_goals (try go_returns)
  all_goals exact HR.out _ _ ⟨rfl, by (repeat' (first | (with_reducible exact Below.refl _ _) | (with_reducible refine Below.alloc ?_ ?_ _) | (with_reducible refine Below.setCell ?_ ?_ _) | (with_reducible refine Below.drew ?_) | (refine below_hyp (by assumption) ?_ ?_) | go_size))⟩

set_option maxHeartbeats 400000 in
theorem I_VmText (st : Int) (fa : Option Addr) (fl fc : Nat) (ha : Option Addr) (hl hc : Nat) (oa : Option Addr) (ol oc : Nat) (k n : Int) (w : World) :
    Calls Try.prog 15 #[vmV st fa fl fc ha hl hc oa ol oc k n] w fun e w' => e = .returned (.string (vmWord st)) ∧ Below w.heap.size w w' := by
  unfold vmV
  by_cases hs : 1 ≤ st ∧ st ≤ 10
  · rcases ten hs with rfl | rfl | rfl | rfl | rfl | rfl | rfl | rfl | rfl | rfl
    all_goals
      refine calls_hide fun R HR => ?_
      go_enter Try.func15, Try.ntmps15
      go_wp2
      all_goals (try go_returns)
      all_goals exact HR.out _ _ ⟨rfl, by (repeat' (first | (with_reducible exact Below.refl _ _) | (with_reducible refine Below.alloc ?_ ?_ _) | (with_reducible refine Below.setCell ?_ ?_ _) | (with_reducible refine Below.drew ?_) | (refine below_hyp (by assumption) ?_ ?_) | go_size))⟩
  · rw [vmWord_no hs]
    by_cases h0 : st = 0
    · subst h0
      refine calls_hide fun R HR => ?_
      go_enter Try.func15, Try.ntmps15
      go_wp2
      all_goals (try go_returns)
      all_goals exact HR.out _ _ ⟨rfl, by (repeat' (first | (with_reducible exact Below.refl _ _) | (with_reducible refine Below.alloc ?_ ?_ _) | (with_reducible refine Below.setCell ?_ ?_ _) | (with_reducible refine Below.drew ?_) | (refine below_hyp (by assumption) ?_ ?_) | go_size))⟩
    by_cases h1 : st < 0
    · exact I_VmText_low st fa fl fc ha hl hc oa ol oc k n w h1
    · exact I_VmText_high st fa fl fc ha hl hc oa ol oc k n w (by omega)

set_option maxHeartbeats 400000 in
theorem S_DrawVmText (v : Value) (w : World) (hv : Bytes w v) :
    Calls Try.prog 14 #[v] w fun e w' => (∃ st : Int, -1 ≤ st ∧ st ≤ 11 ∧ e = .returned (vmV st none 0 0 none 0 0 none 0 0 0 0)) ∧ Below w.heap.size w w' := by
  have hv' := hv
  refine calls_hide fun R HR => ?_
  go_enter Try.func14, Try.ntmps14
  go_wp2_with fail
  refine (S_l20Open _ _ (by first | exact hv' | exact hv'.alloc _)).mono ?_
  rintro e w1 ⟨rfl, h1, h2, h3⟩
  simp only [World.size_alloc] at h1
  have h2s := (h2).size; (try simp only [World.size_alloc, World.size_setCell, World.size_drew] at h2s)
  obtain ⟨h2ac, h2ad, h2ao, h2af, h2ag, h2ap, h2az, h2ax, h2ay⟩ := bfacts (n := w.heap.size) (k := 1) h2 (by go_size) (by go_size); replace h2ad := h2ad (by decide); replace h2ag := h2ag (by decide); replace h2ax := h2ax (by decide); clear h2ac h2af h2az
  go_wp2_with fail
  refine (S_pick _ 0 13 _ (by omega) (by (repeat' (first | assumption | (with_reducible refine Rd.alloc ?_ _) | (with_reducible refine Rd.setCell ?_ ?_ _) | (with_reducible refine Rd.drew ?_) | (with_reducible refine Rd.drewN ?_ _) | (refine rd_below (by assumption) ?_ ?_) | go_size))) (by omega)).mono ?_
  rintro e w2 ⟨⟨y, hy, rfl⟩, h4, h5⟩
  obtain ⟨y1, y2, y3⟩ := hy
  have y4 : y < 13 := y2 (by omega)
  clear y2 y3
  have h5s := (h5).size; (try simp only [World.size_alloc, World.size_setCell, World.size_drew] at h5s)
  obtain ⟨h5bc, h5bd, h5bf, h5bg, h5bz, h5bx, h5by⟩ := efacts (n := w.heap.size) (k := 1) h5 (by go_size) (by go_size) (by first | omega | (simp; omega)); replace h5bd := h5bd (by decide); replace h5bg := h5bg (by decide); replace h5bx := h5bx (by decide); clear h5bc h5bf h5bz
  go_wp2
  all_goals
    refine bodyPost_ret (v := ?_) ?hrun rfl ?_
    case hrun => (simp only [results, Try.results14]; go_simp; first | done | exact rfl)
    exact HR.out _ _ ⟨⟨y - 1, by omega, by omega, rfl⟩, by (repeat' (first | (with_reducible exact Ex.refl _ _ _) | (with_reducible exact Below.refl _ _) | (with_reducible refine Ex.alloc ?_ ?_ _) | (with_reducible refine Ex.setCell ?_ ?_ _) | (with_reducible refine Ex.drew ?_) | (with_reducible refine Ex.drewN ?_ _) | (with_reducible refine Below.alloc ?_ ?_ _) | (with_reducible refine Below.setCell ?_ ?_ _) | (with_reducible refine Below.drew ?_) | (refine ex_hyp (by assumption) ?_ ?_) | (refine ex_below (by assumption) ?_ ?_) | (refine below_ex (by assumption) ?_ ?_ ?_) | (refine below_hyp (by assumption) ?_ ?_) | go_size))⟩

end Go.Proofs.Ytchhappoidncjaa
