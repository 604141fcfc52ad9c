

/-
  The walks of the drawing functions of kinds, tags, names and ways of standing: each gives a thing whose texts are short. Condition: the code can be read.
-/
import Derived.Test.YtchhappoidncjaaDraw
namespace Go.Proofs.Ytchhappoidncjaa
set_option linter.unusedSimpArgs false
set_option linter.unusedVariables false
open Go.RowKit

set_option maxHeartbeats 400000 in
theorem S_odd (r p : Nat) (n : Int) (w : World) (hn : -9223372036854775808 < n) (hn2 : n ≤ 9223372036854775807) (hr : Rd w r p) (hp : p < 1000000) :
    Calls Try.prog 76 #[.pointer (some ⟨r, 0, none⟩), .int .i64 n] w fun e w' => (∃ x : Bool, e = .returned (.bool x)) ∧ Rd w' r (p + 1) ∧ Ex r w.heap.size w w' := by
  refine calls_hide fun R HR => ?_
  go_enter Try.func76, Try.ntmps76
  go_wp2_with fail
  refine (S_pick r p n w hn2 hr hp).mono ?_
  rintro e w1 ⟨⟨x, hx, rfl⟩, h1, h2⟩
  have hX := Lib.hid hx
  clear hx
  go_wp2
  all_goals (try go_returns)
  all_goals exact HR.out _ _ ⟨⟨_, rfl⟩, h1, h2⟩

theorem five {x : Int} (h : InPick 5 x) : x = 0 ∨ x = 1 ∨ x = 2 ∨ x = 3 ∨ x = 4 := by
  obtain ⟨h1, h2, h3⟩ := h; omega

/-- a kind or a tag with a short name -/
def ShortK (v : Value) : Prop := ∃ (k : Int) (n : ByteArray), v = .agg #[.int .i64 k, .string n] ∧ n.size ≤ 4 ∧ 0 ≤ k + 1 ∧ k ≤ 4

set_option maxHeartbeats 400000 in
theorem S_l20Kind (r p : Nat) (n : Int) (w : World) (hn : -9223372036854775808 < n) (hn2 : n ≤ 9223372036854775807) (hr : Rd w r p) (hp : p < 900000) :
    Calls Try.prog 61 #[.pointer (some ⟨r, 0, none⟩), .int .i64 n] w fun e w' => (∃ v, ShortK v ∧ e = .returned v) ∧ Rd w' r (p + 2) ∧ Ex r w.heap.size w w' := by
  have hlt := hr.lt
  refine calls_hide fun R HR => ?_
  go_enter Try.func61, Try.ntmps61
  go_wp2_with fail
  refine (S_odd r p n _ hn hn2 (by (repeat' (first | assumption | (with_reducible refine Rd.alloc ?_ _) | (with_reducible refine Rd.setCell ?_ ?_ _) | (with_reducible refine Rd.drew ?_) | (with_reducible refine Rd.drewN ?_ _) | (refine rd_below (by assumption) ?_ ?_) | go_size))) (by omega)).mono ?_
  rintro e w1 ⟨⟨x, rfl⟩, h1, h2⟩
  have h2s := (h2).size; (try simp only [World.size_alloc, World.size_setCell, World.size_drew] at h2s)
  obtain ⟨h2ac, h2ad, h2af, h2ag, h2az, h2ax, h2ay⟩ := efacts (n := w.heap.size) (k := 1) h2 (by go_size) (by go_size) (by first | omega | (simp; omega)); replace h2ad := h2ad (by decide); replace h2ag := h2ag (by decide); replace h2ax := h2ax (by decide); clear h2ac h2af h2az
  go_wp2_with fail
  all_goals
    refine (S_pick r (p + 1) 5 _ (by omega) (by (repeat' (first | assumption | (with_reducible refine Rd.alloc ?_ _) | (with_reducible refine Rd.setCell ?_ ?_ _) | (with_reducible refine Rd.drew ?_) | (with_reducible refine Rd.drewN ?_ _) | (refine rd_below (by assumption) ?_ ?_) | go_size))) (by omega)).mono ?_
    rintro e w2 ⟨⟨y, hy, rfl⟩, h3, h4⟩
    have h4s := (h4).size; (try simp only [World.size_alloc, World.size_setCell, World.size_drew] at h4s)
    obtain ⟨h4bc, h4bd, h4bf, h4bg, h4bz, h4bx, h4by⟩ := efacts (n := w.heap.size) (k := 1) h4 (by go_size) (by go_size) (by first | omega | (simp; omega)); replace h4bd := h4bd (by decide); replace h4bg := h4bg (by decide); replace h4bx := h4bx (by decide); clear h4bc h4bf h4bz
    obtain ⟨h4cc, h4cd, h4cf, h4cg, h4cz, h4cx, h4cy⟩ := efacts (n := w1.heap.size) (k := 1) h4 (by go_size) (by go_size) (by first | omega | (simp; omega)); replace h4cd := h4cd (by decide); replace h4cg := h4cg (by decide); replace h4cx := h4cx (by decide); clear h4cc h4cf h4cz
    rcases five hy with rfl | rfl | rfl | rfl | rfl
  all_goals go_wp2
  all_goals
    refine bodyPost_ret (v := ?_) ?hrun rfl ?_
    case hrun => (simp only [results, Try.results61]; go_simp; first | done | exact rfl)
    exact HR.out _ _ ⟨⟨_, ⟨_, _, rfl, by decide, by decide, by decide⟩, rfl⟩, by (repeat' (first | assumption | (with_reducible refine Rd.alloc ?_ _) | (with_reducible refine Rd.setCell ?_ ?_ _) | (with_reducible refine Rd.drew ?_) | (with_reducible refine Rd.drewN ?_ _) | (refine rd_below (by assumption) ?_ ?_) | go_size)), by (repeat' (first | (with_reducible exact Ex.refl _ _ _) | (with_reducible exact Below.refl _ _) | (with_reducible refine Ex.alloc ?_ ?_ _) | (with_reducible refine Ex.setCell ?_ ?_ _) | (with_reducible refine Ex.drew ?_) | (with_reducible refine Ex.drewN ?_ _) | (with_reducible refine Below.alloc ?_ ?_ _) | (with_reducible refine Below.setCell ?_ ?_ _) | (with_reducible refine Below.drew ?_) | (refine ex_hyp (by assumption) ?_ ?_) | (refine ex_below (by assumption) ?_ ?_) | (refine below_ex (by assumption) ?_ ?_ ?_) | (refine below_hyp (by assumption) ?_ ?_) | go_size))⟩

theorem seven {x : Int} (h : InPick 7 x) : x = 0 ∨ x = 1 ∨ x = 2 ∨ x = 3 ∨ x = 4 ∨ x = 5 ∨ x = 6 := by
  obtain ⟨h1, h2, h3⟩ := h; omega

set_option maxHeartbeats 400000 in
theorem S_l20Tag (r p : Nat) (n : Int) (w : World) (hn : -9223372036854775808 < n) (hn2 : n ≤ 9223372036854775807) (hr : Rd w r p) (hp : p < 900000) :
    Calls Try.prog 57 #[.pointer (some ⟨r, 0, none⟩), .int .i64 n] w fun e w' => (∃ v, ShortK v ∧ e = .returned v) ∧ Rd w' r (p + 2) ∧ Ex r w.heap.size w w' := by
  have hlt := hr.lt
  refine calls_hide fun R HR => ?_
  go_enter Try.func57, Try.ntmps57
  go_wp2_with fail
  refine (S_odd r p n _ hn hn2 (by (repeat' (first | assumption | (with_reducible refine Rd.alloc ?_ _) | (with_reducible refine Rd.setCell ?_ ?_ _) | (with_reducible refine Rd.drew ?_) | (with_reducible refine Rd.drewN ?_ _) | (refine rd_below (by assumption) ?_ ?_) | go_size))) (by omega)).mono ?_
  rintro e w1 ⟨⟨x, rfl⟩, h1, h2⟩
  have h2s := (h2).size; (try simp only [World.size_alloc, World.size_setCell, World.size_drew] at h2s)
  obtain ⟨h2ac, h2ad, h2af, h2ag, h2az, h2ax, h2ay⟩ := efacts (n := w.heap.size) (k := 1) h2 (by go_size) (by go_size) (by first | omega | (simp; omega)); replace h2ad := h2ad (by decide); replace h2ag := h2ag (by decide); replace h2ax := h2ax (by decide); clear h2ac h2af h2az
  cases x
  · go_wp2_with fail
    refine (S_pick r (p + 1) 7 _ (by omega) (by (repeat' (first | assumption | (with_reducible refine Rd.alloc ?_ _) | (with_reducible refine Rd.setCell ?_ ?_ _) | (with_reducible refine Rd.drew ?_) | (with_reducible refine Rd.drewN ?_ _) | (refine rd_below (by assumption) ?_ ?_) | go_size))) (by omega)).mono ?_
    rintro e w2 ⟨⟨y, hy, rfl⟩, h3, h4⟩
    have h4s := (h4).size; (try simp only [World.size_alloc, World.size_setCell, World.size_drew] at h4s)
    obtain ⟨h4bc, h4bd, h4bf, h4bg, h4bz, h4bx, h4by⟩ := efacts (n := w.heap.size) (k := 1) h4 (by go_size) (by go_size) (by first | omega | (simp; omega)); replace h4bd := h4bd (by decide); replace h4bg := h4bg (by decide); replace h4bx := h4bx (by decide); clear h4bc h4bf h4bz
    obtain ⟨h4cc, h4cd, h4cf, h4cg, h4cz, h4cx, h4cy⟩ := efacts (n := w1.heap.size) (k := 1) h4 (by go_size) (by go_size) (by first | omega | (simp; omega)); replace h4cd := h4cd (by decide); replace h4cg := h4cg (by decide); replace h4cx := h4cx (by decide); clear h4cc h4cf h4cz
    rcases seven hy with rfl | rfl | rfl | rfl | rfl | rfl | rfl
    all_goals go_wp2
    all_goals
      refine bodyPost_ret (v := ?_) ?hrun rfl ?_
      case hrun => (simp only [results, Try.results57]; go_simp; first | done | exact rfl)
      exact HR.out _ _ ⟨⟨_, ⟨_, _, rfl, by decide, by decide, by decide⟩, rfl⟩, by (repeat' (first | assumption | (with_reducible refine Rd.alloc ?_ _) | (with_reducible refine Rd.setCell ?_ ?_ _) | (with_reducible refine Rd.drew ?_) | (with_reducible refine Rd.drewN ?_ _) | (refine rd_below (by assumption) ?_ ?_) | go_size)), by (repeat' (first | (with_reducible exact Ex.refl _ _ _) | (with_reducible exact Below.refl _ _) | (with_reducible refine Ex.alloc ?_ ?_ _) | (with_reducible refine Ex.setCell ?_ ?_ _) | (with_reducible refine Ex.drew ?_) | (with_reducible refine Ex.drewN ?_ _) | (with_reducible refine Below.alloc ?_ ?_ _) | (with_reducible refine Below.setCell ?_ ?_ _) | (with_reducible refine Below.drew ?_) | (refine ex_hyp (by assumption) ?_ ?_) | (refine ex_below (by assumption) ?_ ?_) | (refine below_ex (by assumption) ?_ ?_ ?_) | (refine below_hyp (by assumption) ?_ ?_) | go_size))⟩
  · go_wp2_with fail
    refine (S_pick r (p + 1) 5 _ (by omega) (by (repeat' (first | assumption | (with_reducible refine Rd.alloc ?_ _) | (with_reducible refine Rd.setCell ?_ ?_ _) | (with_reducible refine Rd.drew ?_) | (with_reducible refine Rd.drewN ?_ _) | (refine rd_below (by assumption) ?_ ?_) | go_size))) (by omega)).mono ?_
    rintro e w2 ⟨⟨y, hy, rfl⟩, h3, h4⟩
    have h4s := (h4).size; (try simp only [World.size_alloc, World.size_setCell, World.size_drew] at h4s)
    obtain ⟨h4bc, h4bd, h4bf, h4bg, h4bz, h4bx, h4by⟩ := efacts (n := w.heap.size) (k := 1) h4 (by go_size) (by go_size) (by first | omega | (simp; omega)); replace h4bd := h4bd (by decide); replace h4bg := h4bg (by decide); replace h4bx := h4bx (by decide); clear h4bc h4bf h4bz
    obtain ⟨h4cc, h4cd, h4cf, h4cg, h4cz, h4cx, h4cy⟩ := efacts (n := w1.heap.size) (k := 1) h4 (by go_size) (by go_size) (by first | omega | (simp; omega)); replace h4cd := h4cd (by decide); replace h4cg := h4cg (by decide); replace h4cx := h4cx (by decide); clear h4cc h4cf h4cz
    rcases five hy with rfl | rfl | rfl | rfl | rfl
    all_goals go_wp2
    all_goals
      refine bodyPost_ret (v := ?_) ?hrun rfl ?_
      case hrun => (simp only [results, Try.results57]; go_simp; first | done | exact rfl)
      exact HR.out _ _ ⟨⟨_, ⟨_, _, rfl, by decide, by decide, by decide⟩, rfl⟩, by (repeat' (first | assumption | (with_reducible refine Rd.alloc ?_ _) | (with_reducible refine Rd.setCell ?_ ?_ _) | (with_reducible refine Rd.drew ?_) | (with_reducible refine Rd.drewN ?_ _) | (refine rd_below (by assumption) ?_ ?_) | go_size)), by (repeat' (first | (with_reducible exact Ex.refl _ _ _) | (with_reducible exact Below.refl _ _) | (with_reducible refine Ex.alloc ?_ ?_ _) | (with_reducible refine Ex.setCell ?_ ?_ _) | (with_reducible refine Ex.drew ?_) | (with_reducible refine Ex.drewN ?_ _) | (with_reducible refine Below.alloc ?_ ?_ _) | (with_reducible refine Below.setCell ?_ ?_ _) | (with_reducible refine Below.drew ?_) | (refine ex_hyp (by assumption) ?_ ?_) | (refine ex_below (by assumption) ?_ ?_) | (refine below_ex (by assumption) ?_ ?_ ?_) | (refine below_hyp (by assumption) ?_ ?_) | go_size))⟩

theorem rd_new {w : World} {a : Option Addr} {len cap : Nat} (hl : len ≤ 2000) (h : 0 < len → ∃ b off, a = some ⟨b, off, none⟩ ∧ b < w.heap.size ∧ ∀ i, i < len → ∃ c : Nat, c < 256 ∧ w.cell? ⟨b, off + i, none⟩ = some (.int .u8 c)) :
    Rd (w.alloc (.cells #[.slice a len cap, .int .i64 0] 110)) w.heap.size 0 := by
  refine ⟨by simp, a, len, cap, by simp [go_sem], by simp [go_sem], by simp [go_sem], hl, fun h0 => ?_⟩
  obtain ⟨b, off, rfl, hb, hc⟩ := h h0
  refine ⟨b, off, rfl, hb, fun i hi => ?_⟩
  obtain ⟨c, c1, c2⟩ := hc i hi
  exact ⟨c, c1, by rw [World.cell?_alloc_past (hn := hb)]; exact c2⟩

set_option maxHeartbeats 400000 in
theorem S_l20Open (v : Value) (w : World) (hv : Bytes w v) :
    Calls Try.prog 51 #[v] w fun e w' => e = .returned (.pointer (some ⟨w.heap.size, 0, none⟩)) ∧ Rd w' w.heap.size 0 ∧ Below w.heap.size w w' ∧ w.heap.size < w'.heap.size := by
  obtain ⟨a, len, cap, rfl, h1, h2, h3⟩ := hv
  have hm : len ≤ 9223372036854775807 := by unfold maxLen at h2; omega
  have hm2 : cap ≤ 9223372036854775807 := by unfold maxLen at h2; omega
  clear h2
  have H3 := Lib.hid h3
  clear h3
  by_cases hl : 2000 < len
  · obtain ⟨b, off, rfl, hb, hc⟩ := H3.out (by omega)
    have HC := Lib.hid hc
    clear hc
    have hl' : decide ((2000 : Int) < (len : Int)) = true := by simp; omega
    refine calls_hide fun R HR => ?_
    go_enter Try.func51, Try.ntmps51
    go_wp2
    all_goals (try go_returns)
    all_goals exact HR.out _ _ ⟨rfl, rd_new (by omega) (fun _ => ⟨b, off, rfl, hb, fun i hi => HC.out i (by omega)⟩), by (repeat' (first | (with_reducible exact Below.refl _ _) | (with_reducible refine Below.alloc ?_ ?_ _) | (with_reducible refine Below.setCell ?_ ?_ _) | (with_reducible refine Below.drew ?_) | (refine below_hyp (by assumption) ?_ ?_) | go_size)), by simp⟩
  · have hl' : decide ((2000 : Int) < (len : Int)) = false := by simp; omega
    refine calls_hide fun R HR => ?_
    go_enter Try.func51, Try.ntmps51
    go_wp2
    all_goals (try go_returns)
    all_goals exact HR.out _ _ ⟨rfl, rd_new (by omega) H3.out, by (repeat' (first | (with_reducible exact Below.refl _ _) | (with_reducible refine Below.alloc ?_ ?_ _) | (with_reducible refine Below.setCell ?_ ?_ _) | (with_reducible refine Below.drew ?_) | (refine below_hyp (by assumption) ?_ ?_) | go_size)), by simp⟩


theorem Bytes.stay {w w' : World} {v : Value} (h : Bytes w v) (hs : w.heap.size ≤ w'.heap.size) (hb : ∀ k, k < w.heap.size → w'.heap[k]? = w.heap[k]?) : Bytes w' v := by
  obtain ⟨a, len, cap, h0, h1, h2, h3⟩ := h
  refine ⟨a, len, cap, h0, h1, h2, fun hl => ?_⟩
  obtain ⟨b, off, rfl, hbr, hc⟩ := h3 hl
  exact ⟨b, off, rfl, by omega, fun i hi => by obtain ⟨c, hc1, hc2⟩ := hc i hi; exact ⟨c, hc1, (cell_of_heap (hb b hbr)).trans hc2⟩⟩
theorem Bytes.alloc {w : World} {v : Value} (h : Bytes w v) (o : Obj) : Bytes (w.alloc o) v := h.stay (by simp) fun k hk => Below.heap_alloc _ _ _ hk
theorem bytes_below {w w' : World} {v : Value} (hb : Below w.heap.size w w') (h : Bytes w v) : Bytes w' v := h.stay hb.size hb.block

set_option maxHeartbeats 400000 in
theorem S_DrawKndText (v : Value) (w : World) (hv : Bytes w v) :
    Calls Try.prog 39 #[v] w fun e w' => (∃ v, ShortK v ∧ e = .returned v) ∧ Below w.heap.size w w' := by
  have hv' := hv
  refine calls_hide fun R HR => ?_
  go_enter Try.func39, Try.ntmps39
  go_wp2_with fail
  refine (S_l20Open _ _ (by (first | exact hv' | exact hv'.alloc _))).mono ?_
  rintro e w1 ⟨rfl, h1, h2, h3⟩
  simp only [World.size_alloc] at h1
  have h2s := (h2).size; (try simp only [World.size_alloc, World.size_setCell, World.size_drew] at h2s)
  obtain ⟨h2ac, h2ad, h2ao, h2af, h2ag, h2ap, h2az, h2ax, h2ay⟩ := bfacts (n := w.heap.size) (k := 1) h2 (by go_size) (by go_size); replace h2ad := h2ad (by decide); replace h2ag := h2ag (by decide); replace h2ax := h2ax (by decide); clear h2ac h2af h2az
  go_wp2_with fail
  refine (S_l20Kind _ 0 _ _ (by omega) (by omega) (by (repeat' (first | assumption | (with_reducible refine Rd.alloc ?_ _) | (with_reducible refine Rd.setCell ?_ ?_ _) | (with_reducible refine Rd.drew ?_) | (with_reducible refine Rd.drewN ?_ _) | (refine rd_below (by assumption) ?_ ?_) | go_size))) (by omega)).mono ?_
  rintro e w2 ⟨⟨v, ⟨k, n, rfl, hk, hk2, hk3⟩, rfl⟩, h4, h5⟩
  have h5s := (h5).size; (try simp only [World.size_alloc, World.size_setCell, World.size_drew] at h5s)
  obtain ⟨h5bc, h5bd, h5bf, h5bg, h5bz, h5bx, h5by⟩ := efacts (n := w.heap.size) (k := 1) h5 (by go_size) (by go_size) (by first | omega | (simp; omega)); replace h5bd := h5bd (by decide); replace h5bg := h5bg (by decide); replace h5bx := h5bx (by decide); clear h5bc h5bf h5bz
  go_wp2
  all_goals
    refine bodyPost_ret (v := ?_) ?hrun rfl ?_
    case hrun => (simp only [results, Try.results39]; go_simp; first | done | exact rfl)
    exact HR.out _ _ ⟨⟨_, ⟨_, _, rfl, hk, hk2, hk3⟩, rfl⟩, by (repeat' (first | (with_reducible exact Ex.refl _ _ _) | (with_reducible exact Below.refl _ _) | (with_reducible refine Ex.alloc ?_ ?_ _) | (with_reducible refine Ex.setCell ?_ ?_ _) | (with_reducible refine Ex.drew ?_) | (with_reducible refine Ex.drewN ?_ _) | (with_reducible refine Below.alloc ?_ ?_ _) | (with_reducible refine Below.setCell ?_ ?_ _) | (with_reducible refine Below.drew ?_) | (refine ex_hyp (by assumption) ?_ ?_) | (refine ex_below (by assumption) ?_ ?_) | (refine below_ex (by assumption) ?_ ?_ ?_) | (refine below_hyp (by assumption) ?_ ?_) | go_size))⟩

set_option maxHeartbeats 400000 in
theorem S_DrawTagOk (v : Value) (w : World) (hv : Bytes w v) :
    Calls Try.prog 32 #[v] w fun e w' => (∃ v, ShortK v ∧ e = .returned v) ∧ Below w.heap.size w w' := by
  have hv' := hv
  refine calls_hide fun R HR => ?_
  go_enter Try.func32, Try.ntmps32
  go_wp2_with fail
  refine (S_l20Open _ _ (by (first | exact hv' | exact hv'.alloc _))).mono ?_
  rintro e w1 ⟨rfl, h1, h2, h3⟩
  simp only [World.size_alloc] at h1
  have h2s := (h2).size; (try simp only [World.size_alloc, World.size_setCell, World.size_drew] at h2s)
  obtain ⟨h2ac, h2ad, h2ao, h2af, h2ag, h2ap, h2az, h2ax, h2ay⟩ := bfacts (n := w.heap.size) (k := 1) h2 (by go_size) (by go_size); replace h2ad := h2ad (by decide); replace h2ag := h2ag (by decide); replace h2ax := h2ax (by decide); clear h2ac h2af h2az
  go_wp2_with fail
  refine (S_l20Tag _ 0 _ _ (by omega) (by omega) (by (repeat' (first | assumption | (with_reducible refine Rd.alloc ?_ _) | (with_reducible refine Rd.setCell ?_ ?_ _) | (with_reducible refine Rd.drew ?_) | (with_reducible refine Rd.drewN ?_ _) | (refine rd_below (by assumption) ?_ ?_) | go_size))) (by omega)).mono ?_
  rintro e w2 ⟨⟨v, ⟨k, n, rfl, hk, hk2, hk3⟩, rfl⟩, h4, h5⟩
  have h5s := (h5).size; (try simp only [World.size_alloc, World.size_setCell, World.size_drew] at h5s)
  obtain ⟨h5bc, h5bd, h5bf, h5bg, h5bz, h5bx, h5by⟩ := efacts (n := w.heap.size) (k := 1) h5 (by go_size) (by go_size) (by first | omega | (simp; omega)); replace h5bd := h5bd (by decide); replace h5bg := h5bg (by decide); replace h5bx := h5bx (by decide); clear h5bc h5bf h5bz
  go_wp2
  all_goals
    refine bodyPost_ret (v := ?_) ?hrun rfl ?_
    case hrun => (simp only [results, Try.results32]; go_simp; first | done | exact rfl)
    exact HR.out _ _ ⟨⟨_, ⟨_, _, rfl, hk, hk2, hk3⟩, rfl⟩, by (repeat' (first | (with_reducible exact Ex.refl _ _ _) | (with_reducible exact Below.refl _ _) | (with_reducible refine Ex.alloc ?_ ?_ _) | (with_reducible refine Ex.setCell ?_ ?_ _) | (with_reducible refine Ex.drew ?_) | (with_reducible refine Ex.drewN ?_ _) | (with_reducible refine Below.alloc ?_ ?_ _) | (with_reducible refine Below.setCell ?_ ?_ _) | (with_reducible refine Below.drew ?_) | (refine ex_hyp (by assumption) ?_ ?_) | (refine ex_below (by assumption) ?_ ?_) | (refine below_ex (by assumption) ?_ ?_ ?_) | (refine below_hyp (by assumption) ?_ ?_) | go_size))⟩

set_option maxHeartbeats 400000 in
theorem S_DrawTagOf (v : Value) (w : World) (hv : Bytes w v) :
    Calls Try.prog 45 #[v] w fun e w' => (∃ v, ShortK v ∧ e = .returned v) ∧ Below w.heap.size w w' := by
  have hv' := hv
  refine calls_hide fun R HR => ?_
  go_enter Try.func45, Try.ntmps45
  go_wp2_with fail
  refine (S_l20Open _ _ (by (first | exact hv' | exact hv'.alloc _))).mono ?_
  rintro e w1 ⟨rfl, h1, h2, h3⟩
  simp only [World.size_alloc] at h1
  have h2s := (h2).size; (try simp only [World.size_alloc, World.size_setCell, World.size_drew] at h2s)
  obtain ⟨h2ac, h2ad, h2ao, h2af, h2ag, h2ap, h2az, h2ax, h2ay⟩ := bfacts (n := w.heap.size) (k := 1) h2 (by go_size) (by go_size); replace h2ad := h2ad (by decide); replace h2ag := h2ag (by decide); replace h2ax := h2ax (by decide); clear h2ac h2af h2az
  go_wp2_with fail
  refine (S_l20Kind _ 0 _ _ (by omega) (by omega) (by (repeat' (first | assumption | (with_reducible refine Rd.alloc ?_ _) | (with_reducible refine Rd.setCell ?_ ?_ _) | (with_reducible refine Rd.drew ?_) | (with_reducible refine Rd.drewN ?_ _) | (refine rd_below (by assumption) ?_ ?_) | go_size))) (by omega)).mono ?_
  rintro e w2 ⟨⟨v, ⟨k, n, rfl, hk, hk2, hk3⟩, rfl⟩, h4, h5⟩
  have h5s := (h5).size; (try simp only [World.size_alloc, World.size_setCell, World.size_drew] at h5s)
  obtain ⟨h5bc, h5bd, h5bf, h5bg, h5bz, h5bx, h5by⟩ := efacts (n := w.heap.size) (k := 1) h5 (by go_size) (by go_size) (by first | omega | (simp; omega)); replace h5bd := h5bd (by decide); replace h5bg := h5bg (by decide); replace h5bx := h5bx (by decide); clear h5bc h5bf h5bz
  go_wp2
  all_goals
    refine bodyPost_ret (v := ?_) ?hrun rfl ?_
    case hrun => (simp only [results, Try.results45]; go_simp; first | done | exact rfl)
    exact HR.out _ _ ⟨⟨_, ⟨_, _, rfl, hk, hk2, hk3⟩, rfl⟩, by (repeat' (first | (with_reducible exact Ex.refl _ _ _) | (with_reducible exact Below.refl _ _) | (with_reducible refine Ex.alloc ?_ ?_ _) | (with_reducible refine Ex.setCell ?_ ?_ _) | (with_reducible refine Ex.drew ?_) | (with_reducible refine Ex.drewN ?_ _) | (with_reducible refine Below.alloc ?_ ?_ _) | (with_reducible refine Below.setCell ?_ ?_ _) | (with_reducible refine Below.drew ?_) | (refine ex_hyp (by assumption) ?_ ?_) | (refine ex_below (by assumption) ?_ ?_) | (refine below_ex (by assumption) ?_ ?_ ?_) | (refine below_hyp (by assumption) ?_ ?_) | go_size))⟩

set_option maxHeartbeats 400000 in
theorem S_DrawTagText (v : Value) (w : World) (hv : Bytes w v) :
    Calls Try.prog 46 #[v] w fun e w' => (∃ v, ShortK v ∧ e = .returned v) ∧ Below w.heap.size w w' := by
  have hv' := hv
  refine calls_hide fun R HR => ?_
  go_enter Try.func46, Try.ntmps46
  go_wp2_with fail
  refine (S_l20Open _ _ (by (first | exact hv' | exact hv'.alloc _))).mono ?_
  rintro e w1 ⟨rfl, h1, h2, h3⟩
  simp only [World.size_alloc] at h1
  have h2s := (h2).size; (try simp only [World.size_alloc, World.size_setCell, World.size_drew] at h2s)
  obtain ⟨h2ac, h2ad, h2ao, h2af, h2ag, h2ap, h2az, h2ax, h2ay⟩ := bfacts (n := w.heap.size) (k := 1) h2 (by go_size) (by go_size); replace h2ad := h2ad (by decide); replace h2ag := h2ag (by decide); replace h2ax := h2ax (by decide); clear h2ac h2af h2az
  go_wp2_with fail
  refine (S_l20Tag _ 0 _ _ (by omega) (by omega) (by (repeat' (first | assumption | (with_reducible refine Rd.alloc ?_ _) | (with_reducible refine Rd.setCell ?_ ?_ _) | (with_reducible refine Rd.drew ?_) | (with_reducible refine Rd.drewN ?_ _) | (refine rd_below (by assumption) ?_ ?_) | go_size))) (by omega)).mono ?_
  rintro e w2 ⟨⟨v, ⟨k, n, rfl, hk, hk2, hk3⟩, rfl⟩, h4, h5⟩
  have h5s := (h5).size; (try simp only [World.size_alloc, World.size_setCell, World.size_drew] at h5s)
  obtain ⟨h5bc, h5bd, h5bf, h5bg, h5bz, h5bx, h5by⟩ := efacts (n := w.heap.size) (k := 1) h5 (by go_size) (by go_size) (by first | omega | (simp; omega)); replace h5bd := h5bd (by decide); replace h5bg := h5bg (by decide); replace h5bx := h5bx (by decide); clear h5bc h5bf h5bz
  go_wp2
  all_goals
    refine bodyPost_ret (v := ?_) ?hrun rfl ?_
    case hrun => (simp only [results, Try.results46]; go_simp; first | done | exact rfl)
    exact HR.out _ _ ⟨⟨_, ⟨_, _, rfl, hk, hk2, hk3⟩, rfl⟩, by (repeat' (first | (with_reducible exact Ex.refl _ _ _) | (with_reducible exact Below.refl _ _) | (with_reducible refine Ex.alloc ?_ ?_ _) | (with_reducible refine Ex.setCell ?_ ?_ _) | (with_reducible refine Ex.drew ?_) | (with_reducible refine Ex.drewN ?_ _) | (with_reducible refine Below.alloc ?_ ?_ _) | (with_reducible refine Below.setCell ?_ ?_ _) | (with_reducible refine Below.drew ?_) | (refine ex_hyp (by assumption) ?_ ?_) | (refine ex_below (by assumption) ?_ ?_) | (refine below_ex (by assumption) ?_ ?_ ?_) | (refine below_hyp (by assumption) ?_ ?_) | go_size))⟩

end Go.Proofs.Ytchhappoidncjaa
