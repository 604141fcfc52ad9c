/-
  Texts of mine, packed: Line, LineM, LineQ. No condition beside those of the single theorems.
-/
import Derived.Test.YtfbonocadpknbaaGreatDoorC6
import Derived.Test.YtfbonocadpknbaaGreatDoorC4
import Derived.StillTailTactics
import Derived.BigRegion
set_option linter.unusedSimpArgs false
set_option linter.unusedVariables false
set_option maxHeartbeats 16000000
set_option maxRecDepth 100000
namespace Go.Proofs.YtfbonocadpknbaaGreatDoor
open Go.RowKit
structure Wds (w : World) (v : Value) (ws : List ByteArray) (g cap : Nat) : Prop where
 val : v = .slice (some ⟨g, 0, none⟩) ws.length cap
 cell : ∀ j x, ws[j]? = some x → w.cell? ⟨g, j, none⟩ = some (.string x)
 size : ∀ x ∈ ws, x.size ≤ 10000
 pos : 0 < ws.length
 len : ws.length ≤ 10001
theorem Wds.below {w w' : World} {v : Value} {ws : List ByteArray} {g cap : Nat} (h : Wds w v ws g cap) (hb : Below w.heap.size w w') : Wds w' v ws g cap :=
 ⟨h.val, fun j x hx => qad hb (h.cell j x hx), h.size, h.pos, h.len⟩

structure Four2 (w : World) (b : Nat) (x0 x1 : Value) : Prop where
 lt : b < w.heap.size
 c0 : w.cell? ⟨b, 0, none⟩ = some x0
 c1 : w.cell? ⟨b, 1, none⟩ = some x1
 f0 : w.frozen? ⟨b, 0, none⟩ = false
 f1 : w.frozen? ⟨b, 1, none⟩ = false
theorem Four2.keep {w w' : World} {b : Nat} {x0 x1 : Value} (h : Four2 w b x0 x1) (hb : Below w.heap.size w w') : Four2 w' b x0 x1 :=
 ⟨Nat.lt_of_lt_of_le h.lt hb.size, qad hb h.c0, qad hb h.c1, (hb.frozen h.lt).trans h.f0, (hb.frozen h.lt).trans h.f1⟩
theorem Four2.new (w : World) (x0 x1 : Value) (t : TypeId) : Four2 (w.alloc (.cells #[x0, x1] t)) w.heap.size x0 x1 := by
 refine ⟨by simp, ?_, ?_, ?_, ?_⟩ <;> go_simp

structure Three2 (w : World) (b : Nat) (x0 x1 x2 : Value) : Prop where
 lt : b < w.heap.size
 c0 : w.cell? ⟨b, 0, none⟩ = some x0
 c1 : w.cell? ⟨b, 1, none⟩ = some x1
 c2 : w.cell? ⟨b, 2, none⟩ = some x2
 f0 : w.frozen? ⟨b, 0, none⟩ = false
 f1 : w.frozen? ⟨b, 1, none⟩ = false
 f2 : w.frozen? ⟨b, 2, none⟩ = false
theorem Three2.keep {w w' : World} {b : Nat} {x0 x1 x2 : Value} (h : Three2 w b x0 x1 x2) (hb : Below w.heap.size w w') : Three2 w' b x0 x1 x2 :=
 ⟨Nat.lt_of_lt_of_le h.lt hb.size, qad hb h.c0, qad hb h.c1, qad hb h.c2, (hb.frozen h.lt).trans h.f0, (hb.frozen h.lt).trans h.f1, (hb.frozen h.lt).trans h.f2⟩
theorem Three2.new (w : World) (x0 x1 x2 : Value) (t : TypeId) : Three2 (w.alloc (.cells #[x0, x1, x2] t)) w.heap.size x0 x1 x2 := by
 refine ⟨by simp, ?_, ?_, ?_, ?_, ?_, ?_⟩ <;> go_simp

def kndT (x : DKndKind × Bool) : Value := .tuple #[.agg #[.int .i64 x.1.fKind, .string x.1.fName], .bool x.2]
def tagT (x : DTagTag × Bool) : Value := .tuple #[.agg #[.int .i64 x.1.fKind, .string x.1.fName], .bool x.2]
def askT (x : DLodAsk × Bool) : Value := .tuple #[.agg #[.string x.1.fName, .int .i64 x.1.fKeeper], .bool x.2]
def clsT (x : DClsClass × Bool) : Value := .tuple #[.agg #[.string x.1.fName, .string x.1.fSuper, .slice none 0 0, .slice none 0 0], .bool x.2]
def fldT (x : DClsField × Bool) : Value := .tuple #[.agg #[.string x.1.fName, .int .i64 x.1.fKind.fKind, .string x.1.fKind.fName], .bool x.2]

theorem isW_true {s : ByteArray} {l : List UInt8} (h : isW s l = true) : (s.toList == l) = true := by
 rw [ByteArray.toList_eq]; exact h
theorem qaw {s : ByteArray} {l : List UInt8} (h : isW s l = false) : (s.toList == l) = false := by
 rw [ByteArray.toList_eq]; exact h

theorem S_KndReadX (s : ByteArray) (w : World) (hs : s.size ≤ 10000) :
  Calls Tryz.prog 118 #[.string s] w fun e w' => e = .returned (kndT (kndRead s)) ∧ Below w.heap.size w w' := by
 have hm : s.size ≤ maxLen := by unfold maxLen; omega
 cases h1 : isW s [35]
 ·have h1' := qaw h1
  cases h2 : namOk s
  ·have RV : Hid (kndT (kndRead s) = .tuple #[.agg #[.int .i64 0, .string ⟨#[]⟩], .bool false]) := qhd (by unfold kndRead; rw [if_neg (by rw [h1]; decide), if_neg (by rw [h2]; decide)]; rfl)
   have CN : ∀ W, Calls Tryz.prog 35 #[.string s] W fun e w' => e = .returned (.bool false) ∧ W = w' := fun W => (S_NamOk s W hm).mono fun e w' h => ⟨by rw [← h2]; exact h.1, h.2⟩
   clear h1 h2
   refine qab fun R HR => ?_
   go_enter Tryz.func118, Tryz.ntmps118
   go_wp2_with (go_at_call 35; refine (CN _).mono ?_; rintro e w' ⟨rfl, rfl⟩)
   all_goals
    refine bodyPost_ret (v := ?_) ?hrun rfl ?_
    case hrun => (simp only [results, Tryz.results118]; go_simp; first | done | exact rfl)
    exact HR.out _ _ ⟨by rw [RV.out], bbel⟩
  ·have RV : Hid (kndT (kndRead s) = .tuple #[.agg #[.int .i64 2, .string s], .bool true]) := qhd (by unfold kndRead; rw [if_neg (by rw [h1]; decide), if_pos h2]; rfl)
   have CN : ∀ W, Calls Tryz.prog 35 #[.string s] W fun e w' => e = .returned (.bool true) ∧ W = w' := fun W => (S_NamOk s W hm).mono fun e w' h => ⟨by rw [← h2]; exact h.1, h.2⟩
   clear h1 h2
   refine qab fun R HR => ?_
   go_enter Tryz.func118, Tryz.ntmps118
   go_wp2_with (go_at_call 35; refine (CN _).mono ?_; rintro e w' ⟨rfl, rfl⟩)
   all_goals
    refine bodyPost_ret (v := ?_) ?hrun rfl ?_
    case hrun => (simp only [results, Tryz.results118]; go_simp; first | done | exact rfl)
    exact HR.out _ _ ⟨by rw [RV.out], bbel⟩
 ·have h1' := isW_true h1
  have RV : Hid (kndT (kndRead s) = .tuple #[.agg #[.int .i64 1, .string ⟨#[]⟩], .bool true]) := qhd (by unfold kndRead; rw [if_pos h1]; rfl)
  clear h1
  refine qab fun R HR => ?_
  go_enter Tryz.func118, Tryz.ntmps118
  go_wp2
  all_goals
   refine bodyPost_ret (v := ?_) ?hrun rfl ?_
   case hrun => (simp only [results, Tryz.results118]; go_simp; first | done | exact rfl)
   exact HR.out _ _ ⟨by rw [RV.out], bbel⟩

theorem S_l8Tag (s : ByteArray) (w : World) (hs : s.size ≤ 10000) :
  Calls Tryz.prog 119 #[.string s] w fun e w' => e = .returned (tagT (tagRead s)) ∧ Below w.heap.size w w' := by
 have hm : s.size ≤ maxLen := by unfold maxLen; omega
 by_cases h1 : isW s [63] = true
 ·have h1' := isW_true h1
  have RV : Hid (tagT (tagRead s) = .tuple #[.agg #[.int .i64 0, .string ⟨#[]⟩], .bool true]) := qhd (by unfold tagRead; rw [if_pos h1]; rfl)
  clear h1
  refine qab fun R HR => ?_
  go_enter Tryz.func119, Tryz.ntmps119
  go_wp2
  all_goals
   refine bodyPost_ret (v := ?_) ?hrun rfl ?_
   case hrun => (simp only [results, Tryz.results119]; go_simp; first | done | exact rfl)
   exact HR.out _ _ ⟨by rw [RV.out], bbel⟩
 by_cases h2 : isW s [35] = true
 ·have h1' := qaw (Bool.eq_false_iff.2 h1)
  have h2' := isW_true h2
  have RV : Hid (tagT (tagRead s) = .tuple #[.agg #[.int .i64 1, .string ⟨#[]⟩], .bool true]) := qhd (by unfold tagRead; rw [if_neg h1, if_pos h2]; rfl)
  clear h1 h2
  refine qab fun R HR => ?_
  go_enter Tryz.func119, Tryz.ntmps119
  go_wp2
  all_goals
   refine bodyPost_ret (v := ?_) ?hrun rfl ?_
   case hrun => (simp only [results, Tryz.results119]; go_simp; first | done | exact rfl)
   exact HR.out _ _ ⟨by rw [RV.out], bbel⟩
 by_cases h3 : isW s [33] = true
 ·have h1' := qaw (Bool.eq_false_iff.2 h1)
  have h2' := qaw (Bool.eq_false_iff.2 h2)
  have h3' := isW_true h3
  have RV : Hid (tagT (tagRead s) = .tuple #[.agg #[.int .i64 3, .string ⟨#[]⟩], .bool true]) := qhd (by unfold tagRead; rw [if_neg h1, if_neg h2, if_pos h3]; rfl)
  clear h1 h2 h3
  refine qab fun R HR => ?_
  go_enter Tryz.func119, Tryz.ntmps119
  go_wp2
  all_goals
   refine bodyPost_ret (v := ?_) ?hrun rfl ?_
   case hrun => (simp only [results, Tryz.results119]; go_simp; first | done | exact rfl)
   exact HR.out _ _ ⟨by rw [RV.out], bbel⟩
 ·have h1' := qaw (Bool.eq_false_iff.2 h1)
  have h2' := qaw (Bool.eq_false_iff.2 h2)
  have h3' := qaw (Bool.eq_false_iff.2 h3)
  have RV : Hid (tagT (tagRead s) = .tuple #[.agg #[.int .i64 2, .string s], .bool (namOk s)]) := qhd (by unfold tagRead; rw [if_neg h1, if_neg h2, if_neg h3]; rfl)
  clear h1 h2 h3
  refine qab fun R HR => ?_
  go_enter Tryz.func119, Tryz.ntmps119
  go_wp2_with (go_at_call 35; refine (S_NamOk _ _ hm).mono ?_; rintro e w' ⟨rfl, rfl⟩)
  all_goals
   refine bodyPost_ret (v := ?_) ?hrun rfl ?_
   case hrun => (simp only [results, Tryz.results119]; go_simp; first | done | exact rfl)
   exact HR.out _ _ ⟨by rw [RV.out], bbel⟩

theorem askRead_len {ws : List ByteArray} (h : ws.length ≠ 3) : askRead ws = (nilAsk, false) := by
 unfold askRead
 split
 ·simp at h
 ·rfl
theorem clsRead_len {ws : List ByteArray} (h : ws.length ≠ 3) : clsRead ws = (nilCls, false) := by
 unfold clsRead
 split
 ·simp at h
 ·rfl
theorem fldRead_len {ws : List ByteArray} (h : ws.length ≠ 3) : fldRead ws = (nilFld, false) := by
 unfold fldRead
 split
 ·simp at h
 ·rfl
theorem three_words {ws : List ByteArray} (h : ws.length = 3) : ∃ a b c, ws = [a, b, c] := by
 match ws, h with
 | [a, b, c], _ => exact ⟨a, b, c, rfl⟩

theorem S_l8Asks (v : Value) (ws : List ByteArray) (g cap : Nat) (w : World) (h : Wds w v ws g cap) :
  Calls Tryz.prog 94 #[v] w fun e w' => e = .returned (askT (askRead ws)) ∧ Below w.heap.size w w' := by
 obtain ⟨rfl, hcell, hsz, hpos, hlen⟩ := h
 by_cases h3 : ws.length = 3
 ·obtain ⟨x, y, u, rfl⟩ := three_words h3
  have c1 := hcell 1 y rfl
  have c2 := hcell 2 u rfl
  have hg : g < w.heap.size := block_lt_of_cell c1
  have sy := hsz y (by simp)
  have su := hsz u (by simp)
  have my : y.size ≤ maxLen := by unfold maxLen; omega
  obtain ⟨q, hq⟩ : ∃ q, (readNum u).1 = q := ⟨_, rfl⟩
  have RV : Hid (askT (askRead [x, y, u]) = .tuple #[.agg #[.string y, .int .i64 q], .bool ((readNum u).2 && decide (0 ≤ q) && namOk y)]) := qhd (by rw [← hq]; rfl)
  clear hcell hsz h3 hpos hlen
  obtain ⟨n, hn⟩ : ∃ n, namOk y = n := ⟨_, rfl⟩
  have CN : ∀ W, Calls Tryz.prog 35 #[.string y] W fun e w' => e = .returned (.bool n) ∧ w' = W := fun W => (S_NamOk y W my).mono fun e w' h => ⟨by rw [← hn]; exact h.1, h.2.symm⟩
  rw [hn] at RV
  clear hn
  cases hr : (readNum u).2
  ·have CR : ∀ W, Calls Tryz.prog 108 #[.string u] W fun e w' => e = .returned (.tuple #[.int .i64 q, .bool false]) ∧ Below W.heap.size W w' := fun W => (S_l1Read u W su).mono fun e w' h => ⟨h.1.trans (by unfold numT; rw [hr, hq]), h.2⟩
   rw [hr] at RV
   clear hr hq
   refine qab fun R HR => ?_
   go_enter Tryz.func94, Tryz.ntmps94
   go_wp2_with fail
   refine (CR _).mono ?_
   rintro _ w1 ⟨rfl, h1⟩
   have h1s := (h1).size; (try simp only [qsz] at h1s)
   replace c1 : w1.cell? ⟨g, 1, none⟩ = some (.string y) := qad h1 (by go_simp)
   have F1 := (Four2.new w (.string ⟨#[]⟩) (.int .i64 0) 51).keep h1
   obtain ⟨hl, z0, z1, f0, f1⟩ := F1
   go_wp2_with fail
   go_region
   all_goals go_wp2
   all_goals
    refine bodyPost_ret (v := ?_) ?hrun rfl ?_
    case hrun => (simp only [results, Tryz.results94]; go_simp; first | done | exact rfl)
    exact HR.out _ _ ⟨by rw [RV.out]; rfl, bbel⟩
  ·have CR : ∀ W, Calls Tryz.prog 108 #[.string u] W fun e w' => e = .returned (.tuple #[.int .i64 q, .bool true]) ∧ Below W.heap.size W w' := fun W => (S_l1Read u W su).mono fun e w' h => ⟨h.1.trans (by unfold numT; rw [hr, hq]), h.2⟩
   rw [hr] at RV
   clear hr hq
   by_cases hq0 : 0 ≤ q
   ·have hd : decide (0 ≤ q) = true := by simpa using hq0
    rw [hd] at RV
    refine qab fun R HR => ?_
    go_enter Tryz.func94, Tryz.ntmps94
    go_wp2_with fail
    refine (CR _).mono ?_
    rintro _ w1 ⟨rfl, h1⟩
    have h1s := (h1).size; (try simp only [qsz] at h1s)
    replace c1 : w1.cell? ⟨g, 1, none⟩ = some (.string y) := qad h1 (by go_simp)
    have F1 := (Four2.new w (.string ⟨#[]⟩) (.int .i64 0) 51).keep h1
    obtain ⟨hl, z0, z1, f0, f1⟩ := F1
    go_wp2_with fail
    go_region_held3 (fun x => x.cell? ⟨g, 1, none⟩ = some (.string y)) (first | assumption | (show (World.setCell (World.setCell _ _ _) _ _).cell? _ = _; rw [World.cell?_setCell_other _ _ _ _ (by intro e; simp at e <;> omega), World.cell?_setCell_other _ _ _ _ (by intro e; simp at e <;> omega)]; assumption)) (first | (go_at_call 35; refine (CN _).mono ?_; rintro _ _ ⟨rfl, rfl⟩))
    all_goals go_wp2
    all_goals
     refine bodyPost_ret (v := ?_) ?hrun rfl ?_
     case hrun => (simp only [results, Tryz.results94]; go_simp; first | done | exact rfl)
     exact HR.out _ _ ⟨by rw [RV.out]; rfl, bbel⟩
   ·have hd : decide (0 ≤ q) = false := by simpa using hq0
    rw [hd] at RV
    refine qab fun R HR => ?_
    go_enter Tryz.func94, Tryz.ntmps94
    go_wp2_with fail
    refine (CR _).mono ?_
    rintro _ w1 ⟨rfl, h1⟩
    have h1s := (h1).size; (try simp only [qsz] at h1s)
    replace c1 : w1.cell? ⟨g, 1, none⟩ = some (.string y) := qad h1 (by go_simp)
    have F1 := (Four2.new w (.string ⟨#[]⟩) (.int .i64 0) 51).keep h1
    obtain ⟨hl, z0, z1, f0, f1⟩ := F1
    go_wp2_with fail
    go_region
    all_goals go_wp2
    all_goals
     refine bodyPost_ret (v := ?_) ?hrun rfl ?_
     case hrun => (simp only [results, Tryz.results94]; go_simp; first | done | exact rfl)
     exact HR.out _ _ ⟨by rw [RV.out]; rfl, bbel⟩
 ·have RV := qhd (askRead_len h3)
  have hd : ((ws.length : Int) == 3) = false := by rw [beq_eq_false_iff_ne]; omega
  clear h3 hcell hsz
  refine qab fun R HR => ?_
  go_enter Tryz.func94, Tryz.ntmps94
  go_wp2
  all_goals
   refine bodyPost_ret (v := ?_) ?hrun rfl ?_
   case hrun => (simp only [results, Tryz.results94]; go_simp; first | done | exact rfl)
   exact HR.out _ _ ⟨by rw [RV.out]; rfl, bbel⟩


theorem S_l8ReadClass (v : Value) (ws : List ByteArray) (g cap : Nat) (w : World) (h : Wds w v ws g cap) :
  Calls Tryz.prog 95 #[v] w fun e w' => e = .returned (clsT (clsRead ws)) ∧ Below w.heap.size w w' := by
 obtain ⟨rfl, hcell, hsz, hpos, hlen⟩ := h
 by_cases h3 : ws.length = 3
 ·obtain ⟨x, y, u, rfl⟩ := three_words h3
  have c1 := hcell 1 y rfl
  have c2 := hcell 2 u rfl
  have hg : g < w.heap.size := block_lt_of_cell c1
  have sy := hsz y (by simp)
  have su := hsz u (by simp)
  clear hcell hsz h3 hpos hlen
  cases hy : namOk y
  ·have RV : Hid (clsRead [x, y, u] = (nilCls, false)) := qhd (by unfold clsRead; simp [hy])
   have CN : ∀ W, Calls Tryz.prog 35 #[.string y] W fun e w' => e = .returned (.bool false) ∧ W = w' := fun W => (S_NamOk y W (by unfold maxLen; omega)).mono fun e w' hh => ⟨by rw [← hy]; exact hh.1, hh.2⟩
   clear hy
   refine qab fun R HR => ?_
   go_enter Tryz.func95, Tryz.ntmps95
   go_wp2_with (go_at_call 35; refine (CN _).mono ?_; rintro e w' ⟨rfl, rfl⟩)
   all_goals
    refine bodyPost_ret (v := ?_) ?hrun rfl ?_
    case hrun => (simp only [results, Tryz.results95]; go_simp; first | done | exact rfl)
    exact HR.out _ _ ⟨by first | (rw [RV.out]; done) | (rw [RV.out]; rfl), bbel⟩
  ·have CN : ∀ W, Calls Tryz.prog 35 #[.string y] W fun e w' => e = .returned (.bool true) ∧ W = w' := fun W => (S_NamOk y W (by unfold maxLen; omega)).mono fun e w' hh => ⟨by rw [← hy]; exact hh.1, hh.2⟩
   cases hu : isW u [45]
   ·have hu' := qaw hu
    cases hn : namOk u
    ·have RV : Hid (clsRead [x, y, u] = (nilCls, false)) := qhd (by unfold clsRead; simp [hy, hu, hn])
     have CM : ∀ W, Calls Tryz.prog 35 #[.string u] W fun e w' => e = .returned (.bool false) ∧ W = w' := fun W => (S_NamOk u W (by unfold maxLen; omega)).mono fun e w' hh => ⟨by rw [← hn]; exact hh.1, hh.2⟩
     clear hy hu hn
     refine qab fun R HR => ?_
     go_enter Tryz.func95, Tryz.ntmps95
     go_wp2_with (first | (go_at_call 35; (with_reducible refine (CN _).mono ?_); rintro e w' ⟨rfl, rfl⟩) | (go_at_call 35; (with_reducible refine (CM _).mono ?_); rintro e w' ⟨rfl, rfl⟩))
     all_goals
      refine bodyPost_ret (v := ?_) ?hrun rfl ?_
      case hrun => (simp only [results, Tryz.results95]; go_simp; first | done | exact rfl)
      exact HR.out _ _ ⟨by first | (rw [RV.out]; done) | (rw [RV.out]; rfl), bbel⟩
    ·have RV : Hid (clsRead [x, y, u] = (⟨y, u, [], []⟩, true)) := qhd (by unfold clsRead; simp [hy, hu, hn])
     have CM : ∀ W, Calls Tryz.prog 35 #[.string u] W fun e w' => e = .returned (.bool true) ∧ W = w' := fun W => (S_NamOk u W (by unfold maxLen; omega)).mono fun e w' hh => ⟨by rw [← hn]; exact hh.1, hh.2⟩
     clear hy hu hn
     refine qab fun R HR => ?_
     go_enter Tryz.func95, Tryz.ntmps95
     go_wp2_with (first | (go_at_call 35; (with_reducible refine (CN _).mono ?_); rintro e w' ⟨rfl, rfl⟩) | (go_at_call 35; (with_reducible refine (CM _).mono ?_); rintro e w' ⟨rfl, rfl⟩))
     all_goals
      refine bodyPost_ret (v := ?_) ?hrun rfl ?_
      case hrun => (simp only [results, Tryz.results95]; go_simp; first | done | exact rfl)
      exact HR.out _ _ ⟨by first | (rw [RV.out]; done) | (rw [RV.out]; rfl), bbel⟩
   ·have hu' := isW_true hu
    have RV : Hid (clsRead [x, y, u] = (⟨y, ⟨#[]⟩, [], []⟩, true)) := qhd (by unfold clsRead; simp [hy, hu])
    clear hy hu
    refine qab fun R HR => ?_
    go_enter Tryz.func95, Tryz.ntmps95
    go_wp2_with (go_at_call 35; refine (CN _).mono ?_; rintro e w' ⟨rfl, rfl⟩)
    all_goals
     refine bodyPost_ret (v := ?_) ?hrun rfl ?_
     case hrun => (simp only [results, Tryz.results95]; go_simp; first | done | exact rfl)
     exact HR.out _ _ ⟨by first | (rw [RV.out]; done) | (rw [RV.out]; rfl), bbel⟩
 ·have RV := qhd (clsRead_len h3)
  have hd : ((ws.length : Int) == 3) = false := by rw [beq_eq_false_iff_ne]; omega
  have hd2 : ((ws.length : Int) != 3) = true := by rw [bne, hd]; rfl
  clear h3 hcell hsz
  refine qab fun R HR => ?_
  go_enter Tryz.func95, Tryz.ntmps95
  go_wp2
  all_goals
   refine bodyPost_ret (v := ?_) ?hrun rfl ?_
   case hrun => (simp only [results, Tryz.results95]; go_simp; first | done | exact rfl)
   exact HR.out _ _ ⟨by first | (rw [RV.out]; done) | (rw [RV.out]; rfl), bbel⟩

theorem S_l8ReadField (v : Value) (ws : List ByteArray) (g cap : Nat) (w : World) (h : Wds w v ws g cap) :
  Calls Tryz.prog 109 #[v] w fun e w' => e = .returned (fldT (fldRead ws)) ∧ Below w.heap.size w w' := by
 obtain ⟨rfl, hcell, hsz, hpos, hlen⟩ := h
 by_cases h3 : ws.length = 3
 ·obtain ⟨x, y, u, rfl⟩ := three_words h3
  have c1 := hcell 1 y rfl
  have c2 := hcell 2 u rfl
  have hg : g < w.heap.size := block_lt_of_cell c1
  have sy := hsz y (by simp)
  have su := hsz u (by simp)
  clear hcell hsz h3 hpos hlen
  cases hy : namOk y
  ·have RV : Hid (fldRead [x, y, u] = (nilFld, false)) := qhd (by unfold fldRead; simp [hy])
   have CN : ∀ W, Calls Tryz.prog 35 #[.string y] W fun e w' => e = .returned (.bool false) ∧ W = w' := fun W => (S_NamOk y W (by unfold maxLen; omega)).mono fun e w' hh => ⟨by rw [← hy]; exact hh.1, hh.2⟩
   clear hy
   refine qab fun R HR => ?_
   go_enter Tryz.func109, Tryz.ntmps109
   go_wp2_with (go_at_call 35; refine (CN _).mono ?_; rintro e w' ⟨rfl, rfl⟩)
   all_goals
    refine bodyPost_ret (v := ?_) ?hrun rfl ?_
    case hrun => (simp only [results, Tryz.results109]; go_simp; first | done | exact rfl)
    exact HR.out _ _ ⟨by first | (rw [RV.out]; done) | (rw [RV.out]; rfl), bbel⟩
  ·have CN : ∀ W, Calls Tryz.prog 35 #[.string y] W fun e w' => e = .returned (.bool true) ∧ W = w' := fun W => (S_NamOk y W (by unfold maxLen; omega)).mono fun e w' hh => ⟨by rw [← hy]; exact hh.1, hh.2⟩
   obtain ⟨k, b, hk⟩ : ∃ k b, kndRead u = (k, b) := ⟨_, _, rfl⟩
   have RV : Hid (fldRead [x, y, u] = (⟨y, k⟩, b)) := qhd (by unfold fldRead; simp [hy, hk])
   have CK : ∀ W, Calls Tryz.prog 118 #[.string u] W fun e w' => e = .returned (kndT (k, b)) ∧ Below W.heap.size W w' := fun W => (S_KndReadX u W su).mono fun e w' hh => ⟨by rw [← hk]; exact hh.1, hh.2⟩
   clear hy hk
   refine qab fun R HR => ?_
   go_enter Tryz.func109, Tryz.ntmps109
   go_wp2_with (first | (go_at_call 35; refine (CN _).mono ?_; rintro e w' ⟨rfl, rfl⟩) | fail)
   refine (CK _).mono ?_
   rintro _ w1 ⟨rfl, h1⟩
   have h1s := (h1).size; (try simp only [qsz] at h1s)
   replace c1 : w1.cell? ⟨g, 1, none⟩ = some (.string y) := qad h1 (by go_simp)
   have hg1 : g < w1.heap.size := block_lt_of_cell c1
   have F1 := (Three2.new w (.string ⟨#[]⟩) (.int .i64 0) (.string ⟨#[]⟩) 69).keep h1
   obtain ⟨hl, z0, z1, z2, f0, f1, f2⟩ := F1
   unfold kndT
   go_wp2_with fail
   go_region
   all_goals go_wp2
   all_goals
    refine bodyPost_ret (v := ?_) ?hrun rfl ?_
    case hrun => (simp only [results, Tryz.results109]; go_simp; first | done | exact rfl)
    exact HR.out _ _ ⟨by first | (rw [RV.out]; done) | (rw [RV.out]; rfl), bbel⟩
 ·have RV := qhd (fldRead_len h3)
  have hd : ((ws.length : Int) == 3) = false := by rw [beq_eq_false_iff_ne]; omega
  have hd2 : ((ws.length : Int) != 3) = true := by rw [bne, hd]; rfl
  clear h3 hcell hsz
  refine qab fun R HR => ?_
  go_enter Tryz.func109, Tryz.ntmps109
  go_wp2
  all_goals
   refine bodyPost_ret (v := ?_) ?hrun rfl ?_
   case hrun => (simp only [results, Tryz.results109]; go_simp; first | done | exact rfl)
   exact HR.out _ _ ⟨by first | (rw [RV.out]; done) | (rw [RV.out]; rfl), bbel⟩

structure Eight (w : World) (b : Nat) (x0 x1 x2 x3 x4 x5 x6 x7 : Value) : Prop where
 lt : b < w.heap.size
 c0 : w.cell? ⟨b, 0, none⟩ = some x0
 c1 : w.cell? ⟨b, 1, none⟩ = some x1
 c2 : w.cell? ⟨b, 2, none⟩ = some x2
 c3 : w.cell? ⟨b, 3, none⟩ = some x3
 c4 : w.cell? ⟨b, 4, none⟩ = some x4
 c5 : w.cell? ⟨b, 5, none⟩ = some x5
 c6 : w.cell? ⟨b, 6, none⟩ = some x6
 c7 : w.cell? ⟨b, 7, none⟩ = some x7
 f0 : w.frozen? ⟨b, 0, none⟩ = false
 f1 : w.frozen? ⟨b, 1, none⟩ = false
 f2 : w.frozen? ⟨b, 2, none⟩ = false
 f3 : w.frozen? ⟨b, 3, none⟩ = false
 f4 : w.frozen? ⟨b, 4, none⟩ = false
 f5 : w.frozen? ⟨b, 5, none⟩ = false
 f6 : w.frozen? ⟨b, 6, none⟩ = false
 f7 : w.frozen? ⟨b, 7, none⟩ = false
theorem qat {w w' : World} {N b o : Nat} {v : Value} (hb : Below N w w') (hN : b < N) (h : w.cell? ⟨b, o, none⟩ = some v) : w'.cell? ⟨b, o, none⟩ = some v := (hb.cell (p := ⟨b, o, none⟩) hN).trans h
theorem qax {w w' : World} {N b o : Nat} (hb : Below N w w') (hN : b < N) (h : w.frozen? ⟨b, o, none⟩ = false) : w'.frozen? ⟨b, o, none⟩ = false := (hb.frozen (p := ⟨b, o, none⟩) hN).trans h
theorem Eight.below {w w' : World} {N b : Nat} {x0 x1 x2 x3 x4 x5 x6 x7 : Value} (h : Eight w b x0 x1 x2 x3 x4 x5 x6 x7) (hb : Below N w w') (hN : b < N) : Eight w' b x0 x1 x2 x3 x4 x5 x6 x7 :=
 ⟨Nat.lt_of_lt_of_le h.lt hb.size, qat hb hN h.c0, qat hb hN h.c1, qat hb hN h.c2, qat hb hN h.c3, qat hb hN h.c4, qat hb hN h.c5, qat hb hN h.c6, qat hb hN h.c7,
  qax hb hN h.f0, qax hb hN h.f1, qax hb hN h.f2, qax hb hN h.f3, qax hb hN h.f4, qax hb hN h.f5, qax hb hN h.f6, qax hb hN h.f7⟩
theorem Eight.keep {w w' : World} {b : Nat} {x0 x1 x2 x3 x4 x5 x6 x7 : Value} (h : Eight w b x0 x1 x2 x3 x4 x5 x6 x7) (hb : Below w.heap.size w w') : Eight w' b x0 x1 x2 x3 x4 x5 x6 x7 := h.below hb h.lt
theorem Eight.new (w : World) (x0 x1 x2 x3 x4 x5 x6 x7 : Value) (t : TypeId) : Eight (w.alloc (.cells #[x0, x1, x2, x3, x4, x5, x6, x7] t)) w.heap.size x0 x1 x2 x3 x4 x5 x6 x7 := by
 refine ⟨by simp, ?_, ?_, ?_, ?_, ?_, ?_, ?_, ?_, ?_, ?_, ?_, ?_, ?_, ?_, ?_, ?_⟩ <;> go_simp
theorem Eight.set_other {w : World} {b c o : Nat} {v : Value} {x0 x1 x2 x3 x4 x5 x6 x7 : Value} (h : Eight w b x0 x1 x2 x3 x4 x5 x6 x7) (hn : b ≠ c) : Eight (w.setCell ⟨c, o, none⟩ v) b x0 x1 x2 x3 x4 x5 x6 x7 := by
 have hc : ∀ j, (w.setCell ⟨c, o, none⟩ v).cell? ⟨b, j, none⟩ = w.cell? ⟨b, j, none⟩ := fun j => World.cell?_setCell_other _ _ _ _ (by intro e; simp at e <;> omega)
 have hf : ∀ j, (w.setCell ⟨c, o, none⟩ v).frozen? ⟨b, j, none⟩ = w.frozen? ⟨b, j, none⟩ := fun j => by rw [World.frozen?_setCell]
 obtain ⟨h0, a0, a1, a2, a3, a4, a5, a6, a7, b0, b1, b2, b3, b4, b5, b6, b7⟩ := h
 refine ⟨by simpa [World.setCell] using h0, ?_, ?_, ?_, ?_, ?_, ?_, ?_, ?_, ?_, ?_, ?_, ?_, ?_, ?_, ?_, ?_⟩ <;> first | (rw [hc]; assumption) | (rw [hf]; assumption)
theorem Eight.set1 {w : World} {b : Nat} {v : Value} {x0 x1 x2 x3 x4 x5 x6 x7 : Value} (h : Eight w b x0 x1 x2 x3 x4 x5 x6 x7) : Eight (w.setCell ⟨b, 1, none⟩ v) b x0 v x2 x3 x4 x5 x6 x7 := by
 have hc : ∀ j, j ≠ 1 → (w.setCell ⟨b, 1, none⟩ v).cell? ⟨b, j, none⟩ = w.cell? ⟨b, j, none⟩ := fun j hj => World.cell?_setCell_other _ _ _ _ (by intro e; simp at e <;> omega)
 have hf : ∀ j, (w.setCell ⟨b, 1, none⟩ v).frozen? ⟨b, j, none⟩ = w.frozen? ⟨b, j, none⟩ := fun j => by rw [World.frozen?_setCell]
 obtain ⟨h0, a0, a1, a2, a3, a4, a5, a6, a7, b0, b1, b2, b3, b4, b5, b6, b7⟩ := h
 have h1 : (w.setCell ⟨b, 1, none⟩ v).cell? ⟨b, 1, none⟩ = some v := by rw [World.cell?_setCell_same _ _ _ a1]
 refine ⟨by simpa [World.setCell] using h0, ?_, ?_, ?_, ?_, ?_, ?_, ?_, ?_, ?_, ?_, ?_, ?_, ?_, ?_, ?_, ?_⟩ <;> first | exact h1 | (rw [hc _ (by decide)]; assumption) | (rw [hf]; assumption)

theorem Eight.range {w : World} {b : Nat} {x0 x1 x2 x3 x4 x5 x6 x7 : Value} (h : Eight w b x0 x1 x2 x3 x4 x5 x6 x7) : w.rangeAt b 0 [x0, x1, x2, x3, x4, x5, x6, x7] := fun j v hj => by
 obtain ⟨_, a0, a1, a2, a3, a4, a5, a6, a7, _⟩ := h
 rw [Nat.zero_add]
 match j, hj with
 | 0, hj => cases hj; exact a0
 | 1, hj => cases hj; exact a1
 | 2, hj => cases hj; exact a2
 | 3, hj => cases hj; exact a3
 | 4, hj => cases hj; exact a4
 | 5, hj => cases hj; exact a5
 | 6, hj => cases hj; exact a6
 | 7, hj => cases hj; exact a7
 | j + 8, hj => simp at hj
theorem Eight.there {w : World} {b : Nat} {x0 x1 x2 x3 x4 x5 x6 x7 : Value} (h : Eight w b x0 x1 x2 x3 x4 x5 x6 x7) : w.there b 0 8 := fun j hj => by
 obtain ⟨_, a0, a1, a2, a3, a4, a5, a6, a7, b0, b1, b2, b3, b4, b5, b6, b7⟩ := h
 rw [Nat.zero_add]
 match j, hj with
 | 0, _ => exact ⟨by rw [a0]; rfl, b0⟩
 | 1, _ => exact ⟨by rw [a1]; rfl, b1⟩
 | 2, _ => exact ⟨by rw [a2]; rfl, b2⟩
 | 3, _ => exact ⟨by rw [a3]; rfl, b3⟩
 | 4, _ => exact ⟨by rw [a4]; rfl, b4⟩
 | 5, _ => exact ⟨by rw [a5]; rfl, b5⟩
 | 6, _ => exact ⟨by rw [a6]; rfl, b6⟩
 | 7, _ => exact ⟨by rw [a7]; rfl, b7⟩
theorem Eight.of {w : World} {b : Nat} {x0 x1 x2 x3 x4 x5 x6 x7 : Value} (h0 : b < w.heap.size) (hr : w.rangeAt b 0 [x0, x1, x2, x3, x4, x5, x6, x7]) (ht : w.there b 0 8) : Eight w b x0 x1 x2 x3 x4 x5 x6 x7 := by
 have e : ∀ j, 0 + j = j := fun j => Nat.zero_add j
 refine ⟨h0, ?_, ?_, ?_, ?_, ?_, ?_, ?_, ?_, ?_, ?_, ?_, ?_, ?_, ?_, ?_, ?_⟩
 ·exact hr 0 _ rfl
 ·exact hr 1 _ rfl
 ·exact hr 2 _ rfl
 ·exact hr 3 _ rfl
 ·exact hr 4 _ rfl
 ·exact hr 5 _ rfl
 ·exact hr 6 _ rfl
 ·exact hr 7 _ rfl
 ·exact (ht 0 (by decide)).2
 ·exact (ht 1 (by decide)).2
 ·exact (ht 2 (by decide)).2
 ·exact (ht 3 (by decide)).2
 ·exact (ht 4 (by decide)).2
 ·exact (ht 5 (by decide)).2
 ·exact (ht 6 (by decide)).2
 ·exact (ht 7 (by decide)).2

structure Turn (b : Nat) (w w' : World) : Prop where
 os : w'.os = w.os
 tape : w'.tape = w.tape
 output : w'.output = w.output
 size : w.heap.size = w'.heap.size
 block : ∀ k, k ≠ b → w'.heap[k]? = w.heap[k]?
theorem Turn.setCells (b : Nat) (vs : List Value) (o : Nat) (w : World) : Turn b w (w.setCells b o vs) := by
 have h1 : ∀ (vs : List Value) (o : Nat) (w : World), (w.setCells b o vs).os = w.os ∧ (w.setCells b o vs).tape = w.tape ∧ (w.setCells b o vs).output = w.output := by
  intro vs
  induction vs with
  | nil => intro o w; exact ⟨rfl, rfl, rfl⟩
  | cons v r ih =>
    intro o w
    rw [World.setCells]
    obtain ⟨a, b, c⟩ := ih (o + 1) (w.setCell ⟨b, o, none⟩ v)
    exact ⟨a, b, c⟩
 exact ⟨(h1 vs o w).1, (h1 vs o w).2.1, (h1 vs o w).2.2, (size_setCells b vs o w).symm, fun k hk => heap_setCells b vs o w k hk⟩
theorem Turn.below {b N : Nat} {w w' : World} (h : Turn b w w') (hb : N ≤ b) : Below N w w' := ⟨h.os, h.tape, h.output, Nat.le_of_eq h.size, fun k hk => h.block k (by omega)⟩
theorem turn_hyp {N b : Nat} {w w1 w' : World} (h : Turn b w1 w') (k : Below N w w1) (hb : N ≤ b) : Below N w w' := k.trans (h.below hb)

theorem wpList_store_row {P : Program} {ops : Array Oper} {rest : List Oper} {op : Oper} {a : Act} {w : World} {Q : Exit → Act → World → Prop} (hgd : op.guard = none) (ty : TypeId) (x y : Operand) (ho : op.op = .store ty x y)
  (b : Nat) (cs : List Value) (hx : a.eval x = .pointer (some ⟨b, 0, none⟩)) (hy : a.eval y = .agg cs.toArray)
  (ht : w.there b 0 cs.length) (hi : (P.info? ty).map (·.size) = some cs.length) (h1 : ∀ v ∈ cs, v.oneCell' = true)
  (h : ∀ w', w'.rangeAt b 0 cs → w'.there b 0 cs.length → Turn b w w' → wpList P ops Q rest (a.put op.dst undef) w') : wpList P ops Q (op :: rest) a w := by
 refine wpList_store_mid hgd ty x y ho b 0 cs.toArray hx hy (by simpa using ht) (by simpa using hi) (all_oneCell_toArray h1) ?_
 refine h _ (World.rangeAt_setCells_same w b 0 cs ht) (fun j hj => ?_) (Turn.setCells b _ 0 w)
 refine ⟨World.isSome_setCells b cs _ w _ (ht j hj).1, ?_⟩
 rw [World.frozen?_setCells]; exact (ht j hj).2

theorem TOwn.set {α : Type} {k : Nat} {R : RowRel α} (hR : GoodT NoT R) {e : TypeId} {lo B : Nat} {w : World} {v x : Value} {xs : List α} {c o : Nat} (h : TOwn k R e lo B w v xs) (hc : c < B) : TOwn k R e lo B (w.setCell ⟨c, o, none⟩ x) v xs := by
 refine ⟨h.sl.kept (fun g cs fr hg _ _ => Below.heap_setCell _ _ _ _ ?_) (fun cs y hy => hR.stays lo w _ cs y ⟨by simp [World.setCell], fun _ _ _ _ _ he => he.elim⟩ hy), h.own⟩
 have := h.own g hg
 show g ≠ c
 omega
theorem TSl.form3 {α : Type} {k : Nat} {R : RowRel α} {e : TypeId} {lo : Nat} {w : World} {v : Value} {xs : List α} (h : TSl k R e lo w v xs) : ∃ (a : Option Addr) (n cap : Nat), v = .slice a n cap := by
 obtain ⟨a, cap, h, _⟩ := h.form
 exact ⟨a, _, cap, h⟩
theorem TOwn.nil {α : Type} {k : Nat} {R : RowRel α} {e : TypeId} {lo B : Nat} {w : World} : TOwn k R e lo B w (.slice none 0 0) ([] : List α) := ⟨TSl.nil, fun b hb => by simp [Value.ownBlock] at hb⟩

theorem mthRead_shape {x nm lo st rt : ByteArray} {ag : List ByteArray} (ha : ag.length ≤ 3) (hn : namOk nm = true) : mthRead (x :: nm :: lo :: st :: rt :: ag) = match kndsRead ag with
  | none => (nilMth, false)
  | some ks => (⟨nm, ks, (kndRead rt).1, (readNum lo).1, (readNum st).1, [], []⟩, (readNum lo).2 && (readNum st).2 && (kndRead rt).2 && decide (0 ≤ (readNum lo).1) && decide (0 ≤ (readNum st).1)) := by
 unfold mthRead
 simp only [ha, hn, decide_true, Bool.and_self, if_true]
 cases kndsRead ag <;> rfl
theorem mthRead_bad {ws : List ByteArray} (h : ws.length < 5 ∨ 8 < ws.length) : mthRead ws = (nilMth, false) := by
 unfold mthRead
 split
 ·rename_i ag
  simp at h
  rw [if_neg (by simp; omega)]
 ·rfl
theorem mthRead_name {x nm lo st rt : ByteArray} {ag : List ByteArray} (hn : namOk nm = false) : mthRead (x :: nm :: lo :: st :: rt :: ag) = (nilMth, false) := by
 unfold mthRead
 simp [hn]
theorem five_words {ws : List ByteArray} (h : ¬ ws.length < 5) : ∃ x nm lo st rt ag, ws = x :: nm :: lo :: st :: rt :: ag := by
 match ws, h with
 | x :: nm :: lo :: st :: rt :: ag, _ => exact ⟨x, nm, lo, st, rt, ag, rfl⟩
 | [], h => simp at h
 | [_], h => simp at h
 | [_, _], h => simp at h
 | [_, _, _], h => simp at h
 | [_, _, _, _], h => simp at h
theorem mthRead_code (ws : List ByteArray) : (mthRead ws).1.fCode = [] ∧ (mthRead ws).1.fMaps = [] := by
 unfold mthRead
 split
 ·split
  ·split <;> exact ⟨rfl, rfl⟩
  ·exact ⟨rfl, rfl⟩
 ·exact ⟨rfl, rfl⟩
theorem kndsRead_step {az : List DKndKind} {ag : List ByteArray} {j : Nat} {s : ByteArray} (hs : ag[j]? = some s) (h : kndsRead ag = (kndsRead (ag.drop j)).map (az ++ ·)) (hk : (kndRead s).2 = true) :
  kndsRead ag = (kndsRead (ag.drop (j + 1))).map ((az ++ [(kndRead s).1]) ++ ·) := by
 obtain ⟨hj, rfl⟩ := List.getElem?_eq_some_iff.1 hs
 rw [h, List.drop_eq_getElem_cons hj, kndsRead, if_pos hk, Option.map_map]
 congr 1
 funext l
 simp
theorem kndsRead_stop {az : List DKndKind} {ag : List ByteArray} {j : Nat} {s : ByteArray} (hs : ag[j]? = some s) (h : kndsRead ag = (kndsRead (ag.drop j)).map (az ++ ·)) (hk : (kndRead s).2 = false) : kndsRead ag = none := by
 obtain ⟨hj, rfl⟩ := List.getElem?_eq_some_iff.1 hs
 rw [h, List.drop_eq_getElem_cons hj, kndsRead, if_neg (by rw [hk]; decide)]
 rfl
theorem kndsRead_done {az : List DKndKind} {ag : List ByteArray} {j : Nat} (hj : ag.length = j) (h : kndsRead ag = (kndsRead (ag.drop j)).map (az ++ ·)) : kndsRead ag = some az := by
 rw [h, List.drop_eq_nil_of_le (by omega), kndsRead]
 simp

theorem kndRead_size {s : ByteArray} {k : DKndKind} {b : Bool} (h : kndRead s = (k, b)) : k.fName.size ≤ s.size := by
 unfold kndRead at h
 split at h
 ·cases h; exact Nat.zero_le _
 ·split at h
  ·cases h; exact Nat.le_refl _
  ·cases h; exact Nat.zero_le _
def mthT (x : DClsMethod × Bool) (v : Value) : Value := .tuple #[.agg #[.string x.1.fName, v, .int .i64 x.1.fRet.fKind, .string x.1.fRet.fName, .int .i64 x.1.fLocals, .int .i64 x.1.fStack, .slice none 0 0, .slice none 0 0], .bool x.2]
def MthPost (ws : List ByteArray) (w : World) (e : Ending) (w' : World) : Prop :=
 ∃ v, e = .returned (mthT (mthRead ws) v) ∧ TSl 2 rKndKind 61 w.heap.size w' v (mthRead ws).1.fArgs ∧ Below w.heap.size w w'
theorem mthPost_nil {ws : List ByteArray} {w w' : World} {e : Ending} (h : mthRead ws = (nilMth, false)) (he : e = .returned (mthT (nilMth, false) (.slice none 0 0))) (hb : Below w.heap.size w w') : MthPost ws w e w' :=
 ⟨.slice none 0 0, by rw [h]; exact he, by rw [h]; exact TSl.nil, hb⟩

theorem sty_Knd : STy 59 61 2 (.agg #[.int .i64 0, .string ⟨#[]⟩]) 24 := ⟨Tryz.underlying59, by kernel_rfl, rfl, by decide, by decide⟩
theorem sty_Tag : STy 96 94 2 (.agg #[.int .i64 0, .string ⟨#[]⟩]) 24 := ⟨Tryz.underlying96, by kernel_rfl, rfl, by decide, by decide⟩


theorem S_l8ReadMethod (v : Value) (ws : List ByteArray) (g cap : Nat) (w : World) (h : Wds w v ws g cap) :
  Calls Tryz.prog 110 #[v] w fun e w' => MthPost ws w e w' := by
 obtain ⟨rfl, hcell, hsz, hpos, hlen⟩ := h
 have HI : Hid ((Tryz.prog.info? 65).map (·.size) = some 8) := qhd (by kernel_rfl)
 by_cases h5 : ws.length < 5
 ·have RV := qhd (mthRead_bad (.inl h5))
  have hd : decide ((ws.length : Int) < 5) = true := by simp; omega
  clear hcell hsz h5
  refine qab fun R HR => ?_
  go_enter Tryz.func110, Tryz.ntmps110
  go_wp2
  all_goals
   refine bodyPost_ret (v := ?_) ?hrun rfl ?_
   case hrun => (simp only [results, Tryz.results110]; go_simp; first | done | exact rfl)
   exact HR.out _ _ (mthPost_nil RV.out rfl (bbel))
 have hd : decide ((ws.length : Int) < 5) = false := by simp; omega
 by_cases h8 : 8 < ws.length
 ·have RV := qhd (mthRead_bad (.inr h8))
  have hd8 : decide ((8 : Int) < (ws.length : Int)) = true := by simp; omega
  clear hcell hsz h5 h8
  refine qab fun R HR => ?_
  go_enter Tryz.func110, Tryz.ntmps110
  go_wp2
  all_goals
   refine bodyPost_ret (v := ?_) ?hrun rfl ?_
   case hrun => (simp only [results, Tryz.results110]; go_simp; first | done | exact rfl)
   exact HR.out _ _ (mthPost_nil RV.out rfl (bbel))
 have hd8 : decide ((8 : Int) < (ws.length : Int)) = false := by simp; omega
 obtain ⟨x, nm, lo, st, rt, ag, hws⟩ := five_words h5
 have c1 : w.cell? ⟨g, 1, none⟩ = some (.string nm) := hcell 1 nm (by rw [hws]; rfl)
 have c2 : w.cell? ⟨g, 2, none⟩ = some (.string lo) := hcell 2 lo (by rw [hws]; rfl)
 have c3 : w.cell? ⟨g, 3, none⟩ = some (.string st) := hcell 3 st (by rw [hws]; rfl)
 have c4 : w.cell? ⟨g, 4, none⟩ = some (.string rt) := hcell 4 rt (by rw [hws]; rfl)
 have CA : Hid (∀ j s, ag[j]? = some s → w.cell? ⟨g, 5 + j, none⟩ = some (.string s) ∧ s.size ≤ 10000) := qhd (fun j s hs => by
  have : ws[5 + j]? = some s := by rw [hws, show 5 + j = j + 1 + 1 + 1 + 1 + 1 by omega]; simpa using hs
  exact ⟨hcell _ _ this, hsz s (List.mem_of_getElem? this)⟩)
 have hg : g < w.heap.size := block_lt_of_cell c1
 have sn := hsz nm (by rw [hws]; simp)
 have sl := hsz lo (by rw [hws]; simp)
 have ss := hsz st (by rw [hws]; simp)
 have sr := hsz rt (by rw [hws]; simp)
 have hal : ws.length ≤ 5 + ag.length ∧ 5 + ag.length ≤ ws.length := by rw [hws]; simp; omega
 have hag : ag.length ≤ 3 := by omega
 clear hcell hsz hpos hlen
 have hl1 : 1 < ws.length := by omega
 have hl2 : 2 < ws.length := by omega
 have hl3 : 3 < ws.length := by omega
 have hl4 : 4 < ws.length := by omega
 cases hn : namOk nm
 ·have RV : Hid (mthRead ws = (nilMth, false)) := qhd (by rw [hws]; exact mthRead_name hn)
  have CN : ∀ W, Calls Tryz.prog 35 #[.string nm] W fun e w' => e = .returned (.bool false) ∧ W = w' := fun W => (S_NamOk nm W (by unfold maxLen; omega)).mono fun e w' hh => ⟨by rw [← hn]; exact hh.1, hh.2⟩
  clear hn hws CA
  refine qab fun R HR => ?_
  go_enter Tryz.func110, Tryz.ntmps110
  go_wp2_with (go_at_call 35; refine (CN _).mono ?_; rintro e w' ⟨rfl, rfl⟩)
  all_goals
   refine bodyPost_ret (v := ?_) ?hrun rfl ?_
   case hrun => (simp only [results, Tryz.results110]; go_simp; first | done | exact rfl)
   exact HR.out _ _ (mthPost_nil RV.out rfl (bbel))
 have SH := qhd (mthRead_shape (x := x) (lo := lo) (st := st) (rt := rt) hag hn)
 have HWS := qhd hws
 have CN : ∀ W, Calls Tryz.prog 35 #[.string nm] W fun e w' => e = .returned (.bool true) ∧ W = w' := fun W => (S_NamOk nm W (by unfold maxLen; omega)).mono fun e w' hh => ⟨by rw [← hn]; exact hh.1, hh.2⟩
 obtain ⟨ln, lb, hlo⟩ : ∃ a b, readNum lo = (a, b) := ⟨_, _, rfl⟩
 obtain ⟨sn', sb, hst⟩ : ∃ a b, readNum st = (a, b) := ⟨_, _, rfl⟩
 obtain ⟨rk, rb, hrt⟩ : ∃ a b, kndRead rt = (a, b) := ⟨_, _, rfl⟩
 rw [hlo, hst, hrt] at SH
 have CL : ∀ W, Calls Tryz.prog 108 #[.string lo] W fun e w' => e = .returned (.tuple #[.int .i64 ln, .bool lb]) ∧ Below W.heap.size W w' := fun W => (S_l1Read lo W sl).mono fun e w' h => ⟨h.1.trans (by unfold numT; rw [hlo]), h.2⟩
 have CS : ∀ W, Calls Tryz.prog 108 #[.string st] W fun e w' => e = .returned (.tuple #[.int .i64 sn', .bool sb]) ∧ Below W.heap.size W w' := fun W => (S_l1Read st W ss).mono fun e w' h => ⟨h.1.trans (by unfold numT; rw [hst]), h.2⟩
 have CK : ∀ W, Calls Tryz.prog 118 #[.string rt] W fun e w' => e = .returned (.tuple #[.agg #[.int .i64 rk.fKind, .string rk.fName], .bool rb]) ∧ Below W.heap.size W w' := fun W => (S_KndReadX rt W sr).mono fun e w' h => ⟨h.1.trans (by rw [hrt]; rfl), h.2⟩
 clear hlo hst hrt hn hws
 refine qab fun R HR => ?_
 go_enter Tryz.func110, Tryz.ntmps110
 go_wp2_with (first | (go_at_call 35; (with_reducible refine (CN _).mono ?_); rintro e w' ⟨rfl, rfl⟩) | fail)
 refine (CL _).mono ?_
 rintro _ w1 ⟨rfl, h1⟩
 have h1s := (h1).size; (try simp only [qsz] at h1s)
 have E1 := (Eight.new w (.string ⟨#[]⟩) (.slice none 0 0) (.int .i64 0) (.string ⟨#[]⟩) (.int .i64 0) (.int .i64 0) (.slice none 0 0) (.slice none 0 0) 65).keep h1
 have hB1 : Below w.heap.size w w1 := bbel
 replace c1 := qad hB1 c1
 replace c3 := qad hB1 c3
 replace c4 := qad hB1 c4
 clear h1
 have HE1 := qhd E1
 clear E1
 go_wp2_with fail
 refine (CS _).mono ?_
 rintro _ w2 ⟨rfl, h2⟩
 have h2s := (h2).size; (try simp only [qsz] at h2s)
 have HE2 := qhd (HE1.out.keep h2)
 have hB2 := hB1.trans (h2.mono hB1.size)
 replace c1 := qad h2 c1
 replace c4 := qad h2 c4
 clear c3 HE1 h2 c2 hB1
 go_wp2_with fail
 refine (CK _).mono ?_
 rintro _ w3 ⟨rfl, h3⟩
 have h3s := (h3).size; (try simp only [qsz] at h3s)
 have HE3 := qhd (HE2.out.keep h3)
 have hB3 := hB2.trans (h3.mono hB2.size)
 replace c1 := qad h3 c1
 have hlt3 := HE3.out.lt
 have hg3 : g < w3.heap.size := block_lt_of_cell c1
 have hs3 := hB3.size
 clear c4 HE2 h3 hB2
 go_wp2_with fail
 go_region
 go_wp2_with fail
 have EM := qhd (Eight.new (w3.alloc (.cells #[.int .i64 rk.fKind, .string rk.fName] 61)) (.string nm) (.slice none 0 0) (.int .i64 rk.fKind) (.string rk.fName) (.int .i64 ln) (.int .i64 sn') (.slice none 0 0) (.slice none 0 0) 65)
 go_loopw [11] (fun kv wr => ∃ (k : Nat) (va : Value) (az : List DKndKind), 5 ≤ k ∧ k ≤ 5 + ag.length ∧ az.length = k - 5 ∧ kv = .int .i64 (k : Int) ∧ kndsRead ag = (kndsRead (ag.drop (k - 5))).map (az ++ ·) ∧ TOwn 2 rKndKind 61 w.heap.size (w3.heap.size + 2) wr va az ∧
   Eight wr (w3.heap.size + 1) (.string nm) va (.int .i64 rk.fKind) (.string rk.fName) (.int .i64 ln) (.int .i64 sn') (.slice none 0 0) (.slice none 0 0) ∧ Eight wr w.heap.size (.string ⟨#[]⟩) (.slice none 0 0) (.int .i64 0) (.string ⟨#[]⟩) (.int .i64 0) (.int .i64 0) (.slice none 0 0) (.slice none 0 0) ∧ w3.heap.size + 2 ≤ wr.heap.size ∧ Below w3.heap.size w3 wr) (fun kv _ => 9 - (intOf kv).toNat)
 case atStart =>
  refine ⟨5, .slice none 0 0, [], by omega, by omega, rfl, rfl, by simp, TOwn.nil, ?_, ?_, ?_, ?_⟩
  ·have := EM.out
   simp only [World.size_alloc] at this
   first | exact this | exact this.keep ((Below.refl _ _).drew)
  ·exact HE3.out.below (bbel : Below w3.heap.size w3 _) hlt3
  ·simp
  ·exact bbel
 case round =>
  obtain ⟨k, va, az, hk5, hkl, hazl, rfl, hkr, hto, hem, her, hsz, hb⟩ := hrel
  obtain ⟨fa, fn, fc, rfl⟩ := hto.sl.form3
  have HKR := qhd hkr
  have HTO := qhd hto
  have HEM := qhd hem
  have HER := qhd her
  have HAZ := qhd hazl
  have hbs := hb.size
  have hBr : Below w.heap.size w wr := hB3.trans (hb.mono hB3.size)
  clear hkr hto hem her hazl EM HE3 c1 CN CL CS CK
  by_cases hlt : k < 5 + ag.length
  ·obtain ⟨s, hs⟩ : ∃ s, ag[k - 5]? = some s := ⟨_, List.getElem?_eq_getElem (by omega)⟩
   obtain ⟨hcs, hss⟩ := CA.out _ s hs
   have cs : wr.cell? ⟨g, k, none⟩ = some (.string s) := by
    have := qad hBr hcs
    rwa [show 5 + (k - 5) = k by omega] at this
   obtain ⟨k2, b2, hk2⟩ : ∃ a b, kndRead s = (a, b) := ⟨_, _, rfl⟩
   have CK2 : ∀ W, Calls Tryz.prog 118 #[.string s] W fun e w' => e = .returned (.tuple #[.agg #[.int .i64 k2.fKind, .string k2.fName], .bool b2]) ∧ Below W.heap.size W w' := fun W => (S_KndReadX s W hss).mono fun e w' h => ⟨h.1.trans (by rw [hk2]; rfl), h.2⟩
   have hkw : k < ws.length := by omega
   clear hcs
   cases b2
   ·have RV : Hid (mthRead ws = (nilMth, false)) := qhd (by rw [HWS.out, SH.out, kndsRead_stop hs HKR.out (by rw [hk2])])
    clear hs hk2 HKR HTO HEM
    go_wp2_with fail
    refine (CK2 _).mono ?_
    rintro _ w4 ⟨rfl, h4⟩
    have h4s := (h4).size; (try simp only [qsz] at h4s)
    have lw := (HER.out.keep h4).lt
    have TH : Hid (∀ o, (w4.alloc o).there w.heap.size 0 8) := qhd (fun o => ((HER.out.keep h4).below (bbel : Below w4.heap.size w4 (w4.alloc o)) lw).there)
    clear CK2 HER SH HAZ HWS CA hs3 hbs cs
    go_wp2_with (refine wpList_store_row (by rfl) 65 (.tmp 2) (.tmp 74) (by rfl) w.heap.size [.string ⟨#[]⟩, .slice none 0 0, .int .i64 0, .string ⟨#[]⟩, .int .i64 0, .int .i64 0, .slice none 0 0, .slice none 0 0] (by rfl) (by rfl) (TH.out _) HI.out (by simp [Value.oneCell']) ?_)
    intro w5 hr5 ht5 hT5
    have hb5 : Below w.heap.size w w5 := turn_hyp hT5 (bbel) (Nat.le_refl _)
    have hz5 := hT5.size
    simp only [World.size_alloc] at hz5
    obtain ⟨_, a0, a1, a2, a3, a4, a5, a6, a7, _⟩ := Eight.of (by omega) hr5 ht5
    clear hr5 ht5 hT5 TH
    go_wp2
    all_goals
     refine bodyPost_ret (v := ?_) ?hrun rfl ?_
     case hrun => (simp only [results, Tryz.results110]; go_simp; first | done | exact rfl)
     exact HR.out _ _ (mthPost_nil RV.out rfl (bbel))
   ·have KS := qhd (kndsRead_step hs HKR.out (by rw [hk2]))
    rw [hk2, show k - 5 + 1 = k + 1 - 5 by omega] at KS
    have hk2s : k2.fName.size ≤ maxLen := Nat.le_trans (kndRead_size hk2) (by unfold maxLen; omega)
    clear hs hk2 HKR
    go_wp2_with fail
    refine (CK2 _).mono ?_
    rintro _ w4 ⟨rfl, h4⟩
    have h4s := (h4).size; (try simp only [qsz] at h4s)
    have HEM4 := qhd (HEM.out.keep h4)
    have HER4 := qhd (HER.out.keep h4)
    have HTO4 := qhd (HTO.out.below rKndKind_goodT h4)
    have hb4 : Below w3.heap.size w3 w4 := hb.trans (h4.mono hb.size)
    have lm := HEM4.out.lt
    have m1 := HEM4.out.c1
    have mf := HEM4.out.f1
    clear CK2 HTO HER HEM hs3 hbs cs
    go_wp2_with (at_builtin; refine qam (B := w3.heap.size + 2) (lo := w.heap.size) (xs := az) (ys := [k2]) (css := [[.int .i64 k2.fKind, .string k2.fName]]) (E := NoT) (by rfl) (.tmp 76) (.tmp 78) 59 (by rfl) sty_Knd rKndKind_goodT id rKndKind_one (by rfl) (by rfl) ?ht ?src (Rows.one rfl ⟨rfl, hk2s⟩) ?hl ?hlo ?hB ?_)
    case ht => exact HTO4.out.below rKndKind_goodT (bbel)
    case src => exact Src.one (by intro j u hj; match j, hj with | 0, hj => cases hj; go_simp | 1, hj => cases hj; go_simp | j + 2, hj => simp at hj)
    case hl => have := HAZ.out; simp; omega
    case hlo => omega
    case hB => simp; omega
    intro v6 w6 ht6 hB6 hg6 hk6 _
    obtain ⟨fa6, fn6, fc6, rfl⟩ := ht6.sl.form3
    have HT6 := qhd ht6
    have hb46 : Below (w3.heap.size + 2) w4 w6 := Below.trans (bbel) hB6
    have HEM6 := qhd (HEM4.out.below hb46 (by omega))
    have HER6 := qhd (HER4.out.below hb46 (by omega))
    have hb6 : Below w3.heap.size w3 w6 := hb4.trans ((hb46.mono (by omega)))
    have hz6 := hb46.size
    clear ht6 hB6 hg6 hk6 hb46 m1 mf lm HEM4 HER4 HTO4
    have lm := HEM6.out.lt
    have m1 := HEM6.out.c1
    have mf := HEM6.out.f1
    go_wp2
    go_roundw
    case measure => simp [intOf]; omega
    case rel =>
     refine ⟨k + 1, .slice fa6 fn6 fc6, az ++ [k2], by omega, by omega, by have := HAZ.out; simp; omega, by go_num, KS.out, HT6.out.set rKndKind_goodT (by omega), HEM6.out.set1, HER6.out.set_other (by omega), by simp [World.setCell]; omega, bbel⟩
  ·have KD := qhd (kndsRead_done (by omega) HKR.out)
   obtain ⟨lm, m0, m1, m2, m3, m4, m5, m6, m7, _⟩ := HEM.out
   have lr := HER.out.lt
   have TH := qhd HER.out.there
   have hkw : ¬ k < ws.length := by omega
   clear HEM HER HKR CA hs3 hbs
   go_wp2_with (refine wpList_store_row (by rfl) 65 (.tmp 2) (.tmp 81) (by rfl) w.heap.size [.string nm, .slice fa fn fc, .int .i64 rk.fKind, .string rk.fName, .int .i64 ln, .int .i64 sn', .slice none 0 0, .slice none 0 0] (by rfl) (by rfl) TH.out HI.out (by simp [Value.oneCell']) ?_)
   all_goals
    intro w5 hr5 ht5 hT5
    have hb5 : Below w.heap.size w w5 := turn_hyp hT5 hBr (Nat.le_refl _)
    have hz5 := hT5.size
    obtain ⟨_, a0, a1, a2, a3, a4, a5, a6, a7, _⟩ := Eight.of (by omega) hr5 ht5
    have HT5 : Hid (TSl 2 rKndKind 61 w.heap.size w5 (.slice fa fn fc) az) := qhd (HTO.out.sl.kept (fun g cs fr hg _ _ => hT5.block g (by have := HTO.out.own g hg; omega)) (fun cs y hy => hy))
    clear hr5 ht5 hT5 TH HTO
    go_wp2
   all_goals
    refine bodyPost_ret (v := ?_) ?hrun rfl ?_
    case hrun => (simp only [results, Tryz.results110]; go_simp; first | done | exact rfl)
    refine HR.out _ _ ⟨.slice fa fn fc, ?_, by rw [HWS.out, SH.out, KD.out]; exact HT5.out, bbel⟩
    rw [HWS.out, SH.out, KD.out]
    unfold mthT
    first | (simp [*]; done) | (simp [*]; omega) | (simp [*]; intros; omega)

theorem mapRead_bad {ws : List ByteArray} (h : ws.length < 3 ∨ 15 < ws.length) : mapRead ws = (nilMap, false) := by
 unfold mapRead
 split
 ·rename_i r
  simp at h
  rw [if_neg (by simp; omega)]
 ·rfl
theorem mapRead_shape {x a : ByteArray} {r : List ByteArray} (h1 : 1 ≤ r.length) (h2 : r.length ≤ 13) : mapRead (x :: a :: r) = match mapGo false [] [] r with
  | none => (nilMap, false)
  | some (bh, lo, st) => (⟨(readNum a).1, lo, st⟩, (readNum a).2 && bh && decide (0 ≤ (readNum a).1)) := by
 unfold mapRead
 simp only [h1, h2, decide_true, Bool.and_self, if_true]
 cases mapGo false [] [] r <;> rfl
theorem mapGo_line {bh : Bool} {lo st : List DTagTag} {r : List ByteArray} {j : Nat} {s : ByteArray} (hs : r[j]? = some s) (h1 : isW s [47] = true) (h2 : bh = false) : mapGo bh lo st (r.drop j) = mapGo true lo st (r.drop (j + 1)) := by
 obtain ⟨hj, rfl⟩ := List.getElem?_eq_some_iff.1 hs
 rw [List.drop_eq_getElem_cons hj, mapGo, if_pos (by rw [h1, h2]; rfl)]
theorem mapGo_tag {bh : Bool} {lo st : List DTagTag} {r : List ByteArray} {j : Nat} {s : ByteArray} (hs : r[j]? = some s) (h1 : (isW s [47] && !bh) = false) (h2 : (tagRead s).2 = true) :
  mapGo bh lo st (r.drop j) = mapGo bh (if bh then lo else lo ++ [(tagRead s).1]) (if bh then st ++ [(tagRead s).1] else st) (r.drop (j + 1)) := by
 obtain ⟨hj, rfl⟩ := List.getElem?_eq_some_iff.1 hs
 rw [List.drop_eq_getElem_cons hj, mapGo, if_neg (by rw [h1]; decide), if_pos h2]
 cases bh <;> rfl
theorem mapGo_stop {bh : Bool} {lo st : List DTagTag} {r : List ByteArray} {j : Nat} {s : ByteArray} (hs : r[j]? = some s) (h1 : (isW s [47] && !bh) = false) (h2 : (tagRead s).2 = false) : mapGo bh lo st (r.drop j) = none := by
 obtain ⟨hj, rfl⟩ := List.getElem?_eq_some_iff.1 hs
 rw [List.drop_eq_getElem_cons hj, mapGo, if_neg (by rw [h1]; decide), if_neg (by rw [h2]; decide)]
theorem mapGo_end {bh : Bool} {lo st : List DTagTag} {r : List ByteArray} {j : Nat} (h : r.length ≤ j) : mapGo bh lo st (r.drop j) = some (bh, lo, st) := by
 rw [List.drop_eq_nil_of_le h, mapGo]
theorem tagRead_size {s : ByteArray} : (tagRead s).1.fName.size ≤ s.size := by
 unfold tagRead
 split
 ·exact Nat.zero_le _
 ·split
  ·exact Nat.zero_le _
  ·split
   ·exact Nat.zero_le _
   ·exact Nat.le_refl _

def mapT (x : DClsMap × Bool) (v1 v2 : Value) : Value := .tuple #[.agg #[.int .i64 x.1.fAt, v1, v2], .bool x.2]
def MapPost (ws : List ByteArray) (w : World) (e : Ending) (w' : World) : Prop :=
 ∃ v1 v2, e = .returned (mapT (mapRead ws) v1 v2) ∧ TSl 2 rTagTag 94 w.heap.size w' v1 (mapRead ws).1.fLocals ∧ TSl 2 rTagTag 94 w.heap.size w' v2 (mapRead ws).1.fStack ∧ Below w.heap.size w w'
theorem mapPost_nil {ws : List ByteArray} {w w' : World} {e : Ending} (h : mapRead ws = (nilMap, false)) (he : e = .returned (mapT (nilMap, false) (.slice none 0 0) (.slice none 0 0))) (hb : Below w.heap.size w w') : MapPost ws w e w' :=
 ⟨.slice none 0 0, .slice none 0 0, by rw [h]; exact he, by rw [h]; exact TSl.nil, by rw [h]; exact TSl.nil, hb⟩

theorem Three2.below {w w' : World} {N b : Nat} {x0 x1 x2 : Value} (h : Three2 w b x0 x1 x2) (hb : Below N w w') (hN : b < N) : Three2 w' b x0 x1 x2 :=
 ⟨Nat.lt_of_lt_of_le h.lt hb.size, qat hb hN h.c0, qat hb hN h.c1, qat hb hN h.c2, qax hb hN h.f0, qax hb hN h.f1, qax hb hN h.f2⟩
theorem Three2.set_other {w : World} {b c o : Nat} {v x0 x1 x2 : Value} (h : Three2 w b x0 x1 x2) (hn : b ≠ c) : Three2 (w.setCell ⟨c, o, none⟩ v) b x0 x1 x2 := by
 have hc : ∀ j, (w.setCell ⟨c, o, none⟩ v).cell? ⟨b, j, none⟩ = w.cell? ⟨b, j, none⟩ := fun j => World.cell?_setCell_other _ _ _ _ (by intro e; simp at e <;> omega)
 have hf : ∀ j, (w.setCell ⟨c, o, none⟩ v).frozen? ⟨b, j, none⟩ = w.frozen? ⟨b, j, none⟩ := fun j => by rw [World.frozen?_setCell]
 obtain ⟨h0, a0, a1, a2, b0, b1, b2⟩ := h
 refine ⟨by simpa [World.setCell] using h0, ?_, ?_, ?_, ?_, ?_, ?_⟩ <;> first | (rw [hc]; assumption) | (rw [hf]; assumption)
theorem Three2.set1 {w : World} {b : Nat} {v x0 x1 x2 : Value} (h : Three2 w b x0 x1 x2) : Three2 (w.setCell ⟨b, 1, none⟩ v) b x0 v x2 := by
 have hc : ∀ j, j ≠ 1 → (w.setCell ⟨b, 1, none⟩ v).cell? ⟨b, j, none⟩ = w.cell? ⟨b, j, none⟩ := fun j hj => World.cell?_setCell_other _ _ _ _ (by intro e; simp at e <;> omega)
 have hf : ∀ j, (w.setCell ⟨b, 1, none⟩ v).frozen? ⟨b, j, none⟩ = w.frozen? ⟨b, j, none⟩ := fun j => by rw [World.frozen?_setCell]
 obtain ⟨h0, a0, a1, a2, b0, b1, b2⟩ := h
 have h1 : (w.setCell ⟨b, 1, none⟩ v).cell? ⟨b, 1, none⟩ = some v := by rw [World.cell?_setCell_same _ _ _ a1]
 refine ⟨by simpa [World.setCell] using h0, ?_, ?_, ?_, ?_, ?_, ?_⟩ <;> first | exact h1 | (rw [hc _ (by decide)]; assumption) | (rw [hf]; assumption)
theorem Three2.set2 {w : World} {b : Nat} {v x0 x1 x2 : Value} (h : Three2 w b x0 x1 x2) : Three2 (w.setCell ⟨b, 2, none⟩ v) b x0 x1 v := by
 have hc : ∀ j, j ≠ 2 → (w.setCell ⟨b, 2, none⟩ v).cell? ⟨b, j, none⟩ = w.cell? ⟨b, j, none⟩ := fun j hj => World.cell?_setCell_other _ _ _ _ (by intro e; simp at e <;> omega)
 have hf : ∀ j, (w.setCell ⟨b, 2, none⟩ v).frozen? ⟨b, j, none⟩ = w.frozen? ⟨b, j, none⟩ := fun j => by rw [World.frozen?_setCell]
 obtain ⟨h0, a0, a1, a2, b0, b1, b2⟩ := h
 have h1 : (w.setCell ⟨b, 2, none⟩ v).cell? ⟨b, 2, none⟩ = some v := by rw [World.cell?_setCell_same _ _ _ a2]
 refine ⟨by simpa [World.setCell] using h0, ?_, ?_, ?_, ?_, ?_, ?_⟩ <;> first | exact h1 | (rw [hc _ (by decide)]; assumption) | (rw [hf]; assumption)


theorem TOwn.set3 {e : TypeId} {lo B : Nat} {w : World} {v : Value} {xs : List DTagTag} {c : Nat} {x0 x1 x2 : Value} (h : TOwn 2 rTagTag e lo B w v xs) (hc : c < B) : TOwn 2 rTagTag e lo B (((w.setCell ⟨c, 0, none⟩ x0).setCell ⟨c, 1, none⟩ x1).setCell ⟨c, 2, none⟩ x2) v xs :=
 ((h.set rTagTag_goodT hc).set rTagTag_goodT hc).set rTagTag_goodT hc

theorem S_l8ReadMap (v : Value) (ws : List ByteArray) (g cap : Nat) (w : World) (h : Wds w v ws g cap) :
  Calls Tryz.prog 111 #[v] w fun e w' => MapPost ws w e w' := by
 obtain ⟨rfl, hcell, hsz, hpos, hlen⟩ := h
 by_cases h5 : ws.length < 3
 ·have RV := qhd (mapRead_bad (.inl h5))
  have hd : decide ((ws.length : Int) < 3) = true := by simp; omega
  clear hcell hsz h5
  refine qab fun R HR => ?_
  go_enter Tryz.func111, Tryz.ntmps111
  go_wp2
  all_goals
   refine bodyPost_ret (v := ?_) ?hrun rfl ?_
   case hrun => (simp only [results, Tryz.results111]; go_simp; first | done | exact rfl)
   exact HR.out _ _ (mapPost_nil RV.out rfl (bbel))
 have hd : decide ((ws.length : Int) < 3) = false := by simp; omega
 by_cases h8 : 15 < ws.length
 ·have RV := qhd (mapRead_bad (.inr h8))
  have hd8 : decide ((15 : Int) < (ws.length : Int)) = true := by simp; omega
  clear hcell hsz h5 h8
  refine qab fun R HR => ?_
  go_enter Tryz.func111, Tryz.ntmps111
  go_wp2
  all_goals
   refine bodyPost_ret (v := ?_) ?hrun rfl ?_
   case hrun => (simp only [results, Tryz.results111]; go_simp; first | done | exact rfl)
   exact HR.out _ _ (mapPost_nil RV.out rfl (bbel))
 have hd8 : decide ((15 : Int) < (ws.length : Int)) = false := by simp; omega
 obtain ⟨x, nm, r, hws⟩ : ∃ x a r, ws = x :: a :: r := by
  match ws, h5 with
  | x :: a :: r, _ => exact ⟨x, a, r, rfl⟩
  | [], h => simp at h
  | [_], h => simp at h
 have c1 : w.cell? ⟨g, 1, none⟩ = some (.string nm) := hcell 1 nm (by rw [hws]; rfl)
 have CA : Hid (∀ j s, r[j]? = some s → w.cell? ⟨g, 2 + j, none⟩ = some (.string s) ∧ s.size ≤ 10000) := qhd (fun j s hs => by
  have : ws[2 + j]? = some s := by rw [hws, show 2 + j = j + 1 + 1 by omega]; simpa using hs
  exact ⟨hcell _ _ this, hsz s (List.mem_of_getElem? this)⟩)
 have hg : g < w.heap.size := block_lt_of_cell c1
 have sn := hsz nm (by rw [hws]; simp)
 have hal : ws.length ≤ 2 + r.length ∧ 2 + r.length ≤ ws.length := by rw [hws]; simp; omega
 have hr13 : 1 ≤ r.length ∧ r.length ≤ 13 := by omega
 have SH := qhd (mapRead_shape (x := x) (a := nm) hr13.1 hr13.2)
 have HWS := qhd hws
 have hl1 : 1 < ws.length := by omega
 obtain ⟨ln, lb, hlo⟩ : ∃ a b, readNum nm = (a, b) := ⟨_, _, rfl⟩
 rw [hlo] at SH
 have CL : ∀ W, Calls Tryz.prog 108 #[.string nm] W fun e w' => e = .returned (.tuple #[.int .i64 ln, .bool lb]) ∧ Below W.heap.size W w' := fun W => (S_l1Read nm W sn).mono fun e w' h => ⟨h.1.trans (by unfold numT; rw [hlo]), h.2⟩
 clear hcell hsz hpos hlen hlo hws
 refine qab fun R HR => ?_
 go_enter Tryz.func111, Tryz.ntmps111
 go_wp2_with fail
 refine (CL _).mono ?_
 rintro _ w1 ⟨rfl, h1⟩
 have h1s := (h1).size; (try simp only [qsz] at h1s)
 have E1 := qhd ((Three2.new w (.int .i64 0) (.slice none 0 0) (.slice none 0 0) 98).keep h1)
 have hB1 : Below w.heap.size w w1 := bbel
 have hg1 : g < w1.heap.size := by omega
 have hs1 := hB1.size
 have hlt1 := E1.out.lt
 clear h1 CL c1
 go_wp2_with fail
 have EM := qhd (Three2.new w1 (.int .i64 ln) (.slice none 0 0) (.slice none 0 0) 98)
 go_loopw [7, 8] (fun bv kv wr => ∃ (k : Nat) (bh : Bool) (va vb : Value) (lo st : List DTagTag), 2 ≤ k ∧ k ≤ 2 + r.length ∧ lo.length + st.length ≤ k ∧ bv = .bool bh ∧ kv = .int .i64 (k : Int) ∧ mapGo false [] [] r = mapGo bh lo st (r.drop (k - 2)) ∧
   TOwn 2 rTagTag 94 w.heap.size (w1.heap.size + 1) wr va lo ∧ TOwn 2 rTagTag 94 w.heap.size (w1.heap.size + 1) wr vb st ∧ (∀ b, va.ownBlock = some b → vb.ownBlock ≠ some b) ∧
   Three2 wr w1.heap.size (.int .i64 ln) va vb ∧ Three2 wr w.heap.size (.int .i64 0) (.slice none 0 0) (.slice none 0 0) ∧ w1.heap.size + 1 ≤ wr.heap.size ∧ Below w1.heap.size w1 wr) (fun _ kv _ => 18 - (intOf kv).toNat)
 case atStart =>
  refine ⟨2, false, .slice none 0 0, .slice none 0 0, [], [], by omega, by omega, by simp, rfl, rfl, by simp, TOwn.nil, TOwn.nil, fun b hb => by simp [Value.ownBlock] at hb, ?_, ?_, ?_, ?_⟩
  ·exact EM.out
  ·exact E1.out.below (bbel : Below w1.heap.size w1 _) hlt1
  ·simp
  ·exact bbel
 case round =>
  obtain ⟨k, bh, va, vb, lo, st, hk2, hkl, hls, rfl, rfl, hgo, hta, htb, hne, hem, her, hsz, hb⟩ := hrel
  obtain ⟨fa, fn, fc, rfl⟩ := hta.sl.form3
  obtain ⟨ga, gn, gc, rfl⟩ := htb.sl.form3
  have GO := qhd hgo
  have HTA := qhd hta
  have HTB := qhd htb
  have HNE := qhd hne
  have HEM := qhd hem
  have HER := qhd her
  have hbs := hb.size
  have hBr : Below w.heap.size w wr := hB1.trans (hb.mono hB1.size)
  clear hgo hta htb hne hem her EM E1
  by_cases hlt : k < 2 + r.length
  ·obtain ⟨s, hs⟩ : ∃ s, r[k - 2]? = some s := ⟨_, List.getElem?_eq_getElem (by omega)⟩
   obtain ⟨hcs, hss⟩ := CA.out _ s hs
   have cs : wr.cell? ⟨g, k, none⟩ = some (.string s) := by
    have := qad hBr hcs
    rwa [show 2 + (k - 2) = k by omega] at this
   have hkw : k < ws.length := by omega
   clear hcs
   have e1 : k - 2 + 1 = k + 1 - 2 := by omega
   by_cases hline : (isW s [47] && !bh) = true
   ·simp only [Bool.and_eq_true, Bool.not_eq_true'] at hline
    obtain ⟨hl47, rfl⟩ := hline
    have GN := qhd (GO.out.trans (mapGo_line hs hl47 rfl))
    rw [e1] at GN
    have hs47 := isW_true hl47
    clear hl47 hs e1 GO
    go_wp2
    go_roundw
    case measure => simp [intOf]; omega
    case rel => exact ⟨k + 1, true, _, _, lo, st, by omega, by omega, by omega, rfl, by go_num, GN.out, HTA.out, HTB.out, HNE.out, HEM.out, HER.out, hsz, hb⟩
   ·obtain ⟨tk, tb, htk⟩ : ∃ a b, tagRead s = (a, b) := ⟨_, _, rfl⟩
    have hline' : (isW s [47] && !bh) = false := Bool.eq_false_iff.2 hline
    have CT : ∀ W, Calls Tryz.prog 119 #[.string s] W fun e w' => e = .returned (.tuple #[.agg #[.int .i64 tk.fKind, .string tk.fName], .bool tb]) ∧ Below W.heap.size W w' := fun W => (S_l8Tag s W hss).mono fun e w' h => ⟨h.1.trans (by rw [htk]; rfl), h.2⟩
    clear hline
    have hts : tk.fName.size ≤ maxLen := by
     have := tagRead_size (s := s)
     rw [htk] at this
     unfold maxLen
     exact Nat.le_trans this (by omega)
    cases tb
    ·have RV : Hid (mapRead ws = (nilMap, false)) := qhd (by rw [HWS.out, SH.out, GO.out, mapGo_stop hs hline' (by rw [htk])])
     clear hs htk GO HTA HTB HNE HEM
     have RV2 := RV
     cases hl47 : isW s [47]
     ·have hs47 := qaw hl47
      clear hl47 hline'
      (go_wp2_with fail)
      refine (CT _).mono ?_
      rintro _ w4 ⟨rfl, h4⟩
      have h4s := (h4).size; (try simp only [qsz] at h4s)
      obtain ⟨lr, r0, r1, r2, o0, o1, o2⟩ := HER.out.below h4 (HER.out.lt)
      clear CT HER SH HWS CA hs1 hbs cs
      go_wp2
      all_goals
       refine bodyPost_ret (v := ?_) ?hrun rfl ?_
       case hrun => (simp only [results, Tryz.results111]; go_simp; first | done | exact rfl)
       exact HR.out _ _ (mapPost_nil RV.out rfl (bbel))
     ·have hs47 := isW_true hl47
      have hbt : bh = true := by cases bh <;> simp_all
      subst hbt
      clear hl47 hline'
      (go_wp2_with fail)
      refine (CT _).mono ?_
      rintro _ w4 ⟨rfl, h4⟩
      have h4s := (h4).size; (try simp only [qsz] at h4s)
      obtain ⟨lr, r0, r1, r2, o0, o1, o2⟩ := HER.out.below h4 (HER.out.lt)
      clear CT HER SH HWS CA hs1 hbs cs
      go_wp2
      all_goals
       refine bodyPost_ret (v := ?_) ?hrun rfl ?_
       case hrun => (simp only [results, Tryz.results111]; go_simp; first | done | exact rfl)
       exact HR.out _ _ (mapPost_nil RV.out rfl (bbel))
    ·have GN := qhd (GO.out.trans (mapGo_tag hs hline' (by rw [htk])))
     rw [htk, e1] at GN
     clear hs htk GO
     cases hl47 : isW s [47]
     ·have hs47 := qaw hl47
      clear hl47 hline'
      cases bh
      ·(try simp only [Bool.false_eq_true, if_false, if_true] at GN)
       go_wp2_with fail
       refine (CT _).mono ?_
       rintro _ w4 ⟨rfl, h4⟩
       have h4s := (h4).size; (try simp only [qsz] at h4s)
       have HEM4 := qhd (HEM.out.below h4 HEM.out.lt)
       have HER4 := qhd (HER.out.below h4 HER.out.lt)
       have HTA4 := qhd (HTA.out.below rTagTag_goodT h4)
       have HTB4 := qhd (HTB.out.below rTagTag_goodT h4)
       have hb4 : Below w1.heap.size w1 w4 := hb.trans (h4.mono hb.size)
       have hlen0 : lo.length + st.length ≤ 20 := by omega
       obtain ⟨lm, m0, m1, m2, n0, n1, n2⟩ := HEM4.out
       clear CT HTA HTB HER HEM hs1 hbs cs
       go_wp2_with (at_builtin; refine qam (B := w1.heap.size + 1) (lo := w.heap.size) (xs := lo) (ys := [tk]) (css := [[.int .i64 tk.fKind, .string tk.fName]]) (E := NoT) (by rfl) (.tmp 63) (.tmp 65) 96 (by rfl) sty_Tag rTagTag_goodT id rTagTag_one (by rfl) (by rfl) ?ht ?src (Rows.one rfl ⟨rfl, hts⟩) ?hl ?hlo ?hB ?_)
       case ht => exact (HTA4.out).below rTagTag_goodT (bbel)
       case src => exact Src.one (by intro j u hj; match j, hj with | 0, hj => cases hj; go_simp | 1, hj => cases hj; go_simp | j + 2, hj => simp at hj)
       case hl => simp; omega
       case hlo => omega
       case hB => simp; omega
       intro v6 w6 ht6 hB6 hg6 hk6 hat6
       obtain ⟨fa6, fn6, fc6, rfl⟩ := ht6.sl.form3
       have HT6 := qhd ht6
       have hb46 : Below (w1.heap.size + 1) w4 w6 := Below.trans (bbel) hB6
       have HEM6 := qhd (HEM4.out.below hb46 (by omega))
       have HER6 := qhd (HER4.out.below hb46 (by omega))
       have hb6 : Below w1.heap.size w1 w6 := hb4.trans ((hb46.mono (by omega)))
       have hz6 := hb46.size
       have XA := HT6
       have XB := qhd ((HTB4.out.below rTagTag_goodT (bbel)).grown rTagTag_goodT hg6 (fun b hb e => HNE.out b e hb))
       have XN : Hid (∀ b, (Value.slice fa6 fn6 fc6).ownBlock = some b → (Value.slice ga gn gc).ownBlock ≠ some b) := qhd (fun b hb e => (hat6 b hb).elim (fun h => HNE.out b h e) (fun h => by have := HTB4.out.lt b e; (try simp at h); omega))
       clear ht6 hB6 hg6 hk6 hb46 m0 m1 m2 n0 n1 n2 lm HEM4 HER4 HTA4 HTB4 hat6 HNE
       obtain ⟨lm, m0, m1, m2, n0, n1, n2⟩ := HEM6.out
       go_wp2
       go_roundw
       case measure => simp [intOf]; omega
       case rel => refine ⟨k + 1, _, _, _, _, _, by omega, by omega, ?_, rfl, by go_num, GN.out, XA.out.set rTagTag_goodT (by omega), XB.out.set rTagTag_goodT (by omega), XN.out, HEM6.out.set1, HER6.out.set_other (by omega), by simp [World.setCell]; omega, bbel⟩; (try simp only [List.length_append, List.length_singleton]); omega
      ·(try simp only [Bool.false_eq_true, if_false, if_true] at GN)
       go_wp2_with fail
       refine (CT _).mono ?_
       rintro _ w4 ⟨rfl, h4⟩
       have h4s := (h4).size; (try simp only [qsz] at h4s)
       have HEM4 := qhd (HEM.out.below h4 HEM.out.lt)
       have HER4 := qhd (HER.out.below h4 HER.out.lt)
       have HTA4 := qhd (HTA.out.below rTagTag_goodT h4)
       have HTB4 := qhd (HTB.out.below rTagTag_goodT h4)
       have hb4 : Below w1.heap.size w1 w4 := hb.trans (h4.mono hb.size)
       have hlen0 : lo.length + st.length ≤ 20 := by omega
       obtain ⟨lm, m0, m1, m2, n0, n1, n2⟩ := HEM4.out
       clear CT HTA HTB HER HEM hs1 hbs cs
       go_wp2_with (at_builtin; refine qam (B := w1.heap.size + 1) (lo := w.heap.size) (xs := st) (ys := [tk]) (css := [[.int .i64 tk.fKind, .string tk.fName]]) (E := NoT) (by rfl) (.tmp 57) (.tmp 59) 96 (by rfl) sty_Tag rTagTag_goodT id rTagTag_one (by rfl) (by rfl) ?ht ?src (Rows.one rfl ⟨rfl, hts⟩) ?hl ?hlo ?hB ?_)
       case ht => exact (HTB4.out).below rTagTag_goodT (bbel)
       case src => exact Src.one (by intro j u hj; match j, hj with | 0, hj => cases hj; go_simp | 1, hj => cases hj; go_simp | j + 2, hj => simp at hj)
       case hl => simp; omega
       case hlo => omega
       case hB => simp; omega
       intro v6 w6 ht6 hB6 hg6 hk6 hat6
       obtain ⟨fa6, fn6, fc6, rfl⟩ := ht6.sl.form3
       have HT6 := qhd ht6
       have hb46 : Below (w1.heap.size + 1) w4 w6 := Below.trans (bbel) hB6
       have HEM6 := qhd (HEM4.out.below hb46 (by omega))
       have HER6 := qhd (HER4.out.below hb46 (by omega))
       have hb6 : Below w1.heap.size w1 w6 := hb4.trans ((hb46.mono (by omega)))
       have hz6 := hb46.size
       have XB := HT6
       have XA := qhd ((HTA4.out.below rTagTag_goodT (bbel)).grown rTagTag_goodT hg6 (fun b hb e => HNE.out b hb e))
       have XN : Hid (∀ b, (Value.slice fa fn fc).ownBlock = some b → (Value.slice fa6 fn6 fc6).ownBlock ≠ some b) := qhd (fun b hb e => (hat6 b e).elim (fun h => HNE.out b hb h) (fun h => by have := HTA4.out.lt b hb; (try simp at h); omega))
       clear ht6 hB6 hg6 hk6 hb46 m0 m1 m2 n0 n1 n2 lm HEM4 HER4 HTA4 HTB4 hat6 HNE
       obtain ⟨lm, m0, m1, m2, n0, n1, n2⟩ := HEM6.out
       go_wp2
       go_roundw
       case measure => simp [intOf]; omega
       case rel => refine ⟨k + 1, _, _, _, _, _, by omega, by omega, ?_, rfl, by go_num, GN.out, XA.out.set rTagTag_goodT (by omega), XB.out.set rTagTag_goodT (by omega), XN.out, HEM6.out.set2, HER6.out.set_other (by omega), by simp [World.setCell]; omega, bbel⟩; (try simp only [List.length_append, List.length_singleton]); omega
     ·have hs47 := isW_true hl47
      have hbt : bh = true := by cases bh <;> simp_all
      subst hbt
      clear hl47 hline'
      (try simp only [Bool.false_eq_true, if_false, if_true] at GN)
      go_wp2_with fail
      refine (CT _).mono ?_
      rintro _ w4 ⟨rfl, h4⟩
      have h4s := (h4).size; (try simp only [qsz] at h4s)
      have HEM4 := qhd (HEM.out.below h4 HEM.out.lt)
      have HER4 := qhd (HER.out.below h4 HER.out.lt)
      have HTA4 := qhd (HTA.out.below rTagTag_goodT h4)
      have HTB4 := qhd (HTB.out.below rTagTag_goodT h4)
      have hb4 : Below w1.heap.size w1 w4 := hb.trans (h4.mono hb.size)
      have hlen0 : lo.length + st.length ≤ 20 := by omega
      obtain ⟨lm, m0, m1, m2, n0, n1, n2⟩ := HEM4.out
      clear CT HTA HTB HER HEM hs1 hbs cs
      go_wp2_with (at_builtin; refine qam (B := w1.heap.size + 1) (lo := w.heap.size) (xs := st) (ys := [tk]) (css := [[.int .i64 tk.fKind, .string tk.fName]]) (E := NoT) (by rfl) (.tmp 57) (.tmp 59) 96 (by rfl) sty_Tag rTagTag_goodT id rTagTag_one (by rfl) (by rfl) ?ht ?src (Rows.one rfl ⟨rfl, hts⟩) ?hl ?hlo ?hB ?_)
      case ht => exact (HTB4.out).below rTagTag_goodT (bbel)
      case src => exact Src.one (by intro j u hj; match j, hj with | 0, hj => cases hj; go_simp | 1, hj => cases hj; go_simp | j + 2, hj => simp at hj)
      case hl => simp; omega
      case hlo => omega
      case hB => simp; omega
      intro v6 w6 ht6 hB6 hg6 hk6 hat6
      obtain ⟨fa6, fn6, fc6, rfl⟩ := ht6.sl.form3
      have HT6 := qhd ht6
      have hb46 : Below (w1.heap.size + 1) w4 w6 := Below.trans (bbel) hB6
      have HEM6 := qhd (HEM4.out.below hb46 (by omega))
      have HER6 := qhd (HER4.out.below hb46 (by omega))
      have hb6 : Below w1.heap.size w1 w6 := hb4.trans ((hb46.mono (by omega)))
      have hz6 := hb46.size
      have XB := HT6
      have XA := qhd ((HTA4.out.below rTagTag_goodT (bbel)).grown rTagTag_goodT hg6 (fun b hb e => HNE.out b hb e))
      have XN : Hid (∀ b, (Value.slice fa fn fc).ownBlock = some b → (Value.slice fa6 fn6 fc6).ownBlock ≠ some b) := qhd (fun b hb e => (hat6 b e).elim (fun h => HNE.out b hb h) (fun h => by have := HTA4.out.lt b hb; (try simp at h); omega))
      clear ht6 hB6 hg6 hk6 hb46 m0 m1 m2 n0 n1 n2 lm HEM4 HER4 HTA4 HTB4 hat6 HNE
      obtain ⟨lm, m0, m1, m2, n0, n1, n2⟩ := HEM6.out
      go_wp2
      go_roundw
      case measure => simp [intOf]; omega
      case rel => refine ⟨k + 1, _, _, _, _, _, by omega, by omega, ?_, rfl, by go_num, GN.out, XA.out.set rTagTag_goodT (by omega), XB.out.set rTagTag_goodT (by omega), XN.out, HEM6.out.set2, HER6.out.set_other (by omega), by simp [World.setCell]; omega, bbel⟩; (try simp only [List.length_append, List.length_singleton]); omega
  ·have GE := qhd (GO.out.trans (mapGo_end (by omega)))
   obtain ⟨lm, m0, m1, m2, n0, n1, n2⟩ := HEM.out
   obtain ⟨lr, r0, r1, r2, o0, o1, o2⟩ := HER.out
   have hkw : ¬ k < ws.length := by omega
   clear HEM HER GO CA hs1 hbs HNE
   go_wp2
   all_goals
    refine bodyPost_ret (v := ?_) ?hrun rfl ?_
    case hrun => (simp only [results, Tryz.results111]; go_simp; first | done | exact rfl)
    refine HR.out _ _ ⟨.slice fa fn fc, .slice ga gn gc, ?_, by rw [HWS.out, SH.out, GE.out]; exact (HTA.out.set3 (by omega)).sl, by rw [HWS.out, SH.out, GE.out]; exact (HTB.out.set3 (by omega)).sl, bbel⟩
    rw [HWS.out, SH.out, GE.out]
    unfold mapT
    first | (simp [*]; done) | (simp [*]; omega) | (simp [*]; intros; omega)

end Go.Proofs.YtfbonocadpknbaaGreatDoor
