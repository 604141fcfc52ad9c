/-
  Texts merged: Own, OwnD, MarkT, MarkW, ToO. No condition beside those of the single theorems.
-/
import Derived.Test.YtmmlhnjmjmbfpaaGreatDatC
import Derived.IntWalk
import Derived.Test.YtmmlhnjmjmbfpaaGreatRepC
import Derived.Test.YtmmlhnjmjmbfpaaGreatRepD
import Derived.Test.YtmmlhnjmjmbfpaaGreatRepE
import Derived.Test.YtmmlhnjmjmbfpaaGreatRepP
import Derived.Deep.LoopGhost
import Derived.Deep.RegionHeld3
/-
  Slices of rows that may be written: what a copy gives, and what stays where numbers and texts are written into it. No condition.
-/
namespace Go.Proofs.YtmmlhnjmjmbfpaaGreat
set_option linter.unusedSimpArgs false
set_option linter.unusedVariables false
open Go.RowKit

/-- as Sl, and each cell may be written -/
def SlO {α : Type} (k : Nat) (R : RowRel α) (lo : Nat) (w : World) (v : Value) (xs : List α) : Prop :=
  ∃ (a : Option Addr) (len cap : Nat), v = .slice a len cap ∧ xs.length = len ∧ len ≤ cap ∧ cap ≤ maxLen ∧
    (0 < len → ∃ b off, a = some ⟨b, off, none⟩ ∧ lo ≤ b ∧ b < w.heap.size ∧ w.there b off (len * k) ∧ ∀ i, i < len → ∃ x cs, xs[i]? = some x ∧ cs.length = k ∧ w.rangeAt b (off + i * k) cs ∧ R lo w cs x)
theorem SlO.form {α : Type} {k : Nat} {R : RowRel α} {lo : Nat} {w : World} {v : Value} {xs : List α} (h : SlO k R lo w v xs) : ∃ a len cap, v = .slice a len cap := by
  obtain ⟨a, len, cap, h, _⟩ := h; exact ⟨a, len, cap, h⟩
theorem SlO.sl {α : Type} {k : Nat} {R R' : RowRel α} {lo : Nat} {w : World} {v : Value} {xs : List α} (hR : ∀ lo w cs x, R lo w cs x → R' lo w cs x) (h : SlO k R lo w v xs) : Sl k R' lo w v xs := by
  obtain ⟨a, len, cap, h0, hl, h1, h2, h3⟩ := h
  refine ⟨a, len, cap, h0, hl, h1, h2, fun hp => ?_⟩
  obtain ⟨b, off, e, g1, g2, _, g3⟩ := h3 hp
  refine ⟨b, off, e, g1, g2, fun i hi => ?_⟩
  obtain ⟨x, cs, c0, c1, c2, c3⟩ := g3 i hi
  exact ⟨x, cs, c0, c1, c2, hR _ _ _ _ c3⟩
theorem there_kept {w w' : World} {b off n : Nat} (h : w.there b off n) (hb : w'.heap[b]? = w.heap[b]?) : w'.there b off n := fun j hj => by
  rw [cell_of_heap hb, frozen_of_heap hb]; exact h j hj
theorem SlO.stays {α : Type} {k : Nat} {R : RowRel α} (hR : Good R) {lo : Nat} {w w' : World} {v : Value} {xs : List α} (h : SlO k R lo w v xs) (hb : Keeps lo w w') : SlO k R lo w' v xs := by
  obtain ⟨a, len, cap, h0, hl, h1, h2, h3⟩ := h
  refine ⟨a, len, cap, h0, hl, h1, h2, fun hp => ?_⟩
  obtain ⟨b, off, e, g1, g2, gt, g3⟩ := h3 hp
  refine ⟨b, off, e, g1, Nat.lt_of_lt_of_le g2 hb.size, there_kept gt (hb.block b g1 g2), fun i hi => ?_⟩
  obtain ⟨x, cs, c0, c1, c2, c3⟩ := g3 i hi
  exact ⟨x, cs, c0, c1, range_keep c2 (hb.block b g1 g2), hR.stays _ _ _ _ _ hb c3⟩
theorem SlO.low {α : Type} {k : Nat} {R : RowRel α} (hR : Good R) {lo lo' : Nat} {w : World} {v : Value} {xs : List α} (h : SlO k R lo w v xs) (hl' : lo' ≤ lo) : SlO k R lo' w v xs := by
  obtain ⟨a, len, cap, h0, hl, h1, h2, h3⟩ := h
  refine ⟨a, len, cap, h0, hl, h1, h2, fun hp => ?_⟩
  obtain ⟨b, off, e, g1, g2, gt, g3⟩ := h3 hp
  refine ⟨b, off, e, Nat.le_trans hl' g1, g2, gt, fun i hi => ?_⟩
  obtain ⟨x, cs, c0, c1, c2, c3⟩ := g3 i hi
  exact ⟨x, cs, c0, c1, c2, hR.low _ _ _ _ _ hl' c3⟩
theorem Part.doneO {α : Type} {k : Nat} {R : RowRel α} (hR : Good R) {w : World} {b len : Nat} {xs : List α} (h : Part k R w b len len xs) (hl : xs.length = len) (hm : len ≤ maxLen) : SlO k R b w (.slice (some ⟨b, 0, none⟩) len len) xs :=
  ⟨_, len, len, rfl, hl, Nat.le_refl _, hm, fun _ => ⟨b, 0, rfl, Nat.le_refl _, h.lt, h.there, fun i hi => by
    obtain ⟨x, cs, c0, c1, c2, c3⟩ := h.rows i hi
    exact ⟨x, cs, c0, c1, by rw [Nat.zero_add]; exact c2, hR.low _ _ _ _ _ (by omega) c3⟩⟩⟩

/-- no slice -/
def NSl (v : Value) : Prop := ∀ a n c, v ≠ .slice a n c
theorem nsl_str (s : ByteArray) : NSl (.string s) := fun _ _ _ h => nomatch h
theorem nsl_int (k : IntKind) (i : Int) : NSl (.int k i) := fun _ _ _ h => nomatch h
/-- what no write into memory turns -/
def SameO (w w' : World) : Prop := w'.os = w.os ∧ w'.tape = w.tape ∧ w'.output = w.output
theorem SameO.refl (w : World) : SameO w w := ⟨rfl, rfl, rfl⟩
theorem SameO.trans {a b c : World} (h : SameO a b) (k : SameO b c) : SameO a c := ⟨k.1.trans h.1, k.2.1.trans h.2.1, k.2.2.trans h.2.2⟩
theorem SameO.of_below {B : Nat} {w w' : World} (h : Below B w w') : SameO w w' := ⟨h.os, h.tape, h.output⟩
/-- numbers and texts in the blocks from lo to hi may have turned; slices there stand, and what could be written can be; all else is as it was -/
structure MK (lo hi : Nat) (w w' : World) : Prop where
  same : SameO w w'
  size : w.heap.size ≤ w'.heap.size
  out : ∀ b, b < w.heap.size → (b < lo ∨ hi ≤ b) → w'.heap[b]? = w.heap[b]?
  there : ∀ b off n, lo ≤ b → b < hi → w.there b off n → w'.there b off n
  slice : ∀ b o a n c, lo ≤ b → b < hi → w.cell? ⟨b, o, none⟩ = some (.slice a n c) → w'.cell? ⟨b, o, none⟩ = some (.slice a n c)
  plain : ∀ b o v, lo ≤ b → b < hi → NSl v → w.cell? ⟨b, o, none⟩ = some v → ∃ v', NSl v' ∧ w'.cell? ⟨b, o, none⟩ = some v'
theorem MK.refl (lo hi : Nat) (w : World) : MK lo hi w w := ⟨SameO.refl _, Nat.le_refl _, fun _ _ _ => rfl, fun _ _ _ _ _ h => h, fun _ _ _ _ _ _ _ h => h, fun _ _ v _ _ h1 h2 => ⟨v, h1, h2⟩⟩
theorem MK.trans {lo hi : Nat} {a b c : World} (h : MK lo hi a b) (k : MK lo hi b c) : MK lo hi a c :=
  ⟨h.same.trans k.same, Nat.le_trans h.size k.size, fun i hi' ho => (k.out i (Nat.lt_of_lt_of_le hi' h.size) ho).trans (h.out i hi' ho), fun b off n h1 h2 h3 => k.there b off n h1 h2 (h.there b off n h1 h2 h3), fun b o a n c h1 h2 h3 => k.slice b o a n c h1 h2 (h.slice b o a n c h1 h2 h3), fun b o v h1 h2 h3 h4 => by
    obtain ⟨v', h5, h6⟩ := h.plain b o v h1 h2 h3 h4
    exact k.plain b o v' h1 h2 h5 h6⟩
theorem MK.of_below {lo hi : Nat} {w w' : World} (h : Below w.heap.size w w') (hh : hi ≤ w.heap.size) : MK lo hi w w' :=
  ⟨SameO.of_below h, h.size, fun b hb _ => h.block b hb, fun b off n _ h2 ht => there_kept ht (h.block b (by omega)), fun b o a n c _ h2 hc => (h.cell (p := ⟨b, o, none⟩) (by show b < _; omega)).trans hc, fun b o v _ h2 hn hc => ⟨v, hn, (h.cell (p := ⟨b, o, none⟩) (by show b < _; omega)).trans hc⟩⟩
theorem MK.cell {lo hi : Nat} {w w' : World} (h : MK lo hi w w') {b o : Nat} {v : Value} (hb : b < w.heap.size) (ho : b < lo ∨ hi ≤ b) (hc : w.cell? ⟨b, o, none⟩ = some v) : w'.cell? ⟨b, o, none⟩ = some v := (cell_of_heap (h.out b hb ho)).trans hc
/-- a number or a text is written -/
theorem MK.set {lo hi : Nat} {w : World} {b o : Nat} {v u : Value} (h1 : lo ≤ b) (h2 : b < hi) (hu : w.cell? ⟨b, o, none⟩ = some u) (hn : NSl u) (hv : NSl v) : MK lo hi w (w.setCell ⟨b, o, none⟩ v) := by
  refine ⟨⟨rfl, rfl, rfl⟩, by simp [World.setCell], fun k hk ho => Below.heap_setCell _ _ _ _ (by show k ≠ b; omega), fun e off n _ _ ht j hj => ?_, fun e i a n c _ _ hc => ?_, fun e i x _ _ hx hc => ?_⟩
  · obtain ⟨t1, t2⟩ := ht j hj
    have h3 := World.isSome_setCells b [v] o w ⟨e, off + j, none⟩ t1
    have h4 := World.frozen?_setCells b [v] o w ⟨e, off + j, none⟩
    exact ⟨h3, h4.trans t2⟩
  · by_cases he : e = b ∧ i = o
    · obtain ⟨rfl, rfl⟩ := he
      rw [hu] at hc
      exact absurd (Option.some.inj hc) (hn _ _ _)
    · rw [World.cell?_setCell_other]
      · exact hc
      · intro e2; cases e2; exact he ⟨rfl, rfl⟩
  · by_cases he : e = b ∧ i = o
    · obtain ⟨rfl, rfl⟩ := he
      exact ⟨v, hv, World.cell?_setCell_same _ _ _ hu⟩
    · refine ⟨x, hx, ?_⟩
      rw [World.cell?_setCell_other]
      · exact hc
      · intro e2; cases e2; exact he ⟨rfl, rfl⟩

/-- rows of k cells that may be written, in the blocks from lo to hi; S: where a row's own slices lie -/
def Sh {α : Type} (k : Nat) (S : World → Nat → Nat → α → Prop) (lo hi : Nat) (w : World) (v : Value) (xs : List α) : Prop :=
  ∃ (a : Option Addr) (len cap : Nat), v = .slice a len cap ∧ xs.length = len ∧ len ≤ cap ∧ cap ≤ maxLen ∧
    (0 < len → ∃ b off, a = some ⟨b, off, none⟩ ∧ lo ≤ b ∧ b < hi ∧ w.there b off (len * k) ∧ ∀ i, i < len → ∃ x, xs[i]? = some x ∧ S w b (off + i * k) x)
def sNo {α : Type} : World → Nat → Nat → α → Prop := fun _ _ _ _ => True
def MKs {α : Type} (S : World → Nat → Nat → α → Prop) (lo hi : Nat) : Prop := ∀ w w' b o x, lo ≤ b → b < hi → MK lo hi w w' → S w b o x → S w' b o x
theorem sNo_mk {α : Type} {lo hi : Nat} : MKs (sNo (α := α)) lo hi := fun _ _ _ _ _ _ _ _ h => h
/-- cells of a row that are no slices -/
def sPl (js : List Nat) (w : World) (b o : Nat) : Prop := ∀ j ∈ js, ∃ v, NSl v ∧ w.cell? ⟨b, o + j, none⟩ = some v
theorem sPl_mk {js : List Nat} {lo hi : Nat} {w w' : World} {b o : Nat} (h1 : lo ≤ b) (h2 : b < hi) (hm : MK lo hi w w') (h : sPl js w b o) : sPl js w' b o := fun j hj => by
  obtain ⟨v, h3, h4⟩ := h j hj
  exact hm.plain _ _ _ h1 h2 h3 h4
theorem Sh.mk {α : Type} {k : Nat} {S : World → Nat → Nat → α → Prop} {lo hi : Nat} {w w' : World} {v : Value} {xs : List α} (hS : MKs S lo hi) (h : Sh k S lo hi w v xs) (hm : MK lo hi w w') : Sh k S lo hi w' v xs := by
  obtain ⟨a, len, cap, h0, hl, h1, h2, h3⟩ := h
  refine ⟨a, len, cap, h0, hl, h1, h2, fun hp => ?_⟩
  obtain ⟨b, off, e, g1, g2, gt, g3⟩ := h3 hp
  refine ⟨b, off, e, g1, g2, hm.there _ _ _ g1 g2 gt, fun i hi' => ?_⟩
  obtain ⟨x, c0, c1⟩ := g3 i hi'
  exact ⟨x, c0, hS _ _ _ _ _ g1 g2 hm c1⟩
theorem Sh.form {α : Type} {k : Nat} {S : World → Nat → Nat → α → Prop} {lo hi : Nat} {w : World} {v : Value} {xs : List α} (h : Sh k S lo hi w v xs) : ∃ a len cap, v = .slice a len cap := by
  obtain ⟨a, len, cap, h, _⟩ := h; exact ⟨a, len, cap, h⟩
theorem SlO.sh {α : Type} {k : Nat} {R : RowRel α} {S : World → Nat → Nat → α → Prop} {lo hi : Nat} {w : World} {v : Value} {xs : List α} (h : SlO k R lo w v xs) (hh : w.heap.size ≤ hi)
    (hR : ∀ cs x b o, cs.length = k → lo ≤ b → b < w.heap.size → w.rangeAt b o cs → R lo w cs x → S w b o x) : Sh k S lo hi w v xs := by
  obtain ⟨a, len, cap, h0, hl, h1, h2, h3⟩ := h
  refine ⟨a, len, cap, h0, hl, h1, h2, fun hp => ?_⟩
  obtain ⟨b, off, e, g1, g2, gt, g3⟩ := h3 hp
  refine ⟨b, off, e, g1, by omega, gt, fun i hi' => ?_⟩
  obtain ⟨x, cs, c0, c1, c2, c3⟩ := g3 i hi'
  exact ⟨x, c0, hR _ _ _ _ c1 g1 g2 c2 c3⟩

end Go.Proofs.YtmmlhnjmjmbfpaaGreat

/-
  The rows of the laws' data that may be written, and where their slices lie. No condition. (Printed by gen_mark.py, a program of the prover of this repo.)
-/
namespace Go.Proofs.YtmmlhnjmjmbfpaaGreat
set_option linter.unusedSimpArgs false
set_option linter.unusedVariables false
open Go.RowKit

def oKndKind : RowRel DKndKind := fun lo w cs x => cs = [.int .i64 x.fKind, .string x.fName] ∧ x.fName.size ≤ maxLen
theorem oKndKind_good : Good oKndKind := ⟨fun lo w w' cs x hk h => by
    obtain ⟨h0, b1⟩ := h
    exact ⟨h0, b1⟩, fun lo lo' w cs x hk h => by
    obtain ⟨h0, b1⟩ := h
    exact ⟨h0, b1⟩⟩
theorem oKndKind_r : ∀ lo w cs x, oKndKind lo w cs x → rKndKind lo w cs x := fun lo w cs x h => by
    obtain ⟨h0, b1⟩ := h
    exact ⟨h0, b1⟩
def sKndKind (lo hi : Nat) : World → Nat → Nat → DKndKind → Prop := fun w b o x => sPl [0, 1] w b o
theorem sKndKind_mk (lo hi : Nat) : MKs (sKndKind lo hi) lo hi := fun w w' b o x h1 h2 hm h => sPl_mk h1 h2 hm h
theorem oKndKind_s (lo hi : Nat) : ∀ w, w.heap.size ≤ hi → ∀ cs x b o, cs.length = 2 → lo ≤ b → b < w.heap.size → w.rangeAt b o cs → oKndKind lo w cs x → sKndKind lo hi w b o x := fun w hh cs x b o hc h1 h2 hr h => by
  obtain ⟨h0, b1⟩ := h
  subst h0
  have hp : sPl [0, 1] w b o := fun j hj => by
    simp only [List.mem_cons, List.not_mem_nil, or_false] at hj
    rcases hj with rfl | rfl
    · exact ⟨_, nsl_int _ _, hr 0 _ rfl⟩
    · exact ⟨_, nsl_str _, hr 1 _ rfl⟩
  exact hp

def oClsField : RowRel DClsField := fun lo w cs x => cs = [.string x.fName, .int .i64 x.fKind.fKind, .string x.fKind.fName] ∧ x.fName.size ≤ maxLen ∧ x.fKind.fName.size ≤ maxLen
theorem oClsField_good : Good oClsField := ⟨fun lo w w' cs x hk h => by
    obtain ⟨h0, b1, b2⟩ := h
    exact ⟨h0, b1, b2⟩, fun lo lo' w cs x hk h => by
    obtain ⟨h0, b1, b2⟩ := h
    exact ⟨h0, b1, b2⟩⟩
theorem oClsField_r : ∀ lo w cs x, oClsField lo w cs x → rClsField lo w cs x := fun lo w cs x h => by
    obtain ⟨h0, b1, b2⟩ := h
    exact ⟨h0, b1, b2⟩
def sClsField (lo hi : Nat) : World → Nat → Nat → DClsField → Prop := fun w b o x => sPl [0, 1, 2] w b o
theorem sClsField_mk (lo hi : Nat) : MKs (sClsField lo hi) lo hi := fun w w' b o x h1 h2 hm h => sPl_mk h1 h2 hm h
theorem oClsField_s (lo hi : Nat) : ∀ w, w.heap.size ≤ hi → ∀ cs x b o, cs.length = 3 → lo ≤ b → b < w.heap.size → w.rangeAt b o cs → oClsField lo w cs x → sClsField lo hi w b o x := fun w hh cs x b o hc h1 h2 hr h => by
  obtain ⟨h0, b1, b2⟩ := h
  subst h0
  have hp : sPl [0, 1, 2] w b o := fun j hj => by
    simp only [List.mem_cons, List.not_mem_nil, or_false] at hj
    rcases hj with rfl | rfl | rfl
    · exact ⟨_, nsl_str _, hr 0 _ rfl⟩
    · exact ⟨_, nsl_int _ _, hr 1 _ rfl⟩
    · exact ⟨_, nsl_str _, hr 2 _ rfl⟩
  exact hp

def oClsIns : RowRel DClsIns := fun lo w cs x => cs = [.int .i64 x.fOp, .int .i64 x.fA, .string x.fName, .string x.fMember] ∧ x.fName.size ≤ maxLen ∧ x.fMember.size ≤ maxLen
theorem oClsIns_good : Good oClsIns := ⟨fun lo w w' cs x hk h => by
    obtain ⟨h0, b1, b2⟩ := h
    exact ⟨h0, b1, b2⟩, fun lo lo' w cs x hk h => by
    obtain ⟨h0, b1, b2⟩ := h
    exact ⟨h0, b1, b2⟩⟩
theorem oClsIns_r : ∀ lo w cs x, oClsIns lo w cs x → rClsIns lo w cs x := fun lo w cs x h => by
    obtain ⟨h0, b1, b2⟩ := h
    exact ⟨h0, b1, b2⟩
def sClsIns (lo hi : Nat) : World → Nat → Nat → DClsIns → Prop := fun w b o x => sPl [0, 1, 2, 3] w b o
theorem sClsIns_mk (lo hi : Nat) : MKs (sClsIns lo hi) lo hi := fun w w' b o x h1 h2 hm h => sPl_mk h1 h2 hm h
theorem oClsIns_s (lo hi : Nat) : ∀ w, w.heap.size ≤ hi → ∀ cs x b o, cs.length = 4 → lo ≤ b → b < w.heap.size → w.rangeAt b o cs → oClsIns lo w cs x → sClsIns lo hi w b o x := fun w hh cs x b o hc h1 h2 hr h => by
  obtain ⟨h0, b1, b2⟩ := h
  subst h0
  have hp : sPl [0, 1, 2, 3] w b o := fun j hj => by
    simp only [List.mem_cons, List.not_mem_nil, or_false] at hj
    rcases hj with rfl | rfl | rfl | rfl
    · exact ⟨_, nsl_int _ _, hr 0 _ rfl⟩
    · exact ⟨_, nsl_int _ _, hr 1 _ rfl⟩
    · exact ⟨_, nsl_str _, hr 2 _ rfl⟩
    · exact ⟨_, nsl_str _, hr 3 _ rfl⟩
  exact hp

def oTagTag : RowRel DTagTag := fun lo w cs x => cs = [.int .i64 x.fKind, .string x.fName] ∧ x.fName.size ≤ maxLen
theorem oTagTag_good : Good oTagTag := ⟨fun lo w w' cs x hk h => by
    obtain ⟨h0, b1⟩ := h
    exact ⟨h0, b1⟩, fun lo lo' w cs x hk h => by
    obtain ⟨h0, b1⟩ := h
    exact ⟨h0, b1⟩⟩
theorem oTagTag_r : ∀ lo w cs x, oTagTag lo w cs x → rTagTag lo w cs x := fun lo w cs x h => by
    obtain ⟨h0, b1⟩ := h
    exact ⟨h0, b1⟩
def sTagTag (lo hi : Nat) : World → Nat → Nat → DTagTag → Prop := fun w b o x => sPl [0, 1] w b o
theorem sTagTag_mk (lo hi : Nat) : MKs (sTagTag lo hi) lo hi := fun w w' b o x h1 h2 hm h => sPl_mk h1 h2 hm h
theorem oTagTag_s (lo hi : Nat) : ∀ w, w.heap.size ≤ hi → ∀ cs x b o, cs.length = 2 → lo ≤ b → b < w.heap.size → w.rangeAt b o cs → oTagTag lo w cs x → sTagTag lo hi w b o x := fun w hh cs x b o hc h1 h2 hr h => by
  obtain ⟨h0, b1⟩ := h
  subst h0
  have hp : sPl [0, 1] w b o := fun j hj => by
    simp only [List.mem_cons, List.not_mem_nil, or_false] at hj
    rcases hj with rfl | rfl
    · exact ⟨_, nsl_int _ _, hr 0 _ rfl⟩
    · exact ⟨_, nsl_str _, hr 1 _ rfl⟩
  exact hp

def oClsMap : RowRel DClsMap := fun lo w cs x => ∃ v1 v2 : Value, cs = [.int .i64 x.fAt, v1, v2] ∧ SlO 2 oTagTag lo w v1 x.fLocals ∧ SlO 2 oTagTag lo w v2 x.fStack
theorem oClsMap_good : Good oClsMap := ⟨fun lo w w' cs x hk h => by
    obtain ⟨v1, v2, h0, s1, s2⟩ := h
    exact ⟨v1, v2, h0, s1.stays oTagTag_good hk, s2.stays oTagTag_good hk⟩, fun lo lo' w cs x hk h => by
    obtain ⟨v1, v2, h0, s1, s2⟩ := h
    exact ⟨v1, v2, h0, s1.low oTagTag_good hk, s2.low oTagTag_good hk⟩⟩
theorem oClsMap_r : ∀ lo w cs x, oClsMap lo w cs x → rClsMap lo w cs x := fun lo w cs x h => by
    obtain ⟨v1, v2, h0, s1, s2⟩ := h
    exact ⟨v1, v2, h0, s1.sl oTagTag_r, s2.sl oTagTag_r⟩
def sClsMap (lo hi : Nat) : World → Nat → Nat → DClsMap → Prop := fun w b o x => sPl [0] w b o ∧ ∃ a1 n1 c1 a2 n2 c2, w.cell? ⟨b, o + 1, none⟩ = some (.slice a1 n1 c1) ∧ Sh 2 (sTagTag lo hi) lo hi w (.slice a1 n1 c1) x.fLocals ∧ w.cell? ⟨b, o + 2, none⟩ = some (.slice a2 n2 c2) ∧ Sh 2 (sTagTag lo hi) lo hi w (.slice a2 n2 c2) x.fStack
theorem sClsMap_mk (lo hi : Nat) : MKs (sClsMap lo hi) lo hi := fun w w' b o x h1 h2 hm h => by
  obtain ⟨p, a1, n1, c1, a2, n2, c2, e1, g1, e2, g2⟩ := h
  exact ⟨sPl_mk h1 h2 hm p, _, _, _, _, _, _, hm.slice _ _ _ _ _ h1 h2 e1, g1.mk (sTagTag_mk lo hi) hm, hm.slice _ _ _ _ _ h1 h2 e2, g2.mk (sTagTag_mk lo hi) hm⟩
theorem oClsMap_s (lo hi : Nat) : ∀ w, w.heap.size ≤ hi → ∀ cs x b o, cs.length = 3 → lo ≤ b → b < w.heap.size → w.rangeAt b o cs → oClsMap lo w cs x → sClsMap lo hi w b o x := fun w hh cs x b o hc h1 h2 hr h => by
  obtain ⟨v1, v2, h0, s1, s2⟩ := h
  subst h0
  obtain ⟨a1, n1, c1, rfl⟩ := s1.form
  obtain ⟨a2, n2, c2, rfl⟩ := s2.form
  have hp : sPl [0] w b o := fun j hj => by
    simp only [List.mem_cons, List.not_mem_nil, or_false] at hj
    rcases hj with rfl
    · exact ⟨_, nsl_int _ _, hr 0 _ rfl⟩
  exact ⟨hp, _, _, _, _, _, _, hr 1 _ rfl, s1.sh hh fun cs x b o hc h1 h2 hr h => oTagTag_s lo hi w hh cs x b o hc h1 h2 hr h, hr 2 _ rfl, s2.sh hh fun cs x b o hc h1 h2 hr h => oTagTag_s lo hi w hh cs x b o hc h1 h2 hr h⟩

def oClsMethod : RowRel DClsMethod := fun lo w cs x => ∃ v1 v2 v3 : Value, cs = [.string x.fName, v1, .int .i64 x.fRet.fKind, .string x.fRet.fName, .int .i64 x.fLocals, .int .i64 x.fStack, v2, v3] ∧ SlO 2 oKndKind lo w v1 x.fArgs ∧ SlO 4 oClsIns lo w v2 x.fCode ∧ SlO 3 oClsMap lo w v3 x.fMaps ∧ x.fName.size ≤ maxLen ∧ x.fRet.fName.size ≤ maxLen
theorem oClsMethod_good : Good oClsMethod := ⟨fun lo w w' cs x hk h => by
    obtain ⟨v1, v2, v3, h0, s1, s2, s3, b1, b2⟩ := h
    exact ⟨v1, v2, v3, h0, s1.stays oKndKind_good hk, s2.stays oClsIns_good hk, s3.stays oClsMap_good hk, b1, b2⟩, fun lo lo' w cs x hk h => by
    obtain ⟨v1, v2, v3, h0, s1, s2, s3, b1, b2⟩ := h
    exact ⟨v1, v2, v3, h0, s1.low oKndKind_good hk, s2.low oClsIns_good hk, s3.low oClsMap_good hk, b1, b2⟩⟩
theorem oClsMethod_r : ∀ lo w cs x, oClsMethod lo w cs x → rClsMethod lo w cs x := fun lo w cs x h => by
    obtain ⟨v1, v2, v3, h0, s1, s2, s3, b1, b2⟩ := h
    exact ⟨v1, v2, v3, h0, s1.sl oKndKind_r, s2.sl oClsIns_r, s3.sl oClsMap_r, b1, b2⟩
def sClsMethod (lo hi : Nat) : World → Nat → Nat → DClsMethod → Prop := fun w b o x => sPl [0, 2, 3, 4, 5] w b o ∧ ∃ a1 n1 c1 a2 n2 c2 a3 n3 c3, w.cell? ⟨b, o + 1, none⟩ = some (.slice a1 n1 c1) ∧ Sh 2 (sKndKind lo hi) lo hi w (.slice a1 n1 c1) x.fArgs ∧ w.cell? ⟨b, o + 6, none⟩ = some (.slice a2 n2 c2) ∧ Sh 4 (sClsIns lo hi) lo hi w (.slice a2 n2 c2) x.fCode ∧ w.cell? ⟨b, o + 7, none⟩ = some (.slice a3 n3 c3) ∧ Sh 3 (sClsMap lo hi) lo hi w (.slice a3 n3 c3) x.fMaps
theorem sClsMethod_mk (lo hi : Nat) : MKs (sClsMethod lo hi) lo hi := fun w w' b o x h1 h2 hm h => by
  obtain ⟨p, a1, n1, c1, a2, n2, c2, a3, n3, c3, e1, g1, e2, g2, e3, g3⟩ := h
  exact ⟨sPl_mk h1 h2 hm p, _, _, _, _, _, _, _, _, _, hm.slice _ _ _ _ _ h1 h2 e1, g1.mk (sKndKind_mk lo hi) hm, hm.slice _ _ _ _ _ h1 h2 e2, g2.mk (sClsIns_mk lo hi) hm, hm.slice _ _ _ _ _ h1 h2 e3, g3.mk (sClsMap_mk lo hi) hm⟩
theorem oClsMethod_s (lo hi : Nat) : ∀ w, w.heap.size ≤ hi → ∀ cs x b o, cs.length = 8 → lo ≤ b → b < w.heap.size → w.rangeAt b o cs → oClsMethod lo w cs x → sClsMethod lo hi w b o x := fun w hh cs x b o hc h1 h2 hr h => by
  obtain ⟨v1, v2, v3, h0, s1, s2, s3, b1, b2⟩ := h
  subst h0
  obtain ⟨a1, n1, c1, rfl⟩ := s1.form
  obtain ⟨a2, n2, c2, rfl⟩ := s2.form
  obtain ⟨a3, n3, c3, rfl⟩ := s3.form
  have hp : sPl [0, 2, 3, 4, 5] w b o := fun j hj => by
    simp only [List.mem_cons, List.not_mem_nil, or_false] at hj
    rcases hj with rfl | rfl | rfl | rfl | rfl
    · exact ⟨_, nsl_str _, hr 0 _ rfl⟩
    · exact ⟨_, nsl_int _ _, hr 2 _ rfl⟩
    · exact ⟨_, nsl_str _, hr 3 _ rfl⟩
    · exact ⟨_, nsl_int _ _, hr 4 _ rfl⟩
    · exact ⟨_, nsl_int _ _, hr 5 _ rfl⟩
  exact ⟨hp, _, _, _, _, _, _, _, _, _, hr 1 _ rfl, s1.sh hh fun cs x b o hc h1 h2 hr h => oKndKind_s lo hi w hh cs x b o hc h1 h2 hr h, hr 6 _ rfl, s2.sh hh fun cs x b o hc h1 h2 hr h => oClsIns_s lo hi w hh cs x b o hc h1 h2 hr h, hr 7 _ rfl, s3.sh hh fun cs x b o hc h1 h2 hr h => oClsMap_s lo hi w hh cs x b o hc h1 h2 hr h⟩

def oClsClass : RowRel DClsClass := fun lo w cs x => ∃ v1 v2 : Value, cs = [.string x.fName, .string x.fSuper, v1, v2] ∧ SlO 3 oClsField lo w v1 x.fFields ∧ SlO 8 oClsMethod lo w v2 x.fMethods ∧ x.fName.size ≤ maxLen ∧ x.fSuper.size ≤ maxLen
theorem oClsClass_good : Good oClsClass := ⟨fun lo w w' cs x hk h => by
    obtain ⟨v1, v2, h0, s1, s2, b1, b2⟩ := h
    exact ⟨v1, v2, h0, s1.stays oClsField_good hk, s2.stays oClsMethod_good hk, b1, b2⟩, fun lo lo' w cs x hk h => by
    obtain ⟨v1, v2, h0, s1, s2, b1, b2⟩ := h
    exact ⟨v1, v2, h0, s1.low oClsField_good hk, s2.low oClsMethod_good hk, b1, b2⟩⟩
theorem oClsClass_r : ∀ lo w cs x, oClsClass lo w cs x → rClsClass lo w cs x := fun lo w cs x h => by
    obtain ⟨v1, v2, h0, s1, s2, b1, b2⟩ := h
    exact ⟨v1, v2, h0, s1.sl oClsField_r, s2.sl oClsMethod_r, b1, b2⟩
def sClsClass (lo hi : Nat) : World → Nat → Nat → DClsClass → Prop := fun w b o x => sPl [0, 1] w b o ∧ ∃ a1 n1 c1 a2 n2 c2, w.cell? ⟨b, o + 2, none⟩ = some (.slice a1 n1 c1) ∧ Sh 3 (sClsField lo hi) lo hi w (.slice a1 n1 c1) x.fFields ∧ w.cell? ⟨b, o + 3, none⟩ = some (.slice a2 n2 c2) ∧ Sh 8 (sClsMethod lo hi) lo hi w (.slice a2 n2 c2) x.fMethods
theorem sClsClass_mk (lo hi : Nat) : MKs (sClsClass lo hi) lo hi := fun w w' b o x h1 h2 hm h => by
  obtain ⟨p, a1, n1, c1, a2, n2, c2, e1, g1, e2, g2⟩ := h
  exact ⟨sPl_mk h1 h2 hm p, _, _, _, _, _, _, hm.slice _ _ _ _ _ h1 h2 e1, g1.mk (sClsField_mk lo hi) hm, hm.slice _ _ _ _ _ h1 h2 e2, g2.mk (sClsMethod_mk lo hi) hm⟩
theorem oClsClass_s (lo hi : Nat) : ∀ w, w.heap.size ≤ hi → ∀ cs x b o, cs.length = 4 → lo ≤ b → b < w.heap.size → w.rangeAt b o cs → oClsClass lo w cs x → sClsClass lo hi w b o x := fun w hh cs x b o hc h1 h2 hr h => by
  obtain ⟨v1, v2, h0, s1, s2, b1, b2⟩ := h
  subst h0
  obtain ⟨a1, n1, c1, rfl⟩ := s1.form
  obtain ⟨a2, n2, c2, rfl⟩ := s2.form
  have hp : sPl [0, 1] w b o := fun j hj => by
    simp only [List.mem_cons, List.not_mem_nil, or_false] at hj
    rcases hj with rfl | rfl
    · exact ⟨_, nsl_str _, hr 0 _ rfl⟩
    · exact ⟨_, nsl_str _, hr 1 _ rfl⟩
  exact ⟨hp, _, _, _, _, _, _, hr 2 _ rfl, s1.sh hh fun cs x b o hc h1 h2 hr h => oClsField_s lo hi w hh cs x b o hc h1 h2 hr h, hr 3 _ rfl, s2.sh hh fun cs x b o hc h1 h2 hr h => oClsMethod_s lo hi w hh cs x b o hc h1 h2 hr h⟩

def oLodAsk : RowRel DLodAsk := fun lo w cs x => cs = [.string x.fName, .int .i64 x.fKeeper] ∧ x.fName.size ≤ maxLen
theorem oLodAsk_good : Good oLodAsk := ⟨fun lo w w' cs x hk h => by
    obtain ⟨h0, b1⟩ := h
    exact ⟨h0, b1⟩, fun lo lo' w cs x hk h => by
    obtain ⟨h0, b1⟩ := h
    exact ⟨h0, b1⟩⟩
theorem oLodAsk_r : ∀ lo w cs x, oLodAsk lo w cs x → rLodAsk lo w cs x := fun lo w cs x h => by
    obtain ⟨h0, b1⟩ := h
    exact ⟨h0, b1⟩
def sLodAsk (lo hi : Nat) : World → Nat → Nat → DLodAsk → Prop := fun w b o x => sPl [0, 1] w b o
theorem sLodAsk_mk (lo hi : Nat) : MKs (sLodAsk lo hi) lo hi := fun w w' b o x h1 h2 hm h => sPl_mk h1 h2 hm h
theorem oLodAsk_s (lo hi : Nat) : ∀ w, w.heap.size ≤ hi → ∀ cs x b o, cs.length = 2 → lo ≤ b → b < w.heap.size → w.rangeAt b o cs → oLodAsk lo w cs x → sLodAsk lo hi w b o x := fun w hh cs x b o hc h1 h2 hr h => by
  obtain ⟨h0, b1⟩ := h
  subst h0
  have hp : sPl [0, 1] w b o := fun j hj => by
    simp only [List.mem_cons, List.not_mem_nil, or_false] at hj
    rcases hj with rfl | rfl
    · exact ⟨_, nsl_str _, hr 0 _ rfl⟩
    · exact ⟨_, nsl_int _ _, hr 1 _ rfl⟩
  exact hp

def oLodKeeper : RowRel DLodKeeper := fun lo w cs x => ∃ v1 v2 : Value, cs = [v1, v2] ∧ SlO 4 oClsClass lo w v1 x.fOwns ∧ SlO 2 oLodAsk lo w v2 x.fAsks
theorem oLodKeeper_good : Good oLodKeeper := ⟨fun lo w w' cs x hk h => by
    obtain ⟨v1, v2, h0, s1, s2⟩ := h
    exact ⟨v1, v2, h0, s1.stays oClsClass_good hk, s2.stays oLodAsk_good hk⟩, fun lo lo' w cs x hk h => by
    obtain ⟨v1, v2, h0, s1, s2⟩ := h
    exact ⟨v1, v2, h0, s1.low oClsClass_good hk, s2.low oLodAsk_good hk⟩⟩
theorem oLodKeeper_r : ∀ lo w cs x, oLodKeeper lo w cs x → rLodKeeper lo w cs x := fun lo w cs x h => by
    obtain ⟨v1, v2, h0, s1, s2⟩ := h
    exact ⟨v1, v2, h0, s1.sl oClsClass_r, s2.sl oLodAsk_r⟩
def sLodKeeper (lo hi : Nat) : World → Nat → Nat → DLodKeeper → Prop := fun w b o x => sPl [] w b o ∧ ∃ a1 n1 c1 a2 n2 c2, w.cell? ⟨b, o + 0, none⟩ = some (.slice a1 n1 c1) ∧ Sh 4 (sClsClass lo hi) lo hi w (.slice a1 n1 c1) x.fOwns ∧ w.cell? ⟨b, o + 1, none⟩ = some (.slice a2 n2 c2) ∧ Sh 2 (sLodAsk lo hi) lo hi w (.slice a2 n2 c2) x.fAsks
theorem sLodKeeper_mk (lo hi : Nat) : MKs (sLodKeeper lo hi) lo hi := fun w w' b o x h1 h2 hm h => by
  obtain ⟨p, a1, n1, c1, a2, n2, c2, e1, g1, e2, g2⟩ := h
  exact ⟨sPl_mk h1 h2 hm p, _, _, _, _, _, _, hm.slice _ _ _ _ _ h1 h2 e1, g1.mk (sClsClass_mk lo hi) hm, hm.slice _ _ _ _ _ h1 h2 e2, g2.mk (sLodAsk_mk lo hi) hm⟩
theorem oLodKeeper_s (lo hi : Nat) : ∀ w, w.heap.size ≤ hi → ∀ cs x b o, cs.length = 2 → lo ≤ b → b < w.heap.size → w.rangeAt b o cs → oLodKeeper lo w cs x → sLodKeeper lo hi w b o x := fun w hh cs x b o hc h1 h2 hr h => by
  obtain ⟨v1, v2, h0, s1, s2⟩ := h
  subst h0
  obtain ⟨a1, n1, c1, rfl⟩ := s1.form
  obtain ⟨a2, n2, c2, rfl⟩ := s2.form
  have hp : sPl [] w b o := fun j hj => absurd hj (by simp)
  exact ⟨hp, _, _, _, _, _, _, hr 0 _ rfl, s1.sh hh fun cs x b o hc h1 h2 hr h => oClsClass_s lo hi w hh cs x b o hc h1 h2 hr h, hr 1 _ rfl, s2.sh hh fun cs x b o hc h1 h2 hr h => oLodAsk_s lo hi w hh cs x b o hc h1 h2 hr h⟩

end Go.Proofs.YtmmlhnjmjmbfpaaGreat

/-
  The walk of the laws' markText: a number's text, from the number alone. Condition: the number is from 1 on, and has at most twelve digits.
-/
namespace Go.Proofs.YtmmlhnjmjmbfpaaGreat
set_option linter.unusedSimpArgs false
set_option linter.unusedVariables false
open Go.RowKit

/-- a text of bytes -/
def txM (l : List UInt8) : ByteArray := ⟨l.toArray⟩
theorem txM_app (a b : List UInt8) : txM a ++ txM b = txM (a ++ b) := by
  apply ByteArray.ext
  rw [ByteArray.data_append]
  simp [txM]
theorem txM_size (l : List UInt8) : (txM l).size = l.length := by simp [txM, ByteArray.size]
def digM (m : Nat) : UInt8 := UInt8.ofNat (48 + m)
theorem conv_digM (m : Nat) (hm : m ≤ 9) (b : Nat) (w : World) (h : w.cell? ⟨b, 0, none⟩ = some (.int .u8 (48 + (m : Int)))) :
    (convert 85 9 (.slice (some ⟨b, 0, none⟩) 1 1)).run Tryz.prog w = .ok (.string (txM [digM m])) w := by
  rw [run_convert_bytes_string w 85 9 5 _ 1 1 Tryz.underlying85 Tryz.underlying5 Tryz.underlying9]
  rw [run_bytesToString w ⟨b, 0, none⟩ 1 1 [48 + (m : Int)] (by rw [show (1 : Nat) = [Value.int .u8 (48 + (m : Int))].length from rfl, run_loadCells_list w ⟨b, 0, none⟩ [.int .u8 (48 + (m : Int))] (by intro j x hx; cases j with | zero => simp at hx; subst hx; simpa [Addr.add] using h | succ j => simp at hx)]; rfl)]
  have h2 : (48 + (m : Int)).toNat = 48 + m := by omega
  rw [show digM m = UInt8.ofNat (48 + (m : Int)).toNat by rw [h2]; rfl]
  rfl
/-- a number's digits, none for 0 -/
def mDig (k : Nat) : List UInt8 := if h : k = 0 then [] else mDig (k / 10) ++ [digM (k % 10)]
termination_by k
decreasing_by omega
def mText (i : Int) : ByteArray := txM (109 :: mDig i.toNat)
theorem ret_strM {a b : ByteArray} (h : a = b) : Ending.returned (.string a) = .returned (.string b) := by rw [h]
theorem mLen {l m k : Nat} (h : m * 10 ^ l ≤ k) (hm : 1 ≤ m) (hk : k < 10 ^ 12) : l ≤ 11 := by
  have h1 : 10 ^ l ≤ m * 10 ^ l := Nat.le_mul_of_pos_left _ hm
  have h2 : 10 ^ l < 10 ^ 12 := by omega
  have := (Nat.pow_lt_pow_iff_right (by decide : 1 < 10)).1 h2
  omega
theorem mStep {l m k : Nat} (h : m * 10 ^ l ≤ k) : m / 10 * 10 ^ (l + 1) ≤ k := by
  have h1 : m / 10 * 10 ≤ m := Nat.div_mul_le_self m 10
  calc m / 10 * 10 ^ (l + 1) = (m / 10 * 10) * 10 ^ l := by rw [Nat.pow_succ]; ac_rfl
    _ ≤ m * 10 ^ l := Nat.mul_le_mul_right _ h1
    _ ≤ k := h

set_option maxRecDepth 100000 in
set_option maxHeartbeats 4000000 in
theorem L_markText (i : Int) (w : World) (hi : 1 ≤ i ∧ i ≤ 1000000000) :
    Calls Tryz.prog 27 #[.int .i64 i] w fun e w' => e = .returned (.string (mText i)) ∧ Below w.heap.size w w' := by
  obtain ⟨n, rfl⟩ : ∃ n : Nat, i = (n : Int) := ⟨i.toNat, by omega⟩
  obtain ⟨h1, h2⟩ := hi
  have MT : mText (n : Int) = txM (109 :: mDig n) := by unfold mText; rw [Int.toNat_natCast]
  rw [MT]
  clear MT
  have hn0 : ¬ ((n : Int) ≤ 0) := by omega
  have hk : n < 10 ^ 12 := by omega
  have HK := Lib.hid hk
  clear hk
  refine calls_hide fun R HR => ?_
  go_enter Tryz.func27, Tryz.ntmps27
  go_wp2_with fail
  go_loopw [0, 3] (fun nv ov wr => ∃ (m : Nat) (l : List UInt8), nv = .int .i64 (m : Int) ∧ ov = .string (txM l) ∧ mDig n = mDig m ++ l ∧ m * 10 ^ l.length ≤ n ∧ l.length ≤ 12 ∧ Below w.heap.size w wr) (fun nv _ _ => (intOf nv).toNat)
  case atStart => exact ⟨n, [], rfl, rfl, by simp, by simp, by simp, by (repeat' (first | (with_reducible exact Below.refl _ _) | (with_reducible refine Below.alloc ?_ ?_ _) | (with_reducible refine Below.setCell ?_ ?_ _) | (with_reducible refine Below.drew ?_) | (refine below_hyp (by assumption) ?_ ?_) | go_size))⟩
  case round =>
    obtain ⟨m, l, rfl, rfl, hd, hp, hl, hb⟩ := hrel
    have HD := Lib.hid hd
    have HP := Lib.hid hp
    have hbx := hb.size
    have hsz : (txM l).size ≤ 12 := by rw [txM_size]; exact hl
    clear hd hp
    by_cases h0 : m = 0
    · subst h0
      have hs1 : (txM [109]).size = 1 := by rw [txM_size]; rfl
      have RV : Hid (txM [109] ++ txM l = txM (109 :: mDig n)) := Lib.hid (by
        rw [txM_app, HD.out, mDig, dif_pos rfl]; rfl)
      go_wp2
      all_goals (try go_returns)
      all_goals exact HR.out _ _ ⟨ret_strM RV.out, by (repeat' (first | (with_reducible exact Below.refl _ _) | (with_reducible refine Below.alloc ?_ ?_ _) | (with_reducible refine Below.setCell ?_ ?_ _) | (with_reducible refine Below.drew ?_) | (refine below_hyp (by assumption) ?_ ?_) | go_size))⟩
    · have hm1 : 1 ≤ m := by omega
      have g1 : ((0 : Int) < (m : Int)) := by omega
      have hl2 : l.length ≤ 11 := mLen HP.out hm1 HK.out
      have t1 : Int.tmod (m : Int) 10 = ((m % 10 : Nat) : Int) := by rw [Int.tmod_eq_emod_of_nonneg (by omega)]; omega
      have t2 : Int.tdiv (m : Int) 10 = ((m / 10 : Nat) : Int) := by rw [Int.tdiv_eq_ediv_of_nonneg (by omega)]; omega
      have NP := Lib.hid (mStep HP.out)
      obtain ⟨d, hd⟩ : ∃ d, d = m % 10 := ⟨_, rfl⟩
      obtain ⟨q, hq⟩ : ∃ q, q = m / 10 := ⟨_, rfl⟩
      rw [← hd] at t1
      rw [← hq] at t2 NP
      have hd9 : d ≤ 9 := by omega
      have hmb : m ≤ 1000000000000 := by
        have h3 := HP.out
        have h4 : m ≤ m * 10 ^ l.length := Nat.le_mul_of_pos_right _ (Nat.pow_pos (by decide))
        omega
      have g2 : IntKind.u8.wrap (48 + (d : Int)) = 48 + (d : Int) := IntWalk.u8_in _ (by omega)
      have hcv := conv_digM d hd9 wr.heap.size (wr.alloc (.cells #[.int .u8 (48 + (d : Int))] 5)) (by go_simp)
      have hs1 : (txM [digM d]).size = 1 := by rw [txM_size]; rfl
      have NX : Hid (txM [digM d] ++ txM l = txM (digM d :: l)) := Lib.hid (by rw [txM_app]; rfl)
      have ND : Hid (mDig n = mDig q ++ (digM d :: l)) := Lib.hid (by
        rw [HD.out, mDig, dif_neg (by omega), hd, hq]
        simp)
      have hqm : q < m := by omega
      clear hd hq
      go_wp2
      go_roundw
      case measure => simp [intOf]; omega
      case rel => exact ⟨q, digM d :: l, by first | rfl | go_num, by rw [NX.out], ND.out, by simpa using NP.out, by simp; omega, by (repeat' (first | (with_reducible exact Below.refl _ _) | (with_reducible refine Below.alloc ?_ ?_ _) | (with_reducible refine Below.setCell ?_ ?_ _) | (with_reducible refine Below.drew ?_) | (refine below_hyp (by assumption) ?_ ?_) | go_size))⟩

end Go.Proofs.YtmmlhnjmjmbfpaaGreat

/-
  The walks of the laws' marks: numbers and texts are written into the blocks of a copy, no slice there turns. Condition: the copy may be written, and its weight is small. (Printed by gen_markw.py, a program of the prover of this repo.)
-/
namespace Go.Proofs.YtmmlhnjmjmbfpaaGreat
set_option linter.unusedSimpArgs false
set_option linter.unusedVariables false
open Go.RowKit

theorem wtS_take {α : Type} (f : α → Nat) (xs : List α) {j : Nat} (h : j ≤ xs.length) : j + ((xs.take j).map f).sum ≤ wtS f xs := by
  unfold wtS
  have h1 : (xs.map f).sum = ((xs.take j).map f).sum + ((xs.drop j).map f).sum := by
    rw [← List.sum_append, ← List.map_append, List.take_append_drop]
  omega
theorem MK.call {lo hi : Nat} {w w1 w2 : World} (h : MK lo hi w w1) (hb : Below w1.heap.size w1 w2) (hh : hi ≤ w1.heap.size) : MK lo hi w w2 := h.trans (MK.of_below hb hh)
theorem MK.setC {lo hi : Nat} {w w' : World} {b o : Nat} {u v : Value} (h : MK lo hi w w') (h1 : lo ≤ b) (h2 : b < hi) (hu : w.cell? ⟨b, o, none⟩ = some u) (hn : NSl u) (hv : NSl v) : MK lo hi w (w'.setCell ⟨b, o, none⟩ v) := by
  obtain ⟨u', hn', hu'⟩ := h.plain _ _ _ h1 h2 hn hu
  exact h.trans (MK.set h1 h2 hu' hn' hv)
theorem MK.cellF {lo hi : Nat} {w w' : World} (m : MK lo hi w w') {b o : Nat} {v : Value} (h1 : lo ≤ b) (h2 : b < hi) (hn : NSl v) (hc : w.cell? ⟨b, o, none⟩ = some v) (hf : w.frozen? ⟨b, o, none⟩ = false) : ∃ v', NSl v' ∧ w'.cell? ⟨b, o, none⟩ = some v' ∧ w'.frozen? ⟨b, o, none⟩ = false := by
  obtain ⟨u, hu, hc'⟩ := m.plain _ _ _ h1 h2 hn hc
  refine ⟨u, hu, hc', ?_⟩
  have := m.there b o 1 h1 h2 (fun i hi => by obtain rfl : i = 0 := by omega
                                              exact ⟨by rw [Nat.add_zero, hc]; rfl, by rw [Nat.add_zero]; exact hf⟩)
  exact (this 0 (by omega)).2

set_option maxRecDepth 100000 in
set_option maxHeartbeats 4000000 in
theorem L_markKndKindS (lo hi : Nat) (xs : List DKndKind) (v : Value) (k : Int) (w : World) (hv : Sh 2 (sKndKind lo hi) lo hi w v xs) (hh : hi ≤ w.heap.size) (hk : 1 ≤ k ∧ k + 8 * (wtS wtKndKind xs : Nat) ≤ 900000000) :
    Calls Tryz.prog 73 #[v, .int .i64 k] w fun e w' => (∃ c : Int, e = .returned (.int .i64 c) ∧ k ≤ c ∧ c ≤ k + 8 * (wtS wtKndKind xs : Nat)) ∧ MK lo hi w w' := by
  obtain ⟨a, len, cap, rfl, hl, h1, h2, h3⟩ := id hv
  have m1 : len ≤ 9223372036854775807 := by unfold maxLen at h2; omega
  obtain ⟨k1, k2⟩ := hk
  have HL := Lib.hid hl
  have K2 := Lib.hid k2
  clear h2 hl h1 k2
  refine calls_hide fun R HR => ?_
  go_enter Tryz.func73, Tryz.ntmps73
  go_wp2_with fail
  go_loopw [1, 5] (fun kv i wr => ∃ (j : Nat) (c : Int), j ≤ len ∧ i = .int .i64 j ∧ kv = .int .i64 c ∧ k ≤ c ∧ c ≤ k + 8 * ((j + ((xs.take j).map wtKndKind).sum : Nat) : Int) ∧ MK lo hi w wr) (fun _ i _ => len - (intOf i).toNat)
  case atStart => exact ⟨0, _, Nat.zero_le _, rfl, rfl, by omega, by first | (simp; done) | (simp; omega), MK.refl _ _ _⟩
  case round =>
    obtain ⟨j, c, hj, rfl, rfl, hc1, hc2, hm⟩ := hrel
    have hhr : hi ≤ wr.heap.size := Nat.le_trans hh hm.size
    have hta := wtS_take wtKndKind xs (j := j) (by have := HL.out; omega)
    have hc9 : c ≤ 900000000 := by have := K2.out; omega
    by_cases hlt : j < len
    · obtain ⟨b, off, rfl, g1, g2, gt, g3⟩ := h3 (by omega)
      obtain ⟨x, e0, hS⟩ := g3 j hlt
      have hw := take_wt wtKndKind e0
      have hta2 := wtS_take wtKndKind xs (j := j + 1) (by have := HL.out; omega)
      replace hS := sKndKind_mk lo hi _ _ _ _ _ g1 g2 hm hS
      have gtr := hm.there _ _ _ g1 g2 gt
      obtain ⟨y0, n0, p0⟩ := hS 0 (by simp)
      rw [Nat.add_zero] at p0
      have f0 : wr.frozen? ⟨b, off + j * 2, none⟩ = false := by have := (gtr (j * 2) (by omega)).2; exact this
      obtain ⟨y1, n1, p1⟩ := hS 1 (by simp)
      have f1 : wr.frozen? ⟨b, off + j * 2 + 1, none⟩ = false := by have := (gtr (j * 2 + 1) (by omega)).2; rw [← Nat.add_assoc] at this; exact this
      clear hS gtr g3 gt h3
      go_wp2_with fail
      refine (L_markText _ _ ⟨by omega, by omega⟩).mono ?_
      rintro _ w1 ⟨rfl, d1⟩
      have m1x : MK lo hi wr w1 := MK.call (by (repeat' (first | (with_reducible exact MK.refl _ _ _) | (with_reducible assumption) | (with_reducible refine MK.setC ?_ g1 g2 (by with_reducible assumption) (by with_reducible assumption) (by first | exact nsl_str _ | exact nsl_int _ _))))) d1 (Nat.le_trans hhr (MK.size (lo := lo) (hi := hi) (by (repeat' (first | (with_reducible exact MK.refl _ _ _) | (with_reducible assumption) | (with_reducible refine MK.setC ?_ g1 g2 (by with_reducible assumption) (by with_reducible assumption) (by first | exact nsl_str _ | exact nsl_int _ _)))))))
      clear d1
      obtain ⟨_, _, p1_1, f1_1⟩ := m1x.cellF g1 g2 n1 p1 f1
      go_wp2
      go_roundw
      case measure => simp [intOf]; omega
      case rel => exact ⟨j + 1, _, by omega, by go_num, rfl, by omega, by omega, hm.trans (by (repeat' (first | (with_reducible exact MK.refl _ _ _) | (with_reducible assumption) | (with_reducible refine MK.setC ?_ g1 g2 (by with_reducible assumption) (by with_reducible assumption) (by first | exact nsl_str _ | exact nsl_int _ _)))))⟩
    · obtain rfl : j = len := by omega
      go_wp2
      all_goals (try go_returns)
      all_goals exact HR.out _ _ ⟨⟨_, rfl, hc1, by omega⟩, hm⟩

set_option maxRecDepth 100000 in
set_option maxHeartbeats 4000000 in
theorem L_markClsFieldS (lo hi : Nat) (xs : List DClsField) (v : Value) (k : Int) (w : World) (hv : Sh 3 (sClsField lo hi) lo hi w v xs) (hh : hi ≤ w.heap.size) (hk : 1 ≤ k ∧ k + 8 * (wtS wtClsField xs : Nat) ≤ 900000000) :
    Calls Tryz.prog 58 #[v, .int .i64 k] w fun e w' => (∃ c : Int, e = .returned (.int .i64 c) ∧ k ≤ c ∧ c ≤ k + 8 * (wtS wtClsField xs : Nat)) ∧ MK lo hi w w' := by
  obtain ⟨a, len, cap, rfl, hl, h1, h2, h3⟩ := id hv
  have m1 : len ≤ 9223372036854775807 := by unfold maxLen at h2; omega
  obtain ⟨k1, k2⟩ := hk
  have HL := Lib.hid hl
  have K2 := Lib.hid k2
  clear h2 hl h1 k2
  refine calls_hide fun R HR => ?_
  go_enter Tryz.func58, Tryz.ntmps58
  go_wp2_with fail
  go_loopw [1, 5] (fun kv i wr => ∃ (j : Nat) (c : Int), j ≤ len ∧ i = .int .i64 j ∧ kv = .int .i64 c ∧ k ≤ c ∧ c ≤ k + 8 * ((j + ((xs.take j).map wtClsField).sum : Nat) : Int) ∧ MK lo hi w wr) (fun _ i _ => len - (intOf i).toNat)
  case atStart => exact ⟨0, _, Nat.zero_le _, rfl, rfl, by omega, by first | (simp; done) | (simp; omega), MK.refl _ _ _⟩
  case round =>
    obtain ⟨j, c, hj, rfl, rfl, hc1, hc2, hm⟩ := hrel
    have hhr : hi ≤ wr.heap.size := Nat.le_trans hh hm.size
    have hta := wtS_take wtClsField xs (j := j) (by have := HL.out; omega)
    have hc9 : c ≤ 900000000 := by have := K2.out; omega
    by_cases hlt : j < len
    · obtain ⟨b, off, rfl, g1, g2, gt, g3⟩ := h3 (by omega)
      obtain ⟨x, e0, hS⟩ := g3 j hlt
      have hw := take_wt wtClsField e0
      have hta2 := wtS_take wtClsField xs (j := j + 1) (by have := HL.out; omega)
      replace hS := sClsField_mk lo hi _ _ _ _ _ g1 g2 hm hS
      have gtr := hm.there _ _ _ g1 g2 gt
      obtain ⟨y0, n0, p0⟩ := hS 0 (by simp)
      rw [Nat.add_zero] at p0
      have f0 : wr.frozen? ⟨b, off + j * 3, none⟩ = false := by have := (gtr (j * 3) (by omega)).2; exact this
      obtain ⟨y1, n1, p1⟩ := hS 1 (by simp)
      have f1 : wr.frozen? ⟨b, off + j * 3 + 1, none⟩ = false := by have := (gtr (j * 3 + 1) (by omega)).2; rw [← Nat.add_assoc] at this; exact this
      obtain ⟨y2, n2, p2⟩ := hS 2 (by simp)
      have f2 : wr.frozen? ⟨b, off + j * 3 + 2, none⟩ = false := by have := (gtr (j * 3 + 2) (by omega)).2; rw [← Nat.add_assoc] at this; exact this
      clear hS gtr g3 gt h3
      go_wp2_with fail
      refine (L_markText _ _ ⟨by omega, by omega⟩).mono ?_
      rintro _ w1 ⟨rfl, d1⟩
      have m1x : MK lo hi wr w1 := MK.call (by (repeat' (first | (with_reducible exact MK.refl _ _ _) | (with_reducible assumption) | (with_reducible refine MK.setC ?_ g1 g2 (by with_reducible assumption) (by with_reducible assumption) (by first | exact nsl_str _ | exact nsl_int _ _))))) d1 (Nat.le_trans hhr (MK.size (lo := lo) (hi := hi) (by (repeat' (first | (with_reducible exact MK.refl _ _ _) | (with_reducible assumption) | (with_reducible refine MK.setC ?_ g1 g2 (by with_reducible assumption) (by with_reducible assumption) (by first | exact nsl_str _ | exact nsl_int _ _)))))))
      clear d1
      obtain ⟨_, _, p1_0, f1_0⟩ := m1x.cellF g1 g2 n0 p0 f0
      obtain ⟨_, _, p1_1, f1_1⟩ := m1x.cellF g1 g2 n1 p1 f1
      go_wp2_with fail
      refine (L_markText _ _ ⟨by omega, by omega⟩).mono ?_
      rintro _ w2 ⟨rfl, d2⟩
      have m2x : MK lo hi wr w2 := MK.call (by (repeat' (first | (with_reducible exact MK.refl _ _ _) | (with_reducible assumption) | (with_reducible refine MK.setC ?_ g1 g2 (by with_reducible assumption) (by with_reducible assumption) (by first | exact nsl_str _ | exact nsl_int _ _))))) d2 (Nat.le_trans hhr (MK.size (lo := lo) (hi := hi) (by (repeat' (first | (with_reducible exact MK.refl _ _ _) | (with_reducible assumption) | (with_reducible refine MK.setC ?_ g1 g2 (by with_reducible assumption) (by with_reducible assumption) (by first | exact nsl_str _ | exact nsl_int _ _)))))))
      clear d2
      obtain ⟨_, _, p2_2, f2_2⟩ := m2x.cellF g1 g2 n2 p2 f2
      go_wp2
      go_roundw
      case measure => simp [intOf]; omega
      case rel => exact ⟨j + 1, _, by omega, by go_num, rfl, by omega, by omega, hm.trans (by (repeat' (first | (with_reducible exact MK.refl _ _ _) | (with_reducible assumption) | (with_reducible refine MK.setC ?_ g1 g2 (by with_reducible assumption) (by with_reducible assumption) (by first | exact nsl_str _ | exact nsl_int _ _)))))⟩
    · obtain rfl : j = len := by omega
      go_wp2
      all_goals (try go_returns)
      all_goals exact HR.out _ _ ⟨⟨_, rfl, hc1, by omega⟩, hm⟩

set_option maxRecDepth 100000 in
set_option maxHeartbeats 4000000 in
theorem L_markClsInsS (lo hi : Nat) (xs : List DClsIns) (v : Value) (k : Int) (w : World) (hv : Sh 4 (sClsIns lo hi) lo hi w v xs) (hh : hi ≤ w.heap.size) (hk : 1 ≤ k ∧ k + 8 * (wtS wtClsIns xs : Nat) ≤ 900000000) :
    Calls Tryz.prog 74 #[v, .int .i64 k] w fun e w' => (∃ c : Int, e = .returned (.int .i64 c) ∧ k ≤ c ∧ c ≤ k + 8 * (wtS wtClsIns xs : Nat)) ∧ MK lo hi w w' := by
  obtain ⟨a, len, cap, rfl, hl, h1, h2, h3⟩ := id hv
  have m1 : len ≤ 9223372036854775807 := by unfold maxLen at h2; omega
  obtain ⟨k1, k2⟩ := hk
  have HL := Lib.hid hl
  have K2 := Lib.hid k2
  clear h2 hl h1 k2
  refine calls_hide fun R HR => ?_
  go_enter Tryz.func74, Tryz.ntmps74
  go_wp2_with fail
  go_loopw [1, 5] (fun kv i wr => ∃ (j : Nat) (c : Int), j ≤ len ∧ i = .int .i64 j ∧ kv = .int .i64 c ∧ k ≤ c ∧ c ≤ k + 8 * ((j + ((xs.take j).map wtClsIns).sum : Nat) : Int) ∧ MK lo hi w wr) (fun _ i _ => len - (intOf i).toNat)
  case atStart => exact ⟨0, _, Nat.zero_le _, rfl, rfl, by omega, by first | (simp; done) | (simp; omega), MK.refl _ _ _⟩
  case round =>
    obtain ⟨j, c, hj, rfl, rfl, hc1, hc2, hm⟩ := hrel
    have hhr : hi ≤ wr.heap.size := Nat.le_trans hh hm.size
    have hta := wtS_take wtClsIns xs (j := j) (by have := HL.out; omega)
    have hc9 : c ≤ 900000000 := by have := K2.out; omega
    by_cases hlt : j < len
    · obtain ⟨b, off, rfl, g1, g2, gt, g3⟩ := h3 (by omega)
      obtain ⟨x, e0, hS⟩ := g3 j hlt
      have hw := take_wt wtClsIns e0
      have hta2 := wtS_take wtClsIns xs (j := j + 1) (by have := HL.out; omega)
      replace hS := sClsIns_mk lo hi _ _ _ _ _ g1 g2 hm hS
      have gtr := hm.there _ _ _ g1 g2 gt
      obtain ⟨y0, n0, p0⟩ := hS 0 (by simp)
      rw [Nat.add_zero] at p0
      have f0 : wr.frozen? ⟨b, off + j * 4, none⟩ = false := by have := (gtr (j * 4) (by omega)).2; exact this
      obtain ⟨y1, n1, p1⟩ := hS 1 (by simp)
      have f1 : wr.frozen? ⟨b, off + j * 4 + 1, none⟩ = false := by have := (gtr (j * 4 + 1) (by omega)).2; rw [← Nat.add_assoc] at this; exact this
      obtain ⟨y2, n2, p2⟩ := hS 2 (by simp)
      have f2 : wr.frozen? ⟨b, off + j * 4 + 2, none⟩ = false := by have := (gtr (j * 4 + 2) (by omega)).2; rw [← Nat.add_assoc] at this; exact this
      obtain ⟨y3, n3, p3⟩ := hS 3 (by simp)
      have f3 : wr.frozen? ⟨b, off + j * 4 + 3, none⟩ = false := by have := (gtr (j * 4 + 3) (by omega)).2; rw [← Nat.add_assoc] at this; exact this
      clear hS gtr g3 gt h3
      go_wp2_with fail
      refine (L_markText _ _ ⟨by omega, by omega⟩).mono ?_
      rintro _ w1 ⟨rfl, d1⟩
      have m1x : MK lo hi wr w1 := MK.call (by (repeat' (first | (with_reducible exact MK.refl _ _ _) | (with_reducible assumption) | (with_reducible refine MK.setC ?_ g1 g2 (by with_reducible assumption) (by with_reducible assumption) (by first | exact nsl_str _ | exact nsl_int _ _))))) d1 (Nat.le_trans hhr (MK.size (lo := lo) (hi := hi) (by (repeat' (first | (with_reducible exact MK.refl _ _ _) | (with_reducible assumption) | (with_reducible refine MK.setC ?_ g1 g2 (by with_reducible assumption) (by with_reducible assumption) (by first | exact nsl_str _ | exact nsl_int _ _)))))))
      clear d1
      obtain ⟨_, _, p1_2, f1_2⟩ := m1x.cellF g1 g2 n2 p2 f2
      go_wp2_with fail
      refine (L_markText _ _ ⟨by omega, by omega⟩).mono ?_
      rintro _ w2 ⟨rfl, d2⟩
      have m2x : MK lo hi wr w2 := MK.call (by (repeat' (first | (with_reducible exact MK.refl _ _ _) | (with_reducible assumption) | (with_reducible refine MK.setC ?_ g1 g2 (by with_reducible assumption) (by with_reducible assumption) (by first | exact nsl_str _ | exact nsl_int _ _))))) d2 (Nat.le_trans hhr (MK.size (lo := lo) (hi := hi) (by (repeat' (first | (with_reducible exact MK.refl _ _ _) | (with_reducible assumption) | (with_reducible refine MK.setC ?_ g1 g2 (by with_reducible assumption) (by with_reducible assumption) (by first | exact nsl_str _ | exact nsl_int _ _)))))))
      clear d2
      obtain ⟨_, _, p2_3, f2_3⟩ := m2x.cellF g1 g2 n3 p3 f3
      go_wp2
      go_roundw
      case measure => simp [intOf]; omega
      case rel => exact ⟨j + 1, _, by omega, by go_num, rfl, by omega, by omega, hm.trans (by (repeat' (first | (with_reducible exact MK.refl _ _ _) | (with_reducible assumption) | (with_reducible refine MK.setC ?_ g1 g2 (by with_reducible assumption) (by with_reducible assumption) (by first | exact nsl_str _ | exact nsl_int _ _)))))⟩
    · obtain rfl : j = len := by omega
      go_wp2
      all_goals (try go_returns)
      all_goals exact HR.out _ _ ⟨⟨_, rfl, hc1, by omega⟩, hm⟩

set_option maxRecDepth 100000 in
set_option maxHeartbeats 4000000 in
theorem L_markTagTagS (lo hi : Nat) (xs : List DTagTag) (v : Value) (k : Int) (w : World) (hv : Sh 2 (sTagTag lo hi) lo hi w v xs) (hh : hi ≤ w.heap.size) (hk : 1 ≤ k ∧ k + 8 * (wtS wtTagTag xs : Nat) ≤ 900000000) :
    Calls Tryz.prog 89 #[v, .int .i64 k] w fun e w' => (∃ c : Int, e = .returned (.int .i64 c) ∧ k ≤ c ∧ c ≤ k + 8 * (wtS wtTagTag xs : Nat)) ∧ MK lo hi w w' := by
  obtain ⟨a, len, cap, rfl, hl, h1, h2, h3⟩ := id hv
  have m1 : len ≤ 9223372036854775807 := by unfold maxLen at h2; omega
  obtain ⟨k1, k2⟩ := hk
  have HL := Lib.hid hl
  have K2 := Lib.hid k2
  clear h2 hl h1 k2
  refine calls_hide fun R HR => ?_
  go_enter Tryz.func89, Tryz.ntmps89
  go_wp2_with fail
  go_loopw [1, 5] (fun kv i wr => ∃ (j : Nat) (c : Int), j ≤ len ∧ i = .int .i64 j ∧ kv = .int .i64 c ∧ k ≤ c ∧ c ≤ k + 8 * ((j + ((xs.take j).map wtTagTag).sum : Nat) : Int) ∧ MK lo hi w wr) (fun _ i _ => len - (intOf i).toNat)
  case atStart => exact ⟨0, _, Nat.zero_le _, rfl, rfl, by omega, by first | (simp; done) | (simp; omega), MK.refl _ _ _⟩
  case round =>
    obtain ⟨j, c, hj, rfl, rfl, hc1, hc2, hm⟩ := hrel
    have hhr : hi ≤ wr.heap.size := Nat.le_trans hh hm.size
    have hta := wtS_take wtTagTag xs (j := j) (by have := HL.out; omega)
    have hc9 : c ≤ 900000000 := by have := K2.out; omega
    by_cases hlt : j < len
    · obtain ⟨b, off, rfl, g1, g2, gt, g3⟩ := h3 (by omega)
      obtain ⟨x, e0, hS⟩ := g3 j hlt
      have hw := take_wt wtTagTag e0
      have hta2 := wtS_take wtTagTag xs (j := j + 1) (by have := HL.out; omega)
      replace hS := sTagTag_mk lo hi _ _ _ _ _ g1 g2 hm hS
      have gtr := hm.there _ _ _ g1 g2 gt
      obtain ⟨y0, n0, p0⟩ := hS 0 (by simp)
      rw [Nat.add_zero] at p0
      have f0 : wr.frozen? ⟨b, off + j * 2, none⟩ = false := by have := (gtr (j * 2) (by omega)).2; exact this
      obtain ⟨y1, n1, p1⟩ := hS 1 (by simp)
      have f1 : wr.frozen? ⟨b, off + j * 2 + 1, none⟩ = false := by have := (gtr (j * 2 + 1) (by omega)).2; rw [← Nat.add_assoc] at this; exact this
      clear hS gtr g3 gt h3
      go_wp2_with fail
      refine (L_markText _ _ ⟨by omega, by omega⟩).mono ?_
      rintro _ w1 ⟨rfl, d1⟩
      have m1x : MK lo hi wr w1 := MK.call (by (repeat' (first | (with_reducible exact MK.refl _ _ _) | (with_reducible assumption) | (with_reducible refine MK.setC ?_ g1 g2 (by with_reducible assumption) (by with_reducible assumption) (by first | exact nsl_str _ | exact nsl_int _ _))))) d1 (Nat.le_trans hhr (MK.size (lo := lo) (hi := hi) (by (repeat' (first | (with_reducible exact MK.refl _ _ _) | (with_reducible assumption) | (with_reducible refine MK.setC ?_ g1 g2 (by with_reducible assumption) (by with_reducible assumption) (by first | exact nsl_str _ | exact nsl_int _ _)))))))
      clear d1
      obtain ⟨_, _, p1_1, f1_1⟩ := m1x.cellF g1 g2 n1 p1 f1
      go_wp2
      go_roundw
      case measure => simp [intOf]; omega
      case rel => exact ⟨j + 1, _, by omega, by go_num, rfl, by omega, by omega, hm.trans (by (repeat' (first | (with_reducible exact MK.refl _ _ _) | (with_reducible assumption) | (with_reducible refine MK.setC ?_ g1 g2 (by with_reducible assumption) (by with_reducible assumption) (by first | exact nsl_str _ | exact nsl_int _ _)))))⟩
    · obtain rfl : j = len := by omega
      go_wp2
      all_goals (try go_returns)
      all_goals exact HR.out _ _ ⟨⟨_, rfl, hc1, by omega⟩, hm⟩

set_option maxRecDepth 100000 in
set_option maxHeartbeats 4000000 in
theorem L_markClsMapS (lo hi : Nat) (xs : List DClsMap) (v : Value) (k : Int) (w : World) (hv : Sh 3 (sClsMap lo hi) lo hi w v xs) (hh : hi ≤ w.heap.size) (hk : 1 ≤ k ∧ k + 8 * (wtS wtClsMap xs : Nat) ≤ 900000000) :
    Calls Tryz.prog 75 #[v, .int .i64 k] w fun e w' => (∃ c : Int, e = .returned (.int .i64 c) ∧ k ≤ c ∧ c ≤ k + 8 * (wtS wtClsMap xs : Nat)) ∧ MK lo hi w w' := by
  obtain ⟨a, len, cap, rfl, hl, h1, h2, h3⟩ := id hv
  have m1 : len ≤ 9223372036854775807 := by unfold maxLen at h2; omega
  obtain ⟨k1, k2⟩ := hk
  have HL := Lib.hid hl
  have K2 := Lib.hid k2
  clear h2 hl h1 k2
  refine calls_hide fun R HR => ?_
  go_enter Tryz.func75, Tryz.ntmps75
  go_wp2_with fail
  go_loopw [1, 5] (fun kv i wr => ∃ (j : Nat) (c : Int), j ≤ len ∧ i = .int .i64 j ∧ kv = .int .i64 c ∧ k ≤ c ∧ c ≤ k + 8 * ((j + ((xs.take j).map wtClsMap).sum : Nat) : Int) ∧ MK lo hi w wr) (fun _ i _ => len - (intOf i).toNat)
  case atStart => exact ⟨0, _, Nat.zero_le _, rfl, rfl, by omega, by first | (simp; done) | (simp; omega), MK.refl _ _ _⟩
  case round =>
    obtain ⟨j, c, hj, rfl, rfl, hc1, hc2, hm⟩ := hrel
    have hhr : hi ≤ wr.heap.size := Nat.le_trans hh hm.size
    have hta := wtS_take wtClsMap xs (j := j) (by have := HL.out; omega)
    have hc9 : c ≤ 900000000 := by have := K2.out; omega
    by_cases hlt : j < len
    · obtain ⟨b, off, rfl, g1, g2, gt, g3⟩ := h3 (by omega)
      obtain ⟨x, e0, hS⟩ := g3 j hlt
      have hw := take_wt wtClsMap e0
      have hta2 := wtS_take wtClsMap xs (j := j + 1) (by have := HL.out; omega)
      have hwx : 8 * wtS wtTagTag x.fLocals + 8 * wtS wtTagTag x.fStack ≤ 8 * wtClsMap x := by unfold wtClsMap; omega
      replace hS := sClsMap_mk lo hi _ _ _ _ _ g1 g2 hm hS
      have gtr := hm.there _ _ _ g1 g2 gt
      obtain ⟨hS, a1, n1, c1, a2, n2, c2, q1, S1, q2, S2⟩ := hS
      obtain ⟨y0, n0, p0⟩ := hS 0 (by simp)
      rw [Nat.add_zero] at p0
      have f0 : wr.frozen? ⟨b, off + j * 3, none⟩ = false := by have := (gtr (j * 3) (by omega)).2; exact this
      clear hS gtr g3 gt h3
      go_wp2_with fail
      refine (L_markTagTagS lo hi x.fLocals _ _ _ (S1.mk (sTagTag_mk lo hi) (by (repeat' (first | (with_reducible exact MK.refl _ _ _) | (with_reducible assumption) | (with_reducible refine MK.setC ?_ g1 g2 (by with_reducible assumption) (by with_reducible assumption) (by first | exact nsl_str _ | exact nsl_int _ _)))))) (Nat.le_trans hhr (MK.size (lo := lo) (hi := hi) (by (repeat' (first | (with_reducible exact MK.refl _ _ _) | (with_reducible assumption) | (with_reducible refine MK.setC ?_ g1 g2 (by with_reducible assumption) (by with_reducible assumption) (by first | exact nsl_str _ | exact nsl_int _ _))))))) ⟨by omega, by have := K2.out; omega⟩).mono ?_
      rintro _ w1 ⟨⟨u1, rfl, l1, r1⟩, d1⟩
      have m1x : MK lo hi wr w1 := MK.trans (by (repeat' (first | (with_reducible exact MK.refl _ _ _) | (with_reducible assumption) | (with_reducible refine MK.setC ?_ g1 g2 (by with_reducible assumption) (by with_reducible assumption) (by first | exact nsl_str _ | exact nsl_int _ _))))) d1
      have hu1 : u1 ≤ 900000000 := by have := K2.out; omega
      clear d1
      have q1_2 := m1x.slice _ _ _ _ _ g1 g2 q2
      go_wp2_with fail
      refine (L_markTagTagS lo hi x.fStack _ _ _ (S2.mk (sTagTag_mk lo hi) (by (repeat' (first | (with_reducible exact MK.refl _ _ _) | (with_reducible assumption) | (with_reducible refine MK.setC ?_ g1 g2 (by with_reducible assumption) (by with_reducible assumption) (by first | exact nsl_str _ | exact nsl_int _ _)))))) (Nat.le_trans hhr (MK.size (lo := lo) (hi := hi) (by (repeat' (first | (with_reducible exact MK.refl _ _ _) | (with_reducible assumption) | (with_reducible refine MK.setC ?_ g1 g2 (by with_reducible assumption) (by with_reducible assumption) (by first | exact nsl_str _ | exact nsl_int _ _))))))) ⟨by omega, by have := K2.out; omega⟩).mono ?_
      rintro _ w2 ⟨⟨u2, rfl, l2, r2⟩, d2⟩
      have m2x : MK lo hi wr w2 := MK.trans (by (repeat' (first | (with_reducible exact MK.refl _ _ _) | (with_reducible assumption) | (with_reducible refine MK.setC ?_ g1 g2 (by with_reducible assumption) (by with_reducible assumption) (by first | exact nsl_str _ | exact nsl_int _ _))))) d2
      have hu2 : u2 ≤ 900000000 := by have := K2.out; omega
      clear d2
      go_wp2
      go_roundw
      case measure => simp [intOf]; omega
      case rel => exact ⟨j + 1, _, by omega, by go_num, rfl, by omega, by omega, hm.trans (by (repeat' (first | (with_reducible exact MK.refl _ _ _) | (with_reducible assumption) | (with_reducible refine MK.setC ?_ g1 g2 (by with_reducible assumption) (by with_reducible assumption) (by first | exact nsl_str _ | exact nsl_int _ _)))))⟩
    · obtain rfl : j = len := by omega
      go_wp2
      all_goals (try go_returns)
      all_goals exact HR.out _ _ ⟨⟨_, rfl, hc1, by omega⟩, hm⟩

set_option maxRecDepth 100000 in
set_option maxHeartbeats 4000000 in
theorem L_markClsMethodS (lo hi : Nat) (xs : List DClsMethod) (v : Value) (k : Int) (w : World) (hv : Sh 8 (sClsMethod lo hi) lo hi w v xs) (hh : hi ≤ w.heap.size) (hk : 1 ≤ k ∧ k + 8 * (wtS wtClsMethod xs : Nat) ≤ 900000000) :
    Calls Tryz.prog 59 #[v, .int .i64 k] w fun e w' => (∃ c : Int, e = .returned (.int .i64 c) ∧ k ≤ c ∧ c ≤ k + 8 * (wtS wtClsMethod xs : Nat)) ∧ MK lo hi w w' := by
  obtain ⟨a, len, cap, rfl, hl, h1, h2, h3⟩ := id hv
  have m1 : len ≤ 9223372036854775807 := by unfold maxLen at h2; omega
  obtain ⟨k1, k2⟩ := hk
  have HL := Lib.hid hl
  have K2 := Lib.hid k2
  clear h2 hl h1 k2
  refine calls_hide fun R HR => ?_
  go_enter Tryz.func59, Tryz.ntmps59
  go_wp2_with fail
  go_loopw [1, 5] (fun kv i wr => ∃ (j : Nat) (c : Int), j ≤ len ∧ i = .int .i64 j ∧ kv = .int .i64 c ∧ k ≤ c ∧ c ≤ k + 8 * ((j + ((xs.take j).map wtClsMethod).sum : Nat) : Int) ∧ MK lo hi w wr) (fun _ i _ => len - (intOf i).toNat)
  case atStart => exact ⟨0, _, Nat.zero_le _, rfl, rfl, by omega, by first | (simp; done) | (simp; omega), MK.refl _ _ _⟩
  case round =>
    obtain ⟨j, c, hj, rfl, rfl, hc1, hc2, hm⟩ := hrel
    have hhr : hi ≤ wr.heap.size := Nat.le_trans hh hm.size
    have hta := wtS_take wtClsMethod xs (j := j) (by have := HL.out; omega)
    have hc9 : c ≤ 900000000 := by have := K2.out; omega
    by_cases hlt : j < len
    · obtain ⟨b, off, rfl, g1, g2, gt, g3⟩ := h3 (by omega)
      obtain ⟨x, e0, hS⟩ := g3 j hlt
      have hw := take_wt wtClsMethod e0
      have hta2 := wtS_take wtClsMethod xs (j := j + 1) (by have := HL.out; omega)
      have hwx : 8 * wtS wtKndKind x.fArgs + 8 * wtS wtClsIns x.fCode + 8 * wtS wtClsMap x.fMaps ≤ 8 * wtClsMethod x := by unfold wtClsMethod; omega
      replace hS := sClsMethod_mk lo hi _ _ _ _ _ g1 g2 hm hS
      have gtr := hm.there _ _ _ g1 g2 gt
      obtain ⟨hS, a1, n1, c1, a2, n2, c2, a3, n3, c3, q1, S1, q2, S2, q3, S3⟩ := hS
      obtain ⟨y0, n0, p0⟩ := hS 0 (by simp)
      rw [Nat.add_zero] at p0
      have f0 : wr.frozen? ⟨b, off + j * 8, none⟩ = false := by have := (gtr (j * 8) (by omega)).2; exact this
      obtain ⟨y2, n2, p2⟩ := hS 2 (by simp)
      have f2 : wr.frozen? ⟨b, off + j * 8 + 2, none⟩ = false := by have := (gtr (j * 8 + 2) (by omega)).2; rw [← Nat.add_assoc] at this; exact this
      obtain ⟨y3, n3, p3⟩ := hS 3 (by simp)
      have f3 : wr.frozen? ⟨b, off + j * 8 + 3, none⟩ = false := by have := (gtr (j * 8 + 3) (by omega)).2; rw [← Nat.add_assoc] at this; exact this
      obtain ⟨y4, n4, p4⟩ := hS 4 (by simp)
      have f4 : wr.frozen? ⟨b, off + j * 8 + 4, none⟩ = false := by have := (gtr (j * 8 + 4) (by omega)).2; rw [← Nat.add_assoc] at this; exact this
      obtain ⟨y5, n5, p5⟩ := hS 5 (by simp)
      have f5 : wr.frozen? ⟨b, off + j * 8 + 5, none⟩ = false := by have := (gtr (j * 8 + 5) (by omega)).2; rw [← Nat.add_assoc] at this; exact this
      clear hS gtr g3 gt h3
      go_wp2_with fail
      refine (L_markText _ _ ⟨by omega, by omega⟩).mono ?_
      rintro _ w1 ⟨rfl, d1⟩
      have m1x : MK lo hi wr w1 := MK.call (by (repeat' (first | (with_reducible exact MK.refl _ _ _) | (with_reducible assumption) | (with_reducible refine MK.setC ?_ g1 g2 (by with_reducible assumption) (by with_reducible assumption) (by first | exact nsl_str _ | exact nsl_int _ _))))) d1 (Nat.le_trans hhr (MK.size (lo := lo) (hi := hi) (by (repeat' (first | (with_reducible exact MK.refl _ _ _) | (with_reducible assumption) | (with_reducible refine MK.setC ?_ g1 g2 (by with_reducible assumption) (by with_reducible assumption) (by first | exact nsl_str _ | exact nsl_int _ _)))))))
      clear d1
      obtain ⟨_, _, p1_0, f1_0⟩ := m1x.cellF g1 g2 n0 p0 f0
      have q1_1 := m1x.slice _ _ _ _ _ g1 g2 q1
      go_wp2_with fail
      refine (L_markKndKindS lo hi x.fArgs _ _ _ (S1.mk (sKndKind_mk lo hi) (by (repeat' (first | (with_reducible exact MK.refl _ _ _) | (with_reducible assumption) | (with_reducible refine MK.setC ?_ g1 g2 (by with_reducible assumption) (by with_reducible assumption) (by first | exact nsl_str _ | exact nsl_int _ _)))))) (Nat.le_trans hhr (MK.size (lo := lo) (hi := hi) (by (repeat' (first | (with_reducible exact MK.refl _ _ _) | (with_reducible assumption) | (with_reducible refine MK.setC ?_ g1 g2 (by with_reducible assumption) (by with_reducible assumption) (by first | exact nsl_str _ | exact nsl_int _ _))))))) ⟨by omega, by have := K2.out; omega⟩).mono ?_
      rintro _ w2 ⟨⟨u2, rfl, l2, r2⟩, d2⟩
      have m2x : MK lo hi wr w2 := MK.trans (by (repeat' (first | (with_reducible exact MK.refl _ _ _) | (with_reducible assumption) | (with_reducible refine MK.setC ?_ g1 g2 (by with_reducible assumption) (by with_reducible assumption) (by first | exact nsl_str _ | exact nsl_int _ _))))) d2
      have hu2 : u2 ≤ 900000000 := by have := K2.out; omega
      clear d2
      obtain ⟨_, _, p2_2, f2_2⟩ := m2x.cellF g1 g2 n2 p2 f2
      go_wp2_with fail
      refine (L_markText _ _ ⟨by omega, by omega⟩).mono ?_
      rintro _ w3 ⟨rfl, d3⟩
      have m3x : MK lo hi wr w3 := MK.call (by (repeat' (first | (with_reducible exact MK.refl _ _ _) | (with_reducible assumption) | (with_reducible refine MK.setC ?_ g1 g2 (by with_reducible assumption) (by with_reducible assumption) (by first | exact nsl_str _ | exact nsl_int _ _))))) d3 (Nat.le_trans hhr (MK.size (lo := lo) (hi := hi) (by (repeat' (first | (with_reducible exact MK.refl _ _ _) | (with_reducible assumption) | (with_reducible refine MK.setC ?_ g1 g2 (by with_reducible assumption) (by with_reducible assumption) (by first | exact nsl_str _ | exact nsl_int _ _)))))))
      clear d3
      obtain ⟨_, _, p3_3, f3_3⟩ := m3x.cellF g1 g2 n3 p3 f3
      obtain ⟨_, _, p3_4, f3_4⟩ := m3x.cellF g1 g2 n4 p4 f4
      obtain ⟨_, _, p3_5, f3_5⟩ := m3x.cellF g1 g2 n5 p5 f5
      have q3_6 := m3x.slice _ _ _ _ _ g1 g2 q2
      go_wp2_with fail
      refine (L_markClsInsS lo hi x.fCode _ _ _ (S2.mk (sClsIns_mk lo hi) (by (repeat' (first | (with_reducible exact MK.refl _ _ _) | (with_reducible assumption) | (with_reducible refine MK.setC ?_ g1 g2 (by with_reducible assumption) (by with_reducible assumption) (by first | exact nsl_str _ | exact nsl_int _ _)))))) (Nat.le_trans hhr (MK.size (lo := lo) (hi := hi) (by (repeat' (first | (with_reducible exact MK.refl _ _ _) | (with_reducible assumption) | (with_reducible refine MK.setC ?_ g1 g2 (by with_reducible assumption) (by with_reducible assumption) (by first | exact nsl_str _ | exact nsl_int _ _))))))) ⟨by omega, by have := K2.out; omega⟩).mono ?_
      rintro _ w4 ⟨⟨u4, rfl, l4, r4⟩, d4⟩
      have m4x : MK lo hi wr w4 := MK.trans (by (repeat' (first | (with_reducible exact MK.refl _ _ _) | (with_reducible assumption) | (with_reducible refine MK.setC ?_ g1 g2 (by with_reducible assumption) (by with_reducible assumption) (by first | exact nsl_str _ | exact nsl_int _ _))))) d4
      have hu4 : u4 ≤ 900000000 := by have := K2.out; omega
      clear d4
      have q4_7 := m4x.slice _ _ _ _ _ g1 g2 q3
      go_wp2_with fail
      refine (L_markClsMapS lo hi x.fMaps _ _ _ (S3.mk (sClsMap_mk lo hi) (by (repeat' (first | (with_reducible exact MK.refl _ _ _) | (with_reducible assumption) | (with_reducible refine MK.setC ?_ g1 g2 (by with_reducible assumption) (by with_reducible assumption) (by first | exact nsl_str _ | exact nsl_int _ _)))))) (Nat.le_trans hhr (MK.size (lo := lo) (hi := hi) (by (repeat' (first | (with_reducible exact MK.refl _ _ _) | (with_reducible assumption) | (with_reducible refine MK.setC ?_ g1 g2 (by with_reducible assumption) (by with_reducible assumption) (by first | exact nsl_str _ | exact nsl_int _ _))))))) ⟨by omega, by have := K2.out; omega⟩).mono ?_
      rintro _ w5 ⟨⟨u5, rfl, l5, r5⟩, d5⟩
      have m5x : MK lo hi wr w5 := MK.trans (by (repeat' (first | (with_reducible exact MK.refl _ _ _) | (with_reducible assumption) | (with_reducible refine MK.setC ?_ g1 g2 (by with_reducible assumption) (by with_reducible assumption) (by first | exact nsl_str _ | exact nsl_int _ _))))) d5
      have hu5 : u5 ≤ 900000000 := by have := K2.out; omega
      clear d5
      go_wp2
      go_roundw
      case measure => simp [intOf]; omega
      case rel => exact ⟨j + 1, _, by omega, by go_num, rfl, by omega, by omega, hm.trans (by (repeat' (first | (with_reducible exact MK.refl _ _ _) | (with_reducible assumption) | (with_reducible refine MK.setC ?_ g1 g2 (by with_reducible assumption) (by with_reducible assumption) (by first | exact nsl_str _ | exact nsl_int _ _)))))⟩
    · obtain rfl : j = len := by omega
      go_wp2
      all_goals (try go_returns)
      all_goals exact HR.out _ _ ⟨⟨_, rfl, hc1, by omega⟩, hm⟩

set_option maxRecDepth 100000 in
set_option maxHeartbeats 4000000 in
theorem L_markClsClassS (lo hi : Nat) (xs : List DClsClass) (v : Value) (k : Int) (w : World) (hv : Sh 4 (sClsClass lo hi) lo hi w v xs) (hh : hi ≤ w.heap.size) (hk : 1 ≤ k ∧ k + 8 * (wtS wtClsClass xs : Nat) ≤ 900000000) :
    Calls Tryz.prog 42 #[v, .int .i64 k] w fun e w' => (∃ c : Int, e = .returned (.int .i64 c) ∧ k ≤ c ∧ c ≤ k + 8 * (wtS wtClsClass xs : Nat)) ∧ MK lo hi w w' := by
  obtain ⟨a, len, cap, rfl, hl, h1, h2, h3⟩ := id hv
  have m1 : len ≤ 9223372036854775807 := by unfold maxLen at h2; omega
  obtain ⟨k1, k2⟩ := hk
  have HL := Lib.hid hl
  have K2 := Lib.hid k2
  clear h2 hl h1 k2
  refine calls_hide fun R HR => ?_
  go_enter Tryz.func42, Tryz.ntmps42
  go_wp2_with fail
  go_loopw [1, 5] (fun kv i wr => ∃ (j : Nat) (c : Int), j ≤ len ∧ i = .int .i64 j ∧ kv = .int .i64 c ∧ k ≤ c ∧ c ≤ k + 8 * ((j + ((xs.take j).map wtClsClass).sum : Nat) : Int) ∧ MK lo hi w wr) (fun _ i _ => len - (intOf i).toNat)
  case atStart => exact ⟨0, _, Nat.zero_le _, rfl, rfl, by omega, by first | (simp; done) | (simp; omega), MK.refl _ _ _⟩
  case round =>
    obtain ⟨j, c, hj, rfl, rfl, hc1, hc2, hm⟩ := hrel
    have hhr : hi ≤ wr.heap.size := Nat.le_trans hh hm.size
    have hta := wtS_take wtClsClass xs (j := j) (by have := HL.out; omega)
    have hc9 : c ≤ 900000000 := by have := K2.out; omega
    by_cases hlt : j < len
    · obtain ⟨b, off, rfl, g1, g2, gt, g3⟩ := h3 (by omega)
      obtain ⟨x, e0, hS⟩ := g3 j hlt
      have hw := take_wt wtClsClass e0
      have hta2 := wtS_take wtClsClass xs (j := j + 1) (by have := HL.out; omega)
      have hwx : 8 * wtS wtClsField x.fFields + 8 * wtS wtClsMethod x.fMethods ≤ 8 * wtClsClass x := by unfold wtClsClass; omega
      replace hS := sClsClass_mk lo hi _ _ _ _ _ g1 g2 hm hS
      have gtr := hm.there _ _ _ g1 g2 gt
      obtain ⟨hS, a1, n1, c1, a2, n2, c2, q1, S1, q2, S2⟩ := hS
      obtain ⟨y0, n0, p0⟩ := hS 0 (by simp)
      rw [Nat.add_zero] at p0
      have f0 : wr.frozen? ⟨b, off + j * 4, none⟩ = false := by have := (gtr (j * 4) (by omega)).2; exact this
      obtain ⟨y1, n1, p1⟩ := hS 1 (by simp)
      have f1 : wr.frozen? ⟨b, off + j * 4 + 1, none⟩ = false := by have := (gtr (j * 4 + 1) (by omega)).2; rw [← Nat.add_assoc] at this; exact this
      clear hS gtr g3 gt h3
      go_wp2_with fail
      refine (L_markText _ _ ⟨by omega, by omega⟩).mono ?_
      rintro _ w1 ⟨rfl, d1⟩
      have m1x : MK lo hi wr w1 := MK.call (by (repeat' (first | (with_reducible exact MK.refl _ _ _) | (with_reducible assumption) | (with_reducible refine MK.setC ?_ g1 g2 (by with_reducible assumption) (by with_reducible assumption) (by first | exact nsl_str _ | exact nsl_int _ _))))) d1 (Nat.le_trans hhr (MK.size (lo := lo) (hi := hi) (by (repeat' (first | (with_reducible exact MK.refl _ _ _) | (with_reducible assumption) | (with_reducible refine MK.setC ?_ g1 g2 (by with_reducible assumption) (by with_reducible assumption) (by first | exact nsl_str _ | exact nsl_int _ _)))))))
      clear d1
      obtain ⟨_, _, p1_0, f1_0⟩ := m1x.cellF g1 g2 n0 p0 f0
      go_wp2_with fail
      refine (L_markText _ _ ⟨by omega, by omega⟩).mono ?_
      rintro _ w2 ⟨rfl, d2⟩
      have m2x : MK lo hi wr w2 := MK.call (by (repeat' (first | (with_reducible exact MK.refl _ _ _) | (with_reducible assumption) | (with_reducible refine MK.setC ?_ g1 g2 (by with_reducible assumption) (by with_reducible assumption) (by first | exact nsl_str _ | exact nsl_int _ _))))) d2 (Nat.le_trans hhr (MK.size (lo := lo) (hi := hi) (by (repeat' (first | (with_reducible exact MK.refl _ _ _) | (with_reducible assumption) | (with_reducible refine MK.setC ?_ g1 g2 (by with_reducible assumption) (by with_reducible assumption) (by first | exact nsl_str _ | exact nsl_int _ _)))))))
      clear d2
      obtain ⟨_, _, p2_1, f2_1⟩ := m2x.cellF g1 g2 n1 p1 f1
      have q2_2 := m2x.slice _ _ _ _ _ g1 g2 q1
      go_wp2_with fail
      refine (L_markClsFieldS lo hi x.fFields _ _ _ (S1.mk (sClsField_mk lo hi) (by (repeat' (first | (with_reducible exact MK.refl _ _ _) | (with_reducible assumption) | (with_reducible refine MK.setC ?_ g1 g2 (by with_reducible assumption) (by with_reducible assumption) (by first | exact nsl_str _ | exact nsl_int _ _)))))) (Nat.le_trans hhr (MK.size (lo := lo) (hi := hi) (by (repeat' (first | (with_reducible exact MK.refl _ _ _) | (with_reducible assumption) | (with_reducible refine MK.setC ?_ g1 g2 (by with_reducible assumption) (by with_reducible assumption) (by first | exact nsl_str _ | exact nsl_int _ _))))))) ⟨by omega, by have := K2.out; omega⟩).mono ?_
      rintro _ w3 ⟨⟨u3, rfl, l3, r3⟩, d3⟩
      have m3x : MK lo hi wr w3 := MK.trans (by (repeat' (first | (with_reducible exact MK.refl _ _ _) | (with_reducible assumption) | (with_reducible refine MK.setC ?_ g1 g2 (by with_reducible assumption) (by with_reducible assumption) (by first | exact nsl_str _ | exact nsl_int _ _))))) d3
      have hu3 : u3 ≤ 900000000 := by have := K2.out; omega
      clear d3
      have q3_3 := m3x.slice _ _ _ _ _ g1 g2 q2
      go_wp2_with fail
      refine (L_markClsMethodS lo hi x.fMethods _ _ _ (S2.mk (sClsMethod_mk lo hi) (by (repeat' (first | (with_reducible exact MK.refl _ _ _) | (with_reducible assumption) | (with_reducible refine MK.setC ?_ g1 g2 (by with_reducible assumption) (by with_reducible assumption) (by first | exact nsl_str _ | exact nsl_int _ _)))))) (Nat.le_trans hhr (MK.size (lo := lo) (hi := hi) (by (repeat' (first | (with_reducible exact MK.refl _ _ _) | (with_reducible assumption) | (with_reducible refine MK.setC ?_ g1 g2 (by with_reducible assumption) (by with_reducible assumption) (by first | exact nsl_str _ | exact nsl_int _ _))))))) ⟨by omega, by have := K2.out; omega⟩).mono ?_
      rintro _ w4 ⟨⟨u4, rfl, l4, r4⟩, d4⟩
      have m4x : MK lo hi wr w4 := MK.trans (by (repeat' (first | (with_reducible exact MK.refl _ _ _) | (with_reducible assumption) | (with_reducible refine MK.setC ?_ g1 g2 (by with_reducible assumption) (by with_reducible assumption) (by first | exact nsl_str _ | exact nsl_int _ _))))) d4
      have hu4 : u4 ≤ 900000000 := by have := K2.out; omega
      clear d4
      go_wp2
      go_roundw
      case measure => simp [intOf]; omega
      case rel => exact ⟨j + 1, _, by omega, by go_num, rfl, by omega, by omega, hm.trans (by (repeat' (first | (with_reducible exact MK.refl _ _ _) | (with_reducible assumption) | (with_reducible refine MK.setC ?_ g1 g2 (by with_reducible assumption) (by with_reducible assumption) (by first | exact nsl_str _ | exact nsl_int _ _)))))⟩
    · obtain rfl : j = len := by omega
      go_wp2
      all_goals (try go_returns)
      all_goals exact HR.out _ _ ⟨⟨_, rfl, hc1, by omega⟩, hm⟩

set_option maxRecDepth 100000 in
set_option maxHeartbeats 4000000 in
theorem L_markLodAskS (lo hi : Nat) (xs : List DLodAsk) (v : Value) (k : Int) (w : World) (hv : Sh 2 (sLodAsk lo hi) lo hi w v xs) (hh : hi ≤ w.heap.size) (hk : 1 ≤ k ∧ k + 8 * (wtS wtLodAsk xs : Nat) ≤ 900000000) :
    Calls Tryz.prog 43 #[v, .int .i64 k] w fun e w' => (∃ c : Int, e = .returned (.int .i64 c) ∧ k ≤ c ∧ c ≤ k + 8 * (wtS wtLodAsk xs : Nat)) ∧ MK lo hi w w' := by
  obtain ⟨a, len, cap, rfl, hl, h1, h2, h3⟩ := id hv
  have m1 : len ≤ 9223372036854775807 := by unfold maxLen at h2; omega
  obtain ⟨k1, k2⟩ := hk
  have HL := Lib.hid hl
  have K2 := Lib.hid k2
  clear h2 hl h1 k2
  refine calls_hide fun R HR => ?_
  go_enter Tryz.func43, Tryz.ntmps43
  go_wp2_with fail
  go_loopw [1, 5] (fun kv i wr => ∃ (j : Nat) (c : Int), j ≤ len ∧ i = .int .i64 j ∧ kv = .int .i64 c ∧ k ≤ c ∧ c ≤ k + 8 * ((j + ((xs.take j).map wtLodAsk).sum : Nat) : Int) ∧ MK lo hi w wr) (fun _ i _ => len - (intOf i).toNat)
  case atStart => exact ⟨0, _, Nat.zero_le _, rfl, rfl, by omega, by first | (simp; done) | (simp; omega), MK.refl _ _ _⟩
  case round =>
    obtain ⟨j, c, hj, rfl, rfl, hc1, hc2, hm⟩ := hrel
    have hhr : hi ≤ wr.heap.size := Nat.le_trans hh hm.size
    have hta := wtS_take wtLodAsk xs (j := j) (by have := HL.out; omega)
    have hc9 : c ≤ 900000000 := by have := K2.out; omega
    by_cases hlt : j < len
    · obtain ⟨b, off, rfl, g1, g2, gt, g3⟩ := h3 (by omega)
      obtain ⟨x, e0, hS⟩ := g3 j hlt
      have hw := take_wt wtLodAsk e0
      have hta2 := wtS_take wtLodAsk xs (j := j + 1) (by have := HL.out; omega)
      replace hS := sLodAsk_mk lo hi _ _ _ _ _ g1 g2 hm hS
      have gtr := hm.there _ _ _ g1 g2 gt
      obtain ⟨y0, n0, p0⟩ := hS 0 (by simp)
      rw [Nat.add_zero] at p0
      have f0 : wr.frozen? ⟨b, off + j * 2, none⟩ = false := by have := (gtr (j * 2) (by omega)).2; exact this
      obtain ⟨y1, n1, p1⟩ := hS 1 (by simp)
      have f1 : wr.frozen? ⟨b, off + j * 2 + 1, none⟩ = false := by have := (gtr (j * 2 + 1) (by omega)).2; rw [← Nat.add_assoc] at this; exact this
      clear hS gtr g3 gt h3
      go_wp2_with fail
      refine (L_markText _ _ ⟨by omega, by omega⟩).mono ?_
      rintro _ w1 ⟨rfl, d1⟩
      have m1x : MK lo hi wr w1 := MK.call (by (repeat' (first | (with_reducible exact MK.refl _ _ _) | (with_reducible assumption) | (with_reducible refine MK.setC ?_ g1 g2 (by with_reducible assumption) (by with_reducible assumption) (by first | exact nsl_str _ | exact nsl_int _ _))))) d1 (Nat.le_trans hhr (MK.size (lo := lo) (hi := hi) (by (repeat' (first | (with_reducible exact MK.refl _ _ _) | (with_reducible assumption) | (with_reducible refine MK.setC ?_ g1 g2 (by with_reducible assumption) (by with_reducible assumption) (by first | exact nsl_str _ | exact nsl_int _ _)))))))
      clear d1
      obtain ⟨_, _, p1_0, f1_0⟩ := m1x.cellF g1 g2 n0 p0 f0
      obtain ⟨_, _, p1_1, f1_1⟩ := m1x.cellF g1 g2 n1 p1 f1
      go_wp2
      go_roundw
      case measure => simp [intOf]; omega
      case rel => exact ⟨j + 1, _, by omega, by go_num, rfl, by omega, by omega, hm.trans (by (repeat' (first | (with_reducible exact MK.refl _ _ _) | (with_reducible assumption) | (with_reducible refine MK.setC ?_ g1 g2 (by with_reducible assumption) (by with_reducible assumption) (by first | exact nsl_str _ | exact nsl_int _ _)))))⟩
    · obtain rfl : j = len := by omega
      go_wp2
      all_goals (try go_returns)
      all_goals exact HR.out _ _ ⟨⟨_, rfl, hc1, by omega⟩, hm⟩

set_option maxRecDepth 100000 in
set_option maxHeartbeats 4000000 in
theorem L_markLodKeeperS (lo hi : Nat) (xs : List DLodKeeper) (v : Value) (k : Int) (w : World) (hv : Sh 2 (sLodKeeper lo hi) lo hi w v xs) (hh : hi ≤ w.heap.size) (hk : 1 ≤ k ∧ k + 8 * (wtS wtLodKeeper xs : Nat) ≤ 900000000) :
    Calls Tryz.prog 26 #[v, .int .i64 k] w fun e w' => (∃ c : Int, e = .returned (.int .i64 c) ∧ k ≤ c ∧ c ≤ k + 8 * (wtS wtLodKeeper xs : Nat)) ∧ MK lo hi w w' := by
  obtain ⟨a, len, cap, rfl, hl, h1, h2, h3⟩ := id hv
  have m1 : len ≤ 9223372036854775807 := by unfold maxLen at h2; omega
  obtain ⟨k1, k2⟩ := hk
  have HL := Lib.hid hl
  have K2 := Lib.hid k2
  clear h2 hl h1 k2
  refine calls_hide fun R HR => ?_
  go_enter Tryz.func26, Tryz.ntmps26
  go_wp2_with fail
  go_loopw [1, 5] (fun kv i wr => ∃ (j : Nat) (c : Int), j ≤ len ∧ i = .int .i64 j ∧ kv = .int .i64 c ∧ k ≤ c ∧ c ≤ k + 8 * ((j + ((xs.take j).map wtLodKeeper).sum : Nat) : Int) ∧ MK lo hi w wr) (fun _ i _ => len - (intOf i).toNat)
  case atStart => exact ⟨0, _, Nat.zero_le _, rfl, rfl, by omega, by first | (simp; done) | (simp; omega), MK.refl _ _ _⟩
  case round =>
    obtain ⟨j, c, hj, rfl, rfl, hc1, hc2, hm⟩ := hrel
    have hhr : hi ≤ wr.heap.size := Nat.le_trans hh hm.size
    have hta := wtS_take wtLodKeeper xs (j := j) (by have := HL.out; omega)
    have hc9 : c ≤ 900000000 := by have := K2.out; omega
    by_cases hlt : j < len
    · obtain ⟨b, off, rfl, g1, g2, gt, g3⟩ := h3 (by omega)
      obtain ⟨x, e0, hS⟩ := g3 j hlt
      have hw := take_wt wtLodKeeper e0
      have hta2 := wtS_take wtLodKeeper xs (j := j + 1) (by have := HL.out; omega)
      have hwx : 8 * wtS wtClsClass x.fOwns + 8 * wtS wtLodAsk x.fAsks ≤ 8 * wtLodKeeper x := by unfold wtLodKeeper; omega
      replace hS := sLodKeeper_mk lo hi _ _ _ _ _ g1 g2 hm hS
      have gtr := hm.there _ _ _ g1 g2 gt
      obtain ⟨hS, a1, n1, c1, a2, n2, c2, q1, S1, q2, S2⟩ := hS
      rw [Nat.add_zero] at q1
      clear hS gtr g3 gt h3
      go_wp2_with fail
      refine (L_markClsClassS lo hi x.fOwns _ _ _ (S1.mk (sClsClass_mk lo hi) (by (repeat' (first | (with_reducible exact MK.refl _ _ _) | (with_reducible assumption) | (with_reducible refine MK.setC ?_ g1 g2 (by with_reducible assumption) (by with_reducible assumption) (by first | exact nsl_str _ | exact nsl_int _ _)))))) (Nat.le_trans hhr (MK.size (lo := lo) (hi := hi) (by (repeat' (first | (with_reducible exact MK.refl _ _ _) | (with_reducible assumption) | (with_reducible refine MK.setC ?_ g1 g2 (by with_reducible assumption) (by with_reducible assumption) (by first | exact nsl_str _ | exact nsl_int _ _))))))) ⟨by omega, by have := K2.out; omega⟩).mono ?_
      rintro _ w1 ⟨⟨u1, rfl, l1, r1⟩, d1⟩
      have m1x : MK lo hi wr w1 := MK.trans (by (repeat' (first | (with_reducible exact MK.refl _ _ _) | (with_reducible assumption) | (with_reducible refine MK.setC ?_ g1 g2 (by with_reducible assumption) (by with_reducible assumption) (by first | exact nsl_str _ | exact nsl_int _ _))))) d1
      have hu1 : u1 ≤ 900000000 := by have := K2.out; omega
      clear d1
      have q1_1 := m1x.slice _ _ _ _ _ g1 g2 q2
      go_wp2_with fail
      refine (L_markLodAskS lo hi x.fAsks _ _ _ (S2.mk (sLodAsk_mk lo hi) (by (repeat' (first | (with_reducible exact MK.refl _ _ _) | (with_reducible assumption) | (with_reducible refine MK.setC ?_ g1 g2 (by with_reducible assumption) (by with_reducible assumption) (by first | exact nsl_str _ | exact nsl_int _ _)))))) (Nat.le_trans hhr (MK.size (lo := lo) (hi := hi) (by (repeat' (first | (with_reducible exact MK.refl _ _ _) | (with_reducible assumption) | (with_reducible refine MK.setC ?_ g1 g2 (by with_reducible assumption) (by with_reducible assumption) (by first | exact nsl_str _ | exact nsl_int _ _))))))) ⟨by omega, by have := K2.out; omega⟩).mono ?_
      rintro _ w2 ⟨⟨u2, rfl, l2, r2⟩, d2⟩
      have m2x : MK lo hi wr w2 := MK.trans (by (repeat' (first | (with_reducible exact MK.refl _ _ _) | (with_reducible assumption) | (with_reducible refine MK.setC ?_ g1 g2 (by with_reducible assumption) (by with_reducible assumption) (by first | exact nsl_str _ | exact nsl_int _ _))))) d2
      have hu2 : u2 ≤ 900000000 := by have := K2.out; omega
      clear d2
      go_wp2
      go_roundw
      case measure => simp [intOf]; omega
      case rel => exact ⟨j + 1, _, by omega, by go_num, rfl, by omega, by omega, hm.trans (by (repeat' (first | (with_reducible exact MK.refl _ _ _) | (with_reducible assumption) | (with_reducible refine MK.setC ?_ g1 g2 (by with_reducible assumption) (by with_reducible assumption) (by first | exact nsl_str _ | exact nsl_int _ _)))))⟩
    · obtain rfl : j = len := by omega
      go_wp2
      all_goals (try go_returns)
      all_goals exact HR.out _ _ ⟨⟨_, rfl, hc1, by omega⟩, hm⟩

set_option maxHeartbeats 2000000 in
theorem L_markLodPlan (lo hi : Nat) (x : DLodPlan) (v1 : Value) (k : Int) (w : World) (hv : Sh 2 (sLodKeeper lo hi) lo hi w v1 x.fKeepers) (hh : hi ≤ w.heap.size) (hk : 1 ≤ k ∧ k + 8 * (wtLodPlan x : Nat) ≤ 900000000) :
    Calls Tryz.prog 13 #[.agg #[v1], .int .i64 k] w fun e w' => (∃ c : Int, e = .returned (.int .i64 c) ∧ k ≤ c) ∧ MK lo hi w w' := by
  obtain ⟨a, n, c, rfl⟩ := hv.form
  have K := Lib.hid hk
  unfold wtLodPlan at hk
  obtain ⟨k1, k2⟩ := hk
  have K2 := Lib.hid k2
  clear k2
  refine calls_hide fun R HR => ?_
  go_enter Tryz.func13, Tryz.ntmps13
  go_wp2_with fail
  obtain ⟨w1, hw1⟩ : ∃ w1, w1 = w.alloc (.cells #[.slice a n c] 33) := ⟨_, rfl⟩
  rw [← hw1]
  have hb : Below w.heap.size w w1 := by rw [hw1]; (repeat' (first | (with_reducible exact Below.refl _ _) | (with_reducible refine Below.alloc ?_ ?_ _) | (with_reducible refine Below.setCell ?_ ?_ _) | (with_reducible refine Below.drew ?_) | (refine below_hyp (by assumption) ?_ ?_) | go_size))
  have hm := MK.of_below (lo := lo) hb hh
  refine (L_markLodKeeperS lo hi x.fKeepers _ _ _ (hv.mk (sLodKeeper_mk lo hi) hm) (Nat.le_trans hh hb.size) ⟨k1, K2.out⟩).mono ?_
  rintro _ w2 ⟨⟨u, rfl, l2, r2⟩, d2⟩
  clear hw1
  go_wp2
  all_goals (try go_returns)
  all_goals exact HR.out _ _ ⟨⟨_, rfl, l2⟩, hm.trans d2⟩

end Go.Proofs.YtmmlhnjmjmbfpaaGreat

/-
  The walks of the copies: what they give may be written. Condition: the data can be read. (Printed by gen_mark.py, a program of the prover of this repo.)
-/
namespace Go.Proofs.YtmmlhnjmjmbfpaaGreat
set_option linter.unusedSimpArgs false
set_option linter.unusedVariables false
open Go.RowKit

set_option maxHeartbeats 2000000 in
theorem L_toKndKindSO (xs : List DKndKind) (v : Value) (w : World) (hv : Sl 2 rKndKind 0 w v xs) (hs : xs.length ≤ 1048576) :
    Calls Tryz.prog 107 #[v] w fun e w' => (∃ v', e = .returned v' ∧ SlO 2 oKndKind w.heap.size w' v' xs) ∧ Below w.heap.size w w' := by
  obtain ⟨a, len, cap, rfl, hl, h1, h2, h3⟩ := id hv
  have hs' : len ≤ 1048576 := by omega
  have hmk := make_rows (P := Tryz.prog) w 117 113 (.agg #[.int .i64 0, .string ⟨#[]⟩]) 2 24 (by kernel_rfl) (by kernel_rfl) (by omega) len hs'
  have hP := Part.start (k := 2) (R := oKndKind) (w := w) (len := len) (xs := xs) (Value.cells (.agg #[.int .i64 0, .string ⟨#[]⟩])) 113
  have hB : Below w.heap.size w (w.alloc (.cells (madeCells (Value.cells (.agg #[.int .i64 0, .string ⟨#[]⟩])) (len * 2)) 113)) := by (repeat' (first | (with_reducible exact Below.refl _ _) | (with_reducible refine Below.alloc ?_ ?_ _) | (with_reducible refine Below.setCell ?_ ?_ _) | (with_reducible refine Below.drew ?_) | (refine below_hyp (by assumption) ?_ ?_) | go_size))
  have m1 : len ≤ 9223372036854775807 := by omega
  have m2 : len ≤ maxLen := by unfold maxLen; omega
  have hsz : (w.alloc (.cells (madeCells (Value.cells (.agg #[.int .i64 0, .string ⟨#[]⟩])) (len * 2)) 113)).heap.size = w.heap.size + 1 := by simp
  generalize w.alloc (.cells (madeCells (Value.cells (.agg #[.int .i64 0, .string ⟨#[]⟩])) (len * 2)) 113) = wm at *
  have HL := Lib.hid hl
  have H1 := Lib.hid h1
  have HS := Lib.hid hs'
  have M2 := Lib.hid m2
  clear h2 hl h1 hs hs' m2
  refine calls_hide fun R HR => ?_
  go_enter Tryz.func107, Tryz.ntmps107
  go_wp2_with fail
  go_loopw [4] (fun i wr => ∃ k : Nat, k ≤ len ∧ i = .int .i64 k ∧ Below w.heap.size w wr ∧ Part 2 oKndKind wr w.heap.size len k xs) (fun i _ => len - (intOf i).toNat)
  case atStart => exact ⟨0, Nat.zero_le _, rfl, hB, hP⟩
  case round =>
    clear hmk hP hB hsz
    obtain ⟨k, hk, rfl, hb, hp⟩ := hrel
    by_cases hlt : k < len
    · obtain ⟨b, off, rfl, hlo, hbl, hr⟩ := h3.stays rKndKind_good (Keeps.of_below hb) (by omega)
      obtain ⟨x, cs, e0, e1, e2, e3⟩ := hr k hlt
      obtain ⟨rfl, b1⟩ := e3
      have q1 : wr.cell? ⟨b, off + k * 2, none⟩ = some (.int .i64 x.fKind) := e2 0 _ rfl
      have q2 : wr.cell? ⟨b, off + k * 2 + 1, none⟩ = some (.string x.fName) := e2 1 _ rfl
      have hbx := hb.size
      have hpl := hp.lt
      clear e1 e2 hr
      go_wp2_with fail
      refine (L_toKndKind x _).mono ?_
      rintro _ wA ⟨rfl, hA⟩
      have hz := hA.size
      have hp' := hp.below oKndKind_good hA
      have t00 := hp'.there (k * 2) (by omega)
      rw [Nat.zero_add] at t00
      obtain ⟨u00, hu0⟩ := Option.isSome_iff_exists.1 t00.1
      have hf0 := t00.2
      have t01 := hp'.there (k * 2 + 1) (by omega)
      rw [Nat.zero_add] at t01
      obtain ⟨u01, hu1⟩ := Option.isSome_iff_exists.1 t01.1
      have hf1 := t01.2
      clear t00 t01 q1 q2
      have h7 := hp'.step oKndKind_good hlt e0 (cs := [.int .i64 x.fKind, .string x.fName]) rfl ⟨rfl, b1⟩
      simp only [World.setCells, Nat.add_assoc, Nat.reduceAdd] at h7
      have H7 := Lib.hid h7
      clear h7
      go_wp2
      go_roundw
      case measure => simp [intOf]; omega
      case rel => exact ⟨k + 1, by omega, by go_num, by (repeat' (first | (with_reducible exact Below.refl _ _) | (with_reducible refine Below.alloc ?_ ?_ _) | (with_reducible refine Below.setCell ?_ ?_ _) | (with_reducible refine Below.drew ?_) | (refine below_hyp (by assumption) ?_ ?_) | go_size)), H7.out⟩
    · obtain rfl : k = len := by omega
      go_wp2
      all_goals (try go_returns)
      all_goals exact HR.out _ _ ⟨⟨_, rfl, hp.doneO oKndKind_good HL.out M2.out⟩, by (repeat' (first | (with_reducible exact Below.refl _ _) | (with_reducible refine Below.alloc ?_ ?_ _) | (with_reducible refine Below.setCell ?_ ?_ _) | (with_reducible refine Below.drew ?_) | (refine below_hyp (by assumption) ?_ ?_) | go_size))⟩

set_option maxHeartbeats 2000000 in
theorem L_toClsFieldSO (xs : List DClsField) (v : Value) (w : World) (hv : Sl 3 rClsField 0 w v xs) (hs : xs.length ≤ 1048576) :
    Calls Tryz.prog 82 #[v] w fun e w' => (∃ v', e = .returned v' ∧ SlO 3 oClsField w.heap.size w' v' xs) ∧ Below w.heap.size w w' := by
  obtain ⟨a, len, cap, rfl, hl, h1, h2, h3⟩ := id hv
  have hs' : len ≤ 1048576 := by omega
  have hmk := make_rows (P := Tryz.prog) w 66 115 (.agg #[.string ⟨#[]⟩, .int .i64 0, .string ⟨#[]⟩]) 3 40 (by kernel_rfl) (by kernel_rfl) (by omega) len hs'
  have hP := Part.start (k := 3) (R := oClsField) (w := w) (len := len) (xs := xs) (Value.cells (.agg #[.string ⟨#[]⟩, .int .i64 0, .string ⟨#[]⟩])) 115
  have hB : Below w.heap.size w (w.alloc (.cells (madeCells (Value.cells (.agg #[.string ⟨#[]⟩, .int .i64 0, .string ⟨#[]⟩])) (len * 3)) 115)) := by (repeat' (first | (with_reducible exact Below.refl _ _) | (with_reducible refine Below.alloc ?_ ?_ _) | (with_reducible refine Below.setCell ?_ ?_ _) | (with_reducible refine Below.drew ?_) | (refine below_hyp (by assumption) ?_ ?_) | go_size))
  have m1 : len ≤ 9223372036854775807 := by omega
  have m2 : len ≤ maxLen := by unfold maxLen; omega
  have hsz : (w.alloc (.cells (madeCells (Value.cells (.agg #[.string ⟨#[]⟩, .int .i64 0, .string ⟨#[]⟩])) (len * 3)) 115)).heap.size = w.heap.size + 1 := by simp
  generalize w.alloc (.cells (madeCells (Value.cells (.agg #[.string ⟨#[]⟩, .int .i64 0, .string ⟨#[]⟩])) (len * 3)) 115) = wm at *
  have HL := Lib.hid hl
  have H1 := Lib.hid h1
  have HS := Lib.hid hs'
  have M2 := Lib.hid m2
  clear h2 hl h1 hs hs' m2
  refine calls_hide fun R HR => ?_
  go_enter Tryz.func82, Tryz.ntmps82
  go_wp2_with fail
  go_loopw [4] (fun i wr => ∃ k : Nat, k ≤ len ∧ i = .int .i64 k ∧ Below w.heap.size w wr ∧ Part 3 oClsField wr w.heap.size len k xs) (fun i _ => len - (intOf i).toNat)
  case atStart => exact ⟨0, Nat.zero_le _, rfl, hB, hP⟩
  case round =>
    clear hmk hP hB hsz
    obtain ⟨k, hk, rfl, hb, hp⟩ := hrel
    by_cases hlt : k < len
    · obtain ⟨b, off, rfl, hlo, hbl, hr⟩ := h3.stays rClsField_good (Keeps.of_below hb) (by omega)
      obtain ⟨x, cs, e0, e1, e2, e3⟩ := hr k hlt
      obtain ⟨rfl, b1, b2⟩ := e3
      have q1 : wr.cell? ⟨b, off + k * 3, none⟩ = some (.string x.fName) := e2 0 _ rfl
      have q2 : wr.cell? ⟨b, off + k * 3 + 1, none⟩ = some (.int .i64 x.fKind.fKind) := e2 1 _ rfl
      have q3 : wr.cell? ⟨b, off + k * 3 + 2, none⟩ = some (.string x.fKind.fName) := e2 2 _ rfl
      have hbx := hb.size
      have hpl := hp.lt
      clear e1 e2 hr
      go_wp2_with fail
      refine (L_toClsField x _).mono ?_
      rintro _ wA ⟨rfl, hA⟩
      have hz := hA.size
      have hp' := hp.below oClsField_good hA
      have t00 := hp'.there (k * 3) (by omega)
      rw [Nat.zero_add] at t00
      obtain ⟨u00, hu0⟩ := Option.isSome_iff_exists.1 t00.1
      have hf0 := t00.2
      have t01 := hp'.there (k * 3 + 1) (by omega)
      rw [Nat.zero_add] at t01
      obtain ⟨u01, hu1⟩ := Option.isSome_iff_exists.1 t01.1
      have hf1 := t01.2
      have t02 := hp'.there (k * 3 + 2) (by omega)
      rw [Nat.zero_add] at t02
      obtain ⟨u02, hu2⟩ := Option.isSome_iff_exists.1 t02.1
      have hf2 := t02.2
      clear t00 t01 t02 q1 q2 q3
      have h7 := hp'.step oClsField_good hlt e0 (cs := [.string x.fName, .int .i64 x.fKind.fKind, .string x.fKind.fName]) rfl ⟨rfl, b1, b2⟩
      simp only [World.setCells, Nat.add_assoc, Nat.reduceAdd] at h7
      have H7 := Lib.hid h7
      clear h7
      go_wp2
      go_roundw
      case measure => simp [intOf]; omega
      case rel => exact ⟨k + 1, by omega, by go_num, by (repeat' (first | (with_reducible exact Below.refl _ _) | (with_reducible refine Below.alloc ?_ ?_ _) | (with_reducible refine Below.setCell ?_ ?_ _) | (with_reducible refine Below.drew ?_) | (refine below_hyp (by assumption) ?_ ?_) | go_size)), H7.out⟩
    · obtain rfl : k = len := by omega
      go_wp2
      all_goals (try go_returns)
      all_goals exact HR.out _ _ ⟨⟨_, rfl, hp.doneO oClsField_good HL.out M2.out⟩, by (repeat' (first | (with_reducible exact Below.refl _ _) | (with_reducible refine Below.alloc ?_ ?_ _) | (with_reducible refine Below.setCell ?_ ?_ _) | (with_reducible refine Below.drew ?_) | (refine below_hyp (by assumption) ?_ ?_) | go_size))⟩

set_option maxHeartbeats 2000000 in
theorem L_toClsInsSO (xs : List DClsIns) (v : Value) (w : World) (hv : Sl 4 rClsIns 0 w v xs) (hs : xs.length ≤ 1048576) :
    Calls Tryz.prog 108 #[v] w fun e w' => (∃ v', e = .returned v' ∧ SlO 4 oClsIns w.heap.size w' v' xs) ∧ Below w.heap.size w w' := by
  obtain ⟨a, len, cap, rfl, hl, h1, h2, h3⟩ := id hv
  have hs' : len ≤ 1048576 := by omega
  have hmk := make_rows (P := Tryz.prog) w 118 147 (.agg #[.int .i64 0, .int .i64 0, .string ⟨#[]⟩, .string ⟨#[]⟩]) 4 48 (by kernel_rfl) (by kernel_rfl) (by omega) len hs'
  have hP := Part.start (k := 4) (R := oClsIns) (w := w) (len := len) (xs := xs) (Value.cells (.agg #[.int .i64 0, .int .i64 0, .string ⟨#[]⟩, .string ⟨#[]⟩])) 147
  have hB : Below w.heap.size w (w.alloc (.cells (madeCells (Value.cells (.agg #[.int .i64 0, .int .i64 0, .string ⟨#[]⟩, .string ⟨#[]⟩])) (len * 4)) 147)) := by (repeat' (first | (with_reducible exact Below.refl _ _) | (with_reducible refine Below.alloc ?_ ?_ _) | (with_reducible refine Below.setCell ?_ ?_ _) | (with_reducible refine Below.drew ?_) | (refine below_hyp (by assumption) ?_ ?_) | go_size))
  have m1 : len ≤ 9223372036854775807 := by omega
  have m2 : len ≤ maxLen := by unfold maxLen; omega
  have hsz : (w.alloc (.cells (madeCells (Value.cells (.agg #[.int .i64 0, .int .i64 0, .string ⟨#[]⟩, .string ⟨#[]⟩])) (len * 4)) 147)).heap.size = w.heap.size + 1 := by simp
  generalize w.alloc (.cells (madeCells (Value.cells (.agg #[.int .i64 0, .int .i64 0, .string ⟨#[]⟩, .string ⟨#[]⟩])) (len * 4)) 147) = wm at *
  have HL := Lib.hid hl
  have H1 := Lib.hid h1
  have HS := Lib.hid hs'
  have M2 := Lib.hid m2
  clear h2 hl h1 hs hs' m2
  refine calls_hide fun R HR => ?_
  go_enter Tryz.func108, Tryz.ntmps108
  go_wp2_with fail
  go_loopw [4] (fun i wr => ∃ k : Nat, k ≤ len ∧ i = .int .i64 k ∧ Below w.heap.size w wr ∧ Part 4 oClsIns wr w.heap.size len k xs) (fun i _ => len - (intOf i).toNat)
  case atStart => exact ⟨0, Nat.zero_le _, rfl, hB, hP⟩
  case round =>
    clear hmk hP hB hsz
    obtain ⟨k, hk, rfl, hb, hp⟩ := hrel
    by_cases hlt : k < len
    · obtain ⟨b, off, rfl, hlo, hbl, hr⟩ := h3.stays rClsIns_good (Keeps.of_below hb) (by omega)
      obtain ⟨x, cs, e0, e1, e2, e3⟩ := hr k hlt
      obtain ⟨rfl, b1, b2⟩ := e3
      have q1 : wr.cell? ⟨b, off + k * 4, none⟩ = some (.int .i64 x.fOp) := e2 0 _ rfl
      have q2 : wr.cell? ⟨b, off + k * 4 + 1, none⟩ = some (.int .i64 x.fA) := e2 1 _ rfl
      have q3 : wr.cell? ⟨b, off + k * 4 + 2, none⟩ = some (.string x.fName) := e2 2 _ rfl
      have q4 : wr.cell? ⟨b, off + k * 4 + 3, none⟩ = some (.string x.fMember) := e2 3 _ rfl
      have hbx := hb.size
      have hpl := hp.lt
      clear e1 e2 hr
      go_wp2_with fail
      refine (L_toClsIns x _).mono ?_
      rintro _ wA ⟨rfl, hA⟩
      have hz := hA.size
      have hp' := hp.below oClsIns_good hA
      have t00 := hp'.there (k * 4) (by omega)
      rw [Nat.zero_add] at t00
      obtain ⟨u00, hu0⟩ := Option.isSome_iff_exists.1 t00.1
      have hf0 := t00.2
      have t01 := hp'.there (k * 4 + 1) (by omega)
      rw [Nat.zero_add] at t01
      obtain ⟨u01, hu1⟩ := Option.isSome_iff_exists.1 t01.1
      have hf1 := t01.2
      have t02 := hp'.there (k * 4 + 2) (by omega)
      rw [Nat.zero_add] at t02
      obtain ⟨u02, hu2⟩ := Option.isSome_iff_exists.1 t02.1
      have hf2 := t02.2
      have t03 := hp'.there (k * 4 + 3) (by omega)
      rw [Nat.zero_add] at t03
      obtain ⟨u03, hu3⟩ := Option.isSome_iff_exists.1 t03.1
      have hf3 := t03.2
      clear t00 t01 t02 t03 q1 q2 q3 q4
      have h7 := hp'.step oClsIns_good hlt e0 (cs := [.int .i64 x.fOp, .int .i64 x.fA, .string x.fName, .string x.fMember]) rfl ⟨rfl, b1, b2⟩
      simp only [World.setCells, Nat.add_assoc, Nat.reduceAdd] at h7
      have H7 := Lib.hid h7
      clear h7
      go_wp2
      go_roundw
      case measure => simp [intOf]; omega
      case rel => exact ⟨k + 1, by omega, by go_num, by (repeat' (first | (with_reducible exact Below.refl _ _) | (with_reducible refine Below.alloc ?_ ?_ _) | (with_reducible refine Below.setCell ?_ ?_ _) | (with_reducible refine Below.drew ?_) | (refine below_hyp (by assumption) ?_ ?_) | go_size)), H7.out⟩
    · obtain rfl : k = len := by omega
      go_wp2
      all_goals (try go_returns)
      all_goals exact HR.out _ _ ⟨⟨_, rfl, hp.doneO oClsIns_good HL.out M2.out⟩, by (repeat' (first | (with_reducible exact Below.refl _ _) | (with_reducible refine Below.alloc ?_ ?_ _) | (with_reducible refine Below.setCell ?_ ?_ _) | (with_reducible refine Below.drew ?_) | (refine below_hyp (by assumption) ?_ ?_) | go_size))⟩

set_option maxHeartbeats 2000000 in
theorem L_toTagTagSO (xs : List DTagTag) (v : Value) (w : World) (hv : Sl 2 rTagTag 0 w v xs) (hs : xs.length ≤ 1048576) :
    Calls Tryz.prog 127 #[v] w fun e w' => (∃ v', e = .returned v' ∧ SlO 2 oTagTag w.heap.size w' v' xs) ∧ Below w.heap.size w w' := by
  obtain ⟨a, len, cap, rfl, hl, h1, h2, h3⟩ := id hv
  have hs' : len ≤ 1048576 := by omega
  have hmk := make_rows (P := Tryz.prog) w 148 172 (.agg #[.int .i64 0, .string ⟨#[]⟩]) 2 24 (by kernel_rfl) (by kernel_rfl) (by omega) len hs'
  have hP := Part.start (k := 2) (R := oTagTag) (w := w) (len := len) (xs := xs) (Value.cells (.agg #[.int .i64 0, .string ⟨#[]⟩])) 172
  have hB : Below w.heap.size w (w.alloc (.cells (madeCells (Value.cells (.agg #[.int .i64 0, .string ⟨#[]⟩])) (len * 2)) 172)) := by (repeat' (first | (with_reducible exact Below.refl _ _) | (with_reducible refine Below.alloc ?_ ?_ _) | (with_reducible refine Below.setCell ?_ ?_ _) | (with_reducible refine Below.drew ?_) | (refine below_hyp (by assumption) ?_ ?_) | go_size))
  have m1 : len ≤ 9223372036854775807 := by omega
  have m2 : len ≤ maxLen := by unfold maxLen; omega
  have hsz : (w.alloc (.cells (madeCells (Value.cells (.agg #[.int .i64 0, .string ⟨#[]⟩])) (len * 2)) 172)).heap.size = w.heap.size + 1 := by simp
  generalize w.alloc (.cells (madeCells (Value.cells (.agg #[.int .i64 0, .string ⟨#[]⟩])) (len * 2)) 172) = wm at *
  have HL := Lib.hid hl
  have H1 := Lib.hid h1
  have HS := Lib.hid hs'
  have M2 := Lib.hid m2
  clear h2 hl h1 hs hs' m2
  refine calls_hide fun R HR => ?_
  go_enter Tryz.func127, Tryz.ntmps127
  go_wp2_with fail
  go_loopw [4] (fun i wr => ∃ k : Nat, k ≤ len ∧ i = .int .i64 k ∧ Below w.heap.size w wr ∧ Part 2 oTagTag wr w.heap.size len k xs) (fun i _ => len - (intOf i).toNat)
  case atStart => exact ⟨0, Nat.zero_le _, rfl, hB, hP⟩
  case round =>
    clear hmk hP hB hsz
    obtain ⟨k, hk, rfl, hb, hp⟩ := hrel
    by_cases hlt : k < len
    · obtain ⟨b, off, rfl, hlo, hbl, hr⟩ := h3.stays rTagTag_good (Keeps.of_below hb) (by omega)
      obtain ⟨x, cs, e0, e1, e2, e3⟩ := hr k hlt
      obtain ⟨rfl, b1⟩ := e3
      have q1 : wr.cell? ⟨b, off + k * 2, none⟩ = some (.int .i64 x.fKind) := e2 0 _ rfl
      have q2 : wr.cell? ⟨b, off + k * 2 + 1, none⟩ = some (.string x.fName) := e2 1 _ rfl
      have hbx := hb.size
      have hpl := hp.lt
      clear e1 e2 hr
      go_wp2_with fail
      refine (L_toTagTag x _).mono ?_
      rintro _ wA ⟨rfl, hA⟩
      have hz := hA.size
      have hp' := hp.below oTagTag_good hA
      have t00 := hp'.there (k * 2) (by omega)
      rw [Nat.zero_add] at t00
      obtain ⟨u00, hu0⟩ := Option.isSome_iff_exists.1 t00.1
      have hf0 := t00.2
      have t01 := hp'.there (k * 2 + 1) (by omega)
      rw [Nat.zero_add] at t01
      obtain ⟨u01, hu1⟩ := Option.isSome_iff_exists.1 t01.1
      have hf1 := t01.2
      clear t00 t01 q1 q2
      have h7 := hp'.step oTagTag_good hlt e0 (cs := [.int .i64 x.fKind, .string x.fName]) rfl ⟨rfl, b1⟩
      simp only [World.setCells, Nat.add_assoc, Nat.reduceAdd] at h7
      have H7 := Lib.hid h7
      clear h7
      go_wp2
      go_roundw
      case measure => simp [intOf]; omega
      case rel => exact ⟨k + 1, by omega, by go_num, by (repeat' (first | (with_reducible exact Below.refl _ _) | (with_reducible refine Below.alloc ?_ ?_ _) | (with_reducible refine Below.setCell ?_ ?_ _) | (with_reducible refine Below.drew ?_) | (refine below_hyp (by assumption) ?_ ?_) | go_size)), H7.out⟩
    · obtain rfl : k = len := by omega
      go_wp2
      all_goals (try go_returns)
      all_goals exact HR.out _ _ ⟨⟨_, rfl, hp.doneO oTagTag_good HL.out M2.out⟩, by (repeat' (first | (with_reducible exact Below.refl _ _) | (with_reducible refine Below.alloc ?_ ?_ _) | (with_reducible refine Below.setCell ?_ ?_ _) | (with_reducible refine Below.drew ?_) | (refine below_hyp (by assumption) ?_ ?_) | go_size))⟩

set_option maxHeartbeats 2000000 in
theorem L_toClsMapO (x : DClsMap) (v1 v2 : Value) (w : World) (s1 : Sl 2 rTagTag 0 w v1 x.fLocals) (s2 : Sl 2 rTagTag 0 w v2 x.fStack) (hw : wtClsMap x ≤ 1048576) :
    Calls Tryz.prog 122 #[.agg #[.int .i64 x.fAt, v1, v2]] w fun e w' => (∃ y1 y2 : Value, e = .returned (.agg #[.int .i64 x.fAt, y1, y2]) ∧ SlO 2 oTagTag w.heap.size w' y1 x.fLocals ∧ SlO 2 oTagTag w.heap.size w' y2 x.fStack) ∧ Below w.heap.size w w' := by
  obtain ⟨na1, nl1, nc1, rfl⟩ := s1.form
  obtain ⟨na2, nl2, nc2, rfl⟩ := s2.form
  unfold wtClsMap at hw
  have HW := Lib.hid hw
  clear hw
  refine calls_hide fun R HR => ?_
  go_enter Tryz.func122, Tryz.ntmps122
  go_wp2_with fail
  refine (L_toTagTagSO x.fLocals _ _ (s1.stays rTagTag_good (Keeps.of_below' (B := w.heap.size) (by (repeat' (first | (with_reducible exact Below.refl _ _) | (with_reducible refine Below.alloc ?_ ?_ _) | (with_reducible refine Below.setCell ?_ ?_ _) | (with_reducible refine Below.drew ?_) | (refine below_hyp (by assumption) ?_ ?_) | go_size))) (Nat.le_refl _))) (by have := HW.out; first | omega | (have h9 := wtS_len wtTagTag x.fLocals; omega))).mono ?_
  rintro _ w1 ⟨⟨y1, rfl, t1⟩, g1⟩
  obtain ⟨ya1, yl1, yc1, rfl⟩ := t1.form
  have g1s := (g1).size; (try simp only [World.size_alloc, World.size_setCell, World.size_drew] at g1s)
  obtain ⟨g1ac, g1ad, g1ao, g1af, g1ag, g1ap, g1az, g1ax, g1ay⟩ := bfacts (n := w.heap.size) (k := 3) g1 (by go_size) (by go_size); replace g1ad := g1ad (by decide); replace g1ag := g1ag (by decide); replace g1ax := g1ax (by decide); have g1ac1 := fun o => g1ac 1 o (by decide); have g1af1 := fun o => g1af 1 o (by decide); have g1az1 := g1az 1 (by decide); have g1ac2 := fun o => g1ac 2 o (by decide); have g1af2 := fun o => g1af 2 o (by decide); have g1az2 := g1az 2 (by decide); clear g1ac g1af g1az
  go_wp2_with fail
  refine (L_toTagTagSO x.fStack _ _ (s2.stays rTagTag_good (Keeps.of_below' (B := w.heap.size) (by (repeat' (first | (with_reducible exact Below.refl _ _) | (with_reducible refine Below.alloc ?_ ?_ _) | (with_reducible refine Below.setCell ?_ ?_ _) | (with_reducible refine Below.drew ?_) | (refine below_hyp (by assumption) ?_ ?_) | go_size))) (Nat.le_refl _))) (by have := HW.out; first | omega | (have h9 := wtS_len wtTagTag x.fStack; omega))).mono ?_
  rintro _ w2 ⟨⟨y2, rfl, t2⟩, g2⟩
  obtain ⟨ya2, yl2, yc2, rfl⟩ := t2.form
  have g2s := (g2).size; (try simp only [World.size_alloc, World.size_setCell, World.size_drew] at g2s)
  obtain ⟨g2ac, g2ad, g2ao, g2af, g2ag, g2ap, g2az, g2ax, g2ay⟩ := bfacts (n := w.heap.size) (k := 3) g2 (by go_size) (by go_size); replace g2ad := g2ad (by decide); replace g2ag := g2ag (by decide); replace g2ax := g2ax (by decide); have g2ac1 := fun o => g2ac 1 o (by decide); have g2af1 := fun o => g2af 1 o (by decide); have g2az1 := g2az 1 (by decide); have g2ac2 := fun o => g2ac 2 o (by decide); have g2af2 := fun o => g2af 2 o (by decide); have g2az2 := g2az 2 (by decide); clear g2ac g2af g2az
  go_wp2
  all_goals
    refine bodyPost_ret (v := ?_) ?hrun rfl ?_
    case hrun => (simp only [results, Tryz.results122]; go_simp; first | done | exact rfl)
    exact HR.out _ _ ⟨⟨_, _, rfl, (t1.stays oTagTag_good (by (repeat' (first | (with_reducible exact Keeps.refl _ _) | (with_reducible refine Keeps.alloc ?_ _) | (with_reducible refine Keeps.setCell ?_ ?_ _) | (with_reducible refine Keeps.drew ?_) | (refine keeps_hyp (by assumption) ?_ ?_) | go_size)))).low oTagTag_good (by go_size), (t2.stays oTagTag_good (by (repeat' (first | (with_reducible exact Keeps.refl _ _) | (with_reducible refine Keeps.alloc ?_ _) | (with_reducible refine Keeps.setCell ?_ ?_ _) | (with_reducible refine Keeps.drew ?_) | (refine keeps_hyp (by assumption) ?_ ?_) | go_size)))).low oTagTag_good (by go_size)⟩, by (repeat' (first | (with_reducible exact Below.refl _ _) | (with_reducible refine Below.alloc ?_ ?_ _) | (with_reducible refine Below.setCell ?_ ?_ _) | (with_reducible refine Below.drew ?_) | (refine below_hyp (by assumption) ?_ ?_) | go_size))⟩

set_option maxHeartbeats 2000000 in
theorem L_toClsMapSO (xs : List DClsMap) (v : Value) (w : World) (hv : Sl 3 rClsMap 0 w v xs) (hs : wtS wtClsMap xs ≤ 1048576) :
    Calls Tryz.prog 109 #[v] w fun e w' => (∃ v', e = .returned v' ∧ SlO 3 oClsMap w.heap.size w' v' xs) ∧ Below w.heap.size w w' := by
  obtain ⟨a, len, cap, rfl, hl, h1, h2, h3⟩ := id hv
  have hs0 := wtS_len wtClsMap xs
  have HSW := Lib.hid hs
  have hs' : len ≤ 1048576 := by omega
  clear hs0
  have hmk := make_rows (P := Tryz.prog) w 119 150 (.agg #[.int .i64 0, .slice none 0 0, .slice none 0 0]) 3 56 (by kernel_rfl) (by kernel_rfl) (by omega) len hs'
  have hP := Part.start (k := 3) (R := oClsMap) (w := w) (len := len) (xs := xs) (Value.cells (.agg #[.int .i64 0, .slice none 0 0, .slice none 0 0])) 150
  have hB : Below w.heap.size w (w.alloc (.cells (madeCells (Value.cells (.agg #[.int .i64 0, .slice none 0 0, .slice none 0 0])) (len * 3)) 150)) := by (repeat' (first | (with_reducible exact Below.refl _ _) | (with_reducible refine Below.alloc ?_ ?_ _) | (with_reducible refine Below.setCell ?_ ?_ _) | (with_reducible refine Below.drew ?_) | (refine below_hyp (by assumption) ?_ ?_) | go_size))
  have m1 : len ≤ 9223372036854775807 := by omega
  have m2 : len ≤ maxLen := by unfold maxLen; omega
  have hsz : (w.alloc (.cells (madeCells (Value.cells (.agg #[.int .i64 0, .slice none 0 0, .slice none 0 0])) (len * 3)) 150)).heap.size = w.heap.size + 1 := by simp
  generalize w.alloc (.cells (madeCells (Value.cells (.agg #[.int .i64 0, .slice none 0 0, .slice none 0 0])) (len * 3)) 150) = wm at *
  have HL := Lib.hid hl
  have H1 := Lib.hid h1
  have HS := Lib.hid hs'
  have M2 := Lib.hid m2
  clear h2 hl h1 hs hs' m2
  refine calls_hide fun R HR => ?_
  go_enter Tryz.func109, Tryz.ntmps109
  go_wp2_with fail
  go_loopw [4] (fun i wr => ∃ k : Nat, k ≤ len ∧ i = .int .i64 k ∧ Below w.heap.size w wr ∧ Part 3 oClsMap wr w.heap.size len k xs) (fun i _ => len - (intOf i).toNat)
  case atStart => exact ⟨0, Nat.zero_le _, rfl, hB, hP⟩
  case round =>
    clear hmk hP hB hsz
    obtain ⟨k, hk, rfl, hb, hp⟩ := hrel
    by_cases hlt : k < len
    · obtain ⟨b, off, rfl, hlo, hbl, hr⟩ := h3.stays rClsMap_good (Keeps.of_below hb) (by omega)
      obtain ⟨x, cs, e0, e1, e2, e3⟩ := hr k hlt
      obtain ⟨v1, v2, rfl, s1, s2⟩ := e3
      obtain ⟨na1, nl1, nc1, rfl⟩ := s1.form
      obtain ⟨na2, nl2, nc2, rfl⟩ := s2.form
      have q1 : wr.cell? ⟨b, off + k * 3, none⟩ = some (.int .i64 x.fAt) := e2 0 _ rfl
      have q2 : wr.cell? ⟨b, off + k * 3 + 1, none⟩ = some (.slice na1 nl1 nc1) := e2 1 _ rfl
      have q3 : wr.cell? ⟨b, off + k * 3 + 2, none⟩ = some (.slice na2 nl2 nc2) := e2 2 _ rfl
      have hbx := hb.size
      have hpl := hp.lt
      clear e1 e2 hr
      go_wp2_with fail
      refine (L_toClsMapO x _ _ _ s1 s2 (by have h8 := wtS_mem wtClsMap e0; have h9 := HSW.out; omega)).mono ?_
      rintro _ wA ⟨⟨y1, y2, rfl, t1, t2⟩, hA⟩
      obtain ⟨ya1, yl1, yc1, rfl⟩ := t1.form
      obtain ⟨ya2, yl2, yc2, rfl⟩ := t2.form
      have hz := hA.size
      have hp' := hp.below oClsMap_good hA
      have t00 := hp'.there (k * 3) (by omega)
      rw [Nat.zero_add] at t00
      obtain ⟨u00, hu0⟩ := Option.isSome_iff_exists.1 t00.1
      have hf0 := t00.2
      have t01 := hp'.there (k * 3 + 1) (by omega)
      rw [Nat.zero_add] at t01
      obtain ⟨u01, hu1⟩ := Option.isSome_iff_exists.1 t01.1
      have hf1 := t01.2
      have t02 := hp'.there (k * 3 + 2) (by omega)
      rw [Nat.zero_add] at t02
      obtain ⟨u02, hu2⟩ := Option.isSome_iff_exists.1 t02.1
      have hf2 := t02.2
      clear t00 t01 t02 q1 q2 q3
      have h7 := hp'.step oClsMap_good hlt e0 (cs := [.int .i64 x.fAt, .slice ya1 yl1 yc1, .slice ya2 yl2 yc2]) rfl ⟨_, _, rfl, t1.low oTagTag_good (by omega), t2.low oTagTag_good (by omega)⟩
      simp only [World.setCells, Nat.add_assoc, Nat.reduceAdd] at h7
      have H7 := Lib.hid h7
      clear h7
      go_wp2
      go_roundw
      case measure => simp [intOf]; omega
      case rel => exact ⟨k + 1, by omega, by go_num, by (repeat' (first | (with_reducible exact Below.refl _ _) | (with_reducible refine Below.alloc ?_ ?_ _) | (with_reducible refine Below.setCell ?_ ?_ _) | (with_reducible refine Below.drew ?_) | (refine below_hyp (by assumption) ?_ ?_) | go_size)), H7.out⟩
    · obtain rfl : k = len := by omega
      go_wp2
      all_goals (try go_returns)
      all_goals exact HR.out _ _ ⟨⟨_, rfl, hp.doneO oClsMap_good HL.out M2.out⟩, by (repeat' (first | (with_reducible exact Below.refl _ _) | (with_reducible refine Below.alloc ?_ ?_ _) | (with_reducible refine Below.setCell ?_ ?_ _) | (with_reducible refine Below.drew ?_) | (refine below_hyp (by assumption) ?_ ?_) | go_size))⟩

set_option maxHeartbeats 2000000 in
theorem L_toClsMethodO (x : DClsMethod) (v1 v2 v3 : Value) (w : World) (s1 : Sl 2 rKndKind 0 w v1 x.fArgs) (s2 : Sl 4 rClsIns 0 w v2 x.fCode) (s3 : Sl 3 rClsMap 0 w v3 x.fMaps) (hw : wtClsMethod x ≤ 1048576) :
    Calls Tryz.prog 95 #[.agg #[.string x.fName, v1, .int .i64 x.fRet.fKind, .string x.fRet.fName, .int .i64 x.fLocals, .int .i64 x.fStack, v2, v3]] w fun e w' => (∃ y1 y2 y3 : Value, e = .returned (.agg #[.string x.fName, y1, .int .i64 x.fRet.fKind, .string x.fRet.fName, .int .i64 x.fLocals, .int .i64 x.fStack, y2, y3]) ∧ SlO 2 oKndKind w.heap.size w' y1 x.fArgs ∧ SlO 4 oClsIns w.heap.size w' y2 x.fCode ∧ SlO 3 oClsMap w.heap.size w' y3 x.fMaps) ∧ Below w.heap.size w w' := by
  obtain ⟨na1, nl1, nc1, rfl⟩ := s1.form
  obtain ⟨na2, nl2, nc2, rfl⟩ := s2.form
  obtain ⟨na3, nl3, nc3, rfl⟩ := s3.form
  unfold wtClsMethod at hw
  have HW := Lib.hid hw
  clear hw
  refine calls_hide fun R HR => ?_
  go_enter Tryz.func95, Tryz.ntmps95
  go_wp2_with fail
  refine (L_toKndKindSO x.fArgs _ _ (s1.stays rKndKind_good (Keeps.of_below' (B := w.heap.size) (by (repeat' (first | (with_reducible exact Below.refl _ _) | (with_reducible refine Below.alloc ?_ ?_ _) | (with_reducible refine Below.setCell ?_ ?_ _) | (with_reducible refine Below.drew ?_) | (refine below_hyp (by assumption) ?_ ?_) | go_size))) (Nat.le_refl _))) (by have := HW.out; first | omega | (have h9 := wtS_len wtKndKind x.fArgs; omega))).mono ?_
  rintro _ w1 ⟨⟨y1, rfl, t1⟩, g1⟩
  obtain ⟨ya1, yl1, yc1, rfl⟩ := t1.form
  have g1s := (g1).size; (try simp only [World.size_alloc, World.size_setCell, World.size_drew] at g1s)
  obtain ⟨g1ac, g1ad, g1ao, g1af, g1ag, g1ap, g1az, g1ax, g1ay⟩ := bfacts (n := w.heap.size) (k := 3) g1 (by go_size) (by go_size); replace g1ad := g1ad (by decide); replace g1ag := g1ag (by decide); replace g1ax := g1ax (by decide); have g1ac1 := fun o => g1ac 1 o (by decide); have g1af1 := fun o => g1af 1 o (by decide); have g1az1 := g1az 1 (by decide); have g1ac2 := fun o => g1ac 2 o (by decide); have g1af2 := fun o => g1af 2 o (by decide); have g1az2 := g1az 2 (by decide); clear g1ac g1af g1az
  go_wp2_with fail
  refine (L_toKndKind x.fRet _).mono ?_
  rintro _ w2 ⟨rfl, g2⟩
  have g2s := (g2).size; (try simp only [World.size_alloc, World.size_setCell, World.size_drew] at g2s)
  obtain ⟨g2ac, g2ad, g2ao, g2af, g2ag, g2ap, g2az, g2ax, g2ay⟩ := bfacts (n := w.heap.size) (k := 3) g2 (by go_size) (by go_size); replace g2ad := g2ad (by decide); replace g2ag := g2ag (by decide); replace g2ax := g2ax (by decide); have g2ac1 := fun o => g2ac 1 o (by decide); have g2af1 := fun o => g2af 1 o (by decide); have g2az1 := g2az 1 (by decide); have g2ac2 := fun o => g2ac 2 o (by decide); have g2af2 := fun o => g2af 2 o (by decide); have g2az2 := g2az 2 (by decide); clear g2ac g2af g2az
  go_wp2_with fail
  refine (L_toClsInsSO x.fCode _ _ (s2.stays rClsIns_good (Keeps.of_below' (B := w.heap.size) (by (repeat' (first | (with_reducible exact Below.refl _ _) | (with_reducible refine Below.alloc ?_ ?_ _) | (with_reducible refine Below.setCell ?_ ?_ _) | (with_reducible refine Below.drew ?_) | (refine below_hyp (by assumption) ?_ ?_) | go_size))) (Nat.le_refl _))) (by have := HW.out; first | omega | (have h9 := wtS_len wtClsIns x.fCode; omega))).mono ?_
  rintro _ w3 ⟨⟨y2, rfl, t2⟩, g3⟩
  obtain ⟨ya2, yl2, yc2, rfl⟩ := t2.form
  have g3s := (g3).size; (try simp only [World.size_alloc, World.size_setCell, World.size_drew] at g3s)
  obtain ⟨g3ac, g3ad, g3ao, g3af, g3ag, g3ap, g3az, g3ax, g3ay⟩ := bfacts (n := w.heap.size) (k := 3) g3 (by go_size) (by go_size); replace g3ad := g3ad (by decide); replace g3ag := g3ag (by decide); replace g3ax := g3ax (by decide); have g3ac1 := fun o => g3ac 1 o (by decide); have g3af1 := fun o => g3af 1 o (by decide); have g3az1 := g3az 1 (by decide); have g3ac2 := fun o => g3ac 2 o (by decide); have g3af2 := fun o => g3af 2 o (by decide); have g3az2 := g3az 2 (by decide); clear g3ac g3af g3az
  go_wp2_with fail
  refine (L_toClsMapSO x.fMaps _ _ (s3.stays rClsMap_good (Keeps.of_below' (B := w.heap.size) (by (repeat' (first | (with_reducible exact Below.refl _ _) | (with_reducible refine Below.alloc ?_ ?_ _) | (with_reducible refine Below.setCell ?_ ?_ _) | (with_reducible refine Below.drew ?_) | (refine below_hyp (by assumption) ?_ ?_) | go_size))) (Nat.le_refl _))) (by have := HW.out; first | omega | (have h9 := wtS_len wtClsMap x.fMaps; omega))).mono ?_
  rintro _ w4 ⟨⟨y3, rfl, t3⟩, g4⟩
  obtain ⟨ya3, yl3, yc3, rfl⟩ := t3.form
  have g4s := (g4).size; (try simp only [World.size_alloc, World.size_setCell, World.size_drew] at g4s)
  obtain ⟨g4ac, g4ad, g4ao, g4af, g4ag, g4ap, g4az, g4ax, g4ay⟩ := bfacts (n := w.heap.size) (k := 3) g4 (by go_size) (by go_size); replace g4ad := g4ad (by decide); replace g4ag := g4ag (by decide); replace g4ax := g4ax (by decide); have g4ac1 := fun o => g4ac 1 o (by decide); have g4af1 := fun o => g4af 1 o (by decide); have g4az1 := g4az 1 (by decide); have g4ac2 := fun o => g4ac 2 o (by decide); have g4af2 := fun o => g4af 2 o (by decide); have g4az2 := g4az 2 (by decide); clear g4ac g4af g4az
  go_wp2
  all_goals
    refine bodyPost_ret (v := ?_) ?hrun rfl ?_
    case hrun => (simp only [results, Tryz.results95]; go_simp; first | done | exact rfl)
    exact HR.out _ _ ⟨⟨_, _, _, rfl, (t1.stays oKndKind_good (by (repeat' (first | (with_reducible exact Keeps.refl _ _) | (with_reducible refine Keeps.alloc ?_ _) | (with_reducible refine Keeps.setCell ?_ ?_ _) | (with_reducible refine Keeps.drew ?_) | (refine keeps_hyp (by assumption) ?_ ?_) | go_size)))).low oKndKind_good (by go_size), (t2.stays oClsIns_good (by (repeat' (first | (with_reducible exact Keeps.refl _ _) | (with_reducible refine Keeps.alloc ?_ _) | (with_reducible refine Keeps.setCell ?_ ?_ _) | (with_reducible refine Keeps.drew ?_) | (refine keeps_hyp (by assumption) ?_ ?_) | go_size)))).low oClsIns_good (by go_size), (t3.stays oClsMap_good (by (repeat' (first | (with_reducible exact Keeps.refl _ _) | (with_reducible refine Keeps.alloc ?_ _) | (with_reducible refine Keeps.setCell ?_ ?_ _) | (with_reducible refine Keeps.drew ?_) | (refine keeps_hyp (by assumption) ?_ ?_) | go_size)))).low oClsMap_good (by go_size)⟩, by (repeat' (first | (with_reducible exact Below.refl _ _) | (with_reducible refine Below.alloc ?_ ?_ _) | (with_reducible refine Below.setCell ?_ ?_ _) | (with_reducible refine Below.drew ?_) | (refine below_hyp (by assumption) ?_ ?_) | go_size))⟩

set_option maxHeartbeats 2000000 in
theorem L_toClsMethodSO (xs : List DClsMethod) (v : Value) (w : World) (hv : Sl 8 rClsMethod 0 w v xs) (hs : wtS wtClsMethod xs ≤ 1048576) :
    Calls Tryz.prog 83 #[v] w fun e w' => (∃ v', e = .returned v' ∧ SlO 8 oClsMethod w.heap.size w' v' xs) ∧ Below w.heap.size w w' := by
  obtain ⟨a, len, cap, rfl, hl, h1, h2, h3⟩ := id hv
  have hs0 := wtS_len wtClsMethod xs
  have HSW := Lib.hid hs
  have hs' : len ≤ 1048576 := by omega
  clear hs0
  have hmk := make_rows (P := Tryz.prog) w 67 121 (.agg #[.string ⟨#[]⟩, .slice none 0 0, .int .i64 0, .string ⟨#[]⟩, .int .i64 0, .int .i64 0, .slice none 0 0, .slice none 0 0]) 8 128 (by kernel_rfl) (by kernel_rfl) (by omega) len hs'
  have hP := Part.start (k := 8) (R := oClsMethod) (w := w) (len := len) (xs := xs) (Value.cells (.agg #[.string ⟨#[]⟩, .slice none 0 0, .int .i64 0, .string ⟨#[]⟩, .int .i64 0, .int .i64 0, .slice none 0 0, .slice none 0 0])) 121
  have hB : Below w.heap.size w (w.alloc (.cells (madeCells (Value.cells (.agg #[.string ⟨#[]⟩, .slice none 0 0, .int .i64 0, .string ⟨#[]⟩, .int .i64 0, .int .i64 0, .slice none 0 0, .slice none 0 0])) (len * 8)) 121)) := by (repeat' (first | (with_reducible exact Below.refl _ _) | (with_reducible refine Below.alloc ?_ ?_ _) | (with_reducible refine Below.setCell ?_ ?_ _) | (with_reducible refine Below.drew ?_) | (refine below_hyp (by assumption) ?_ ?_) | go_size))
  have m1 : len ≤ 9223372036854775807 := by omega
  have m2 : len ≤ maxLen := by unfold maxLen; omega
  have hsz : (w.alloc (.cells (madeCells (Value.cells (.agg #[.string ⟨#[]⟩, .slice none 0 0, .int .i64 0, .string ⟨#[]⟩, .int .i64 0, .int .i64 0, .slice none 0 0, .slice none 0 0])) (len * 8)) 121)).heap.size = w.heap.size + 1 := by simp
  generalize w.alloc (.cells (madeCells (Value.cells (.agg #[.string ⟨#[]⟩, .slice none 0 0, .int .i64 0, .string ⟨#[]⟩, .int .i64 0, .int .i64 0, .slice none 0 0, .slice none 0 0])) (len * 8)) 121) = wm at *
  have HL := Lib.hid hl
  have H1 := Lib.hid h1
  have HS := Lib.hid hs'
  have M2 := Lib.hid m2
  clear h2 hl h1 hs hs' m2
  refine calls_hide fun R HR => ?_
  go_enter Tryz.func83, Tryz.ntmps83
  go_wp2_with fail
  go_loopw [4] (fun i wr => ∃ k : Nat, k ≤ len ∧ i = .int .i64 k ∧ Below w.heap.size w wr ∧ Part 8 oClsMethod wr w.heap.size len k xs) (fun i _ => len - (intOf i).toNat)
  case atStart => exact ⟨0, Nat.zero_le _, rfl, hB, hP⟩
  case round =>
    clear hmk hP hB hsz
    obtain ⟨k, hk, rfl, hb, hp⟩ := hrel
    by_cases hlt : k < len
    · obtain ⟨b, off, rfl, hlo, hbl, hr⟩ := h3.stays rClsMethod_good (Keeps.of_below hb) (by omega)
      obtain ⟨x, cs, e0, e1, e2, e3⟩ := hr k hlt
      obtain ⟨v1, v2, v3, rfl, s1, s2, s3, b1, b2⟩ := e3
      obtain ⟨na1, nl1, nc1, rfl⟩ := s1.form
      obtain ⟨na2, nl2, nc2, rfl⟩ := s2.form
      obtain ⟨na3, nl3, nc3, rfl⟩ := s3.form
      have q1 : wr.cell? ⟨b, off + k * 8, none⟩ = some (.string x.fName) := e2 0 _ rfl
      have q2 : wr.cell? ⟨b, off + k * 8 + 1, none⟩ = some (.slice na1 nl1 nc1) := e2 1 _ rfl
      have q3 : wr.cell? ⟨b, off + k * 8 + 2, none⟩ = some (.int .i64 x.fRet.fKind) := e2 2 _ rfl
      have q4 : wr.cell? ⟨b, off + k * 8 + 3, none⟩ = some (.string x.fRet.fName) := e2 3 _ rfl
      have q5 : wr.cell? ⟨b, off + k * 8 + 4, none⟩ = some (.int .i64 x.fLocals) := e2 4 _ rfl
      have q6 : wr.cell? ⟨b, off + k * 8 + 5, none⟩ = some (.int .i64 x.fStack) := e2 5 _ rfl
      have q7 : wr.cell? ⟨b, off + k * 8 + 6, none⟩ = some (.slice na2 nl2 nc2) := e2 6 _ rfl
      have q8 : wr.cell? ⟨b, off + k * 8 + 7, none⟩ = some (.slice na3 nl3 nc3) := e2 7 _ rfl
      have hbx := hb.size
      have hpl := hp.lt
      clear e1 e2 hr
      go_wp2_with fail
      refine (L_toClsMethodO x _ _ _ _ s1 s2 s3 (by have h8 := wtS_mem wtClsMethod e0; have h9 := HSW.out; omega)).mono ?_
      rintro _ wA ⟨⟨y1, y2, y3, rfl, t1, t2, t3⟩, hA⟩
      obtain ⟨ya1, yl1, yc1, rfl⟩ := t1.form
      obtain ⟨ya2, yl2, yc2, rfl⟩ := t2.form
      obtain ⟨ya3, yl3, yc3, rfl⟩ := t3.form
      have hz := hA.size
      have hp' := hp.below oClsMethod_good hA
      have t00 := hp'.there (k * 8) (by omega)
      rw [Nat.zero_add] at t00
      obtain ⟨u00, hu0⟩ := Option.isSome_iff_exists.1 t00.1
      have hf0 := t00.2
      have t01 := hp'.there (k * 8 + 1) (by omega)
      rw [Nat.zero_add] at t01
      obtain ⟨u01, hu1⟩ := Option.isSome_iff_exists.1 t01.1
      have hf1 := t01.2
      have t02 := hp'.there (k * 8 + 2) (by omega)
      rw [Nat.zero_add] at t02
      obtain ⟨u02, hu2⟩ := Option.isSome_iff_exists.1 t02.1
      have hf2 := t02.2
      have t03 := hp'.there (k * 8 + 3) (by omega)
      rw [Nat.zero_add] at t03
      obtain ⟨u03, hu3⟩ := Option.isSome_iff_exists.1 t03.1
      have hf3 := t03.2
      have t04 := hp'.there (k * 8 + 4) (by omega)
      rw [Nat.zero_add] at t04
      obtain ⟨u04, hu4⟩ := Option.isSome_iff_exists.1 t04.1
      have hf4 := t04.2
      have t05 := hp'.there (k * 8 + 5) (by omega)
      rw [Nat.zero_add] at t05
      obtain ⟨u05, hu5⟩ := Option.isSome_iff_exists.1 t05.1
      have hf5 := t05.2
      have t06 := hp'.there (k * 8 + 6) (by omega)
      rw [Nat.zero_add] at t06
      obtain ⟨u06, hu6⟩ := Option.isSome_iff_exists.1 t06.1
      have hf6 := t06.2
      have t07 := hp'.there (k * 8 + 7) (by omega)
      rw [Nat.zero_add] at t07
      obtain ⟨u07, hu7⟩ := Option.isSome_iff_exists.1 t07.1
      have hf7 := t07.2
      clear t00 t01 t02 t03 t04 t05 t06 t07 q1 q2 q3 q4 q5 q6 q7 q8
      have h7 := hp'.step oClsMethod_good hlt e0 (cs := [.string x.fName, .slice ya1 yl1 yc1, .int .i64 x.fRet.fKind, .string x.fRet.fName, .int .i64 x.fLocals, .int .i64 x.fStack, .slice ya2 yl2 yc2, .slice ya3 yl3 yc3]) rfl ⟨_, _, _, rfl, t1.low oKndKind_good (by omega), t2.low oClsIns_good (by omega), t3.low oClsMap_good (by omega), b1, b2⟩
      simp only [World.setCells, Nat.add_assoc, Nat.reduceAdd] at h7
      have H7 := Lib.hid h7
      clear h7
      go_wp2
      go_roundw
      case measure => simp [intOf]; omega
      case rel => exact ⟨k + 1, by omega, by go_num, by (repeat' (first | (with_reducible exact Below.refl _ _) | (with_reducible refine Below.alloc ?_ ?_ _) | (with_reducible refine Below.setCell ?_ ?_ _) | (with_reducible refine Below.drew ?_) | (refine below_hyp (by assumption) ?_ ?_) | go_size)), H7.out⟩
    · obtain rfl : k = len := by omega
      go_wp2
      all_goals (try go_returns)
      all_goals exact HR.out _ _ ⟨⟨_, rfl, hp.doneO oClsMethod_good HL.out M2.out⟩, by (repeat' (first | (with_reducible exact Below.refl _ _) | (with_reducible refine Below.alloc ?_ ?_ _) | (with_reducible refine Below.setCell ?_ ?_ _) | (with_reducible refine Below.drew ?_) | (refine below_hyp (by assumption) ?_ ?_) | go_size))⟩

set_option maxHeartbeats 2000000 in
theorem L_toClsClassO (x : DClsClass) (v1 v2 : Value) (w : World) (s1 : Sl 3 rClsField 0 w v1 x.fFields) (s2 : Sl 8 rClsMethod 0 w v2 x.fMethods) (hw : wtClsClass x ≤ 1048576) :
    Calls Tryz.prog 63 #[.agg #[.string x.fName, .string x.fSuper, v1, v2]] w fun e w' => (∃ y1 y2 : Value, e = .returned (.agg #[.string x.fName, .string x.fSuper, y1, y2]) ∧ SlO 3 oClsField w.heap.size w' y1 x.fFields ∧ SlO 8 oClsMethod w.heap.size w' y2 x.fMethods) ∧ Below w.heap.size w w' := by
  obtain ⟨na1, nl1, nc1, rfl⟩ := s1.form
  obtain ⟨na2, nl2, nc2, rfl⟩ := s2.form
  unfold wtClsClass at hw
  have HW := Lib.hid hw
  clear hw
  refine calls_hide fun R HR => ?_
  go_enter Tryz.func63, Tryz.ntmps63
  go_wp2_with fail
  refine (L_toClsFieldSO x.fFields _ _ (s1.stays rClsField_good (Keeps.of_below' (B := w.heap.size) (by (repeat' (first | (with_reducible exact Below.refl _ _) | (with_reducible refine Below.alloc ?_ ?_ _) | (with_reducible refine Below.setCell ?_ ?_ _) | (with_reducible refine Below.drew ?_) | (refine below_hyp (by assumption) ?_ ?_) | go_size))) (Nat.le_refl _))) (by have := HW.out; first | omega | (have h9 := wtS_len wtClsField x.fFields; omega))).mono ?_
  rintro _ w1 ⟨⟨y1, rfl, t1⟩, g1⟩
  obtain ⟨ya1, yl1, yc1, rfl⟩ := t1.form
  have g1s := (g1).size; (try simp only [World.size_alloc, World.size_setCell, World.size_drew] at g1s)
  obtain ⟨g1ac, g1ad, g1ao, g1af, g1ag, g1ap, g1az, g1ax, g1ay⟩ := bfacts (n := w.heap.size) (k := 3) g1 (by go_size) (by go_size); replace g1ad := g1ad (by decide); replace g1ag := g1ag (by decide); replace g1ax := g1ax (by decide); have g1ac1 := fun o => g1ac 1 o (by decide); have g1af1 := fun o => g1af 1 o (by decide); have g1az1 := g1az 1 (by decide); have g1ac2 := fun o => g1ac 2 o (by decide); have g1af2 := fun o => g1af 2 o (by decide); have g1az2 := g1az 2 (by decide); clear g1ac g1af g1az
  go_wp2_with fail
  refine (L_toClsMethodSO x.fMethods _ _ (s2.stays rClsMethod_good (Keeps.of_below' (B := w.heap.size) (by (repeat' (first | (with_reducible exact Below.refl _ _) | (with_reducible refine Below.alloc ?_ ?_ _) | (with_reducible refine Below.setCell ?_ ?_ _) | (with_reducible refine Below.drew ?_) | (refine below_hyp (by assumption) ?_ ?_) | go_size))) (Nat.le_refl _))) (by have := HW.out; first | omega | (have h9 := wtS_len wtClsMethod x.fMethods; omega))).mono ?_
  rintro _ w2 ⟨⟨y2, rfl, t2⟩, g2⟩
  obtain ⟨ya2, yl2, yc2, rfl⟩ := t2.form
  have g2s := (g2).size; (try simp only [World.size_alloc, World.size_setCell, World.size_drew] at g2s)
  obtain ⟨g2ac, g2ad, g2ao, g2af, g2ag, g2ap, g2az, g2ax, g2ay⟩ := bfacts (n := w.heap.size) (k := 3) g2 (by go_size) (by go_size); replace g2ad := g2ad (by decide); replace g2ag := g2ag (by decide); replace g2ax := g2ax (by decide); have g2ac1 := fun o => g2ac 1 o (by decide); have g2af1 := fun o => g2af 1 o (by decide); have g2az1 := g2az 1 (by decide); have g2ac2 := fun o => g2ac 2 o (by decide); have g2af2 := fun o => g2af 2 o (by decide); have g2az2 := g2az 2 (by decide); clear g2ac g2af g2az
  go_wp2
  all_goals
    refine bodyPost_ret (v := ?_) ?hrun rfl ?_
    case hrun => (simp only [results, Tryz.results63]; go_simp; first | done | exact rfl)
    exact HR.out _ _ ⟨⟨_, _, rfl, (t1.stays oClsField_good (by (repeat' (first | (with_reducible exact Keeps.refl _ _) | (with_reducible refine Keeps.alloc ?_ _) | (with_reducible refine Keeps.setCell ?_ ?_ _) | (with_reducible refine Keeps.drew ?_) | (refine keeps_hyp (by assumption) ?_ ?_) | go_size)))).low oClsField_good (by go_size), (t2.stays oClsMethod_good (by (repeat' (first | (with_reducible exact Keeps.refl _ _) | (with_reducible refine Keeps.alloc ?_ _) | (with_reducible refine Keeps.setCell ?_ ?_ _) | (with_reducible refine Keeps.drew ?_) | (refine keeps_hyp (by assumption) ?_ ?_) | go_size)))).low oClsMethod_good (by go_size)⟩, by (repeat' (first | (with_reducible exact Below.refl _ _) | (with_reducible refine Below.alloc ?_ ?_ _) | (with_reducible refine Below.setCell ?_ ?_ _) | (with_reducible refine Below.drew ?_) | (refine below_hyp (by assumption) ?_ ?_) | go_size))⟩

set_option maxHeartbeats 2000000 in
theorem L_toClsClassSO (xs : List DClsClass) (v : Value) (w : World) (hv : Sl 4 rClsClass 0 w v xs) (hs : wtS wtClsClass xs ≤ 1048576) :
    Calls Tryz.prog 49 #[v] w fun e w' => (∃ v', e = .returned v' ∧ SlO 4 oClsClass w.heap.size w' v' xs) ∧ Below w.heap.size w w' := by
  obtain ⟨a, len, cap, rfl, hl, h1, h2, h3⟩ := id hv
  have hs0 := wtS_len wtClsClass xs
  have HSW := Lib.hid hs
  have hs' : len ≤ 1048576 := by omega
  clear hs0
  have hmk := make_rows (P := Tryz.prog) w 71 69 (.agg #[.string ⟨#[]⟩, .string ⟨#[]⟩, .slice none 0 0, .slice none 0 0]) 4 80 (by kernel_rfl) (by kernel_rfl) (by omega) len hs'
  have hP := Part.start (k := 4) (R := oClsClass) (w := w) (len := len) (xs := xs) (Value.cells (.agg #[.string ⟨#[]⟩, .string ⟨#[]⟩, .slice none 0 0, .slice none 0 0])) 69
  have hB : Below w.heap.size w (w.alloc (.cells (madeCells (Value.cells (.agg #[.string ⟨#[]⟩, .string ⟨#[]⟩, .slice none 0 0, .slice none 0 0])) (len * 4)) 69)) := by (repeat' (first | (with_reducible exact Below.refl _ _) | (with_reducible refine Below.alloc ?_ ?_ _) | (with_reducible refine Below.setCell ?_ ?_ _) | (with_reducible refine Below.drew ?_) | (refine below_hyp (by assumption) ?_ ?_) | go_size))
  have m1 : len ≤ 9223372036854775807 := by omega
  have m2 : len ≤ maxLen := by unfold maxLen; omega
  have hsz : (w.alloc (.cells (madeCells (Value.cells (.agg #[.string ⟨#[]⟩, .string ⟨#[]⟩, .slice none 0 0, .slice none 0 0])) (len * 4)) 69)).heap.size = w.heap.size + 1 := by simp
  generalize w.alloc (.cells (madeCells (Value.cells (.agg #[.string ⟨#[]⟩, .string ⟨#[]⟩, .slice none 0 0, .slice none 0 0])) (len * 4)) 69) = wm at *
  have HL := Lib.hid hl
  have H1 := Lib.hid h1
  have HS := Lib.hid hs'
  have M2 := Lib.hid m2
  clear h2 hl h1 hs hs' m2
  refine calls_hide fun R HR => ?_
  go_enter Tryz.func49, Tryz.ntmps49
  go_wp2_with fail
  go_loopw [4] (fun i wr => ∃ k : Nat, k ≤ len ∧ i = .int .i64 k ∧ Below w.heap.size w wr ∧ Part 4 oClsClass wr w.heap.size len k xs) (fun i _ => len - (intOf i).toNat)
  case atStart => exact ⟨0, Nat.zero_le _, rfl, hB, hP⟩
  case round =>
    clear hmk hP hB hsz
    obtain ⟨k, hk, rfl, hb, hp⟩ := hrel
    by_cases hlt : k < len
    · obtain ⟨b, off, rfl, hlo, hbl, hr⟩ := h3.stays rClsClass_good (Keeps.of_below hb) (by omega)
      obtain ⟨x, cs, e0, e1, e2, e3⟩ := hr k hlt
      obtain ⟨v1, v2, rfl, s1, s2, b1, b2⟩ := e3
      obtain ⟨na1, nl1, nc1, rfl⟩ := s1.form
      obtain ⟨na2, nl2, nc2, rfl⟩ := s2.form
      have q1 : wr.cell? ⟨b, off + k * 4, none⟩ = some (.string x.fName) := e2 0 _ rfl
      have q2 : wr.cell? ⟨b, off + k * 4 + 1, none⟩ = some (.string x.fSuper) := e2 1 _ rfl
      have q3 : wr.cell? ⟨b, off + k * 4 + 2, none⟩ = some (.slice na1 nl1 nc1) := e2 2 _ rfl
      have q4 : wr.cell? ⟨b, off + k * 4 + 3, none⟩ = some (.slice na2 nl2 nc2) := e2 3 _ rfl
      have hbx := hb.size
      have hpl := hp.lt
      clear e1 e2 hr
      go_wp2_with fail
      refine (L_toClsClassO x _ _ _ s1 s2 (by have h8 := wtS_mem wtClsClass e0; have h9 := HSW.out; omega)).mono ?_
      rintro _ wA ⟨⟨y1, y2, rfl, t1, t2⟩, hA⟩
      obtain ⟨ya1, yl1, yc1, rfl⟩ := t1.form
      obtain ⟨ya2, yl2, yc2, rfl⟩ := t2.form
      have hz := hA.size
      have hp' := hp.below oClsClass_good hA
      have t00 := hp'.there (k * 4) (by omega)
      rw [Nat.zero_add] at t00
      obtain ⟨u00, hu0⟩ := Option.isSome_iff_exists.1 t00.1
      have hf0 := t00.2
      have t01 := hp'.there (k * 4 + 1) (by omega)
      rw [Nat.zero_add] at t01
      obtain ⟨u01, hu1⟩ := Option.isSome_iff_exists.1 t01.1
      have hf1 := t01.2
      have t02 := hp'.there (k * 4 + 2) (by omega)
      rw [Nat.zero_add] at t02
      obtain ⟨u02, hu2⟩ := Option.isSome_iff_exists.1 t02.1
      have hf2 := t02.2
      have t03 := hp'.there (k * 4 + 3) (by omega)
      rw [Nat.zero_add] at t03
      obtain ⟨u03, hu3⟩ := Option.isSome_iff_exists.1 t03.1
      have hf3 := t03.2
      clear t00 t01 t02 t03 q1 q2 q3 q4
      have h7 := hp'.step oClsClass_good hlt e0 (cs := [.string x.fName, .string x.fSuper, .slice ya1 yl1 yc1, .slice ya2 yl2 yc2]) rfl ⟨_, _, rfl, t1.low oClsField_good (by omega), t2.low oClsMethod_good (by omega), b1, b2⟩
      simp only [World.setCells, Nat.add_assoc, Nat.reduceAdd] at h7
      have H7 := Lib.hid h7
      clear h7
      go_wp2
      go_roundw
      case measure => simp [intOf]; omega
      case rel => exact ⟨k + 1, by omega, by go_num, by (repeat' (first | (with_reducible exact Below.refl _ _) | (with_reducible refine Below.alloc ?_ ?_ _) | (with_reducible refine Below.setCell ?_ ?_ _) | (with_reducible refine Below.drew ?_) | (refine below_hyp (by assumption) ?_ ?_) | go_size)), H7.out⟩
    · obtain rfl : k = len := by omega
      go_wp2
      all_goals (try go_returns)
      all_goals exact HR.out _ _ ⟨⟨_, rfl, hp.doneO oClsClass_good HL.out M2.out⟩, by (repeat' (first | (with_reducible exact Below.refl _ _) | (with_reducible refine Below.alloc ?_ ?_ _) | (with_reducible refine Below.setCell ?_ ?_ _) | (with_reducible refine Below.drew ?_) | (refine below_hyp (by assumption) ?_ ?_) | go_size))⟩

set_option maxHeartbeats 2000000 in
theorem L_toLodAskSO (xs : List DLodAsk) (v : Value) (w : World) (hv : Sl 2 rLodAsk 0 w v xs) (hs : xs.length ≤ 1048576) :
    Calls Tryz.prog 50 #[v] w fun e w' => (∃ v', e = .returned v' ∧ SlO 2 oLodAsk w.heap.size w' v' xs) ∧ Below w.heap.size w w' := by
  obtain ⟨a, len, cap, rfl, hl, h1, h2, h3⟩ := id hv
  have hs' : len ≤ 1048576 := by omega
  have hmk := make_rows (P := Tryz.prog) w 72 95 (.agg #[.string ⟨#[]⟩, .int .i64 0]) 2 24 (by kernel_rfl) (by kernel_rfl) (by omega) len hs'
  have hP := Part.start (k := 2) (R := oLodAsk) (w := w) (len := len) (xs := xs) (Value.cells (.agg #[.string ⟨#[]⟩, .int .i64 0])) 95
  have hB : Below w.heap.size w (w.alloc (.cells (madeCells (Value.cells (.agg #[.string ⟨#[]⟩, .int .i64 0])) (len * 2)) 95)) := by (repeat' (first | (with_reducible exact Below.refl _ _) | (with_reducible refine Below.alloc ?_ ?_ _) | (with_reducible refine Below.setCell ?_ ?_ _) | (with_reducible refine Below.drew ?_) | (refine below_hyp (by assumption) ?_ ?_) | go_size))
  have m1 : len ≤ 9223372036854775807 := by omega
  have m2 : len ≤ maxLen := by unfold maxLen; omega
  have hsz : (w.alloc (.cells (madeCells (Value.cells (.agg #[.string ⟨#[]⟩, .int .i64 0])) (len * 2)) 95)).heap.size = w.heap.size + 1 := by simp
  generalize w.alloc (.cells (madeCells (Value.cells (.agg #[.string ⟨#[]⟩, .int .i64 0])) (len * 2)) 95) = wm at *
  have HL := Lib.hid hl
  have H1 := Lib.hid h1
  have HS := Lib.hid hs'
  have M2 := Lib.hid m2
  clear h2 hl h1 hs hs' m2
  refine calls_hide fun R HR => ?_
  go_enter Tryz.func50, Tryz.ntmps50
  go_wp2_with fail
  go_loopw [4] (fun i wr => ∃ k : Nat, k ≤ len ∧ i = .int .i64 k ∧ Below w.heap.size w wr ∧ Part 2 oLodAsk wr w.heap.size len k xs) (fun i _ => len - (intOf i).toNat)
  case atStart => exact ⟨0, Nat.zero_le _, rfl, hB, hP⟩
  case round =>
    clear hmk hP hB hsz
    obtain ⟨k, hk, rfl, hb, hp⟩ := hrel
    by_cases hlt : k < len
    · obtain ⟨b, off, rfl, hlo, hbl, hr⟩ := h3.stays rLodAsk_good (Keeps.of_below hb) (by omega)
      obtain ⟨x, cs, e0, e1, e2, e3⟩ := hr k hlt
      obtain ⟨rfl, b1⟩ := e3
      have q1 : wr.cell? ⟨b, off + k * 2, none⟩ = some (.string x.fName) := e2 0 _ rfl
      have q2 : wr.cell? ⟨b, off + k * 2 + 1, none⟩ = some (.int .i64 x.fKeeper) := e2 1 _ rfl
      have hbx := hb.size
      have hpl := hp.lt
      clear e1 e2 hr
      go_wp2_with fail
      refine (L_toLodAsk x _).mono ?_
      rintro _ wA ⟨rfl, hA⟩
      have hz := hA.size
      have hp' := hp.below oLodAsk_good hA
      have t00 := hp'.there (k * 2) (by omega)
      rw [Nat.zero_add] at t00
      obtain ⟨u00, hu0⟩ := Option.isSome_iff_exists.1 t00.1
      have hf0 := t00.2
      have t01 := hp'.there (k * 2 + 1) (by omega)
      rw [Nat.zero_add] at t01
      obtain ⟨u01, hu1⟩ := Option.isSome_iff_exists.1 t01.1
      have hf1 := t01.2
      clear t00 t01 q1 q2
      have h7 := hp'.step oLodAsk_good hlt e0 (cs := [.string x.fName, .int .i64 x.fKeeper]) rfl ⟨rfl, b1⟩
      simp only [World.setCells, Nat.add_assoc, Nat.reduceAdd] at h7
      have H7 := Lib.hid h7
      clear h7
      go_wp2
      go_roundw
      case measure => simp [intOf]; omega
      case rel => exact ⟨k + 1, by omega, by go_num, by (repeat' (first | (with_reducible exact Below.refl _ _) | (with_reducible refine Below.alloc ?_ ?_ _) | (with_reducible refine Below.setCell ?_ ?_ _) | (with_reducible refine Below.drew ?_) | (refine below_hyp (by assumption) ?_ ?_) | go_size)), H7.out⟩
    · obtain rfl : k = len := by omega
      go_wp2
      all_goals (try go_returns)
      all_goals exact HR.out _ _ ⟨⟨_, rfl, hp.doneO oLodAsk_good HL.out M2.out⟩, by (repeat' (first | (with_reducible exact Below.refl _ _) | (with_reducible refine Below.alloc ?_ ?_ _) | (with_reducible refine Below.setCell ?_ ?_ _) | (with_reducible refine Below.drew ?_) | (refine below_hyp (by assumption) ?_ ?_) | go_size))⟩

set_option maxHeartbeats 2000000 in
theorem L_toLodKeeperO (x : DLodKeeper) (v1 v2 : Value) (w : World) (s1 : Sl 4 rClsClass 0 w v1 x.fOwns) (s2 : Sl 2 rLodAsk 0 w v2 x.fAsks) (hw : wtLodKeeper x ≤ 1048576) :
    Calls Tryz.prog 37 #[.agg #[v1, v2]] w fun e w' => (∃ y1 y2 : Value, e = .returned (.agg #[y1, y2]) ∧ SlO 4 oClsClass w.heap.size w' y1 x.fOwns ∧ SlO 2 oLodAsk w.heap.size w' y2 x.fAsks) ∧ Below w.heap.size w w' := by
  obtain ⟨na1, nl1, nc1, rfl⟩ := s1.form
  obtain ⟨na2, nl2, nc2, rfl⟩ := s2.form
  unfold wtLodKeeper at hw
  have HW := Lib.hid hw
  clear hw
  refine calls_hide fun R HR => ?_
  go_enter Tryz.func37, Tryz.ntmps37
  go_wp2_with fail
  refine (L_toClsClassSO x.fOwns _ _ (s1.stays rClsClass_good (Keeps.of_below' (B := w.heap.size) (by (repeat' (first | (with_reducible exact Below.refl _ _) | (with_reducible refine Below.alloc ?_ ?_ _) | (with_reducible refine Below.setCell ?_ ?_ _) | (with_reducible refine Below.drew ?_) | (refine below_hyp (by assumption) ?_ ?_) | go_size))) (Nat.le_refl _))) (by have := HW.out; first | omega | (have h9 := wtS_len wtClsClass x.fOwns; omega))).mono ?_
  rintro _ w1 ⟨⟨y1, rfl, t1⟩, g1⟩
  obtain ⟨ya1, yl1, yc1, rfl⟩ := t1.form
  have g1s := (g1).size; (try simp only [World.size_alloc, World.size_setCell, World.size_drew] at g1s)
  obtain ⟨g1ac, g1ad, g1ao, g1af, g1ag, g1ap, g1az, g1ax, g1ay⟩ := bfacts (n := w.heap.size) (k := 3) g1 (by go_size) (by go_size); replace g1ad := g1ad (by decide); replace g1ag := g1ag (by decide); replace g1ax := g1ax (by decide); have g1ac1 := fun o => g1ac 1 o (by decide); have g1af1 := fun o => g1af 1 o (by decide); have g1az1 := g1az 1 (by decide); have g1ac2 := fun o => g1ac 2 o (by decide); have g1af2 := fun o => g1af 2 o (by decide); have g1az2 := g1az 2 (by decide); clear g1ac g1af g1az
  go_wp2_with fail
  refine (L_toLodAskSO x.fAsks _ _ (s2.stays rLodAsk_good (Keeps.of_below' (B := w.heap.size) (by (repeat' (first | (with_reducible exact Below.refl _ _) | (with_reducible refine Below.alloc ?_ ?_ _) | (with_reducible refine Below.setCell ?_ ?_ _) | (with_reducible refine Below.drew ?_) | (refine below_hyp (by assumption) ?_ ?_) | go_size))) (Nat.le_refl _))) (by have := HW.out; first | omega | (have h9 := wtS_len wtLodAsk x.fAsks; omega))).mono ?_
  rintro _ w2 ⟨⟨y2, rfl, t2⟩, g2⟩
  obtain ⟨ya2, yl2, yc2, rfl⟩ := t2.form
  have g2s := (g2).size; (try simp only [World.size_alloc, World.size_setCell, World.size_drew] at g2s)
  obtain ⟨g2ac, g2ad, g2ao, g2af, g2ag, g2ap, g2az, g2ax, g2ay⟩ := bfacts (n := w.heap.size) (k := 3) g2 (by go_size) (by go_size); replace g2ad := g2ad (by decide); replace g2ag := g2ag (by decide); replace g2ax := g2ax (by decide); have g2ac1 := fun o => g2ac 1 o (by decide); have g2af1 := fun o => g2af 1 o (by decide); have g2az1 := g2az 1 (by decide); have g2ac2 := fun o => g2ac 2 o (by decide); have g2af2 := fun o => g2af 2 o (by decide); have g2az2 := g2az 2 (by decide); clear g2ac g2af g2az
  go_wp2
  all_goals
    refine bodyPost_ret (v := ?_) ?hrun rfl ?_
    case hrun => (simp only [results, Tryz.results37]; go_simp; first | done | exact rfl)
    exact HR.out _ _ ⟨⟨_, _, rfl, (t1.stays oClsClass_good (by (repeat' (first | (with_reducible exact Keeps.refl _ _) | (with_reducible refine Keeps.alloc ?_ _) | (with_reducible refine Keeps.setCell ?_ ?_ _) | (with_reducible refine Keeps.drew ?_) | (refine keeps_hyp (by assumption) ?_ ?_) | go_size)))).low oClsClass_good (by go_size), (t2.stays oLodAsk_good (by (repeat' (first | (with_reducible exact Keeps.refl _ _) | (with_reducible refine Keeps.alloc ?_ _) | (with_reducible refine Keeps.setCell ?_ ?_ _) | (with_reducible refine Keeps.drew ?_) | (refine keeps_hyp (by assumption) ?_ ?_) | go_size)))).low oLodAsk_good (by go_size)⟩, by (repeat' (first | (with_reducible exact Below.refl _ _) | (with_reducible refine Below.alloc ?_ ?_ _) | (with_reducible refine Below.setCell ?_ ?_ _) | (with_reducible refine Below.drew ?_) | (refine below_hyp (by assumption) ?_ ?_) | go_size))⟩

set_option maxHeartbeats 2000000 in
theorem L_toLodKeeperSO (xs : List DLodKeeper) (v : Value) (w : World) (hv : Sl 2 rLodKeeper 0 w v xs) (hs : wtS wtLodKeeper xs ≤ 1048576) :
    Calls Tryz.prog 21 #[v] w fun e w' => (∃ v', e = .returned v' ∧ SlO 2 oLodKeeper w.heap.size w' v' xs) ∧ Below w.heap.size w w' := by
  obtain ⟨a, len, cap, rfl, hl, h1, h2, h3⟩ := id hv
  have hs0 := wtS_len wtLodKeeper xs
  have HSW := Lib.hid hs
  have hs' : len ≤ 1048576 := by omega
  clear hs0
  have hmk := make_rows (P := Tryz.prog) w 31 74 (.agg #[.slice none 0 0, .slice none 0 0]) 2 48 (by kernel_rfl) (by kernel_rfl) (by omega) len hs'
  have hP := Part.start (k := 2) (R := oLodKeeper) (w := w) (len := len) (xs := xs) (Value.cells (.agg #[.slice none 0 0, .slice none 0 0])) 74
  have hB : Below w.heap.size w (w.alloc (.cells (madeCells (Value.cells (.agg #[.slice none 0 0, .slice none 0 0])) (len * 2)) 74)) := by (repeat' (first | (with_reducible exact Below.refl _ _) | (with_reducible refine Below.alloc ?_ ?_ _) | (with_reducible refine Below.setCell ?_ ?_ _) | (with_reducible refine Below.drew ?_) | (refine below_hyp (by assumption) ?_ ?_) | go_size))
  have m1 : len ≤ 9223372036854775807 := by omega
  have m2 : len ≤ maxLen := by unfold maxLen; omega
  have hsz : (w.alloc (.cells (madeCells (Value.cells (.agg #[.slice none 0 0, .slice none 0 0])) (len * 2)) 74)).heap.size = w.heap.size + 1 := by simp
  generalize w.alloc (.cells (madeCells (Value.cells (.agg #[.slice none 0 0, .slice none 0 0])) (len * 2)) 74) = wm at *
  have HL := Lib.hid hl
  have H1 := Lib.hid h1
  have HS := Lib.hid hs'
  have M2 := Lib.hid m2
  clear h2 hl h1 hs hs' m2
  refine calls_hide fun R HR => ?_
  go_enter Tryz.func21, Tryz.ntmps21
  go_wp2_with fail
  go_loopw [4] (fun i wr => ∃ k : Nat, k ≤ len ∧ i = .int .i64 k ∧ Below w.heap.size w wr ∧ Part 2 oLodKeeper wr w.heap.size len k xs) (fun i _ => len - (intOf i).toNat)
  case atStart => exact ⟨0, Nat.zero_le _, rfl, hB, hP⟩
  case round =>
    clear hmk hP hB hsz
    obtain ⟨k, hk, rfl, hb, hp⟩ := hrel
    by_cases hlt : k < len
    · obtain ⟨b, off, rfl, hlo, hbl, hr⟩ := h3.stays rLodKeeper_good (Keeps.of_below hb) (by omega)
      obtain ⟨x, cs, e0, e1, e2, e3⟩ := hr k hlt
      obtain ⟨v1, v2, rfl, s1, s2⟩ := e3
      obtain ⟨na1, nl1, nc1, rfl⟩ := s1.form
      obtain ⟨na2, nl2, nc2, rfl⟩ := s2.form
      have q1 : wr.cell? ⟨b, off + k * 2, none⟩ = some (.slice na1 nl1 nc1) := e2 0 _ rfl
      have q2 : wr.cell? ⟨b, off + k * 2 + 1, none⟩ = some (.slice na2 nl2 nc2) := e2 1 _ rfl
      have hbx := hb.size
      have hpl := hp.lt
      clear e1 e2 hr
      go_wp2_with fail
      refine (L_toLodKeeperO x _ _ _ s1 s2 (by have h8 := wtS_mem wtLodKeeper e0; have h9 := HSW.out; omega)).mono ?_
      rintro _ wA ⟨⟨y1, y2, rfl, t1, t2⟩, hA⟩
      obtain ⟨ya1, yl1, yc1, rfl⟩ := t1.form
      obtain ⟨ya2, yl2, yc2, rfl⟩ := t2.form
      have hz := hA.size
      have hp' := hp.below oLodKeeper_good hA
      have t00 := hp'.there (k * 2) (by omega)
      rw [Nat.zero_add] at t00
      obtain ⟨u00, hu0⟩ := Option.isSome_iff_exists.1 t00.1
      have hf0 := t00.2
      have t01 := hp'.there (k * 2 + 1) (by omega)
      rw [Nat.zero_add] at t01
      obtain ⟨u01, hu1⟩ := Option.isSome_iff_exists.1 t01.1
      have hf1 := t01.2
      clear t00 t01 q1 q2
      have h7 := hp'.step oLodKeeper_good hlt e0 (cs := [.slice ya1 yl1 yc1, .slice ya2 yl2 yc2]) rfl ⟨_, _, rfl, t1.low oClsClass_good (by omega), t2.low oLodAsk_good (by omega)⟩
      simp only [World.setCells, Nat.add_assoc, Nat.reduceAdd] at h7
      have H7 := Lib.hid h7
      clear h7
      go_wp2
      go_roundw
      case measure => simp [intOf]; omega
      case rel => exact ⟨k + 1, by omega, by go_num, by (repeat' (first | (with_reducible exact Below.refl _ _) | (with_reducible refine Below.alloc ?_ ?_ _) | (with_reducible refine Below.setCell ?_ ?_ _) | (with_reducible refine Below.drew ?_) | (refine below_hyp (by assumption) ?_ ?_) | go_size)), H7.out⟩
    · obtain rfl : k = len := by omega
      go_wp2
      all_goals (try go_returns)
      all_goals exact HR.out _ _ ⟨⟨_, rfl, hp.doneO oLodKeeper_good HL.out M2.out⟩, by (repeat' (first | (with_reducible exact Below.refl _ _) | (with_reducible refine Below.alloc ?_ ?_ _) | (with_reducible refine Below.setCell ?_ ?_ _) | (with_reducible refine Below.drew ?_) | (refine below_hyp (by assumption) ?_ ?_) | go_size))⟩

set_option maxHeartbeats 2000000 in
theorem L_toLodPlanO (x : DLodPlan) (v1 : Value) (w : World) (s1 : Sl 2 rLodKeeper 0 w v1 x.fKeepers) (hw : wtLodPlan x ≤ 1048576) :
    Calls Tryz.prog 8 #[.agg #[v1]] w fun e w' => (∃ y1 : Value, e = .returned (.agg #[y1]) ∧ SlO 2 oLodKeeper w.heap.size w' y1 x.fKeepers) ∧ Below w.heap.size w w' := by
  obtain ⟨na1, nl1, nc1, rfl⟩ := s1.form
  unfold wtLodPlan at hw
  have HW := Lib.hid hw
  clear hw
  refine calls_hide fun R HR => ?_
  go_enter Tryz.func8, Tryz.ntmps8
  go_wp2_with fail
  refine (L_toLodKeeperSO x.fKeepers _ _ (s1.stays rLodKeeper_good (Keeps.of_below' (B := w.heap.size) (by (repeat' (first | (with_reducible exact Below.refl _ _) | (with_reducible refine Below.alloc ?_ ?_ _) | (with_reducible refine Below.setCell ?_ ?_ _) | (with_reducible refine Below.drew ?_) | (refine below_hyp (by assumption) ?_ ?_) | go_size))) (Nat.le_refl _))) (by have := HW.out; first | omega | (have h9 := wtS_len wtLodKeeper x.fKeepers; omega))).mono ?_
  rintro _ w1 ⟨⟨y1, rfl, t1⟩, g1⟩
  obtain ⟨ya1, yl1, yc1, rfl⟩ := t1.form
  have g1s := (g1).size; (try simp only [World.size_alloc, World.size_setCell, World.size_drew] at g1s)
  obtain ⟨g1ac, g1ad, g1ao, g1af, g1ag, g1ap, g1az, g1ax, g1ay⟩ := bfacts (n := w.heap.size) (k := 3) g1 (by go_size) (by go_size); replace g1ad := g1ad (by decide); replace g1ag := g1ag (by decide); replace g1ax := g1ax (by decide); have g1ac1 := fun o => g1ac 1 o (by decide); have g1af1 := fun o => g1af 1 o (by decide); have g1az1 := g1az 1 (by decide); have g1ac2 := fun o => g1ac 2 o (by decide); have g1af2 := fun o => g1af 2 o (by decide); have g1az2 := g1az 2 (by decide); clear g1ac g1af g1az
  go_wp2
  all_goals
    refine bodyPost_ret (v := ?_) ?hrun rfl ?_
    case hrun => (simp only [results, Tryz.results8]; go_simp; first | done | exact rfl)
    exact HR.out _ _ ⟨⟨_, rfl, (t1.stays oLodKeeper_good (by (repeat' (first | (with_reducible exact Keeps.refl _ _) | (with_reducible refine Keeps.alloc ?_ _) | (with_reducible refine Keeps.setCell ?_ ?_ _) | (with_reducible refine Keeps.drew ?_) | (refine keeps_hyp (by assumption) ?_ ?_) | go_size)))).low oLodKeeper_good (by go_size)⟩, by (repeat' (first | (with_reducible exact Below.refl _ _) | (with_reducible refine Below.alloc ?_ ?_ _) | (with_reducible refine Below.setCell ?_ ?_ _) | (with_reducible refine Below.drew ?_) | (refine below_hyp (by assumption) ?_ ?_) | go_size))⟩

end Go.Proofs.YtmmlhnjmjmbfpaaGreat
