

/-
  The walk of the program's opWord and InsText: how an instruction is written. Condition: the library's table of powers of ten holds what its text lays; the texts are no longer than a text may be.
-/
import Derived.Test.YtmbfpbgkchncgaaDoorNumS
import Derived.Test.YtmbfpbgkchncgaaDoorInsO
import Derived.Test.YtmbfpbgkchncgaaDoorShelf
import Derived.Lib.LaidTab
namespace Go.Proofs.YtmbfpbgkchncgaaDoor
set_option linter.unusedSimpArgs false
set_option linter.unusedVariables false
open Go.RowKit

/-- the library's table of powers of ten -/
def Tab (w : World) : Prop := Lib.TabIs Tryd.prog w "internal/strconv.uint64pow10" .u64 Lib.pow10Tab
theorem Tab.below {w w' : World} (h : Tab w) (hb : Below w.heap.size w w') : Tab w' := by
  unfold Tab Lib.TabIs World.var? at h ⊢
  cases hg : Tryd.prog.globalNamed "internal/strconv.uint64pow10" with
  | none => rw [hg] at h; cases h
  | some g =>
    rw [hg] at h
    simp only [Option.bind_some] at h ⊢
    cases ho : w.heap[g]? with
    | none => rw [ho] at h; cases h
    | some o =>
      rw [hb.block g (Array.getElem?_eq_some_iff.1 ho).1]
      exact h
theorem below_grow (w : World) (k : Nat) (os : Array Obj) : Below w.heap.size w (Go.Sort.grow (w.drewN k) os) :=
  ⟨rfl, rfl, rfl, by simp [Go.Sort.grow, World.drewN], fun i hi => by
    show (w.heap ++ os)[i]? = w.heap[i]?
    rw [Array.getElem?_append_left hi]⟩
theorem I_Itoa (n : Int) (w : World) (hn : -9999 ≤ n ∧ n ≤ 9999) (ht : Tab w) :
    Calls Tryd.prog 28 #[.int .i64 n] w fun e w' => e = .returned (.string (tx (Lib.itoa n))) ∧ Below w.heap.size w w' :=
  (Tryd.strconv_Itoa n (by omega) (by omega) w ht).mono fun e w' ⟨he, k, os, hw⟩ => ⟨he, by rw [hw]; exact below_grow w k os⟩

set_option maxRecDepth 100000 in
set_option maxHeartbeats 4000000 in
theorem I_opWord (op : Int) (w : World) (hk : 0 ≤ op ∧ op ≤ 15) :
    Calls Tryd.prog 26 #[.int .i64 op] w fun e w' => e = .returned (.string (tx (opText op))) ∧ Below w.heap.size w w' := by
  obtain ⟨k, rfl⟩ : ∃ k : Nat, op = (k : Int) := ⟨op.toNat, by omega⟩
  have hk' : k ≤ 15 := by omega
  have hc : (w.alloc (.cells #[.string ⟨#[]⟩, .string ⟨#[110, 117, 109]⟩, .string ⟨#[116, 97, 107, 101]⟩, .string ⟨#[112, 117, 116]⟩, .string ⟨#[97, 100, 100]⟩, .string ⟨#[110, 117, 108, 108]⟩, .string ⟨#[110, 101, 119]⟩, .string ⟨#[103, 101, 116]⟩, .string ⟨#[115, 101, 116]⟩, .string ⟨#[99, 97, 108, 108]⟩, .string ⟨#[114, 101, 116]⟩, .string ⟨#[122, 101, 114, 111]⟩, .string ⟨#[110, 105, 108]⟩, .string ⟨#[103, 111]⟩, .string ⟨#[111, 117, 116]⟩, .string ⟨#[99, 97, 115, 116]⟩] 70)).cell? ⟨w.heap.size, k, none⟩ = some (.string (tx (opText (k : Int)))) := by
    rw [World.cell?_alloc_at (hn := rfl)]
    rcases sixteen hk' with rfl | rfl | rfl | rfl | rfl | rfl | rfl | rfl | rfl | rfl | rfl | rfl | rfl | rfl | rfl | rfl
    all_goals rfl
  have h1 : (k : Int) < 16 := by omega
  have h2 : ¬ (k : Int) < 0 := by omega
  have h3 : ¬ (16 : Int) ≤ (k : Int) := by omega
  refine calls_hide fun R HR => ?_
  go_enter Tryd.func26, Tryd.ntmps26
  go_wp2
  all_goals (try go_returns)
  all_goals exact HR.out _ _ ⟨rfl, by (repeat' (first | (with_reducible exact Below.refl _ _) | (with_reducible refine Below.alloc ?_ ?_ _) | (with_reducible refine Below.setCell ?_ ?_ _) | (with_reducible refine Below.drew ?_) | (refine below_hyp (by assumption) ?_ ?_) | go_size))⟩

theorem insTxt_num' {op a : Int} {n m : ByteArray} (ok : insOk op a n m = true) (h : isNumOp op = true) : tx (opText op) ++ (⟨#[32]⟩ ++ tx (Lib.itoa a)) = tx (insTxt op a n m) := by
  rw [← insTxt_num ok h, ByteArray.append_assoc]
theorem insTxt_cls' {op a : Int} {n m : ByteArray} (ok : insOk op a n m = true) (h0 : isNumOp op = false) (h : isClsOp op = true) : tx (opText op) ++ (⟨#[32]⟩ ++ n) = tx (insTxt op a n m) := by
  rw [← insTxt_cls ok h0 h, ByteArray.append_assoc]
theorem insTxt_mem' {op a : Int} {n m : ByteArray} (ok : insOk op a n m = true) (h0 : isNumOp op = false) (h1 : isClsOp op = false) (h : isMemOp op = true) : tx (opText op) ++ (⟨#[32]⟩ ++ n ++ ⟨#[32]⟩ ++ m) = tx (insTxt op a n m) := by
  rw [← insTxt_mem ok h0 h1 h]
  simp only [ByteArray.append_assoc]

theorem app1 (x : ByteArray) : ((⟨#[32]⟩ : ByteArray) ++ x).size = 1 + x.size := by rw [ByteArray.size_append]; rfl

set_option maxRecDepth 100000 in
set_option maxHeartbeats 16000000 in
theorem I_InsText (op a : Int) (n m : ByteArray) (w : World) (hn : n.size ≤ maxLen) (hm : m.size ≤ maxLen) (ht : Tab w) :
    Calls Tryd.prog 9 #[.agg #[.int .i64 op, .int .i64 a, .string n, .string m]] w fun e w' => e = .returned (.string (tx (insTxt op a n m))) ∧ Below w.heap.size w w' := by
  have CI : ∀ W, Calls Tryd.prog 11 #[.agg #[.int .i64 op, .int .i64 a, .string n, .string m]] W fun e w' => e = .returned (.bool (insOk op a n m)) ∧ Below W.heap.size W w' := fun W => I_InsOk op a n m W hn hm
  cases hok : insOk op a n m
  · rw [hok] at CI
    have RV : Hid (tx (insTxt op a n m) = ⟨#[]⟩) := Lib.hid (by unfold insTxt; rw [hok]; rfl)
    clear ht
    refine calls_hide fun R HR => ?_
    go_enter Tryd.func9, Tryd.ntmps9
    go_wp2_with fail
    refine (CI _).mono ?_
    rintro _ w1 ⟨rfl, h1⟩
    go_wp2
    all_goals (try go_returns)
    all_goals exact HR.out _ _ ⟨by first | (rw [RV.out]; done) | (rw [RV.out]; rfl), by (repeat' (first | (with_reducible exact Below.refl _ _) | (with_reducible refine Below.alloc ?_ ?_ _) | (with_reducible refine Below.setCell ?_ ?_ _) | (with_reducible refine Below.drew ?_) | (refine below_hyp (by assumption) ?_ ?_) | go_size))⟩
  rw [hok] at CI
  obtain ⟨hk, hn6, hm6, ha⟩ := insOk_parts hok
  have OK := Lib.hid hok
  have HA := Lib.hid ha
  have HT := Lib.hid ht
  have e1 : (⟨#[32]⟩ : ByteArray).size = 1 := rfl
  have e2 : (tx (opText op)).size ≤ 4 := by rw [tx_size]; exact opText_len _
  have e7 := app1 n
  have CF : ∀ W, Calls Tryd.prog 27 #[.agg #[.int .i64 op, .int .i64 a, .string n, .string m]] W fun e w' => e = .returned (formV op a n m) ∧ Below W.heap.size W w' := fun W => I_formOf op a n m W
  clear hok ha hn hm ht
  refine calls_hide fun R HR => ?_
  go_enter Tryd.func9, Tryd.ntmps9
  go_wp2_with fail
  refine (CI _).mono ?_
  rintro _ w1 ⟨rfl, h1⟩
  have h1s := (h1).size; (try simp only [World.size_alloc, World.size_setCell, World.size_drew] at h1s)
  obtain ⟨h1ac, h1ad, h1ao, h1af, h1ag, h1ap, h1az, h1ax, h1ay⟩ := bfacts (n := w.heap.size) (k := 1) h1 (by go_size) (by go_size); replace h1ad := h1ad (by decide); replace h1ag := h1ag (by decide); replace h1ax := h1ax (by decide); clear h1ac h1af h1az
  go_wp2_with fail
  refine (I_opWord op _ (by omega)).mono ?_
  rintro _ w2 ⟨rfl, h2⟩
  have h2s := (h2).size; (try simp only [World.size_alloc, World.size_setCell, World.size_drew] at h2s)
  obtain ⟨h2ac, h2ad, h2ao, h2af, h2ag, h2ap, h2az, h2ax, h2ay⟩ := bfacts (n := w.heap.size) (k := 1) h2 (by go_size) (by go_size); replace h2ad := h2ad (by decide); replace h2ag := h2ag (by decide); replace h2ax := h2ax (by decide); clear h2ac h2af h2az
  go_wp2_with fail
  refine (CF _).mono ?_
  rintro _ w3 ⟨rfl, h3⟩
  have h3s := (h3).size; (try simp only [World.size_alloc, World.size_setCell, World.size_drew] at h3s)
  have hE : Below w.heap.size w w3 := by (repeat' (first | (with_reducible exact Below.refl _ _) | (with_reducible refine Below.alloc ?_ ?_ _) | (with_reducible refine Below.setCell ?_ ?_ _) | (with_reducible refine Below.drew ?_) | (refine below_hyp (by assumption) ?_ ?_) | go_size))
  clear CI CF h1ad h1ag h1ao h1ap h2ad h2ag h2ao h2ap
  rcases fifteen hk with rfl | rfl | rfl | rfl | rfl | rfl | rfl | rfl | rfl | rfl | rfl | rfl | rfl | rfl | rfl
  all_goals simp only [formV, opNum, opCls, opMem, opPln, Int.reduceBEq, Bool.or_true, Bool.true_or, Bool.or_false, Bool.false_or, if_true, Bool.false_eq_true, if_false]
  all_goals
    go_wp2_with (go_at_call 28; refine (I_Itoa a _ (HA.out rfl) (HT.out.below (by (repeat' (first | (with_reducible exact Below.refl _ _) | (with_reducible refine Below.alloc ?_ ?_ _) | (with_reducible refine Below.setCell ?_ ?_ _) | (with_reducible refine Below.drew ?_) | (refine below_hyp (by assumption) ?_ ?_) | go_size))))).mono ?_; rintro _ w4 ⟨rfl, h4⟩; have h4s := h4.size; have e5 := itoa_len (HA.out rfl); have e6 := app1 (tx (Lib.itoa a)))
    all_goals (try go_returns)
    all_goals first
      | exact HR.out _ _ ⟨ret_str (insTxt_num' OK.out rfl), by (repeat' (first | (with_reducible exact Below.refl _ _) | (with_reducible refine Below.alloc ?_ ?_ _) | (with_reducible refine Below.setCell ?_ ?_ _) | (with_reducible refine Below.drew ?_) | (refine below_hyp (by assumption) ?_ ?_) | go_size))⟩
      | exact HR.out _ _ ⟨ret_str (insTxt_cls' OK.out rfl rfl), by (repeat' (first | (with_reducible exact Below.refl _ _) | (with_reducible refine Below.alloc ?_ ?_ _) | (with_reducible refine Below.setCell ?_ ?_ _) | (with_reducible refine Below.drew ?_) | (refine below_hyp (by assumption) ?_ ?_) | go_size))⟩
      | exact HR.out _ _ ⟨ret_str (insTxt_mem' OK.out rfl rfl rfl), by (repeat' (first | (with_reducible exact Below.refl _ _) | (with_reducible refine Below.alloc ?_ ?_ _) | (with_reducible refine Below.setCell ?_ ?_ _) | (with_reducible refine Below.drew ?_) | (refine below_hyp (by assumption) ?_ ?_) | go_size))⟩
      | exact HR.out _ _ ⟨ret_str (insTxt_pln OK.out rfl rfl rfl), by (repeat' (first | (with_reducible exact Below.refl _ _) | (with_reducible refine Below.alloc ?_ ?_ _) | (with_reducible refine Below.setCell ?_ ?_ _) | (with_reducible refine Below.drew ?_) | (refine below_hyp (by assumption) ?_ ?_) | go_size))⟩

end Go.Proofs.YtmbfpbgkchncgaaDoor
