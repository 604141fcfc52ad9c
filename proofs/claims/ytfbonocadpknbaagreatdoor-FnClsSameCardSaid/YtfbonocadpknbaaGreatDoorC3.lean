/-
  Texts of mine, packed: Words, RdP, KndA, TextK, Prn, PrnB. No condition beside those of the single theorems.
-/
import Derived.Test.YtfbonocadpknbaaGreatDoorC2
import Derived.Lib.SplitLaws
import Derived.Lib.IndexLaws
import Derived.Lib.IndexBytes
import Derived.Test.YtfbonocadpknbaaGreatDoorC1
set_option linter.unusedSimpArgs false
set_option linter.unusedVariables false
set_option maxHeartbeats 16000000
set_option maxRecDepth 100000
namespace Go.Proofs.YtfbonocadpknbaaGreatDoor
open Go.RowKit
theorem by_len (s : ByteArray) : (by' s).length = s.size := by
 unfold by'
 rw [Array.length_toList]; rfl
theorem by_drop {s : ByteArray} {k : Nat} (h : k < s.size) : (by' s).drop k = s[k] :: (by' s).drop (k + 1) := by
 rw [List.drop_eq_getElem_cons (by rw [by_len]; exact h)]; rfl
theorem wordsGo_all : ∀ (c l : List UInt8), wordsGo c l ≠ []
 | _, [] => by simp [wordsGo]
 | c, x :: r => by
   unfold wordsGo
   split
   ·simp
   ·exact wordsGo_all _ r
theorem wordsGo_len : ∀ (c l : List UInt8), ∀ w ∈ wordsGo c l, w.length ≤ c.length + l.length
 | c, [], w, h => by
   simp [wordsGo] at h; subst h; simp
 | c, x :: r, w, h => by
   unfold wordsGo at h
   split at h
   ·rcases List.mem_cons.1 h with rfl | h
    ·simp
    ·have := wordsGo_len [] r w h
     simp at this ⊢; omega
   ·have := wordsGo_len (c ++ [x]) r w h
    simp at this ⊢; omega
theorem words_size {s x : ByteArray} (h : x ∈ words s) : x.size ≤ s.size := by
 unfold words at h
 obtain ⟨l, hl, rfl⟩ := List.mem_map.1 h
 have := wordsGo_len [] (by' s) l hl
 rw [tx_size]
 rw [by_len] at this
 simpa using this
theorem words_pos (s : ByteArray) : 0 < (words s).length := by
 unfold words
 rw [List.length_map]
 have := wordsGo_all [] (by' s)
 cases h : wordsGo [] (by' s) with
 | nil => exact absurd h this
 | cons _ _ => simp

def NoSp (l : List UInt8) : Prop := ∀ c ∈ l, c ≠ 32
theorem wordsGo_one : ∀ (l cur : List UInt8), NoSp l → wordsGo cur l = [cur ++ l]
 | [], cur, _ => by simp [wordsGo]
 | c :: r, cur, h => by
   have hc := h c (List.mem_cons_self ..)
   unfold wordsGo
   rw [if_neg hc, wordsGo_one r _ (fun x hx => h x (List.mem_cons_of_mem _ hx))]
   simp
theorem wordsGo_cat : ∀ (a cur l : List UInt8), NoSp a → wordsGo cur (a ++ 32 :: l) = (cur ++ a) :: wordsGo [] l
 | [], cur, l, _ => by simp [wordsGo]
 | c :: r, cur, l, h => by
   have hc := h c (List.mem_cons_self ..)
   show (if c = 32 then cur :: wordsGo [] (r ++ 32 :: l) else wordsGo (cur ++ [c]) (r ++ 32 :: l)) = _
   rw [if_neg hc, wordsGo_cat r _ l (fun x hx => h x (List.mem_cons_of_mem _ hx))]
   simp
def digOk (n : Nat) : Bool := decide (numGo 0 (plainText n) = some (n : Int)) && decide (Lib.decNat (plainText n) = some n) && decide (1 ≤ (plainText n).length) && decide ((plainText n).length ≤ 4) && (plainText n).all (fun c => decide (48 ≤ c.toNat) && decide (c.toNat ≤ 57))
theorem dig_all : ∀ a, a < 100 → ∀ b, b < 100 → digOk (a * 100 + b) = true := by decide +kernel
theorem dig_read (n : Nat) (h : n < 10000) : numGo 0 (plainText n) = some (n : Int) ∧ Lib.decNat (plainText n) = some n ∧ 1 ≤ (plainText n).length ∧ (plainText n).length ≤ 4 ∧ (plainText n).all (fun c => decide (48 ≤ c.toNat) && decide (c.toNat ≤ 57)) = true := by
 have h1 := dig_all (n / 100) (by omega) (n % 100) (by omega)
 rw [show n / 100 * 100 + n % 100 = n by omega] at h1
 simp only [digOk, Bool.and_eq_true, decide_eq_true_eq] at h1
 exact ⟨h1.1.1.1.1, h1.1.1.1.2, h1.1.1.2, h1.1.2, h1.2⟩
theorem plain_noSp {n : Nat} (h : n < 10000) : NoSp (plainText n) := fun c hc e => by
 have := List.all_eq_true.1 (dig_read n h).2.2.2.2 c hc
 subst e
 revert this; decide
theorem num_noSp {n : Int} (h : -9999 ≤ n ∧ n ≤ 9999) : NoSp (numText n) := by
 unfold numText
 split
 ·intro c hc
  rcases List.mem_cons.1 hc with rfl | hc
  ·decide
  ·exact plain_noSp (n := (-n).toNat) (by omega) c hc
 ·exact plain_noSp (n := n.toNat) (by omega)
theorem plain_head {n : Nat} (h : n < 10000) : isNeg (plainText n) = false ∧ ∃ c r, plainText n = c :: r ∧ c ≠ 45 ∧ c ≠ 43 := by
 obtain ⟨_, _, h3, _, h5⟩ := dig_read n h
 match hp : plainText n, h3 with
 | c :: r, _ =>
   rw [hp] at h5
   have hc := List.all_eq_true.1 h5 c (List.mem_cons_self ..)
   have h45 : c ≠ 45 := fun e => by subst e; revert hc; decide
   have h43 : c ≠ 43 := fun e => by subst e; revert hc; decide
   exact ⟨by simpa [isNeg] using h45, c, r, rfl, h45, h43⟩
theorem readNum_text {n : Int} (h : -9999 ≤ n ∧ n ≤ 9999) : readNum (tx (numText n)) = (n, true) := by
 have hb : by' (tx (numText n)) = numText n := by unfold by' tx; simp
 unfold readNum
 rw [hb]
 by_cases hn : n < 0
 ·have ht : numText n = 45 :: plainText (-n).toNat := by unfold numText; rw [if_pos hn]
  obtain ⟨h1, _, h3, h4, _⟩ := dig_read (-n).toNat (by omega)
  have hbody : numBody (numText n) = plainText (-n).toNat := by rw [ht]; rfl
  have hneg : isNeg (numText n) = true := by rw [ht]; rfl
  rw [hbody, if_neg (by omega), h1, hneg]
  have hv : -(((-n).toNat : Nat) : Int) = n := by omega
  simp only [if_true]
  rw [hv]
  simp
 ·have ht : numText n = plainText n.toNat := by unfold numText; rw [if_neg hn]
  obtain ⟨h1, _, h3, h4, _⟩ := dig_read n.toNat (by omega)
  obtain ⟨hng, _⟩ := plain_head (n := n.toNat) (by omega)
  have hneg : isNeg (numText n) = false := by rw [ht]; exact hng
  have hbody : numBody (numText n) = plainText n.toNat := by unfold numBody; rw [hneg, ht]; rfl
  rw [hbody, if_neg (by omega), h1, hneg]
  have hv : ((n.toNat : Nat) : Int) = n := by omega
  simp only [Bool.false_eq_true, if_false]
  rw [hv]
  simp
theorem num_len {n : Int} (h : -9999 ≤ n ∧ n ≤ 9999) : 1 ≤ (numText n).length ∧ (numText n).length ≤ 5 := by
 unfold numText
 split
 ·obtain ⟨_, _, h3, h4, _⟩ := dig_read (-n).toNat (by omega)
  simp only [List.length_cons]; omega
 ·obtain ⟨_, _, h3, h4, _⟩ := dig_read n.toNat (by omega)
  omega
def restOf (i : DClsIns) : List ByteArray := if isNumOp i.fOp then [tx (numText i.fA)] else if isClsOp i.fOp then [i.fName] else if isMemOp i.fOp then [i.fName, i.fMember] else []
theorem op_noSp (op : Int) : NoSp (opText op) := by
 by_cases h : 1 ≤ op ∧ op ≤ 15
 ·rcases fifteen h with rfl | rfl | rfl | rfl | rfl | rfl | rfl | rfl | rfl | rfl | rfl | rfl | rfl | rfl | rfl <;> (intro c hc; revert hc; revert c; decide)
 ·have : opText op = [] := by
   unfold opText
   rw [if_neg (by omega), if_neg (by omega), if_neg (by omega), if_neg (by omega), if_neg (by omega), if_neg (by omega), if_neg (by omega), if_neg (by omega), if_neg (by omega), if_neg (by omega), if_neg (by omega), if_neg (by omega), if_neg (by omega), if_neg (by omega), if_neg (by omega)]
  rw [this]
  intro c hc
  cases hc
theorem nam_noSp {s : ByteArray} (h : namOk s = true) : NoSp (by' s) := fun c hc e => by
 unfold namOk at h
 simp only [Bool.and_eq_true] at h
 have := List.all_eq_true.1 h.2 c hc
 subst e
 revert this; decide
theorem byTx (l : List UInt8) : by' (tx l) = l := by unfold by' tx; simp
theorem txBy (s : ByteArray) : tx (by' s) = s := tx_by s
theorem insOk_cls {i : DClsIns} (ok : insOkD i = true) (h : isClsOp i.fOp = true) : namOk i.fName = true := by
 unfold insOkD insOk at ok
 simp only [isClsOp, Bool.or_eq_true, beq_iff_eq] at h
 rcases h with h | h <;> rw [h] at ok <;> simp at ok <;> exact ok.1.2
theorem insOk_mem {i : DClsIns} (ok : insOkD i = true) (h : isMemOp i.fOp = true) : namOk i.fName = true ∧ namOk i.fMember = true := by
 unfold insOkD insOk at ok
 simp only [isMemOp, Bool.or_eq_true, beq_iff_eq] at h
 rcases h with (h | h) | h <;> rw [h] at ok <;> simp at ok <;> exact ⟨ok.1.2, ok.2⟩
theorem words_of {i : DClsIns} (ok : insOkD i = true) {s : ByteArray} (h : insText i = by' s) : words s = tx (opText i.fOp) :: restOf i := by
 unfold words
 rw [← h]
 unfold insText restOf
 rw [if_pos ok]
 obtain ⟨hop, _, _, ha⟩ := insOk_parts ok
 by_cases h1 : isNumOp i.fOp = true
 ·rw [if_pos h1, if_pos h1, show opText i.fOp ++ ([32] ++ numText i.fA) = opText i.fOp ++ 32 :: numText i.fA from rfl, wordsGo_cat _ _ _ (op_noSp _), wordsGo_one _ _ (num_noSp (ha h1))]
  simp
 rw [if_neg h1, if_neg h1]
 by_cases h2 : isClsOp i.fOp = true
 ·have hn : namOk i.fName = true := insOk_cls ok h2
  rw [if_pos h2, if_pos h2, show opText i.fOp ++ ([32] ++ by' i.fName) = opText i.fOp ++ 32 :: by' i.fName from rfl, wordsGo_cat _ _ _ (op_noSp _), wordsGo_one _ _ (nam_noSp hn)]
  simp [txBy]
 rw [if_neg h2, if_neg h2]
 by_cases h3 : isMemOp i.fOp = true
 ·obtain ⟨hn, hm⟩ := insOk_mem ok h3
  rw [if_pos h3, if_pos h3, show opText i.fOp ++ ([32] ++ by' i.fName ++ [32] ++ by' i.fMember) = opText i.fOp ++ 32 :: (by' i.fName ++ 32 :: by' i.fMember) by simp, wordsGo_cat _ _ _ (op_noSp _), wordsGo_cat _ _ _ (nam_noSp hn), wordsGo_one _ _ (nam_noSp hm)]
  simp [txBy]
 rw [if_neg h3, if_neg h3, wordsGo_one _ _ (op_noSp _)]
 simp

theorem opText_inj {a b : Int} (ha : 1 ≤ a ∧ a ≤ 15) (hb : 1 ≤ b ∧ b ≤ 15) (h : opText a = opText b) : a = b := by
 rcases fifteen ha with rfl | rfl | rfl | rfl | rfl | rfl | rfl | rfl | rfl | rfl | rfl | rfl | rfl | rfl | rfl <;>
 rcases fifteen hb with rfl | rfl | rfl | rfl | rfl | rfl | rfl | rfl | rfl | rfl | rfl | rfl | rfl | rfl | rfl <;>
 first | rfl | (revert h; decide)
theorem insText_lenR {i : DClsIns} : (insText i).length ≤ 18 := by
 rw [insText_txt]
 unfold insTxt
 split
 ·rename_i ok
  obtain ⟨hop, hn, hm, ha⟩ := insOk_parts ok
  have h4 := opText_len i.fOp
  split
  ·rename_i h1
   have h5 := itoa_len (ha h1)
   rw [tx_size] at h5
   simp only [List.length_append, List.length_cons, List.length_nil]; omega
  ·have e1 : i.fName.data.toList.length = i.fName.size := by rw [Array.length_toList]; rfl
   have e2 : i.fMember.data.toList.length = i.fMember.size := by rw [Array.length_toList]; rfl
   split
   ·simp only [List.length_append, List.length_cons, List.length_nil]; omega
   ·split
    ·simp only [List.length_append, List.length_cons, List.length_nil]; omega
    ·omega
 ·simp
theorem bySize (s : ByteArray) : (by' s).length = s.size := by unfold by'; rw [Array.length_toList]; rfl
theorem readNum_nam {s : ByteArray} (h : namOk s = true) : (readNum s).2 = false := by
 unfold readNum
 split
 ·rfl
 ·have hne : numGo 0 (numBody (by' s)) = none := by
   unfold namOk at h
   simp only [Bool.and_eq_true] at h
   have hall := List.all_eq_true.1 h.2
   have hall' : ∀ c ∈ by' s, small c = true := hall
   have hng : isNeg (by' s) = false := by
    cases hb : by' s with
    | nil => rfl
    | cons c r =>
      have := hall' c (by rw [hb]; exact List.mem_cons_self ..)
      have h45 : c ≠ 45 := fun e => by subst e; revert this; decide
      simpa [isNeg] using h45
   unfold numBody
   rw [hng]
   simp only [Bool.false_eq_true, if_false]
   cases hb : by' s with
   | nil =>
     exfalso
     have h9 : s.size = 0 := by
      have := bySize s
      rw [hb] at this
      simpa using this.symm
     rw [h9] at h
     simp at h
   | cons c r =>
     have := hall' c (by rw [hb]; exact List.mem_cons_self ..)
     unfold numGo
     have hd : isDig c = false := by
      cases e : isDig c with
      | false => rfl
      | true =>
        exfalso
        simp only [isDig, small, Bool.and_eq_true, decide_eq_true_eq] at e this
        omega
     rw [hd]; rfl
  rw [hne]
theorem nil_of {x : ByteArray} (hx : x.toList.isEmpty = true) : x = ⟨#[]⟩ := by
 rw [ByteArray.toList_eq] at hx
 have : x.data.toList = [] := List.isEmpty_iff.1 hx
 exact ByteArray.ext (Array.toList_inj.mp (by simpa using this))
theorem insOk_num {i : DClsIns} (ok : insOkD i = true) (h : isNumOp i.fOp = true) : i.fName = ⟨#[]⟩ ∧ i.fMember = ⟨#[]⟩ := by
 unfold insOkD insOk at ok
 simp only [isNumOp, Bool.or_eq_true, beq_iff_eq] at h
 rcases h with ((((h | h) | h) | h) | h) | h <;> rw [h] at ok <;> simp only [Int.reduceBEq, Bool.or_true, Bool.true_or, Bool.or_false, Bool.false_or, if_true, Bool.false_eq_true, if_false, Bool.and_eq_true] at ok <;> exact ⟨nil_of ok.1.2, nil_of ok.2⟩
theorem insOk_cls2 {i : DClsIns} (ok : insOkD i = true) (h : isClsOp i.fOp = true) : i.fA = 0 ∧ i.fMember = ⟨#[]⟩ := by
 unfold insOkD insOk at ok
 simp only [isClsOp, Bool.or_eq_true, beq_iff_eq] at h
 rcases h with h | h <;> rw [h] at ok <;> simp only [Int.reduceBEq, Bool.or_true, Bool.true_or, Bool.or_false, Bool.false_or, if_true, Bool.false_eq_true, if_false, Bool.and_eq_true, beq_iff_eq] at ok <;> exact ⟨ok.1.1, nil_of ok.2⟩
theorem insOk_mem2 {i : DClsIns} (ok : insOkD i = true) (h : isMemOp i.fOp = true) : i.fA = 0 := by
 unfold insOkD insOk at ok
 simp only [isMemOp, Bool.or_eq_true, beq_iff_eq] at h
 rcases h with (h | h) | h <;> rw [h] at ok <;> simp only [Int.reduceBEq, Bool.or_true, Bool.true_or, Bool.or_false, Bool.false_or, if_true, Bool.false_eq_true, if_false, Bool.and_eq_true, beq_iff_eq] at ok <;> exact ok.1.1
theorem insOk_pln {i : DClsIns} (ok : insOkD i = true) (h1 : ¬ isNumOp i.fOp = true) (h2 : ¬ isClsOp i.fOp = true) (h3 : ¬ isMemOp i.fOp = true) : i.fA = 0 ∧ i.fName = ⟨#[]⟩ ∧ i.fMember = ⟨#[]⟩ := by
 obtain ⟨op, a, n, m⟩ := i
 obtain ⟨hop, _⟩ := insOk_parts ok
 unfold insOkD insOk at ok
 rcases fifteen hop with h | h | h | h | h | h | h | h | h | h | h | h | h | h | h <;> simp only at h <;> subst h <;>
 first | (exact absurd rfl h1) | (exact absurd rfl h2) | (exact absurd rfl h3) | (simp only [Int.reduceBEq, Bool.or_true, Bool.true_or, Bool.or_false, Bool.false_or, if_true, Bool.false_eq_true, if_false, Bool.and_eq_true, beq_iff_eq, true_and] at ok; exact ⟨ok.1.1, nil_of ok.1.2, nil_of ok.2⟩)
theorem insOf_words {i : DClsIns} (ok : insOkD i = true) {s : ByteArray} (h : insText i = by' s) : insOf i.fOp (words s) = i := by
 rw [words_of ok h]
 obtain ⟨hop, _, _, ha⟩ := insOk_parts ok
 by_cases h1 : isNumOp i.fOp = true
 ·obtain ⟨e1, e2⟩ := insOk_num ok h1
  have hr := readNum_text (ha h1)
  obtain ⟨op, a, n, m⟩ := i
  simp only at e1 e2 h1 hr
  subst e1 e2
  simp [insOf, restOf, h1, hr]
 by_cases h2 : isClsOp i.fOp = true
 ·obtain ⟨e1, e2⟩ := insOk_cls2 ok h2
  have hr := readNum_nam (insOk_cls ok h2)
  obtain ⟨op, a, n, m⟩ := i
  simp only at e1 e2 h1 h2 hr
  subst e1 e2
  simp [insOf, restOf, h1, h2, hr]
 by_cases h3 : isMemOp i.fOp = true
 ·have e1 := insOk_mem2 ok h3
  have hr := readNum_nam (insOk_mem ok h3).1
  obtain ⟨op, a, n, m⟩ := i
  simp only at e1 h1 h2 h3 hr
  subst e1
  simp [insOf, restOf, h1, h2, h3, hr]
 ·obtain ⟨e1, e2, e3⟩ := insOk_pln ok h1 h2 h3
  obtain ⟨op, a, n, m⟩ := i
  simp only at e1 e2 e3 h1 h2 h3
  subst e1 e2 e3
  simp [insOf, restOf, h1, h2, h3]
theorem S_KndOk (k : Int) (n : ByteArray) (w : World) (hn : n.size ≤ maxLen) :
  Calls Tryz.prog 36 #[.agg #[.int .i64 k, .string n]] w fun e w' => e = .returned (.bool (kndOk k n)) ∧ Below w.heap.size w w' := by
 refine qab fun R HR => ?_
 go_enter Tryz.func36, Tryz.ntmps36
 go_wp2_with (go_at_call 35; refine (S_NamOk _ _ hn).mono ?_; rintro e w' ⟨rfl, rfl⟩)
 all_goals (try go_returns)
 all_goals exact HR.out _ _ ⟨qah (by first | (simp [kndOk, *]; done) | (simp_all [kndOk]; done) | (simp_all [kndOk]; omega) | (simp [kndOk, *]; intros; omega)), bbel⟩

def shapeV (k : Int) (n : ByteArray) : Value := if k == 1 && n.toList.isEmpty then .iface 132 (.agg #[]) else if k == 2 && namOk n then .iface 134 (.agg #[.string n]) else .nilIface

theorem I_shapeOf (k : Int) (n : ByteArray) (w : World) (hn : n.size ≤ maxLen) :
  Calls Tryz.prog 67 #[.agg #[.int .i64 k, .string n]] w fun e w' => e = .returned (shapeV k n) ∧ Below w.heap.size w w' := by
 refine qab fun R HR => ?_
 go_enter Tryz.func67, Tryz.ntmps67
 go_wp2_with (go_at_call 49; refine (I_word_ok _ _ hn).mono ?_; rintro e w' ⟨rfl, rfl⟩)
 all_goals (try go_returns)
 all_goals exact HR.out _ _ ⟨ret_val (by first | (simp [shapeV, *]; done) | (simp_all [shapeV]; done) | (simp_all [shapeV]; omega) | (simp [shapeV, *]; intros; omega)), bbel⟩

theorem neq_shape (k : Int) (n : ByteArray) (w : World) : (binOp .neq 109 (shapeV k n) .nilIface).run Tryz.prog w = .ok (.bool (kndOk k n)) w := by
 unfold shapeV kndOk
 cases (k == 1 && n.toList.isEmpty) <;> cases (k == 2 && namOk n) <;> simp [go_sem]
theorem grd_shape (k : Int) (n : ByteArray) (x : Operand) (w : World) : (eqGuard .neq 109 x (.const .nilIface) (shapeV k n) .nilIface).run Tryz.prog w = .ok () w := by
 unfold shapeV
 cases (k == 1 && n.toList.isEmpty) <;> cases (k == 2 && namOk n) <;> simp [go_sem, eqGuard]

theorem I_KndOk (k : Int) (n : ByteArray) (w : World) (hn : n.size ≤ maxLen) :
  Calls Tryz.prog 99 #[.agg #[.int .i64 k, .string n]] w fun e w' => e = .returned (.bool (kndOk k n)) ∧ Below w.heap.size w w' := by
 have hq := neq_shape k n
 have hg := grd_shape k n
 refine qab fun R HR => ?_
 go_enter Tryz.func99, Tryz.ntmps99
 go_wp2_with (go_at_call 67; refine (I_shapeOf _ _ _ hn).mono ?_; rintro e w' ⟨rfl, hb⟩)
 all_goals (try go_returns)
 all_goals exact HR.out _ _ ⟨rfl, bbel⟩

theorem S_TagOk (k : Int) (n : ByteArray) (w : World) (hn : n.size ≤ maxLen) :
  Calls Tryz.prog 98 #[.agg #[.int .i64 k, .string n]] w fun e w' => e = .returned (.bool (tagOk k n)) ∧ Below w.heap.size w w' := by
 refine qab fun R HR => ?_
 go_enter Tryz.func98, Tryz.ntmps98
 go_wp2_with (go_at_call 35; refine (S_NamOk _ _ hn).mono ?_; rintro e w' ⟨rfl, rfl⟩)
 all_goals (try go_returns)
 all_goals exact HR.out _ _ ⟨qah (by first | (simp [tagOk, *]; done) | (simp_all [tagOk]; done) | (simp_all [tagOk]; omega) | (simp [tagOk, *]; intros; omega)), bbel⟩

theorem I_TagOk (k : Int) (n : ByteArray) (w : World) (hn : n.size ≤ maxLen) :
  Calls Tryz.prog 86 #[.agg #[.int .i64 k, .string n]] w fun e w' => e = .returned (.bool (tagOk k n)) ∧ Below w.heap.size w w' := by
 refine qab fun R HR => ?_
 go_enter Tryz.func86, Tryz.ntmps86
 go_wp2_with (go_at_call 25; refine (I_NamOk _ _ hn).mono ?_; rintro e w' ⟨rfl, rfl⟩)
 all_goals (try go_returns)
 all_goals exact HR.out _ _ ⟨qah (by first | (simp [tagOk, *]; done) | (simp_all [tagOk]; done) | (simp_all [tagOk]; omega) | (simp [tagOk, *]; intros; omega)), bbel⟩

def kndText (k : Int) (n : ByteArray) : ByteArray := if k == 1 && n.toList.isEmpty then ⟨#[35]⟩ else if k == 2 && namOk n then n else ⟨#[]⟩
def tagText (k : Int) (n : ByteArray) : ByteArray := if tagOk k n then (if k == 0 then ⟨#[63]⟩ else if k == 1 then ⟨#[35]⟩ else if k == 3 then ⟨#[33]⟩ else n) else ⟨#[]⟩

theorem I_numShape_text (w : World) :
  Calls Tryz.prog 137 #[.agg #[]] w fun e w' => e = .returned (.string ⟨#[35]⟩) ∧ Below w.heap.size w w' := by
 refine qab fun R HR => ?_
 go_enter Tryz.func137, Tryz.ntmps137
 go_wp2
 all_goals (try go_returns)
 all_goals exact HR.out _ _ ⟨rfl, bbel⟩

theorem I_refShape_text (s : ByteArray) (w : World) :
  Calls Tryz.prog 139 #[.agg #[.string s]] w fun e w' => e = .returned (.string s) ∧ Below w.heap.size w w' := by
 refine qab fun R HR => ?_
 go_enter Tryz.func139, Tryz.ntmps139
 go_wp2
 all_goals (try go_returns)
 all_goals exact HR.out _ _ ⟨rfl, bbel⟩

theorem I_KndText (k : Int) (n : ByteArray) (w : World) (hn : n.size ≤ maxLen) :
  Calls Tryz.prog 42 #[.agg #[.int .i64 k, .string n]] w fun e w' => e = .returned (.string (kndText k n)) ∧ Below w.heap.size w w' := by
 by_cases h1 : (k == 1 && n.toList.isEmpty) = true
 ·have hs : shapeV k n = .iface 132 (.agg #[]) := by simp only [shapeV, h1, if_true]
  have ht : kndText k n = ⟨#[35]⟩ := by simp only [kndText, h1, if_true]
  have HT := qhd ht
  clear ht h1
  refine qab fun R HR => ?_
  go_enter Tryz.func42, Tryz.ntmps42
  go_wp2_with fail
  refine (I_shapeOf _ _ _ hn).mono ?_
  rw [hs]
  rintro e w1 ⟨rfl, hb⟩
  have hbs := (hb).size; (try simp only [qsz] at hbs); obtain ⟨hbd, hbo, hbg, hbp, hbx, hby⟩ := bf1 (n := w.heap.size) hb
  clear hs
  go_wp2_with fail
  refine (I_numShape_text _).mono ?_
  rintro e w2 ⟨rfl, hc⟩
  go_wp2
  all_goals (try go_returns)
  all_goals exact HR.out _ _ ⟨ret_str HT.out.symm, bbel⟩
 by_cases h2 : (k == 2 && namOk n) = true
 ·have hs : shapeV k n = .iface 134 (.agg #[.string n]) := by simp only [shapeV, h1, h2, if_true]; rfl
  have ht : kndText k n = n := by simp only [kndText, h1, h2, if_true]; rfl
  have HT := qhd ht
  clear ht h1 h2
  refine qab fun R HR => ?_
  go_enter Tryz.func42, Tryz.ntmps42
  go_wp2_with fail
  refine (I_shapeOf _ _ _ hn).mono ?_
  rw [hs]
  rintro e w1 ⟨rfl, hb⟩
  have hbs := (hb).size; (try simp only [qsz] at hbs); obtain ⟨hbd, hbo, hbg, hbp, hbx, hby⟩ := bf1 (n := w.heap.size) hb
  clear hs
  go_wp2_with fail
  refine (I_refShape_text _ _).mono ?_
  rintro e w2 ⟨rfl, hc⟩
  go_wp2
  all_goals (try go_returns)
  all_goals exact HR.out _ _ ⟨ret_str HT.out.symm, bbel⟩
 ·have hs : shapeV k n = .nilIface := by simp only [shapeV, h1, h2]; rfl
  have ht : kndText k n = ⟨#[]⟩ := by simp only [kndText, h1, h2]; rfl
  have HT := qhd ht
  clear ht h1 h2
  refine qab fun R HR => ?_
  go_enter Tryz.func42, Tryz.ntmps42
  go_wp2_with fail
  refine (I_shapeOf _ _ _ hn).mono ?_
  rw [hs]
  rintro e w1 ⟨rfl, hb⟩
  have hbs := (hb).size; (try simp only [qsz] at hbs); obtain ⟨hbd, hbo, hbg, hbp, hbx, hby⟩ := bf1 (n := w.heap.size) hb
  clear hs
  go_wp2
  all_goals (try go_returns)
  all_goals exact HR.out _ _ ⟨ret_str HT.out.symm, bbel⟩




theorem I_TagText (k : Int) (n : ByteArray) (w : World) (hn : n.size ≤ maxLen) :
  Calls Tryz.prog 68 #[.agg #[.int .i64 k, .string n]] w fun e w' => e = .returned (.string (tagText k n)) ∧ Below w.heap.size w w' := by
 refine qab fun R HR => ?_
 go_enter Tryz.func68, Tryz.ntmps68
 go_wp2_with fail
 refine (I_TagOk _ _ _ hn).mono ?_
 rintro e w1 ⟨rfl, hb⟩
 have hbs := (hb).size; (try simp only [qsz] at hbs); obtain ⟨hbd, hbo, hbg, hbp, hbx, hby⟩ := bf1 (n := w.heap.size) hb
 go_wp2
 all_goals (try go_returns)
 all_goals exact HR.out _ _ ⟨ret_str (by first | (simp [tagText, *]; done) | (simp_all [tagText]; done) | (simp_all [tagText]; omega) | (simp [tagText, *]; intros; omega)), bbel⟩

def joinW : List (List UInt8) → List UInt8
 | [] => []
 | [w] => w
 | w :: v :: r => w ++ 32 :: joinW (v :: r)
theorem joinW_app : ∀ {ws vs : List (List UInt8)}, ws ≠ [] → joinW (ws ++ vs) = joinW ws ++ (vs.map (32 :: ·)).flatten
 | [], _, h => absurd rfl h
 | [w], [], _ => by simp [joinW]
 | [w], v :: r, _ => by
   have := joinW_app (ws := [v]) (vs := r) (by simp)
   simp only [List.cons_append, List.nil_append] at this
   simp only [List.cons_append, List.nil_append, joinW, this, List.map_cons, List.flatten_cons]
 | w :: v :: r, vs, _ => by
   have := joinW_app (ws := v :: r) (vs := vs) (by simp)
   simp only [List.cons_append] at this
   simp only [List.cons_append, joinW, this, List.append_assoc]
theorem joinW_snoc {ws : List (List UInt8)} {w : List UInt8} (h : ws ≠ []) : joinW (ws ++ [w]) = joinW ws ++ 32 :: w := by
 rw [joinW_app h]; simp
theorem words_join : ∀ {ws : List (List UInt8)}, ws ≠ [] → (∀ w ∈ ws, NoSp w) → wordsGo [] (joinW ws) = ws
 | [], h, _ => absurd rfl h
 | [w], _, h => by
   show wordsGo [] w = [w]
   rw [wordsGo_one w [] (h w (by simp))]; rfl
 | w :: v :: r, _, h => by
   show wordsGo [] (w ++ 32 :: joinW (v :: r)) = _
   rw [wordsGo_cat w [] _ (h w (by simp)), words_join (ws := v :: r) (by simp) (fun x hx => h x (List.mem_cons_of_mem _ hx))]
   rfl
theorem wordsGo_ne : ∀ (l cur : List UInt8), wordsGo cur l ≠ []
 | [], cur => by simp [wordsGo]
 | c :: r, cur => by
   unfold wordsGo
   split
   ·simp
   ·exact wordsGo_ne r _
theorem join_words : ∀ (l cur : List UInt8), joinW (wordsGo cur l) = cur ++ l
 | [], cur => by simp [wordsGo, joinW]
 | c :: r, cur => by
   unfold wordsGo
   split
   ·rename_i hc
    subst hc
    have h1 := join_words r []
    cases h : wordsGo [] r with
    | nil => exact absurd h (wordsGo_ne r [])
    | cons v t =>
      rw [h] at h1
      simp only [joinW]
      rw [h1]; simp
   ·rw [join_words r]; simp
theorem wordsGo_join (l : List UInt8) (ws : List (List UInt8)) (h : wordsGo [] l = ws) : l = joinW ws := by
 rw [← h, join_words]; rfl
def GW (ws : List (List UInt8)) : Prop := ws ≠ [] ∧ ∀ w ∈ ws, NoSp w
theorem joinW_inj {a b : List (List UInt8)} (ha : GW a) (hb : GW b) (h : joinW a = joinW b) : a = b := by
 rw [← words_join ha.1 ha.2, h, words_join hb.1 hb.2]
theorem by'_inj {a b : ByteArray} (h : by' a = by' b) : a = b := by rw [← txBy a, h, txBy]
theorem tx_inj {a b : List UInt8} (h : tx a = tx b) : a = b := by rw [← byTx a, h, byTx]

def wAsks : List UInt8 := [97, 115, 107, 115]
def wClass : List UInt8 := [99, 108, 97, 115, 115]
def wField : List UInt8 := [102, 105, 101, 108, 100]
def wMethod : List UInt8 := [109, 101, 116, 104, 111, 100]
def wFrame : List UInt8 := [102, 114, 97, 109, 101]
def wKeeper : List UInt8 := [107, 101, 101, 112, 101, 114]
def ktW (k : DKndKind) : List UInt8 := by' (kndText k.fKind k.fName)
def tgW (t : DTagTag) : List UInt8 := by' (tagText t.fKind t.fName)
def insW (i : DClsIns) : List (List UInt8) := opText i.fOp :: (restOf i).map by'
def askW (a : DLodAsk) : List (List UInt8) := [wAsks, by' a.fName, numText a.fKeeper]
def supW (s : ByteArray) : List UInt8 := if s.toList.isEmpty then [45] else by' s
def clsW (c : DClsClass) : List (List UInt8) := [wClass, by' c.fName, supW c.fSuper]
def fldW (f : DClsField) : List (List UInt8) := [wField, by' f.fName, ktW f.fKind]
def mthW (m : DClsMethod) : List (List UInt8) := [wMethod, by' m.fName, numText m.fLocals, numText m.fStack, ktW m.fRet] ++ m.fArgs.map ktW
def mapW (f : DClsMap) : List (List UInt8) := [wFrame, numText f.fAt] ++ f.fLocals.map tgW ++ ([47] :: f.fStack.map tgW)
def mthWs (m : DClsMethod) : List (List (List UInt8)) := mthW m :: (m.fMaps.map mapW ++ m.fCode.map insW)
def clsWs (c : DClsClass) : List (List (List UInt8)) := clsW c :: (c.fFields.map fldW ++ c.fMethods.flatMap mthWs)
def kprWs (k : DLodKeeper) : List (List (List UInt8)) := [wKeeper] :: (k.fAsks.map askW ++ k.fOwns.flatMap clsWs)
def planWs (p : DLodPlan) : List (List (List UInt8)) := p.fKeepers.flatMap kprWs
def lineT (ws : List (List UInt8)) : ByteArray := tx (joinW ws)
def planLines (p : DLodPlan) : List ByteArray := if lodOk p then (planWs p).map lineT else []

theorem nam_no {s : ByteArray} (h : namOk s = true) {c : UInt8} (hc : small c = false) : c ∉ by' s := fun hm => by
 unfold namOk at h
 simp only [Bool.and_eq_true] at h
 have := List.all_eq_true.1 h.2 c hm
 rw [hc] at this; cases this
theorem kt_cases {k : DKndKind} (h : kndOkD k = true) : (k = ⟨1, ⟨#[]⟩⟩ ∧ ktW k = [35]) ∨ (k.fKind = 2 ∧ namOk k.fName = true ∧ ktW k = by' k.fName) := by
 obtain ⟨kd, n⟩ := k
 unfold kndOkD kndOk at h
 simp only [Bool.or_eq_true, Bool.and_eq_true, beq_iff_eq] at h
 rcases h with ⟨h1, h2⟩ | ⟨h1, h2⟩
 ·subst h1
  obtain rfl := nil_of h2
  exact Or.inl ⟨rfl, by unfold ktW kndText by'; simp⟩
 ·subst h1
  exact Or.inr ⟨rfl, h2, by unfold ktW kndText; simp [h2]⟩
theorem kt_noSp {k : DKndKind} (h : kndOkD k = true) : NoSp (ktW k) := by
 rcases kt_cases h with ⟨_, h1⟩ | ⟨_, h2, h1⟩
 ·rw [h1]; intro c hc; simp at hc; subst hc; decide
 ·rw [h1]; exact nam_noSp h2
theorem kt_inj {k k' : DKndKind} (h : kndOkD k = true) (h' : kndOkD k' = true) (e : ktW k = ktW k') : k = k' := by
 rcases kt_cases h with ⟨h0, h1⟩ | ⟨h0, h2, h1⟩ <;> rcases kt_cases h' with ⟨h0', h1'⟩ | ⟨h0', h2', h1'⟩
 ·rw [h0, h0']
 ·rw [h1, h1'] at e
  exact absurd (by rw [← e]; simp) (nam_no h2' (c := 35) (by decide))
 ·rw [h1, h1'] at e
  exact absurd (by rw [e]; simp) (nam_no h2 (c := 35) (by decide))
 ·rw [h1, h1'] at e
  obtain ⟨a, b⟩ := k
  obtain ⟨a', b'⟩ := k'
  simp only at h0 h0' e
  rw [h0, h0', by'_inj e]
theorem tg_cases {t : DTagTag} (h : tagOkD t = true) : (t.fName = ⟨#[]⟩ ∧ ((t.fKind = 0 ∧ tgW t = [63]) ∨ (t.fKind = 1 ∧ tgW t = [35]) ∨ (t.fKind = 3 ∧ tgW t = [33]))) ∨ (t.fKind = 2 ∧ namOk t.fName = true ∧ tgW t = by' t.fName) := by
 obtain ⟨kd, n⟩ := t
 have h9 := h
 unfold tagOkD tagOk at h
 simp only [Bool.or_eq_true, Bool.and_eq_true, beq_iff_eq] at h
 rcases h with ⟨h1, h2⟩ | ⟨h1, h2⟩
 ·obtain rfl := nil_of h2
  refine Or.inl ⟨rfl, ?_⟩
  unfold tagOkD at h9
  rcases h1 with (h1 | h1) | h1 <;> subst h1 <;> simp [tgW, tagText, by', h9]
 ·subst h1
  unfold tagOkD at h9
  refine Or.inr ⟨rfl, h2, ?_⟩
  simp only at h9
  simp [tgW, tagText, h9]
theorem tg_noSp {t : DTagTag} (h : tagOkD t = true) : NoSp (tgW t) := by
 rcases tg_cases h with ⟨_, ⟨_, h1⟩ | ⟨_, h1⟩ | ⟨_, h1⟩⟩ | ⟨_, h2, h1⟩
 ·rw [h1]; intro c hc; simp at hc; subst hc; decide
 ·rw [h1]; intro c hc; simp at hc; subst hc; decide
 ·rw [h1]; intro c hc; simp at hc; subst hc; decide
 ·rw [h1]; exact nam_noSp h2
theorem tg_ne {t : DTagTag} (h : tagOkD t = true) : tgW t ≠ [47] := by
 rcases tg_cases h with ⟨_, ⟨_, h1⟩ | ⟨_, h1⟩ | ⟨_, h1⟩⟩ | ⟨_, h2, h1⟩
 ·rw [h1]; decide
 ·rw [h1]; decide
 ·rw [h1]; decide
 ·rw [h1]; intro e; exact absurd (by rw [e]; simp) (nam_no h2 (c := 47) (by decide))
theorem tg_inj {t t' : DTagTag} (h : tagOkD t = true) (h' : tagOkD t' = true) (e : tgW t = tgW t') : t = t' := by
 have hn : ∀ {s : DTagTag} {c : UInt8}, namOk s.fName = true → small c = false → by' s.fName = [c] → False := fun h1 h2 h3 => absurd (by rw [h3]; simp) (nam_no h1 h2)
 obtain ⟨a, b⟩ := t
 obtain ⟨a', b'⟩ := t'
 rcases tg_cases h with ⟨hb, ⟨ha, h1⟩ | ⟨ha, h1⟩ | ⟨ha, h1⟩⟩ | ⟨ha, h2, h1⟩ <;> rcases tg_cases h' with ⟨hb', ⟨ha', h1'⟩ | ⟨ha', h1'⟩ | ⟨ha', h1'⟩⟩ | ⟨ha', h2', h1'⟩ <;> rw [h1, h1'] at e <;> simp only at ha ha' <;> subst ha <;> subst ha'
 all_goals first
  | (simp only at hb hb'; subst hb; subst hb'; first | rfl | (exfalso; revert e; decide))
  | (exact (hn h2' (by decide) e.symm).elim)
  | (exact (hn h2 (by decide) e).elim)
  | (simp only at e; rw [by'_inj e])
theorem num_inj {a b : Int} (ha : -9999 ≤ a ∧ a ≤ 9999) (hb : -9999 ≤ b ∧ b ≤ 9999) (e : numText a = numText b) : a = b := by
 have h1 := readNum_text ha
 rw [e, readNum_text hb] at h1
 exact (Prod.mk.inj h1).1.symm
theorem sup_noSp {s : ByteArray} (h : (s.toList.isEmpty || namOk s) = true) : NoSp (supW s) := by
 unfold supW
 split
 ·intro c hc; simp at hc; subst hc; decide
 ·rename_i h1
  have : namOk s = true := by simpa [h1] using h
  exact nam_noSp this
theorem sup_inj {s s' : ByteArray} (h : (s.toList.isEmpty || namOk s) = true) (h' : (s'.toList.isEmpty || namOk s') = true) (e : supW s = supW s') : s = s' := by
 unfold supW at e
 by_cases h1 : s.toList.isEmpty = true <;> by_cases h2 : s'.toList.isEmpty = true
 ·rw [nil_of h1, nil_of h2]
 ·rw [if_pos h1, if_neg h2] at e
  have h3 : namOk s' = true := by simpa [h2] using h'
  exact absurd (by rw [← e]; simp) (nam_no h3 (c := 45) (by decide))
 ·rw [if_neg h1, if_pos h2] at e
  have h3 : namOk s = true := by simpa [h1] using h
  exact absurd (by rw [e]; simp) (nam_no h3 (c := 45) (by decide))
 ·rw [if_neg h1, if_neg h2] at e
  exact by'_inj e

theorem map_injOn {α β : Type} {f : α → β} : ∀ {xs ys : List α}, (∀ x ∈ xs, ∀ y ∈ ys, f x = f y → x = y) → xs.map f = ys.map f → xs = ys
 | [], [], _, _ => rfl
 | [], y :: ys, _, h => by simp at h
 | x :: xs, [], _, h => by simp at h
 | x :: xs, y :: ys, hi, h => by
   simp only [List.map_cons, List.cons.injEq] at h
   rw [hi x (by simp) y (by simp) h.1, map_injOn (fun a ha b hb => hi a (List.mem_cons_of_mem _ ha) b (List.mem_cons_of_mem _ hb)) h.2]
theorem cut_inj {β : Type} (p : β → Bool) : ∀ {a a' r r' : List β}, (∀ b ∈ a, p b = true) → (∀ b ∈ a', p b = true) → (∀ b, r[0]? = some b → p b = false) → (∀ b, r'[0]? = some b → p b = false) → a ++ r = a' ++ r' → a = a' ∧ r = r'
 | [], [], _, _, _, _, _, _, h => ⟨rfl, by simpa using h⟩
 | [], y :: ys, r, r', _, h2, h3, _, h => by
   have h4 : r[0]? = some y := by rw [List.nil_append] at h; rw [h]; rfl
   have := h3 y h4
   rw [h2 y (by simp)] at this; cases this
 | x :: xs, [], r, r', h1, _, _, h3, h => by
   have h4 : r'[0]? = some x := by rw [List.nil_append] at h; rw [← h]; rfl
   have := h3 x h4
   rw [h1 x (by simp)] at this; cases this
 | x :: xs, y :: ys, r, r', h1, h2, h3, h4, h => by
   simp only [List.cons_append, List.cons.injEq] at h
   obtain ⟨h5, h6⟩ := cut_inj p (fun b hb => h1 b (List.mem_cons_of_mem _ hb)) (fun b hb => h2 b (List.mem_cons_of_mem _ hb)) h3 h4 h.2
   exact ⟨by rw [h.1, h5], h6⟩
def BlkOf {α β : Type} (hd : β → Bool) (blk : α → List β) (x : α) : Prop := ∃ h t, blk x = h :: t ∧ hd h = true ∧ ∀ b ∈ t, hd b = false
theorem flat_head {α β : Type} {hd : β → Bool} {blk : α → List β} : ∀ {xs : List α}, (∀ x ∈ xs, BlkOf hd blk x) → ∀ b, (xs.flatMap blk)[0]? = some b → hd b = true
 | [], _, b, h => by simp at h
 | x :: xs, hx, b, h => by
   obtain ⟨h0, t, e, h1, _⟩ := hx x (by simp)
   rw [List.flatMap_cons, e] at h
   simp at h
   rw [← h]; exact h1
theorem flat_injOn {α β : Type} {hd : β → Bool} {blk : α → List β} : ∀ {xs ys : List α}, (∀ x ∈ xs, BlkOf hd blk x) → (∀ y ∈ ys, BlkOf hd blk y) → (∀ x ∈ xs, ∀ y ∈ ys, blk x = blk y → x = y) → xs.flatMap blk = ys.flatMap blk → xs = ys
 | [], [], _, _, _, _ => rfl
 | [], y :: ys, _, hy, _, h => by
   obtain ⟨h0, t, e, _⟩ := hy y (by simp)
   rw [List.flatMap_cons, e] at h; simp at h
 | x :: xs, [], hx, _, _, h => by
   obtain ⟨h0, t, e, _⟩ := hx x (by simp)
   rw [List.flatMap_cons, e] at h; simp at h
 | x :: xs, y :: ys, hx, hy, hi, h => by
   obtain ⟨h0, t, e, h1, h2⟩ := hx x (by simp)
   obtain ⟨h0', t', e', h1', h2'⟩ := hy y (by simp)
   have hxs : ∀ z ∈ xs, BlkOf hd blk z := fun z hz => hx z (List.mem_cons_of_mem _ hz)
   have hys : ∀ z ∈ ys, BlkOf hd blk z := fun z hz => hy z (List.mem_cons_of_mem _ hz)
   rw [List.flatMap_cons, List.flatMap_cons, e, e'] at h
   simp only [List.cons_append, List.cons.injEq] at h
   obtain ⟨h5, h6⟩ := cut_inj (fun b => !hd b) (fun b hb => by simp [h2 b hb]) (fun b hb => by simp [h2' b hb]) (fun b hb => by simp [flat_head hxs b hb]) (fun b hb => by simp [flat_head hys b hb]) h.2
   rw [hi x (by simp) y (by simp) (by rw [e, e', h.1, h5]), flat_injOn hxs hys (fun a ha b hb => hi a (List.mem_cons_of_mem _ ha) b (List.mem_cons_of_mem _ hb)) h6]

theorem gw_cons {w : List UInt8} {r : List (List UInt8)} (h : NoSp w) (hr : ∀ x ∈ r, NoSp x) : GW (w :: r) := ⟨by simp, fun x hx => by
 rcases List.mem_cons.1 hx with rfl | hx
 ·exact h
 ·exact hr x hx⟩
theorem noSp_lit {l : List UInt8} (h : l.all (fun c => decide (c ≠ 32)) = true) : NoSp l := fun c hc => by
 have := List.all_eq_true.1 h c hc
 simpa using this
theorem ins_noSp {i : DClsIns} (ok : insOkD i = true) : ∀ x ∈ (restOf i).map by', NoSp x := by
 obtain ⟨_, _, _, ha⟩ := insOk_parts ok
 intro x hx
 obtain ⟨s, hs, rfl⟩ := List.mem_map.1 hx
 unfold restOf at hs
 by_cases h1 : isNumOp i.fOp = true
 ·rw [if_pos h1] at hs
  simp only [List.mem_cons, List.not_mem_nil, or_false] at hs
  subst hs
  rw [byTx]; exact num_noSp (ha h1)
 rw [if_neg h1] at hs
 by_cases h2 : isClsOp i.fOp = true
 ·rw [if_pos h2] at hs
  simp only [List.mem_cons, List.not_mem_nil, or_false] at hs
  subst hs
  exact nam_noSp (insOk_cls ok h2)
 rw [if_neg h2] at hs
 by_cases h3 : isMemOp i.fOp = true
 ·rw [if_pos h3] at hs
  simp only [List.mem_cons, List.not_mem_nil, or_false] at hs
  rcases hs with rfl | rfl
  ·exact nam_noSp (insOk_mem ok h3).1
  ·exact nam_noSp (insOk_mem ok h3).2
 rw [if_neg h3] at hs
 cases hs
theorem ins_gw {i : DClsIns} (ok : insOkD i = true) : GW (insW i) := gw_cons (op_noSp _) (ins_noSp ok)
theorem ins_text {i : DClsIns} (ok : insOkD i = true) : insText i = joinW (insW i) := by
 have h1 := words_of ok (s := tx (insText i)) (byTx _).symm
 have h2 : wordsGo [] (insText i) = insW i := by
  have h3 : (wordsGo [] (insText i)).map tx = (insW i).map tx := by
   unfold words at h1
   rw [byTx] at h1
   rw [h1]
   unfold insW
   rw [List.map_cons, List.map_map]
   have : (tx ∘ by') = id := by funext x; exact txBy x
   rw [this, List.map_id]
  have h4 := congrArg (List.map by') h3
  rw [List.map_map, List.map_map] at h4
  have h5 : (by' ∘ tx) = id := by funext x; exact byTx x
  rwa [h5, List.map_id, List.map_id] at h4
 exact wordsGo_join _ _ h2
theorem ins_inj {i j : DClsIns} (hi : insOkD i = true) (hj : insOkD j = true) (e : insW i = insW j) : i = j := by
 have h1 : opText i.fOp = opText j.fOp := (List.cons.inj e).1
 have h2 := opText_inj (insOk_parts hi).1 (insOk_parts hj).1 h1
 have h3 := insOf_words hi (s := tx (insText i)) (byTx _).symm
 have h4 := insOf_words hj (s := tx (insText j)) (byTx _).symm
 rw [ins_text hi, e] at h3
 rw [ins_text hj, ← h2] at h4
 exact h3.symm.trans h4
theorem op_ne {op : Int} (h : 1 ≤ op ∧ op ≤ 15) : opText op ≠ wFrame ∧ opText op ≠ wMethod ∧ opText op ≠ wClass ∧ opText op ≠ wKeeper := by
 rcases fifteen h with rfl | rfl | rfl | rfl | rfl | rfl | rfl | rfl | rfl | rfl | rfl | rfl | rfl | rfl | rfl <;> decide
def isH (w : List UInt8) (ws : List (List UInt8)) : Bool := ws.head? == some w
structure MthP (m : DClsMethod) : Prop where
 nm : namOk m.fName = true
 ret : kndOkD m.fRet = true
 args : ∀ k ∈ m.fArgs, kndOkD k = true
 alen : m.fArgs.length ≤ 3
 loc : 0 ≤ m.fLocals ∧ m.fLocals ≤ 6
 stk : 0 ≤ m.fStack ∧ m.fStack ≤ 5
 code : ∀ i ∈ m.fCode, insOkD i = true
 clen : m.fCode.length ≤ 16
 mlen : m.fMaps.length ≤ 5
 maps : ∀ f ∈ m.fMaps, (0 ≤ f.fAt ∧ f.fAt ≤ 16) ∧ (∀ t ∈ f.fLocals, tagOkD t = true) ∧ (∀ t ∈ f.fStack, tagOkD t = true) ∧ f.fLocals.length ≤ 6 ∧ f.fStack.length ≤ 5
theorem each_mem {α : Type} {f : α → Bool} {xs : List α} (h : each (fun _ x => f x) xs = true) : ∀ x ∈ xs, f x = true := fun x hx => by
 obtain ⟨i, hi⟩ := List.mem_iff_getElem?.1 hx
 exact each_iff.1 h i x hi
theorem maps_pos {m : DClsMethod} (h : each (mapIn m) m.fMaps = true) : ∀ (k : Nat) (x : DClsMap), m.fMaps[k]? = some x → 0 < x.fAt
 | 0, x, hx => by
   have := each_iff.1 h 0 x hx
   unfold mapIn at this
   simp only [Bool.and_eq_true, lastAt] at this
   exact of_decide_eq_true this.1.1.1.1.1
 | k + 1, x, hx => by
   have h1 := each_iff.1 h (k + 1) x hx
   unfold mapIn at h1
   simp only [Bool.and_eq_true, decide_eq_true_eq] at h1
   have h2 := h1.1.1.1.1.1
   have hk : k < m.fMaps.length := by have := (List.getElem?_eq_some_iff.1 hx).1; omega
   have h3 := maps_pos h k m.fMaps[k] (List.getElem?_eq_getElem hk)
   simp only [lastAt, List.getElem?_eq_getElem hk] at h2
   omega
theorem mth_parts {m : DClsMethod} (h : mthOk m = true) : MthP m := by
 unfold mthOk codeOk mapsOk at h
 simp only [Bool.and_eq_true, decide_eq_true_eq] at h
 obtain ⟨⟨⟨⟨⟨⟨⟨⟨⟨h1, h2⟩, h3⟩, h4⟩, h5⟩, h6⟩, h7⟩, h8⟩, ⟨⟨h9, h10⟩, h11⟩⟩, ⟨h12, h13⟩⟩ := h
 refine ⟨h1, h3, each_mem h4, h2, ⟨by omega, h6⟩, ⟨by omega, h8⟩, fun i hi => ?_, h10, h12, fun f hf => ?_⟩
 ·have := each_mem h11 i hi
  unfold insIn at this
  simp only [Bool.and_eq_true] at this
  exact this.1.1
 ·obtain ⟨k, hk⟩ := List.mem_iff_getElem?.1 hf
  have hp := maps_pos h13 k f hk
  have h14 := each_iff.1 h13 k f hk
  unfold mapIn at h14
  simp only [Bool.and_eq_true, decide_eq_true_eq] at h14
  obtain ⟨⟨⟨⟨⟨_, ha⟩, hb⟩, hc⟩, hd⟩, he⟩ := h14
  exact ⟨⟨by omega, by omega⟩, each_mem hd, each_mem he, by omega, by omega⟩
theorem map_gw {m : DClsMethod} (h : MthP m) {f : DClsMap} (hf : f ∈ m.fMaps) : GW (mapW f) := by
 obtain ⟨h1, h2, h3, _⟩ := h.maps f hf
 rw [show mapW f = wFrame :: numText f.fAt :: (f.fLocals.map tgW ++ ([47] :: f.fStack.map tgW)) from rfl]
 refine gw_cons (noSp_lit (by decide)) fun x hx => ?_
 simp only [List.mem_cons, List.mem_append, List.mem_map] at hx
 rcases hx with rfl | ⟨t, ht, rfl⟩ | rfl | ⟨t, ht, rfl⟩
 ·exact num_noSp (by omega)
 ·exact tg_noSp (h2 t ht)
 ·exact noSp_lit (by decide)
 ·exact tg_noSp (h3 t ht)
theorem map_inj {m m' : DClsMethod} (h : MthP m) (h' : MthP m') {f f' : DClsMap} (hf : f ∈ m.fMaps) (hf' : f' ∈ m'.fMaps) (e : mapW f = mapW f') : f = f' := by
 obtain ⟨h1, h2, h3, _⟩ := h.maps f hf
 obtain ⟨h1', h2', h3', _⟩ := h'.maps f' hf'
 unfold mapW at e
 simp only [List.cons_append, List.nil_append, List.cons.injEq, true_and] at e
 have e1 := num_inj (by omega) (by omega) e.1
 obtain ⟨e2, e3⟩ := cut_inj (fun w : List UInt8 => !(w == [47])) (fun b hb => by
  obtain ⟨t, ht, rfl⟩ := List.mem_map.1 hb
  simpa using tg_ne (h2 t ht)) (fun b hb => by
  obtain ⟨t, ht, rfl⟩ := List.mem_map.1 hb
  simpa using tg_ne (h2' t ht)) (fun b hb => by simp at hb; subst hb; decide) (fun b hb => by simp at hb; subst hb; decide) e.2
 have e4 := map_injOn (fun a ha b hb => tg_inj (h2 a ha) (h2' b hb)) e2
 have e5 := map_injOn (fun a ha b hb => tg_inj (h3 a ha) (h3' b hb)) (List.cons.inj e3).2
 obtain ⟨a, b, c⟩ := f
 obtain ⟨a', b', c'⟩ := f'
 simp only at e1 e4 e5
 rw [e1, e4, e5]
theorem mth_gw {m : DClsMethod} (h : MthP m) : GW (mthW m) := by
 rw [show mthW m = wMethod :: by' m.fName :: numText m.fLocals :: numText m.fStack :: ktW m.fRet :: m.fArgs.map ktW from rfl]
 refine gw_cons (noSp_lit (by decide)) fun x hx => ?_
 simp only [List.mem_cons, List.mem_map] at hx
 have hl := h.loc
 have hs := h.stk
 rcases hx with rfl | rfl | rfl | rfl | ⟨k, hk, rfl⟩
 ·exact nam_noSp h.nm
 ·exact num_noSp (by omega)
 ·exact num_noSp (by omega)
 ·exact kt_noSp h.ret
 ·exact kt_noSp (h.args k hk)
theorem mthWs_gw {m : DClsMethod} (h : MthP m) : ∀ ws ∈ mthWs m, GW ws := fun ws hw => by
 unfold mthWs at hw
 simp only [List.mem_cons, List.mem_append, List.mem_map] at hw
 rcases hw with rfl | ⟨f, hf, rfl⟩ | ⟨i, hi, rfl⟩
 ·exact mth_gw h
 ·exact map_gw h hf
 ·exact ins_gw (h.code i hi)
theorem mth_blk {m : DClsMethod} (h : MthP m) : BlkOf (isH wMethod) mthWs m := ⟨_, _, rfl, rfl, fun b hb => by
 rcases List.mem_append.1 hb with hb | hb
 ·obtain ⟨f, _, rfl⟩ := List.mem_map.1 hb
  rfl
 ·obtain ⟨i, hi, rfl⟩ := List.mem_map.1 hb
  have := (op_ne (insOk_parts (h.code i hi)).1).2.1
  simp [isH, insW, this]⟩
theorem mth_inj {m m' : DClsMethod} (h : MthP m) (h' : MthP m') (e : mthWs m = mthWs m') : m = m' := by
 unfold mthWs at e
 obtain ⟨e1, e2⟩ := List.cons.inj e
 obtain ⟨e3, e4⟩ := cut_inj (isH wFrame) (fun b hb => by
  obtain ⟨f, _, rfl⟩ := List.mem_map.1 hb
  rfl) (fun b hb => by
  obtain ⟨f, _, rfl⟩ := List.mem_map.1 hb
  rfl) (fun b hb => by
  obtain ⟨i, hi, rfl⟩ := List.mem_map.1 (List.mem_of_getElem? hb)
  have := (op_ne (insOk_parts (h.code i hi)).1).1
  simp [isH, insW, this]) (fun b hb => by
  obtain ⟨i, hi, rfl⟩ := List.mem_map.1 (List.mem_of_getElem? hb)
  have := (op_ne (insOk_parts (h'.code i hi)).1).1
  simp [isH, insW, this]) e2
 have e5 := map_injOn (fun a ha b hb => map_inj h h' ha hb) e3
 have e6 := map_injOn (fun a ha b hb => ins_inj (h.code a ha) (h'.code b hb)) e4
 unfold mthW at e1
 simp only [List.cons_append, List.nil_append, List.cons.injEq, true_and] at e1
 obtain ⟨f1, f2, f3, f4, f5⟩ := e1
 have hl := h.loc
 have hs := h.stk
 have hl' := h'.loc
 have hs' := h'.stk
 have g1 := by'_inj f1
 have g2 := num_inj (by omega) (by omega) f2
 have g3 := num_inj (by omega) (by omega) f3
 have g4 := kt_inj h.ret h'.ret f4
 have g5 := map_injOn (fun a ha b hb => kt_inj (h.args a ha) (h'.args b hb)) f5
 obtain ⟨a1, a2, a3, a4, a5, a6, a7⟩ := m
 obtain ⟨b1, b2, b3, b4, b5, b6, b7⟩ := m'
 simp only at e5 e6 g1 g2 g3 g4 g5
 rw [e5, e6, g1, g2, g3, g4, g5]
structure ClsP (c : DClsClass) : Prop where
 nm : namOk c.fName = true
 sup : (c.fSuper.toList.isEmpty || namOk c.fSuper) = true
 flds : ∀ f ∈ c.fFields, namOk f.fName = true ∧ kndOkD f.fKind = true
 mths : ∀ m ∈ c.fMethods, mthOk m = true
 flen : c.fFields.length ≤ 3
 mlen : c.fMethods.length ≤ 4
theorem cls_parts {c : DClsClass} (h : clsOk c = true) : ClsP c := by
 unfold clsOk at h
 simp only [Bool.and_eq_true, decide_eq_true_eq] at h
 obtain ⟨⟨⟨⟨⟨h1, h2⟩, h3⟩, h4⟩, h5⟩, h6⟩ := h
 refine ⟨h1, h2, fun f hf => ?_, fun m hm => ?_, h3, h4⟩
 ·obtain ⟨k, hk⟩ := List.mem_iff_getElem?.1 hf
  have := each_iff.1 h5 k f hk
  unfold fieldIn at this
  simp only [Bool.and_eq_true] at this
  exact this.1
 ·obtain ⟨k, hk⟩ := List.mem_iff_getElem?.1 hm
  have := each_iff.1 h6 k m hk
  unfold methodIn at this
  simp only [Bool.and_eq_true] at this
  exact this.1
theorem fld_gw {f : DClsField} (h : namOk f.fName = true ∧ kndOkD f.fKind = true) : GW (fldW f) := gw_cons (noSp_lit (by decide)) fun x hx => by
 simp only [List.mem_cons, List.not_mem_nil, or_false] at hx
 rcases hx with rfl | rfl
 ·exact nam_noSp h.1
 ·exact kt_noSp h.2
theorem cls_gw {c : DClsClass} (h : ClsP c) : GW (clsW c) := gw_cons (noSp_lit (by decide)) fun x hx => by
 simp only [List.mem_cons, List.not_mem_nil, or_false] at hx
 rcases hx with rfl | rfl
 ·exact nam_noSp h.nm
 ·exact sup_noSp h.sup
theorem clsWs_gw {c : DClsClass} (h : ClsP c) : ∀ ws ∈ clsWs c, GW ws := fun ws hw => by
 unfold clsWs at hw
 simp only [List.mem_cons, List.mem_append, List.mem_map, List.mem_flatMap] at hw
 rcases hw with rfl | ⟨f, hf, rfl⟩ | ⟨m, hm, hw⟩
 ·exact cls_gw h
 ·exact fld_gw (h.flds f hf)
 ·exact mthWs_gw (mth_parts (h.mths m hm)) ws hw
theorem mthWs_head {m : DClsMethod} (h : MthP m) {ws : List (List UInt8)} (hw : ws ∈ mthWs m) : isH wClass ws = false ∧ isH wKeeper ws = false := by
 unfold mthWs at hw
 simp only [List.mem_cons, List.mem_append, List.mem_map] at hw
 rcases hw with rfl | ⟨f, hf, rfl⟩ | ⟨i, hi, rfl⟩
 ·exact ⟨rfl, rfl⟩
 ·exact ⟨rfl, rfl⟩
 ·obtain ⟨_, _, h3, h4⟩ := op_ne (insOk_parts (h.code i hi)).1
  exact ⟨by simp [isH, insW, h3], by simp [isH, insW, h4]⟩
theorem cls_blk {c : DClsClass} (h : ClsP c) : BlkOf (isH wClass) clsWs c := ⟨_, _, rfl, rfl, fun b hb => by
 simp only [List.mem_append, List.mem_map, List.mem_flatMap] at hb
 rcases hb with ⟨f, _, rfl⟩ | ⟨m, hm, hb⟩
 ·rfl
 ·exact (mthWs_head (mth_parts (h.mths m hm)) hb).1⟩
theorem flat_mth_head {ms : List DClsMethod} (h : ∀ m ∈ ms, mthOk m = true) (b : List (List UInt8)) (hb : (ms.flatMap mthWs)[0]? = some b) : isH wField b = false := by
 have h1 := flat_head (hd := isH wMethod) (fun m hm => mth_blk (mth_parts (h m hm))) b hb
 unfold isH at h1 ⊢
 rw [beq_iff_eq.1 h1]; rfl
theorem cls_inj {c c' : DClsClass} (h : ClsP c) (h' : ClsP c') (e : clsWs c = clsWs c') : c = c' := by
 unfold clsWs at e
 obtain ⟨e1, e2⟩ := List.cons.inj e
 obtain ⟨e3, e4⟩ := cut_inj (isH wField) (fun b hb => by
  obtain ⟨f, _, rfl⟩ := List.mem_map.1 hb
  rfl) (fun b hb => by
  obtain ⟨f, _, rfl⟩ := List.mem_map.1 hb
  rfl) (flat_mth_head h.mths) (flat_mth_head h'.mths) e2
 have e5 : c.fFields = c'.fFields := map_injOn (fun a ha b hb hab => by
  unfold fldW at hab
  simp only [List.cons.injEq, true_and, and_true] at hab
  have g1 := by'_inj hab.1
  have g2 := kt_inj (h.flds a ha).2 (h'.flds b hb).2 hab.2
  obtain ⟨x, y⟩ := a
  obtain ⟨x', y'⟩ := b
  simp only at g1 g2
  rw [g1, g2]) e3
 have e6 := flat_injOn (hd := isH wMethod) (fun m hm => mth_blk (mth_parts (h.mths m hm))) (fun m hm => mth_blk (mth_parts (h'.mths m hm))) (fun a ha b hb => mth_inj (mth_parts (h.mths a ha)) (mth_parts (h'.mths b hb))) e4
 unfold clsW at e1
 simp only [List.cons.injEq, true_and, and_true] at e1
 have g1 := by'_inj e1.1
 have g2 := sup_inj h.sup h'.sup e1.2
 obtain ⟨a1, a2, a3, a4⟩ := c
 obtain ⟨b1, b2, b3, b4⟩ := c'
 simp only at e5 e6 g1 g2
 rw [e5, e6, g1, g2]
structure KprP (n : Int) (k : DLodKeeper) : Prop where
 owns : ∀ c ∈ k.fOwns, clsOk c = true
 asks : ∀ a ∈ k.fAsks, namOk a.fName = true ∧ 0 ≤ a.fKeeper ∧ a.fKeeper ≤ n - 1
 olen : k.fOwns.length ≤ 5
 alen : k.fAsks.length ≤ 4
theorem kpr_parts {n : Int} {k : DLodKeeper} (h : keeperOk n k = true) : KprP n k := by
 unfold keeperOk at h
 simp only [Bool.and_eq_true, decide_eq_true_eq] at h
 obtain ⟨⟨⟨h1, h2⟩, h3⟩, h4⟩ := h
 refine ⟨fun c hc => ?_, fun a ha => ?_, h1, h2⟩
 ·obtain ⟨i, hi⟩ := List.mem_iff_getElem?.1 hc
  have := each_iff.1 h3 i c hi
  unfold ownIn at this
  simp only [Bool.and_eq_true] at this
  exact this.1
 ·obtain ⟨i, hi⟩ := List.mem_iff_getElem?.1 ha
  have := each_iff.1 h4 i a hi
  unfold askIn at this
  simp only [Bool.and_eq_true, decide_eq_true_eq] at this
  exact ⟨this.1.1, this.1.2⟩
theorem ask_gw {n : Int} (hn : n ≤ 3) {a : DLodAsk} (h : namOk a.fName = true ∧ 0 ≤ a.fKeeper ∧ a.fKeeper ≤ n - 1) : GW (askW a) := gw_cons (noSp_lit (by decide)) fun x hx => by
 simp only [List.mem_cons, List.not_mem_nil, or_false] at hx
 rcases hx with rfl | rfl
 ·exact nam_noSp h.1
 ·exact num_noSp (by omega)
theorem kpr_gw {n : Int} (hn : n ≤ 3) {k : DLodKeeper} (h : KprP n k) : ∀ ws ∈ kprWs k, GW ws := fun ws hw => by
 unfold kprWs at hw
 simp only [List.mem_cons, List.mem_append, List.mem_map, List.mem_flatMap] at hw
 rcases hw with rfl | ⟨a, ha, rfl⟩ | ⟨c, hc, hw⟩
 ·exact gw_cons (noSp_lit (by decide)) fun x hx => absurd hx (by simp)
 ·exact ask_gw hn (h.asks a ha)
 ·exact clsWs_gw (cls_parts (h.owns c hc)) ws hw
theorem clsWs_head {c : DClsClass} (h : ClsP c) {ws : List (List UInt8)} (hw : ws ∈ clsWs c) : isH wKeeper ws = false := by
 unfold clsWs at hw
 simp only [List.mem_cons, List.mem_append, List.mem_map, List.mem_flatMap] at hw
 rcases hw with rfl | ⟨f, hf, rfl⟩ | ⟨m, hm, hw⟩
 ·rfl
 ·rfl
 ·exact (mthWs_head (mth_parts (h.mths m hm)) hw).2
theorem kpr_blk {n : Int} {k : DLodKeeper} (h : KprP n k) : BlkOf (isH wKeeper) kprWs k := ⟨_, _, rfl, rfl, fun b hb => by
 simp only [List.mem_append, List.mem_map, List.mem_flatMap] at hb
 rcases hb with ⟨a, _, rfl⟩ | ⟨c, hc, hb⟩
 ·rfl
 ·exact clsWs_head (cls_parts (h.owns c hc)) hb⟩
theorem flat_cls_head {cs : List DClsClass} (h : ∀ c ∈ cs, clsOk c = true) (b : List (List UInt8)) (hb : (cs.flatMap clsWs)[0]? = some b) : isH wAsks b = false := by
 have h1 := flat_head (hd := isH wClass) (fun m hm => cls_blk (cls_parts (h m hm))) b hb
 unfold isH at h1 ⊢
 rw [beq_iff_eq.1 h1]; rfl
theorem kpr_inj {n n' : Int} (hn : n ≤ 3) (hn' : n' ≤ 3) {k k' : DLodKeeper} (h : KprP n k) (h' : KprP n' k') (e : kprWs k = kprWs k') : k = k' := by
 unfold kprWs at e
 obtain ⟨_, e2⟩ := List.cons.inj e
 obtain ⟨e3, e4⟩ := cut_inj (isH wAsks) (fun b hb => by
  obtain ⟨f, _, rfl⟩ := List.mem_map.1 hb
  rfl) (fun b hb => by
  obtain ⟨f, _, rfl⟩ := List.mem_map.1 hb
  rfl) (flat_cls_head h.owns) (flat_cls_head h'.owns) e2
 have e5 : k.fAsks = k'.fAsks := map_injOn (fun a ha b hb hab => by
  unfold askW at hab
  simp only [List.cons.injEq, true_and, and_true] at hab
  have g1 := by'_inj hab.1
  have h1 := h.asks a ha
  have h2 := h'.asks b hb
  have g2 := num_inj (by omega) (by omega) hab.2
  obtain ⟨x, y⟩ := a
  obtain ⟨x', y'⟩ := b
  simp only at g1 g2
  rw [g1, g2]) e3
 have e6 := flat_injOn (hd := isH wClass) (fun m hm => cls_blk (cls_parts (h.owns m hm))) (fun m hm => cls_blk (cls_parts (h'.owns m hm))) (fun a ha b hb => cls_inj (cls_parts (h.owns a ha)) (cls_parts (h'.owns b hb))) e4
 obtain ⟨a1, a2⟩ := k
 obtain ⟨b1, b2⟩ := k'
 simp only at e5 e6
 rw [e5, e6]
theorem plan_len {p : DLodPlan} (h : lodOk p = true) : (p.fKeepers.length : Int) ≤ 3 ∧ ∀ k ∈ p.fKeepers, KprP p.fKeepers.length k := by
 unfold lodOk at h
 simp only [Bool.and_eq_true, decide_eq_true_eq] at h
 exact ⟨by omega, fun k hk => kpr_parts (each_mem h.2 k hk)⟩
theorem plan_gw {p : DLodPlan} (h : lodOk p = true) : ∀ ws ∈ planWs p, GW ws := fun ws hw => by
 obtain ⟨hn, hk⟩ := plan_len h
 unfold planWs at hw
 obtain ⟨k, hk', hw⟩ := List.mem_flatMap.1 hw
 exact kpr_gw hn (hk k hk') ws hw
theorem plan_inj {p q : DLodPlan} (hp : lodOk p = true) (hq : lodOk q = true) (e : planWs p = planWs q) : p = q := by
 obtain ⟨hn, hk⟩ := plan_len hp
 obtain ⟨hn', hk'⟩ := plan_len hq
 unfold planWs at e
 have := flat_injOn (hd := isH wKeeper) (fun m hm => kpr_blk (hk m hm)) (fun m hm => kpr_blk (hk' m hm)) (fun a ha b hb => kpr_inj hn hn' (hk a ha) (hk' b hb)) e
 obtain ⟨a⟩ := p
 obtain ⟨b⟩ := q
 simp only at this
 rw [this]
theorem lines_inj {a b : List (List (List UInt8))} (ha : ∀ ws ∈ a, GW ws) (hb : ∀ ws ∈ b, GW ws) (e : a.map lineT = b.map lineT) : a = b :=
 map_injOn (fun x hx y hy h => joinW_inj (ha x hx) (hb y hy) (tx_inj h)) e
theorem plain_lines {p q : DLodPlan} (hp : lodOk p = true) (hq : lodOk q = true) : planLines p = planLines q ↔ p = q := by
 unfold planLines
 rw [if_pos hp, if_pos hq]
 constructor
 ·exact fun e => plan_inj hp hq (lines_inj (plan_gw hp) (plan_gw hq) e)
 ·rintro rfl; rfl
def oneOf (c : DClsClass) : DLodPlan := ⟨[⟨[c], []⟩]⟩
theorem oneOf_ok {c : DClsClass} (h : clsOk c = true) : lodOk (oneOf c) = true := by
 unfold lodOk oneOf keeperOk
 simp only [Bool.and_eq_true, decide_eq_true_eq, List.length_cons, List.length_nil]
 refine ⟨⟨by omega, by omega⟩, each_iff.2 fun k x hx => ?_⟩
 match k, hx with
 | 0, hx =>
   cases hx
   simp only [Bool.and_eq_true, decide_eq_true_eq, List.length_cons, List.length_nil]
   refine ⟨⟨⟨by omega, by omega⟩, each_iff.2 fun j y hy => ?_⟩, each_iff.2 fun j y hy => by simp at hy⟩
   match j, hy with
   | 0, hy =>
     cases hy
     unfold ownIn ownAt
     simp [h, firstAt]
   | j + 1, hy => simp at hy
 | k + 1, hx => simp at hx
theorem plain_one {a b : DClsClass} (ha : clsOk a = true) (hb : clsOk b = true) : planLines (oneOf a) = planLines (oneOf b) ↔ a = b := by
 rw [plain_lines (oneOf_ok ha) (oneOf_ok hb)]
 constructor
 ·intro h
  unfold oneOf at h
  simpa using h
 ·rintro rfl; rfl
theorem one_many {a : DClsClass} (ha : clsOk a = true) : 1 < (planLines (oneOf a)).length := by
 unfold planLines
 rw [if_pos (oneOf_ok ha)]
 simp [planWs, oneOf, kprWs, clsWs]

end Go.Proofs.YtfbonocadpknbaaGreatDoor
