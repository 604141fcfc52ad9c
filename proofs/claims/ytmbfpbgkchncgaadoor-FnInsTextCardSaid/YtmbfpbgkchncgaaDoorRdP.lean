

/-
  Plain words: the words of a text, cut at its blanks; what an instruction's text is cut into; when an instruction is read. No program in sight. No condition.
-/
import Derived.Test.YtmbfpbgkchncgaaDoorXP
import Derived.Test.YtmbfpbgkchncgaaDoorWords
import Derived.Lib.SplitLaws
import Derived.Lib.IndexLaws
import Derived.Lib.IndexBytes
namespace Go.Proofs.YtmbfpbgkchncgaaDoor
set_option linter.unusedSimpArgs false
set_option linter.unusedVariables false
open Go.RowKit

/-- no blank in it -/
def NoSp (l : List UInt8) : Prop := ∀ c ∈ l, c ≠ 32
theorem wordsGo_one : ∀ (l cur : List UInt8), NoSp l → wordsGo cur l = [cur ++ l]
  | [], cur, _ => by simp [wordsGo]
  | c :: r, cur, h => by
    have hc := h c (List.mem_cons_self ..)
    unfold wordsGo
    rw [if_neg hc, wordsGo_one r _ (fun x hx => h x (List.mem_cons_of_mem _ hx))]
    simp
theorem wordsGo_cat : ∀ (a cur l : List UInt8), NoSp a → wordsGo cur (a ++ 32 :: l) = (cur ++ a) :: wordsGo [] l
  | [], cur, l, _ => by simp [wordsGo]
  | c :: r, cur, l, h => by
    have hc := h c (List.mem_cons_self ..)
    show (if c = 32 then cur :: wordsGo [] (r ++ 32 :: l) else wordsGo (cur ++ [c]) (r ++ 32 :: l)) = _
    rw [if_neg hc, wordsGo_cat r _ l (fun x hx => h x (List.mem_cons_of_mem _ hx))]
    simp
theorem splitK_words : ∀ (n : Nat) (l : List UInt8), l.length ≤ n → Lib.splitK [32] 0 (Lib.count l [32]) l = wordsGo [] l
  | 0, l, h => by
    have : l = [] := List.eq_nil_of_length_eq_zero (by omega)
    subst this
    rfl
  | n + 1, l, h => by
    have hix := Lib.index_one l 32
    by_cases hm : Lib.index l [32] = -1
    · rw [Lib.count_miss hm]
      have hno : NoSp l := fun c hc e => by
        obtain ⟨k, hk⟩ := List.mem_iff_getElem?.1 hc
        exact Lib.indexByte_none (hix ▸ hm) k (by rw [hk, e])
      rw [wordsGo_one l [] hno]
      rfl
    · obtain ⟨i, hi⟩ : ∃ i : Nat, Lib.index l [32] = i := ⟨(Lib.index l [32]).toNat, by have := Lib.index_ge l [32]; omega⟩
      obtain ⟨h1, h2⟩ := Lib.indexByte_some (hix ▸ hi)
      rw [Lib.count_hit (by simp) hi, Nat.add_comm]
      unfold Lib.splitK
      rw [if_neg (by simpa using hm), hi]
      have hil := (List.getElem?_eq_some_iff.1 h1).1
      simp only [List.length_singleton, Int.toNat_natCast, Nat.add_zero]
      rw [splitK_words n _ (by rw [List.length_drop]; omega)]
      have hl : l = l.take i ++ 32 :: l.drop (i + 1) := by
        have h3 := List.getElem?_eq_some_iff.1 h1
        conv => lhs; rw [← List.take_append_drop i l, List.drop_eq_getElem_cons hil, h3.2]
      have hno : NoSp (l.take i) := fun c hc e => by
        obtain ⟨k, hk⟩ := List.mem_iff_getElem?.1 hc
        rw [List.getElem?_take] at hk
        split at hk
        · rename_i hki
          exact h2 k hki (by rw [hk, e])
        · cases hk
      conv => rhs; rw [hl, wordsGo_cat _ _ _ hno]
      simp
theorem split_words (s : ByteArray) : Lib.splitB ⟨#[32]⟩ 0 (Lib.countB s ⟨#[32]⟩) s = words s := by
  have h1 := Lib.splitB_data ⟨#[32]⟩ 0 (Lib.countB s ⟨#[32]⟩) s
  have h2 : Lib.splitK [32] 0 (Lib.countB s ⟨#[32]⟩) s.data.toList = wordsGo [] s.data.toList := splitK_words _ s.data.toList (Nat.le_refl _)
  have h3 : ((Lib.splitB ⟨#[32]⟩ 0 (Lib.countB s ⟨#[32]⟩) s).map (·.data.toList)).map tx = (wordsGo [] s.data.toList).map tx := by
    rw [h1]; exact congrArg (List.map tx) h2
  rw [List.map_map] at h3
  have h4 : (tx ∘ fun x : ByteArray => x.data.toList) = id := by funext x; exact tx_by x
  rw [h4, List.map_id] at h3
  exact h3
theorem split_len (s : ByteArray) : Lib.countB s ⟨#[32]⟩ + 1 = (words s).length := by
  rw [← split_words, Lib.splitB_all ⟨#[32]⟩ (by decide) 0 _ s rfl]

/-! numbers of at most four digits -/
def digOk (n : Nat) : Bool := decide (numGo 0 (plainText n) = some (n : Int)) && decide (Lib.decNat (plainText n) = some n) && decide (1 ≤ (plainText n).length) && decide ((plainText n).length ≤ 4) && (plainText n).all (fun c => decide (48 ≤ c.toNat) && decide (c.toNat ≤ 57))
theorem dig_all : ∀ a, a < 100 → ∀ b, b < 100 → digOk (a * 100 + b) = true := by decide +kernel
theorem dig_read (n : Nat) (h : n < 10000) : numGo 0 (plainText n) = some (n : Int) ∧ Lib.decNat (plainText n) = some n ∧ 1 ≤ (plainText n).length ∧ (plainText n).length ≤ 4 ∧ (plainText n).all (fun c => decide (48 ≤ c.toNat) && decide (c.toNat ≤ 57)) = true := by
  have h1 := dig_all (n / 100) (by omega) (n % 100) (by omega)
  rw [show n / 100 * 100 + n % 100 = n by omega] at h1
  simp only [digOk, Bool.and_eq_true, decide_eq_true_eq] at h1
  exact ⟨h1.1.1.1.1, h1.1.1.1.2, h1.1.1.2, h1.1.2, h1.2⟩
theorem plain_noSp {n : Nat} (h : n < 10000) : NoSp (plainText n) := fun c hc e => by
  have := List.all_eq_true.1 (dig_read n h).2.2.2.2 c hc
  subst e
  revert this; decide
theorem num_noSp {n : Int} (h : -9999 ≤ n ∧ n ≤ 9999) : NoSp (numText n) := by
  unfold numText
  split
  · intro c hc
    rcases List.mem_cons.1 hc with rfl | hc
    · decide
    · exact plain_noSp (n := (-n).toNat) (by omega) c hc
  · exact plain_noSp (n := n.toNat) (by omega)
theorem plain_head {n : Nat} (h : n < 10000) : isNeg (plainText n) = false ∧ ∃ c r, plainText n = c :: r ∧ c ≠ 45 ∧ c ≠ 43 := by
  obtain ⟨_, _, h3, _, h5⟩ := dig_read n h
  match hp : plainText n, h3 with
  | c :: r, _ =>
    rw [hp] at h5
    have hc := List.all_eq_true.1 h5 c (List.mem_cons_self ..)
    have h45 : c ≠ 45 := fun e => by subst e; revert hc; decide
    have h43 : c ≠ 43 := fun e => by subst e; revert hc; decide
    exact ⟨by simpa [isNeg] using h45, c, r, rfl, h45, h43⟩
theorem readNum_text {n : Int} (h : -9999 ≤ n ∧ n ≤ 9999) : readNum (tx (numText n)) = (n, true) := by
  have hb : by' (tx (numText n)) = numText n := by unfold by' tx; simp
  unfold readNum
  rw [hb]
  by_cases hn : n < 0
  · have ht : numText n = 45 :: plainText (-n).toNat := by unfold numText; rw [if_pos hn]
    obtain ⟨h1, _, h3, h4, _⟩ := dig_read (-n).toNat (by omega)
    have hbody : numBody (numText n) = plainText (-n).toNat := by rw [ht]; rfl
    have hneg : isNeg (numText n) = true := by rw [ht]; rfl
    rw [hbody, if_neg (by omega), h1, hneg]
    have hv : -(((-n).toNat : Nat) : Int) = n := by omega
    simp only [if_true]
    rw [hv]
    simp
  · have ht : numText n = plainText n.toNat := by unfold numText; rw [if_neg hn]
    obtain ⟨h1, _, h3, h4, _⟩ := dig_read n.toNat (by omega)
    obtain ⟨hng, _⟩ := plain_head (n := n.toNat) (by omega)
    have hneg : isNeg (numText n) = false := by rw [ht]; exact hng
    have hbody : numBody (numText n) = plainText n.toNat := by unfold numBody; rw [hneg, ht]; rfl
    rw [hbody, if_neg (by omega), h1, hneg]
    have hv : ((n.toNat : Nat) : Int) = n := by omega
    simp only [Bool.false_eq_true, if_false]
    rw [hv]
    simp
theorem num_len {n : Int} (h : -9999 ≤ n ∧ n ≤ 9999) : 1 ≤ (numText n).length ∧ (numText n).length ≤ 5 := by
  unfold numText
  split
  · obtain ⟨_, _, h3, h4, _⟩ := dig_read (-n).toNat (by omega)
    simp only [List.length_cons]; omega
  · obtain ⟨_, _, h3, h4, _⟩ := dig_read n.toNat (by omega)
    omega
theorem atoi_text {n : Int} (h : -9999 ≤ n ∧ n ≤ 9999) : Lib.atoi (numText n) = some n := by
  unfold numText
  split
  · rename_i hn
    obtain ⟨_, h2, _⟩ := dig_read (-n).toNat (by omega)
    simp only [Lib.atoi, beq_self_eq_true, if_true, h2, Option.map_some]
    congr 1; omega
  · rename_i hn
    obtain ⟨_, h2, _⟩ := dig_read n.toNat (by omega)
    obtain ⟨_, c, r, hp, h45, h43⟩ := plain_head (n := n.toNat) (by omega)
    rw [hp] at h2 ⊢
    simp only [Lib.atoi]
    rw [if_neg (by simpa using h45), if_neg (by simpa using h43), h2]
    simp only [Option.map_some]
    congr 1; omega
theorem shortN_text {n : Int} (h : -9999 ≤ n ∧ n ≤ 9999) : shortN (tx (numText n)) = (n, true) := by
  obtain ⟨h1, h2⟩ := num_len h
  have hs : (tx (numText n)).size = (numText n).length := tx_size _
  have hb : (tx (numText n)).data.toList = numText n := by unfold tx; simp
  unfold shortN
  rw [if_neg (by omega), hb, atoi_text h]
  simp only
  rw [if_pos ⟨(numText_itoa h).symm, h.2, h.1⟩]

/-! what an instruction's text is cut into -/
def restOf (i : DClsIns) : List ByteArray := if isNumOp i.fOp then [tx (numText i.fA)] else if isClsOp i.fOp then [i.fName] else if isMemOp i.fOp then [i.fName, i.fMember] else []
theorem op_noSp (op : Int) : NoSp (opText op) := by
  by_cases h : 1 ≤ op ∧ op ≤ 15
  · rcases fifteen h with rfl | rfl | rfl | rfl | rfl | rfl | rfl | rfl | rfl | rfl | rfl | rfl | rfl | rfl | rfl <;> (intro c hc; revert hc; revert c; decide)
  · have : opText op = [] := by
      unfold opText
      rw [if_neg (by omega), if_neg (by omega), if_neg (by omega), if_neg (by omega), if_neg (by omega), if_neg (by omega), if_neg (by omega), if_neg (by omega), if_neg (by omega), if_neg (by omega), if_neg (by omega), if_neg (by omega), if_neg (by omega), if_neg (by omega), if_neg (by omega)]
    rw [this]
    intro c hc
    cases hc
theorem nam_noSp {s : ByteArray} (h : namOk s = true) : NoSp (by' s) := fun c hc e => by
  unfold namOk at h
  simp only [Bool.and_eq_true] at h
  have := List.all_eq_true.1 h.2 c hc
  subst e
  revert this; decide
theorem byTx (l : List UInt8) : by' (tx l) = l := by unfold by' tx; simp
theorem txBy (s : ByteArray) : tx (by' s) = s := tx_by s
theorem insOk_cls {i : DClsIns} (ok : insOkD i = true) (h : isClsOp i.fOp = true) : namOk i.fName = true := by
  unfold insOkD insOk at ok
  simp only [isClsOp, Bool.or_eq_true, beq_iff_eq] at h
  rcases h with h | h <;> rw [h] at ok <;> simp at ok <;> exact ok.1.2
theorem insOk_mem {i : DClsIns} (ok : insOkD i = true) (h : isMemOp i.fOp = true) : namOk i.fName = true ∧ namOk i.fMember = true := by
  unfold insOkD insOk at ok
  simp only [isMemOp, Bool.or_eq_true, beq_iff_eq] at h
  rcases h with (h | h) | h <;> rw [h] at ok <;> simp at ok <;> exact ⟨ok.1.2, ok.2⟩
theorem words_of {i : DClsIns} (ok : insOkD i = true) {s : ByteArray} (h : insText i = by' s) : words s = tx (opText i.fOp) :: restOf i := by
  unfold words
  rw [← h]
  unfold insText restOf
  rw [if_pos ok]
  obtain ⟨hop, _, _, ha⟩ := insOk_parts ok
  by_cases h1 : isNumOp i.fOp = true
  · rw [if_pos h1, if_pos h1, show opText i.fOp ++ ([32] ++ numText i.fA) = opText i.fOp ++ 32 :: numText i.fA from rfl, wordsGo_cat _ _ _ (op_noSp _), wordsGo_one _ _ (num_noSp (ha h1))]
    simp
  rw [if_neg h1, if_neg h1]
  by_cases h2 : isClsOp i.fOp = true
  · have hn : namOk i.fName = true := insOk_cls ok h2
    rw [if_pos h2, if_pos h2, show opText i.fOp ++ ([32] ++ by' i.fName) = opText i.fOp ++ 32 :: by' i.fName from rfl, wordsGo_cat _ _ _ (op_noSp _), wordsGo_one _ _ (nam_noSp hn)]
    simp [txBy]
  rw [if_neg h2, if_neg h2]
  by_cases h3 : isMemOp i.fOp = true
  · obtain ⟨hn, hm⟩ := insOk_mem ok h3
    rw [if_pos h3, if_pos h3, show opText i.fOp ++ ([32] ++ by' i.fName ++ [32] ++ by' i.fMember) = opText i.fOp ++ 32 :: (by' i.fName ++ 32 :: by' i.fMember) by simp, wordsGo_cat _ _ _ (op_noSp _), wordsGo_cat _ _ _ (nam_noSp hn), wordsGo_one _ _ (nam_noSp hm)]
    simp [txBy]
  rw [if_neg h3, if_neg h3, wordsGo_one _ _ (op_noSp _)]
  simp

/-! when an instruction is read -/
theorem opText_inj {a b : Int} (ha : 1 ≤ a ∧ a ≤ 15) (hb : 1 ≤ b ∧ b ≤ 15) (h : opText a = opText b) : a = b := by
  rcases fifteen ha with rfl | rfl | rfl | rfl | rfl | rfl | rfl | rfl | rfl | rfl | rfl | rfl | rfl | rfl | rfl <;>
  rcases fifteen hb with rfl | rfl | rfl | rfl | rfl | rfl | rfl | rfl | rfl | rfl | rfl | rfl | rfl | rfl | rfl <;>
  first | rfl | (revert h; decide)
theorem opText_pos {a : Int} (ha : 1 ≤ a ∧ a ≤ 15) : opText a ≠ [] := by
  rcases fifteen ha with rfl | rfl | rfl | rfl | rfl | rfl | rfl | rfl | rfl | rfl | rfl | rfl | rfl | rfl | rfl <;> decide
theorem insGo_at {s : ByteArray} {op : Int} (ho : 1 ≤ op ∧ op ≤ 15) (hw : by' ((words s).getD 0 ⟨#[]⟩) = opText op) : ∀ (f k : Nat), (k : Int) ≤ op → op < (k : Int) + f → 1 ≤ k → insGo s f k = insTry op s
  | 0, k, h1, h2, _ => by omega
  | f + 1, k, h1, h2, h3 => by
    unfold insGo
    by_cases e : (k : Int) = op
    · rw [if_pos (by unfold isW; rw [hw, e]; simp), e]
    · have hne : isW ((words s).getD 0 ⟨#[]⟩) (opText (k : Int)) = false := by
        unfold isW
        rw [hw]
        simp only [beq_eq_false_iff_ne, ne_eq]
        exact fun h => e (opText_inj (by omega) ho h.symm)
      rw [if_neg (by rw [hne]; decide)]
      exact insGo_at ho hw f (k + 1) (by omega) (by omega) (by omega)
theorem insGo_off {s : ByteArray} (hw : ∀ op, 1 ≤ op ∧ op ≤ 15 → by' ((words s).getD 0 ⟨#[]⟩) ≠ opText op) : ∀ (f k : Nat), 1 ≤ k → k + f ≤ 16 → insGo s f k = (nilIns, false)
  | 0, k, _, _ => rfl
  | f + 1, k, h1, h2 => by
    unfold insGo
    have hne : isW ((words s).getD 0 ⟨#[]⟩) (opText (k : Int)) = false := by
      unfold isW
      simp only [beq_eq_false_iff_ne, ne_eq]
      exact hw _ (by omega)
    rw [if_neg (by rw [hne]; decide)]
    exact insGo_off hw f (k + 1) (by omega) (by omega)
theorem insText_len {i : DClsIns} : (insText i).length ≤ 18 := by
  rw [insText_txt]
  unfold insTxt
  split
  · rename_i ok
    obtain ⟨hop, hn, hm, ha⟩ := insOk_parts ok
    have h4 := opText_len i.fOp
    split
    · rename_i h1
      have h5 := itoa_len (ha h1)
      rw [tx_size] at h5
      simp only [List.length_append, List.length_cons, List.length_nil]; omega
    · have e1 : i.fName.data.toList.length = i.fName.size := by rw [Array.length_toList]; rfl
      have e2 : i.fMember.data.toList.length = i.fMember.size := by rw [Array.length_toList]; rfl
      split
      · simp only [List.length_append, List.length_cons, List.length_nil]; omega
      · split
        · simp only [List.length_append, List.length_cons, List.length_nil]; omega
        · omega
  · simp
theorem bySize (s : ByteArray) : (by' s).length = s.size := by unfold by'; rw [Array.length_toList]; rfl
theorem readNum_nam {s : ByteArray} (h : namOk s = true) : (readNum s).2 = false := by
  unfold readNum
  split
  · rfl
  · have hne : numGo 0 (numBody (by' s)) = none := by
      unfold namOk at h
      simp only [Bool.and_eq_true] at h
      have hall := List.all_eq_true.1 h.2
      have hall' : ∀ c ∈ by' s, small c = true := hall
      have hng : isNeg (by' s) = false := by
        cases hb : by' s with
        | nil => rfl
        | cons c r =>
          have := hall' c (by rw [hb]; exact List.mem_cons_self ..)
          have h45 : c ≠ 45 := fun e => by subst e; revert this; decide
          simpa [isNeg] using h45
      unfold numBody
      rw [hng]
      simp only [Bool.false_eq_true, if_false]
      cases hb : by' s with
      | nil =>
        exfalso
        have h9 : s.size = 0 := by
          have := bySize s
          rw [hb] at this
          simpa using this.symm
        rw [h9] at h
        simp at h
      | cons c r =>
        have := hall' c (by rw [hb]; exact List.mem_cons_self ..)
        unfold numGo
        have hd : isDig c = false := by
          cases e : isDig c with
          | false => rfl
          | true =>
            exfalso
            simp only [isDig, small, Bool.and_eq_true, decide_eq_true_eq] at e this
            omega
        rw [hd]; rfl
    rw [hne]
theorem nil_of {x : ByteArray} (hx : x.toList.isEmpty = true) : x = ⟨#[]⟩ := by
  rw [ByteArray.toList_eq] at hx
  have : x.data.toList = [] := List.isEmpty_iff.1 hx
  exact ByteArray.ext (Array.toList_inj.mp (by simpa using this))
theorem insOk_num {i : DClsIns} (ok : insOkD i = true) (h : isNumOp i.fOp = true) : i.fName = ⟨#[]⟩ ∧ i.fMember = ⟨#[]⟩ := by
  unfold insOkD insOk at ok
  simp only [isNumOp, Bool.or_eq_true, beq_iff_eq] at h
  rcases h with ((((h | h) | h) | h) | h) | h <;> rw [h] at ok <;> simp only [Int.reduceBEq, Bool.or_true, Bool.true_or, Bool.or_false, Bool.false_or, if_true, Bool.false_eq_true, if_false, Bool.and_eq_true] at ok <;> exact ⟨nil_of ok.1.2, nil_of ok.2⟩
theorem insOk_cls2 {i : DClsIns} (ok : insOkD i = true) (h : isClsOp i.fOp = true) : i.fA = 0 ∧ i.fMember = ⟨#[]⟩ := by
  unfold insOkD insOk at ok
  simp only [isClsOp, Bool.or_eq_true, beq_iff_eq] at h
  rcases h with h | h <;> rw [h] at ok <;> simp only [Int.reduceBEq, Bool.or_true, Bool.true_or, Bool.or_false, Bool.false_or, if_true, Bool.false_eq_true, if_false, Bool.and_eq_true, beq_iff_eq] at ok <;> exact ⟨ok.1.1, nil_of ok.2⟩
theorem insOk_mem2 {i : DClsIns} (ok : insOkD i = true) (h : isMemOp i.fOp = true) : i.fA = 0 := by
  unfold insOkD insOk at ok
  simp only [isMemOp, Bool.or_eq_true, beq_iff_eq] at h
  rcases h with (h | h) | h <;> rw [h] at ok <;> simp only [Int.reduceBEq, Bool.or_true, Bool.true_or, Bool.or_false, Bool.false_or, if_true, Bool.false_eq_true, if_false, Bool.and_eq_true, beq_iff_eq] at ok <;> exact ok.1.1
theorem insOk_pln {i : DClsIns} (ok : insOkD i = true) (h1 : ¬ isNumOp i.fOp = true) (h2 : ¬ isClsOp i.fOp = true) (h3 : ¬ isMemOp i.fOp = true) : i.fA = 0 ∧ i.fName = ⟨#[]⟩ ∧ i.fMember = ⟨#[]⟩ := by
  obtain ⟨op, a, n, m⟩ := i
  obtain ⟨hop, _⟩ := insOk_parts ok
  unfold insOkD insOk at ok
  rcases fifteen hop with h | h | h | h | h | h | h | h | h | h | h | h | h | h | h <;> simp only at h <;> subst h <;>
  first | (exact absurd rfl h1) | (exact absurd rfl h2) | (exact absurd rfl h3) | (simp only [Int.reduceBEq, Bool.or_true, Bool.true_or, Bool.or_false, Bool.false_or, if_true, Bool.false_eq_true, if_false, Bool.and_eq_true, beq_iff_eq, true_and] at ok; exact ⟨ok.1.1, nil_of ok.1.2, nil_of ok.2⟩)
/-- what is read is the instruction whose text it is -/
theorem insOf_words {i : DClsIns} (ok : insOkD i = true) {s : ByteArray} (h : insText i = by' s) : insOf i.fOp (words s) = i := by
  rw [words_of ok h]
  obtain ⟨hop, _, _, ha⟩ := insOk_parts ok
  by_cases h1 : isNumOp i.fOp = true
  · obtain ⟨e1, e2⟩ := insOk_num ok h1
    have hr := readNum_text (ha h1)
    obtain ⟨op, a, n, m⟩ := i
    simp only at e1 e2 h1 hr
    subst e1 e2
    simp [insOf, restOf, h1, hr]
  by_cases h2 : isClsOp i.fOp = true
  · obtain ⟨e1, e2⟩ := insOk_cls2 ok h2
    have hr := readNum_nam (insOk_cls ok h2)
    obtain ⟨op, a, n, m⟩ := i
    simp only at e1 e2 h1 h2 hr
    subst e1 e2
    simp [insOf, restOf, h1, h2, hr]
  by_cases h3 : isMemOp i.fOp = true
  · have e1 := insOk_mem2 ok h3
    have hr := readNum_nam (insOk_mem ok h3).1
    obtain ⟨op, a, n, m⟩ := i
    simp only at e1 h1 h2 h3 hr
    subst e1
    simp [insOf, restOf, h1, h2, h3, hr]
  · obtain ⟨e1, e2, e3⟩ := insOk_pln ok h1 h2 h3
    obtain ⟨op, a, n, m⟩ := i
    simp only at e1 e2 e3 h1 h2 h3
    subst e1 e2 e3
    simp [insOf, restOf, h1, h2, h3]
theorem word0_of {i : DClsIns} (ok : insOkD i = true) {s : ByteArray} (h : insText i = by' s) : by' ((words s).getD 0 ⟨#[]⟩) = opText i.fOp := by
  rw [words_of ok h]
  exact byTx _
theorem insRead_of {i : DClsIns} (ok : insOkD i = true) {s : ByteArray} (h : insText i = by' s) : insRead s = (i, true) := by
  obtain ⟨hop, _⟩ := insOk_parts ok
  unfold insRead
  rw [insGo_at hop (word0_of ok h) 15 1 (by omega) (by omega) (by omega)]
  unfold insTry
  have hsz : s.size ≤ 18 := by rw [← bySize, ← h]; exact insText_len
  rw [insOf_words ok h, if_neg (by rw [h]; simp; omega)]
theorem insRead_cases (s : ByteArray) : insRead s = (nilIns, false) ∨ ∃ i, insRead s = (i, true) ∧ insOkD i = true ∧ insText i = by' s := by
  by_cases hw : ∃ op, (1 ≤ op ∧ op ≤ 15) ∧ by' ((words s).getD 0 ⟨#[]⟩) = opText op
  · obtain ⟨op, ho, hw⟩ := hw
    unfold insRead
    rw [insGo_at ho hw 15 1 (by omega) (by omega) (by omega)]
    unfold insTry
    split
    · exact Or.inl rfl
    · rename_i hn
      refine Or.inr ⟨_, rfl, ?_⟩
      have ht : insText (insOf op (words s)) = by' s := Decidable.byContradiction fun h => hn (Or.inr h)
      refine ⟨?_, ht⟩
      cases hok : insOkD (insOf op (words s)) with
      | true => rfl
      | false =>
        exfalso
        have h0 : insText (insOf op (words s)) = [] := by unfold insText; rw [hok]; rfl
        rw [h0] at ht
        have : words s = [⟨#[]⟩] := by unfold words; rw [← ht]; rfl
        rw [this] at hw
        exact opText_pos ho hw.symm
  · unfold insRead
    exact Or.inl (insGo_off (fun op ho h => hw ⟨op, ho, h⟩) 15 1 (by omega) (by omega))

/-! .. as the program reads it: by the reader of its first word -/
def pForm (op : Int) (rest : List ByteArray) : Option DClsIns :=
  if isNumOp op then (match rest with | [x] => if (shortN x).2 then some ⟨op, (shortN x).1, ⟨#[]⟩, ⟨#[]⟩⟩ else none | _ => none)
  else if isClsOp op then (match rest with | [x] => some ⟨op, 0, x, ⟨#[]⟩⟩ | _ => none)
  else if isMemOp op then (match rest with | [x, y] => some ⟨op, 0, x, y⟩ | _ => none)
  else (match rest with | [] => some ⟨op, 0, ⟨#[]⟩, ⟨#[]⟩⟩ | _ => none)
theorem pForm_of {i : DClsIns} (ok : insOkD i = true) : pForm i.fOp (restOf i) = some i := by
  obtain ⟨hop, _, _, ha⟩ := insOk_parts ok
  unfold pForm restOf
  by_cases h1 : isNumOp i.fOp = true
  · obtain ⟨e1, e2⟩ := insOk_num ok h1
    rw [if_pos h1, if_pos h1]
    have hr := shortN_text (ha h1)
    simp only [hr, if_true]
    rw [← e1]
    conv => lhs; rw [show (⟨i.fOp, i.fA, i.fName, i.fName⟩ : DClsIns) = ⟨i.fOp, i.fA, i.fName, i.fMember⟩ by rw [e1, e2]]
  rw [if_neg h1, if_neg h1]
  by_cases h2 : isClsOp i.fOp = true
  · obtain ⟨e1, e2⟩ := insOk_cls2 ok h2
    rw [if_pos h2, if_pos h2, ← e1, ← e2]
  rw [if_neg h2, if_neg h2]
  by_cases h3 : isMemOp i.fOp = true
  · rw [if_pos h3, if_pos h3, ← insOk_mem2 ok h3]
  rw [if_neg h3, if_neg h3]
  obtain ⟨e1, e2, e3⟩ := insOk_pln ok h1 h2 h3
  obtain ⟨op, a, n, m⟩ := i
  simp only at e1 e2 e3
  subst e1 e2 e3
  rfl
/-- where the reader gives nothing, or what is no such text, nothing is read -/
theorem insRead_none {s : ByteArray} (h : ∀ i, insOkD i = true → insText i = by' s → False) : insRead s = (nilIns, false) := by
  rcases insRead_cases s with h1 | ⟨i, _, h2, h3⟩
  · exact h1
  · exact (h i h2 h3).elim
theorem ir_long {s : ByteArray} (h : 30 < s.size) : insRead s = (nilIns, false) := insRead_none fun i h1 h2 => by
  have := insText_len (i := i)
  rw [h2, bySize] at this
  omega
theorem ir_noword {s : ByteArray} (h : ∀ op, 1 ≤ op ∧ op ≤ 15 → (words s).getD 0 ⟨#[]⟩ ≠ tx (opText op)) : insRead s = (nilIns, false) := insRead_none fun i h1 h2 => by
  obtain ⟨hop, _⟩ := insOk_parts h1
  refine h _ hop ?_
  rw [words_of h1 h2]; rfl
theorem ir_op {s : ByteArray} {op : Int} {rest : List ByteArray} (ho : 1 ≤ op ∧ op ≤ 15) (hw : words s = tx (opText op) :: rest) {i : DClsIns} (h1 : insOkD i = true) (h2 : insText i = by' s) : pForm op rest = some i := by
  obtain ⟨hop, _⟩ := insOk_parts h1
  have h3 := words_of h1 h2
  rw [hw] at h3
  have h4 := List.cons.inj h3
  have h5 : opText op = opText i.fOp := by rw [← byTx (opText op), h4.1, byTx]
  rw [opText_inj ho hop h5, h4.2]
  exact pForm_of h1
theorem ir_noform {s : ByteArray} {op : Int} {rest : List ByteArray} (ho : 1 ≤ op ∧ op ≤ 15) (hw : words s = tx (opText op) :: rest) (hf : pForm op rest = none) : insRead s = (nilIns, false) := insRead_none fun i h1 h2 => by
  have := ir_op ho hw h1 h2
  rw [hf] at this; cases this
theorem ir_bad {s : ByteArray} {op : Int} {rest : List ByteArray} {i : DClsIns} (ho : 1 ≤ op ∧ op ≤ 15) (hw : words s = tx (opText op) :: rest) (hf : pForm op rest = some i) (hb : insText i ≠ by' s ∨ insOkD i = false) : insRead s = (nilIns, false) := insRead_none fun i' h1 h2 => by
  have := ir_op ho hw h1 h2
  rw [hf] at this
  cases this
  rcases hb with hb | hb
  · exact hb h2
  · rw [hb] at h1; cases h1

end Go.Proofs.YtmbfpbgkchncgaaDoor
