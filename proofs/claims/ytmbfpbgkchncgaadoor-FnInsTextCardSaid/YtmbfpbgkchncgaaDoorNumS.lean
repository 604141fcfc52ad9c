

/-
  The walks of the reference's l1Plain, l1Num, l2Ins, InsText: how numbers and instructions are written. Condition: a number has at most four digits; the texts are no longer than a text may be.
-/
import Derived.Test.YtmbfpbgkchncgaaDoorIns
import Derived.Lib.ItoaNum
import Derived.IntWalk
namespace Go.Proofs.YtmbfpbgkchncgaaDoor
set_option linter.unusedSimpArgs false
set_option linter.unusedVariables false
open Go.RowKit

/-- a text of bytes -/
def tx (l : List UInt8) : ByteArray := ⟨l.toArray⟩
theorem tx_app (a b : List UInt8) : tx a ++ tx b = tx (a ++ b) := by
  apply ByteArray.ext
  rw [ByteArray.data_append]
  simp [tx]
theorem tx_size (l : List UInt8) : (tx l).size = l.length := by simp [tx, ByteArray.size]
theorem tx_by (s : ByteArray) : tx s.data.toList = s := by simp [tx]

def digB (m : Nat) : UInt8 := UInt8.ofNat (48 + m)
theorem conv_dig (m : Nat) (hm : m ≤ 9) (b : Nat) (w : World) (h : w.cell? ⟨b, 0, none⟩ = some (.int .u8 (48 + (m : Int)))) :
    (convert 22 9 (.slice (some ⟨b, 0, none⟩) 1 1)).run Tryd.prog w = .ok (.string (tx [digB m])) w := by
  rw [run_convert_bytes_string w 22 9 5 _ 1 1 Tryd.underlying22 Tryd.underlying5 Tryd.underlying9]
  rw [run_bytesToString w ⟨b, 0, none⟩ 1 1 [48 + (m : Int)] (by rw [show (1 : Nat) = [Value.int .u8 (48 + (m : Int))].length from rfl, run_loadCells_list w ⟨b, 0, none⟩ [.int .u8 (48 + (m : Int))] (by intro j x hx; cases j with | zero => simp at hx; subst hx; simpa [Addr.add] using h | succ j => simp at hx)]; rfl)]
  have h2 : (48 + (m : Int)).toNat = 48 + m := by omega
  rw [show digB m = UInt8.ofNat (48 + (m : Int)).toNat by rw [h2]; rfl]
  rfl

set_option maxRecDepth 100000 in
set_option maxHeartbeats 4000000 in
theorem S_l1Plain (n : Nat) (w : World) (hn : n ≤ 9999) :
    Calls Tryd.prog 47 #[.int .i64 (n : Int)] w fun e w' => e = .returned (.string (tx (Lib.decDigits n))) ∧ Below w.heap.size w w' := by
  refine calls_hide fun R HR => ?_
  go_enter Tryd.func47, Tryd.ntmps47
  go_wp2_with fail
  go_loopw [0, 3] (fun nv ov wr => ∃ (m : Nat) (l : List UInt8), nv = .int .i64 (m : Int) ∧ ov = .string (tx l) ∧ Lib.decDigits n = Lib.decDigits m ++ l ∧ ((l.length = 0 ∧ m < 10000) ∨ (l.length = 1 ∧ m < 1000) ∨ (l.length = 2 ∧ m < 100) ∨ (l.length = 3 ∧ m < 10)) ∧ Below w.heap.size w wr) (fun nv _ _ => (intOf nv).toNat)
  case atStart => exact ⟨n, [], rfl, rfl, by simp, by simp; omega, by (repeat' (first | (with_reducible exact Below.refl _ _) | (with_reducible refine Below.alloc ?_ ?_ _) | (with_reducible refine Below.setCell ?_ ?_ _) | (with_reducible refine Below.drew ?_) | (refine below_hyp (by assumption) ?_ ?_) | go_size))⟩
  case round =>
    obtain ⟨m, l, rfl, rfl, hd, hl, hb⟩ := hrel
    have HD := Lib.hid hd
    have HLL := Lib.hid hl
    have hm : m < 10000 := by omega
    have hbx := hb.size
    have hsz : (tx l).size ≤ 3 := by rw [tx_size]; omega
    clear hd hl
    by_cases h9 : m ≤ 9
    · have g1 : ¬ ((9 : Int) < (m : Int)) := by omega
      have g2 : IntKind.u8.wrap (48 + (m : Int)) = 48 + (m : Int) := IntWalk.u8_in _ (by omega)
      have hcv := conv_dig m h9 wr.heap.size (wr.alloc (.cells #[.int .u8 (48 + (m : Int))] 5)) (by go_simp)
      have hs1 : (tx [digB m]).size = 1 := by rw [tx_size]; rfl
      have RV : Hid (tx [digB m] ++ tx l = tx (Lib.decDigits n)) := Lib.hid (by
        rw [tx_app, HD.out, Lib.decDigits, dif_pos (by omega)]; rfl)
      go_wp2
      all_goals (try go_returns)
      all_goals exact HR.out _ _ ⟨ret_str RV.out, by (repeat' (first | (with_reducible exact Below.refl _ _) | (with_reducible refine Below.alloc ?_ ?_ _) | (with_reducible refine Below.setCell ?_ ?_ _) | (with_reducible refine Below.drew ?_) | (refine below_hyp (by assumption) ?_ ?_) | go_size))⟩
    · have g1 : ((9 : Int) < (m : Int)) := by omega
      have t1 : Int.tmod (m : Int) 10 = ((m % 10 : Nat) : Int) := by rw [Int.tmod_eq_emod_of_nonneg (by omega)]; omega
      have t2 : Int.tdiv (m : Int) 10 = ((m / 10 : Nat) : Int) := by rw [Int.tdiv_eq_ediv_of_nonneg (by omega)]; omega
      obtain ⟨d, hd⟩ : ∃ d, d = m % 10 := ⟨_, rfl⟩
      obtain ⟨q, hq⟩ : ∃ q, q = m / 10 := ⟨_, rfl⟩
      rw [← hd] at t1
      rw [← hq] at t2
      have hd9 : d ≤ 9 := by omega
      have g2 : IntKind.u8.wrap (48 + (d : Int)) = 48 + (d : Int) := IntWalk.u8_in _ (by omega)
      have hcv := conv_dig d hd9 wr.heap.size (wr.alloc (.cells #[.int .u8 (48 + (d : Int))] 5)) (by go_simp)
      have hs1 : (tx [digB d]).size = 1 := by rw [tx_size]; rfl
      have NX : Hid (tx [digB d] ++ tx l = tx (digB d :: l)) := Lib.hid (by rw [tx_app]; rfl)
      have ND : Hid (Lib.decDigits n = Lib.decDigits q ++ (digB d :: l)) := Lib.hid (by
        rw [HD.out, Lib.decDigits, dif_neg (by omega), hd, hq]
        simp [digB])
      have NL : Hid (((digB d :: l).length = 0 ∧ q < 10000) ∨ ((digB d :: l).length = 1 ∧ q < 1000) ∨ ((digB d :: l).length = 2 ∧ q < 100) ∨ ((digB d :: l).length = 3 ∧ q < 10)) := Lib.hid (by
        have := HLL.out
        simp only [List.length_cons]
        omega)
      have hqm : q < m := by omega
      clear hd hq
      go_wp2
      go_roundw
      case measure => simp [intOf]; omega
      case rel => exact ⟨q, digB d :: l, by first | rfl | go_num, by rw [NX.out], ND.out, NL.out, by (repeat' (first | (with_reducible exact Below.refl _ _) | (with_reducible refine Below.alloc ?_ ?_ _) | (with_reducible refine Below.setCell ?_ ?_ _) | (with_reducible refine Below.drew ?_) | (refine below_hyp (by assumption) ?_ ?_) | go_size))⟩

theorem nDig4 {k : Nat} (h : k ≤ 9999) : Lib.nDigits k ≤ 4 := by
  by_cases h1 : k < 10
  · rw [Lib.nDigits, dif_pos h1]; omega
  rw [Lib.nDigits, dif_neg h1]
  by_cases h2 : k / 10 < 10
  · rw [Lib.nDigits, dif_pos h2]; omega
  rw [Lib.nDigits, dif_neg h2]
  by_cases h3 : k / 10 / 10 < 10
  · rw [Lib.nDigits, dif_pos h3]; omega
  rw [Lib.nDigits, dif_neg h3, Lib.nDigits, dif_pos (by omega)]; omega

set_option maxRecDepth 100000 in
set_option maxHeartbeats 4000000 in
theorem S_l1Num (n : Int) (w : World) (hn : -9999 ≤ n ∧ n ≤ 9999) :
    Calls Tryd.prog 29 #[.int .i64 n] w fun e w' => e = .returned (.string (tx (Lib.itoa n))) ∧ Below w.heap.size w w' := by
  by_cases h0 : n < 0
  · obtain ⟨k, rfl⟩ : ∃ k : Nat, n = -(k : Int) := ⟨n.natAbs, by omega⟩
    have hk : k ≤ 9999 := by omega
    have hneg : - -(k : Int) = (k : Int) := by omega
    have RV : Hid (tx [45] ++ tx (Lib.decDigits k) = tx (Lib.itoa (-(k : Int)))) := Lib.hid (by
      rw [tx_app, Lib.itoa, if_pos h0]
      have : (-(k : Int)).natAbs = k := by omega
      rw [this]; rfl)
    have hsz : (Lib.decDigits k).length ≤ 4 := by
      have := Lib.decDigits_length k
      rw [this]; exact nDig4 hk
    have hs2 : (tx (Lib.decDigits k)).size ≤ 4 := by rw [tx_size]; exact hsz
    have CO : ∀ W, Calls Tryd.prog 47 #[.int .i64 (k : Int)] W fun e w' => e = .returned (.string (tx (Lib.decDigits k))) ∧ Below W.heap.size W w' := fun W => S_l1Plain k W hk
    clear hsz
    refine calls_hide fun R HR => ?_
    go_enter Tryd.func29, Tryd.ntmps29
    go_wp2_with fail
    refine (CO _).mono ?_
    rintro _ w1 ⟨rfl, h1⟩
    go_wp2
    all_goals (try go_returns)
    all_goals exact HR.out _ _ ⟨ret_str RV.out, by (repeat' (first | (with_reducible exact Below.refl _ _) | (with_reducible refine Below.alloc ?_ ?_ _) | (with_reducible refine Below.setCell ?_ ?_ _) | (with_reducible refine Below.drew ?_) | (refine below_hyp (by assumption) ?_ ?_) | go_size))⟩
  · obtain ⟨k, rfl⟩ : ∃ k : Nat, n = (k : Int) := ⟨n.toNat, by omega⟩
    have hk : k ≤ 9999 := by omega
    have RV : Hid (tx (Lib.decDigits k) = tx (Lib.itoa (k : Int))) := Lib.hid (by
      rw [Lib.itoa, if_neg h0, Int.toNat_natCast])
    have CO : ∀ W, Calls Tryd.prog 47 #[.int .i64 (k : Int)] W fun e w' => e = .returned (.string (tx (Lib.decDigits k))) ∧ Below W.heap.size W w' := fun W => S_l1Plain k W hk
    refine calls_hide fun R HR => ?_
    go_enter Tryd.func29, Tryd.ntmps29
    go_wp2_with fail
    refine (CO _).mono ?_
    rintro _ w1 ⟨rfl, h1⟩
    go_wp2
    all_goals (try go_returns)
    all_goals exact HR.out _ _ ⟨ret_str RV.out, by (repeat' (first | (with_reducible exact Below.refl _ _) | (with_reducible refine Below.alloc ?_ ?_ _) | (with_reducible refine Below.setCell ?_ ?_ _) | (with_reducible refine Below.drew ?_) | (refine below_hyp (by assumption) ?_ ?_) | go_size))⟩

def opText (op : Int) : List UInt8 :=
  if op = 1 then [110, 117, 109] else if op = 2 then [116, 97, 107, 101] else if op = 3 then [112, 117, 116] else if op = 4 then [97, 100, 100] else if op = 5 then [110, 117, 108, 108] else 
  if op = 6 then [110, 101, 119] else if op = 7 then [103, 101, 116] else if op = 8 then [115, 101, 116] else if op = 9 then [99, 97, 108, 108] else if op = 10 then [114, 101, 116] else 
  if op = 11 then [122, 101, 114, 111] else if op = 12 then [110, 105, 108] else if op = 13 then [103, 111] else if op = 14 then [111, 117, 116] else if op = 15 then [99, 97, 115, 116] else 
  []
theorem sixteen {k : Nat} (h : k ≤ 15) : k = 0 ∨ k = 1 ∨ k = 2 ∨ k = 3 ∨ k = 4 ∨ k = 5 ∨ k = 6 ∨ k = 7 ∨ k = 8 ∨ k = 9 ∨ k = 10 ∨ k = 11 ∨ k = 12 ∨ k = 13 ∨ k = 14 ∨ k = 15 := by omega
theorem opText_len (op : Int) : (opText op).length ≤ 4 := by
  unfold opText
  by_cases h1 : op = 1
  · rw [if_pos h1]; decide
  rw [if_neg h1]
  by_cases h2 : op = 2
  · rw [if_pos h2]; decide
  rw [if_neg h2]
  by_cases h3 : op = 3
  · rw [if_pos h3]; decide
  rw [if_neg h3]
  by_cases h4 : op = 4
  · rw [if_pos h4]; decide
  rw [if_neg h4]
  by_cases h5 : op = 5
  · rw [if_pos h5]; decide
  rw [if_neg h5]
  by_cases h6 : op = 6
  · rw [if_pos h6]; decide
  rw [if_neg h6]
  by_cases h7 : op = 7
  · rw [if_pos h7]; decide
  rw [if_neg h7]
  by_cases h8 : op = 8
  · rw [if_pos h8]; decide
  rw [if_neg h8]
  by_cases h9 : op = 9
  · rw [if_pos h9]; decide
  rw [if_neg h9]
  by_cases h10 : op = 10
  · rw [if_pos h10]; decide
  rw [if_neg h10]
  by_cases h11 : op = 11
  · rw [if_pos h11]; decide
  rw [if_neg h11]
  by_cases h12 : op = 12
  · rw [if_pos h12]; decide
  rw [if_neg h12]
  by_cases h13 : op = 13
  · rw [if_pos h13]; decide
  rw [if_neg h13]
  by_cases h14 : op = 14
  · rw [if_pos h14]; decide
  rw [if_neg h14]
  by_cases h15 : op = 15
  · rw [if_pos h15]; decide
  rw [if_neg h15]
  decide

set_option maxRecDepth 100000 in
set_option maxHeartbeats 4000000 in
theorem S_l2Ins (k : Nat) (w : World) (hk : k ≤ 15) :
    Calls Tryd.prog 24 #[.int .i64 (k : Int)] w fun e w' => e = .returned (.string (tx (opText (k : Int)))) ∧ Below w.heap.size w w' := by
  have hc : (w.alloc (.cells #[.string ⟨#[]⟩, .string ⟨#[110, 117, 109]⟩, .string ⟨#[116, 97, 107, 101]⟩, .string ⟨#[112, 117, 116]⟩, .string ⟨#[97, 100, 100]⟩, .string ⟨#[110, 117, 108, 108]⟩, .string ⟨#[110, 101, 119]⟩, .string ⟨#[103, 101, 116]⟩, .string ⟨#[115, 101, 116]⟩, .string ⟨#[99, 97, 108, 108]⟩, .string ⟨#[114, 101, 116]⟩, .string ⟨#[122, 101, 114, 111]⟩, .string ⟨#[110, 105, 108]⟩, .string ⟨#[103, 111]⟩, .string ⟨#[111, 117, 116]⟩, .string ⟨#[99, 97, 115, 116]⟩] 9)).cell? ⟨w.heap.size, k, none⟩ = some (.string (tx (opText (k : Int)))) := by
    rw [World.cell?_alloc_at (hn := rfl)]
    rcases sixteen hk with rfl | rfl | rfl | rfl | rfl | rfl | rfl | rfl | rfl | rfl | rfl | rfl | rfl | rfl | rfl | rfl
    all_goals rfl
  have h1 : (k : Int) < 16 := by omega
  refine calls_hide fun R HR => ?_
  go_enter Tryd.func24, Tryd.ntmps24
  go_wp2
  all_goals (try go_returns)
  all_goals exact HR.out _ _ ⟨rfl, by (repeat' (first | (with_reducible exact Below.refl _ _) | (with_reducible refine Below.alloc ?_ ?_ _) | (with_reducible refine Below.setCell ?_ ?_ _) | (with_reducible refine Below.drew ?_) | (refine below_hyp (by assumption) ?_ ?_) | go_size))⟩

theorem S_l2InsI (op : Int) (w : World) (hk : 0 ≤ op ∧ op ≤ 15) :
    Calls Tryd.prog 24 #[.int .i64 op] w fun e w' => e = .returned (.string (tx (opText op))) ∧ Below w.heap.size w w' := by
  obtain ⟨k, rfl⟩ : ∃ k : Nat, op = (k : Int) := ⟨op.toNat, by omega⟩
  exact S_l2Ins k w (by omega)

theorem empty_size {n : ByteArray} (h : n.toList.isEmpty = true) : n.size = 0 := by
  rw [ByteArray.toList_eq] at h
  have : n.data.toList = [] := by simpa using h
  have h2 : n.data.toList.length = 0 := by rw [this]; rfl
  rw [Array.length_toList] at h2
  exact h2
theorem namOk_six {n : ByteArray} (h : namOk n = true) : n.size ≤ 6 := by
  unfold namOk at h
  simp only [Bool.and_eq_true, decide_eq_true_eq] at h
  exact h.1.2
def isNumOp (op : Int) : Bool := op == 1 || op == 2 || op == 3 || op == 11 || op == 12 || op == 13
def isClsOp (op : Int) : Bool := op == 6 || op == 15
def isMemOp (op : Int) : Bool := op == 7 || op == 8 || op == 9
/-- an instruction, as it is written -/
def insTxt (op a : Int) (n m : ByteArray) : List UInt8 :=
  if insOk op a n m then
    (if isNumOp op then opText op ++ ([32] ++ Lib.itoa a)
    else if isClsOp op then opText op ++ ([32] ++ n.data.toList)
    else if isMemOp op then opText op ++ ([32] ++ n.data.toList ++ [32] ++ m.data.toList)
    else opText op)
  else []
set_option maxRecDepth 20000 in
theorem insOk_parts {op a : Int} {n m : ByteArray} (h : insOk op a n m = true) : (1 ≤ op ∧ op ≤ 15) ∧ n.size ≤ 6 ∧ m.size ≤ 6 ∧ (isNumOp op = true → -9999 ≤ a ∧ a ≤ 9999) := by
  unfold insOk at h
  by_cases h1 : (op == 1) = true
  · rw [if_pos h1] at h
    simp only [Bool.and_eq_true, decide_eq_true_eq, beq_iff_eq] at h h1
    exact ⟨by omega, by have := empty_size h.1.2; omega, by have := empty_size h.2; omega, fun _ => h.1.1⟩
  rw [if_neg h1] at h
  by_cases h2 : (op == 2 || op == 3) = true
  · rw [if_pos h2] at h
    simp only [Bool.and_eq_true, Bool.or_eq_true, decide_eq_true_eq, beq_iff_eq] at h h2
    exact ⟨by omega, by have := empty_size h.1.2; omega, by have := empty_size h.2; omega, fun _ => by omega⟩
  rw [if_neg h2] at h
  by_cases h3 : (op == 11 || op == 12 || op == 13) = true
  · rw [if_pos h3] at h
    simp only [Bool.and_eq_true, Bool.or_eq_true, decide_eq_true_eq, beq_iff_eq] at h h3
    exact ⟨by omega, by have := empty_size h.1.2; omega, by have := empty_size h.2; omega, fun _ => by omega⟩
  rw [if_neg h3] at h
  have hno : ¬ isNumOp op = true := by
    intro hc
    have h23 : op ≠ 2 ∧ op ≠ 3 := by
      constructor <;> (intro e; subst e; exact h2 rfl)
    have h45 : op ≠ 11 ∧ op ≠ 12 ∧ op ≠ 13 := by
      refine ⟨?_, ?_, ?_⟩ <;> (intro e; subst e; exact h3 rfl)
    have h11 : op ≠ 1 := by intro e; subst e; exact h1 rfl
    unfold isNumOp at hc
    simp [h11, h23, h45] at hc
  by_cases h4 : (op == 6 || op == 15) = true
  · rw [if_pos h4] at h
    simp only [Bool.and_eq_true, Bool.or_eq_true, decide_eq_true_eq, beq_iff_eq] at h h4
    exact ⟨by omega, namOk_six h.1.2, by have := empty_size h.2; omega, fun hc => absurd hc hno⟩
  rw [if_neg h4] at h
  by_cases h5 : (op == 7 || op == 8 || op == 9) = true
  · rw [if_pos h5] at h
    simp only [Bool.and_eq_true, Bool.or_eq_true, decide_eq_true_eq, beq_iff_eq] at h h5
    exact ⟨by omega, namOk_six h.1.2, namOk_six h.2, fun hc => absurd hc hno⟩
  rw [if_neg h5] at h
  clear h1 h2 h3 h4 h5
  rw [Bool.and_eq_true, Bool.and_eq_true, Bool.and_eq_true] at h
  obtain ⟨⟨⟨h6, _⟩, h7⟩, h8⟩ := h
  rw [Bool.or_eq_true, Bool.or_eq_true, Bool.or_eq_true, beq_iff_eq, beq_iff_eq, beq_iff_eq, beq_iff_eq] at h6
  exact ⟨by omega, by have := empty_size h7; omega, by have := empty_size h8; omega, fun hc => absurd hc hno⟩
theorem itoa_len {a : Int} (h : -9999 ≤ a ∧ a ≤ 9999) : (tx (Lib.itoa a)).size ≤ 5 := by
  rw [tx_size, Lib.itoa]
  by_cases h0 : a < 0
  · rw [if_pos h0, List.length_cons, Lib.decDigits_length]
    have := nDig4 (k := a.natAbs) (by omega)
    omega
  · rw [if_neg h0, Lib.decDigits_length]
    have := nDig4 (k := a.toNat) (by omega)
    omega
theorem insTxt_num {op a : Int} {n m : ByteArray} (ok : insOk op a n m = true) (h : isNumOp op = true) : tx (opText op) ++ ⟨#[32]⟩ ++ tx (Lib.itoa a) = tx (insTxt op a n m) := by
  rw [show (⟨#[32]⟩ : ByteArray) = tx [32] from rfl, tx_app, tx_app]
  unfold insTxt
  rw [if_pos ok, if_pos h, List.append_assoc]
theorem insTxt_cls {op a : Int} {n m : ByteArray} (ok : insOk op a n m = true) (h0 : isNumOp op = false) (h : isClsOp op = true) : tx (opText op) ++ ⟨#[32]⟩ ++ n = tx (insTxt op a n m) := by
  conv => lhs; rw [← tx_by n]
  rw [show (⟨#[32]⟩ : ByteArray) = tx [32] from rfl, tx_app, tx_app]
  unfold insTxt
  rw [if_pos ok, if_neg (by rw [h0]; decide), if_pos h, List.append_assoc]
theorem insTxt_mem {op a : Int} {n m : ByteArray} (ok : insOk op a n m = true) (h0 : isNumOp op = false) (h1 : isClsOp op = false) (h : isMemOp op = true) : tx (opText op) ++ ⟨#[32]⟩ ++ n ++ ⟨#[32]⟩ ++ m = tx (insTxt op a n m) := by
  conv => lhs; rw [← tx_by n, ← tx_by m]
  rw [show (⟨#[32]⟩ : ByteArray) = tx [32] from rfl, tx_app, tx_app, tx_app, tx_app]
  unfold insTxt
  rw [if_pos ok, if_neg (by rw [h0]; decide), if_neg (by rw [h1]; decide), if_pos h]
  simp
theorem insTxt_pln {op a : Int} {n m : ByteArray} (ok : insOk op a n m = true) (h0 : isNumOp op = false) (h1 : isClsOp op = false) (h2 : isMemOp op = false) : tx (opText op) = tx (insTxt op a n m) := by
  unfold insTxt
  rw [if_pos ok, if_neg (by rw [h0]; decide), if_neg (by rw [h1]; decide), if_neg (by rw [h2]; decide)]
theorem fifteen {k : Int} (h : 1 ≤ k ∧ k ≤ 15) : k = 1 ∨ k = 2 ∨ k = 3 ∨ k = 4 ∨ k = 5 ∨ k = 6 ∨ k = 7 ∨ k = 8 ∨ k = 9 ∨ k = 10 ∨ k = 11 ∨ k = 12 ∨ k = 13 ∨ k = 14 ∨ k = 15 := by omega

set_option maxRecDepth 100000 in
set_option maxHeartbeats 16000000 in
theorem S_InsText (op a : Int) (n m : ByteArray) (w : World) (hn : n.size ≤ maxLen) (hm : m.size ≤ maxLen) :
    Calls Tryd.prog 10 #[.agg #[.int .i64 op, .int .i64 a, .string n, .string m]] w fun e w' => e = .returned (.string (tx (insTxt op a n m))) ∧ Below w.heap.size w w' := by
  have CI : ∀ W, Calls Tryd.prog 12 #[.agg #[.int .i64 op, .int .i64 a, .string n, .string m]] W fun e w' => e = .returned (.bool (insOk op a n m)) ∧ Below W.heap.size W w' := fun W => S_InsOk op a n m W hn hm
  cases hok : insOk op a n m
  · rw [hok] at CI
    have RV : Hid (tx (insTxt op a n m) = ⟨#[]⟩) := Lib.hid (by unfold insTxt; rw [hok]; rfl)
    refine calls_hide fun R HR => ?_
    go_enter Tryd.func10, Tryd.ntmps10
    go_wp2_with fail
    refine (CI _).mono ?_
    rintro _ w1 ⟨rfl, h1⟩
    go_wp2
    all_goals (try go_returns)
    all_goals exact HR.out _ _ ⟨by first | (rw [RV.out]; done) | (rw [RV.out]; rfl), by (repeat' (first | (with_reducible exact Below.refl _ _) | (with_reducible refine Below.alloc ?_ ?_ _) | (with_reducible refine Below.setCell ?_ ?_ _) | (with_reducible refine Below.drew ?_) | (refine below_hyp (by assumption) ?_ ?_) | go_size))⟩
  rw [hok] at CI
  obtain ⟨hk, hn6, hm6, ha⟩ := insOk_parts hok
  have OK := Lib.hid hok
  have HA := Lib.hid ha
  have e1 : (tx [32]).size = 1 := rfl
  have e2 : (tx (opText op)).size ≤ 4 := by rw [tx_size]; exact opText_len _
  have e3 : ∀ x : ByteArray, (x ++ tx [32]).size = x.size + 1 := fun x => by rw [ByteArray.size_append]; rfl
  have CN : -9999 ≤ a ∧ a ≤ 9999 → ∀ W, Calls Tryd.prog 29 #[.int .i64 a] W fun e w' => e = .returned (.string (tx (Lib.itoa a))) ∧ Below W.heap.size W w' := fun h W => S_l1Num a W h
  clear hok ha hn hm
  refine calls_hide fun R HR => ?_
  go_enter Tryd.func10, Tryd.ntmps10
  go_wp2_with fail
  refine (CI _).mono ?_
  rintro _ w1 ⟨rfl, h1⟩
  have h1s := (h1).size; (try simp only [World.size_alloc, World.size_setCell, World.size_drew] at h1s)
  obtain ⟨h1ac, h1ad, h1ao, h1af, h1ag, h1ap, h1az, h1ax, h1ay⟩ := bfacts (n := w.heap.size) (k := 1) h1 (by go_size) (by go_size); replace h1ad := h1ad (by decide); replace h1ag := h1ag (by decide); replace h1ax := h1ax (by decide); clear h1ac h1af h1az
  go_wp2_with fail
  refine (S_l2InsI op _ (by omega)).mono ?_
  rintro _ w2 ⟨rfl, h2⟩
  have h2s := (h2).size; (try simp only [World.size_alloc, World.size_setCell, World.size_drew] at h2s)
  obtain ⟨h2ac, h2ad, h2ao, h2af, h2ag, h2ap, h2az, h2ax, h2ay⟩ := bfacts (n := w.heap.size) (k := 1) h2 (by go_size) (by go_size); replace h2ad := h2ad (by decide); replace h2ag := h2ag (by decide); replace h2ax := h2ax (by decide); clear h2ac h2af h2az
  have hE : Below w.heap.size w w2 := by (repeat' (first | (with_reducible exact Below.refl _ _) | (with_reducible refine Below.alloc ?_ ?_ _) | (with_reducible refine Below.setCell ?_ ?_ _) | (with_reducible refine Below.drew ?_) | (refine below_hyp (by assumption) ?_ ?_) | go_size))
  clear CI
  rcases fifteen hk with rfl | rfl | rfl | rfl | rfl | rfl | rfl | rfl | rfl | rfl | rfl | rfl | rfl | rfl | rfl
  all_goals
    go_wp2_with (go_at_call 29; refine (CN (HA.out rfl) _).mono ?_; rintro _ w3 ⟨rfl, h3⟩; have hE3 := hE.trans (h3.mono hE.size); have e5 := itoa_len (HA.out rfl))
    all_goals (try go_returns)
    all_goals first
      | exact HR.out _ _ ⟨ret_str (insTxt_num OK.out rfl), hE3⟩
      | exact HR.out _ _ ⟨ret_str (insTxt_cls OK.out rfl rfl), hE⟩
      | exact HR.out _ _ ⟨ret_str (insTxt_mem OK.out rfl rfl rfl), hE⟩
      | exact HR.out _ _ ⟨ret_str (insTxt_pln OK.out rfl rfl rfl), hE⟩

end Go.Proofs.YtmbfpbgkchncgaaDoor
