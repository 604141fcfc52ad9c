

/-
  The walks of the reference's l1Words, l1Read. Condition: the text is short.
-/
import Derived.Test.YtmbfpbgkchncgaaDoorWords
import Derived.Laws.OwnMore
namespace Go.Proofs.YtmbfpbgkchncgaaDoor
set_option linter.unusedSimpArgs false
set_option linter.unusedVariables false
open Go.RowKit

theorem tx_piece (c : List UInt8) (s : ByteArray) (k : Nat) (h : k < s.size) : tx c ++ s.extract k (k + 1) = tx (c ++ [s[k]]) := by
  have e : s.extract k (k + 1) = tx [s[k]] := by
    apply ByteArray.ext
    rw [ByteArray.data_extract]
    show s.data.extract k (k + 1) = #[s.data[k]]
    apply Array.ext'
    rw [Array.toList_extract]
    show (s.data.toList.drop k).take (k + 1 - k) = [s.data[k]]
    rw [List.drop_eq_getElem_cons (by simpa using h), show k + 1 - k = 1 by omega]
    simp
  rw [e, tx_app]
theorem str_row (lo : Nat) (w : World) (x : ByteArray) (h : x.size ≤ maxLen) : rStr lo w [.string x] x := ⟨rfl, h⟩
theorem words_stop {c : List UInt8} {s : ByteArray} {k : Nat} (h : k < s.size) (e : s[k] = 32) : wordsGo c ((by' s).drop k) = c :: wordsGo [] ((by' s).drop (k + 1)) := by
  rw [by_drop h, wordsGo, if_pos e]
theorem words_on {c : List UInt8} {s : ByteArray} {k : Nat} (h : k < s.size) (e : ¬ s[k] = 32) : wordsGo c ((by' s).drop k) = wordsGo (c ++ [s[k]]) ((by' s).drop (k + 1)) := by
  rw [by_drop h, wordsGo, if_neg e]
theorem words_end {c : List UInt8} {s : ByteArray} {k : Nat} (h : ¬ k < s.size) : wordsGo c ((by' s).drop k) = [c] := by
  rw [List.drop_eq_nil_of_le (by rw [by_len]; omega), wordsGo]

set_option maxRecDepth 100000 in
set_option maxHeartbeats 4000000 in
theorem S_l1WordsL (s : ByteArray) (w : World) (hs : s.size ≤ 2000000) :
    Calls Tryd.prog 23 #[.string s] w fun e w' => ∃ v, e = .returned v ∧ TSl 1 rStr 9 w.heap.size w' v (words s) ∧ Below w.heap.size w w' := by
  have hi : (Tryd.prog.info? 9).map (fun i => (i.zero, i.size, i.bytes)) = some (some (.string ⟨#[]⟩), 1, 16) := by kernel_rfl
  have HI := Lib.hid hi
  clear hi
  refine calls_hide fun R HR => ?_
  go_enter Tryd.func23, Tryd.ntmps23
  go_wp2_with fail
  go_loopw [3, 4, 5] (fun ov wv iv wr => ∃ (k : Nat) (ws : List ByteArray) (c : List UInt8), k ≤ s.size ∧ iv = .int .i64 (k : Int) ∧ wv = .string (tx c) ∧ c.length ≤ k ∧ ws.length ≤ k ∧ words s = ws ++ (wordsGo c ((by' s).drop k)).map tx ∧ TSl 1 rStr 9 w.heap.size wr ov ws ∧ Below w.heap.size w wr) (fun _ _ iv _ => s.size - (intOf iv).toNat)
  case atStart =>
    exact ⟨0, [], [], Nat.zero_le _, rfl, rfl, Nat.le_refl _, Nat.le_refl _, by simp [words], ⟨[], Rows.nil, World.ownsRow_made w #[] 0 (Nat.le_refl _) (Nat.zero_le _) rfl⟩, by (repeat' (first | (with_reducible exact Below.refl _ _) | (with_reducible refine Below.alloc ?_ ?_ _) | (with_reducible refine Below.setCell ?_ ?_ _) | (with_reducible refine Below.drew ?_) | (refine below_hyp (by assumption) ?_ ?_) | go_size))⟩
  case round =>
    obtain ⟨k, ws, c, hk, rfl, rfl, hc, hws, hw, ht, hb⟩ := hrel
    have HW := Lib.hid hw
    have HT := Lib.hid ht
    have hbs := hb.size
    have hcs : (tx c).size ≤ 2000000 := by rw [tx_size]; omega
    have hcm : (tx c).size ≤ maxLen := by unfold maxLen; omega
    clear hw ht
    by_cases hlt : k < s.size
    · by_cases h32 : s[k] = 32
      · have NW : Hid (words s = (ws ++ [tx c]) ++ (wordsGo [] ((by' s).drop (k + 1))).map tx) := Lib.hid (by
          rw [HW.out, words_stop hlt h32]; simp)
        have hn : (s[k].toNat : Int) = 32 := by rw [h32]; rfl
        clear HW h32
        go_wp2_with (at_builtin; refine wpList_append_T (base := w.heap.size) (xs := ws) (ys := [tx c]) (css := [[.string (tx c)]]) (E := NoT) rfl (.tmp 17) (.tmp 19) 40 rfl 9 1 16 (.string ⟨#[]⟩) Tryd.underlying40 HI.out rfl (by decide) (by decide) rStr_goodT id rStr_one rfl ?ht rfl ?src (Rows.one rfl (str_row _ _ _ hcm)) ?hl ?hb ?_)
        case ht => exact HT.out.below rStr_goodT (by (repeat' (first | (with_reducible exact Below.refl _ _) | (with_reducible refine Below.alloc ?_ ?_ _) | (with_reducible refine Below.setCell ?_ ?_ _) | (with_reducible refine Below.drew ?_) | (refine below_hyp (by assumption) ?_ ?_) | go_size)))
        case src => exact Src.one (by intro j u hj; cases j with | zero => cases hj; go_simp | succ j => simp at hj)
        case hl => simp; omega
        case hb => simp; omega
        intro v1 w1 ht1 hg hk1
        have HT1 := Lib.hid ht1
        have hE1 : Below w.heap.size w w1 := (show Below w.heap.size w (wr.alloc (.cells #[.string (tx c)] 9)) by (repeat' (first | (with_reducible exact Below.refl _ _) | (with_reducible refine Below.alloc ?_ ?_ _) | (with_reducible refine Below.setCell ?_ ?_ _) | (with_reducible refine Below.drew ?_) | (refine below_hyp (by assumption) ?_ ?_) | go_size))).grown hg (by simp; omega) (HT.out.at_lo)
        clear ht1 hg hk1 HT
        go_wp2
        go_roundw
        case measure => simp [intOf]; omega
        case rel => exact ⟨k + 1, ws ++ [tx c], [], by omega, by go_num, rfl, by simp, by simp; omega, NW.out, HT1.out, hE1⟩
      · have NW : Hid (words s = ws ++ (wordsGo (c ++ [s[k]]) ((by' s).drop (k + 1))).map tx) := Lib.hid (by
          rw [HW.out, words_on hlt h32])
        have NX := Lib.hid (tx_piece c s k hlt)
        have hn : ¬ (s[k].toNat : Int) = 32 := by
          intro e
          apply h32
          apply UInt8.toNat_inj.1
          have : s[k].toNat = 32 := by omega
          rw [this]; rfl
        clear HW h32
        go_wp2
        go_roundw
        case measure => simp [intOf]; omega
        case rel => exact ⟨k + 1, ws, c ++ [s[k]], by omega, by go_num, by rw [← NX.out], by simp; omega, by omega, NW.out, HT.out, hb⟩
    · have NW : Hid (words s = ws ++ [tx c]) := Lib.hid (by
        rw [HW.out, words_end hlt]; rfl)
      clear HW
      go_wp2_with (at_builtin; refine wpList_append_T (base := w.heap.size) (xs := ws) (ys := [tx c]) (css := [[.string (tx c)]]) (E := NoT) rfl (.tmp 28) (.tmp 30) 40 rfl 9 1 16 (.string ⟨#[]⟩) Tryd.underlying40 HI.out rfl (by decide) (by decide) rStr_goodT id rStr_one rfl ?ht rfl ?src (Rows.one rfl (str_row _ _ _ hcm)) ?hl ?hb ?_)
      case ht => exact HT.out.below rStr_goodT (by (repeat' (first | (with_reducible exact Below.refl _ _) | (with_reducible refine Below.alloc ?_ ?_ _) | (with_reducible refine Below.setCell ?_ ?_ _) | (with_reducible refine Below.drew ?_) | (refine below_hyp (by assumption) ?_ ?_) | go_size)))
      case src => exact Src.one (by intro j u hj; cases j with | zero => cases hj; go_simp | succ j => simp at hj)
      case hl => simp; omega
      case hb => simp; omega
      intro v1 w1 ht1 hg hk1
      have HT1 := Lib.hid ht1
      have hE1 : Below w.heap.size w w1 := (show Below w.heap.size w (wr.alloc (.cells #[.string (tx c)] 9)) by (repeat' (first | (with_reducible exact Below.refl _ _) | (with_reducible refine Below.alloc ?_ ?_ _) | (with_reducible refine Below.setCell ?_ ?_ _) | (with_reducible refine Below.drew ?_) | (refine below_hyp (by assumption) ?_ ?_) | go_size))).grown hg (by simp; omega) (HT.out.at_lo)
      clear ht1 hg hk1 HT
      go_wp2
      all_goals (try go_returns)
      all_goals exact HR.out _ _ ⟨v1, rfl, by rw [NW.out]; exact HT1.out, hE1⟩
theorem S_l1Words (s : ByteArray) (w : World) (hs : s.size ≤ 10000) :
    Calls Tryd.prog 23 #[.string s] w fun e w' => ∃ v, e = .returned v ∧ TSl 1 rStr 9 w.heap.size w' v (words s) ∧ Below w.heap.size w w' := S_l1WordsL s w (by omega)

def numT (x : Int × Bool) : Value := .tuple #[.int .i64 x.1, .bool x.2]
theorem neg_at {s : ByteArray} (h : 0 < s.size) : isNeg (by' s) = (s[0] == 45) := by
  have := by_drop h
  rw [List.drop_zero] at this
  rw [this]; rfl
theorem body_neg {s : ByteArray} (h : isNeg (by' s) = true) : numBody (by' s) = (by' s).drop 1 := by
  unfold numBody; rw [if_pos h, List.drop_one]
theorem body_pos {s : ByteArray} (h : isNeg (by' s) = false) : numBody (by' s) = (by' s).drop 0 := by
  unfold numBody; rw [if_neg (by rw [h]; decide), List.drop_zero]
theorem body_len {s : ByteArray} {a : Nat} (h : numBody (by' s) = (by' s).drop a) : (numBody (by' s)).length = s.size - a := by
  rw [h, List.length_drop, by_len]
theorem read_short {s : ByteArray} {a : Nat} (h : numBody (by' s) = (by' s).drop a) (hs : s.size ≤ a ∨ a + 4 < s.size) : readNum s = (0, false) := by
  unfold readNum
  rw [if_pos (by rw [body_len h]; omega)]
theorem read_bad {s : ByteArray} (h : numGo 0 (numBody (by' s)) = none) : readNum s = (0, false) := by
  unfold readNum
  split
  · rfl
  · rw [h]
theorem read_val {s : ByteArray} {a : Nat} {n : Int} (h : numBody (by' s) = (by' s).drop a) (hs : a < s.size ∧ s.size ≤ a + 4) (hn : numGo 0 (numBody (by' s)) = some n) : readNum s = (if isNeg (by' s) then -n else n, numText (if isNeg (by' s) then -n else n) == by' s) := by
  unfold readNum
  rw [if_neg (by rw [body_len h]; omega), hn]
theorem num_step {s : ByteArray} {k : Nat} {m : Int} (h : k < s.size) (hd : isDig s[k] = true) : numGo m ((by' s).drop k) = numGo (m * 10 + digVal s[k]) ((by' s).drop (k + 1)) := by
  rw [by_drop h, numGo, if_pos hd]
theorem num_stop {s : ByteArray} {k : Nat} {m : Int} (h : k < s.size) (hd : isDig s[k] = false) : numGo m ((by' s).drop k) = none := by
  rw [by_drop h, numGo, if_neg (by rw [hd]; decide)]
theorem num_end {s : ByteArray} {k : Nat} {m : Int} (h : ¬ k < s.size) : numGo m ((by' s).drop k) = some m := by
  rw [List.drop_eq_nil_of_le (by rw [by_len]; omega), numGo]
/-- the number under way, a bytes behind the first digit's place -/
def Below4 (m : Int) (j : Nat) : Prop := 0 ≤ m ∧ ((j = 0 ∧ m = 0) ∨ (j = 1 ∧ m ≤ 9) ∨ (j = 2 ∧ m ≤ 99) ∨ (j = 3 ∧ m ≤ 999) ∨ (j = 4 ∧ m ≤ 9999))


theorem dig_no {c : UInt8} (h : isDig c = false) : ((c.toNat : Int) < 48) ∨ (57 < (c.toNat : Int)) := by
  unfold isDig at h
  simp at h
  omega
theorem dig_yes {c : UInt8} (h : isDig c = true) : 48 ≤ (c.toNat : Int) ∧ (c.toNat : Int) ≤ 57 := by
  unfold isDig at h
  simp at h
  omega

set_option maxRecDepth 100000 in
set_option maxHeartbeats 4000000 in
theorem S_l1ReadL (s : ByteArray) (w : World) (hs : s.size ≤ 2000000) :
    Calls Tryd.prog 25 #[.string s] w fun e w' => e = .returned (numT (readNum s)) ∧ Below w.heap.size w w' := by
  cases hneg : isNeg (by' s)
  · have BD := Lib.hid (body_pos hneg)
    by_cases h0 : 0 < s.size
    · have h45 : ((s[0].toNat : Int) == 45) = false := by
        rw [neg_at h0] at hneg
        rw [beq_eq_false_iff_ne]
        intro e
        have : s[0] = 45 := by
          apply UInt8.toNat_inj.1
          have : s[0].toNat = 45 := by omega
          rw [this]; rfl
        rw [this] at hneg
        cases hneg
      have NG := Lib.hid hneg
      by_cases hsh : s.size ≤ 0 ∨ 0 + 4 < s.size
      · have RV := Lib.hid (read_short BD.out hsh)
        have g1 : ((s.size : Int) == 0) = decide (s.size = 0) := by rw [Bool.eq_iff_iff]; (try simp); (try omega)
        clear hneg
        by_cases hz : s.size = 0
        · (refine calls_hide fun R HR => ?_; go_enter Tryd.func25, Tryd.ntmps25)
          go_wp2
          all_goals (try go_returns)
          all_goals exact HR.out _ _ ⟨by rw [RV.out]; rfl, by (repeat' (first | (with_reducible exact Below.refl _ _) | (with_reducible refine Below.alloc ?_ ?_ _) | (with_reducible refine Below.setCell ?_ ?_ _) | (with_reducible refine Below.drew ?_) | (refine below_hyp (by assumption) ?_ ?_) | go_size))⟩
        · have hz2 : 0 + 4 < s.size := by omega
          (refine calls_hide fun R HR => ?_; go_enter Tryd.func25, Tryd.ntmps25)
          go_wp2
          all_goals (try go_returns)
          all_goals exact HR.out _ _ ⟨by rw [RV.out]; rfl, by (repeat' (first | (with_reducible exact Below.refl _ _) | (with_reducible refine Below.alloc ?_ ?_ _) | (with_reducible refine Below.setCell ?_ ?_ _) | (with_reducible refine Below.drew ?_) | (refine below_hyp (by assumption) ?_ ?_) | go_size))⟩
      have hsz : 0 < s.size ∧ s.size ≤ 0 + 4 := by omega
      have g2 : ((s.size : Int) == 0) = false := by rw [beq_eq_false_iff_ne]; omega
      have g3 : decide ((4 : Int) < (s.size : Int)) = false := by rw [decide_eq_false_iff_not]; omega
      clear hneg hsh
      (refine calls_hide fun R HR => ?_; go_enter Tryd.func25, Tryd.ntmps25)
      go_wp2_with fail
      go_loopw [4, 6] (fun nv iv wr => ∃ (m : Int) (k : Nat), 0 ≤ k ∧ k ≤ s.size ∧ nv = .int .i64 m ∧ iv = .int .i64 (k : Int) ∧ Below4 m (k - 0) ∧ numGo 0 (numBody (by' s)) = numGo m ((by' s).drop k) ∧ Below w.heap.size w wr) (fun _ iv _ => s.size - (intOf iv).toNat)
      case atStart => exact ⟨0, 0, Nat.le_refl _, by omega, rfl, rfl, ⟨by decide, .inl ⟨by decide, rfl⟩⟩, by rw [BD.out], by (repeat' (first | (with_reducible exact Below.refl _ _) | (with_reducible refine Below.alloc ?_ ?_ _) | (with_reducible refine Below.setCell ?_ ?_ _) | (with_reducible refine Below.drew ?_) | (refine below_hyp (by assumption) ?_ ?_) | go_size))⟩
      case round =>
        obtain ⟨m, k, hak, hks, rfl, rfl, hb4, hgo, hb⟩ := hrel
        have GO := Lib.hid hgo
        have HB4 := Lib.hid hb4
        have hm : 0 ≤ m ∧ m ≤ 9999 := by obtain ⟨h1, h2⟩ := hb4; omega
        have hbs := hb.size
        clear hgo hb4
        by_cases hlt : k < s.size
        · cases hd : isDig s[k]
          · have RV : Hid (readNum s = (0, false)) := Lib.hid (read_bad (by rw [GO.out, num_stop hlt hd]))
            have hdd := dig_no hd
            clear hd
            rcases hdd with hdd | hdd
            · go_wp2
              all_goals (try go_returns)
              all_goals exact HR.out _ _ ⟨by rw [RV.out]; rfl, by (repeat' (first | (with_reducible exact Below.refl _ _) | (with_reducible refine Below.alloc ?_ ?_ _) | (with_reducible refine Below.setCell ?_ ?_ _) | (with_reducible refine Below.drew ?_) | (refine below_hyp (by assumption) ?_ ?_) | go_size))⟩
            · have hd2 : ¬ ((s[k].toNat : Int) < 48) := by omega
              go_wp2
              all_goals (try go_returns)
              all_goals exact HR.out _ _ ⟨by rw [RV.out]; rfl, by (repeat' (first | (with_reducible exact Below.refl _ _) | (with_reducible refine Below.alloc ?_ ?_ _) | (with_reducible refine Below.setCell ?_ ?_ _) | (with_reducible refine Below.drew ?_) | (refine below_hyp (by assumption) ?_ ?_) | go_size))⟩
          · have GN : Hid (numGo 0 (numBody (by' s)) = numGo (m * 10 + digVal s[k]) ((by' s).drop (k + 1))) := Lib.hid (by rw [GO.out, num_step hlt hd])
            have hdd := dig_yes hd
            have g1 : IntKind.u8.wrap ((s[k].toNat : Int) - 48) = (s[k].toNat : Int) - 48 := IntWalk.u8_in _ (by omega)
            have NB : Hid (Below4 (m * 10 + digVal s[k]) (k + 1 - 0)) := Lib.hid (by
              obtain ⟨h1, h2⟩ := HB4.out
              unfold Below4 digVal
              omega)
            have hnn : m * 10 + ((s[k].toNat : Int) - 48) ≤ 99999 := by omega
            clear hd
            go_wp2
            go_roundw
            case measure => simp [intOf]; omega
            case rel => exact ⟨m * 10 + digVal s[k], k + 1, by omega, by omega, by first | rfl | go_num, by go_num, NB.out, GN.out, hb⟩
        · have RV : Hid (readNum s = (m, numText (m) == by' s)) := Lib.hid (by
            rw [read_val BD.out hsz (by rw [GO.out, num_end hlt]), NG.out]; rfl)
          have CN : ∀ W, Calls Tryd.prog 29 #[.int .i64 (m)] W fun e w' => e = .returned (.string (tx (Lib.itoa (m)))) ∧ Below W.heap.size W w' := fun W => S_l1Num (m) W (by omega)
          have NT : Hid (readNum s = (m, (tx (Lib.itoa (m))).toList == s.toList)) := Lib.hid (by rw [RV.out, numText_itoa (by omega), ByteArray.toList_eq, ByteArray.toList_eq]; rfl)
          go_wp2_with fail
          refine (CN _).mono ?_
          rintro _ w1 ⟨rfl, h1⟩
          go_wp2
          all_goals (try go_returns)
          all_goals exact HR.out _ _ ⟨by rw [NT.out]; rfl, by (repeat' (first | (with_reducible exact Below.refl _ _) | (with_reducible refine Below.alloc ?_ ?_ _) | (with_reducible refine Below.setCell ?_ ?_ _) | (with_reducible refine Below.drew ?_) | (refine below_hyp (by assumption) ?_ ?_) | go_size))⟩
    · have hz : s.size = 0 := by omega
      have RV := Lib.hid (read_short BD.out (.inl (by omega)))
      clear hneg
      refine calls_hide fun R HR => ?_
      go_enter Tryd.func25, Tryd.ntmps25
      go_wp2
      all_goals (try go_returns)
      all_goals exact HR.out _ _ ⟨by rw [RV.out]; rfl, by (repeat' (first | (with_reducible exact Below.refl _ _) | (with_reducible refine Below.alloc ?_ ?_ _) | (with_reducible refine Below.setCell ?_ ?_ _) | (with_reducible refine Below.drew ?_) | (refine below_hyp (by assumption) ?_ ?_) | go_size))⟩
  · have BD := Lib.hid (body_neg hneg)
    have h0 : 0 < s.size := by
      by_cases h : 0 < s.size
      · exact h
      · rw [show by' s = [] from List.eq_nil_of_length_eq_zero (by rw [by_len]; omega)] at hneg
        cases hneg
    have h45 : (s[0].toNat : Int) = 45 := by
      rw [neg_at h0] at hneg
      rw [beq_iff_eq.1 hneg]; rfl
    have NG := Lib.hid hneg
    by_cases hsh : s.size ≤ 1 ∨ 1 + 4 < s.size
    · have RV := Lib.hid (read_short BD.out hsh)
      have g1 : ((s.size : Int) == 1) = decide (s.size = 1) := by rw [Bool.eq_iff_iff]; (try simp); (try omega)
      clear hneg
      by_cases hz : s.size = 1
      · (refine calls_hide fun R HR => ?_; go_enter Tryd.func25, Tryd.ntmps25)
        go_wp2
        all_goals (try go_returns)
        all_goals exact HR.out _ _ ⟨by rw [RV.out]; rfl, by (repeat' (first | (with_reducible exact Below.refl _ _) | (with_reducible refine Below.alloc ?_ ?_ _) | (with_reducible refine Below.setCell ?_ ?_ _) | (with_reducible refine Below.drew ?_) | (refine below_hyp (by assumption) ?_ ?_) | go_size))⟩
      · have hz2 : 1 + 4 < s.size := by omega
        (refine calls_hide fun R HR => ?_; go_enter Tryd.func25, Tryd.ntmps25)
        go_wp2
        all_goals (try go_returns)
        all_goals exact HR.out _ _ ⟨by rw [RV.out]; rfl, by (repeat' (first | (with_reducible exact Below.refl _ _) | (with_reducible refine Below.alloc ?_ ?_ _) | (with_reducible refine Below.setCell ?_ ?_ _) | (with_reducible refine Below.drew ?_) | (refine below_hyp (by assumption) ?_ ?_) | go_size))⟩
    have hsz : 1 < s.size ∧ s.size ≤ 1 + 4 := by omega
    have g2 : ((s.size : Int) == 1) = false := by rw [beq_eq_false_iff_ne]; omega
    have g3 : decide ((5 : Int) < (s.size : Int)) = false := by rw [decide_eq_false_iff_not]; omega
    clear hneg hsh
    (refine calls_hide fun R HR => ?_; go_enter Tryd.func25, Tryd.ntmps25)
    go_wp2_with fail
    go_loopw [4, 6] (fun nv iv wr => ∃ (m : Int) (k : Nat), 1 ≤ k ∧ k ≤ s.size ∧ nv = .int .i64 m ∧ iv = .int .i64 (k : Int) ∧ Below4 m (k - 1) ∧ numGo 0 (numBody (by' s)) = numGo m ((by' s).drop k) ∧ Below w.heap.size w wr) (fun _ iv _ => s.size - (intOf iv).toNat)
    case atStart => exact ⟨0, 1, Nat.le_refl _, by omega, rfl, rfl, ⟨by decide, .inl ⟨by decide, rfl⟩⟩, by rw [BD.out], by (repeat' (first | (with_reducible exact Below.refl _ _) | (with_reducible refine Below.alloc ?_ ?_ _) | (with_reducible refine Below.setCell ?_ ?_ _) | (with_reducible refine Below.drew ?_) | (refine below_hyp (by assumption) ?_ ?_) | go_size))⟩
    case round =>
      obtain ⟨m, k, hak, hks, rfl, rfl, hb4, hgo, hb⟩ := hrel
      have GO := Lib.hid hgo
      have HB4 := Lib.hid hb4
      have hm : 0 ≤ m ∧ m ≤ 9999 := by obtain ⟨h1, h2⟩ := hb4; omega
      have hbs := hb.size
      clear hgo hb4
      by_cases hlt : k < s.size
      · cases hd : isDig s[k]
        · have RV : Hid (readNum s = (0, false)) := Lib.hid (read_bad (by rw [GO.out, num_stop hlt hd]))
          have hdd := dig_no hd
          clear hd
          rcases hdd with hdd | hdd
          · go_wp2
            all_goals (try go_returns)
            all_goals exact HR.out _ _ ⟨by rw [RV.out]; rfl, by (repeat' (first | (with_reducible exact Below.refl _ _) | (with_reducible refine Below.alloc ?_ ?_ _) | (with_reducible refine Below.setCell ?_ ?_ _) | (with_reducible refine Below.drew ?_) | (refine below_hyp (by assumption) ?_ ?_) | go_size))⟩
          · have hd2 : ¬ ((s[k].toNat : Int) < 48) := by omega
            go_wp2
            all_goals (try go_returns)
            all_goals exact HR.out _ _ ⟨by rw [RV.out]; rfl, by (repeat' (first | (with_reducible exact Below.refl _ _) | (with_reducible refine Below.alloc ?_ ?_ _) | (with_reducible refine Below.setCell ?_ ?_ _) | (with_reducible refine Below.drew ?_) | (refine below_hyp (by assumption) ?_ ?_) | go_size))⟩
        · have GN : Hid (numGo 0 (numBody (by' s)) = numGo (m * 10 + digVal s[k]) ((by' s).drop (k + 1))) := Lib.hid (by rw [GO.out, num_step hlt hd])
          have hdd := dig_yes hd
          have g1 : IntKind.u8.wrap ((s[k].toNat : Int) - 48) = (s[k].toNat : Int) - 48 := IntWalk.u8_in _ (by omega)
          have NB : Hid (Below4 (m * 10 + digVal s[k]) (k + 1 - 1)) := Lib.hid (by
            obtain ⟨h1, h2⟩ := HB4.out
            unfold Below4 digVal
            omega)
          have hnn : m * 10 + ((s[k].toNat : Int) - 48) ≤ 99999 := by omega
          clear hd
          go_wp2
          go_roundw
          case measure => simp [intOf]; omega
          case rel => exact ⟨m * 10 + digVal s[k], k + 1, by omega, by omega, by first | rfl | go_num, by go_num, NB.out, GN.out, hb⟩
      · have RV : Hid (readNum s = (-m, numText (-m) == by' s)) := Lib.hid (by
          rw [read_val BD.out hsz (by rw [GO.out, num_end hlt]), NG.out]; rfl)
        have CN : ∀ W, Calls Tryd.prog 29 #[.int .i64 (-m)] W fun e w' => e = .returned (.string (tx (Lib.itoa (-m)))) ∧ Below W.heap.size W w' := fun W => S_l1Num (-m) W (by omega)
        have NT : Hid (readNum s = (-m, (tx (Lib.itoa (-m))).toList == s.toList)) := Lib.hid (by rw [RV.out, numText_itoa (by omega), ByteArray.toList_eq, ByteArray.toList_eq]; rfl)
        go_wp2_with fail
        refine (CN _).mono ?_
        rintro _ w1 ⟨rfl, h1⟩
        go_wp2
        all_goals (try go_returns)
        all_goals exact HR.out _ _ ⟨by rw [NT.out]; rfl, by (repeat' (first | (with_reducible exact Below.refl _ _) | (with_reducible refine Below.alloc ?_ ?_ _) | (with_reducible refine Below.setCell ?_ ?_ _) | (with_reducible refine Below.drew ?_) | (refine below_hyp (by assumption) ?_ ?_) | go_size))⟩
theorem S_l1Read (s : ByteArray) (w : World) (hs : s.size ≤ 10000) :
    Calls Tryd.prog 25 #[.string s] w fun e w' => e = .returned (numT (readNum s)) ∧ Below w.heap.size w w' := S_l1ReadL s w (by omega)

end Go.Proofs.YtmbfpbgkchncgaaDoor
