

/-
  The walk of the program's InsRead: how an instruction is read. Condition: the library's variables hold what their texts lay; the text is no longer than a text may be.
-/
import Derived.Test.YtmbfpbgkchncgaaDoorRdI
import Derived.Test.YtmbfpbgkchncgaaDoorRdP
import Derived.Test.YtmbfpbgkchncgaaDoorInsR
namespace Go.Proofs.YtmbfpbgkchncgaaDoor
set_option linter.unusedSimpArgs false
set_option linter.unusedVariables false
open Go.RowKit


theorem tl_inj' {a b : ByteArray} : a.toList = b.toList ↔ a = b := by
  rw [ByteArray.toList_eq, ByteArray.toList_eq]
  constructor
  · intro h; exact ByteArray.ext (Array.toList_inj.mp h)
  · rintro rfl; rfl
theorem ok_num {op n : Int} (h : isNumOp op = true) : insOkD ⟨op, n, ⟨#[]⟩, ⟨#[]⟩⟩ = (decide (rangeLo op ≤ n) && decide (n ≤ rangeHi op)) := by
  simp only [isNumOp, Bool.or_eq_true, beq_iff_eq] at h
  rcases h with ((((h | h) | h) | h) | h) | h <;> subst h <;> simp [insOkD, insOk, rangeLo, rangeHi, ByteArray.toList_eq]
theorem ok_cls {op : Int} {x : ByteArray} (h : isClsOp op = true) : insOkD ⟨op, 0, x, ⟨#[]⟩⟩ = namOk x := by
  simp only [isClsOp, Bool.or_eq_true, beq_iff_eq] at h
  rcases h with h | h <;> subst h <;> simp [insOkD, insOk, ByteArray.toList_eq]
theorem ok_mem {op : Int} {x y : ByteArray} (h : isMemOp op = true) : insOkD ⟨op, 0, x, y⟩ = (namOk x && namOk y) := by
  simp only [isMemOp, Bool.or_eq_true, beq_iff_eq] at h
  rcases h with (h | h) | h <;> subst h <;> simp [insOkD, insOk]
theorem ok_pln {op : Int} (ho : 1 ≤ op ∧ op ≤ 15) (h1 : ¬ isNumOp op = true) (h2 : ¬ isClsOp op = true) (h3 : ¬ isMemOp op = true) : insOkD ⟨op, 0, ⟨#[]⟩, ⟨#[]⟩⟩ = true := by
  rcases fifteen ho with h | h | h | h | h | h | h | h | h | h | h | h | h | h | h <;> subst h <;>
  first | (exact absurd rfl h1) | (exact absurd rfl h2) | (exact absurd rfl h3) | (simp [insOkD, insOk, ByteArray.toList_eq])
theorem ins_bad {s : ByteArray} {i : DClsIns} (h : (tx (insTxt i.fOp i.fA i.fName i.fMember)).toList ≠ s.toList) : insText i ≠ by' s := fun e => by
  apply h
  rw [← insText_txt, e]
  exact congrArg ByteArray.toList (tx_by s)
theorem ins_good {s : ByteArray} {i : DClsIns} (h : (tx (insTxt i.fOp i.fA i.fName i.fMember)).toList = s.toList) : insText i = by' s := by
  rw [insText_txt]
  have h2 : tx (insTxt i.fOp i.fA i.fName i.fMember) = s := tl_inj'.1 h
  rw [← h2]
  simp [by', tx]

theorem fn_eql {P : Program} {t : TypeId} {ps rs : Array TypeId} {v : Bool} (h : P.underlying t = some (.func ps rs v)) (w : World) : (binOp .eql t .nilFunc .nilFunc).run P w = .ok (.bool true) w := by
  have h1 : ∀ d : Nat, (Op.equalIn (d + 1) t .nilFunc .nilFunc).run P w = .ok true w := fun d => by simp [Op.equalIn, run_underlying h]
  simp only [binOp]
  simp [Op.equal, Op.maxDepth, h1 9999]
theorem fn_neq {P : Program} {t : TypeId} {ps rs : Array TypeId} {v : Bool} (h : P.underlying t = some (.func ps rs v)) (w : World) (f : Fn) (xs ys : Array Value) : (binOp .eql t (.func f xs ys) .nilFunc).run P w = .ok (.bool false) w := by
  have h1 : ∀ d : Nat, (Op.equalIn (d + 1) t (.func f xs ys) .nilFunc).run P w = .ok false w := fun d => by simp [Op.equalIn, run_underlying h]
  simp only [binOp]
  simp [Op.equal, Op.maxDepth, h1 9999]
theorem nameV {P : World → Prop} (w : World) (h : ∀ W, W = w → P W) : P w := h w rfl

set_option maxRecDepth 100000 in
set_option maxHeartbeats 16000000 in
theorem I_InsRead (s : ByteArray) (w : World) (hs : s.size ≤ maxLen) (h : Lay w) :
    Calls Tryd.prog 7 #[.string s] w fun e w' => e = .returned (insT (insRead s)) ∧ Below w.heap.size w w' := by
  have m1 : s.size ≤ 9223372036854775807 := by unfold maxLen at hs; omega
  by_cases h30 : 30 < s.size
  · have RV : Hid (insRead s = (nilIns, false)) := Lib.hid (ir_long h30)
    have d : decide ((30 : Int) < (s.size : Int)) = true := by simp; omega
    clear h h30
    refine calls_hide fun R HR => ?_
    go_enter Tryd.func7, Tryd.ntmps7
    go_wp2
    all_goals
      refine bodyPost_ret (v := ?_) ?hrun rfl ?_
      case hrun => (simp only [results, Tryd.results7]; go_simp; first | done | exact rfl)
      exact HR.out _ _ ⟨by first | (rw [RV.out]; done) | (rw [RV.out]; rfl), by (repeat' (first | (with_reducible exact Below.refl _ _) | (with_reducible refine Below.alloc ?_ ?_ _) | (with_reducible refine Below.setCell ?_ ?_ _) | (with_reducible refine Below.drew ?_) | (refine below_hyp (by assumption) ?_ ?_) | go_size))⟩
  have d : decide ((30 : Int) < (s.size : Int)) = false := by simp; omega
  obtain ⟨x0, rest, hws⟩ : ∃ x0 rest, words s = x0 :: rest := by
    have := words_pos s
    match hw : words s, this with
    | x0 :: rest, _ => exact ⟨x0, rest, rfl⟩
  have hsz : ∀ x ∈ words s, x.size ≤ 30 := fun x hx => Nat.le_trans (words_size hx) (by omega)
  have hlen : (words s).length ≤ 31 := by
    have h1 := split_len s
    have h2 := Lib.countB_le ⟨#[32]⟩ (by decide) s.size s (Nat.le_refl _)
    omega
  have H := Lib.hid h
  have CS : Hid (∀ W, Below w.heap.size w W → Calls Tryd.prog 19 #[.string s, .string ⟨#[32]⟩] W fun e w' => e = .returned (.slice (some ⟨W.heap.size, 0, none⟩) (rest.length + 1) (rest.length + 1)) ∧ (∀ j x, (words s)[j]? = some x → w'.cell? ⟨W.heap.size, j, none⟩ = some (.string x)) ∧ Below W.heap.size W w' ∧ W.heap.size < w'.heap.size) := Lib.hid fun W hW => by
    obtain ⟨m, hm⟩ := (H.out.below hW).max
    refine (Tryd.strings_Split s ⟨#[32]⟩ m W (by omega) hm (by decide)).mono fun e w' hh => ?_
    obtain ⟨h1, h2⟩ := hh
    have hl : Lib.countB s ⟨#[32]⟩ + 1 = rest.length + 1 := by rw [split_len, hws]; rfl
    rw [split_words] at h2
    refine ⟨by rw [h1, hl], fun j x hx => ?_, by rw [h2]; exact (Below.refl _ _).alloc (Nat.le_refl _) _, by rw [h2]; simp⟩
    rw [h2]
    simp only [World.cell?, heap_alloc_new]
    simp [hx]
  have h1k : ∀ j x, rest[j]? = some x → (words s)[1 + j]? = some x := fun j x hx => by
    rw [hws, Nat.add_comm]; simpa using hx
  have HSZ := Lib.hid hsz
  have HWS := Lib.hid hws
  have H1K := Lib.hid h1k
  have hrl : rest.length ≤ 30 := by rw [hws] at hlen; simpa using hlen
  clear h hws hsz hlen h1k h30
  refine calls_hide fun R HR => ?_
  go_enter Tryd.func7, Tryd.ntmps7
  go_wp2_with fail
  have hB0 : Below w.heap.size w (w.alloc (.cells #[.int .i64 0, .int .i64 0, .string ⟨#[]⟩, .string ⟨#[]⟩] 24)) := by (repeat' (first | (with_reducible exact Below.refl _ _) | (with_reducible refine Below.alloc ?_ ?_ _) | (with_reducible refine Below.setCell ?_ ?_ _) | (with_reducible refine Below.drew ?_) | (refine below_hyp (by assumption) ?_ ?_) | go_size))
  have R0 := Lib.hid (Four.new w (.int .i64 0) (.int .i64 0) (.string ⟨#[]⟩) (.string ⟨#[]⟩) 24)
  refine (CS.out _ hB0).mono ?_
  rintro _ w1 ⟨rfl, hcell, h1, hl1⟩
  rw [World.size_alloc] at hcell hl1 h1
  have R1 := Lib.hid (R0.out.keep (by rw [World.size_alloc]; exact h1))
  have HB1 : Hid (Below w.heap.size w w1) := Lib.hid (hB0.trans (h1.mono (Nat.le_succ _)))
  have c0 : w1.cell? ⟨w.heap.size + 1, 0, none⟩ = some (.string x0) := hcell 0 x0 (by rw [HWS.out]; rfl)
  have CJ : Hid (∀ j x, rest[j]? = some x → w1.cell? ⟨w.heap.size + 1, 1 + j, none⟩ = some (.string x) ∧ x.size ≤ 30) := Lib.hid fun j x hx => ⟨hcell _ x (H1K.out j x hx), HSZ.out x (List.mem_of_getElem? (H1K.out j x hx))⟩
  clear hcell h1 CS hB0 R0
  go_wp2_with fail
  refine (I_insReader x0 w1).mono ?_
  rintro _ w2 ⟨hpost, h2⟩
  have hz2 := h2.size
  have R2 := Lib.hid (R1.out.keep h2)
  have HB2 : Hid (Below w.heap.size w w2) := Lib.hid (HB1.out.trans (h2.mono HB1.out.size))
  have CJ2 : Hid (∀ j x, rest[j]? = some x → w2.cell? ⟨w.heap.size + 1, 1 + j, none⟩ = some (.string x) ∧ x.size ≤ 30) := Lib.hid fun j x hx => ⟨keep_cell h2 (CJ.out j x hx).1, (CJ.out j x hx).2⟩
  have L2 := Lib.hid (H.out.below HB2.out)
  have hgl : w.heap.size + 1 < w2.heap.size := by omega
  clear c0 h2 CJ R1 HB1
  rcases hpost with ⟨op, v, ho, hx0, hv, hrd⟩ | ⟨hv, hno⟩
  rotate_left
  · have RV : Hid (insRead s = (nilIns, false)) := Lib.hid (ir_noword fun op ho => by rw [HWS.out]; exact hno op ho)
    obtain ⟨lr, r0, r1, r2, r3, z0, z1, z2, z3⟩ := R2.out
    have EQ : ∀ W, (binOp .eql 42 .nilFunc .nilFunc).run Tryd.prog W = .ok (.bool true) W := fun W => fn_eql Tryd.underlying42 W
    subst hv
    clear hno
    go_wp2
    all_goals
      refine bodyPost_ret (v := ?_) ?hrun rfl ?_
      case hrun => (simp only [results, Tryd.results7]; go_simp; first | done | exact rfl)
      exact HR.out _ _ ⟨by first | (rw [RV.out]; done) | (rw [RV.out]; rfl), by (repeat' (first | (with_reducible exact Below.refl _ _) | (with_reducible refine Below.alloc ?_ ?_ _) | (with_reducible refine Below.setCell ?_ ?_ _) | (with_reducible refine Below.drew ?_) | (refine below_hyp (by assumption) ?_ ?_) | go_size))⟩
  · obtain ⟨b, rfl, hb⟩ := hrd
    subst hv
    have HW2 : Hid (words s = tx (opText op) :: rest) := Lib.hid (by rw [HWS.out, hx0])
    obtain ⟨lr0, _, _, _, _, _, _, _, _⟩ := R2.out
    have EQ2 : ∀ (W : World) (F : FuncId), (binOp .eql 42 (.func (.func F) #[] #[.pointer (some ⟨b, 0, none⟩)]) .nilFunc).run Tryd.prog W = .ok (.bool false) W := fun W F => fn_neq Tryd.underlying42 W _ _ _
    clear hx0 lr0
    by_cases k1 : isNumOp op = true
    · have hfn : rdFn op = 38 := by unfold rdFn; rw [if_pos k1]
      rw [hfn]
      clear hfn
      by_cases hr : rest.length = 1
      · obtain ⟨x1, rfl⟩ : ∃ x1, rest = [x1] := List.length_eq_one_iff.1 hr
        obtain ⟨c1, z1⟩ := CJ2.out 0 x1 rfl
        obtain ⟨n, q, hnq⟩ : ∃ n q, shortN x1 = (n, q) := ⟨_, _, rfl⟩
        have CR : Hid (Calls Tryd.prog 38 #[.slice (some ⟨w.heap.size + 1, 1, none⟩) 1 1, .pointer (some ⟨b, 0, none⟩)] w2 fun e w' => e = .returned (if q then .iface 52 (.agg #[.int .i64 op, .int .i64 n]) else .nilIface) ∧ Below w2.heap.size w2 w') := Lib.hid (by
          have := I_rdNumber op b (w.heap.size + 1) 1 1 x1 w2 (Nat.le_refl _) hb c1 (by unfold maxLen; omega) L2.out
          unfold numV at this
          rw [hnq] at this; exact this)
        have HNQ := Lib.hid hnq
        have hok := ok_num (n := n) k1
        have HK1 := Lib.hid k1
        clear c1 z1 hr hnq k1
        go_wp2_with fail
        refine CR.out.mono ?_
        rintro _ w3 ⟨rfl, h3⟩
        cases q
        · have RV : Hid (insRead s = (nilIns, false)) := Lib.hid (ir_noform ho HW2.out (by unfold pForm; rw [if_pos HK1.out]; simp only [HNQ.out]; rfl))
          simp only [Bool.false_eq_true, if_false]
          have h3z := h3.size
          have R3 := Lib.hid (R2.out.keep h3)
          have HB3 : Hid (Below w.heap.size w w3) := Lib.hid (HB2.out.trans (h3.mono HB2.out.size))
          obtain ⟨lr, r0, r1, r2, r3, z0, z1, z2, z3⟩ := R3.out
          clear h3 hb EQ2 HB2
          go_wp2
          all_goals
            refine bodyPost_ret (v := ?_) ?hrun rfl ?_
            case hrun => (simp only [results, Tryd.results7]; go_simp; first | done | exact rfl)
            exact HR.out _ _ ⟨by first | (rw [RV.out]; done) | (rw [RV.out]; rfl), by (repeat' (first | (with_reducible exact Below.refl _ _) | (with_reducible refine Below.alloc ?_ ?_ _) | (with_reducible refine Below.setCell ?_ ?_ _) | (with_reducible refine Below.drew ?_) | (refine below_hyp (by assumption) ?_ ?_) | go_size))⟩
        have HPF : Hid (pForm op [x1] = some (⟨op, n, ⟨#[]⟩, ⟨#[]⟩⟩ : DClsIns)) := Lib.hid (by unfold pForm; rw [if_pos HK1.out]; simp only [HNQ.out]; rfl)
        simp only [if_true]
        have h3z := h3.size
        have R3 := Lib.hid (R2.out.keep h3)
        have HB3 : Hid (Below w.heap.size w w3) := Lib.hid (HB2.out.trans (h3.mono HB2.out.size))
        clear h3 hb EQ2
        obtain ⟨fo, hfo⟩ : ∃ z, z = insOkD (⟨op, n, ⟨#[]⟩, ⟨#[]⟩⟩ : DClsIns) := ⟨_, rfl⟩
        have CF : Hid (∀ W, Calls Tryd.prog 21 #[.iface 52 (.agg #[.int .i64 op, .int .i64 n])] W fun e w' => e = .returned (.bool fo) ∧ Below W.heap.size W w') := Lib.hid fun W => by
          have := I_formOk_num op n W
          rw [hfo, hok]; exact this
        have HFO := Lib.hid hfo
        clear hfo hok
        go_wp2_with fail
        refine (CF.out _).mono ?_
        rintro _ w4 ⟨rfl, h4⟩
        have h4z := h4.size
        have R4 := Lib.hid (R3.out.keep h4)
        have HB4 : Hid (Below w.heap.size w w4) := Lib.hid (HB3.out.trans (h4.mono HB3.out.size))
        clear h4 R3
        clear CF
        cases fo
        · have RV : Hid (insRead s = (nilIns, false)) := Lib.hid (ir_bad ho HW2.out HPF.out (Or.inr HFO.out.symm))
          obtain ⟨lr, r0, r1, r2, r3, z0, z1, z2, z3⟩ := R4.out
          clear HB3 HB2
          go_wp2
          all_goals
            refine bodyPost_ret (v := ?_) ?hrun rfl ?_
            case hrun => (simp only [results, Tryd.results7]; go_simp; first | done | exact rfl)
            exact HR.out _ _ ⟨by first | (rw [RV.out]; done) | (rw [RV.out]; rfl), by (repeat' (first | (with_reducible exact Below.refl _ _) | (with_reducible refine Below.alloc ?_ ?_ _) | (with_reducible refine Below.setCell ?_ ?_ _) | (with_reducible refine Below.drew ?_) | (refine below_hyp (by assumption) ?_ ?_) | go_size))⟩
        go_wp2_with fail
        refine (I_insOf_num op n ⟨#[]⟩ ⟨#[]⟩ _).mono ?_
        rintro _ w5 ⟨rfl, h5⟩
        have h5z := h5.size
        have R5 := Lib.hid (R4.out.keep h5)
        have HB5 : Hid (Below w.heap.size w w5) := Lib.hid (HB4.out.trans (h5.mono HB4.out.size))
        clear h5 R4
        go_wp2_with fail
        refine nameV (P := fun W => Calls Tryd.prog 9 #[.agg #[.int .i64 op, .int .i64 n, .string ⟨#[]⟩, .string ⟨#[]⟩]] W _) _ (fun w6 hw6 => ?_)
        have hB56 : Below w5.heap.size w5 w6 := by rw [hw6]; clear HB5 HB4 HB3 HB2; (repeat' (first | (with_reducible exact Below.refl _ _) | (with_reducible refine Below.alloc ?_ ?_ _) | (with_reducible refine Below.setCell ?_ ?_ _) | (with_reducible refine Below.drew ?_) | (refine below_hyp (by assumption) ?_ ?_) | go_size))
        have T6 : Four w6 w5.heap.size (.int .i64 op) (.int .i64 n) (.string ⟨#[]⟩) (.string ⟨#[]⟩) := by rw [hw6]; exact Four.new _ _ _ _ _ _
        have R6 := Lib.hid (R5.out.keep hB56)
        have HB6 : Hid (Below w.heap.size w w6) := Lib.hid (HB5.out.trans (hB56.mono HB5.out.size))
        clear hw6 hB56
        refine (I_InsText op n ⟨#[]⟩ ⟨#[]⟩ w6 (by first | exact hn1 | exact Nat.zero_le _) (by first | exact hn2 | exact Nat.zero_le _) (H.out.below HB6.out).tab).mono ?_
        rintro _ w7 ⟨rfl, h7⟩
        have h7z := h7.size
        obtain ⟨lr, r0, r1, r2, r3, z0, z1, z2, z3⟩ := R6.out.keep h7
        obtain ⟨lt, t0, t1, t2, t3, y0, y1, y2, y3⟩ := T6.keep h7
        have HB7 : Hid (Below w.heap.size w w7) := Lib.hid (HB6.out.trans (h7.mono HB6.out.size))
        clear h7 T6 R6 R5 HB6 HB5 HB4 HB3 HB2
        by_cases hz : (tx (insTxt op n ⟨#[]⟩ ⟨#[]⟩)).toList = s.toList
        · have RV : Hid (insRead s = ((⟨op, n, ⟨#[]⟩, ⟨#[]⟩⟩ : DClsIns), true)) := Lib.hid (insRead_of HFO.out.symm (ins_good hz))
          have q1 : ((tx (insTxt op n ⟨#[]⟩ ⟨#[]⟩)).toList != s.toList) = false := by simp [hz]
          have q2 : ((tx (insTxt op n ⟨#[]⟩ ⟨#[]⟩)).toList == s.toList) = true := by simp [hz]
          clear hz
          go_wp2
          all_goals
            refine bodyPost_ret (v := ?_) ?hrun rfl ?_
            case hrun => (simp only [results, Tryd.results7]; go_simp; first | done | exact rfl)
            exact HR.out _ _ ⟨by first | (rw [RV.out]; done) | (rw [RV.out]; rfl), by (repeat' (first | (with_reducible exact Below.refl _ _) | (with_reducible refine Below.alloc ?_ ?_ _) | (with_reducible refine Below.setCell ?_ ?_ _) | (with_reducible refine Below.drew ?_) | (refine below_hyp (by assumption) ?_ ?_) | go_size))⟩
        · have RV : Hid (insRead s = (nilIns, false)) := Lib.hid (ir_bad ho HW2.out HPF.out (Or.inl (ins_bad hz)))
          have q1 : ((tx (insTxt op n ⟨#[]⟩ ⟨#[]⟩)).toList != s.toList) = true := by simp [hz]
          have q2 : ((tx (insTxt op n ⟨#[]⟩ ⟨#[]⟩)).toList == s.toList) = false := by simp [hz]
          clear hz
          go_wp2
          all_goals
            refine bodyPost_ret (v := ?_) ?hrun rfl ?_
            case hrun => (simp only [results, Tryd.results7]; go_simp; first | done | exact rfl)
            exact HR.out _ _ ⟨by first | (rw [RV.out]; done) | (rw [RV.out]; rfl), by (repeat' (first | (with_reducible exact Below.refl _ _) | (with_reducible refine Below.alloc ?_ ?_ _) | (with_reducible refine Below.setCell ?_ ?_ _) | (with_reducible refine Below.drew ?_) | (refine below_hyp (by assumption) ?_ ?_) | go_size))⟩
      · have RV : Hid (insRead s = (nilIns, false)) := Lib.hid (ir_noform ho HW2.out (by
          unfold pForm
          rw [if_pos k1]
          match rest, hr with
          | [], _ => rfl
          | [_], h => exact absurd rfl h
          | _ :: _ :: _, _ => rfl))
        have CR : Hid (∀ a n cap, n = rest.length → Calls Tryd.prog 38 #[.slice a n cap, .pointer (some ⟨b, 0, none⟩)] w2 fun e w' => e = .returned .nilIface ∧ Below w2.heap.size w2 w') := Lib.hid fun a n cap hnr => by rw [hnr]; exact I_rdOff true b a rest.length cap w2 (by omega) hr
        clear hr k1
        go_wp2_with fail
        all_goals
          refine (CR.out _ _ _ (by first | rfl | (have e : rest = [] := (by assumption); rw [e]; rfl))).mono ?_
          rintro _ w3 ⟨rfl, h3⟩
          have h3z := h3.size
          have R3 := Lib.hid (R2.out.keep h3)
          have HB3 : Hid (Below w.heap.size w w3) := Lib.hid (HB2.out.trans (h3.mono HB2.out.size))
          obtain ⟨lr, r0, r1, r2, r3, z0, z1, z2, z3⟩ := R3.out
          clear h3 hb EQ2 HB2
          go_wp2
          all_goals
            refine bodyPost_ret (v := ?_) ?hrun rfl ?_
            case hrun => (simp only [results, Tryd.results7]; go_simp; first | done | exact rfl)
            exact HR.out _ _ ⟨by first | (rw [RV.out]; done) | (rw [RV.out]; rfl), by (repeat' (first | (with_reducible exact Below.refl _ _) | (with_reducible refine Below.alloc ?_ ?_ _) | (with_reducible refine Below.setCell ?_ ?_ _) | (with_reducible refine Below.drew ?_) | (refine below_hyp (by assumption) ?_ ?_) | go_size))⟩
    by_cases k2 : isClsOp op = true
    · have hfn : rdFn op = 41 := by unfold rdFn; rw [if_neg k1, if_pos k2]
      rw [hfn]
      clear hfn
      by_cases hr : rest.length = 1
      · obtain ⟨x1, rfl⟩ : ∃ x1, rest = [x1] := List.length_eq_one_iff.1 hr
        obtain ⟨c1, z1⟩ := CJ2.out 0 x1 rfl
        have CR : Hid (Calls Tryd.prog 41 #[.slice (some ⟨w.heap.size + 1, 1, none⟩) 1 1, .pointer (some ⟨b, 0, none⟩)] w2 fun e w' => e = .returned (.iface 55 (.agg #[.int .i64 op, .string x1])) ∧ Below w2.heap.size w2 w') := Lib.hid (I_rdClass op b (w.heap.size + 1) 1 1 x1 w2 (Nat.le_refl _) hb c1)
        have hok := ok_cls (x := x1) k2
        have hn1 : x1.size ≤ maxLen := by unfold maxLen; omega
        have HPF : Hid (pForm op [x1] = some (⟨op, 0, x1, ⟨#[]⟩⟩ : DClsIns)) := Lib.hid (by unfold pForm; rw [if_neg k1, if_pos k2])
        clear c1 z1 hr k1 k2
        go_wp2_with fail
        refine CR.out.mono ?_
        rintro _ w3 ⟨rfl, h3⟩
        have h3z := h3.size
        have R3 := Lib.hid (R2.out.keep h3)
        have HB3 : Hid (Below w.heap.size w w3) := Lib.hid (HB2.out.trans (h3.mono HB2.out.size))
        clear h3 hb EQ2
        obtain ⟨fo, hfo⟩ : ∃ z, z = insOkD (⟨op, 0, x1, ⟨#[]⟩⟩ : DClsIns) := ⟨_, rfl⟩
        have CF : Hid (∀ W, Calls Tryd.prog 21 #[.iface 55 (.agg #[.int .i64 op, .string x1])] W fun e w' => e = .returned (.bool fo) ∧ Below W.heap.size W w') := Lib.hid fun W => by
          have := I_formOk_cls op x1 W hn1
          rw [hfo, hok]; exact this
        have HFO := Lib.hid hfo
        clear hfo hok
        go_wp2_with fail
        refine (CF.out _).mono ?_
        rintro _ w4 ⟨rfl, h4⟩
        have h4z := h4.size
        have R4 := Lib.hid (R3.out.keep h4)
        have HB4 : Hid (Below w.heap.size w w4) := Lib.hid (HB3.out.trans (h4.mono HB3.out.size))
        clear h4 R3
        clear CF
        cases fo
        · have RV : Hid (insRead s = (nilIns, false)) := Lib.hid (ir_bad ho HW2.out HPF.out (Or.inr HFO.out.symm))
          obtain ⟨lr, r0, r1, r2, r3, z0, z1, z2, z3⟩ := R4.out
          clear HB3 HB2
          go_wp2
          all_goals
            refine bodyPost_ret (v := ?_) ?hrun rfl ?_
            case hrun => (simp only [results, Tryd.results7]; go_simp; first | done | exact rfl)
            exact HR.out _ _ ⟨by first | (rw [RV.out]; done) | (rw [RV.out]; rfl), by (repeat' (first | (with_reducible exact Below.refl _ _) | (with_reducible refine Below.alloc ?_ ?_ _) | (with_reducible refine Below.setCell ?_ ?_ _) | (with_reducible refine Below.drew ?_) | (refine below_hyp (by assumption) ?_ ?_) | go_size))⟩
        go_wp2_with fail
        refine (I_insOf_cls op 0 x1 ⟨#[]⟩ _).mono ?_
        rintro _ w5 ⟨rfl, h5⟩
        have h5z := h5.size
        have R5 := Lib.hid (R4.out.keep h5)
        have HB5 : Hid (Below w.heap.size w w5) := Lib.hid (HB4.out.trans (h5.mono HB4.out.size))
        clear h5 R4
        go_wp2_with fail
        refine nameV (P := fun W => Calls Tryd.prog 9 #[.agg #[.int .i64 op, .int .i64 0, .string x1, .string ⟨#[]⟩]] W _) _ (fun w6 hw6 => ?_)
        have hB56 : Below w5.heap.size w5 w6 := by rw [hw6]; clear HB5 HB4 HB3 HB2; (repeat' (first | (with_reducible exact Below.refl _ _) | (with_reducible refine Below.alloc ?_ ?_ _) | (with_reducible refine Below.setCell ?_ ?_ _) | (with_reducible refine Below.drew ?_) | (refine below_hyp (by assumption) ?_ ?_) | go_size))
        have T6 : Four w6 w5.heap.size (.int .i64 op) (.int .i64 0) (.string x1) (.string ⟨#[]⟩) := by rw [hw6]; exact Four.new _ _ _ _ _ _
        have R6 := Lib.hid (R5.out.keep hB56)
        have HB6 : Hid (Below w.heap.size w w6) := Lib.hid (HB5.out.trans (hB56.mono HB5.out.size))
        clear hw6 hB56
        refine (I_InsText op 0 x1 ⟨#[]⟩ w6 (by first | exact hn1 | exact Nat.zero_le _) (by first | exact hn2 | exact Nat.zero_le _) (H.out.below HB6.out).tab).mono ?_
        rintro _ w7 ⟨rfl, h7⟩
        have h7z := h7.size
        obtain ⟨lr, r0, r1, r2, r3, z0, z1, z2, z3⟩ := R6.out.keep h7
        obtain ⟨lt, t0, t1, t2, t3, y0, y1, y2, y3⟩ := T6.keep h7
        have HB7 : Hid (Below w.heap.size w w7) := Lib.hid (HB6.out.trans (h7.mono HB6.out.size))
        clear h7 T6 R6 R5 HB6 HB5 HB4 HB3 HB2
        by_cases hz : (tx (insTxt op 0 x1 ⟨#[]⟩)).toList = s.toList
        · have RV : Hid (insRead s = ((⟨op, 0, x1, ⟨#[]⟩⟩ : DClsIns), true)) := Lib.hid (insRead_of HFO.out.symm (ins_good hz))
          have q1 : ((tx (insTxt op 0 x1 ⟨#[]⟩)).toList != s.toList) = false := by simp [hz]
          have q2 : ((tx (insTxt op 0 x1 ⟨#[]⟩)).toList == s.toList) = true := by simp [hz]
          clear hz
          go_wp2
          all_goals
            refine bodyPost_ret (v := ?_) ?hrun rfl ?_
            case hrun => (simp only [results, Tryd.results7]; go_simp; first | done | exact rfl)
            exact HR.out _ _ ⟨by first | (rw [RV.out]; done) | (rw [RV.out]; rfl), by (repeat' (first | (with_reducible exact Below.refl _ _) | (with_reducible refine Below.alloc ?_ ?_ _) | (with_reducible refine Below.setCell ?_ ?_ _) | (with_reducible refine Below.drew ?_) | (refine below_hyp (by assumption) ?_ ?_) | go_size))⟩
        · have RV : Hid (insRead s = (nilIns, false)) := Lib.hid (ir_bad ho HW2.out HPF.out (Or.inl (ins_bad hz)))
          have q1 : ((tx (insTxt op 0 x1 ⟨#[]⟩)).toList != s.toList) = true := by simp [hz]
          have q2 : ((tx (insTxt op 0 x1 ⟨#[]⟩)).toList == s.toList) = false := by simp [hz]
          clear hz
          go_wp2
          all_goals
            refine bodyPost_ret (v := ?_) ?hrun rfl ?_
            case hrun => (simp only [results, Tryd.results7]; go_simp; first | done | exact rfl)
            exact HR.out _ _ ⟨by first | (rw [RV.out]; done) | (rw [RV.out]; rfl), by (repeat' (first | (with_reducible exact Below.refl _ _) | (with_reducible refine Below.alloc ?_ ?_ _) | (with_reducible refine Below.setCell ?_ ?_ _) | (with_reducible refine Below.drew ?_) | (refine below_hyp (by assumption) ?_ ?_) | go_size))⟩
      · have RV : Hid (insRead s = (nilIns, false)) := Lib.hid (ir_noform ho HW2.out (by
          unfold pForm
          rw [if_neg k1, if_pos k2]
          match rest, hr with
          | [], _ => rfl
          | [_], h => exact absurd rfl h
          | _ :: _ :: _, _ => rfl))
        have CR : Hid (∀ a n cap, n = rest.length → Calls Tryd.prog 41 #[.slice a n cap, .pointer (some ⟨b, 0, none⟩)] w2 fun e w' => e = .returned .nilIface ∧ Below w2.heap.size w2 w') := Lib.hid fun a n cap hnr => by rw [hnr]; exact I_rdOff false b a rest.length cap w2 (by omega) hr
        clear hr k1 k2
        go_wp2_with fail
        all_goals
          refine (CR.out _ _ _ (by first | rfl | (have e : rest = [] := (by assumption); rw [e]; rfl))).mono ?_
          rintro _ w3 ⟨rfl, h3⟩
          have h3z := h3.size
          have R3 := Lib.hid (R2.out.keep h3)
          have HB3 : Hid (Below w.heap.size w w3) := Lib.hid (HB2.out.trans (h3.mono HB2.out.size))
          obtain ⟨lr, r0, r1, r2, r3, z0, z1, z2, z3⟩ := R3.out
          clear h3 hb EQ2 HB2
          go_wp2
          all_goals
            refine bodyPost_ret (v := ?_) ?hrun rfl ?_
            case hrun => (simp only [results, Tryd.results7]; go_simp; first | done | exact rfl)
            exact HR.out _ _ ⟨by first | (rw [RV.out]; done) | (rw [RV.out]; rfl), by (repeat' (first | (with_reducible exact Below.refl _ _) | (with_reducible refine Below.alloc ?_ ?_ _) | (with_reducible refine Below.setCell ?_ ?_ _) | (with_reducible refine Below.drew ?_) | (refine below_hyp (by assumption) ?_ ?_) | go_size))⟩
    by_cases k3 : isMemOp op = true
    · have hfn : rdFn op = 43 := by unfold rdFn; rw [if_neg k1, if_neg k2, if_pos k3]
      rw [hfn]
      clear hfn
      by_cases hr : rest.length = 2
      · obtain ⟨x1, x2, rfl⟩ : ∃ x1 x2, rest = [x1, x2] := (match rest, hr with | [x1, x2], _ => ⟨x1, x2, rfl⟩)
        obtain ⟨c1, z1⟩ := CJ2.out 0 x1 rfl
        obtain ⟨c2, z2⟩ := CJ2.out 1 x2 rfl
        have CR : Hid (Calls Tryd.prog 43 #[.slice (some ⟨w.heap.size + 1, 1, none⟩) 2 2, .pointer (some ⟨b, 0, none⟩)] w2 fun e w' => e = .returned (.iface 57 (.agg #[.int .i64 op, .string x1, .string x2])) ∧ Below w2.heap.size w2 w') := Lib.hid (I_rdMember op b (w.heap.size + 1) 1 2 x1 x2 w2 (Nat.le_refl _) hb c1 c2)
        have hok := ok_mem (x := x1) (y := x2) k3
        have hn1 : x1.size ≤ maxLen := by unfold maxLen; omega
        have hn2 : x2.size ≤ maxLen := by unfold maxLen; omega
        have HPF : Hid (pForm op [x1, x2] = some (⟨op, 0, x1, x2⟩ : DClsIns)) := Lib.hid (by unfold pForm; rw [if_neg k1, if_neg k2, if_pos k3])
        clear c1 z1 c2 z2 hr k1 k2 k3
        go_wp2_with fail
        refine CR.out.mono ?_
        rintro _ w3 ⟨rfl, h3⟩
        have h3z := h3.size
        have R3 := Lib.hid (R2.out.keep h3)
        have HB3 : Hid (Below w.heap.size w w3) := Lib.hid (HB2.out.trans (h3.mono HB2.out.size))
        clear h3 hb EQ2
        obtain ⟨fo, hfo⟩ : ∃ z, z = insOkD (⟨op, 0, x1, x2⟩ : DClsIns) := ⟨_, rfl⟩
        have CF : Hid (∀ W, Calls Tryd.prog 21 #[.iface 57 (.agg #[.int .i64 op, .string x1, .string x2])] W fun e w' => e = .returned (.bool fo) ∧ Below W.heap.size W w') := Lib.hid fun W => by
          have := I_formOk_mem op x1 x2 W hn1 hn2
          rw [hfo, hok]; exact this
        have HFO := Lib.hid hfo
        clear hfo hok
        go_wp2_with fail
        refine (CF.out _).mono ?_
        rintro _ w4 ⟨rfl, h4⟩
        have h4z := h4.size
        have R4 := Lib.hid (R3.out.keep h4)
        have HB4 : Hid (Below w.heap.size w w4) := Lib.hid (HB3.out.trans (h4.mono HB3.out.size))
        clear h4 R3
        clear CF
        cases fo
        · have RV : Hid (insRead s = (nilIns, false)) := Lib.hid (ir_bad ho HW2.out HPF.out (Or.inr HFO.out.symm))
          obtain ⟨lr, r0, r1, r2, r3, z0, z1, z2, z3⟩ := R4.out
          clear HB3 HB2
          go_wp2
          all_goals
            refine bodyPost_ret (v := ?_) ?hrun rfl ?_
            case hrun => (simp only [results, Tryd.results7]; go_simp; first | done | exact rfl)
            exact HR.out _ _ ⟨by first | (rw [RV.out]; done) | (rw [RV.out]; rfl), by (repeat' (first | (with_reducible exact Below.refl _ _) | (with_reducible refine Below.alloc ?_ ?_ _) | (with_reducible refine Below.setCell ?_ ?_ _) | (with_reducible refine Below.drew ?_) | (refine below_hyp (by assumption) ?_ ?_) | go_size))⟩
        go_wp2_with fail
        refine (I_insOf_mem op 0 x1 x2 _).mono ?_
        rintro _ w5 ⟨rfl, h5⟩
        have h5z := h5.size
        have R5 := Lib.hid (R4.out.keep h5)
        have HB5 : Hid (Below w.heap.size w w5) := Lib.hid (HB4.out.trans (h5.mono HB4.out.size))
        clear h5 R4
        go_wp2_with fail
        refine nameV (P := fun W => Calls Tryd.prog 9 #[.agg #[.int .i64 op, .int .i64 0, .string x1, .string x2]] W _) _ (fun w6 hw6 => ?_)
        have hB56 : Below w5.heap.size w5 w6 := by rw [hw6]; clear HB5 HB4 HB3 HB2; (repeat' (first | (with_reducible exact Below.refl _ _) | (with_reducible refine Below.alloc ?_ ?_ _) | (with_reducible refine Below.setCell ?_ ?_ _) | (with_reducible refine Below.drew ?_) | (refine below_hyp (by assumption) ?_ ?_) | go_size))
        have T6 : Four w6 w5.heap.size (.int .i64 op) (.int .i64 0) (.string x1) (.string x2) := by rw [hw6]; exact Four.new _ _ _ _ _ _
        have R6 := Lib.hid (R5.out.keep hB56)
        have HB6 : Hid (Below w.heap.size w w6) := Lib.hid (HB5.out.trans (hB56.mono HB5.out.size))
        clear hw6 hB56
        refine (I_InsText op 0 x1 x2 w6 (by first | exact hn1 | exact Nat.zero_le _) (by first | exact hn2 | exact Nat.zero_le _) (H.out.below HB6.out).tab).mono ?_
        rintro _ w7 ⟨rfl, h7⟩
        have h7z := h7.size
        obtain ⟨lr, r0, r1, r2, r3, z0, z1, z2, z3⟩ := R6.out.keep h7
        obtain ⟨lt, t0, t1, t2, t3, y0, y1, y2, y3⟩ := T6.keep h7
        have HB7 : Hid (Below w.heap.size w w7) := Lib.hid (HB6.out.trans (h7.mono HB6.out.size))
        clear h7 T6 R6 R5 HB6 HB5 HB4 HB3 HB2
        by_cases hz : (tx (insTxt op 0 x1 x2)).toList = s.toList
        · have RV : Hid (insRead s = ((⟨op, 0, x1, x2⟩ : DClsIns), true)) := Lib.hid (insRead_of HFO.out.symm (ins_good hz))
          have q1 : ((tx (insTxt op 0 x1 x2)).toList != s.toList) = false := by simp [hz]
          have q2 : ((tx (insTxt op 0 x1 x2)).toList == s.toList) = true := by simp [hz]
          clear hz
          go_wp2
          all_goals
            refine bodyPost_ret (v := ?_) ?hrun rfl ?_
            case hrun => (simp only [results, Tryd.results7]; go_simp; first | done | exact rfl)
            exact HR.out _ _ ⟨by first | (rw [RV.out]; done) | (rw [RV.out]; rfl), by (repeat' (first | (with_reducible exact Below.refl _ _) | (with_reducible refine Below.alloc ?_ ?_ _) | (with_reducible refine Below.setCell ?_ ?_ _) | (with_reducible refine Below.drew ?_) | (refine below_hyp (by assumption) ?_ ?_) | go_size))⟩
        · have RV : Hid (insRead s = (nilIns, false)) := Lib.hid (ir_bad ho HW2.out HPF.out (Or.inl (ins_bad hz)))
          have q1 : ((tx (insTxt op 0 x1 x2)).toList != s.toList) = true := by simp [hz]
          have q2 : ((tx (insTxt op 0 x1 x2)).toList == s.toList) = false := by simp [hz]
          clear hz
          go_wp2
          all_goals
            refine bodyPost_ret (v := ?_) ?hrun rfl ?_
            case hrun => (simp only [results, Tryd.results7]; go_simp; first | done | exact rfl)
            exact HR.out _ _ ⟨by first | (rw [RV.out]; done) | (rw [RV.out]; rfl), by (repeat' (first | (with_reducible exact Below.refl _ _) | (with_reducible refine Below.alloc ?_ ?_ _) | (with_reducible refine Below.setCell ?_ ?_ _) | (with_reducible refine Below.drew ?_) | (refine below_hyp (by assumption) ?_ ?_) | go_size))⟩
      · have RV : Hid (insRead s = (nilIns, false)) := Lib.hid (ir_noform ho HW2.out (by
          unfold pForm
          rw [if_neg k1, if_neg k2, if_pos k3]
          match rest, hr with
          | [], _ => rfl
          | [_], _ => rfl
          | [_, _], h => exact absurd rfl h
          | _ :: _ :: _ :: _, _ => rfl))
        have CR : Hid (∀ a n cap, n = rest.length → Calls Tryd.prog 43 #[.slice a n cap, .pointer (some ⟨b, 0, none⟩)] w2 fun e w' => e = .returned .nilIface ∧ Below w2.heap.size w2 w') := Lib.hid fun a n cap hnr => by rw [hnr]; exact I_rdMemberOff b a rest.length cap w2 (by omega) hr
        clear hr k1 k2 k3
        go_wp2_with fail
        all_goals
          refine (CR.out _ _ _ (by first | rfl | (have e : rest = [] := (by assumption); rw [e]; rfl))).mono ?_
          rintro _ w3 ⟨rfl, h3⟩
          have h3z := h3.size
          have R3 := Lib.hid (R2.out.keep h3)
          have HB3 : Hid (Below w.heap.size w w3) := Lib.hid (HB2.out.trans (h3.mono HB2.out.size))
          obtain ⟨lr, r0, r1, r2, r3, z0, z1, z2, z3⟩ := R3.out
          clear h3 hb EQ2 HB2
          go_wp2
          all_goals
            refine bodyPost_ret (v := ?_) ?hrun rfl ?_
            case hrun => (simp only [results, Tryd.results7]; go_simp; first | done | exact rfl)
            exact HR.out _ _ ⟨by first | (rw [RV.out]; done) | (rw [RV.out]; rfl), by (repeat' (first | (with_reducible exact Below.refl _ _) | (with_reducible refine Below.alloc ?_ ?_ _) | (with_reducible refine Below.setCell ?_ ?_ _) | (with_reducible refine Below.drew ?_) | (refine below_hyp (by assumption) ?_ ?_) | go_size))⟩
    have hfn : rdFn op = 36 := by unfold rdFn; rw [if_neg k1, if_neg k2, if_neg k3]
    rw [hfn]
    clear hfn
    by_cases hr : rest.length = 0
    · obtain rfl : rest = [] := List.length_eq_zero_iff.1 hr
      have CR : Hid (∀ a cap, Calls Tryd.prog 36 #[.slice a 0 cap, .pointer (some ⟨b, 0, none⟩)] w2 fun e w' => e = .returned (.iface 65 (.agg #[.int .i64 op])) ∧ Below w2.heap.size w2 w') := Lib.hid fun a cap => by
        have := I_rdPlain op b a 0 cap w2 (by omega) hb
        simpa using this
      have hok := ok_pln ho k1 k2 k3
      have HPF : Hid (pForm op [] = some (⟨op, 0, ⟨#[]⟩, ⟨#[]⟩⟩ : DClsIns)) := Lib.hid (by unfold pForm; rw [if_neg k1, if_neg k2, if_neg k3])
      clear hr k1 k2 k3
      go_wp2_with fail
      refine (CR.out _ _).mono ?_
      rintro _ w3 ⟨rfl, h3⟩
      have h3z := h3.size
      have R3 := Lib.hid (R2.out.keep h3)
      have HB3 : Hid (Below w.heap.size w w3) := Lib.hid (HB2.out.trans (h3.mono HB2.out.size))
      clear h3 hb EQ2
      obtain ⟨fo, hfo⟩ : ∃ z, z = insOkD (⟨op, 0, ⟨#[]⟩, ⟨#[]⟩⟩ : DClsIns) := ⟨_, rfl⟩
      have CF : Hid (∀ W, Calls Tryd.prog 21 #[.iface 65 (.agg #[.int .i64 op])] W fun e w' => e = .returned (.bool fo) ∧ Below W.heap.size W w') := Lib.hid fun W => by
        have := I_formOk_pln op W
        rw [hfo, hok]; exact this
      have HFO := Lib.hid hfo
      clear hfo hok
      go_wp2_with fail
      refine (CF.out _).mono ?_
      rintro _ w4 ⟨rfl, h4⟩
      have h4z := h4.size
      have R4 := Lib.hid (R3.out.keep h4)
      have HB4 : Hid (Below w.heap.size w w4) := Lib.hid (HB3.out.trans (h4.mono HB3.out.size))
      clear h4 R3
      clear CF
      cases fo
      · have RV : Hid (insRead s = (nilIns, false)) := Lib.hid (ir_bad ho HW2.out HPF.out (Or.inr HFO.out.symm))
        obtain ⟨lr, r0, r1, r2, r3, z0, z1, z2, z3⟩ := R4.out
        clear HB3 HB2
        go_wp2
        all_goals
          refine bodyPost_ret (v := ?_) ?hrun rfl ?_
          case hrun => (simp only [results, Tryd.results7]; go_simp; first | done | exact rfl)
          exact HR.out _ _ ⟨by first | (rw [RV.out]; done) | (rw [RV.out]; rfl), by (repeat' (first | (with_reducible exact Below.refl _ _) | (with_reducible refine Below.alloc ?_ ?_ _) | (with_reducible refine Below.setCell ?_ ?_ _) | (with_reducible refine Below.drew ?_) | (refine below_hyp (by assumption) ?_ ?_) | go_size))⟩
      go_wp2_with fail
      refine (I_insOf_pln op 0 ⟨#[]⟩ ⟨#[]⟩ _).mono ?_
      rintro _ w5 ⟨rfl, h5⟩
      have h5z := h5.size
      have R5 := Lib.hid (R4.out.keep h5)
      have HB5 : Hid (Below w.heap.size w w5) := Lib.hid (HB4.out.trans (h5.mono HB4.out.size))
      clear h5 R4
      go_wp2_with fail
      refine nameV (P := fun W => Calls Tryd.prog 9 #[.agg #[.int .i64 op, .int .i64 0, .string ⟨#[]⟩, .string ⟨#[]⟩]] W _) _ (fun w6 hw6 => ?_)
      have hB56 : Below w5.heap.size w5 w6 := by rw [hw6]; clear HB5 HB4 HB3 HB2; (repeat' (first | (with_reducible exact Below.refl _ _) | (with_reducible refine Below.alloc ?_ ?_ _) | (with_reducible refine Below.setCell ?_ ?_ _) | (with_reducible refine Below.drew ?_) | (refine below_hyp (by assumption) ?_ ?_) | go_size))
      have T6 : Four w6 w5.heap.size (.int .i64 op) (.int .i64 0) (.string ⟨#[]⟩) (.string ⟨#[]⟩) := by rw [hw6]; exact Four.new _ _ _ _ _ _
      have R6 := Lib.hid (R5.out.keep hB56)
      have HB6 : Hid (Below w.heap.size w w6) := Lib.hid (HB5.out.trans (hB56.mono HB5.out.size))
      clear hw6 hB56
      refine (I_InsText op 0 ⟨#[]⟩ ⟨#[]⟩ w6 (by first | exact hn1 | exact Nat.zero_le _) (by first | exact hn2 | exact Nat.zero_le _) (H.out.below HB6.out).tab).mono ?_
      rintro _ w7 ⟨rfl, h7⟩
      have h7z := h7.size
      obtain ⟨lr, r0, r1, r2, r3, z0, z1, z2, z3⟩ := R6.out.keep h7
      obtain ⟨lt, t0, t1, t2, t3, y0, y1, y2, y3⟩ := T6.keep h7
      have HB7 : Hid (Below w.heap.size w w7) := Lib.hid (HB6.out.trans (h7.mono HB6.out.size))
      clear h7 T6 R6 R5 HB6 HB5 HB4 HB3 HB2
      by_cases hz : (tx (insTxt op 0 ⟨#[]⟩ ⟨#[]⟩)).toList = s.toList
      · have RV : Hid (insRead s = ((⟨op, 0, ⟨#[]⟩, ⟨#[]⟩⟩ : DClsIns), true)) := Lib.hid (insRead_of HFO.out.symm (ins_good hz))
        have q1 : ((tx (insTxt op 0 ⟨#[]⟩ ⟨#[]⟩)).toList != s.toList) = false := by simp [hz]
        have q2 : ((tx (insTxt op 0 ⟨#[]⟩ ⟨#[]⟩)).toList == s.toList) = true := by simp [hz]
        clear hz
        go_wp2
        all_goals
          refine bodyPost_ret (v := ?_) ?hrun rfl ?_
          case hrun => (simp only [results, Tryd.results7]; go_simp; first | done | exact rfl)
          exact HR.out _ _ ⟨by first | (rw [RV.out]; done) | (rw [RV.out]; rfl), by (repeat' (first | (with_reducible exact Below.refl _ _) | (with_reducible refine Below.alloc ?_ ?_ _) | (with_reducible refine Below.setCell ?_ ?_ _) | (with_reducible refine Below.drew ?_) | (refine below_hyp (by assumption) ?_ ?_) | go_size))⟩
      · have RV : Hid (insRead s = (nilIns, false)) := Lib.hid (ir_bad ho HW2.out HPF.out (Or.inl (ins_bad hz)))
        have q1 : ((tx (insTxt op 0 ⟨#[]⟩ ⟨#[]⟩)).toList != s.toList) = true := by simp [hz]
        have q2 : ((tx (insTxt op 0 ⟨#[]⟩ ⟨#[]⟩)).toList == s.toList) = false := by simp [hz]
        clear hz
        go_wp2
        all_goals
          refine bodyPost_ret (v := ?_) ?hrun rfl ?_
          case hrun => (simp only [results, Tryd.results7]; go_simp; first | done | exact rfl)
          exact HR.out _ _ ⟨by first | (rw [RV.out]; done) | (rw [RV.out]; rfl), by (repeat' (first | (with_reducible exact Below.refl _ _) | (with_reducible refine Below.alloc ?_ ?_ _) | (with_reducible refine Below.setCell ?_ ?_ _) | (with_reducible refine Below.drew ?_) | (refine below_hyp (by assumption) ?_ ?_) | go_size))⟩
    · have RV : Hid (insRead s = (nilIns, false)) := Lib.hid (ir_noform ho HW2.out (by
        unfold pForm
        rw [if_neg k1, if_neg k2, if_neg k3]
        match rest, hr with
        | [], h => exact absurd rfl h
        | _ :: _, _ => rfl))
      have CR : Hid (∀ a n cap, n = rest.length → Calls Tryd.prog 36 #[.slice a n cap, .pointer (some ⟨b, 0, none⟩)] w2 fun e w' => e = .returned .nilIface ∧ Below w2.heap.size w2 w') := Lib.hid fun a n cap hnr => by
        rw [hnr]
        have := I_rdPlain op b a rest.length cap w2 (by omega) hb
        rw [if_neg hr] at this; exact this
      clear hr k1 k2 k3
      go_wp2_with fail
      all_goals
        refine (CR.out _ _ _ (by first | rfl | (have e : rest = [] := (by assumption); rw [e]; rfl))).mono ?_
        rintro _ w3 ⟨rfl, h3⟩
        have h3z := h3.size
        have R3 := Lib.hid (R2.out.keep h3)
        have HB3 : Hid (Below w.heap.size w w3) := Lib.hid (HB2.out.trans (h3.mono HB2.out.size))
        obtain ⟨lr, r0, r1, r2, r3, z0, z1, z2, z3⟩ := R3.out
        clear h3 hb EQ2 HB2
        go_wp2
        all_goals
          refine bodyPost_ret (v := ?_) ?hrun rfl ?_
          case hrun => (simp only [results, Tryd.results7]; go_simp; first | done | exact rfl)
          exact HR.out _ _ ⟨by first | (rw [RV.out]; done) | (rw [RV.out]; rfl), by (repeat' (first | (with_reducible exact Below.refl _ _) | (with_reducible refine Below.alloc ?_ ?_ _) | (with_reducible refine Below.setCell ?_ ?_ _) | (with_reducible refine Below.drew ?_) | (refine below_hyp (by assumption) ?_ ?_) | go_size))⟩

end Go.Proofs.YtmbfpbgkchncgaaDoor
