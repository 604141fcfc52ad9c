

/-
  The walk of the law FnInsText (under way). Condition: both codes can be read; the library's variables hold what their texts lay.
-/
import Derived.Test.YtmbfpbgkchncgaaDoorRdK
import Derived.Test.YtmbfpbgkchncgaaDoorDrawX
import Derived.Deep.RegionHeld3
namespace Go.Proofs.YtmbfpbgkchncgaaDoor
set_option linter.unusedSimpArgs false
set_option linter.unusedVariables false
open Go.RowKit

theorem namOk_a' : namOk ⟨#[97]⟩ = true := by decide
set_option maxHeartbeats 400000 in
theorem L_loOkX (w : World) : Calls Tryd.prog 13 #[] w fun e w' => e = .returned (.bool true) ∧ Below w.heap.size w w' := by
  refine calls_hide fun R HR => ?_
  go_enter Tryd.func13, Tryd.ntmps13
  go_wp2_with (go_at_call 32; refine (I_NamOk _ _ (by decide)).mono ?_; rintro e w' ⟨rfl, rfl⟩)
  all_goals (try go_returns)
  all_goals exact HR.out _ _ ⟨ret_bool namOk_a', by (repeat' (first | (with_reducible exact Below.refl _ _) | (with_reducible refine Below.alloc ?_ ?_ _) | (with_reducible refine Below.setCell ?_ ?_ _) | (with_reducible refine Below.drew ?_) | (refine below_hyp (by assumption) ?_ ?_) | go_size))⟩
theorem read_says {s : ByteArray} {xo xa : Int} {xn xm : ByteArray} {q : Bool} (hr : ((⟨xo, xa, xn, xm⟩ : DClsIns), q) = insRead s) (e : q = true) : insOkD ⟨xo, xa, xn, xm⟩ = true ∧ tx (insTxt xo xa xn xm) = s := by
  subst e
  rcases insRead_cases s with h | ⟨i, e1, e2, e3⟩
  · rw [h] at hr; cases hr
  · rw [e1] at hr
    cases hr
    refine ⟨e2, ?_⟩
    rw [insText_txt] at e3
    have e4 : insTxt xo xa xn xm = by' s := e3
    rw [e4]; exact txBy s
theorem text_says {op a : Int} {n m : ByteArray} (h : insOk op a n m = true) : insRead (tx (insTxt op a n m)) = (⟨op, a, n, m⟩, true) :=
  insRead_of (i := ⟨op, a, n, m⟩) h (by rw [insText_txt]; exact (byTx _).symm)
theorem text_none {op a : Int} {n m : ByteArray} (h : insOk op a n m = false) : tx (insTxt op a n m) = ⟨#[]⟩ := by
  unfold insTxt; rw [h]; rfl

set_option maxRecDepth 100000 in
set_option maxHeartbeats 8000000 in
theorem L_FnInsText (v v2 : Value) (w : World) (hv : Bytes w v) (hv2 : Bytes w v2) (h : Lay w) :
    Calls Tryd.prog 3 #[v, v2] w fun e w' => e = .returned (.bool true) ∧ Below w.heap.size w w' := by
  obtain ⟨c, len, cap, rfl, g1, g2, g3⟩ := id hv
  obtain ⟨c2, len2, cap2, rfl, g4, g5, g6⟩ := id hv2
  have m1 : len ≤ 9223372036854775807 := by unfold maxLen at g2; omega
  have m2 : len2 ≤ 9223372036854775807 := by unfold maxLen at g5; omega
  have H := Lib.hid h
  have HV2 := Lib.hid hv2
  clear g2 g3 g5 g6 h hv2
  refine calls_hide fun R HR => ?_
  go_enter Tryd.func3, Tryd.ntmps3
  go_wp2_with fail
  all_goals first
    | (try go_returns
       exact HR.out _ _ ⟨rfl, by (repeat' (first | (with_reducible exact Below.refl _ _) | (with_reducible refine Below.alloc ?_ ?_ _) | (with_reducible refine Below.setCell ?_ ?_ _) | (with_reducible refine Below.drew ?_) | (refine below_hyp (by assumption) ?_ ?_) | go_size))⟩)
    | skip
  refine (S_DrawInsText _ _ hv).mono ?_
  rintro _ w1 ⟨⟨op, a, n, m, k1, k2, rfl⟩, hb⟩
  have hbs := (hb).size; (try simp only [World.size_alloc, World.size_setCell, World.size_drew] at hbs)
  have z1 : n.size ≤ maxLen := by unfold maxLen; omega
  have z2 : m.size ≤ maxLen := by unfold maxLen; omega
  go_wp2_with fail
  refine nameV (P := fun W => Calls Tryd.prog 6 #[_] W _) _ (fun w4 hw4 => ?_)
  have hB14 : Below w1.heap.size w1 w4 := by rw [hw4]; clear hb; (repeat' (first | (with_reducible exact Below.refl _ _) | (with_reducible refine Below.alloc ?_ ?_ _) | (with_reducible refine Below.setCell ?_ ?_ _) | (with_reducible refine Below.drew ?_) | (refine below_hyp (by assumption) ?_ ?_) | go_size))
  have T4 : Four w4 w1.heap.size (.int .i64 op) (.int .i64 a) (.string n) (.string m) := by rw [hw4]; exact Four.new _ _ _ _ _ _
  have HB4 : Hid (Below w.heap.size w w4) := Lib.hid (hb.trans (hB14.mono hb.size))
  clear hw4 hB14 hb
  refine (S_DrawInsRead _ w4 (bytes_below HB4.out HV2.out)).mono ?_
  rintro _ w2 ⟨⟨s, hs, rfl⟩, g2⟩
  have T2 := T4.keep g2
  have HB2 : Hid (Below w.heap.size w w2) := Lib.hid (HB4.out.trans (g2.mono HB4.out.size))
  clear T4 g2 HB4
  go_wp2_with fail
  refine (I_InsRead s w2 (by unfold maxLen; omega) (H.out.below HB2.out)).mono ?_
  rintro _ w3 ⟨rfl, g3⟩
  have T3 := T2.keep g3
  have HB3 : Hid (Below w.heap.size w w3) := Lib.hid (HB2.out.trans (g3.mono HB2.out.size))
  clear T2 g3 HB2
  obtain ⟨⟨⟨xo, xa, xn, xm⟩, q⟩, hr⟩ : ∃ r, r = insRead s := ⟨_, rfl⟩
  rw [← hr]
  unfold insT
  have HRD := Lib.hid hr
  go_wp2_with fail
  refine nameV (P := fun W => Calls Tryd.prog 8 #[.string s] W _) _ (fun w5 hw5 => ?_)
  have hB35 : Below w3.heap.size w3 w5 := by rw [hw5]; clear HB3; (repeat' (first | (with_reducible exact Below.refl _ _) | (with_reducible refine Below.alloc ?_ ?_ _) | (with_reducible refine Below.setCell ?_ ?_ _) | (with_reducible refine Below.drew ?_) | (refine below_hyp (by assumption) ?_ ?_) | go_size))
  have T5 := T3.keep hB35
  have X5 : Four w5 w3.heap.size (.int .i64 xo) (.int .i64 xa) (.string xn) (.string xm) := by rw [hw5]; exact Four.new _ _ _ _ _ _
  have HB5 : Hid (Below w.heap.size w w5) := Lib.hid (HB3.out.trans (hB35.mono HB3.out.size))
  clear hw5 hB35 T3 HB3
  refine (S_InsReadL s w5 (by omega)).mono ?_
  rintro _ w6 ⟨rfl, g6⟩
  rw [← hr]
  unfold insT
  clear hr
  obtain ⟨lt, t0, t1, t2, t3, y0, y1, y2, y3⟩ := T5.keep g6
  obtain ⟨lx, x0, x1, x2, x3, u0, u1, u2, u3⟩ := X5.keep g6
  have HB6 : Hid (Below w.heap.size w w6) := Lib.hid (HB5.out.trans (g6.mono HB5.out.size))
  clear T5 X5 g6 HB5
  go_wp2_with fail
  obtain ⟨W, hW⟩ : ∃ W : World, W = w6.alloc (Obj.cells #[Value.int IntKind.i64 xo, Value.int IntKind.i64 xa, Value.string xn, Value.string xm] 24) := ⟨_, rfl⟩
  have c0 : W.cell? ⟨w1.heap.size, 0, none⟩ = some (.int .i64 op) := by rw [hW]; go_simp
  have c1 : W.cell? ⟨w1.heap.size, 1, none⟩ = some (.int .i64 a) := by rw [hW]; go_simp
  have c2 : W.cell? ⟨w1.heap.size, 2, none⟩ = some (.string n) := by rw [hW]; go_simp
  have c3 : W.cell? ⟨w1.heap.size, 3, none⟩ = some (.string m) := by rw [hW]; go_simp
  have c4 : W.cell? ⟨w3.heap.size, 0, none⟩ = some (.int .i64 xo) := by rw [hW]; go_simp
  have c5 : W.cell? ⟨w3.heap.size, 1, none⟩ = some (.int .i64 xa) := by rw [hW]; go_simp
  have c6 : W.cell? ⟨w3.heap.size, 2, none⟩ = some (.string xn) := by rw [hW]; go_simp
  have c7 : W.cell? ⟨w3.heap.size, 3, none⟩ = some (.string xm) := by rw [hW]; go_simp
  have c8 : W.cell? ⟨w6.heap.size, 0, none⟩ = some (.int .i64 xo) := by rw [hW]; go_simp
  have c9 : W.cell? ⟨w6.heap.size, 1, none⟩ = some (.int .i64 xa) := by rw [hW]; go_simp
  have c10 : W.cell? ⟨w6.heap.size, 2, none⟩ = some (.string xn) := by rw [hW]; go_simp
  have c11 : W.cell? ⟨w6.heap.size, 3, none⟩ = some (.string xm) := by rw [hW]; go_simp
  have hWb : Below w6.heap.size w6 W := by rw [hW]; clear HB6; (repeat' (first | (with_reducible exact Below.refl _ _) | (with_reducible refine Below.alloc ?_ ?_ _) | (with_reducible refine Below.setCell ?_ ?_ _) | (with_reducible refine Below.drew ?_) | (refine below_hyp (by assumption) ?_ ?_) | go_size))
  have HBW : Hid (Below w.heap.size w W) := Lib.hid (HB6.out.trans (hWb.mono HB6.out.size))
  rw [← hW]
  clear hW hWb HB6 t0 t1 t2 t3 x0 x1 x2 x3 y0 y1 y2 y3 u0 u1 u2 u3
  have q1 : ∀ W, (binOp .neq 24 (.agg #[.int .i64 xo, .int .i64 xa, .string xn, .string xm]) (.agg #[.int .i64 xo, .int .i64 xa, .string xn, .string xm])).run Tryd.prog W = .ok (.bool false) W := by
    intro w; simp only [run_neq_struct, eq_ins]; simp [Result.andThen, ByteArray.toList_eq]
  have TB : ∀ x : World, (x.cell? ⟨w1.heap.size, 0, none⟩ = some (.int .i64 op) ∧ x.cell? ⟨w1.heap.size, 1, none⟩ = some (.int .i64 a) ∧ x.cell? ⟨w1.heap.size, 2, none⟩ = some (.string n) ∧ x.cell? ⟨w1.heap.size, 3, none⟩ = some (.string m) ∧ x.cell? ⟨w3.heap.size, 0, none⟩ = some (.int .i64 xo) ∧ x.cell? ⟨w3.heap.size, 1, none⟩ = some (.int .i64 xa) ∧ x.cell? ⟨w3.heap.size, 2, none⟩ = some (.string xn) ∧ x.cell? ⟨w3.heap.size, 3, none⟩ = some (.string xm) ∧ x.cell? ⟨w6.heap.size, 0, none⟩ = some (.int .i64 xo) ∧ x.cell? ⟨w6.heap.size, 1, none⟩ = some (.int .i64 xa) ∧ x.cell? ⟨w6.heap.size, 2, none⟩ = some (.string xn) ∧ x.cell? ⟨w6.heap.size, 3, none⟩ = some (.string xm) ∧ Below W.heap.size W x) → Tab x := fun x ⟨_, _, _, _, _, _, _, _, _, _, _, _, e⟩ => (H.out.below (HBW.out.trans (e.mono HBW.out.size))).tab
  obtain ⟨z, hz⟩ : ∃ z, z = tx (insTxt op a n m) := ⟨_, rfl⟩
  obtain ⟨ok, hok⟩ : ∃ z, z = insOk op a n m := ⟨_, rfl⟩
  have IT : ∀ W, Tab W → Calls Tryd.prog 9 #[.agg #[.int .i64 op, .int .i64 a, .string n, .string m]] W fun e w' => e = .returned (.string z) ∧ Below W.heap.size W w' := fun W h => by rw [hz]; exact I_InsText op a n m W z1 z2 h
  have ST : ∀ W, Calls Tryd.prog 10 #[.agg #[.int .i64 op, .int .i64 a, .string n, .string m]] W fun e w' => e = .returned (.string z) ∧ Below W.heap.size W w' := fun W => by rw [hz]; exact S_InsText op a n m W z1 z2
  have IO : ∀ W, Calls Tryd.prog 11 #[.agg #[.int .i64 op, .int .i64 a, .string n, .string m]] W fun e w' => e = .returned (.bool ok) ∧ Below W.heap.size W w' := fun W => by rw [hok]; exact I_InsOk op a n m W z1 z2
  have SO : ∀ W, Calls Tryd.prog 12 #[.agg #[.int .i64 op, .int .i64 a, .string n, .string m]] W fun e w' => e = .returned (.bool ok) ∧ Below W.heap.size W w' := fun W => by rw [hok]; exact S_InsOk op a n m W z1 z2
  have HZ := Lib.hid hz
  have HOK := Lib.hid hok
  have zz : (z.toList != z.toList) = false := by simp
  have qq : (q != q) = false := by simp
  have oo : (ok != ok) = false := by simp
  clear hz hok
  have keepwA : ∀ x x' : World, Below x.heap.size x x' → (x.cell? ⟨w1.heap.size, 0, none⟩ = some (.int .i64 op) ∧ x.cell? ⟨w1.heap.size, 1, none⟩ = some (.int .i64 a) ∧ x.cell? ⟨w1.heap.size, 2, none⟩ = some (.string n) ∧ x.cell? ⟨w1.heap.size, 3, none⟩ = some (.string m) ∧ x.cell? ⟨w3.heap.size, 0, none⟩ = some (.int .i64 xo) ∧ x.cell? ⟨w3.heap.size, 1, none⟩ = some (.int .i64 xa) ∧ x.cell? ⟨w3.heap.size, 2, none⟩ = some (.string xn) ∧ x.cell? ⟨w3.heap.size, 3, none⟩ = some (.string xm) ∧ x.cell? ⟨w6.heap.size, 0, none⟩ = some (.int .i64 xo) ∧ x.cell? ⟨w6.heap.size, 1, none⟩ = some (.int .i64 xa) ∧ x.cell? ⟨w6.heap.size, 2, none⟩ = some (.string xn) ∧ x.cell? ⟨w6.heap.size, 3, none⟩ = some (.string xm) ∧ Below W.heap.size W x) → (x'.cell? ⟨w1.heap.size, 0, none⟩ = some (.int .i64 op) ∧ x'.cell? ⟨w1.heap.size, 1, none⟩ = some (.int .i64 a) ∧ x'.cell? ⟨w1.heap.size, 2, none⟩ = some (.string n) ∧ x'.cell? ⟨w1.heap.size, 3, none⟩ = some (.string m) ∧ x'.cell? ⟨w3.heap.size, 0, none⟩ = some (.int .i64 xo) ∧ x'.cell? ⟨w3.heap.size, 1, none⟩ = some (.int .i64 xa) ∧ x'.cell? ⟨w3.heap.size, 2, none⟩ = some (.string xn) ∧ x'.cell? ⟨w3.heap.size, 3, none⟩ = some (.string xm) ∧ x'.cell? ⟨w6.heap.size, 0, none⟩ = some (.int .i64 xo) ∧ x'.cell? ⟨w6.heap.size, 1, none⟩ = some (.int .i64 xa) ∧ x'.cell? ⟨w6.heap.size, 2, none⟩ = some (.string xn) ∧ x'.cell? ⟨w6.heap.size, 3, none⟩ = some (.string xm) ∧ Below W.heap.size W x') := fun x x' hb ⟨q0, q1, q2, q3, q4, q5, q6, q7, q8, q9, q10, q11, e⟩ => ⟨keep_cell hb q0, keep_cell hb q1, keep_cell hb q2, keep_cell hb q3, keep_cell hb q4, keep_cell hb q5, keep_cell hb q6, keep_cell hb q7, keep_cell hb q8, keep_cell hb q9, keep_cell hb q10, keep_cell hb q11, keep_below hb e (Nat.le_refl _)⟩
  go_region_held3 (fun x => x.cell? ⟨w1.heap.size, 0, none⟩ = some (.int .i64 op) ∧ x.cell? ⟨w1.heap.size, 1, none⟩ = some (.int .i64 a) ∧ x.cell? ⟨w1.heap.size, 2, none⟩ = some (.string n) ∧ x.cell? ⟨w1.heap.size, 3, none⟩ = some (.string m) ∧ x.cell? ⟨w3.heap.size, 0, none⟩ = some (.int .i64 xo) ∧ x.cell? ⟨w3.heap.size, 1, none⟩ = some (.int .i64 xa) ∧ x.cell? ⟨w3.heap.size, 2, none⟩ = some (.string xn) ∧ x.cell? ⟨w3.heap.size, 3, none⟩ = some (.string xm) ∧ x.cell? ⟨w6.heap.size, 0, none⟩ = some (.int .i64 xo) ∧ x.cell? ⟨w6.heap.size, 1, none⟩ = some (.int .i64 xa) ∧ x.cell? ⟨w6.heap.size, 2, none⟩ = some (.string xn) ∧ x.cell? ⟨w6.heap.size, 3, none⟩ = some (.string xm) ∧ Below W.heap.size W x) (first | exact ⟨c0, c1, c2, c3, c4, c5, c6, c7, c8, c9, c10, c11, (Below.refl _ _).drew⟩ | exact keepwA _ _ (by assumption) (by assumption)) (first | (go_at_call 9; refine (IT _ (TB _ (by assumption))).mono ?_; rintro _ _ ⟨rfl, _⟩) | (go_at_call 10; refine (ST _).mono ?_; rintro _ _ ⟨rfl, _⟩) | (go_at_call 11; refine (IO _).mono ?_; rintro _ _ ⟨rfl, _⟩) | (go_at_call 12; refine (SO _).mono ?_; rintro _ _ ⟨rfl, _⟩))
  all_goals (rename_i wA _ hHwA; obtain ⟨d0, d1, d2, d3, d4, d5, d6, d7, d8, d9, d10, d11, hwA⟩ := hHwA; clear keepwA c0 c1 c2 c3 c4 c5 c6 c7 c8 c9 c10 c11; have hwAs := hwA.size)
  clear q1 ST TB
  have HQ := Lib.hid (read_says HRD.out)
  have HBA : Hid (Below w.heap.size w wA) := Lib.hid (HBW.out.trans (hwA.mono HBW.out.size))
  clear hwA HBW
  cases hq : q
  · go_wp2_with fail
    refine (SO _).mono ?_
    rintro _ w7 ⟨rfl, h7⟩
    have HB7 : Hid (Below w.heap.size w w7) := Lib.hid (HBA.out.trans (h7.mono HBA.out.size))
    replace d0 := keep_cell h7 d0; replace d1 := keep_cell h7 d1; replace d2 := keep_cell h7 d2; replace d3 := keep_cell h7 d3; have h7s := h7.size
    clear h7 HBA
    cases hok : ok
    · have zn : z = ⟨#[]⟩ := by rw [HZ.out]; exact text_none (HOK.out ▸ hok)
      subst zn
      go_wp2_with fail
      refine (IT _ (H.out.below HB7.out).tab).mono ?_
      rintro _ w10 ⟨rfl, h10⟩
      have HB10 : Hid (Below w.heap.size w w10) := Lib.hid (HB7.out.trans (h10.mono HB7.out.size))
      have hB10 := HB10.out
      have hB10s := hB10.size
      clear h10 HB7 HB10
      go_wp2_with (go_at_call 13; refine (L_loOkX _).mono ?_; rintro _ x5 ⟨rfl, h5⟩)
      all_goals (try go_returns)
      all_goals exact HR.out _ _ ⟨rfl, by (repeat' (first | (with_reducible exact Below.refl _ _) | (with_reducible refine Below.alloc ?_ ?_ _) | (with_reducible refine Below.setCell ?_ ?_ _) | (with_reducible refine Below.drew ?_) | (refine below_hyp (by assumption) ?_ ?_) | go_size))⟩
    · have hz2 : insRead z = (⟨op, a, n, m⟩, true) := by rw [HZ.out]; exact text_says (HOK.out ▸ hok)
      have hz3 : z.size ≤ 18 := by rw [HZ.out]; exact txt_size _ _ _ _
      go_wp2_with fail
      refine (IT _ (H.out.below HB7.out).tab).mono ?_
      rintro _ w10 ⟨rfl, h10⟩
      have HB10 : Hid (Below w.heap.size w w10) := Lib.hid (HB7.out.trans (h10.mono HB7.out.size))
      replace d0 := keep_cell h10 d0; replace d1 := keep_cell h10 d1; replace d2 := keep_cell h10 d2; replace d3 := keep_cell h10 d3; have h10s := h10.size
      clear h10 HB7
      go_wp2_with fail
      refine (I_InsRead z _ (by unfold maxLen; omega) (H.out.below HB10.out)).mono ?_
      rintro _ w11 ⟨rfl, h11⟩
      rw [hz2]
      unfold insT
      have HB11 : Hid (Below w.heap.size w w11) := Lib.hid (HB10.out.trans (h11.mono HB10.out.size))
      replace d0 := keep_cell h11 d0; replace d1 := keep_cell h11 d1; replace d2 := keep_cell h11 d2; replace d3 := keep_cell h11 d3; have h11s := h11.size
      have hB11 := HB11.out
      clear h11 HB10 HB11
      have hdlt := block_lt_of_cell d0
      have q2 : ∀ W, (binOp .eql 24 (.agg #[.int .i64 op, .int .i64 a, .string n, .string m]) (.agg #[.int .i64 op, .int .i64 a, .string n, .string m])).run Tryd.prog W = .ok (.bool true) W := by
        intro w; simp only [run_eql_struct, eq_ins]; simp [Result.andThen, ByteArray.toList_eq]
      go_wp2
      all_goals (try go_returns)
      all_goals exact HR.out _ _ ⟨rfl, by (repeat' (first | (with_reducible exact Below.refl _ _) | (with_reducible refine Below.alloc ?_ ?_ _) | (with_reducible refine Below.setCell ?_ ?_ _) | (with_reducible refine Below.drew ?_) | (refine below_hyp (by assumption) ?_ ?_) | go_size))⟩
  · obtain ⟨ok1, tx1⟩ := HQ.out hq
    obtain ⟨_, p1, p2, _⟩ := insOk_parts ok1
    simp only at p1 p2
    have p3 : xn.size ≤ maxLen := by unfold maxLen; omega
    have p4 : xm.size ≤ maxLen := by unfold maxLen; omega
    have IOX : ∀ W, Calls Tryd.prog 11 #[.agg #[.int .i64 xo, .int .i64 xa, .string xn, .string xm]] W fun e w' => e = .returned (.bool true) ∧ Below W.heap.size W w' := fun W => by
      have := I_InsOk xo xa xn xm W p3 p4
      rw [show insOk xo xa xn xm = true from ok1] at this; exact this
    have ITX : ∀ W, Tab W → Calls Tryd.prog 9 #[.agg #[.int .i64 xo, .int .i64 xa, .string xn, .string xm]] W fun e w' => e = .returned (.string s) ∧ Below W.heap.size W w' := fun W h => by
      have := I_InsText xo xa xn xm W p3 p4 h
      rw [tx1] at this; exact this
    have ss : (s.toList != s.toList) = false := by simp
    clear ok1 tx1 p1 p2
    go_wp2_with fail
    refine (IOX _).mono ?_
    rintro _ w8 ⟨rfl, h8⟩
    have HB8 : Hid (Below w.heap.size w w8) := Lib.hid (HBA.out.trans (h8.mono HBA.out.size))
    replace d0 := keep_cell h8 d0; replace d1 := keep_cell h8 d1; replace d2 := keep_cell h8 d2; replace d3 := keep_cell h8 d3; replace d4 := keep_cell h8 d4; replace d5 := keep_cell h8 d5; replace d6 := keep_cell h8 d6; replace d7 := keep_cell h8 d7; have h8s := h8.size
    clear h8 HBA
    go_wp2_with fail
    refine (ITX _ (H.out.below HB8.out).tab).mono ?_
    rintro _ w9 ⟨rfl, h9⟩
    have HB9 : Hid (Below w.heap.size w w9) := Lib.hid (HB8.out.trans (h9.mono HB8.out.size))
    replace d0 := keep_cell h9 d0; replace d1 := keep_cell h9 d1; replace d2 := keep_cell h9 d2; replace d3 := keep_cell h9 d3; have h9s := h9.size
    clear h9 HB8
    go_wp2_with fail
    refine (SO _).mono ?_
    rintro _ w7 ⟨rfl, h7⟩
    have HB7 : Hid (Below w.heap.size w w7) := Lib.hid (HB9.out.trans (h7.mono HB9.out.size))
    replace d0 := keep_cell h7 d0; replace d1 := keep_cell h7 d1; replace d2 := keep_cell h7 d2; replace d3 := keep_cell h7 d3; have h7s := h7.size
    clear h7 HB9
    cases hok : ok
    · have zn : z = ⟨#[]⟩ := by rw [HZ.out]; exact text_none (HOK.out ▸ hok)
      subst zn
      go_wp2_with fail
      refine (IT _ (H.out.below HB7.out).tab).mono ?_
      rintro _ w10 ⟨rfl, h10⟩
      have HB10 : Hid (Below w.heap.size w w10) := Lib.hid (HB7.out.trans (h10.mono HB7.out.size))
      have hB10 := HB10.out
      have hB10s := hB10.size
      clear h10 HB7 HB10
      go_wp2_with (go_at_call 13; refine (L_loOkX _).mono ?_; rintro _ x5 ⟨rfl, h5⟩)
      all_goals (try go_returns)
      all_goals exact HR.out _ _ ⟨rfl, by (repeat' (first | (with_reducible exact Below.refl _ _) | (with_reducible refine Below.alloc ?_ ?_ _) | (with_reducible refine Below.setCell ?_ ?_ _) | (with_reducible refine Below.drew ?_) | (refine below_hyp (by assumption) ?_ ?_) | go_size))⟩
    · have hz2 : insRead z = (⟨op, a, n, m⟩, true) := by rw [HZ.out]; exact text_says (HOK.out ▸ hok)
      have hz3 : z.size ≤ 18 := by rw [HZ.out]; exact txt_size _ _ _ _
      go_wp2_with fail
      refine (IT _ (H.out.below HB7.out).tab).mono ?_
      rintro _ w10 ⟨rfl, h10⟩
      have HB10 : Hid (Below w.heap.size w w10) := Lib.hid (HB7.out.trans (h10.mono HB7.out.size))
      replace d0 := keep_cell h10 d0; replace d1 := keep_cell h10 d1; replace d2 := keep_cell h10 d2; replace d3 := keep_cell h10 d3; have h10s := h10.size
      clear h10 HB7
      go_wp2_with fail
      refine (I_InsRead z _ (by unfold maxLen; omega) (H.out.below HB10.out)).mono ?_
      rintro _ w11 ⟨rfl, h11⟩
      rw [hz2]
      unfold insT
      have HB11 : Hid (Below w.heap.size w w11) := Lib.hid (HB10.out.trans (h11.mono HB10.out.size))
      replace d0 := keep_cell h11 d0; replace d1 := keep_cell h11 d1; replace d2 := keep_cell h11 d2; replace d3 := keep_cell h11 d3; have h11s := h11.size
      have hB11 := HB11.out
      clear h11 HB10 HB11
      have hdlt := block_lt_of_cell d0
      have q2 : ∀ W, (binOp .eql 24 (.agg #[.int .i64 op, .int .i64 a, .string n, .string m]) (.agg #[.int .i64 op, .int .i64 a, .string n, .string m])).run Tryd.prog W = .ok (.bool true) W := by
        intro w; simp only [run_eql_struct, eq_ins]; simp [Result.andThen, ByteArray.toList_eq]
      go_wp2
      all_goals (try go_returns)
      all_goals exact HR.out _ _ ⟨rfl, by (repeat' (first | (with_reducible exact Below.refl _ _) | (with_reducible refine Below.alloc ?_ ?_ _) | (with_reducible refine Below.setCell ?_ ?_ _) | (with_reducible refine Below.drew ?_) | (refine below_hyp (by assumption) ?_ ?_) | go_size))⟩

end Go.Proofs.YtmbfpbgkchncgaaDoor
