/-
  Texts of mine, packed: LawCO, RowCO. No condition beside those of the single theorems.
-/
import Derived.Test.YtcdmmnfdnmjnpaaK38
import Derived.Test.YtcdmmnfdnmjnpaaK37
import Derived.Test.YtcdmmnfdnmjnpaaK39
import Derived.Test.YtcdmmnfdnmjnpaaK13
set_option linter.unusedSimpArgs false
set_option linter.unusedVariables false
namespace Go.Proofs.Ytcdmmnfdnmjnpaa
open Go.RowKit
set_option maxHeartbeats 400000 in
theorem L_loOkF (w : World) : Calls Try.prog 18 #[] w fun e w' => e = .returned (.bool true) ∧ Below w.heap.size w w' := by
  refine calls_hide fun R HR => ?_
  go_enter Try.func18, Try.ntmps18
  go_wp2_with (go_at_call 53; refine (I_NamOk _ _ (by decide)).mono ?_; rintro _ _ ⟨rfl, rfl⟩)
  all_goals (try go_returns)
  all_goals exact HR.out _ _ ⟨rfl, bbel⟩
theorem Four.setC0 {w : World} {b : Nat} {v x0 x1 x2 x3 : Value} (h : Four w b x0 x1 x2 x3) : Four (w.setCell ⟨b, 2, none⟩ v) b x0 x1 v x3 := h.set (show 2 < 4 by decide)
theorem Four.setC1 {w : World} {b : Nat} {v x0 x1 x2 x3 : Value} (h : Four w b x0 x1 x2 x3) : Four (w.setCell ⟨b, 3, none⟩ v) b x0 x1 x2 v := h.set (show 3 < 4 by decide)
structure COst (P X Y lo : Nat) (w0 wx : World) (x : DClsClass) (pf pm xf xm yf ym : Value) (ys : List DClsField) (yms : List DClsMethod) : Prop where
  fp : Four wx P (.string x.fName) (.string x.fSuper) pf pm
  fx : Four wx X (.string x.fName) (.string x.fSuper) xf xm
  fy : Four wx Y (.string x.fName) (.string x.fSuper) yf ym
  tx : TypeAt wx X 37
  ty : TypeAt wx Y 37
  s1 : TSl 3 rClsField 45 lo wx yf ys
  s2 : TSl 8 tClsMethod 29 lo wx ym yms
  below : Below w0.heap.size w0 wx
  low : w0.heap.size ≤ P ∧ P < X ∧ X < Y
theorem COst.keep {P X Y lo : Nat} {w0 wx wy : World} {x : DClsClass} {pf pm xf xm yf ym : Value} {ys : List DClsField} {yms : List DClsMethod} (h : COst P X Y lo w0 wx x pf pm xf xm yf ym ys yms) (hb : Below wx.heap.size wx wy) : COst P X Y lo w0 wy x pf pm xf xm yf ym ys yms :=
  ⟨h.fp.keep hb, h.fx.keep hb, h.fy.keep hb, h.tx.below hb h.fx.lt, h.ty.below hb h.fy.lt, TSl.below rClsField_goodT h.s1 hb, TSl.below tClsMethod_goodT h.s2 hb, h.below.trans (hb.mono h.below.size), h.low⟩
theorem fld_set {lo C o : Nat} {w : World} {v u : Value} {xs : List DClsField} (h : TSl 3 rClsField 45 lo w v xs) (hT : TypeAt w C 37) : TSl 3 rClsField 45 lo (w.setCell ⟨C, o, none⟩ u) v xs := h.stays (E := EClsClass) (rClsField_goodT.mono fun _ h => h.elim) (by unfold EClsClass; simp) (KeepsT.set hT EClsClass_not)
theorem mth_set {lo C o : Nat} {w : World} {v u : Value} {xs : List DClsMethod} (h : TSl 8 tClsMethod 29 lo w v xs) (hT : TypeAt w C 37) : TSl 8 tClsMethod 29 lo (w.setCell ⟨C, o, none⟩ u) v xs := h.stays (E := EClsClass) (tClsMethod_goodT.mono EClsMethod_ClsClass) (by unfold EClsClass; simp) (KeepsT.set hT EClsClass_not)
theorem COst.setX {P X Y lo o : Nat} {w0 wx : World} {x : DClsClass} {pf pm xf xm yf ym uf um v : Value} {ys : List DClsField} {yms : List DClsMethod} (h : COst P X Y lo w0 wx x pf pm xf xm yf ym ys yms) (hx : Four (wx.setCell ⟨X, o, none⟩ v) X (.string x.fName) (.string x.fSuper) uf um) : COst P X Y lo w0 (wx.setCell ⟨X, o, none⟩ v) x pf pm uf um yf ym ys yms := by
  obtain ⟨l1, l2, l3⟩ := h.low
  exact ⟨h.fp.set_other (by omega), hx, h.fy.set_other (by omega), h.tx.set _ _, h.ty.set _ _, fld_set h.s1 h.tx, mth_set h.s2 h.tx, h.below.setCell (by show w0.heap.size ≤ X; omega) v, h.low⟩
theorem COst.setY {P X Y lo o : Nat} {w0 wx : World} {x : DClsClass} {pf pm xf xm yf ym uf um v : Value} {ys zs : List DClsField} {yms zms : List DClsMethod} (h : COst P X Y lo w0 wx x pf pm xf xm yf ym ys yms) (hy : Four (wx.setCell ⟨Y, o, none⟩ v) Y (.string x.fName) (.string x.fSuper) uf um)
    (t1 : TSl 3 rClsField 45 lo wx uf zs) (t2 : TSl 8 tClsMethod 29 lo wx um zms) : COst P X Y lo w0 (wx.setCell ⟨Y, o, none⟩ v) x pf pm xf xm uf um zs zms := by
  obtain ⟨l1, l2, l3⟩ := h.low
  exact ⟨h.fp.set_other (by omega), h.fx.set_other (by omega), hy, h.tx.set _ _, h.ty.set _ _, fld_set t1 h.ty, mth_set t2 h.ty, h.below.setCell (by show w0.heap.size ≤ Y; omega) v, h.low⟩
def MoreF (n : Nat) (x : DClsClass) (ys : List DClsField) : Prop := (n = 0 ∧ ys = x.fFields) ∨ ∃ f ∈ x.fFields, ys = x.fFields ++ [f]
def COF (P X Y lo : Nat) (w0 wx : World) (x : DClsClass) (pf pm xf xm ym : Value) (n : Nat) (yms : List DClsMethod) : Prop := ∃ (ya : Option Addr) (yn yc : Nat) (ys : List DClsField), COst P X Y lo w0 wx x pf pm xf xm (.slice ya yn yc) ym ys yms ∧ MoreF n x ys
def MoreM (m : Nat) (x : DClsClass) (yms : List DClsMethod) : Prop := (m = 0 ∧ yms = x.fMethods) ∨ ∃ f ∈ x.fMethods, yms = x.fMethods ++ [f]
def COM (P X Y lo : Nat) (w0 wx : World) (x : DClsClass) (pf pm xf xm yf : Value) (m : Nat) (ys : List DClsField) : Prop := ∃ (ya : Option Addr) (yn yc : Nat) (yms : List DClsMethod), COst P X Y lo w0 wx x pf pm xf xm yf (.slice ya yn yc) ys yms ∧ MoreM m x yms
theorem more_not {x : DClsClass} {n m : Nat} {ys : List DClsField} {yms : List DClsMethod} (h1 : MoreF n x ys) (h2 : MoreM m x yms) (h : ¬ (n = 0 ∧ m = 0)) : clsOk { x with fFields := ys, fMethods := yms } = false := by
  rcases h1 with ⟨a1, a2⟩ | ⟨f, hf, rfl⟩
  · rcases h2 with ⟨b1, b2⟩ | ⟨g, hg, rfl⟩
    · exact absurd ⟨a1, b1⟩ h
    · exact twiceMth_not hg
  · exact twiceFld_not hf
theorem clsOk_lens {x : DClsClass} (h : clsOk x = true) : x.fFields.length ≤ 3 ∧ x.fMethods.length ≤ 4 := by
  unfold clsOk at h
  simp only [Bool.and_eq_true, decide_eq_true_eq] at h
  omega
def cfF (B lo P g0 : Nat) (src : Value) (xs : List DClsField) (row : List Value) : Nat → Value → World → Prop
  | 0, v, w => Empty0 45 B w v
  | 1, v, w => v = .pointer (some ⟨P, 2, none⟩)
  | 2, v, w => v = src
  | 3, v, w => TOwn 3 rClsField 45 lo B w v xs
  | 4, v, w => v = .pointer (some ⟨P, 2, none⟩)
  | 5, v, w => v = src
  | 6, v, w => v = .pointer (some ⟨g0, 0, none⟩)
  | 7, v, w => v = .agg row.toArray
  | 8, v, w => ∃ g : Nat, v = .slice (some ⟨g, 0, none⟩) 1 1 ∧ B ≤ g ∧ w.heap[g]? = some (.cells row.toArray 45 (0, 0))
  | _, _, _ => True
theorem cfF_stays {B lo P g0 : Nat} {src : Value} {xs : List DClsField} {row : List Value} : ∀ i j u w w', i ≠ j → Below w.heap.size w w' → cfF B lo P g0 src xs row i u w → cfF B lo P g0 src xs row i u w' := by
  intro i j u w w' hne hg h
  match i with
  | 1 | 2 | 4 | 5 | 6 | 7 => exact h
  | 0 =>
    exact Empty0.below h hg
  | 3 =>
    exact TOwn.below rClsField_goodT h hg
  | 8 =>
    obtain ⟨g, h1, h2, h3⟩ := h
    exact ⟨g, h1, h2, (hg.block g (Array.getElem?_eq_some_iff.1 h3).1).trans h3⟩
  | n + 9 => trivial
def cmF (B lo P g0 : Nat) (src : Value) (xs : List DClsMethod) (row : List Value) : Nat → Value → World → Prop
  | 0, v, w => Empty0 29 B w v
  | 1, v, w => v = .pointer (some ⟨P, 3, none⟩)
  | 2, v, w => v = src
  | 3, v, w => TOwn 8 tClsMethod 29 lo B w v xs
  | 4, v, w => v = .pointer (some ⟨P, 3, none⟩)
  | 5, v, w => v = src
  | 6, v, w => v = .pointer (some ⟨g0, 0, none⟩)
  | 7, v, w => v = .agg row.toArray
  | 8, v, w => ∃ g : Nat, v = .slice (some ⟨g, 0, none⟩) 1 1 ∧ B ≤ g ∧ w.heap[g]? = some (.cells row.toArray 29 (0, 0))
  | _, _, _ => True
theorem cmF_stays {B lo P g0 : Nat} {src : Value} {xs : List DClsMethod} {row : List Value} : ∀ i j u w w', i ≠ j → Below w.heap.size w w' → cmF B lo P g0 src xs row i u w → cmF B lo P g0 src xs row i u w' := by
  intro i j u w w' hne hg h
  match i with
  | 1 | 2 | 4 | 5 | 6 | 7 => exact h
  | 0 =>
    exact Empty0.below h hg
  | 3 =>
    exact TOwn.below tClsMethod_goodT h hg
  | 8 =>
    obtain ⟨g, h1, h2, h3⟩ := h
    exact ⟨g, h1, h2, (hg.block g (Array.getElem?_eq_some_iff.1 h3).1).trans h3⟩
  | n + 9 => trivial
set_option maxRecDepth 100000 in
set_option maxHeartbeats 8000000 in
theorem L_FnClsOk (v : Value) (w : World) (hv : Bytes w v) :
    Calls Try.prog 5 #[v] w fun e w' => e = .returned (.bool true) ∧ Below w.heap.size w w' := by
  obtain ⟨c, len, cap, rfl, g1, g2, g3⟩ := id hv
  have m1 : len ≤ 9223372036854775807 := by unfold maxLen at g2; omega
  clear g2 g3
  refine calls_hide fun R HR => ?_
  go_enter Try.func5, Try.ntmps5
  go_wp2_with fail
  all_goals first
    | (try go_returns
       exact HR.out _ _ ⟨rfl, bbel⟩)
    | skip
  refine (S_DrawClsOk _ _ hv).mono ?_
  rintro _ w1 ⟨x, v1, v2, lo, rfl, s1, s2, n1, n2, l1, l2, hlo, h1⟩
  have h1s := (h1).size; (try simp only [World.size_alloc, World.size_setCell, World.size_drew] at h1s)
  obtain ⟨fa, fc, rfl, hfc, hfm⟩ := s1.form
  obtain ⟨ma, mc, rfl, hmc, hmm⟩ := s2.form
  obtain ⟨ok, hok⟩ : ∃ z, clsOk x = z := ⟨_, rfl⟩
  obtain ⟨n, hn⟩ : ∃ n, n = x.fFields.length := ⟨_, rfl⟩
  obtain ⟨m, hm⟩ : ∃ m, m = x.fMethods.length := ⟨_, rfl⟩
  have HS1 := Lib.hid (s1.low' rClsField_goodT hlo)
  have HS2 := Lib.hid (s2.low' tClsMethod_goodT hlo)
  have hfm' : fc ≤ 9223372036854775807 := by unfold maxLen at hfm; omega
  have hmm' : mc ≤ 9223372036854775807 := by unfold maxLen at hmm; omega
  rw [← hn] at HS1 hfc ⊢
  rw [← hm] at HS2 hmc ⊢
  have HN := Lib.hid hn
  have HM := Lib.hid hm
  have SF : Hid (∀ W, Below w1.heap.size w1 W → Sl 3 rClsField 0 W (.slice fa n fc) x.fFields) := Lib.hid fun W hW => (((HS1.out.sl (R' := rClsField) fun _ _ h => h)).low rClsField_good (Nat.zero_le _)).stays rClsField_good (Keeps.of_below hW)
  have SM : Hid (∀ W, Below w1.heap.size w1 W → Sl 8 rClsMethod 0 W (.slice ma m mc) x.fMethods) := Lib.hid fun W hW => (((HS2.out.sl fun _ _ h => tClsMethod_r h)).low rClsMethod_good (Nat.zero_le _)).stays rClsMethod_good (Keeps.of_below hW)
  have CI : Hid (∀ W, Below w1.heap.size w1 W → Calls Try.prog 23 #[.agg #[.string x.fName, .string x.fSuper, .slice fa n fc, .slice ma m mc]] W fun e w' => e = .returned (.bool ok) ∧ Below W.heap.size W w') := Lib.hid fun W hW => by
    rw [← hok]; exact I_ClsOk x _ _ W (SF.out W hW) (SM.out W hW) n1 n2
  have CS : Hid (∀ W, Below w1.heap.size w1 W → Calls Try.prog 24 #[.agg #[.string x.fName, .string x.fSuper, .slice fa n fc, .slice ma m mc]] W fun e w' => e = .returned (.bool ok) ∧ Below W.heap.size W w') := Lib.hid fun W hW => by
    rw [← hok]; exact S_ClsOk x _ _ W (SF.out W hW) (SM.out W hW) n1 n2
  have HOK := Lib.hid hok
  have HB1 := Lib.hid n1
  have HB2 := Lib.hid n2
  clear hok s1 s2 n1 n2 hn hm
  go_wp2_with fail
  refine (CI.out _ (bbel)).mono ?_
  rintro _ w2 ⟨rfl, h2⟩
  have h2s := (h2).size; (try simp only [World.size_alloc, World.size_setCell, World.size_drew] at h2s)
  obtain ⟨h2pd, h2po, h2pg, h2pp, h2px, h2py⟩ := bf1 (n := w1.heap.size) h2
  go_wp2_with fail
  refine (CS.out _ (bbel)).mono ?_
  rintro _ w3 ⟨rfl, h3⟩
  have h3s := (h3).size; (try simp only [World.size_alloc, World.size_setCell, World.size_drew] at h3s)
  obtain ⟨h3qd, h3qo, h3qg, h3qp, h3qx, h3qy⟩ := bf1 (n := w1.heap.size) h3
  have l1 : w1.heap.size < w3.heap.size := by omega
  cases ok
  · go_wp2_with (go_at_call 18; refine (L_loOkF _).mono ?_; rintro _ w9 ⟨rfl, h9⟩)
    all_goals (try go_returns)
    all_goals exact HR.out _ _ ⟨rfl, bbel⟩
  obtain ⟨hn3, hm4⟩ := clsOk_lens HOK.out
  rw [← HN.out] at hn3
  rw [← HM.out] at hm4
  have hB13 : Below w1.heap.size w1 w3 := bbel
  have hF3 : Four w3 w1.heap.size (.string x.fName) (.string x.fSuper) (.slice fa n fc) (.slice ma m mc) := by
    refine ⟨l1, ?_, ?_, ?_, ?_, ?_, ?_, ?_, ?_⟩ <;> go_simp
  have HBW3 : Unit → Below w.heap.size w w3 := fun _ => h1.trans (hB13.mono h1.size)
  go_upto_if 26 with fail
  obtain ⟨W4, hW4⟩ : ∃ W, W = (w3.alloc (.cells #[.string x.fName, .string x.fSuper, .slice fa n fc, .slice ma m mc] 37)).alloc (.cells #[.string x.fName, .string x.fSuper, .slice fa n fc, .slice ma m mc] 37) := ⟨_, rfl⟩
  have hB34 : Below w3.heap.size w3 W4 := by rw [hW4]; exact ((Below.refl _ _).alloc (Nat.le_refl _) _).alloc (by simp) _
  have HST : Hid (COst w1.heap.size w3.heap.size (w3.heap.size + 1) w.heap.size w1 W4 x (.slice fa n fc) (.slice ma m mc) (.slice fa n fc) (.slice ma m mc) (.slice fa n fc) (.slice ma m mc) x.fFields x.fMethods) := Lib.hid (by
    have hB14 : Below w1.heap.size w1 W4 := hB13.trans (hB34.mono hB13.size)
    refine ⟨hF3.keep hB34, ?_, ?_, ?_, ?_, TSl.below rClsField_goodT HS1.out hB14, TSl.below tClsMethod_goodT HS2.out hB14, hB14, by omega, by omega, by omega⟩
    rotate_left 2
    · rw [hW4]; exact (TypeAt.new w3 _ _).alloc _
    · rw [hW4]; exact TypeAt.new' _ _ _ _ (by simp)
    · rw [hW4]; exact (Four.new w3 _ _ _ _ _).keep ((Below.refl _ _).alloc (Nat.le_refl _) _)
    · rw [hW4]; have := Four.new (w3.alloc (.cells #[.string x.fName, .string x.fSuper, .slice fa n fc, .slice ma m mc] 37)) (.string x.fName) (.string x.fSuper) (.slice fa n fc) (.slice ma m mc) 37; simpa using this)
  have HBW4 : Unit → Below w.heap.size w W4 := fun _ => (HBW3 ()).trans (hB34.mono (HBW3 ()).size)
  obtain ⟨P, hP⟩ : ∃ P, P = w1.heap.size := ⟨_, rfl⟩
  obtain ⟨X, hX⟩ : ∃ X, X = w3.heap.size := ⟨_, rfl⟩
  obtain ⟨Y, hY⟩ : ∃ Y, Y = w3.heap.size + 1 := ⟨_, rfl⟩
  rw [← hP, ← hX] at HST
  rw [← hW4]
  rw [← hP, ← hX]
  have eY : X + 1 = Y := by omega
  rw [eY] at HST ⊢
  have hPw1 : w1.heap.size ≤ P := by omega
  have hPX0 : P < X := by omega
  have hXY0 : X < Y := by omega
  have HW1 : Unit → Below w.heap.size w w1 := fun _ => h1
  clear hP hY eY hX hW4 hB34 hF3 hB13 h1 h2 h3 HBW3 l1 h2s h3s h2pd h2pg h2px h2po h2pp h2py h3qd h3qg h3qx h3qo h3qp h3qy
  have HWW : Unit → Below w.heap.size w w1 := HW1
  have hw1 : w.heap.size ≤ w1.heap.size := (HW1 ()).size
  have hPX : P ≠ X := by omega
  have hPY : P ≠ Y := by omega
  have hXY : X ≠ Y := by omega
  have hXP := hPX.symm
  have hYP := hPY.symm
  have hYX := hXY.symm
  obtain ⟨cpl, cp0, cp1, cp2, cp3, cpf0, cpf1, cpf2, cpf3⟩ := HST.out.fp
  obtain ⟨cxl, cx0, cx1, cx2, cx3, cxf0, cxf1, cxf2, cxf3⟩ := HST.out.fx
  obtain ⟨cyl, cy0, cy1, cy2, cy3, cyf0, cyf1, cyf2, cyf3⟩ := HST.out.fy
  go_upto_if 26 with fail
  go_cut [] from 23 to 45 (fun wx => COF P X Y w.heap.size w1 wx x (.slice fa n fc) (.slice ma m mc) (.slice fa (n - 1) fc) (.slice ma m mc) (.slice ma m mc) n x.fMethods)
  case first =>
    by_cases hn0 : n = 0
    · subst hn0
      go_wp2_with fail
      go_meet
      case rel => exact ⟨_, _, _, _, HST.out, Or.inl ⟨rfl, rfl⟩⟩
    obtain ⟨k, rfl⟩ : ∃ k, n = k + 1 := ⟨n - 1, by omega⟩
    have hk2 : (k : Int) ≤ (fc : Int) := by omega
    have hkw : IntKind.i64.wrap (k : Int) = (k : Int) := IntWalk.i64_in _ (by omega)
    go_wp2_with fail
    obtain ⟨W5, hW5⟩ : ∃ W, W = W4.setCell ⟨X, 2, none⟩ (.slice fa k fc) := ⟨_, rfl⟩
    have HST5 : Hid (COst P X Y w.heap.size w1 W5 x (.slice fa (k + 1) fc) (.slice ma m mc) (.slice fa k fc) (.slice ma m mc) (.slice fa (k + 1) fc) (.slice ma m mc) x.fFields x.fMethods) := Lib.hid (by rw [hW5]; exact HST.out.setX HST.out.fx.setC0)
    rw [← hW5]
    obtain ⟨g0, cap0, css0, e0, hg01, hg02, _, _, hrows⟩ := HS1.out.rowsAt (by rw [← HN.out]; omega)
    rw [← HN.out] at e0
    cases e0
    obtain ⟨f0, hf0⟩ : ∃ f, x.fFields[0]? = some f := ⟨_, List.getElem?_eq_getElem (by rw [← HN.out]; omega)⟩
    obtain ⟨cs0, _, hl0, hR0, hrg0⟩ := hrows 0 f0 hf0
    obtain ⟨rfl, hs01, hs02⟩ := id hR0
    rw [Nat.zero_mul] at hrg0
    have hB5 := HST5.out.below
    have HRG := Lib.hid (range_below hrg0 hB5 hg02)
    have hg0l : g0 < W5.heap.size := Nat.lt_of_lt_of_le hg02 hB5.size
    obtain ⟨fcss, hfs, hfr⟩ := HS1.out.src
    have SRC : Hid (∀ wx, Below W5.heap.size W5 wx → Src 3 wx (.slice (some ⟨g0, 0, none⟩) (k + 1) fc) fcss) := Lib.hid fun wx h => hfs.kept (hB5.trans (h.mono hB5.size))
    have ROWS : Hid (∀ wx, Below W5.heap.size W5 wx → Rows 3 rClsField w.heap.size wx fcss x.fFields) := Lib.hid fun wx h => hfr.mono fun cs y hy => hy
    have hloW : w.heap.size ≤ W5.heap.size := Nat.le_trans hw1 hB5.size
    have HLX := Lib.hid (show x.fFields.length ≤ 3 by rw [← HN.out]; exact hn3)
    have HKI : Hid ((Try.prog.info? 45).map (·.size) = some 3) := Lib.hid (by kernel_rfl)
    have HF0 := Lib.hid hf0
    have hcP := HST5.out.fp.c2
    clear hW5 hrows hf0 hR0 hrg0 hfs hfr HST hB5 cpl cp0 cp1 cp2 cp3 cpf0 cpf1 cpf2 cpf3 cxl cx0 cx1 cx2 cx3 cxf0 cxf1 cxf2 cxf3 cyl cy0 cy1 cy2 cy3 cyf0 cyf1 cyf2 cyf3
    refine wp_region_relyE 9 (Below W5.heap.size W5) (fun _ w1 w2 => Below w1.heap.size w1 w2) (fun _ => cfF W5.heap.size w.heap.size P g0 (.slice (some ⟨g0, 0, none⟩) (k + 1) fc) x.fFields [.string f0.fName, .int .i64 f0.fKind.fKind, .string f0.fKind.fName]) (fun _ _ => True) noDead (by kernel_rfl) (by decide) (by kernel_rfl) (Or.inr ⟨by kernel_rfl, by kernel_rfl⟩) (by kernel_rfl) ((Below.refl _ _).drew) (fun _ _ _ _ _ _ _ _ _ h => h) noDead_dead (fun _ => trivial) (fun _ _ _ _ _ _ _ _ => trivial) (fun _ i j u w1 w2 hne _ _ hg hF => cfF_stays i j u w1 w2 hne hg hF) (fun _ _ _ => Below.refl _ _) ?_
    refine wpRelyE_cons2 (d := 35) rfl rfl (fun wx hC hI hd S0 hS => ?_) (fun v0 => ?_)
    · have hzx := hC.size
      have HSS := Lib.hid hS; clear hS hd hI
      go_simp
      refine HSS.out _ _ (hC.trans (((Below.refl _ _).alloc (Nat.le_refl _) _).mono hC.size)) ((Below.refl _ _).alloc (Nat.le_refl _) _) ?_
      (simp only [List.nil_append, List.cons_append, List.length_cons, List.length_nil, Nat.reduceAdd, cfF])
      exact Empty0.new wx _ hzx
    simp only [Act.put, List.setIfInBounds_toArray, List.set_cons_zero, List.set_cons_succ]
    refine wpRelyE_cons2 (d := 36) rfl rfl (fun wx hC hI hd S0 hS => ?_) (fun v1 => ?_)
    · have HSS := Lib.hid hS; clear hS hd hI
      go_simp
      exact HSS.out _ _ hC (Below.refl _ _) (by simp [cfF])
    simp only [Act.put, List.setIfInBounds_toArray, List.set_cons_zero, List.set_cons_succ]
    refine wpRelyE_cons2 (d := 37) rfl rfl (fun wx hC hI hd S0 hS => ?_) (fun v2 => ?_)
    · have d1 := hd ⟨1, .data⟩ (by simp) rfl v1 (by simp)
      simp only [cfF] at d1
      subst d1
      have c0 := keep_cell hC hcP
      have HSS := Lib.hid hS; clear hS hd hI
      go_simp
      exact HSS.out _ _ hC (Below.refl _ _) (by simp [cfF])
    simp only [Act.put, List.setIfInBounds_toArray, List.set_cons_zero, List.set_cons_succ]
    refine wpRelyE_cons2 (d := 38) rfl rfl (fun wx hC hI hd S0 hS => ?_) (fun v3 => ?_)
    · have d0 := hd ⟨0, .data⟩ (by simp) rfl v0 (by simp)
      simp only [cfF] at d0
      have d2 := hd ⟨2, .data⟩ (by simp) rfl v2 (by simp)
      simp only [cfF] at d2
      subst d2
      have hzx := hC.size
      have HSS := Lib.hid hS; clear hS hd hI
      obtain ⟨v', w', hr', h2, h3⟩ := run_append_copy (ty := 34) (lo := w.heap.size) sty_Fld rClsField_goodT rClsField_one d0 (SRC.out wx hC) (ROWS.out wx hC) (by have := HLX.out; omega) hloW hzx
      refine wp_of_append (.tmp 35) (.tmp 37) 34 rfl rfl rfl hr' ⟨put_defers' _ _ _, ?_⟩
      rw [eval_put_self (by simp)]
      refine HSS.out _ _ (hC.trans (h3.mono hC.size)) (h3) ?_
      (simp only [List.nil_append, List.cons_append, List.length_cons, List.length_nil, Nat.reduceAdd, cfF])
      exact h2
    simp only [Act.put, List.setIfInBounds_toArray, List.set_cons_zero, List.set_cons_succ]
    refine wpRelyE_cons2 (d := 39) rfl rfl (fun wx hC hI hd S0 hS => ?_) (fun v4 => ?_)
    · have HSS := Lib.hid hS; clear hS hd hI
      go_simp
      exact HSS.out _ _ hC (Below.refl _ _) (by simp [cfF])
    simp only [Act.put, List.setIfInBounds_toArray, List.set_cons_zero, List.set_cons_succ]
    refine wpRelyE_cons2 (d := 40) rfl rfl (fun wx hC hI hd S0 hS => ?_) (fun v5 => ?_)
    · have d4 := hd ⟨4, .data⟩ (by simp) rfl v4 (by simp)
      simp only [cfF] at d4
      subst d4
      have c0 := keep_cell hC hcP
      have HSS := Lib.hid hS; clear hS hd hI
      go_simp
      exact HSS.out _ _ hC (Below.refl _ _) (by simp [cfF])
    simp only [Act.put, List.setIfInBounds_toArray, List.set_cons_zero, List.set_cons_succ]
    refine wpRelyE_cons2 (d := 41) rfl rfl (fun wx hC hI hd S0 hS => ?_) (fun v6 => ?_)
    · have d5 := hd ⟨5, .data⟩ (by simp) rfl v5 (by simp)
      simp only [cfF] at d5
      subst d5
      have HSS := Lib.hid hS; clear hS hd hI
      go_simp
      exact HSS.out _ _ hC (Below.refl _ _) (by simp [cfF])
    simp only [Act.put, List.setIfInBounds_toArray, List.set_cons_zero, List.set_cons_succ]
    refine wpRelyE_cons2 (d := 42) rfl rfl (fun wx hC hI hd S0 hS => ?_) (fun v7 => ?_)
    · have d6 := hd ⟨6, .data⟩ (by simp) rfl v6 (by simp)
      simp only [cfF] at d6
      subst d6
      have HSS := Lib.hid hS; clear hS hd hI
      refine wp_loadAt rfl rfl (run_loadAt_mid wx g0 0 45 _ _ (range_below HRG.out hC hg0l) Try.underlying45 rfl HKI.out) ⟨put_defers' _ _ _, ?_⟩
      rw [eval_put_self (by simp)]
      exact HSS.out _ _ hC (Below.refl _ _) (by (simp only [List.nil_append, List.cons_append, List.length_cons, List.length_nil, Nat.reduceAdd, cfF]))
    simp only [Act.put, List.setIfInBounds_toArray, List.set_cons_zero, List.set_cons_succ]
    refine wpRelyE_cons2 (d := 43) rfl rfl (fun wx hC hI hd S0 hS => ?_) (fun v8 => ?_)
    · have d7 := hd ⟨7, .data⟩ (by simp) rfl v7 (by simp)
      simp only [cfF] at d7
      subst d7
      have hzx := hC.size
      have HSS := Lib.hid hS; clear hS hd hI
      have hb8 := run_one sty_Fld ([.string f0.fName, .int .i64 f0.fKind.fKind, .string f0.fKind.fName]) rfl (by decide) wx
      refine wp_buildOne rfl rfl hb8 ⟨put_defers' _ _ _, ?_⟩
      rw [eval_put_self (by simp)]
      refine HSS.out _ _ (hC.trans (((Below.refl _ _).alloc (Nat.le_refl _) _).mono hC.size)) ((Below.refl _ _).alloc (Nat.le_refl _) _) ?_
      (simp only [List.nil_append, List.cons_append, List.length_cons, List.length_nil, Nat.reduceAdd, cfF])
      exact ⟨_, rfl, hzx, heap_alloc_new wx _⟩
    simp only [Act.put, List.setIfInBounds_toArray, List.set_cons_zero, List.set_cons_succ]
    intro wE hC hF
    have f3 := hF 3 v3 (by simp) (fun _ _ => rfl)
    have f8 := hF 8 v8 (by simp) (fun _ _ => rfl)
    simp only [cfF] at f3 f8
    obtain ⟨g9, rfl, hg9, hh9⟩ := f8
    have hzE := hC.size
    clear hF
    simp only [List.drop_succ_cons, List.drop_zero]
    refine wpList_append_F (B := W5.heap.size) (lo := w.heap.size) (xs := x.fFields) (ys := [f0]) (css := [[.string f0.fName, .int .i64 f0.fKind.fKind, .string f0.fKind.fName]]) (E := fun s => s ≠ 45) (by rfl) (.tmp 38) (.tmp 43) 34 (by rfl) sty_Fld (rClsField_goodT.mono fun _ h => h.elim) (fun h => h rfl) rClsField_one (by rfl) (by rfl) f3 (Src.at (cs := [.string f0.fName, .int .i64 f0.fKind.fKind, .string f0.fKind.fName]) hh9) (Rows.one rfl ⟨rfl, hs01, hs02⟩) (by have := HLX.out; simp; omega) hloW hzE ?_
    intro v9 wG htG hbG hgG hkG hatG
    obtain ⟨za, zn, zc, rfl⟩ := htG.sl.form3
    have HG := Lib.hid (HST5.out.keep (hC.trans hbG))
    have HTG := Lib.hid htG.sl
    clear htG hbG hgG hkG hatG hC f3 hh9 HST5 hcP SRC ROWS HRG
    obtain ⟨cpl, cp0, cp1, cp2, cp3, cpf0, cpf1, cpf2, cpf3⟩ := HG.out.fp
    obtain ⟨cxl, cx0, cx1, cx2, cx3, cxf0, cxf1, cxf2, cxf3⟩ := HG.out.fx
    obtain ⟨cyl, cy0, cy1, cy2, cy3, cyf0, cyf1, cyf2, cyf3⟩ := HG.out.fy
    go_wp2_with fail
    go_meet
    case rel => exact ⟨_, _, _, _, HG.out.setY HG.out.fy.setC0 HTG.out HG.out.s2, Or.inr ⟨f0, List.mem_of_getElem? HF0.out, rfl⟩⟩
  case rest =>
  clear HST cpl cp0 cp1 cp2 cp3 cpf0 cpf1 cpf2 cpf3 cxl cx0 cx1 cx2 cx3 cxf0 cxf1 cxf2 cxf3 cyl cy0 cy1 cy2 cy3 cyf0 cyf1 cyf2 cyf3
  obtain ⟨ya, yn, yc, ys, HST0, hmf⟩ := hcut
  have HST := Lib.hid HST0
  have HMF := Lib.hid hmf
  clear HST0 hmf
  obtain ⟨cpl, cp0, cp1, cp2, cp3, cpf0, cpf1, cpf2, cpf3⟩ := HST.out.fp
  obtain ⟨cxl, cx0, cx1, cx2, cx3, cxf0, cxf1, cxf2, cxf3⟩ := HST.out.fx
  obtain ⟨cyl, cy0, cy1, cy2, cy3, cyf0, cyf1, cyf2, cyf3⟩ := HST.out.fy
  go_upto_if 49 with fail
  go_cut [] from 46 to 68 (fun wx => COM P X Y w.heap.size w1 wx x (.slice fa n fc) (.slice ma m mc) (.slice fa (n - 1) fc) (.slice ma (m - 1) mc) (.slice ya yn yc) m ys)
  case first =>
    by_cases hm0 : m = 0
    · subst hm0
      go_wp2_with fail
      go_meet
      case rel => exact ⟨_, _, _, _, HST.out, Or.inl ⟨rfl, rfl⟩⟩
    obtain ⟨k, rfl⟩ : ∃ k, m = k + 1 := ⟨m - 1, by omega⟩
    have hk2 : (k : Int) ≤ (mc : Int) := by omega
    have hkw : IntKind.i64.wrap (k : Int) = (k : Int) := IntWalk.i64_in _ (by omega)
    go_wp2_with fail
    obtain ⟨W5, hW5⟩ : ∃ W, W = wc.setCell ⟨X, 3, none⟩ (.slice ma k mc) := ⟨_, rfl⟩
    have HST5 : Hid (COst P X Y w.heap.size w1 W5 x (.slice fa n fc) (.slice ma (k + 1) mc) (.slice fa (n - 1) fc) (.slice ma k mc) (.slice ya yn yc) (.slice ma (k + 1) mc) ys x.fMethods) := Lib.hid (by rw [hW5]; exact HST.out.setX HST.out.fx.setC1)
    rw [← hW5]
    obtain ⟨g0, cap0, css0, e0, hg01, hg02, _, _, hrows⟩ := HS2.out.rowsAt (by rw [← HM.out]; omega)
    rw [← HM.out] at e0
    cases e0
    obtain ⟨f0, hf0⟩ : ∃ f, x.fMethods[0]? = some f := ⟨_, List.getElem?_eq_getElem (by rw [← HM.out]; omega)⟩
    obtain ⟨cs0, _, hl0, hR0, hrg0⟩ := hrows 0 f0 hf0
    obtain ⟨u1, u2, u3, rfl, q1, q2, q3, _, _⟩ := id hR0
    obtain ⟨a1, n1, c1, rfl⟩ := q1.form3
    obtain ⟨a2, n2, c2, rfl⟩ := q2.form3
    obtain ⟨a3, n3, c3, rfl⟩ := q3.form3
    rw [Nat.zero_mul] at hrg0
    have hB5 := HST5.out.below
    have HRG := Lib.hid (range_below hrg0 hB5 hg02)
    have hg0l : g0 < W5.heap.size := Nat.lt_of_lt_of_le hg02 hB5.size
    obtain ⟨fcss, hfs, hfr⟩ := HS2.out.src
    have SRC : Hid (∀ wx, Below W5.heap.size W5 wx → Src 8 wx (.slice (some ⟨g0, 0, none⟩) (k + 1) mc) fcss) := Lib.hid fun wx h => hfs.kept (hB5.trans (h.mono hB5.size))
    have ROWS : Hid (∀ wx, Below W5.heap.size W5 wx → Rows 8 tClsMethod w.heap.size wx fcss x.fMethods) := Lib.hid fun wx h => hfr.mono fun cs y hy => tClsMethod_goodT.stays _ _ _ _ _ (KeepsT.of_below (hB5.trans (h.mono hB5.size))) hy
    have HR0 : Hid (∀ wx, Below W5.heap.size W5 wx → tClsMethod w.heap.size wx [.string f0.fName, .slice a1 n1 c1, .int .i64 f0.fRet.fKind, .string f0.fRet.fName, .int .i64 f0.fLocals, .int .i64 f0.fStack, .slice a2 n2 c2, .slice a3 n3 c3] f0) := Lib.hid fun wx h => tClsMethod_goodT.stays _ _ _ _ _ (KeepsT.of_below (hB5.trans (h.mono hB5.size))) hR0
    have hloW : w.heap.size ≤ W5.heap.size := Nat.le_trans hw1 hB5.size
    have HLX := Lib.hid (show x.fMethods.length ≤ 4 by rw [← HM.out]; exact hm4)
    have HKI : Hid ((Try.prog.info? 29).map (·.size) = some 8) := Lib.hid (by kernel_rfl)
    have HF0 := Lib.hid hf0
    have hcP := HST5.out.fp.c3
    clear hW5 hrows hf0 hR0 hrg0 hfs hfr HST hB5 q1 q2 q3 cpl cp0 cp1 cp2 cp3 cpf0 cpf1 cpf2 cpf3 cxl cx0 cx1 cx2 cx3 cxf0 cxf1 cxf2 cxf3 cyl cy0 cy1 cy2 cy3 cyf0 cyf1 cyf2 cyf3
    refine wp_region_relyE 9 (Below W5.heap.size W5) (fun _ w1 w2 => Below w1.heap.size w1 w2) (fun _ => cmF W5.heap.size w.heap.size P g0 (.slice (some ⟨g0, 0, none⟩) (k + 1) mc) x.fMethods [.string f0.fName, .slice a1 n1 c1, .int .i64 f0.fRet.fKind, .string f0.fRet.fName, .int .i64 f0.fLocals, .int .i64 f0.fStack, .slice a2 n2 c2, .slice a3 n3 c3]) (fun _ _ => True) noDead (by kernel_rfl) (by decide) (by kernel_rfl) (Or.inr ⟨by kernel_rfl, by kernel_rfl⟩) (by kernel_rfl) ((Below.refl _ _).drew) (fun _ _ _ _ _ _ _ _ _ h => h) noDead_dead (fun _ => trivial) (fun _ _ _ _ _ _ _ _ => trivial) (fun _ i j u w1 w2 hne _ _ hg hF => cmF_stays i j u w1 w2 hne hg hF) (fun _ _ _ => Below.refl _ _) ?_
    refine wpRelyE_cons2 (d := 58) rfl rfl (fun wx hC hI hd S0 hS => ?_) (fun v0 => ?_)
    · have hzx := hC.size
      have HSS := Lib.hid hS; clear hS hd hI
      go_simp
      refine HSS.out _ _ (hC.trans (((Below.refl _ _).alloc (Nat.le_refl _) _).mono hC.size)) ((Below.refl _ _).alloc (Nat.le_refl _) _) ?_
      (simp only [List.nil_append, List.cons_append, List.length_cons, List.length_nil, Nat.reduceAdd, cmF])
      exact Empty0.new wx _ hzx
    simp only [Act.put, List.setIfInBounds_toArray, List.set_cons_zero, List.set_cons_succ]
    refine wpRelyE_cons2 (d := 59) rfl rfl (fun wx hC hI hd S0 hS => ?_) (fun v1 => ?_)
    · have HSS := Lib.hid hS; clear hS hd hI
      go_simp
      exact HSS.out _ _ hC (Below.refl _ _) (by simp [cmF])
    simp only [Act.put, List.setIfInBounds_toArray, List.set_cons_zero, List.set_cons_succ]
    refine wpRelyE_cons2 (d := 60) rfl rfl (fun wx hC hI hd S0 hS => ?_) (fun v2 => ?_)
    · have d1 := hd ⟨1, .data⟩ (by simp) rfl v1 (by simp)
      simp only [cmF] at d1
      subst d1
      have c0 := keep_cell hC hcP
      have HSS := Lib.hid hS; clear hS hd hI
      go_simp
      exact HSS.out _ _ hC (Below.refl _ _) (by simp [cmF])
    simp only [Act.put, List.setIfInBounds_toArray, List.set_cons_zero, List.set_cons_succ]
    refine wpRelyE_cons2 (d := 61) rfl rfl (fun wx hC hI hd S0 hS => ?_) (fun v3 => ?_)
    · have d0 := hd ⟨0, .data⟩ (by simp) rfl v0 (by simp)
      simp only [cmF] at d0
      have d2 := hd ⟨2, .data⟩ (by simp) rfl v2 (by simp)
      simp only [cmF] at d2
      subst d2
      have hzx := hC.size
      have HSS := Lib.hid hS; clear hS hd hI
      obtain ⟨v', w', hr', h2, h3⟩ := run_append_copy (ty := 35) (lo := w.heap.size) sty_Mth tClsMethod_goodT tClsMethod_one d0 (SRC.out wx hC) (ROWS.out wx hC) (by have := HLX.out; omega) hloW hzx
      refine wp_of_append (.tmp 58) (.tmp 60) 35 rfl rfl rfl hr' ⟨put_defers' _ _ _, ?_⟩
      rw [eval_put_self (by simp)]
      refine HSS.out _ _ (hC.trans (h3.mono hC.size)) (h3) ?_
      (simp only [List.nil_append, List.cons_append, List.length_cons, List.length_nil, Nat.reduceAdd, cmF])
      exact h2
    simp only [Act.put, List.setIfInBounds_toArray, List.set_cons_zero, List.set_cons_succ]
    refine wpRelyE_cons2 (d := 62) rfl rfl (fun wx hC hI hd S0 hS => ?_) (fun v4 => ?_)
    · have HSS := Lib.hid hS; clear hS hd hI
      go_simp
      exact HSS.out _ _ hC (Below.refl _ _) (by simp [cmF])
    simp only [Act.put, List.setIfInBounds_toArray, List.set_cons_zero, List.set_cons_succ]
    refine wpRelyE_cons2 (d := 63) rfl rfl (fun wx hC hI hd S0 hS => ?_) (fun v5 => ?_)
    · have d4 := hd ⟨4, .data⟩ (by simp) rfl v4 (by simp)
      simp only [cmF] at d4
      subst d4
      have c0 := keep_cell hC hcP
      have HSS := Lib.hid hS; clear hS hd hI
      go_simp
      exact HSS.out _ _ hC (Below.refl _ _) (by simp [cmF])
    simp only [Act.put, List.setIfInBounds_toArray, List.set_cons_zero, List.set_cons_succ]
    refine wpRelyE_cons2 (d := 64) rfl rfl (fun wx hC hI hd S0 hS => ?_) (fun v6 => ?_)
    · have d5 := hd ⟨5, .data⟩ (by simp) rfl v5 (by simp)
      simp only [cmF] at d5
      subst d5
      have HSS := Lib.hid hS; clear hS hd hI
      go_simp
      exact HSS.out _ _ hC (Below.refl _ _) (by simp [cmF])
    simp only [Act.put, List.setIfInBounds_toArray, List.set_cons_zero, List.set_cons_succ]
    refine wpRelyE_cons2 (d := 65) rfl rfl (fun wx hC hI hd S0 hS => ?_) (fun v7 => ?_)
    · have d6 := hd ⟨6, .data⟩ (by simp) rfl v6 (by simp)
      simp only [cmF] at d6
      subst d6
      have HSS := Lib.hid hS; clear hS hd hI
      refine wp_loadAt rfl rfl (run_loadAt_mid wx g0 0 29 _ _ (range_below HRG.out hC hg0l) Try.underlying29 rfl HKI.out) ⟨put_defers' _ _ _, ?_⟩
      rw [eval_put_self (by simp)]
      exact HSS.out _ _ hC (Below.refl _ _) (by (simp only [List.nil_append, List.cons_append, List.length_cons, List.length_nil, Nat.reduceAdd, cmF]))
    simp only [Act.put, List.setIfInBounds_toArray, List.set_cons_zero, List.set_cons_succ]
    refine wpRelyE_cons2 (d := 66) rfl rfl (fun wx hC hI hd S0 hS => ?_) (fun v8 => ?_)
    · have d7 := hd ⟨7, .data⟩ (by simp) rfl v7 (by simp)
      simp only [cmF] at d7
      subst d7
      have hzx := hC.size
      have HSS := Lib.hid hS; clear hS hd hI
      have hb8 := run_one sty_Mth ([.string f0.fName, .slice a1 n1 c1, .int .i64 f0.fRet.fKind, .string f0.fRet.fName, .int .i64 f0.fLocals, .int .i64 f0.fStack, .slice a2 n2 c2, .slice a3 n3 c3]) rfl (by decide) wx
      refine wp_buildOne rfl rfl hb8 ⟨put_defers' _ _ _, ?_⟩
      rw [eval_put_self (by simp)]
      refine HSS.out _ _ (hC.trans (((Below.refl _ _).alloc (Nat.le_refl _) _).mono hC.size)) ((Below.refl _ _).alloc (Nat.le_refl _) _) ?_
      (simp only [List.nil_append, List.cons_append, List.length_cons, List.length_nil, Nat.reduceAdd, cmF])
      exact ⟨_, rfl, hzx, heap_alloc_new wx _⟩
    simp only [Act.put, List.setIfInBounds_toArray, List.set_cons_zero, List.set_cons_succ]
    intro wE hC hF
    have f3 := hF 3 v3 (by simp) (fun _ _ => rfl)
    have f8 := hF 8 v8 (by simp) (fun _ _ => rfl)
    simp only [cmF] at f3 f8
    obtain ⟨g9, rfl, hg9, hh9⟩ := f8
    have hzE := hC.size
    clear hF
    simp only [List.drop_succ_cons, List.drop_zero]
    refine wpList_append_F (B := W5.heap.size) (lo := w.heap.size) (xs := x.fMethods) (ys := [f0]) (css := [[.string f0.fName, .slice a1 n1 c1, .int .i64 f0.fRet.fKind, .string f0.fRet.fName, .int .i64 f0.fLocals, .int .i64 f0.fStack, .slice a2 n2 c2, .slice a3 n3 c3]]) (E := fun s => s ≠ 29) (by rfl) (.tmp 61) (.tmp 66) 35 (by rfl) sty_Mth (tClsMethod_goodT.mono fun t ht e => EClsMethod_not (e ▸ ht)) (fun h => h rfl) tClsMethod_one (by rfl) (by rfl) f3 (Src.at (cs := [.string f0.fName, .slice a1 n1 c1, .int .i64 f0.fRet.fKind, .string f0.fRet.fName, .int .i64 f0.fLocals, .int .i64 f0.fStack, .slice a2 n2 c2, .slice a3 n3 c3]) hh9) (Rows.one rfl (HR0.out _ hC)) (by have := HLX.out; simp; omega) hloW hzE ?_
    intro v9 wG htG hbG hgG hkG hatG
    obtain ⟨za, zn, zc, rfl⟩ := htG.sl.form3
    have HG := Lib.hid (HST5.out.keep (hC.trans hbG))
    have HTG := Lib.hid htG.sl
    clear htG hbG hgG hkG hatG hC f3 hh9 HST5 hcP SRC ROWS HRG HR0
    obtain ⟨cpl, cp0, cp1, cp2, cp3, cpf0, cpf1, cpf2, cpf3⟩ := HG.out.fp
    obtain ⟨cxl, cx0, cx1, cx2, cx3, cxf0, cxf1, cxf2, cxf3⟩ := HG.out.fx
    obtain ⟨cyl, cy0, cy1, cy2, cy3, cyf0, cyf1, cyf2, cyf3⟩ := HG.out.fy
    go_wp2_with fail
    go_meet
    case rel => exact ⟨_, _, _, _, HG.out.setY HG.out.fy.setC1 HG.out.s1 HTG.out, Or.inr ⟨f0, List.mem_of_getElem? HF0.out, rfl⟩⟩
  case rest =>
  clear HST cpl cp0 cp1 cp2 cp3 cpf0 cpf1 cpf2 cpf3 cxl cx0 cx1 cx2 cx3 cxf0 cxf1 cxf2 cxf3 cyl cy0 cy1 cy2 cy3 cyf0 cyf1 cyf2 cyf3
  obtain ⟨za, zn, zc, yms, HST0, hmm2⟩ := hcut
  have HST := Lib.hid HST0
  have HMM := Lib.hid hmm2
  clear HST0 hmm2
  have hBw : Unit → Below w.heap.size w wc := fun _ => (HW1 ()).trans (HST.out.below.mono hw1)
  obtain ⟨cpl, cp0, cp1, cp2, cp3, cpf0, cpf1, cpf2, cpf3⟩ := HST.out.fp
  obtain ⟨cxl, cx0, cx1, cx2, cx3, cxf0, cxf1, cxf2, cxf3⟩ := HST.out.fx
  obtain ⟨cyl, cy0, cy1, cy2, cy3, cyf0, cyf1, cyf2, cyf3⟩ := HST.out.fy
  have CX : Hid (Calls Try.prog 23 #[.agg #[.string x.fName, .string x.fSuper, .slice fa (n - 1) fc, .slice ma (m - 1) mc]] wc fun e w' => e = .returned (.bool true) ∧ Below wc.heap.size wc w') := Lib.hid (by
    have h9 := I_ClsOk (lessCls x) (.slice fa (n - 1) fc) (.slice ma (m - 1) mc) wc (by rw [show (lessCls x).fFields = x.fFields.take (n - 1) by rw [HN.out]; rfl]; exact (SF.out _ HST.out.below).take (by omega)) (by rw [show (lessCls x).fMethods = x.fMethods.take (m - 1) by rw [HM.out]; rfl]; exact (SM.out _ HST.out.below).take (by omega)) HB1.out HB2.out
    rw [lessCls_ok HOK.out] at h9
    exact h9)
  go_wp2_with fail
  refine CX.out.mono ?_
  rintro _ wK ⟨rfl, hK⟩
  have HK := Lib.hid (HST.out.keep hK)
  have hBK : Unit → Below w.heap.size w wK := fun _ => (hBw ()).trans (hK.mono (hBw ()).size)
  have hnw : IntKind.i64.wrap ((n : Int) + (m : Int)) = (n : Int) + (m : Int) := IntWalk.i64_in _ (by omega)
  clear hK CX cpl cp0 cp1 cp2 cp3 cpf0 cpf1 cpf2 cpf3 cxl cx0 cx1 cx2 cx3 cxf0 cxf1 cxf2 cxf3 cyl cy0 cy1 cy2 cy3 cyf0 cyf1 cyf2 cyf3
  obtain ⟨cpl, cp0, cp1, cp2, cp3, cpf0, cpf1, cpf2, cpf3⟩ := HK.out.fp
  obtain ⟨cxl, cx0, cx1, cx2, cx3, cxf0, cxf1, cxf2, cxf3⟩ := HK.out.fx
  obtain ⟨cyl, cy0, cy1, cy2, cy3, cyf0, cyf1, cyf2, cyf3⟩ := HK.out.fy
  by_cases hnm : n = 0 ∧ m = 0
  · obtain ⟨h01, h02⟩ := hnm
    have hq : ((n : Int) + (m : Int) == 0) = true := by rw [h01, h02]; rfl
    clear h01 h02
    go_wp2
    all_goals (try go_returns)
    all_goals exact HR.out _ _ ⟨rfl, by have := hBK (); exact bbel⟩
  · have hq : ((n : Int) + (m : Int) == 0) = false := by rw [beq_eq_false_iff_ne]; omega
    have CY : Hid (Calls Try.prog 23 #[.agg #[.string x.fName, .string x.fSuper, .slice ya yn yc, .slice za zn zc]] wK fun e w' => e = .returned (.bool false) ∧ Below wK.heap.size wK w') := Lib.hid (by
      have h9 := I_ClsOk { x with fFields := ys, fMethods := yms } (.slice ya yn yc) (.slice za zn zc) wK ((HK.out.s1.sl fun _ _ h => h).low rClsField_good (Nat.zero_le _)) ((HK.out.s2.sl fun _ _ h => tClsMethod_r h).low rClsMethod_good (Nat.zero_le _)) HB1.out HB2.out
      rw [more_not HMF.out HMM.out hnm] at h9
      exact h9)
    go_wp2_with fail
    refine CY.out.mono ?_
    rintro _ wL ⟨rfl, hL⟩
    have hBL : Unit → Below w.heap.size w wL := fun _ => (hBK ()).trans (hL.mono (hBK ()).size)
    clear hL
    go_wp2
    all_goals (try go_returns)
    all_goals exact HR.out _ _ ⟨rfl, by have := hBL (); exact bbel⟩

end Go.Proofs.Ytcdmmnfdnmjnpaa
namespace Go.Proofs.Ytcdmmnfdnmjnpaa
open Go.ChangeShapes Go.WideShapes Go.ChangeAt Go.RowKit Go.Joins
theorem cells_u8 : Try.prog.cellsOf 5 = 1 := by kernel_rfl

set_option maxRecDepth 100000 in
theorem fnClsOk_lifted (os : Os) (started : os.Started) (H : Type) (enc : TypeId × Value → H) :
    ReturnsInHanded {} Try.checked os 5 .any (Rows.fnClsOkSpec.pre6 enc Try.prog Try.f5 Rows.fnClsOkRow.domain false) (Rows.fnClsOkSpec.post enc Try.prog Try.f5 false true false false) := by
  refine returnsInHanded_of_change (C := Try.checked) own started (by kernel_rfl) Try.func5
    (ChangeSpec.witness6 (enc := enc) (C := Try.checked) false ⟨#[], #[.slice none 0 0], []⟩ 8 (by kernel_rfl) (by kernel_rfl) (by kernel_rfl) (by kernel_rfl)) ?_
  intro W base args ds gs before hval0 hW hcnd _
  have hval : ∀ (j : Nat) t v, Try.f5.params[j]? = some t → args[j]? = some v → Value.okWide Try.prog W .any base t v := hval0
  have hW' := hW
  obtain ⟨p, q, hA0, hV, rfl, hfz, hnd⟩ := hW
  have hA : DataW.TrodAll enc Try.prog W 0 (fun _ => true) true Try.f5.params.toList args.toList ds p := hA0
  rw [Try.params5] at hA hval
  clear hA0 hval0
  obtain ⟨v0, d0, rfl, rfl, h0⟩ := trodAll_one hA
  obtain ⟨rfl, rfl⟩ := trodVars_none hV
  have b0 := open_bytes Try.underlying22 Try.underlying5 cells_u8 (hval 0 22 v0 rfl rfl) h0
  refine (L_FnClsOk v0 W b0).mono fun e W' h => ?_
  obtain ⟨rfl, hb⟩ := h
  exact ⟨_, rfl, law_post (s := Rows.fnClsOkSpec) hW' hb rfl rfl rfl Try.underlying4 (by rw [Try.params5]; kernel_rfl)⟩
theorem fnClsOk_holds : Rows.FnClsOkSaid :=
  OpenClaim.holds_of_wide 5 Try.f5 rfl rfl rfl rfl rfl rfl rfl ⟨rfl, rfl, rfl, rfl, rfl⟩ rfl rfl rfl rfl rfl (by kernel_rfl) Try.func5 (by kernel_rfl)
    (of_decide_eq_true (by kernel_rfl)) (by unfold Func.isWrapper; first | (rw [if_pos (by decide +kernel)]; kernel_rfl) | (rw [if_neg (by decide +kernel)]; exact ⟨rfl, rfl⟩))
    (fun os started H enc _ => fnClsOk_lifted os started H enc)

end Go.Proofs.Ytcdmmnfdnmjnpaa
