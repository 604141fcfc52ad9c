/-
  Texts of mine, packed: Chg. No condition beside those of the single theorems.
-/
import Derived.Test.YtcdmmnfdnmjnpaaK34
import Derived.Test.YtcdmmnfdnmjnpaaK9
set_option linter.unusedSimpArgs false
set_option linter.unusedVariables false
namespace Go.Proofs.Ytcdmmnfdnmjnpaa
open Go.RowKit
def clsNone (c : DClsClass) : Bool := c.fName.toList.isEmpty && c.fSuper.toList.isEmpty && decide (c.fFields.length = 0) && decide (c.fMethods.length = 0)
def keepIn (k : Int) : Bool := decide (0 ≤ k) && decide (k ≤ 2)
def chgOk (c : DChgChange) : Bool := keepIn c.fKeeper && namOk c.fName && (if c.fKind == 1 then (c.fTo == 0 && clsOk c.fClass && sameN c.fClass.fName c.fName) else clsNone c.fClass && (if c.fKind == 3 then keepIn c.fTo else ((c.fKind == 2 || c.fKind == 4) && c.fTo == 0)))

theorem eqL_nil {α : Type} (f : α → α → Bool) (xs : List α) : eqL f xs [] = decide (xs.length = 0) := by
  cases xs with
  | nil => rfl
  | cons x r => simp [eqL]
theorem clsEq_nil (c : DClsClass) : clsEq c ⟨⟨#[]⟩, ⟨#[]⟩, [], []⟩ = clsNone c := by
  unfold clsEq clsNone
  rw [eqL_nil, eqL_nil]
  have h : (⟨#[]⟩ : ByteArray).toList = [] := by rw [ByteArray.toList_eq]
  rw [h]
  cases c.fName.toList <;> cases c.fSuper.toList <;> rfl

set_option maxHeartbeats 4000000 in
theorem S_l9None (c : DClsClass) (v1 v2 : Value) (w : World) (s1 : Sl 3 rClsField 0 w v1 c.fFields) (s2 : Sl 8 rClsMethod 0 w v2 c.fMethods) :
    Calls Try.prog 62 #[.agg #[.string c.fName, .string c.fSuper, v1, v2]] w fun e w' => e = .returned (.bool (clsNone c)) ∧ Below w.heap.size w w' := by
  obtain ⟨a, len, cap, rfl⟩ := s1.form
  obtain ⟨a', len', cap', rfl⟩ := s2.form
  obtain ⟨hl, hc, hm⟩ := s1.len
  obtain ⟨hl', hc', hm'⟩ := s2.len
  have m1 : len ≤ 9223372036854775807 := by unfold maxLen at hm; omega
  have m2 : len' ≤ 9223372036854775807 := by unfold maxLen at hm'; omega
  obtain ⟨z, hz⟩ : ∃ z, z = clsNone c := ⟨_, rfl⟩
  obtain ⟨qn, hqn⟩ : ∃ q, q = c.fName.toList.isEmpty := ⟨_, rfl⟩
  obtain ⟨qs, hqs⟩ : ∃ q, q = c.fSuper.toList.isEmpty := ⟨_, rfl⟩
  have HZ : Hid (z = (qn && qs && decide (len = 0) && decide (len' = 0))) := Lib.hid (by rw [hz, hqn, hqs]; unfold clsNone; rw [hl, hl'])
  rw [← hz]
  replace hqn := hqn.symm
  replace hqs := hqs.symm
  clear hz hl hl' hc hc' hm hm' s1 s2
  refine calls_hide fun R HR => ?_
  go_enter Try.func62, Try.ntmps62
  cases qn
  · have RV : Hid (z = false) := Lib.hid (by rw [HZ.out]; rfl)
    (go_wp2; (all_goals (try go_returns)); (all_goals exact HR.out _ _ ⟨by first | (rw [RV.out]; done) | (rw [RV.out]; rfl), bbel⟩))
  cases qs
  · have RV : Hid (z = false) := Lib.hid (by rw [HZ.out]; rfl)
    (go_wp2; (all_goals (try go_returns)); (all_goals exact HR.out _ _ ⟨by first | (rw [RV.out]; done) | (rw [RV.out]; rfl), bbel⟩))
  by_cases h1 : len = 0
  rotate_left
  · have h2 : ((len : Int) == 0) = false := by simp; omega
    have RV : Hid (z = false) := Lib.hid (by rw [HZ.out]; simp [h1])
    (go_wp2; (all_goals (try go_returns)); (all_goals exact HR.out _ _ ⟨by first | (rw [RV.out]; done) | (rw [RV.out]; rfl), bbel⟩))
  subst h1
  by_cases h3 : len' = 0
  rotate_left
  · have h4 : ((len' : Int) == 0) = false := by simp; omega
    have RV : Hid (z = false) := Lib.hid (by rw [HZ.out]; simp [h3])
    (go_wp2; (all_goals (try go_returns)); (all_goals exact HR.out _ _ ⟨by first | (rw [RV.out]; done) | (rw [RV.out]; rfl), bbel⟩))
  subst h3
  have RV : Hid (z = true) := Lib.hid (by rw [HZ.out]; rfl)
  go_wp2
  (all_goals (try go_returns)); (all_goals exact HR.out _ _ ⟨by first | (rw [RV.out]; done) | (rw [RV.out]; rfl), bbel⟩)

set_option maxRecDepth 100000 in
set_option maxHeartbeats 8000000 in
theorem S_ChgOk (x : DChgChange) (v1 v2 : Value) (w : World) (s1 : Sl 3 rClsField 0 w v1 x.fClass.fFields) (s2 : Sl 8 rClsMethod 0 w v2 x.fClass.fMethods) (b1 : x.fName.size ≤ maxLen) (b2 : x.fClass.fName.size ≤ maxLen) (b3 : x.fClass.fSuper.size ≤ maxLen) :
    Calls Try.prog 21 #[.agg #[.int .i64 x.fKind, .int .i64 x.fKeeper, .string x.fName, .int .i64 x.fTo, .string x.fClass.fName, .string x.fClass.fSuper, v1, v2]] w fun e w' => e = .returned (.bool (chgOk x)) ∧ Below w.heap.size w w' := by
  obtain ⟨a, len, cap, rfl⟩ := s1.form
  obtain ⟨a', len', cap', rfl⟩ := s2.form
  obtain ⟨z, hz⟩ : ∃ z, z = chgOk x := ⟨_, rfl⟩
  obtain ⟨qk, hqk⟩ : ∃ q, q = keepIn x.fKeeper := ⟨_, rfl⟩
  obtain ⟨qt, hqt⟩ : ∃ q, q = keepIn x.fTo := ⟨_, rfl⟩
  obtain ⟨qn, hqn⟩ : ∃ q, q = namOk x.fName := ⟨_, rfl⟩
  obtain ⟨qc, hqc⟩ : ∃ q, q = clsOk x.fClass := ⟨_, rfl⟩
  obtain ⟨qe, hqe⟩ : ∃ q, q = clsNone x.fClass := ⟨_, rfl⟩
  obtain ⟨qs, hqs⟩ : ∃ q, q = (x.fClass.fName.toList == x.fName.toList) := ⟨_, rfl⟩
  have HZ : Hid (z = (qk && qn && (if x.fKind == 1 then (x.fTo == 0 && qc && qs) else qe && (if x.fKind == 3 then qt else ((x.fKind == 2 || x.fKind == 4) && x.fTo == 0))))) := Lib.hid (by rw [hz, hqk, hqt, hqn, hqc, hqe, hqs]; rfl)
  have CK : ∀ W, Calls Try.prog 57 #[.int .i64 x.fKeeper, .int .i64 0, .int .i64 2] W fun e w' => e = .returned (.bool qk) ∧ W = w' := fun W => by rw [hqk]; exact S_l1In _ _ _ W
  have CT : ∀ W, Calls Try.prog 57 #[.int .i64 x.fTo, .int .i64 0, .int .i64 2] W fun e w' => e = .returned (.bool qt) ∧ W = w' := fun W => by rw [hqt]; exact S_l1In _ _ _ W
  have CN : ∀ W, Calls Try.prog 30 #[.string x.fName] W fun e w' => e = .returned (.bool qn) ∧ W = w' := fun W => by rw [hqn]; exact S_NamOk _ W b1
  have CC : ∀ W, Below w.heap.size w W → Calls Try.prog 24 #[.agg #[.string x.fClass.fName, .string x.fClass.fSuper, .slice a len cap, .slice a' len' cap']] W fun e w' => e = .returned (.bool qc) ∧ Below W.heap.size W w' := fun W hW => by rw [hqc]; exact S_ClsOk x.fClass _ _ W (s1.stays rClsField_good (Keeps.of_below hW)) (s2.stays rClsMethod_good (Keeps.of_below hW)) b2 b3
  have CE : ∀ W, Below w.heap.size w W → Calls Try.prog 62 #[.agg #[.string x.fClass.fName, .string x.fClass.fSuper, .slice a len cap, .slice a' len' cap']] W fun e w' => e = .returned (.bool qe) ∧ Below W.heap.size W w' := fun W hW => by rw [hqe]; exact S_l9None x.fClass _ _ W (s1.stays rClsField_good (Keeps.of_below hW)) (s2.stays rClsMethod_good (Keeps.of_below hW))
  rw [← hz]
  replace hqs := hqs.symm
  clear hz hqk hqt hqn hqc hqe s1 s2
  refine calls_hide fun R HR => ?_
  go_enter Try.func21, Try.ntmps21
  go_wp2_with fail
  (with_reducible refine (CK _).mono ?_)
  rintro _ _ ⟨rfl, rfl⟩
  cases qk
  · have RV : Hid (z = false) := Lib.hid (by rw [HZ.out]; rfl)
    (go_wp2; (all_goals (try go_returns)); (all_goals exact HR.out _ _ ⟨by first | (rw [RV.out]; done) | (rw [RV.out]; rfl), bbel⟩))
  go_wp2_with fail
  (with_reducible refine (CN _).mono ?_)
  rintro _ _ ⟨rfl, rfl⟩
  cases qn
  · have RV : Hid (z = false) := Lib.hid (by rw [HZ.out]; rfl)
    (go_wp2; (all_goals (try go_returns)); (all_goals exact HR.out _ _ ⟨by first | (rw [RV.out]; done) | (rw [RV.out]; rfl), bbel⟩))
  by_cases h1 : x.fKind = 1
  · have i1 : (x.fKind == 1) = true := by simpa using h1
    have HZ2 : Hid (z = (x.fTo == 0 && qc && qs)) := Lib.hid (by rw [HZ.out, i1]; rfl)
    clear HZ
    by_cases h2 : x.fTo = 0
    rotate_left
    · have i2 : (x.fTo == 0) = false := by simpa using h2
      have HZ := HZ2
      have RV : Hid (z = false) := Lib.hid (by rw [HZ.out]; (rw [i2]; rfl))
      (go_wp2; (all_goals (try go_returns)); (all_goals exact HR.out _ _ ⟨by first | (rw [RV.out]; done) | (rw [RV.out]; rfl), bbel⟩))
    have i2 : (x.fTo == 0) = true := by simpa using h2
    have HZ : Hid (z = (qc && qs)) := Lib.hid (by rw [HZ2.out, i2]; rfl)
    clear HZ2
    go_wp2_with fail
    (with_reducible refine (CC _ (bbel)).mono ?_)
    rintro _ w1 ⟨rfl, g1⟩
    have g1s := (g1).size; (try simp only [World.size_alloc, World.size_setCell, World.size_drew] at g1s)
    obtain ⟨g1ad, g1ao, g1ag, g1ap, g1ax, g1ay⟩ := bf1 (n := w.heap.size) g1
    cases qc
    · have RV : Hid (z = false) := Lib.hid (by rw [HZ.out]; rfl)
      (go_wp2; (all_goals (try go_returns)); (all_goals exact HR.out _ _ ⟨by first | (rw [RV.out]; done) | (rw [RV.out]; rfl), bbel⟩))
    have RV : Hid (z = qs) := Lib.hid (by rw [HZ.out]; rfl)
    go_wp2
    (all_goals (try go_returns)); (all_goals exact HR.out _ _ ⟨by first | (rw [RV.out]; done) | (rw [RV.out]; rfl), bbel⟩)
  have i1 : (x.fKind == 1) = false := by simpa using h1
  have i1' : (x.fKind != 1) = true := by simpa using h1
  have HZ2 : Hid (z = (qe && (if x.fKind == 3 then qt else ((x.fKind == 2 || x.fKind == 4) && x.fTo == 0)))) := Lib.hid (by rw [HZ.out, i1]; rfl)
  clear HZ
  have HZ := HZ2
  go_wp2_with fail
  (with_reducible refine (CE _ (bbel)).mono ?_)
  rintro _ w1 ⟨rfl, g1⟩
  have g1s := (g1).size; (try simp only [World.size_alloc, World.size_setCell, World.size_drew] at g1s)
  obtain ⟨g1ad, g1ao, g1ag, g1ap, g1ax, g1ay⟩ := bf1 (n := w.heap.size) g1
  cases qe
  · have RV : Hid (z = false) := Lib.hid (by rw [HZ.out]; rfl)
    (go_wp2; (all_goals (try go_returns)); (all_goals exact HR.out _ _ ⟨by first | (rw [RV.out]; done) | (rw [RV.out]; rfl), bbel⟩))
  by_cases h3 : x.fKind = 3
  · have i3 : (x.fKind == 3) = true := by simpa using h3
    have RV : Hid (z = qt) := Lib.hid (by rw [HZ.out, i3]; rfl)
    go_wp2_with fail
    (with_reducible refine (CT _).mono ?_)
    rintro _ _ ⟨rfl, rfl⟩
    go_wp2
    (all_goals (try go_returns)); (all_goals exact HR.out _ _ ⟨by first | (rw [RV.out]; done) | (rw [RV.out]; rfl), bbel⟩)
  have i3 : (x.fKind == 3) = false := by simpa using h3
  have HZ3 : Hid (z = ((x.fKind == 2 || x.fKind == 4) && x.fTo == 0)) := Lib.hid (by rw [HZ.out, i3]; rfl)
  clear HZ HZ2
  have HZ := HZ3
  by_cases h2 : x.fKind = 2
  · have i2 : (x.fKind == 2) = true := by simpa using h2
    have RV : Hid (z = (x.fTo == 0)) := Lib.hid (by rw [HZ.out, i2]; simp)
    go_wp2
    (all_goals (try go_returns)); (all_goals exact HR.out _ _ ⟨by first | (rw [RV.out]; done) | (rw [RV.out]; rfl), bbel⟩)
  have i2 : (x.fKind == 2) = false := by simpa using h2
  by_cases h4 : x.fKind = 4
  · have i4 : (x.fKind == 4) = true := by simpa using h4
    have RV : Hid (z = (x.fTo == 0)) := Lib.hid (by rw [HZ.out, i4]; simp)
    go_wp2
    (all_goals (try go_returns)); (all_goals exact HR.out _ _ ⟨by first | (rw [RV.out]; done) | (rw [RV.out]; rfl), bbel⟩)
  have i4 : (x.fKind == 4) = false := by simpa using h4
  have RV : Hid (z = false) := Lib.hid (by rw [HZ.out]; (rw [i2, i4]; rfl))
  (go_wp2; (all_goals (try go_returns)); (all_goals exact HR.out _ _ ⟨by first | (rw [RV.out]; done) | (rw [RV.out]; rfl), bbel⟩))

def ChangeV (z : Bool) (v : Value) : Prop := ∀ W : World, (binOp .neq 91 v .nilIface).run Try.prog W = .ok (.bool z) W ∧ ∀ x, (eqGuard .neq 91 x (.const .nilIface) v .nilIface).run Try.prog W = .ok () W
theorem change_nil : ChangeV false .nilIface := fun W => ⟨by simp [go_sem], fun x => by simp [go_sem, eqGuard]⟩
theorem change_some (t : TypeId) (v : Value) : ChangeV true (.iface t v) := fun W => ⟨by simp [go_sem], fun x => by simp [go_sem, eqGuard]⟩

set_option maxRecDepth 100000 in
set_option maxHeartbeats 8000000 in
theorem I_changeOf (x : DChgChange) (v1 v2 : Value) (w : World) (s1 : Sl 3 rClsField 0 w v1 x.fClass.fFields) (s2 : Sl 8 rClsMethod 0 w v2 x.fClass.fMethods) (b1 : x.fName.size ≤ maxLen) (b2 : x.fClass.fName.size ≤ maxLen) (b3 : x.fClass.fSuper.size ≤ maxLen) :
    Calls Try.prog 61 #[.agg #[.int .i64 x.fKind, .int .i64 x.fKeeper, .string x.fName, .int .i64 x.fTo, .string x.fClass.fName, .string x.fClass.fSuper, v1, v2]] w fun e w' => (∃ v, e = .returned v ∧ ChangeV (chgOk x) v) ∧ Below w.heap.size w w' := by
  obtain ⟨a, len, cap, rfl⟩ := s1.form
  obtain ⟨a', len', cap', rfl⟩ := s2.form
  obtain ⟨z, hz⟩ : ∃ z, z = chgOk x := ⟨_, rfl⟩
  obtain ⟨qt, hqt⟩ : ∃ q, q = keepIn x.fTo := ⟨_, rfl⟩
  obtain ⟨qn, hqn⟩ : ∃ q, q = namOk x.fName := ⟨_, rfl⟩
  obtain ⟨qc, hqc⟩ : ∃ q, q = clsOk x.fClass := ⟨_, rfl⟩
  obtain ⟨qe, hqe⟩ : ∃ q, q = clsNone x.fClass := ⟨_, rfl⟩
  obtain ⟨qs, hqs⟩ : ∃ q, q = (x.fClass.fName.toList == x.fName.toList) := ⟨_, rfl⟩
  have HZ : Hid (z = (keepIn x.fKeeper && qn && (if x.fKind == 1 then (x.fTo == 0 && qc && qs) else qe && (if x.fKind == 3 then qt else ((x.fKind == 2 || x.fKind == 4) && x.fTo == 0))))) := Lib.hid (by rw [hz, hqt, hqn, hqc, hqe, hqs]; rfl)
  have HT : Hid (qt = keepIn x.fTo) := Lib.hid hqt
  have CN : ∀ W, Calls Try.prog 53 #[.string x.fName] W fun e w' => e = .returned (.bool qn) ∧ W = w' := fun W => by rw [hqn]; exact I_NamOk _ W b1
  have CC : ∀ W, Below w.heap.size w W → Calls Try.prog 23 #[.agg #[.string x.fClass.fName, .string x.fClass.fSuper, .slice a len cap, .slice a' len' cap']] W fun e w' => e = .returned (.bool qc) ∧ Below W.heap.size W w' := fun W hW => by rw [hqc]; exact I_ClsOk x.fClass _ _ W (s1.stays rClsField_good (Keeps.of_below hW)) (s2.stays rClsMethod_good (Keeps.of_below hW)) b2 b3
  have CE : ∀ W, Below w.heap.size w W → Calls Try.prog 97 #[.agg #[.string x.fClass.fName, .string x.fClass.fSuper, .slice a len cap, .slice a' len' cap'], .agg #[.string ⟨#[]⟩, .string ⟨#[]⟩, .slice none 0 0, .slice none 0 0]] W fun e w' => e = .returned (.bool qe) ∧ Below W.heap.size W w' := fun W hW => by
    rw [hqe, ← clsEq_nil]
    exact I_ClsSame x.fClass ⟨⟨#[]⟩, ⟨#[]⟩, [], []⟩ _ _ _ _ W (s1.stays rClsField_good (Keeps.of_below hW)) (s2.stays rClsMethod_good (Keeps.of_below hW)) ⟨none, 0, 0, rfl, rfl, Nat.le_refl _, Nat.zero_le _, fun h => absurd h (by omega)⟩ ⟨none, 0, 0, rfl, rfl, Nat.le_refl _, Nat.zero_le _, fun h => absurd h (by omega)⟩
  rw [← hz]
  replace hqs := hqs.symm
  clear hz hqt hqn hqc hqe s1 s2
  refine calls_hide fun R HR => ?_
  go_enter Try.func61, Try.ntmps61
  by_cases hk : 0 ≤ x.fKeeper ∧ x.fKeeper ≤ 2
  rotate_left
  · have RV : Hid (z = false) := Lib.hid (by
      rw [HZ.out]
      have : keepIn x.fKeeper = false := by unfold keepIn; rw [Bool.and_eq_false_iff]; simp only [decide_eq_false_iff_not]; omega
      rw [this]; rfl)
    by_cases hk0 : x.fKeeper < 0
    · go_wp2
      (all_goals (try go_returns)); (all_goals exact HR.out _ _ ⟨⟨_, rfl, by rw [RV.out]; exact change_nil⟩, bbel⟩)
    · have hk1 : ¬ x.fKeeper < 3 := by omega
      have hk2 : (3 : Int) ≤ x.fKeeper := by omega
      go_wp2
      (all_goals (try go_returns)); (all_goals exact HR.out _ _ ⟨⟨_, rfl, by rw [RV.out]; exact change_nil⟩, bbel⟩)
  have hk0 : ¬ x.fKeeper < 0 := by omega
  have hk1 : ¬ (3 : Int) ≤ x.fKeeper := by omega
  have HZ1 : Hid (z = (qn && (if x.fKind == 1 then (x.fTo == 0 && qc && qs) else qe && (if x.fKind == 3 then qt else ((x.fKind == 2 || x.fKind == 4) && x.fTo == 0))))) := Lib.hid (by
    rw [HZ.out]
    have : keepIn x.fKeeper = true := by unfold keepIn; simp; exact hk
    rw [this]; simp)
  clear HZ hk
  have HZ := HZ1
  go_wp2_with fail
  (with_reducible refine (CN _).mono ?_)
  rintro _ _ ⟨rfl, rfl⟩
  cases qn
  · have RV : Hid (z = false) := Lib.hid (by rw [HZ.out]; rfl)
    go_wp2
    (all_goals (try go_returns)); (all_goals exact HR.out _ _ ⟨⟨_, rfl, by rw [RV.out]; exact change_nil⟩, bbel⟩)
  by_cases h1 : x.fKind = 1
  · have i1 : (x.fKind == 1) = true := by simpa using h1
    have HZ2 : Hid (z = (x.fTo == 0 && qc && qs)) := Lib.hid (by rw [HZ.out, i1]; rfl)
    clear HZ HZ1
    by_cases h2 : x.fTo = 0
    rotate_left
    · have i2 : (x.fTo == 0) = false := by simpa using h2
      have i3 : (x.fTo != 0) = true := by simpa using h2
      have HZ := HZ2
      have RV : Hid (z = false) := Lib.hid (by rw [HZ.out]; (rw [i2]; rfl))
      go_wp2
      (all_goals (try go_returns)); (all_goals exact HR.out _ _ ⟨⟨_, rfl, by rw [RV.out]; exact change_nil⟩, bbel⟩)
    have i2 : (x.fTo == 0) = true := by simpa using h2
    have HZ : Hid (z = (qc && qs)) := Lib.hid (by rw [HZ2.out, i2]; rfl)
    clear HZ2
    go_wp2_with fail
    (with_reducible refine (CC _ (bbel)).mono ?_)
    rintro _ w1 ⟨rfl, g1⟩
    have g1s := (g1).size; (try simp only [World.size_alloc, World.size_setCell, World.size_drew] at g1s)
    obtain ⟨g1ad, g1ao, g1ag, g1ap, g1ax, g1ay⟩ := bf1 (n := w.heap.size) g1
    cases qc
    · have RV : Hid (z = false) := Lib.hid (by rw [HZ.out]; rfl)
      go_wp2
      (all_goals (try go_returns)); (all_goals exact HR.out _ _ ⟨⟨_, rfl, by rw [RV.out]; exact change_nil⟩, bbel⟩)
    cases qs
    · have RV : Hid (z = false) := Lib.hid (by rw [HZ.out]; rfl)
      go_wp2
      (all_goals (try go_returns)); (all_goals exact HR.out _ _ ⟨⟨_, rfl, by rw [RV.out]; exact change_nil⟩, bbel⟩)
    have RV : Hid (z = true) := Lib.hid (by rw [HZ.out]; rfl)
    go_wp2
    (all_goals (try go_returns)); (all_goals exact HR.out _ _ ⟨⟨_, rfl, by rw [RV.out]; exact change_some _ _⟩, bbel⟩)
  have i1 : (x.fKind == 1) = false := by simpa using h1
  have HZ2 : Hid (z = (qe && (if x.fKind == 3 then qt else ((x.fKind == 2 || x.fKind == 4) && x.fTo == 0)))) := Lib.hid (by rw [HZ.out, i1]; rfl)
  clear HZ HZ1
  have HZ := HZ2
  go_wp2_with fail
  (with_reducible refine (CE _ (bbel)).mono ?_)
  rintro _ w1 ⟨rfl, g1⟩
  have g1s := (g1).size; (try simp only [World.size_alloc, World.size_setCell, World.size_drew] at g1s)
  obtain ⟨g1ad, g1ao, g1ag, g1ap, g1ax, g1ay⟩ := bf1 (n := w.heap.size) g1
  cases qe
  · have RV : Hid (z = false) := Lib.hid (by rw [HZ.out]; rfl)
    go_wp2
    (all_goals (try go_returns)); (all_goals exact HR.out _ _ ⟨⟨_, rfl, by rw [RV.out]; exact change_nil⟩, bbel⟩)
  by_cases h3 : x.fKind = 3
  · have i3 : (x.fKind == 3) = true := by simpa using h3
    have HZ3 : Hid (z = qt) := Lib.hid (by rw [HZ.out, i3]; rfl)
    clear HZ HZ2
    by_cases ht : 0 ≤ x.fTo ∧ x.fTo ≤ 2
    · have RV : Hid (z = true) := Lib.hid (by rw [HZ3.out, HT.out]; unfold keepIn; simp; exact ht)
      have t0 : ¬ x.fTo < 0 := by omega
      have t1 : ¬ (3 : Int) ≤ x.fTo := by omega
      go_wp2
      (all_goals (try go_returns)); (all_goals exact HR.out _ _ ⟨⟨_, rfl, by rw [RV.out]; exact change_some _ _⟩, bbel⟩)
    · have RV : Hid (z = false) := Lib.hid (by rw [HZ3.out, HT.out]; unfold keepIn; rw [Bool.and_eq_false_iff]; simp only [decide_eq_false_iff_not]; omega)
      by_cases t0 : x.fTo < 0
      · go_wp2
        (all_goals (try go_returns)); (all_goals exact HR.out _ _ ⟨⟨_, rfl, by rw [RV.out]; exact change_nil⟩, bbel⟩)
      · have t1 : (3 : Int) ≤ x.fTo := by omega
        go_wp2
        (all_goals (try go_returns)); (all_goals exact HR.out _ _ ⟨⟨_, rfl, by rw [RV.out]; exact change_nil⟩, bbel⟩)
  have i3 : (x.fKind == 3) = false := by simpa using h3
  have HZ3 : Hid (z = ((x.fKind == 2 || x.fKind == 4) && x.fTo == 0)) := Lib.hid (by rw [HZ.out, i3]; rfl)
  clear HZ HZ2
  have HZ := HZ3
  by_cases ht : x.fTo = 0
  rotate_left
  · have i4 : (x.fTo == 0) = false := by simpa using ht
    have i5 : (x.fTo != 0) = true := by simpa using ht
    have RV : Hid (z = false) := Lib.hid (by rw [HZ.out]; (rw [i4]; simp))
    go_wp2
    (all_goals (try go_returns)); (all_goals exact HR.out _ _ ⟨⟨_, rfl, by rw [RV.out]; exact change_nil⟩, bbel⟩)
  have i4 : (x.fTo == 0) = true := by simpa using ht
  by_cases h2 : x.fKind = 2
  · have i2 : (x.fKind == 2) = true := by simpa using h2
    have RV : Hid (z = true) := Lib.hid (by rw [HZ.out, i2, i4]; rfl)
    go_wp2
    (all_goals (try go_returns)); (all_goals exact HR.out _ _ ⟨⟨_, rfl, by rw [RV.out]; exact change_some _ _⟩, bbel⟩)
  have i2 : (x.fKind == 2) = false := by simpa using h2
  by_cases h4 : x.fKind = 4
  · have i5 : (x.fKind == 4) = true := by simpa using h4
    have RV : Hid (z = true) := Lib.hid (by rw [HZ.out, i2, i4, i5]; rfl)
    go_wp2
    (all_goals (try go_returns)); (all_goals exact HR.out _ _ ⟨⟨_, rfl, by rw [RV.out]; exact change_some _ _⟩, bbel⟩)
  have i5 : (x.fKind == 4) = false := by simpa using h4
  have RV : Hid (z = false) := Lib.hid (by rw [HZ.out]; (rw [i2, i5]; rfl))
  go_wp2
  (all_goals (try go_returns)); (all_goals exact HR.out _ _ ⟨⟨_, rfl, by rw [RV.out]; exact change_nil⟩, bbel⟩)

set_option maxRecDepth 100000 in
set_option maxHeartbeats 8000000 in
theorem I_ChgOk (x : DChgChange) (v1 v2 : Value) (w : World) (s1 : Sl 3 rClsField 0 w v1 x.fClass.fFields) (s2 : Sl 8 rClsMethod 0 w v2 x.fClass.fMethods) (b1 : x.fName.size ≤ maxLen) (b2 : x.fClass.fName.size ≤ maxLen) (b3 : x.fClass.fSuper.size ≤ maxLen) :
    Calls Try.prog 20 #[.agg #[.int .i64 x.fKind, .int .i64 x.fKeeper, .string x.fName, .int .i64 x.fTo, .string x.fClass.fName, .string x.fClass.fSuper, v1, v2]] w fun e w' => e = .returned (.bool (chgOk x)) ∧ Below w.heap.size w w' := by
  obtain ⟨a, len, cap, rfl⟩ := s1.form
  obtain ⟨a', len', cap', rfl⟩ := s2.form
  obtain ⟨z, hz⟩ : ∃ z, z = chgOk x := ⟨_, rfl⟩
  have CO : ∀ W, Below w.heap.size w W → Calls Try.prog 61 #[.agg #[.int .i64 x.fKind, .int .i64 x.fKeeper, .string x.fName, .int .i64 x.fTo, .string x.fClass.fName, .string x.fClass.fSuper, .slice a len cap, .slice a' len' cap']] W fun e w' => (∃ v, e = .returned v ∧ ChangeV z v) ∧ Below W.heap.size W w' := fun W hW => by
    rw [hz]; exact I_changeOf x _ _ W (s1.stays rClsField_good (Keeps.of_below hW)) (s2.stays rClsMethod_good (Keeps.of_below hW)) b1 b2 b3
  rw [← hz]
  clear hz s1 s2
  refine calls_hide fun R HR => ?_
  go_enter Try.func20, Try.ntmps20
  go_wp2_with fail
  (with_reducible refine (CO _ (bbel)).mono ?_)
  rintro _ w1 ⟨⟨v, rfl, hv⟩, g1⟩
  have g1s := (g1).size; (try simp only [World.size_alloc, World.size_setCell, World.size_drew] at g1s)
  have hv1 : ∀ W : World, (binOp .neq 91 v .nilIface).run Try.prog W = .ok (.bool z) W := fun W => (hv W).1
  have hv2 : ∀ (x : Operand) (W : World), (eqGuard .neq 91 x (.const .nilIface) v .nilIface).run Try.prog W = .ok () W := fun x W => (hv W).2 x
  clear hv CO
  go_wp2
  all_goals (try go_returns)
  all_goals exact HR.out _ _ ⟨rfl, bbel⟩

end Go.Proofs.Ytcdmmnfdnmjnpaa
