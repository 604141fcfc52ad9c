/-
  Texts of mine, packed: LawCH, RowCH. No condition beside those of the single theorems.
-/
import Derived.Test.YtcdmmnfdnmjnpaaK35
import Derived.Test.YtcdmmnfdnmjnpaaK36
import Derived.Test.YtcdmmnfdnmjnpaaK13
set_option linter.unusedSimpArgs false
set_option linter.unusedVariables false
namespace Go.Proofs.Ytcdmmnfdnmjnpaa
open Go.RowKit
set_option maxHeartbeats 400000 in
theorem L_loOkC (w : World) : Calls Try.prog 18 #[] w fun e w' => e = .returned (.bool true) ∧ Below w.heap.size w w' := by
  refine calls_hide fun R HR => ?_
  go_enter Try.func18, Try.ntmps18
  go_wp2_with (go_at_call 53; refine (I_NamOk _ _ (by decide)).mono ?_; rintro _ _ ⟨rfl, rfl⟩)
  all_goals (try go_returns)
  all_goals exact HR.out _ _ ⟨rfl, bbel⟩
def nZzz : ByteArray := ⟨#[122, 122, 122]⟩
theorem zzz_list : nZzz.toList = [122, 122, 122] := by
  show (⟨#[122, 122, 122]⟩ : ByteArray).toList = [122, 122, 122]
  go_simp
def withZzz (x : DChgChange) : DChgChange := { x with fClass := ⟨nZzz, ⟨#[]⟩, [], []⟩ }
theorem plain_zzz {x : DChgChange} (h : ¬ ((x.fName.toList == [122, 122, 122]) = true ∧ (x.fKind == 1) = true)) : chgOk (withZzz x) = false := by
  unfold chgOk withZzz
  by_cases hk : (x.fKind == 1) = true
  · have h1 : sameN nZzz x.fName = false := by
      cases e : sameN nZzz x.fName
      · rfl
      · exfalso
        have := sameN_iff.1 e
        exact h ⟨by rw [← this, zzz_list]; rfl, hk⟩
    simp only [hk, if_true, h1, Bool.and_false]
  · have h2 : clsNone ⟨nZzz, ⟨#[]⟩, [], []⟩ = false := by
      unfold clsNone
      rw [zzz_list]; rfl
    rw [if_neg hk]
    simp only [h2, Bool.false_and, Bool.and_false]
theorem chgOk_keeper {x : DChgChange} (h : chgOk x = true) : 0 ≤ x.fKeeper ∧ x.fKeeper < 3 := by
  unfold chgOk keepIn at h
  simp only [Bool.and_eq_true, decide_eq_true_eq] at h
  omega

set_option maxRecDepth 100000 in
set_option maxHeartbeats 8000000 in
theorem L_FnChgOk (v : Value) (w : World) (hv : Bytes w v) :
    Calls Try.prog 4 #[v] w fun e w' => e = .returned (.bool true) ∧ Below w.heap.size w w' := by
  obtain ⟨c, len, cap, rfl, g1, g2, g3⟩ := id hv
  have m1 : len ≤ 9223372036854775807 := by unfold maxLen at g2; omega
  clear g2 g3
  refine calls_hide fun R HR => ?_
  go_enter Try.func4, Try.ntmps4
  go_wp2_with fail
  all_goals first
    | (try go_returns
       exact HR.out _ _ ⟨rfl, bbel⟩)
    | skip
  refine (S_DrawChgOk _ _ hv).mono ?_
  rintro _ w1 ⟨⟨x, v1, v2, rfl, s1, s2, n1, n2, n3, i1, i2, i3⟩, h1⟩
  have h1s := (h1).size; (try simp only [World.size_alloc, World.size_setCell, World.size_drew] at h1s)
  obtain ⟨va, vn, vc, rfl⟩ := s1.form
  obtain ⟨ua, un, uc, rfl⟩ := s2.form
  obtain ⟨ok, hok⟩ : ∃ z, chgOk x = z := ⟨_, rfl⟩
  have b1 : x.fName.size ≤ maxLen := by unfold maxLen; omega
  have b2 : x.fClass.fName.size ≤ maxLen := by unfold maxLen; omega
  have b3 : x.fClass.fSuper.size ≤ maxLen := by unfold maxLen; omega
  have CI : Hid (∀ W, Below w1.heap.size w1 W → Calls Try.prog 20 #[.agg #[.int .i64 x.fKind, .int .i64 x.fKeeper, .string x.fName, .int .i64 x.fTo, .string x.fClass.fName, .string x.fClass.fSuper, .slice va vn vc, .slice ua un uc]] W fun e w' => e = .returned (.bool ok) ∧ Below W.heap.size W w') := Lib.hid fun W hW => by
    rw [← hok]; exact I_ChgOk x _ _ W ((s1.low rClsField_good (Nat.zero_le _)).stays rClsField_good (Keeps.of_below hW)) ((s2.low rClsMethod_good (Nat.zero_le _)).stays rClsMethod_good (Keeps.of_below hW)) b1 b2 b3
  have CS : Hid (∀ W, Below w1.heap.size w1 W → Calls Try.prog 21 #[.agg #[.int .i64 x.fKind, .int .i64 x.fKeeper, .string x.fName, .int .i64 x.fTo, .string x.fClass.fName, .string x.fClass.fSuper, .slice va vn vc, .slice ua un uc]] W fun e w' => e = .returned (.bool ok) ∧ Below W.heap.size W w') := Lib.hid fun W hW => by
    rw [← hok]; exact S_ChgOk x _ _ W ((s1.low rClsField_good (Nat.zero_le _)).stays rClsField_good (Keeps.of_below hW)) ((s2.low rClsMethod_good (Nat.zero_le _)).stays rClsMethod_good (Keeps.of_below hW)) b1 b2 b3
  have CX : Hid (¬ ((x.fName.toList == [122, 122, 122]) = true ∧ (x.fKind == 1) = true) → ∀ W, Calls Try.prog 20 #[.agg #[.int .i64 x.fKind, .int .i64 x.fKeeper, .string x.fName, .int .i64 x.fTo, .string ⟨#[122, 122, 122]⟩, .string ⟨#[]⟩, .slice none 0 0, .slice none 0 0]] W fun e w' => e = .returned (.bool false) ∧ Below W.heap.size W w') := Lib.hid fun hne W => by
    rw [← plain_zzz hne]; exact I_ChgOk (withZzz x) _ _ W Sl.nil0 Sl.nil0 b1 (by show nZzz.size ≤ maxLen; decide) (Nat.zero_le _)
  have HOK := Lib.hid hok
  clear hok s1 s2 n1 n2 n3 b1 b2 b3
  go_wp2_with fail
  refine (CI.out _ (bbel)).mono ?_
  rintro _ w2 ⟨rfl, h2⟩
  have h2s := (h2).size; (try simp only [World.size_alloc, World.size_setCell, World.size_drew] at h2s)
  obtain ⟨h2pd, h2po, h2pg, h2pp, h2px, h2py⟩ := bf1 (n := w1.heap.size) h2
  go_wp2_with fail
  refine (CS.out _ (bbel)).mono ?_
  rintro _ w3 ⟨rfl, h3⟩
  have h3s := (h3).size; (try simp only [World.size_alloc, World.size_setCell, World.size_drew] at h3s)
  obtain ⟨h3qd, h3qo, h3qg, h3qp, h3qx, h3qy⟩ := bf1 (n := w1.heap.size) h3
  have l1 : w1.heap.size < w3.heap.size := by omega
  cases ok
  · go_wp2_with (go_at_call 18; refine (L_loOkC _).mono ?_; rintro _ w9 ⟨rfl, h9⟩)
    all_goals (try go_returns)
    all_goals exact HR.out _ _ ⟨rfl, bbel⟩
  obtain ⟨k1, k2⟩ := chgOk_keeper HOK.out
  cases hb : (x.fName.toList == [122, 122, 122])
  · have CY := Lib.hid (CX.out (by rw [hb]; simp))
    go_wp2_with fail
    refine (CY.out _).mono ?_
    rintro _ w4 ⟨rfl, h4⟩
    have h4s := (h4).size; (try simp only [World.size_alloc, World.size_setCell, World.size_drew] at h4s)
    obtain ⟨h4rd, h4ro, h4rg, h4rp, h4rx, h4ry⟩ := bf1 (n := w1.heap.size) h4
    go_wp2
    all_goals (try go_returns)
    all_goals exact HR.out _ _ ⟨rfl, bbel⟩
  · cases hc : (x.fKind == 1)
    · have CY := Lib.hid (CX.out (by rw [hc]; simp))
      go_wp2_with fail
      refine (CY.out _).mono ?_
      rintro _ w4 ⟨rfl, h4⟩
      have h4s := (h4).size; (try simp only [World.size_alloc, World.size_setCell, World.size_drew] at h4s)
      obtain ⟨h4rd, h4ro, h4rg, h4rp, h4rx, h4ry⟩ := bf1 (n := w1.heap.size) h4
      go_wp2
      all_goals (try go_returns)
      all_goals exact HR.out _ _ ⟨rfl, bbel⟩
    · go_wp2
      all_goals (try go_returns)
      all_goals exact HR.out _ _ ⟨rfl, bbel⟩

end Go.Proofs.Ytcdmmnfdnmjnpaa
namespace Go.Proofs.Ytcdmmnfdnmjnpaa
open Go.ChangeShapes Go.WideShapes Go.ChangeAt Go.RowKit Go.Joins
theorem cells_u8 : Try.prog.cellsOf 5 = 1 := by kernel_rfl

set_option maxRecDepth 100000 in
theorem fnChgOk_lifted (os : Os) (started : os.Started) (H : Type) (enc : TypeId × Value → H) :
    ReturnsInHanded {} Try.checked os 4 .any (Rows.fnChgOkSpec.pre6 enc Try.prog Try.f4 Rows.fnChgOkRow.domain false) (Rows.fnChgOkSpec.post enc Try.prog Try.f4 false true false false) := by
  refine returnsInHanded_of_change (C := Try.checked) own started (by kernel_rfl) Try.func4
    (ChangeSpec.witness6 (enc := enc) (C := Try.checked) false ⟨#[], #[.slice none 0 0], []⟩ 8 (by kernel_rfl) (by kernel_rfl) (by kernel_rfl) (by kernel_rfl)) ?_
  intro W base args ds gs before hval0 hW hcnd _
  have hval : ∀ (j : Nat) t v, Try.f4.params[j]? = some t → args[j]? = some v → Value.okWide Try.prog W .any base t v := hval0
  have hW' := hW
  obtain ⟨p, q, hA0, hV, rfl, hfz, hnd⟩ := hW
  have hA : DataW.TrodAll enc Try.prog W 0 (fun _ => true) true Try.f4.params.toList args.toList ds p := hA0
  rw [Try.params4] at hA hval
  clear hA0 hval0
  obtain ⟨v0, d0, rfl, rfl, h0⟩ := trodAll_one hA
  obtain ⟨rfl, rfl⟩ := trodVars_none hV
  have b0 := open_bytes Try.underlying22 Try.underlying5 cells_u8 (hval 0 22 v0 rfl rfl) h0
  refine (L_FnChgOk v0 W b0).mono fun e W' h => ?_
  obtain ⟨rfl, hb⟩ := h
  exact ⟨_, rfl, law_post (s := Rows.fnChgOkSpec) hW' hb rfl rfl rfl Try.underlying4 (by rw [Try.params4]; kernel_rfl)⟩
theorem fnChgOk_holds : Rows.FnChgOkSaid :=
  OpenClaim.holds_of_wide 4 Try.f4 rfl rfl rfl rfl rfl rfl rfl ⟨rfl, rfl, rfl, rfl, rfl⟩ rfl rfl rfl rfl rfl (by kernel_rfl) Try.func4 (by kernel_rfl)
    (of_decide_eq_true (by kernel_rfl)) (by unfold Func.isWrapper; first | (rw [if_pos (by decide +kernel)]; kernel_rfl) | (rw [if_neg (by decide +kernel)]; exact ⟨rfl, rfl⟩))
    (fun os started H enc _ => fnChgOk_lifted os started H enc)

end Go.Proofs.Ytcdmmnfdnmjnpaa
