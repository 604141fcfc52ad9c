/-
  Texts of mine, packed: LawQ, RowQ. No condition beside those of the single theorems.
-/
import Derived.Test.YtcdmmnfdnmjnpaaK12
import Derived.Test.YtcdmmnfdnmjnpaaK19
import Derived.Test.YtcdmmnfdnmjnpaaK13
set_option linter.unusedSimpArgs false
set_option linter.unusedVariables false
namespace Go.Proofs.Ytcdmmnfdnmjnpaa
open Go.RowKit
theorem lnkAgree_not {p : DLodPlan} {i j : Int} {k : DKndKind} (h : ¬ (lodOk p = true ∧ inPlan p i = true ∧ inPlan p j = true ∧ kndOk k.fKind k.fName = true)) : lnkAgree p i j k = false := by
  cases hx : lnkAgree p i j k
  · rfl
  · unfold lnkAgree at hx
    simp only [Bool.and_eq_true] at hx
    exact absurd ⟨hx.1.1.1.1, hx.1.1.1.2, hx.1.1.2, hx.1.2⟩ h
theorem inPlan_iff {p : DLodPlan} {i : Int} : inPlan p i = true ↔ 0 ≤ i ∧ i < (p.fKeepers.length : Int) := by
  unfold inPlan
  simp

set_option maxRecDepth 100000 in
set_option maxHeartbeats 4000000 in
theorem L_FnLnkAgree (v : Value) (w : World) (hv : Bytes w v) :
    Calls Try.prog 11 #[v] w fun e w' => e = .returned (.bool true) ∧ Below w.heap.size w w' := by
  obtain ⟨c, len, cap, rfl, g1, g2, g3⟩ := id hv
  have m1 : len ≤ 9223372036854775807 := by unfold maxLen at g2; omega
  clear g2 g3
  refine calls_hide fun R HR => ?_
  go_enter Try.func11, Try.ntmps11
  go_wp2_with fail
  all_goals first
    | (try go_returns
       exact HR.out _ _ ⟨rfl, bbel⟩)
    | skip
  refine (S_DrawLnkAgree _ _ hv).mono ?_
  rintro _ w1 ⟨⟨pv, pl, a, b, kk, kn, rfl, hs, ha1, ha2, hb1, hb2, hkn⟩, h1⟩
  have h1s := (h1).size; (try simp only [World.size_alloc, World.size_setCell, World.size_drew] at h1s)
  obtain ⟨fa, fl, fc, rfl⟩ := hs.form
  obtain ⟨hfl, hfc, hfm⟩ := hs.len
  have hfm' : fl ≤ 9223372036854775807 := by unfold maxLen at hfm; omega
  have hn : kn.size ≤ maxLen := by unfold maxLen; omega
  have CI : Hid (∀ (W : World) (i j : Int), Below w1.heap.size w1 W → Calls Try.prog 37 #[.agg #[.slice fa fl fc], .int .i64 i, .int .i64 j, .agg #[.int .i64 kk, .string kn]] W fun e w' => e = .returned (.bool (lnkAgree pl i j ⟨kk, kn⟩)) ∧ Below W.heap.size W w') := Lib.hid fun W i j hW => I_LnkAgree pl _ i j ⟨kk, kn⟩ W (hs.stays rLodKeeper_good (Keeps.of_below' hW (Nat.le_refl _))) hn
  obtain ⟨x, hx⟩ : ∃ x, lnkAgree pl a b ⟨kk, kn⟩ = x := ⟨_, rfl⟩
  obtain ⟨ok, hok⟩ : ∃ x, lodOk pl = x := ⟨_, rfl⟩
  obtain ⟨ko, hko⟩ : ∃ x, kndOk kk kn = x := ⟨_, rfl⟩
  have CX : Hid (∀ W, Below w1.heap.size w1 W → Calls Try.prog 37 #[.agg #[.slice fa fl fc], .int .i64 a, .int .i64 b, .agg #[.int .i64 kk, .string kn]] W fun e w' => e = .returned (.bool x) ∧ Below W.heap.size W w') := Lib.hid fun W hW => by rw [← hx]; exact CI.out W a b hW
  have CY : Hid (∀ W, Below w1.heap.size w1 W → Calls Try.prog 37 #[.agg #[.slice fa fl fc], .int .i64 b, .int .i64 a, .agg #[.int .i64 kk, .string kn]] W fun e w' => e = .returned (.bool x) ∧ Below W.heap.size W w') := Lib.hid fun W hW => by rw [← hx, lnkAgree_comm]; exact CI.out W b a hW
  have CS : Hid (∀ W, Below w1.heap.size w1 W → Calls Try.prog 38 #[.agg #[.slice fa fl fc], .int .i64 a, .int .i64 b, .agg #[.int .i64 kk, .string kn]] W fun e w' => e = .returned (.bool x) ∧ Below W.heap.size W w') := Lib.hid fun W hW => by rw [← hx]; exact S_LnkAgree pl _ a b ⟨kk, kn⟩ W (hs.stays rLodKeeper_good (Keeps.of_below' hW (Nat.le_refl _))) hn
  have CL : Hid (∀ W, Below w1.heap.size w1 W → Calls Try.prog 27 #[.agg #[.slice fa fl fc]] W fun e w' => e = .returned (.bool ok) ∧ Below W.heap.size W w') := Lib.hid fun W hW => by rw [← hok]; exact S_LodOk pl _ W (hs.stays rLodKeeper_good (Keeps.of_below' hW (Nat.le_refl _)))
  have CK : Hid (∀ W, Calls Try.prog 39 #[.agg #[.int .i64 kk, .string kn]] W fun e w' => e = .returned (.bool ko) ∧ Below W.heap.size W w') := Lib.hid fun W => by rw [← hko]; exact S_KndOk kk kn W hn
  have HX := Lib.hid hx
  have HOK := Lib.hid hok
  have HKO := Lib.hid hko
  have HFL := Lib.hid hfl
  clear hs hx hok hko hfl
  go_wp2_with fail
  refine (CX.out _ (bbel)).mono ?_
  rintro _ w2 ⟨rfl, h2⟩
  have h2s := (h2).size; (try simp only [World.size_alloc, World.size_setCell, World.size_drew] at h2s)
  obtain ⟨h2pd, h2po, h2pg, h2pp, h2px, h2py, h2pc1, h2pf1, h2pz1⟩ := bf2 (n := w1.heap.size) h2
  go_wp2_with fail
  refine (CS.out _ (bbel)).mono ?_
  rintro _ w3 ⟨rfl, h3⟩
  have h3s := (h3).size; (try simp only [World.size_alloc, World.size_setCell, World.size_drew] at h3s)
  obtain ⟨h3pd, h3po, h3pg, h3pp, h3px, h3py, h3pc1, h3pf1, h3pz1⟩ := bf2 (n := w1.heap.size) h3
  go_wp2_with fail
  refine (CY.out _ (bbel)).mono ?_
  rintro _ w4 ⟨rfl, h4⟩
  have h4s := (h4).size; (try simp only [World.size_alloc, World.size_setCell, World.size_drew] at h4s)
  obtain ⟨h4pd, h4po, h4pg, h4pp, h4px, h4py, h4pc1, h4pf1, h4pz1⟩ := bf2 (n := w1.heap.size) h4
  go_wp2_with fail
  refine (CL.out _ (bbel)).mono ?_
  rintro _ w5 ⟨rfl, h5⟩
  have h5s := (h5).size; (try simp only [World.size_alloc, World.size_setCell, World.size_drew] at h5s)
  obtain ⟨h5pd, h5po, h5pg, h5pp, h5px, h5py, h5pc1, h5pf1, h5pz1⟩ := bf2 (n := w1.heap.size) h5
  cases ok
  · obtain rfl : x = false := by rw [← HX.out]; exact lnkAgree_not fun h => by rw [HOK.out] at h; cases h.1
    go_wp2_with (go_at_call 18; refine (L_loOk' _).mono ?_; rintro _ w9 ⟨rfl, h9⟩)
    all_goals (try go_returns)
    all_goals exact HR.out _ _ ⟨rfl, bbel⟩
  by_cases a0 : a < 0
  · obtain rfl : x = false := by rw [← HX.out]; exact lnkAgree_not fun h => by have := (inPlan_iff.1 h.2.1).1; omega
    go_wp2_with (go_at_call 18; refine (L_loOk' _).mono ?_; rintro _ w9 ⟨rfl, h9⟩)
    all_goals (try go_returns)
    all_goals exact HR.out _ _ ⟨rfl, bbel⟩
  by_cases a1 : (fl : Int) ≤ a
  · obtain rfl : x = false := by rw [← HX.out]; exact lnkAgree_not fun h => by have := (inPlan_iff.1 h.2.1).2; rw [HFL.out] at this; omega
    go_wp2_with (go_at_call 18; refine (L_loOk' _).mono ?_; rintro _ w9 ⟨rfl, h9⟩)
    all_goals (try go_returns)
    all_goals exact HR.out _ _ ⟨rfl, bbel⟩
  have b0 : ¬ b < 0 := by omega
  by_cases b1 : (fl : Int) ≤ b
  · obtain rfl : x = false := by rw [← HX.out]; exact lnkAgree_not fun h => by have := (inPlan_iff.1 h.2.2.1).2; rw [HFL.out] at this; omega
    go_wp2_with (go_at_call 18; refine (L_loOk' _).mono ?_; rintro _ w9 ⟨rfl, h9⟩)
    all_goals (try go_returns)
    all_goals exact HR.out _ _ ⟨rfl, bbel⟩
  go_wp2_with fail
  refine (CK.out _).mono ?_
  rintro _ w6 ⟨rfl, h6⟩
  have h6s := (h6).size; (try simp only [World.size_alloc, World.size_setCell, World.size_drew] at h6s)
  obtain ⟨h6pd, h6po, h6pg, h6pp, h6px, h6py, h6pc1, h6pf1, h6pz1⟩ := bf2 (n := w1.heap.size) h6
  cases ko
  · obtain rfl : x = false := by rw [← HX.out]; exact lnkAgree_not fun h => by rw [HKO.out] at h; cases h.2.2.2
    go_wp2_with (go_at_call 18; refine (L_loOk' _).mono ?_; rintro _ w9 ⟨rfl, h9⟩)
    all_goals (try go_returns)
    all_goals exact HR.out _ _ ⟨rfl, bbel⟩
  have IA : Hid (inPlan pl a = true) := Lib.hid (inPlan_iff.2 ⟨by omega, by rw [HFL.out]; omega⟩)
  have IB : Hid (inPlan pl b = true) := Lib.hid (inPlan_iff.2 ⟨by omega, by rw [HFL.out]; omega⟩)
  have q0 : w6.cell? ⟨w1.heap.size, 0, none⟩ = some (.slice fa fl fc) := by go_simp
  have q1 : w6.cell? ⟨w1.heap.size + 1, 0, none⟩ = some (.int .i64 kk) := by go_simp
  have q2 : w6.cell? ⟨w1.heap.size + 1, 1, none⟩ = some (.string kn) := by go_simp
  have hB6 : Below w1.heap.size w1 w6 := bbel
  clear h2pd h2pg h2py h3pd h3pg h3py h4pd h4pg h4py h5pd h5pg h5py h6pd h6pg h6py h2 h3 h4 h5 h6
  go_wp2_with fail
  go_loopw [8] (fun zi wr => ∃ k : Nat, k ≤ fl ∧ zi = .int .i64 k ∧ Below w6.heap.size w6 wr) (fun zi _ => fl - (intOf zi).toNat)
  case atStart => exact ⟨0, by omega, rfl, bbel⟩
  case round =>
    obtain ⟨k, hk, rfl, hb⟩ := hrel
    have hbs := hb.size
    have r0 := keep_cell hb q0
    have r1 := keep_cell hb q1
    have r2 := keep_cell hb q2
    have hBs : w1.heap.size ≤ wr.heap.size := (hB6.trans (hb.mono hB6.size)).size
    by_cases hkl : (k : Int) < (fl : Int)
    · have hk9 : IntKind.i64.wrap ((k : Int) + 1) = (k : Int) + 1 := IntWalk.i64_in _ (by omega)
      cases x
      · go_wp2
        go_roundw
        case measure => simp [intOf]; omega
        case rel => exact ⟨k + 1, by omega, by go_num, bbel⟩
      · obtain ⟨z, hz⟩ : ∃ z, lnkAgree pl b (k : Int) ⟨kk, kn⟩ = z := ⟨_, rfl⟩
        have CZ : Hid (∀ W, Below w1.heap.size w1 W → Calls Try.prog 37 #[.agg #[.slice fa fl fc], .int .i64 b, .int .i64 (k : Int), .agg #[.int .i64 kk, .string kn]] W fun e w' => e = .returned (.bool z) ∧ Below W.heap.size W w') := Lib.hid fun W hW => by rw [← hz]; exact CI.out W b k hW
        have HZ := Lib.hid hz
        clear hz
        go_wp2_with fail
        refine (CZ.out _ (bbel)).mono ?_
        rintro _ w7 ⟨rfl, h7⟩
        have h7s := (h7).size; (try simp only [World.size_alloc, World.size_setCell, World.size_drew] at h7s)
        have s0 := keep_cell h7 r0
        have s1 := keep_cell h7 r1
        have s2 := keep_cell h7 r2
        cases z
        · go_wp2
          go_roundw
          case measure => simp [intOf]; omega
          case rel => exact ⟨k + 1, by omega, by go_num, bbel⟩
        · have CT : Hid (∀ W, Below w1.heap.size w1 W → Calls Try.prog 37 #[.agg #[.slice fa fl fc], .int .i64 a, .int .i64 (k : Int), .agg #[.int .i64 kk, .string kn]] W fun e w' => e = .returned (.bool true) ∧ Below W.heap.size W w') := Lib.hid fun W hW => by rw [← lnkAgree_trans HX.out HZ.out]; exact CI.out W a k hW
          go_wp2_with fail
          refine (CT.out _ (bbel)).mono ?_
          rintro _ w8 ⟨rfl, h8⟩
          have h8s := (h8).size; (try simp only [World.size_alloc, World.size_setCell, World.size_drew] at h8s)
          go_wp2
          go_roundw
          case measure => simp [intOf]; omega
          case rel => exact ⟨k + 1, by omega, by go_num, bbel⟩
    · have CA : Hid (∀ W, Below w1.heap.size w1 W → Calls Try.prog 37 #[.agg #[.slice fa fl fc], .int .i64 a, .int .i64 a, .agg #[.int .i64 kk, .string kn]] W fun e w' => e = .returned (.bool true) ∧ Below W.heap.size W w') := Lib.hid fun W hW => by rw [← lnkAgree_self (k := ⟨kk, kn⟩) HOK.out IA.out HKO.out]; exact CI.out W a a hW
      go_wp2_with fail
      refine (CA.out _ (bbel)).mono ?_
      rintro _ w7 ⟨rfl, h7⟩
      have h7s := (h7).size; (try simp only [World.size_alloc, World.size_setCell, World.size_drew] at h7s)
      have s1 := keep_cell h7 r1
      have s2 := keep_cell h7 r2
      by_cases hk1 : kk = 1
      · obtain rfl : x = true := by rw [← HX.out]; exact lnkAgree_num (k := ⟨kk, kn⟩) HOK.out IA.out IB.out HKO.out hk1
        go_wp2
        all_goals (try go_returns)
        all_goals exact HR.out _ _ ⟨rfl, bbel⟩
      · go_wp2
        all_goals (try go_returns)
        all_goals exact HR.out _ _ ⟨rfl, bbel⟩

end Go.Proofs.Ytcdmmnfdnmjnpaa
namespace Go.Proofs.Ytcdmmnfdnmjnpaa
open Go.ChangeShapes Go.WideShapes Go.ChangeAt Go.RowKit Go.Joins
theorem cells_u8 : Try.prog.cellsOf 5 = 1 := by kernel_rfl

set_option maxRecDepth 100000 in
theorem fnLnkAgree_lifted (os : Os) (started : os.Started) (H : Type) (enc : TypeId × Value → H) :
    ReturnsInHanded {} Try.checked os 11 .any (Rows.fnLnkAgreeSpec.pre6 enc Try.prog Try.f11 Rows.fnLnkAgreeRow.domain false) (Rows.fnLnkAgreeSpec.post enc Try.prog Try.f11 false true false false) := by
  refine returnsInHanded_of_change (C := Try.checked) own started (by kernel_rfl) Try.func11
    (ChangeSpec.witness6 (enc := enc) (C := Try.checked) false ⟨#[], #[.slice none 0 0], []⟩ 8 (by kernel_rfl) (by kernel_rfl) (by kernel_rfl) (by kernel_rfl)) ?_
  intro W base args ds gs before hval0 hW hcnd _
  have hval : ∀ (j : Nat) t v, Try.f11.params[j]? = some t → args[j]? = some v → Value.okWide Try.prog W .any base t v := hval0
  have hW' := hW
  obtain ⟨p, q, hA0, hV, rfl, hfz, hnd⟩ := hW
  have hA : DataW.TrodAll enc Try.prog W 0 (fun _ => true) true Try.f11.params.toList args.toList ds p := hA0
  rw [Try.params11] at hA hval
  clear hA0 hval0
  obtain ⟨v0, d0, rfl, rfl, h0⟩ := trodAll_one hA
  obtain ⟨rfl, rfl⟩ := trodVars_none hV
  have b0 := open_bytes Try.underlying22 Try.underlying5 cells_u8 (hval 0 22 v0 rfl rfl) h0
  refine (L_FnLnkAgree v0 W b0).mono fun e W' h => ?_
  obtain ⟨rfl, hb⟩ := h
  exact ⟨_, rfl, law_post (s := Rows.fnLnkAgreeSpec) hW' hb rfl rfl rfl Try.underlying4 (by rw [Try.params11]; kernel_rfl)⟩
theorem fnLnkAgree_holds : Rows.FnLnkAgreeSaid :=
  OpenClaim.holds_of_wide 11 Try.f11 rfl rfl rfl rfl rfl rfl rfl ⟨rfl, rfl, rfl, rfl, rfl⟩ rfl rfl rfl rfl rfl (by kernel_rfl) Try.func11 (by kernel_rfl)
    (of_decide_eq_true (by kernel_rfl)) (by unfold Func.isWrapper; first | (rw [if_pos (by decide +kernel)]; kernel_rfl) | (rw [if_neg (by decide +kernel)]; exact ⟨rfl, rfl⟩))
    (fun os started H enc _ => fnLnkAgree_lifted os started H enc)

end Go.Proofs.Ytcdmmnfdnmjnpaa
