/-
  Texts of mine, packed: LawLF, RowLF. No condition beside those of the single theorems.
-/
import Derived.Test.YtcdmmnfdnmjnpaaK12
import Derived.Test.YtcdmmnfdnmjnpaaK16
import Derived.Test.YtcdmmnfdnmjnpaaK18
import Derived.Test.YtcdmmnfdnmjnpaaK14
import Derived.Test.YtcdmmnfdnmjnpaaK13
set_option linter.unusedSimpArgs false
set_option linter.unusedVariables false
namespace Go.Proofs.Ytcdmmnfdnmjnpaa
open Go.RowKit
set_option maxRecDepth 100000 in
set_option maxHeartbeats 4000000 in
theorem L_FnLodFind (v : Value) (w : World) (hv : Bytes w v) :
    Calls Try.prog 10 #[v] w fun e w' => e = .returned (.bool true) ∧ Below w.heap.size w w' := by
  obtain ⟨c, len, cap, rfl, g1, g2, g3⟩ := id hv
  have m1 : len ≤ 9223372036854775807 := by unfold maxLen at g2; omega
  clear g2 g3
  refine calls_hide fun R HR => ?_
  go_enter Try.func10, Try.ntmps10
  go_wp2_with fail
  all_goals first
    | (try go_returns
       exact HR.out _ _ ⟨rfl, bbel⟩)
    | skip
  refine (S_DrawLodFind _ _ hv).mono ?_
  rintro _ w1 ⟨⟨pv, pl, k, nm, rfl, hs, hnr, hk1, hk2, hnm⟩, h1⟩
  have h1s := (h1).size; (try simp only [World.size_alloc, World.size_setCell, World.size_drew] at h1s)
  obtain ⟨fa, fl, fc, rfl⟩ := hs.form
  have hn : nm.size ≤ maxLen := by unfold maxLen; omega
  obtain ⟨jw, hjw⟩ : ∃ x, lodFind pl k nm = x := ⟨_, rfl⟩
  obtain ⟨ok, hok⟩ : ∃ x, lodOk pl = x := ⟨_, rfl⟩
  have PF := plain_find pl k nm
  rw [hjw] at PF
  have CG : Hid (∀ (W : World) (i : Int) (s : ByteArray), s.size ≤ maxLen → Below w1.heap.size w1 W → Calls Try.prog 29 #[.agg #[.slice fa fl fc], .int .i64 i, .string s] W fun e w' => e = .returned (refT (lodFind pl i s)) ∧ Below W.heap.size W w') := Lib.hid fun W i s hs9 hW => I_LodFind pl _ i s W (hs.stays rLodKeeper_good (Keeps.of_below' hW (Nat.le_refl _))) hs9
  have CI : Hid (∀ W, Below w1.heap.size w1 W → Calls Try.prog 29 #[.agg #[.slice fa fl fc], .int .i64 k, .string nm] W fun e w' => e = .returned (refT jw) ∧ Below W.heap.size W w') := Lib.hid fun W hW => by rw [← hjw]; exact CG.out W k nm hn hW
  have CS : Hid (∀ W, Below w1.heap.size w1 W → Calls Try.prog 35 #[.agg #[.slice fa fl fc], .int .i64 k, .string nm] W fun e w' => e = .returned (refT jw) ∧ Below W.heap.size W w') := Lib.hid fun W hW => by rw [← hjw]; exact S_LodFind pl _ k nm W (hs.stays rLodKeeper_good (Keeps.of_below' hW (Nat.le_refl _))) hn
  have CL : Hid (∀ W, Below w1.heap.size w1 W → Calls Try.prog 27 #[.agg #[.slice fa fl fc]] W fun e w' => e = .returned (.bool ok) ∧ Below W.heap.size W w') := Lib.hid fun W hW => by rw [← hok]; exact S_LodOk pl _ W (hs.stays rLodKeeper_good (Keeps.of_below' hW (Nat.le_refl _)))
  have CM : Hid (∀ W, Below w1.heap.size w1 W → Calls Try.prog 26 #[.agg #[.slice fa fl fc]] W fun e w' => e = .returned (.bool ok) ∧ Below W.heap.size W w') := Lib.hid fun W hW => by rw [← hok]; exact I_LodOk pl _ W (hs.stays rLodKeeper_good (Keeps.of_below' hW (Nat.le_refl _)))
  have LO := L_loOf pl _ jw.1 w1 hs
  obtain ⟨⟨rk, rn⟩, cd⟩ := jw
  unfold refT at CI CS
  dsimp only at CI CS PF
  obtain ⟨lv, ⟨la1, ll1, lc1, la2, ll2, lc2, rfl⟩, LO⟩ := LO
  have HPF := Lib.hid PF
  have HJ := Lib.hid hjw
  clear hs hjw hok PF hnr
  go_wp2_with fail
  refine (CI.out _ (bbel)).mono ?_
  rintro _ w2 ⟨rfl, h2⟩
  have h2s := (h2).size; (try simp only [World.size_alloc, World.size_setCell, World.size_drew] at h2s)
  obtain ⟨h2pd, h2po, h2pg, h2pp, h2px, h2py⟩ := bf1 (n := w1.heap.size) h2
  go_wp2_with fail
  refine (CS.out _ (bbel)).mono ?_
  rintro _ w3 ⟨rfl, h3⟩
  have h3s := (h3).size; (try simp only [World.size_alloc, World.size_setCell, World.size_drew] at h3s)
  obtain ⟨h3pd, h3po, h3pg, h3pp, h3px, h3py⟩ := bf1 (n := w1.heap.size) h3
  obtain ⟨h3qd, h3qo, h3qg, h3qp, h3qx, h3qy⟩ := bf1 (n := w2.heap.size) h3
  go_wp2_with fail
  obtain ⟨w4, hw4⟩ : ∃ w4, w4 = w3.alloc (.cells #[.int .i64 rk, .string rn] 60) := ⟨_, rfl⟩
  rw [← hw4]
  have hs4 : w4.heap.size = w3.heap.size + 1 := by rw [hw4]; simp
  have hB4 : Below w1.heap.size w1 w4 := by rw [hw4]; exact bbel
  have c0 : w4.cell? ⟨w1.heap.size, 0, none⟩ = some (.slice fa fl fc) := by rw [hw4]; go_simp
  have c1 : w4.cell? ⟨w2.heap.size, 0, none⟩ = some (.int .i64 rk) := by rw [hw4]; go_simp
  have c2 : w4.cell? ⟨w2.heap.size, 1, none⟩ = some (.string rn) := by rw [hw4]; go_simp
  have c3 : w4.cell? ⟨w3.heap.size, 0, none⟩ = some (.int .i64 rk) := by rw [hw4]; go_simp
  have c4 : w4.cell? ⟨w3.heap.size, 1, none⟩ = some (.string rn) := by rw [hw4]; go_simp
  have RF : ∀ y : In w4, Calls Try.prog 26 #[.agg #[.slice fa fl fc]] y.x fun e w' => e = .returned (.bool ok) ∧ Below y.x.heap.size y.x w' := fun y => CM.out _ (hB4.trans (y.h.mono hB4.size))
  have RS : ∀ y : In w4, Calls Try.prog 27 #[.agg #[.slice fa fl fc]] y.x fun e w' => e = .returned (.bool ok) ∧ Below y.x.heap.size y.x w' := fun y => CL.out _ (hB4.trans (y.h.mono hB4.size))
  clear hw4 h2pd h2pg h2py h3pd h3pg h3py h3qd h3qg h3qy h2 h3
  have y0 := In.cell c0
  have y1 := In.cell c1
  have y2 := In.cell c2
  have y3 := In.cell c3
  have y4 := In.cell c4
  refine wp_region_in (by kernel_rfl) (by kernel_rfl) ?_
  repeat (go_big_quiet_step (first | (go_at_call 26; exact Calls.ins (RF _)) | (go_at_call 27; exact Calls.ins (RS _))))
  refine wpQuiet_nil ?_
  rintro wZ ⟨⟨wE, hwE⟩, hq⟩
  obtain rfl : wE = wZ := hq.symm
  clear hq
  have hwEs := hwE.size
  (try dsimp only)
  have z0 := keep_cell hwE c0
  have z1 := keep_cell hwE c1
  have z2 := keep_cell hwE c2
  have hBEs : w1.heap.size ≤ wE.heap.size := (hB4.trans (hwE.mono hB4.size)).size
  clear y0 y1 y2 y3 y4 c0 c1 c2 c3 c4 RF RS
  by_cases hcd : cd = 1
  · subst hcd
    obtain ⟨p1, p2, p3⟩ := HPF.out.1 rfl
    subst p2
    have CA : Hid (∀ W, Below w1.heap.size w1 W → Calls Try.prog 29 #[.agg #[.slice fa fl fc], .int .i64 rk, .string rn] W fun e w' => e = .returned (.tuple #[.agg #[.int .i64 rk, .string rn], .int .i64 1]) ∧ Below W.heap.size W w') := Lib.hid fun W hW => by have := CG.out W rk rn hn hW; rw [p1] at this; exact this
    have CB : Hid (∀ W, Below w1.heap.size w1 W → Calls Try.prog 31 #[.agg #[.slice fa fl fc], .agg #[.int .i64 rk, .string rn]] W fun e w' => e = .returned (.agg #[.string rn, .string (loOfP pl ⟨rk, rn⟩).fSuper, .slice la1 ll1 lc1, .slice la2 ll2 lc2]) ∧ Below W.heap.size W w') := Lib.hid fun W hW => by have := LO W hW; rw [p3] at this; exact this
    obtain ⟨su, hsu⟩ : ∃ s, (loOfP pl ⟨rk, rn⟩).fSuper = s := ⟨_, rfl⟩
    rw [hsu] at CB
    clear p1 p3 hsu LO
    go_wp2_with fail
    refine (CA.out _ (bbel)).mono ?_
    rintro _ w5 ⟨rfl, h5⟩
    have h5s := (h5).size; (try simp only [World.size_alloc, World.size_setCell, World.size_drew] at h5s)
    have u0 := keep_cell h5 z0
    have u1 := keep_cell h5 z1
    have u2 := keep_cell h5 z2
    have l0 := block_lt_of_cell u0
    have l1 := block_lt_of_cell u1
    simp only at l0 l1
    go_wp2_with fail
    refine (CB.out _ (bbel)).mono ?_
    rintro _ w6 ⟨rfl, h6⟩
    have h6s := (h6).size; (try simp only [World.size_alloc, World.size_setCell, World.size_drew] at h6s)
    have hfld : ∀ W, (Instr.field 37 (.agg #[.string rn, .string su, .slice la1 ll1 lc1, .slice la2 ll2 lc2]) 0).run Try.prog W = .ok (.string rn) W := fun _ => by kernel_rfl
    simp only [hfld, Result.andThen]
    go_wp2
    all_goals (try go_returns)
    all_goals exact HR.out _ _ ⟨rfl, bbel⟩
  · obtain ⟨p1, p2, p3⟩ := HPF.out.2 hcd
    cases p1
    go_wp2
    all_goals (try go_returns)
    all_goals exact HR.out _ _ ⟨rfl, bbel⟩

end Go.Proofs.Ytcdmmnfdnmjnpaa
namespace Go.Proofs.Ytcdmmnfdnmjnpaa
open Go.ChangeShapes Go.WideShapes Go.ChangeAt Go.RowKit Go.Joins
theorem cells_u8 : Try.prog.cellsOf 5 = 1 := by kernel_rfl

set_option maxRecDepth 100000 in
theorem fnLodFind_lifted (os : Os) (started : os.Started) (H : Type) (enc : TypeId × Value → H) :
    ReturnsInHanded {} Try.checked os 10 .any (Rows.fnLodFindSpec.pre6 enc Try.prog Try.f10 Rows.fnLodFindRow.domain false) (Rows.fnLodFindSpec.post enc Try.prog Try.f10 false true false false) := by
  refine returnsInHanded_of_change (C := Try.checked) own started (by kernel_rfl) Try.func10
    (ChangeSpec.witness6 (enc := enc) (C := Try.checked) false ⟨#[], #[.slice none 0 0], []⟩ 8 (by kernel_rfl) (by kernel_rfl) (by kernel_rfl) (by kernel_rfl)) ?_
  intro W base args ds gs before hval0 hW hcnd _
  have hval : ∀ (j : Nat) t v, Try.f10.params[j]? = some t → args[j]? = some v → Value.okWide Try.prog W .any base t v := hval0
  have hW' := hW
  obtain ⟨p, q, hA0, hV, rfl, hfz, hnd⟩ := hW
  have hA : DataW.TrodAll enc Try.prog W 0 (fun _ => true) true Try.f10.params.toList args.toList ds p := hA0
  rw [Try.params10] at hA hval
  clear hA0 hval0
  obtain ⟨v0, d0, rfl, rfl, h0⟩ := trodAll_one hA
  obtain ⟨rfl, rfl⟩ := trodVars_none hV
  have b0 := open_bytes Try.underlying22 Try.underlying5 cells_u8 (hval 0 22 v0 rfl rfl) h0
  refine (L_FnLodFind v0 W b0).mono fun e W' h => ?_
  obtain ⟨rfl, hb⟩ := h
  exact ⟨_, rfl, law_post (s := Rows.fnLodFindSpec) hW' hb rfl rfl rfl Try.underlying4 (by rw [Try.params10]; kernel_rfl)⟩
theorem fnLodFind_holds : Rows.FnLodFindSaid :=
  OpenClaim.holds_of_wide 10 Try.f10 rfl rfl rfl rfl rfl rfl rfl ⟨rfl, rfl, rfl, rfl, rfl⟩ rfl rfl rfl rfl rfl (by kernel_rfl) Try.func10 (by kernel_rfl)
    (of_decide_eq_true (by kernel_rfl)) (by unfold Func.isWrapper; first | (rw [if_pos (by decide +kernel)]; kernel_rfl) | (rw [if_neg (by decide +kernel)]; exact ⟨rfl, rfl⟩))
    (fun os started H enc _ => fnLodFind_lifted os started H enc)

end Go.Proofs.Ytcdmmnfdnmjnpaa
