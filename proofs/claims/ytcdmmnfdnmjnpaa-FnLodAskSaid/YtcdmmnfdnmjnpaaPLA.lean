/-
  Texts of mine, packed: LawLA, RowLA. No condition beside those of the single theorems.
-/
import Derived.Test.YtcdmmnfdnmjnpaaK12
import Derived.Test.YtcdmmnfdnmjnpaaK16
import Derived.Test.YtcdmmnfdnmjnpaaK18
import Derived.Test.YtcdmmnfdnmjnpaaK13
set_option linter.unusedSimpArgs false
set_option linter.unusedVariables false
namespace Go.Proofs.Ytcdmmnfdnmjnpaa
open Go.RowKit
theorem ba_nil {s : ByteArray} (h : s.toList.isEmpty = true) : s = ⟨#[]⟩ := by
  have h2 : s.toList = (⟨#[]⟩ : ByteArray).toList := by
    rw [List.isEmpty_iff.1 h]
    show [] = (ByteArray.empty).toList
    simp
  exact sameN_iff.1 (by unfold sameN; rw [h2]; simp)
theorem nxt_at {p : DLodPlan} {i : Nat} {k : DLodKeeper} (h : p.fKeepers[i]? = some k) (nm : ByteArray) : nxt p nm i = asksOf k.fAsks nm := by unfold nxt; rw [h]
theorem lodFind_out {p : DLodPlan} {k : Int} {nm : ByteArray} (h : ¬ (lodOk p = true ∧ inPlan p k = true ∧ namOk nm = true)) : lodFind p k nm = (noRef, 2) := by
  unfold lodFind
  rw [if_neg fun e => by simp only [Bool.and_eq_true] at e; exact h ⟨e.1.1, e.1.2, e.2⟩]
theorem inPlan_iff {p : DLodPlan} {i : Int} : inPlan p i = true ↔ 0 ≤ i ∧ i < (p.fKeepers.length : Int) := by
  unfold inPlan
  simp

set_option maxRecDepth 100000 in
set_option maxHeartbeats 8000000 in
theorem L_FnLodAsk (v : Value) (w : World) (hv : Bytes w v) :
    Calls Try.prog 8 #[v] w fun e w' => e = .returned (.bool true) ∧ Below w.heap.size w w' := by
  obtain ⟨c, len, cap, rfl, g1, g2, g3⟩ := id hv
  have m1 : len ≤ 9223372036854775807 := by unfold maxLen at g2; omega
  clear g2 g3
  refine calls_hide fun R HR => ?_
  go_enter Try.func8, Try.ntmps8
  go_wp2_with fail
  all_goals first
    | (try go_returns
       exact HR.out _ _ ⟨rfl, bbel⟩)
    | skip
  refine (S_DrawLodFind _ _ hv).mono ?_
  rintro _ w1 ⟨⟨pv, pl, k, nm, rfl, hs, hnr, hk1, hk2, hnm⟩, h1⟩
  have h1s := (h1).size; (try simp only [World.size_alloc, World.size_setCell, World.size_drew] at h1s)
  obtain ⟨fa, fl, fc, rfl⟩ := hs.form
  obtain ⟨hfl, hfc, hfm⟩ := hs.len
  have hfm' : fl ≤ 9223372036854775807 := by unfold maxLen at hfm; omega
  have hn : nm.size ≤ maxLen := by unfold maxLen; omega
  obtain ⟨jw, hjw⟩ : ∃ x, lodFind pl k nm = x := ⟨_, rfl⟩
  obtain ⟨ok, hok⟩ : ∃ x, lodOk pl = x := ⟨_, rfl⟩
  obtain ⟨nn, hnn⟩ : ∃ x, namOk nm = x := ⟨_, rfl⟩
  have CG : Hid (∀ (W : World) (i : Int) (s : ByteArray), s.size ≤ maxLen → Below w1.heap.size w1 W → Calls Try.prog 29 #[.agg #[.slice fa fl fc], .int .i64 i, .string s] W fun e w' => e = .returned (refT (lodFind pl i s)) ∧ Below W.heap.size W w') := Lib.hid fun W i s hs9 hW => I_LodFind pl _ i s W (hs.stays rLodKeeper_good (Keeps.of_below' hW (Nat.le_refl _))) hs9
  have CI : Hid (∀ W, Below w1.heap.size w1 W → Calls Try.prog 29 #[.agg #[.slice fa fl fc], .int .i64 k, .string nm] W fun e w' => e = .returned (refT jw) ∧ Below W.heap.size W w') := Lib.hid fun W hW => by rw [← hjw]; exact CG.out W k nm hn hW
  have CL : Hid (∀ W, Below w1.heap.size w1 W → Calls Try.prog 27 #[.agg #[.slice fa fl fc]] W fun e w' => e = .returned (.bool ok) ∧ Below W.heap.size W w') := Lib.hid fun W hW => by rw [← hok]; exact S_LodOk pl _ W (hs.stays rLodKeeper_good (Keeps.of_below' hW (Nat.le_refl _)))
  have CN : Hid (∀ W, Calls Try.prog 30 #[.string nm] W fun e w' => e = .returned (.bool nn) ∧ W = w') := Lib.hid fun W => by rw [← hnn]; exact S_NamOk nm W hn
  have LO := L_loOf pl _ ⟨k, nm⟩ w1 hs
  obtain ⟨lv, ⟨la1, ll1, lc1, la2, ll2, lc2, rfl⟩, LO⟩ := LO
  obtain ⟨⟨rk, rn⟩, cd⟩ := jw
  unfold refT at CI
  dsimp only at CI LO
  have HJ := Lib.hid hjw
  have HOK := Lib.hid hok
  have HNN := Lib.hid hnn
  have HFL := Lib.hid hfl
  have HS := Lib.hid hs
  clear hs hjw hok hnr hnn hfl
  go_wp2_with fail
  refine (CL.out _ (bbel)).mono ?_
  rintro _ w2 ⟨rfl, h2⟩
  have h2s := (h2).size; (try simp only [World.size_alloc, World.size_setCell, World.size_drew] at h2s)
  obtain ⟨h2pd, h2po, h2pg, h2pp, h2px, h2py⟩ := bf1 (n := w1.heap.size) h2
  cases ok
  · have HX := HJ.out.symm.trans (lodFind_out fun h => by rw [HOK.out] at h; cases h.1)
    cases HX
    go_wp2_with fail
    refine (CI.out _ (bbel)).mono ?_
    rintro _ w5 ⟨rfl, h5⟩
    have h5s := (h5).size; (try simp only [World.size_alloc, World.size_setCell, World.size_drew] at h5s)
    go_wp2
    all_goals (try go_returns)
    all_goals exact HR.out _ _ ⟨rfl, bbel⟩
  by_cases a0 : k < 0
  · have HX := HJ.out.symm.trans (lodFind_out fun h => by have := (inPlan_iff.1 h.2.1).1; omega)
    cases HX
    go_wp2_with fail
    refine (CI.out _ (bbel)).mono ?_
    rintro _ w5 ⟨rfl, h5⟩
    have h5s := (h5).size; (try simp only [World.size_alloc, World.size_setCell, World.size_drew] at h5s)
    go_wp2
    all_goals (try go_returns)
    all_goals exact HR.out _ _ ⟨rfl, bbel⟩
  by_cases a1 : (fl : Int) ≤ k
  · have HX := HJ.out.symm.trans (lodFind_out fun h => by have := (inPlan_iff.1 h.2.1).2; rw [HFL.out] at this; omega)
    cases HX
    go_wp2_with fail
    refine (CI.out _ (bbel)).mono ?_
    rintro _ w5 ⟨rfl, h5⟩
    have h5s := (h5).size; (try simp only [World.size_alloc, World.size_setCell, World.size_drew] at h5s)
    go_wp2
    all_goals (try go_returns)
    all_goals exact HR.out _ _ ⟨rfl, bbel⟩
  go_wp2_with fail
  refine (CN.out _).mono ?_
  rintro _ _ ⟨rfl, rfl⟩
  cases nn
  · have HX := HJ.out.symm.trans (lodFind_out fun h => by rw [HNN.out] at h; cases h.2.2)
    cases HX
    go_wp2_with fail
    refine (CI.out _ (bbel)).mono ?_
    rintro _ w5 ⟨rfl, h5⟩
    have h5s := (h5).size; (try simp only [World.size_alloc, World.size_setCell, World.size_drew] at h5s)
    go_wp2
    all_goals (try go_returns)
    all_goals exact HR.out _ _ ⟨rfl, bbel⟩
  obtain ⟨i, rfl⟩ : ∃ i : Nat, k = (i : Int) := ⟨k.toNat, by omega⟩
  have hi : i < fl := by omega
  have hi2 : (i : Int) < (fl : Int) := by omega
  obtain ⟨x1, x2, x3, x4, x5, x6, x7, h3⟩ := id HS.out
  cases x4
  obtain ⟨b, off, rfl, hlo, hbl, hr⟩ := h3 (by omega)
  obtain ⟨kp, cs, e0, e1, e2, e3⟩ := hr i hi
  obtain ⟨v1, v2, rfl, t1, t2⟩ := e3
  obtain ⟨xa1, xl1, xc1, rfl⟩ := t1.form
  obtain ⟨ya, yl, yc, rfl, yh, yc1, yc2, y3⟩ := id t2
  have my : yl ≤ 9223372036854775807 := by unfold maxLen at yc2; omega
  have PA := plain_ask HOK.out (i := i) (nm := nm) (by rw [HFL.out]; exact hi) HNN.out
  rw [HJ.out, nxt_at e0] at PA
  have HPA := Lib.hid PA
  have q1 : w1.cell? ⟨b, off + i * 2, none⟩ = some (.slice xa1 xl1 xc1) := e2 0 _ rfl
  have q2 : w1.cell? ⟨b, off + i * 2 + 1, none⟩ = some (.slice ya yl yc) := e2 1 _ rfl
  have YH := Lib.hid yh
  have HKP := Lib.hid e0
  clear e0 e1 e2 hr t1 t2 yh yc1 yc2 h3 PA x7 x6 x5
  have u0 : w2.cell? ⟨w1.heap.size, 0, none⟩ = some (.slice (some ⟨b, off, none⟩) fl fc) := by go_simp
  have hB2 : Below w1.heap.size w1 w2 := bbel
  go_wp2_with fail
  refine (CI.out _ (bbel)).mono ?_
  rintro _ w3 ⟨rfl, h3⟩
  have h3s := (h3).size; (try simp only [World.size_alloc, World.size_setCell, World.size_drew] at h3s)
  replace u0 := keep_cell h3 u0
  have hl1 := block_lt_of_cell u0
  simp only at hl1
  have hB3 : Below w1.heap.size w1 w3 := hB2.trans (h3.mono hB2.size)
  clear h2pd h2pg h2py
  go_wp2_with fail
  obtain ⟨wE, hwE⟩ : ∃ wE, wE = w3.alloc (.cells #[.int .i64 rk, .string rn] 60) := ⟨_, rfl⟩
  rw [← hwE]
  have hBE : Below w1.heap.size w1 wE := by rw [hwE]; exact hB3.alloc hB3.size _
  have hsE : wE.heap.size = w3.heap.size + 1 := by rw [hwE]; simp
  have c0 : wE.cell? ⟨w1.heap.size, 0, none⟩ = some (.slice (some ⟨b, off, none⟩) fl fc) := by rw [hwE]; go_simp
  have c1 : wE.cell? ⟨w3.heap.size, 0, none⟩ = some (.int .i64 rk) := by rw [hwE]; go_simp
  have c2 : wE.cell? ⟨w3.heap.size, 1, none⟩ = some (.string rn) := by rw [hwE]; go_simp
  clear hwE u0 h2 h3
  go_loopw [10] (fun y wr => ∃ j : Nat, j ≤ yl ∧ y = .int .i64 j ∧ EachTo (nots fun c : DLodAsk => sameN c.fName nm) kp.fAsks j = true ∧ Below wE.heap.size wE wr) (fun z _ => yl - (intOf z).toNat)
  case atStart => exact ⟨0, Nat.zero_le _, rfl, rfl, bbel⟩
  case round =>
    obtain ⟨j, hj, rfl, ha, hb⟩ := hrel
    have HA := Lib.hid ha
    clear ha
    have hbs := hb.size
    have r0 := keep_cell hb c0
    have r1 := keep_cell hb c1
    have r2 := keep_cell hb c2
    have q1r := keep_cell (hBE.trans (hb.mono hBE.size)) q1
    have q2r := keep_cell (hBE.trans (hb.mono hBE.size)) q2
    have hblr : b < wr.heap.size := Nat.lt_of_lt_of_le hbl (hBE.trans (hb.mono hBE.size)).size
    have hbs1 := (hBE.trans (hb.mono hBE.size)).size
    have hl1r : w1.heap.size < wr.heap.size := by omega
    have hl3r : w3.heap.size < wr.heap.size := by omega
    by_cases hlt : j < yl
    · obtain ⟨b', off', rfl, _, hbl', hr'⟩ := y3 (by omega)
      obtain ⟨y, cs', g0, g1, g2, g3⟩ := hr' j hlt
      obtain ⟨rfl, bx⟩ := g3
      have p1 : wr.cell? ⟨b', off' + j * 2, none⟩ = some (.string y.fName) := keep_cell (hBE.trans (hb.mono hBE.size)) (g2 0 _ rfl)
      have p2 : wr.cell? ⟨b', off' + j * 2 + 1, none⟩ = some (.int .i64 y.fKeeper) := keep_cell (hBE.trans (hb.mono hBE.size)) (g2 1 _ rfl)
      have hbl2 : b' < wr.heap.size := Nat.lt_of_lt_of_le hbl' (hBE.trans (hb.mono hBE.size)).size
      have G0 := Lib.hid g0
      clear g0 g1 g2 hr'
      cases hx : sameN y.fName nm
      · have HX := Lib.hid hx
        have hx2 : (y.fName.toList == nm.toList) = false := hx
        clear hx
        go_wp2
        go_roundw
        case measure => simp [intOf]; omega
        case rel => exact ⟨j + 1, by omega, by go_num, EachTo.step HA.out G0.out (by simp [nots, HX.out]), bbel⟩
      · have hk9 : asksOf kp.fAsks nm = y.fKeeper := asksOf_hit HA.out G0.out hx
        have hge : 0 ≤ y.fKeeper := by
          rcases Int.lt_or_le y.fKeeper 0 with h | h
          · exfalso
            have hh := each_iff.1 (keeperOk_parts (lodOk_keeper HOK.out HKP.out)).2.2.2 j y G0.out
            simp only [askIn, Bool.and_eq_true, decide_eq_true_eq] at hh
            omega
          · exact h
        have HE := HPA.out.1 (by rw [hk9]; exact hge)
        rw [hk9] at HE
        have CT : Hid (∀ W, Below w1.heap.size w1 W → Calls Try.prog 29 #[.agg #[.slice (some ⟨b, off, none⟩) fl fc], .int .i64 y.fKeeper, .string nm] W fun e w' => e = .returned (.tuple #[.agg #[.int .i64 rk, .string rn], .int .i64 cd]) ∧ Below W.heap.size W w') := Lib.hid fun W hW => by have := CG.out W y.fKeeper nm hn hW; rw [← HE] at this; exact this
        have hx2 : (y.fName.toList == nm.toList) = true := hx
        clear hx HE hk9 hge
        go_wp2_with fail
        refine (CT.out _ (bbel)).mono ?_
        rintro _ w5 ⟨rfl, h5⟩
        have h5s := (h5).size; (try simp only [World.size_alloc, World.size_setCell, World.size_drew] at h5s)
        have s1 := keep_cell h5 (a := ⟨w3.heap.size, 0, none⟩) (v := .int .i64 rk) (by go_simp)
        have s2 := keep_cell h5 (a := ⟨w3.heap.size, 1, none⟩) (v := .string rn) (by go_simp)
        have l3 : w3.heap.size < w5.heap.size := block_lt_of_cell s1
        go_wp2
        all_goals (try go_returns)
        all_goals exact HR.out _ _ ⟨rfl, bbel⟩
    · obtain rfl : j = yl := by omega
      have hk9 : asksOf kp.fAsks nm = -1 := asksOf_miss HA.out YH.out
      have HE := HPA.out.2 (by rw [hk9]; decide)
      by_cases hcd : cd = 1
      · have hrk := HE.1 hcd
        subst hcd
        subst hrk
        clear HE hk9
        go_wp2
        all_goals (try go_returns)
        all_goals exact HR.out _ _ ⟨rfl, bbel⟩
      · rcases HE.2 hcd with ⟨h2, h3⟩ | h2
        · have h4 := ba_nil h3
          have CT : Hid (∀ W, Below w1.heap.size w1 W → Calls Try.prog 31 #[.agg #[.slice (some ⟨b, off, none⟩) fl fc], .agg #[.int .i64 (i : Int), .string nm]] W fun e w' => e = .returned (.agg #[.string ⟨#[]⟩, .string (loOfP pl ⟨(i : Int), nm⟩).fSuper, .slice la1 ll1 lc1, .slice la2 ll2 lc2]) ∧ Below W.heap.size W w') := Lib.hid fun W hW => by have := LO W hW; rw [h4] at this; exact this
          obtain ⟨su, hsu⟩ : ∃ s, (loOfP pl ⟨(i : Int), nm⟩).fSuper = s := ⟨_, rfl⟩
          rw [hsu] at CT
          subst h2
          clear HE hk9 h3 h4 hsu LO hcd
          go_wp2_with fail
          refine (CT.out _ (bbel)).mono ?_
          rintro _ w5 ⟨rfl, h5⟩
          have h5s := (h5).size; (try simp only [World.size_alloc, World.size_setCell, World.size_drew] at h5s)
          have hfld : ∀ W, (Instr.field 37 (.agg #[.string ⟨#[]⟩, .string su, .slice la1 ll1 lc1, .slice la2 ll2 lc2]) 0).run Try.prog W = .ok (.string ⟨#[]⟩) W := fun _ => by kernel_rfl
          (try simp only [hfld, Result.andThen])
          go_wp2
          all_goals (try go_returns)
          all_goals exact HR.out _ _ ⟨rfl, bbel⟩
        · subst h2
          clear HE hk9 hcd
          go_wp2
          all_goals (try go_returns)
          all_goals exact HR.out _ _ ⟨rfl, bbel⟩

end Go.Proofs.Ytcdmmnfdnmjnpaa
namespace Go.Proofs.Ytcdmmnfdnmjnpaa
open Go.ChangeShapes Go.WideShapes Go.ChangeAt Go.RowKit Go.Joins
theorem cells_u8 : Try.prog.cellsOf 5 = 1 := by kernel_rfl

set_option maxRecDepth 100000 in
theorem fnLodAsk_lifted (os : Os) (started : os.Started) (H : Type) (enc : TypeId × Value → H) :
    ReturnsInHanded {} Try.checked os 8 .any (Rows.fnLodAskSpec.pre6 enc Try.prog Try.f8 Rows.fnLodAskRow.domain false) (Rows.fnLodAskSpec.post enc Try.prog Try.f8 false true false false) := by
  refine returnsInHanded_of_change (C := Try.checked) own started (by kernel_rfl) Try.func8
    (ChangeSpec.witness6 (enc := enc) (C := Try.checked) false ⟨#[], #[.slice none 0 0], []⟩ 8 (by kernel_rfl) (by kernel_rfl) (by kernel_rfl) (by kernel_rfl)) ?_
  intro W base args ds gs before hval0 hW hcnd _
  have hval : ∀ (j : Nat) t v, Try.f8.params[j]? = some t → args[j]? = some v → Value.okWide Try.prog W .any base t v := hval0
  have hW' := hW
  obtain ⟨p, q, hA0, hV, rfl, hfz, hnd⟩ := hW
  have hA : DataW.TrodAll enc Try.prog W 0 (fun _ => true) true Try.f8.params.toList args.toList ds p := hA0
  rw [Try.params8] at hA hval
  clear hA0 hval0
  obtain ⟨v0, d0, rfl, rfl, h0⟩ := trodAll_one hA
  obtain ⟨rfl, rfl⟩ := trodVars_none hV
  have b0 := open_bytes Try.underlying22 Try.underlying5 cells_u8 (hval 0 22 v0 rfl rfl) h0
  refine (L_FnLodAsk v0 W b0).mono fun e W' h => ?_
  obtain ⟨rfl, hb⟩ := h
  exact ⟨_, rfl, law_post (s := Rows.fnLodAskSpec) hW' hb rfl rfl rfl Try.underlying4 (by rw [Try.params8]; kernel_rfl)⟩
theorem fnLodAsk_holds : Rows.FnLodAskSaid :=
  OpenClaim.holds_of_wide 8 Try.f8 rfl rfl rfl rfl rfl rfl rfl ⟨rfl, rfl, rfl, rfl, rfl⟩ rfl rfl rfl rfl rfl (by kernel_rfl) Try.func8 (by kernel_rfl)
    (of_decide_eq_true (by kernel_rfl)) (by unfold Func.isWrapper; first | (rw [if_pos (by decide +kernel)]; kernel_rfl) | (rw [if_neg (by decide +kernel)]; exact ⟨rfl, rfl⟩))
    (fun os started H enc _ => fnLodAsk_lifted os started H enc)

end Go.Proofs.Ytcdmmnfdnmjnpaa
