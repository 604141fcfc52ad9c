

/-
  The walks of the program's lodge: has, enter. Condition: the data can be read.
-/
import Derived.Test.YtmmlhnjmjmbfpaaGreatMap
import Derived.Test.YtmmlhnjmjmbfpaaGreatClsI
import Derived.StillTailTactics
namespace Go.Proofs.YtmmlhnjmjmbfpaaGreat
set_option linter.unusedSimpArgs false
set_option linter.unusedVariables false
open Go.RowKit

set_option maxHeartbeats 400000 in
theorem I_has (L : Nat) (k : Int) (a : Option Addr) (len cap : Nat) (w : World) (c0 : w.cell? ⟨L, 0, none⟩ = some (.slice a len cap)) (hm : len ≤ 9223372036854775807) :
    Calls Tryz.prog 53 #[.pointer (some ⟨L, 0, none⟩), .int .i64 k] w fun e w' => e = .returned (.bool (decide (0 ≤ k) && decide (k < (len : Int)))) ∧ w = w' := by
  by_cases h : 0 ≤ k
  · have h1 : decide (0 ≤ k) = true := by simpa using h
    refine calls_hide fun R HR => ?_
    go_enter Tryz.func53, Tryz.ntmps53
    go_wp2
    all_goals (try go_returns)
    all_goals exact HR.out _ _ ⟨ret_bool (by simp [h]), rfl⟩
  · have h1 : decide (0 ≤ k) = false := by simpa using h
    refine calls_hide fun R HR => ?_
    go_enter Tryz.func53, Tryz.ntmps53
    go_wp2
    all_goals (try go_returns)
    all_goals exact HR.out _ _ ⟨ret_bool (by rw [h1]; simp), rfl⟩

def plus (f : Int → ByteArray → Option Int) (kn : Int) (g : ByteArray → Option Int) : Int → ByteArray → Option Int := fun k s => if k = kn then g s else f k s

set_option maxRecDepth 100000 in
set_option maxHeartbeats 40000000 in
theorem I_enter (p : DLodPlan) (x : DLodKeeper) (w0 w : World) (L bo ba kn n : Nat) (a : Option Addr) (len cap : Nat) (fo fa : Int → ByteArray → Option Int)
    (s0 : Sl 2 rLodKeeper 0 w0 (.slice a len cap) p.fKeepers) (hx : p.fKeepers[kn]? = some x) (hW : Below w0.heap.size w0 w) (hlen : len ≤ 3)
    (c0 : w.cell? ⟨L, 0, none⟩ = some (.slice a len cap)) (c1 : w.cell? ⟨L, 1, none⟩ = some (.map (some bo))) (c2 : w.cell? ⟨L, 2, none⟩ = some (.map (some ba)))
    (ho : MapF w bo n fo) (ha : MapF w ba n fa) (hn : n ≤ 1000) (ho0 : w0.heap.size ≤ bo) (ha0 : w0.heap.size ≤ ba) (hne : bo ≠ ba) (hLo : L ≠ bo) (hLa : L ≠ ba)
    (fo0 : ∀ s, fo kn s = none) (fa0 : ∀ s, fa kn s = none) :
    Calls Tryz.prog 38 #[.pointer (some ⟨L, 0, none⟩), .int .i64 (kn : Int)] w fun e w' => e = .returned (.bool (keeperOk len x)) ∧ Below w0.heap.size w0 w' ∧ Frame2 bo ba w w' ∧
      (keeperOk len x = true → MapF w' bo (n + 10) (plus fo kn (ownK x)) ∧ MapF w' ba (n + 10) (plus fa kn (askK x))) := by
  obtain ⟨hl, hcap, hmc⟩ := s0.len
  have m1 : len ≤ 9223372036854775807 := by omega
  have HL := Lib.hid hl
  have hkn : kn < len := by rw [← hl]; exact (List.getElem?_eq_some_iff.1 hx).1
  have HX := Lib.hid hx
  clear hl
  obtain ⟨a', len', cap', e, _, _, _, h3⟩ := id s0
  cases e
  obtain ⟨b, off, rfl, _, hbl, hr⟩ := h3 (by omega)
  obtain ⟨x', cs, e0, e1, e2, e3⟩ := hr kn hkn
  obtain rfl : x = x' := Option.some.inj (hx.symm.trans e0)
  obtain ⟨v1, v2, rfl, t1, t2⟩ := e3
  obtain ⟨la, ll, lc, rfl⟩ := t1.form
  obtain ⟨ka, kl, kc, rfl⟩ := t2.form
  obtain ⟨tl1, tc1, tm1⟩ := t1.len
  obtain ⟨tl2, tc2, tm2⟩ := t2.len
  have TL1 := Lib.hid tl1
  have TL2 := Lib.hid tl2
  have q1 : w.cell? ⟨b, off + kn * 2, none⟩ = some (.slice la ll lc) := (hW.cell hbl).trans (e2 0 _ rfl)
  have q2 : w.cell? ⟨b, off + kn * 2 + 1, none⟩ = some (.slice ka kl kc) := (hW.cell hbl).trans (e2 1 _ rfl)
  have mm1 : ll ≤ 9223372036854775807 := by unfold maxLen at tm1; omega
  have mm2 : kl ≤ 9223372036854775807 := by unfold maxLen at tm2; omega
  clear e0 e1 e2 hr h3 hx tl1 tl2 tm1 tm2
  have HO := Lib.hid ho
  have HAA := Lib.hid ha
  have FO0 := Lib.hid fo0
  have FA0 := Lib.hid fa0
  have hWs := hW.size
  clear fo0 fa0 ho ha
  refine calls_hide fun R HR => ?_
  go_enter Tryz.func38, Tryz.ntmps38
  go_wp2_with fail
  all_goals first
    | (try go_returns
       have hk0 : keeperOk len x = false := by
         unfold keeperOk; rw [TL1.out, TL2.out]
         by_cases h8 : ll ≤ 5
         · have h9 : ¬ kl ≤ 4 := by omega
           simp [h9]
         · simp [h8]
       exact HR.out _ _ ⟨ret_bool hk0.symm, hW.trans ((show Below w.heap.size w _ by (repeat' (first | (with_reducible exact Below.refl _ _) | (with_reducible refine Below.alloc ?_ ?_ _) | (with_reducible refine Below.setCell ?_ ?_ _) | (with_reducible refine Below.drew ?_) | (refine below_hyp (by assumption) ?_ ?_) | go_size))).mono hWs), Frame2.of_below (by (repeat' (first | (with_reducible exact Below.refl _ _) | (with_reducible refine Below.alloc ?_ ?_ _) | (with_reducible refine Below.setCell ?_ ?_ _) | (with_reducible refine Below.drew ?_) | (refine below_hyp (by assumption) ?_ ?_) | go_size))), fun h => by rw [hk0] at h; cases h⟩)
    | skip
  have hl5 : ll ≤ 5 := by omega
  have hl4 : kl ≤ 4 := by omega
  have C1 := Lib.hid c1
  have C2 := Lib.hid c2
  have C0 := Lib.hid c0
  have hboL : bo < w.heap.size := HO.out.lt
  have hbaL : ba < w.heap.size := HAA.out.lt
  go_loopw [36] (fun z wr => ∃ i : Nat, i ≤ ll ∧ z = .int .i64 i ∧ EachTo (ownIn x.fOwns) x.fOwns i = true ∧ Below w0.heap.size w0 wr ∧ Frame2 bo ba w wr ∧ wr.cell? ⟨w.heap.size, 1, none⟩ = some (.slice ka kl kc) ∧ MapF wr bo (n + i) (plus fo kn fun s => optI (ownAt (x.fOwns.take i) s)) ∧ MapF wr ba n fa) (fun z _ => ll - (intOf z).toNat)
  case atStart =>
    exact ⟨0, Nat.zero_le _, rfl, rfl, hW.trans ((show Below w.heap.size w _ by (repeat' (first | (with_reducible exact Below.refl _ _) | (with_reducible refine Below.alloc ?_ ?_ _) | (with_reducible refine Below.setCell ?_ ?_ _) | (with_reducible refine Below.drew ?_) | (refine below_hyp (by assumption) ?_ ?_) | go_size))).mono hWs), Frame2.of_below (by (repeat' (first | (with_reducible exact Below.refl _ _) | (with_reducible refine Below.alloc ?_ ?_ _) | (with_reducible refine Below.setCell ?_ ?_ _) | (with_reducible refine Below.drew ?_) | (refine below_hyp (by assumption) ?_ ?_) | go_size))), by go_simp,
      ((HO.out.below (by (repeat' (first | (with_reducible exact Below.refl _ _) | (with_reducible refine Below.alloc ?_ ?_ _) | (with_reducible refine Below.setCell ?_ ?_ _) | (with_reducible refine Below.drew ?_) | (refine below_hyp (by assumption) ?_ ?_) | go_size)))).congr fun k s _ => by
        unfold plus
        by_cases h : k = (kn : Int)
        · rw [if_pos h, h, FO0.out]; simp [ownAt, firstAt, optI]
        · rw [if_neg h]), HAA.out.below (by (repeat' (first | (with_reducible exact Below.refl _ _) | (with_reducible refine Below.alloc ?_ ?_ _) | (with_reducible refine Below.setCell ?_ ?_ _) | (with_reducible refine Below.drew ?_) | (refine below_hyp (by assumption) ?_ ?_) | go_size)))⟩
  case round =>
    clear c0 c1 c2 q1 q2
    obtain ⟨i, hi, rfl, ha, hb, hf, ck, hmo, hma⟩ := hrel
    have HA := Lib.hid ha
    have HMO := Lib.hid hmo
    have HMA := Lib.hid hma
    clear ha hmo hma
    have hbx := hb.size
    have hfs := hf.1
    have hkb := block_lt_of_cell ck
    by_cases hlt : i < ll
    · obtain ⟨_, _, _, e', _, _, _, h3⟩ := t1.stays rClsClass_good (Keeps.of_below hb)
      cases e'
      obtain ⟨b', off', rfl, _, hbl', hr⟩ := h3 (by omega)
      obtain ⟨c, cs, e0, e1, e2, e3⟩ := hr i hlt
      obtain ⟨x1, x2, rfl, r1, r2, by1, by2⟩ := e3
      obtain ⟨xa1, xl1, xc1, rfl⟩ := r1.form
      obtain ⟨xa2, xl2, xc2, rfl⟩ := r2.form
      have p1 : wr.cell? ⟨b', off' + i * 4, none⟩ = some (.string c.fName) := e2 0 _ rfl
      have p2 : wr.cell? ⟨b', off' + i * 4 + 1, none⟩ = some (.string c.fSuper) := e2 1 _ rfl
      have p3 : wr.cell? ⟨b', off' + i * 4 + 2, none⟩ = some (.slice xa1 xl1 xc1) := e2 2 _ rfl
      have p4 : wr.cell? ⟨b', off' + i * 4 + 3, none⟩ = some (.slice xa2 xl2 xc2) := e2 3 _ rfl
      have E0 := Lib.hid e0
      have KF : Hid (KeyFit (kn : Int) c.fName) := Lib.hid ⟨WalkArith.wf_i64 (by omega), by1⟩
      clear e0 e1 e2 hr h3
      go_wp2_with fail
      obtain ⟨wK, hwK⟩ : ∃ wK, wK = (wr.alloc (.cells #[.string c.fName, .string c.fSuper, .slice xa1 xl1 xc1, .slice xa2 xl2 xc2] 69)).alloc (.cells #[.int .i64 (kn : Int), .string c.fName] 35) := ⟨_, rfl⟩
      rw [← hwK]
      have hRK : Below wr.heap.size wr wK := by rw [hwK]; (repeat' (first | (with_reducible exact Below.refl _ _) | (with_reducible refine Below.alloc ?_ ?_ _) | (with_reducible refine Below.setCell ?_ ?_ _) | (with_reducible refine Below.drew ?_) | (refine below_hyp (by assumption) ?_ ?_) | go_size))
      have hzK : wr.heap.size + 1 < wK.heap.size := by rw [hwK]; simp
      have n1 := In.cell (show wK.cell? ⟨wr.heap.size, 0, none⟩ = some (.string c.fName) by rw [hwK]; go_simp)
      have n2 := In.cell (show wK.cell? ⟨wr.heap.size, 1, none⟩ = some (.string c.fSuper) by rw [hwK]; go_simp)
      have n3 := In.cell (show wK.cell? ⟨wr.heap.size, 2, none⟩ = some (.slice xa1 xl1 xc1) by rw [hwK]; go_simp)
      have n4 := In.cell (show wK.cell? ⟨wr.heap.size, 3, none⟩ = some (.slice xa2 xl2 xc2) by rw [hwK]; go_simp)
      have n5 := In.cell (show wK.cell? ⟨wr.heap.size + 1, 0, none⟩ = some (.int .i64 (kn : Int)) by rw [hwK]; go_simp)
      have n6 := In.cell (show wK.cell? ⟨wr.heap.size + 1, 1, none⟩ = some (.string c.fName) by rw [hwK]; go_simp)
      have n7 := In.cell (keep_cell hRK (hf.cell C1.out hLo hLa))
      have N1 := Lib.hid n1
      have N2 := Lib.hid n2
      have N3 := Lib.hid n3
      have N4 := Lib.hid n4
      have N5 := Lib.hid n5
      have N6 := Lib.hid n6
      have N7 := Lib.hid n7
      clear hwK p1 p2 p3 p4
      obtain ⟨z, hz⟩ : ∃ z, z = ownAt (x.fOwns.take i) c.fName := ⟨_, rfl⟩
      have HZ := Lib.hid hz
      have LK : ∀ y : In wK, (Instr.lookup 76 (.map (some bo)) (.agg #[.int .i64 (kn : Int), .string c.fName]) true).run Tryz.prog y.x = .ok (.tuple #[.int .i64 ((optI z).getD 0), .bool (optI z).isSome]) y.x := fun y => by
        have := ((HMO.out.below hRK).below y.h).look_ok KF.out
        unfold plus at this
        rw [if_pos rfl] at this
        dsimp only at this
        rw [← hz] at this
        exact this
      clear hz
      by_cases hzz : ¬ z < 0
      · have hq : (optI z).isSome = true := by unfold optI; rw [if_neg hzz]; rfl
        have hq2 : (optI z).getD 0 = z := by unfold optI; rw [if_neg hzz]; rfl
        rw [hq, hq2] at LK
        have HQ := Lib.hid hzz
        clear hq hq2 hzz
        refine wp_region_in (by kernel_rfl) (by kernel_rfl) ?_
        repeat (go_big_quiet_step (first | fail))
        refine wpQuiet_nil ?_
        rintro wZ ⟨⟨wE, hwE⟩, hq⟩
        obtain rfl : wE = wZ := hq.symm
        clear hq
        have hwEs := hwE.size
        (try dsimp only)
        have hEE := hb.trans ((hRK.trans (hwE.mono hRK.size)).mono hbx)
        have hFE : Frame2 bo ba w wE := hf.trans (Frame2.of_below (hRK.trans (hwE.mono hRK.size)))
        clear LK n1 n2 n3 n4 n5 n6 n7
        go_wp2
        all_goals (try go_returns)
        have hk0 : keeperOk len x = false := by
          have h8 := HZ.out
          have h9 := HQ.out
          have : each (ownIn x.fOwns) x.fOwns = false := each_stop E0.out (by rw [h8] at h9; simp [ownIn, h9])
          simp [keeperOk, this]
        all_goals exact HR.out _ _ ⟨ret_bool hk0.symm, hEE, hFE, fun h => by rw [hk0] at h; cases h⟩
      have hzz' : z < 0 := Decidable.byContradiction hzz
      have hq : (optI z).isSome = false := by unfold optI; rw [if_pos hzz']; rfl
      have hq2 : (optI z).getD 0 = 0 := by unfold optI; rw [if_pos hzz']; rfl
      rw [hq, hq2] at LK
      have HQ := Lib.hid hzz'
      clear hq hq2 hzz hzz'
      refine wp_region_in (by kernel_rfl) (by kernel_rfl) ?_
      repeat (go_big_quiet_step (first | fail))
      refine wpQuiet_nil ?_
      rintro wZ ⟨⟨wE, hwE⟩, hq⟩
      obtain rfl : wE = wZ := hq.symm
      clear hq
      have hwEs := hwE.size
      (try dsimp only)
      have hRE := hRK.trans (hwE.mono hRK.size)
      have hEE := hb.trans (hRE.mono hbx)
      clear LK n1 n2 n3 n4 n5 n6 n7
      have n1 := N1.out ⟨wE, hwE⟩
      have n2 := N2.out ⟨wE, hwE⟩
      have n3 := N3.out ⟨wE, hwE⟩
      have n4 := N4.out ⟨wE, hwE⟩
      dsimp only at n1 n2 n3 n4
      go_wp2_with fail
      refine (I_ClsOk c _ _ _ (r1.stays rClsField_good (Keeps.of_below hRE)) (r2.stays rClsMethod_good (Keeps.of_below hRE)) by1 by2).mono ?_
      rintro _ w1 ⟨rfl, g⟩
      have hR1 := hRE.trans (g.mono hRE.size)
      have hE1 := hb.trans (hR1.mono hbx)
      have hF1 : Frame2 bo ba w w1 := hf.trans (Frame2.of_below hR1)
      have hK1 := hwE.trans (g.mono hwE.size)
      clear n1 n2 n3 n4
      cases hx : clsOk c
      · have H5 := Lib.hid hx
        clear hx
        go_wp2
        all_goals (try go_returns)
        have hk0 : keeperOk len x = false := by
          have : each (ownIn x.fOwns) x.fOwns = false := each_stop E0.out (by simp [ownIn, H5.out])
          simp [keeperOk, this]
        all_goals exact HR.out _ _ ⟨ret_bool hk0.symm, hE1, hF1, fun h => by rw [hk0] at h; cases h⟩
      have H5 := Lib.hid hx
      clear hx
      have n5 := N5.out ⟨w1, hK1⟩
      have n6 := N6.out ⟨w1, hK1⟩
      have n7 := N7.out ⟨w1, hK1⟩
      dsimp only at n5 n6 n7
      go_wp2_with fail
      go_still_tail 6, (by kernel_rfl)
      refine wpList_storeF rfl _ _ _ rfl (b := bo) (n := n + i) (k := (kn : Int)) (s := c.fName) (i := (i : Int)) rfl rfl rfl ((HMO.out.below hR1).kept rfl) KF.out (WalkArith.wf_i64 (by omega)) (by unfold maxLen; omega) ?_
      intro w2 hm2 hg2
      have hz2 := hg2.size
      have hE2 : Below w0.heap.size w0 w2 := hE1.drew.grown hg2 (by show _ ≤ w1.heap.size; exact hE1.size) (fun k h => by cases h; exact ho0)
      have hF2 : Frame2 bo ba w w2 := hF1.trans ((Frame2.of_below (w' := w1.drew) (Below.refl _ _).drew).trans (Frame2.of_grown hg2 (Or.inl rfl)))
      have ck2 : w2.cell? ⟨w.heap.size, 1, none⟩ = some (.slice ka kl kc) := by
        have h1 : w1.cell? ⟨w.heap.size, 1, none⟩ = some (.slice ka kl kc) := keep_cell hR1 ck
        have h2 := hg2.block w.heap.size (by have := block_lt_of_cell h1; exact this) (by simp; omega)
        rw [cell_of_heap h2]; exact h1
      have hma2 : MapF w2 ba n fa := ((HMA.out.below hR1).kept (w' := w1.drew) rfl).kept (hg2.block ba (by have := (HMA.out.below hR1).lt; exact this) (by simp; omega))
      have HM2 := Lib.hid hm2
      have HMA2 := Lib.hid hma2
      clear n5 n6 n7 hm2 hma2
      go_wp2
      go_roundw
      case measure => simp [intOf]; omega
      case rel =>
        refine ⟨i + 1, by omega, by go_num, EachTo.step HA.out E0.out (by have h8 := HZ.out; have h9 := HQ.out; rw [h8] at h9; simp [ownIn, H5.out, h9]), hE2, hF2, ck2, ?_, HMA2.out⟩
        refine (HM2.out.congr fun k s _ => ?_)
        have h8 := HZ.out
        have h9 := HQ.out
        rw [h8] at h9
        unfold upd plus
        by_cases hk : k = (kn : Int)
        · subst hk
          simp only [true_and, if_true]
          rw [own_step E0.out h9]
        · simp only [hk, false_and, if_false]
    · obtain rfl : i = ll := by omega
      have HFO : Hid (each (ownIn x.fOwns) x.fOwns = true) := Lib.hid (each_done HA.out TL1.out)
      have HMF : Hid (MapF wr bo (n + i) (plus fo kn (ownK x))) := Lib.hid (by
        have := HMO.out
        rw [List.take_of_length_le (by rw [TL1.out]; exact Nat.le_refl _)] at this
        exact this)
      clear HA HMO
      obtain ⟨wo, rfl⟩ : ∃ wo : World, wo = wr := ⟨_, rfl⟩
      go_wp2_with fail
      go_loopw [70] (fun z wr => ∃ j : Nat, j ≤ kl ∧ z = .int .i64 j ∧ EachTo (askIn len x.fAsks) x.fAsks j = true ∧ Below w0.heap.size w0 wr ∧ Frame2 bo ba w wr ∧ MapF wr bo (n + i) (plus fo kn (ownK x)) ∧ MapF wr ba (n + j) (plus fa kn fun s => optI (asksOf (x.fAsks.take j) s))) (fun z _ => kl - (intOf z).toNat)
      case atStart =>
        exact ⟨0, Nat.zero_le _, rfl, rfl, hb, hf, HMF.out, HMA.out.congr fun k s _ => by
          unfold plus
          by_cases h : k = (kn : Int)
          · subst h
            rw [FA0.out]; simp [asksOf, optI]
          · simp [h]⟩
      case round =>
        clear hb hf ck hbx hfs hkb HMA HMF
        obtain ⟨j, hj, rfl, ha, hb, hf, hmo, hma⟩ := hrel
        have HA := Lib.hid ha
        have HMO := Lib.hid hmo
        have HMA := Lib.hid hma
        clear ha hmo hma
        have hbx := hb.size
        have hfs := hf.1
        by_cases hlt : j < kl
        · obtain ⟨_, _, _, e', _, _, _, h3⟩ := t2.stays rLodAsk_good (Keeps.of_below hb)
          cases e'
          obtain ⟨b', off', rfl, _, hbl', hr⟩ := h3 (by omega)
          obtain ⟨⟨an, ak⟩, cs, e0, e1, e2, e3⟩ := hr j hlt
          obtain ⟨rfl, by1⟩ := e3
          have p1 : wr.cell? ⟨b', off' + j * 2, none⟩ = some (.string an) := e2 0 _ rfl
          have p2 : wr.cell? ⟨b', off' + j * 2 + 1, none⟩ = some (.int .i64 ak) := e2 1 _ rfl
          have E0 := Lib.hid e0
          have KF : Hid (KeyFit (kn : Int) an) := Lib.hid ⟨WalkArith.wf_i64 (by omega), by1⟩
          clear e0 e1 e2 hr h3
          go_wp2_with fail
          obtain ⟨wK, hwK⟩ : ∃ wK, wK = (wr.alloc (.cells #[.string an, .int .i64 ak] 95)).alloc (.cells #[.int .i64 (kn : Int), .string an] 35) := ⟨_, rfl⟩
          rw [← hwK]
          have hRK : Below wr.heap.size wr wK := by rw [hwK]; (repeat' (first | (with_reducible exact Below.refl _ _) | (with_reducible refine Below.alloc ?_ ?_ _) | (with_reducible refine Below.setCell ?_ ?_ _) | (with_reducible refine Below.drew ?_) | (refine below_hyp (by assumption) ?_ ?_) | go_size))
          have hzK : wr.heap.size + 1 < wK.heap.size := by rw [hwK]; simp
          have n1 := In.cell (show wK.cell? ⟨wr.heap.size, 0, none⟩ = some (.string an) by rw [hwK]; go_simp)
          have n2 := In.cell (show wK.cell? ⟨wr.heap.size, 1, none⟩ = some (.int .i64 ak) by rw [hwK]; go_simp)
          have n5 := In.cell (show wK.cell? ⟨wr.heap.size + 1, 0, none⟩ = some (.int .i64 (kn : Int)) by rw [hwK]; go_simp)
          have n6 := In.cell (show wK.cell? ⟨wr.heap.size + 1, 1, none⟩ = some (.string an) by rw [hwK]; go_simp)
          have n7 := In.cell (keep_cell hRK (hf.cell C2.out hLo hLa))
          have n0 := In.cell (keep_cell hRK (hf.cell C0.out hLo hLa))
          have N0 := Lib.hid n0
          have N1 := Lib.hid n1
          have N2 := Lib.hid n2
          have N5 := Lib.hid n5
          have N6 := Lib.hid n6
          have N7 := Lib.hid n7
          clear hwK p1 p2 n0
          obtain ⟨z, hz⟩ : ∃ z, z = asksOf (x.fAsks.take j) an := ⟨_, rfl⟩
          have HZ : Hid (z < 0 ↔ askAt (x.fAsks.take j) an < 0) := Lib.hid (by rw [hz]; exact asksOf_sign HA.out an)
          have LK : ∀ y : In wK, (Instr.lookup 76 (.map (some ba)) (.agg #[.int .i64 (kn : Int), .string an]) true).run Tryz.prog y.x = .ok (.tuple #[.int .i64 ((optI z).getD 0), .bool (optI z).isSome]) y.x := fun y => by
            have := ((HMA.out.below hRK).below y.h).look_ok KF.out
            unfold plus at this
            rw [if_pos rfl] at this
            dsimp only at this
            rw [← hz] at this
            exact this
          clear hz
          by_cases hzz : ¬ z < 0
          · have hq : (optI z).isSome = true := by unfold optI; rw [if_neg hzz]; rfl
            have hq2 : (optI z).getD 0 = z := by unfold optI; rw [if_neg hzz]; rfl
            rw [hq, hq2] at LK
            have HQ := Lib.hid hzz
            clear hq hq2 hzz
            refine wp_region_in (by kernel_rfl) (by kernel_rfl) ?_
            repeat (go_big_quiet_step (first | fail))
            refine wpQuiet_nil ?_
            rintro wZ ⟨⟨wE, hwE⟩, hq⟩
            obtain rfl : wE = wZ := hq.symm
            clear hq
            have hwEs := hwE.size
            (try dsimp only)
            have hEE := hb.trans ((hRK.trans (hwE.mono hRK.size)).mono hbx)
            have hFE : Frame2 bo ba w wE := hf.trans (Frame2.of_below (hRK.trans (hwE.mono hRK.size)))
            clear LK n1 n2 n5 n6 n7
            go_wp2
            all_goals (try go_returns)
            have hk0 : keeperOk len x = false := by
              have h9 : ¬ askAt (x.fAsks.take j) an < 0 := fun h => absurd (HZ.out.2 h) (by have := HQ.out; omega)
              have : each (askIn len x.fAsks) x.fAsks = false := each_stop E0.out (by simp [askIn, h9])
              simp [keeperOk, this]
            all_goals exact HR.out _ _ ⟨ret_bool hk0.symm, hEE, hFE, fun h => by rw [hk0] at h; cases h⟩
          have hzz' : z < 0 := Decidable.byContradiction hzz
          have hq : (optI z).isSome = false := by unfold optI; rw [if_pos hzz']; rfl
          have hq2 : (optI z).getD 0 = 0 := by unfold optI; rw [if_pos hzz']; rfl
          rw [hq, hq2] at LK
          have HQ : Hid (askAt (x.fAsks.take j) an < 0) := Lib.hid (HZ.out.1 hzz')
          clear hq hq2 hzz hzz'
          refine wp_region_in (by kernel_rfl) (by kernel_rfl) ?_
          repeat (go_big_quiet_step (first | fail))
          refine wpQuiet_nil ?_
          rintro wZ ⟨⟨wE, hwE⟩, hq⟩
          obtain rfl : wE = wZ := hq.symm
          clear hq
          have hwEs := hwE.size
          (try dsimp only)
          have hRE := hRK.trans (hwE.mono hRK.size)
          have hEE := hb.trans (hRE.mono hbx)
          have hFE : Frame2 bo ba w wE := hf.trans (Frame2.of_below hRE)
          clear LK n1 n2 n5 n6 n7
          have n1 := N1.out ⟨wE, hwE⟩
          have n2 := N2.out ⟨wE, hwE⟩
          have n0 := N0.out ⟨wE, hwE⟩
          have n5 := N5.out ⟨wE, hwE⟩
          have n6 := N6.out ⟨wE, hwE⟩
          have n7 := N7.out ⟨wE, hwE⟩
          dsimp only at n0 n1 n2 n5 n6 n7
          go_wp2_with fail
          refine (I_NamOk an _ by1).mono ?_
          rintro _ _ ⟨rfl, rfl⟩
          cases hx : namOk an
          · have H5 := Lib.hid hx
            clear hx
            go_wp2
            all_goals (try go_returns)
            have hk0 : keeperOk len x = false := by
              have : each (askIn len x.fAsks) x.fAsks = false := each_stop E0.out (by simp [askIn, H5.out])
              simp [keeperOk, this]
            all_goals exact HR.out _ _ ⟨ret_bool hk0.symm, hEE, hFE, fun h => by rw [hk0] at h; cases h⟩
          have H5 := Lib.hid hx
          clear hx
          go_wp2_with fail
          refine (I_has L ak _ len cap _ n0 (by omega)).mono ?_
          rintro _ _ ⟨rfl, rfl⟩
          by_cases hin : ¬ (0 ≤ ak ∧ ak < (len : Int))
          · have HIN := Lib.hid hin
            have hq : (decide (0 ≤ ak) && decide (ak < (len : Int))) = false := by simp; omega
            rw [hq]
            clear hq hin
            go_wp2
            all_goals (try go_returns)
            have hk0 : keeperOk len x = false := by
              have h9 := HIN.out
              have : each (askIn len x.fAsks) x.fAsks = false := each_stop E0.out (by
                have h10 : (decide (0 ≤ ak) && decide (ak ≤ (len : Int) - 1)) = false := by simp; omega
                simp only [askIn, h10]; simp)
              simp [keeperOk, this]
            all_goals exact HR.out _ _ ⟨ret_bool hk0.symm, hEE, hFE, fun h => by rw [hk0] at h; cases h⟩
          obtain ⟨hi1, hi2⟩ : 0 ≤ ak ∧ ak < (len : Int) := Decidable.byContradiction hin
          have hq : (decide (0 ≤ ak) && decide (ak < (len : Int))) = true := by simp; omega
          rw [hq]
          clear hq hin
          go_wp2_with fail
          go_still_tail 7, (by kernel_rfl)
          refine wpList_storeF rfl _ _ _ rfl (b := ba) (n := n + j) (k := (kn : Int)) (s := an) (i := ak) rfl rfl rfl ((HMA.out.below hRE).kept rfl) KF.out (WalkArith.wf_i64 (by omega)) (by unfold maxLen; omega) ?_
          intro w2 hm2 hg2
          have hz2 := hg2.size
          have hE2 : Below w0.heap.size w0 w2 := hEE.drew.grown hg2 (by show _ ≤ wE.heap.size; exact hEE.size) (fun k h => by cases h; exact ha0)
          have hF2 : Frame2 bo ba w w2 := hFE.trans ((Frame2.of_below (w' := wE.drew) (Below.refl _ _).drew).trans (Frame2.of_grown hg2 (Or.inr rfl)))
          have hmo2 : MapF w2 bo (n + i) (plus fo kn (ownK x)) := ((HMO.out.below hRE).kept (w' := wE.drew) rfl).kept (hg2.block bo (by have := (HMO.out.below hRE).lt; exact this) (by simp; omega))
          have HM2 := Lib.hid hm2
          have HMO2 := Lib.hid hmo2
          clear n0 n1 n2 n5 n6 n7 hm2 hmo2
          go_wp2
          go_roundw
          case measure => simp [intOf]; omega
          case rel =>
            refine ⟨j + 1, by omega, by go_num, EachTo.step HA.out E0.out (by
              have h9 := HQ.out
              have h10 : (decide (0 ≤ ak) && decide (ak ≤ (len : Int) - 1)) = true := by simp; omega
              simp only [askIn, h10, H5.out]; simp [h9]), hE2, hF2, HMO2.out, ?_⟩
            refine (HM2.out.congr fun k s _ => ?_)
            unfold upd plus
            by_cases hk : k = (kn : Int)
            · subst hk
              simp only [true_and, if_true]
              rw [ask_step HA.out E0.out HQ.out hi1]
            · simp only [hk, false_and, if_false]
        · obtain rfl : j = kl := by omega
          have hk1 : keeperOk len x = true := by
            have h5 : each (askIn len x.fAsks) x.fAsks = true := each_done HA.out TL2.out
            unfold keeperOk
            rw [TL1.out, TL2.out, HFO.out, h5, decide_eq_true hl5, decide_eq_true hl4]; rfl
          have HMF : MapF wr ba (n + 10) (plus fa kn (askK x)) := by
            have := HMA.out
            rw [List.take_of_length_le (by rw [TL2.out]; exact Nat.le_refl _)] at this
            exact this.mono (by omega)
          have HMG := Lib.hid HMF
          have HK1 := Lib.hid hk1
          clear HMF hk1
          go_wp2
          all_goals (try go_returns)
          all_goals exact HR.out _ _ ⟨ret_bool HK1.out.symm, hb, hf, fun _ => ⟨HMO.out.mono (by omega), HMG.out⟩⟩

end Go.Proofs.YtmmlhnjmjmbfpaaGreat
