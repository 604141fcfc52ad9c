/-
  Texts of mine, packed: LawLO, RowLO. No condition beside those of the single theorems.
-/
import Derived.Test.YtcdmmnfdnmjnpaaK12
import Derived.Test.YtcdmmnfdnmjnpaaK30
import Derived.Test.YtcdmmnfdnmjnpaaK14
import Derived.Test.YtcdmmnfdnmjnpaaK13
set_option linter.unusedSimpArgs false
set_option linter.unusedVariables false
namespace Go.Proofs.Ytcdmmnfdnmjnpaa
open Go.RowKit
set_option maxHeartbeats 400000 in
theorem L_loOkO (w : World) : Calls Try.prog 18 #[] w fun e w' => e = .returned (.bool true) ∧ Below w.heap.size w w' := by
  refine calls_hide fun R HR => ?_
  go_enter Try.func18, Try.ntmps18
  go_wp2_with (go_at_call 53; refine (I_NamOk _ _ (by decide)).mono ?_; rintro _ _ ⟨rfl, rfl⟩)
  all_goals (try go_returns)
  all_goals exact HR.out _ _ ⟨rfl, bbel⟩
theorem empty0_newO (w : World) (e : TypeId) {B b : Nat} (hb : b = w.heap.size) (hB : B ≤ w.heap.size) : Empty0 e B (w.alloc (.cells #[] e)) (.slice (some ⟨b, 0, none⟩) 0 0) := by
  subst hb; exact Empty0.new w e hB

set_option maxRecDepth 100000 in
set_option maxHeartbeats 8000000 in
theorem L_FnLodOk (v : Value) (w : World) (hv : Bytes w v) :
    Calls Try.prog 6 #[v] w fun e w' => e = .returned (.bool true) ∧ Below w.heap.size w w' := by
  obtain ⟨c, len, cap, rfl, g1, g2, g3⟩ := id hv
  have m1 : len ≤ 9223372036854775807 := by unfold maxLen at g2; omega
  clear g2 g3
  refine calls_hide fun R HR => ?_
  go_enter Try.func6, Try.ntmps6
  go_wp2_with fail
  all_goals first
    | (try go_returns
       exact HR.out _ _ ⟨rfl, bbel⟩)
    | skip
  refine (S_DrawLodOk _ _ hv).mono ?_
  rintro _ w1 ⟨⟨pv, pl, rfl, hs⟩, h1⟩
  have h1s := (h1).size; (try simp only [World.size_alloc, World.size_setCell, World.size_drew] at h1s)
  obtain ⟨fa, fl, fc, rfl⟩ := hs.form
  obtain ⟨hfl, hfc, hfm⟩ := hs.len
  have hfm' : fl ≤ 9223372036854775807 := by unfold maxLen at hfm; omega
  obtain ⟨ok, hok⟩ : ∃ x, lodOk pl = x := ⟨_, rfl⟩
  have CI : Hid (∀ W, Below w1.heap.size w1 W → Calls Try.prog 26 #[.agg #[.slice fa fl fc]] W fun e w' => e = .returned (.bool ok) ∧ Below W.heap.size W w') := Lib.hid fun W hW => by rw [← hok]; exact I_LodOk pl _ W (hs.stays rLodKeeper_good (Keeps.of_below' hW (Nat.le_refl _)))
  have CS : Hid (∀ W, Below w1.heap.size w1 W → Calls Try.prog 27 #[.agg #[.slice fa fl fc]] W fun e w' => e = .returned (.bool ok) ∧ Below W.heap.size W w') := Lib.hid fun W hW => by rw [← hok]; exact S_LodOk pl _ W (hs.stays rLodKeeper_good (Keeps.of_below' hW (Nat.le_refl _)))
  have HOK := Lib.hid hok
  have HS := Lib.hid hs
  have HFL := Lib.hid hfl
  clear hok hs hfl
  go_wp2_with fail
  refine (CI.out _ (bbel)).mono ?_
  rintro _ w2 ⟨rfl, h2⟩
  have h2s := (h2).size; (try simp only [World.size_alloc, World.size_setCell, World.size_drew] at h2s)
  obtain ⟨h2pd, h2po, h2pg, h2pp, h2px, h2py⟩ := bf1 (n := w1.heap.size) h2
  go_wp2_with fail
  refine (CS.out _ (bbel)).mono ?_
  rintro _ w3 ⟨rfl, h3⟩
  have h3s := (h3).size; (try simp only [World.size_alloc, World.size_setCell, World.size_drew] at h3s)
  obtain ⟨h3pd, h3po, h3pg, h3pp, h3px, h3py⟩ := bf1 (n := w1.heap.size) h3
  cases ok
  · go_wp2_with (go_at_call 18; refine (L_loOkO _).mono ?_; rintro _ w9 ⟨rfl, h9⟩)
    all_goals (try go_returns)
    all_goals exact HR.out _ _ ⟨rfl, bbel⟩
  have e0 : w3.cell? ⟨w1.heap.size, 0, none⟩ = some (.slice fa fl fc) := by go_simp
  have hB3 : Below w1.heap.size w1 w3 := bbel
  have l0 : w1.heap.size < w3.heap.size := block_lt_of_cell e0
  have hl3 := lodOk_len HOK.out
  rw [HFL.out] at hl3
  obtain ⟨css, hsrc, hraw, hcl, hrow⟩ := HS.out.css (by omega)
  have HS0 : Hid (∀ W, Below w1.heap.size w1 W → Src 2 W (.slice fa fl fc) css) := Lib.hid fun W hW => hsrc.kept hW
  have HR0 : Hid (∀ lo W, Rows 2 rRaw lo W css css) := Lib.hid fun lo W => hraw.mono fun cs x h => h
  have HRW := Lib.hid hrow
  have HCL := Lib.hid hcl
  clear hsrc hraw hrow h2pd h2pg h2px h2po h2pp h2py h3pd h3pg h3px h3po h3pp h3py h2 h3
  go_wp2_with fail
  go_loopw [5] (fun zi wr => ∃ i : Nat, i ≤ fl ∧ zi = .int .i64 i ∧ Below w3.heap.size w3 wr) (fun zi _ => fl - (intOf zi).toNat)
  case atStart => exact ⟨0, Nat.zero_le _, rfl, Below.refl _ _⟩
  case round =>
    obtain ⟨i, hi, rfl, hb⟩ := hrel
    have hbs := hb.size
    have r0 := keep_cell hb e0
    have l1 : w1.heap.size < wr.heap.size := by omega
    by_cases hlt : i < fl
    · have hlt2 : (i : Int) < (fl : Int) := by omega
      obtain ⟨kp, hkp⟩ : ∃ k, pl.fKeepers[i]? = some k := ⟨_, List.getElem?_eq_getElem (by rw [HFL.out]; exact hlt)⟩
      obtain ⟨cs, hci, hc2, hk⟩ := HRW.out i kp hkp
      obtain ⟨v1, v2, rfl, t1, t2⟩ := hk
      obtain ⟨oa, on, oc, rfl⟩ := t1.form
      obtain ⟨aa, an, ac, rfl⟩ := t2.form
      obtain ⟨hon, hoc, hom⟩ := t1.len
      have hom' : on ≤ 9223372036854775807 := by unfold maxLen at hom; omega
      have HKP := Lib.hid hkp
      have HCI := Lib.hid hci
      have HT1 := Lib.hid t1
      have HON := Lib.hid hon
      clear hkp hci t1 t2 hon hc2 hom
      go_wp2_with (at_builtin; refine wpList_append_copyC (B := wr.heap.size) (lo := wr.heap.size) (R := rRaw) (E := NoT) (ys := css) (css := css) (by rfl) (.tmp 30) (.tmp 32) 46 (by rfl) sty_Kpr rRaw_goodT rRaw_one (by rfl) (by rfl) (Empty0.new wr _ (Nat.le_refl _)) (HS0.out _ (bbel)) (HR0.out _ _) (by omega) (Nat.le_refl _) (by simp) ?_)
      intro vA wA htA hbA
      have hsA := hbA.size
      simp only [World.size_alloc] at hsA
      obtain ⟨ga, capA, rfl, hgA, hcA, hmA, hkA⟩ := KB.of_own htA HCL.out (by omega)
      have hBA : Below wr.heap.size wr wA := ((Below.refl wr.heap.size wr).alloc (Nat.le_refl _) _).trans (hbA.mono (by simp))
      have a0 := keep_cell hBA r0
      have lA : w1.heap.size < wA.heap.size := by omega
      have lA1 : w1.heap.size < wA.heap.size + 1 := by omega
      have HKA := Lib.hid hkA
      have hgl := hkA.lt
      have hcA' : capA ≤ 9223372036854775807 := by unfold maxLen at hmA; omega
      clear htA hbA hkA r0
      go_wp2_with (at_builtin; refine wpList_append_copyC (B := wA.heap.size + 1) (lo := wA.heap.size + 1) (R := rRaw) (E := NoT) (ys := css) (css := css) (by rfl) (.tmp 35) (.tmp 37) 46 (by rfl) sty_Kpr rRaw_goodT rRaw_one (by rfl) (by rfl) (empty0_newO _ _ (by simp) (by simp)) (HS0.out _ (bbel)) (HR0.out _ _) (by omega) (Nat.le_refl _) (by simp) ?_)
      intro vB wB htB hbB
      have hsB := hbB.size
      simp only [World.size_alloc] at hsB
      obtain ⟨gb, capB, rfl, hgB, hcB, hmB, hkB⟩ := KB.of_own htB HCL.out (by omega)
      have hBB : Below wr.heap.size wr wB := ((hBA.alloc (by omega) _).alloc (by first | omega | (simp; omega)) _).trans (hbB.mono (by first | omega | (simp; omega)))
      have b0 : wB.cell? ⟨w1.heap.size, 0, none⟩ = some (.slice fa fl fc) := cell_below hbB (by first | omega | (simp; omega)) (by go_simp)
      have b6 : wB.cell? ⟨wA.heap.size, 0, none⟩ = some (.slice (some ⟨ga, 0, none⟩) fl capA) := cell_below hbB (by first | omega | (simp; omega)) (by go_simp)
      have hKA : KB wB ga css := ((HKA.out.alloc _).alloc _).below hbB (by first | omega | (simp; omega))
      have hcB' : capB ≤ 9223372036854775807 := by unfold maxLen at hmB; omega
      have hne : ga ≠ gb := by omega
      have hgb := hkB.lt
      have hga := hKA.lt
      have HKA2 := Lib.hid hKA
      have HKB := Lib.hid hkB
      have pa0 : wB.cell? ⟨ga, i * 2, none⟩ = some (.slice oa on oc) := (hKA.row i _ HCI.out).2 0 _ rfl
      have pa1 : wB.cell? ⟨ga, i * 2 + 1, none⟩ = some (.slice aa an ac) := (hKA.row i _ HCI.out).2 1 _ rfl
      have pb1 : wB.cell? ⟨gb, i * 2 + 1, none⟩ = some (.slice aa an ac) := (hkB.row i _ HCI.out).2 1 _ rfl
      have fa0 := hKA.free (i * 2)
      have fa1 := hKA.free (i * 2 + 1)
      have fb1 := hkB.free (i * 2 + 1)
      obtain ⟨x1, x2, x3, x4, x5, x6, x7, h3⟩ := id HS.out
      cases x4
      obtain ⟨bp, off, rfl, _, hbp, hr⟩ := h3 (by omega)
      obtain ⟨kq, cq, q0, q1, q2, q3⟩ := hr i hlt
      obtain rfl : kp = kq := Option.some.inj (HKP.out.symm.trans q0)
      obtain ⟨p1, p2, eq, t1', t2'⟩ := q3
      subst eq
      obtain ⟨ob, on', oc', rfl⟩ := t1'.form
      obtain ⟨ab, an', ac', rfl⟩ := t2'.form
      obtain ⟨hon', hoc', hom2⟩ := t1'.len
      obtain rfl : on = on' := by have := HON.out; omega
      have hB1B : Below w1.heap.size w1 wB := (hB3.trans (hb.mono hB3.size)).trans (hBB.mono (by omega))
      have qp0 : wB.cell? ⟨bp, off + i * 2, none⟩ = some (.slice ob on oc') := keep_cell hB1B (q2 0 _ rfl)
      have qp1 : wB.cell? ⟨bp, off + i * 2 + 1, none⟩ = some (.slice ab an' ac') := keep_cell hB1B (q2 1 _ rfl)
      have T1 := Lib.hid t1'
      have hl_a0 : w1.heap.size < wB.heap.size := by omega
      have hl_a1 : w1.heap.size < wB.heap.size + 1 := by omega
      have hl_a2 : w1.heap.size < wB.heap.size + 1 + 1 := by omega
      have hl_b0 : wA.heap.size < wB.heap.size := by omega
      have hl_b1 : wA.heap.size < wB.heap.size + 1 := by omega
      have hl_b2 : wA.heap.size < wB.heap.size + 1 + 1 := by omega
      have hl_c0 : ga < wB.heap.size := by omega
      have hl_c1 : ga < wB.heap.size + 1 := by omega
      have hl_c2 : ga < wB.heap.size + 1 + 1 := by omega
      have hl_d0 : gb < wB.heap.size := by omega
      have hl_d1 : gb < wB.heap.size + 1 := by omega
      have hl_d2 : gb < wB.heap.size + 1 + 1 := by omega
      have hl_e0 : bp < wB.heap.size := by omega
      have hl_e1 : bp < wB.heap.size + 1 := by omega
      have hl_e2 : bp < wB.heap.size + 1 + 1 := by omega
      have hn0 : w1.heap.size ≠ ga := by omega
      have hn1 : w1.heap.size ≠ gb := by omega
      have hn2 : wA.heap.size ≠ ga := by omega
      have hn3 : wA.heap.size ≠ gb := by omega
      have hn4 : bp ≠ ga := by omega
      have hn5 : bp ≠ gb := by omega
      have hn6 : gb ≠ ga := by omega
      have hn7 : wB.heap.size ≠ ga := by omega
      have hn8 : wB.heap.size ≠ gb := by omega
      have hn9 : wB.heap.size + 1 ≠ ga := by omega
      have hn10 : wB.heap.size + 1 ≠ gb := by omega
      have hn11 : wB.heap.size + 1 + 1 ≠ ga := by omega
      have hn12 : wB.heap.size + 1 + 1 ≠ gb := by omega
      clear q0 q2 hr t1' t2' hbB htB hkB hKA HKA hBA hon' hom2
      have ROWS : ∀ (W : World) (g cap : Nat) (cs : List Value) (kx : DLodKeeper), fl ≤ cap → cap ≤ maxLen → Below w1.heap.size w1 W → rLodKeeper 0 W cs kx → KB W g (css.set i cs) → Sl 2 rLodKeeper 0 W (.slice (some ⟨g, 0, none⟩) fl cap) (pl.fKeepers.set i kx) := by
        intro W g cap cs kx hc hm hW hk hK
        refine hK.sl (by simp [HFL.out]) hc hm fun j x hx => ?_
        rcases set_at hx with ⟨rfl, rfl⟩ | ⟨hj, hx'⟩
        · exact ⟨cs, List.getElem?_set_self (by rw [HCL.out]; exact hlt), hk⟩
        · obtain ⟨ds, h1, h2, h3⟩ := HRW.out j x hx'
          exact ⟨ds, by rw [List.getElem?_set_ne (by omega)]; exact h1, rLodKeeper_good.1 _ _ _ _ _ (Keeps.of_below hW) h3⟩
      have NIL : ∀ W, wB.heap.size + 1 < W.heap.size → Sl 2 rLodAsk 0 W (.slice (some ⟨wB.heap.size + 1, 0, none⟩) 0 0) ([] : List DLodAsk) := fun W _ => ⟨_, 0, 0, rfl, rfl, Nat.le_refl _, Nat.zero_le _, fun h => absurd h (by omega)⟩
      obtain ⟨wZ, hwZ⟩ : ∃ wZ, wZ = ((((wB.setCell ⟨ga, i * 2 + 1, none⟩ (.slice (some ⟨wB.heap.size + 1, 0, none⟩) 0 0)).setCell ⟨gb, i * 2 + 1, none⟩ (.slice (some ⟨wB.heap.size + 1 + 1, 0, none⟩) 1 1)).alloc (.cells #[.slice (some ⟨gb, 0, none⟩) fl capB] 48)).alloc (.cells #[] 56)).alloc (.cells #[.string ⟨#[97]⟩, .int .i64 (fl : Int)] 56) := ⟨_, rfl⟩
      have hsZ : wZ.heap.size = wB.heap.size + 1 + 1 + 1 := by rw [hwZ]; simp [World.setCell]
      have hBZ : Below w1.heap.size w1 wZ := by rw [hwZ]; exact bbel
      have hB3B : Below w3.heap.size w3 wB := hb.trans (hBB.mono hbs)
      have hBZ3 : Below w3.heap.size w3 wZ := by rw [hwZ]; exact (((hB3B.setCell (by show w3.heap.size ≤ ga; omega) _).setCell (by show w3.heap.size ≤ gb; omega) _).alloc (by simp [World.setCell]; omega) _ |>.alloc (by simp [World.setCell]; omega) _ |>.alloc (by simp [World.setCell]; omega) _)
      have KBX : KB wZ ga (css.set i [.slice oa on oc, .slice (some ⟨wB.heap.size + 1, 0, none⟩) 0 0]) := by
        rw [hwZ]
        exact ((((HKA2.out.set (b := 1) HCI.out (by decide)).other (Ne.symm hne)).alloc _).alloc _).alloc _
      have KBY : KB wZ gb (css.set i [.slice oa on oc, .slice (some ⟨wB.heap.size + 1 + 1, 0, none⟩) 1 1]) := by
        rw [hwZ]
        exact ((((HKB.out.other hne).set (b := 1) HCI.out (by decide)).alloc _).alloc _).alloc _
      have y3 : wZ.cell? ⟨w1.heap.size, 0, none⟩ = some (.slice (some ⟨bp, off, none⟩) fl fc) := by rw [hwZ]; go_simp
      have y6 : wZ.cell? ⟨wA.heap.size, 0, none⟩ = some (.slice (some ⟨ga, 0, none⟩) fl capA) := by rw [hwZ]; go_simp
      have y7 : wZ.cell? ⟨wB.heap.size, 0, none⟩ = some (.slice (some ⟨gb, 0, none⟩) fl capB) := by rw [hwZ]; go_simp
      have y8 : wZ.cell? ⟨wB.heap.size + 1 + 1, 0, none⟩ = some (.string ⟨#[97]⟩) := by rw [hwZ]; go_simp
      have y9 : wZ.cell? ⟨wB.heap.size + 1 + 1, 1, none⟩ = some (.int .i64 (fl : Int)) := by rw [hwZ]; go_simp
      have ya : wZ.cell? ⟨ga, i * 2, none⟩ = some (.slice oa on oc) := (KBX.row i _ (List.getElem?_set_self (by rw [HCL.out]; exact hlt))).2 0 _ rfl
      have yf := KBX.free (i * 2)
      have yp : wZ.cell? ⟨bp, off + i * 2, none⟩ = some (.slice ob on oc') := by rw [hwZ]; go_simp
      have hzl : "".length = 0 := rfl
      clear hzl
      by_cases hz : 0 < on
      · obtain ⟨m, rfl⟩ : ∃ m, on = m + 1 := ⟨on - 1, by omega⟩
        have hm2 : (m : Int) ≤ (oc' : Int) := by omega
        have hmw : IntKind.i64.wrap (m : Int) = (m : Int) := IntWalk.i64_in _ (by omega)
        have la : ga < wZ.heap.size := by omega
        have lb : bp < wZ.heap.size := by omega
        have lc : w1.heap.size < wZ.heap.size := by omega
        have ld : wA.heap.size < wZ.heap.size := by omega
        go_wp2_with fail
        rw [← hwZ]
        clear hwZ
        go_region
        go_wp2_with fail
        obtain ⟨wX, hwX⟩ : ∃ wX, wX = (wZ.setCell ⟨ga, i * 2, none⟩ (.slice ob m oc')).drew := ⟨_, rfl⟩
        rw [← hwX]
        have hsX : wX.heap.size = wB.heap.size + 1 + 1 + 1 := by
          rw [hwX]
          show (wZ.setCell _ _).heap.size = _
          simp [World.setCell]
          omega
        have hBX : Below w1.heap.size w1 wX := by rw [hwX]; exact (hBZ.setCell (by show w1.heap.size ≤ ga; omega) _).drew
        have hBX3 : Below w3.heap.size w3 wX := by rw [hwX]; exact (hBZ3.setCell (by show w3.heap.size ≤ ga; omega) _).drew
        have KX : KB wX ga (css.set i [.slice ob m oc', .slice (some ⟨wB.heap.size + 1, 0, none⟩) 0 0]) := by
          rw [hwX]
          have h := KBX.set (i := i) (b := 0) (v := .slice ob m oc') (List.getElem?_set_self (by rw [HCL.out]; exact hlt)) (by decide)
          rw [List.set_set] at h
          exact h.kept (Nat.le_refl _) rfl
        have KY : KB wX gb (css.set i [.slice oa (m + 1) oc, .slice (some ⟨wB.heap.size + 1 + 1, 0, none⟩) 1 1]) := by
          rw [hwX]
          exact (KBY.other (c := ga) (o := i * 2) (v := .slice ob m oc') hne).kept (Nat.le_refl _) rfl
        have x3' : wX.cell? ⟨w1.heap.size, 0, none⟩ = some (.slice (some ⟨bp, off, none⟩) fl fc) := by rw [hwX]; go_simp
        have x7' : wX.cell? ⟨wB.heap.size, 0, none⟩ = some (.slice (some ⟨gb, 0, none⟩) fl capB) := by rw [hwX]; go_simp
        have x8' : wX.cell? ⟨wB.heap.size + 1 + 1, 0, none⟩ = some (.string ⟨#[97]⟩) := by rw [hwX]; go_simp
        have x9' : wX.cell? ⟨wB.heap.size + 1 + 1, 1, none⟩ = some (.int .i64 (fl : Int)) := by rw [hwX]; go_simp
        clear hwX
        refine (I_LodOk (lessLod pl i kp) _ _ (ROWS wX ga capA _ _ hcA hmA hBX ⟨_, _, rfl, by rw [HON.out, Nat.add_sub_cancel]; exact (T1.out.stays rClsClass_good (Keeps.of_below hBX)).take (j := m) (by omega), NIL wX (by omega)⟩ KX)).mono ?_
        rw [lessLod_ok HOK.out HKP.out]
        rintro _ w10 ⟨rfl, h10⟩
        have hs10 := h10.size
        (try simp only [World.size_setCell, World.size_drewN, World.size_drew] at hs10)
        have HB10 : Hid (Below w1.heap.size w1 w10) := Lib.hid (hBX.trans (h10.mono (by first | omega | (simp; omega))))
        have HY10 : Hid (KB w10 gb (css.set i [.slice oa (m + 1) oc, .slice (some ⟨wB.heap.size + 1 + 1, 0, none⟩) 1 1])) := Lib.hid (KY.below h10 (by first | omega | (simp; omega)))
        have z7 : w10.cell? ⟨wB.heap.size, 0, none⟩ = some (.slice (some ⟨gb, 0, none⟩) fl capB) := cell_below h10 (by first | omega | (simp; omega)) (by go_simp)
        have z8 := cell_below h10 (b := wB.heap.size + 1 + 1) (o := 0) (v := .string ⟨#[97]⟩) (by first | omega | (simp; omega)) (by go_simp)
        have z9 := cell_below h10 (b := wB.heap.size + 1 + 1) (o := 1) (v := .int .i64 (fl : Int)) (by first | omega | (simp; omega)) (by go_simp)
        have z0 : w10.cell? ⟨w1.heap.size, 0, none⟩ = some (.slice (some ⟨bp, off, none⟩) fl fc) := cell_below h10 (by first | omega | (simp; omega)) (by go_simp)
        have hsz : wB.heap.size + 1 + 1 + 1 ≤ w10.heap.size := by omega
        have SA : Sl 2 rLodAsk 0 w10 (.slice (some ⟨wB.heap.size + 1 + 1, 0, none⟩) 1 1) [⟨nA, (pl.fKeepers.length : Int)⟩] := by
          refine ⟨_, 1, 1, rfl, rfl, Nat.le_refl _, by decide, fun _ => ⟨wB.heap.size + 1 + 1, 0, rfl, Nat.zero_le _, by omega, fun k hk => ?_⟩⟩
          obtain rfl : k = 0 := by omega
          refine ⟨_, [.string ⟨#[97]⟩, .int .i64 (fl : Int)], rfl, rfl, fun q u hq => ?_, ⟨by rw [HFL.out]; rfl, by show (1 : Nat) ≤ maxLen; unfold maxLen; omega⟩⟩
          match q, hq with
          | 0, hq => cases hq; simpa using z8
          | 1, hq => cases hq; simpa using z9
          | q + 2, hq => simp at hq
        have SY : Sl 2 rLodKeeper 0 w10 (.slice (some ⟨gb, 0, none⟩) fl capB) (offLod pl i kp).fKeepers := ROWS w10 gb capB _ _ hcB hmB HB10.out ⟨_, _, rfl, HT1.out.stays rClsClass_good (Keeps.of_below HB10.out), SA⟩ HY10.out
        have SYH := Lib.hid SY
        have hB10 : Below w3.heap.size w3 w10 := hBX3.trans (h10.mono (by first | omega | (simp; omega)))
        clear SY SA z8 z9 h10
        go_wp2_with fail
        refine (I_LodOk (offLod pl i kp) _ _ SYH.out).mono ?_
        rw [offLod_not HKP.out]
        rintro _ w11 ⟨rfl, h11⟩
        have hB11 := hB10.trans (h11.mono hB10.size)
        clear h11 hB10
        go_wp2
        go_roundw
        case measure => simp [intOf]; omega
        case rel => exact ⟨i + 1, by omega, by go_num, hB11⟩
      · obtain rfl : on = 0 := by omega
        go_wp2_with fail
        rw [← hwZ]
        clear hwZ
        refine (I_LodOk (lessLod pl i kp) _ _ (ROWS wZ ga capA _ _ hcA hmA hBZ ⟨_, _, rfl, by rw [HON.out]; exact (HT1.out.stays rClsClass_good (Keeps.of_below hBZ)).take (j := 0) (Nat.zero_le _), NIL wZ (by omega)⟩ KBX)).mono ?_
        rw [lessLod_ok HOK.out HKP.out]
        rintro _ w10 ⟨rfl, h10⟩
        have hs10 := h10.size
        (try simp only [World.size_setCell, World.size_drewN, World.size_drew] at hs10)
        have HB10 : Hid (Below w1.heap.size w1 w10) := Lib.hid (hBZ.trans (h10.mono (by first | omega | (simp; omega))))
        have HY10 : Hid (KB w10 gb (css.set i [.slice oa 0 oc, .slice (some ⟨wB.heap.size + 1 + 1, 0, none⟩) 1 1])) := Lib.hid (KBY.below h10 (by first | omega | (simp; omega)))
        have z7 : w10.cell? ⟨wB.heap.size, 0, none⟩ = some (.slice (some ⟨gb, 0, none⟩) fl capB) := cell_below h10 (by first | omega | (simp; omega)) (by go_simp)
        have z8 := cell_below h10 (b := wB.heap.size + 1 + 1) (o := 0) (v := .string ⟨#[97]⟩) (by first | omega | (simp; omega)) (by go_simp)
        have z9 := cell_below h10 (b := wB.heap.size + 1 + 1) (o := 1) (v := .int .i64 (fl : Int)) (by first | omega | (simp; omega)) (by go_simp)
        have z0 : w10.cell? ⟨w1.heap.size, 0, none⟩ = some (.slice (some ⟨bp, off, none⟩) fl fc) := cell_below h10 (by first | omega | (simp; omega)) (by go_simp)
        have hsz : wB.heap.size + 1 + 1 + 1 ≤ w10.heap.size := by omega
        have SA : Sl 2 rLodAsk 0 w10 (.slice (some ⟨wB.heap.size + 1 + 1, 0, none⟩) 1 1) [⟨nA, (pl.fKeepers.length : Int)⟩] := by
          refine ⟨_, 1, 1, rfl, rfl, Nat.le_refl _, by decide, fun _ => ⟨wB.heap.size + 1 + 1, 0, rfl, Nat.zero_le _, by omega, fun k hk => ?_⟩⟩
          obtain rfl : k = 0 := by omega
          refine ⟨_, [.string ⟨#[97]⟩, .int .i64 (fl : Int)], rfl, rfl, fun q u hq => ?_, ⟨by rw [HFL.out]; rfl, by show (1 : Nat) ≤ maxLen; unfold maxLen; omega⟩⟩
          match q, hq with
          | 0, hq => cases hq; simpa using z8
          | 1, hq => cases hq; simpa using z9
          | q + 2, hq => simp at hq
        have SY : Sl 2 rLodKeeper 0 w10 (.slice (some ⟨gb, 0, none⟩) fl capB) (offLod pl i kp).fKeepers := ROWS w10 gb capB _ _ hcB hmB HB10.out ⟨_, _, rfl, HT1.out.stays rClsClass_good (Keeps.of_below HB10.out), SA⟩ HY10.out
        have SYH := Lib.hid SY
        have hB10 : Below w3.heap.size w3 w10 := hBZ3.trans (h10.mono (by first | omega | (simp; omega)))
        clear SY SA z8 z9 h10
        go_wp2_with fail
        refine (I_LodOk (offLod pl i kp) _ _ SYH.out).mono ?_
        rw [offLod_not HKP.out]
        rintro _ w11 ⟨rfl, h11⟩
        have hB11 := hB10.trans (h11.mono hB10.size)
        clear h11 hB10
        go_wp2
        go_roundw
        case measure => simp [intOf]; omega
        case rel => exact ⟨i + 1, by omega, by go_num, hB11⟩
    · obtain rfl : i = fl := by omega
      go_wp2
      all_goals (try go_returns)
      all_goals exact HR.out _ _ ⟨rfl, bbel⟩

end Go.Proofs.Ytcdmmnfdnmjnpaa
namespace Go.Proofs.Ytcdmmnfdnmjnpaa
open Go.ChangeShapes Go.WideShapes Go.ChangeAt Go.RowKit Go.Joins
theorem cells_u8 : Try.prog.cellsOf 5 = 1 := by kernel_rfl

set_option maxRecDepth 100000 in
theorem fnLodOk_lifted (os : Os) (started : os.Started) (H : Type) (enc : TypeId × Value → H) :
    ReturnsInHanded {} Try.checked os 6 .any (Rows.fnLodOkSpec.pre6 enc Try.prog Try.f6 Rows.fnLodOkRow.domain false) (Rows.fnLodOkSpec.post enc Try.prog Try.f6 false true false false) := by
  refine returnsInHanded_of_change (C := Try.checked) own started (by kernel_rfl) Try.func6
    (ChangeSpec.witness6 (enc := enc) (C := Try.checked) false ⟨#[], #[.slice none 0 0], []⟩ 8 (by kernel_rfl) (by kernel_rfl) (by kernel_rfl) (by kernel_rfl)) ?_
  intro W base args ds gs before hval0 hW hcnd _
  have hval : ∀ (j : Nat) t v, Try.f6.params[j]? = some t → args[j]? = some v → Value.okWide Try.prog W .any base t v := hval0
  have hW' := hW
  obtain ⟨p, q, hA0, hV, rfl, hfz, hnd⟩ := hW
  have hA : DataW.TrodAll enc Try.prog W 0 (fun _ => true) true Try.f6.params.toList args.toList ds p := hA0
  rw [Try.params6] at hA hval
  clear hA0 hval0
  obtain ⟨v0, d0, rfl, rfl, h0⟩ := trodAll_one hA
  obtain ⟨rfl, rfl⟩ := trodVars_none hV
  have b0 := open_bytes Try.underlying22 Try.underlying5 cells_u8 (hval 0 22 v0 rfl rfl) h0
  refine (L_FnLodOk v0 W b0).mono fun e W' h => ?_
  obtain ⟨rfl, hb⟩ := h
  exact ⟨_, rfl, law_post (s := Rows.fnLodOkSpec) hW' hb rfl rfl rfl Try.underlying4 (by rw [Try.params6]; kernel_rfl)⟩
theorem fnLodOk_holds : Rows.FnLodOkSaid :=
  OpenClaim.holds_of_wide 6 Try.f6 rfl rfl rfl rfl rfl rfl rfl ⟨rfl, rfl, rfl, rfl, rfl⟩ rfl rfl rfl rfl rfl (by kernel_rfl) Try.func6 (by kernel_rfl)
    (of_decide_eq_true (by kernel_rfl)) (by unfold Func.isWrapper; first | (rw [if_pos (by decide +kernel)]; kernel_rfl) | (rw [if_neg (by decide +kernel)]; exact ⟨rfl, rfl⟩))
    (fun os started H enc _ => fnLodOk_lifted os started H enc)

end Go.Proofs.Ytcdmmnfdnmjnpaa
