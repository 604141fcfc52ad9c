

/-
  The walks of the program's chainLaid, canLay, LnkLaid. Condition: the data can be read.
-/
import Derived.Test.YtejfecmmcghpmaaGreatLaidI
import Derived.Test.YtejfecmmcghpmaaGreatLaidT
namespace Go.Proofs.YtejfecmmcghpmaaGreat
set_option linter.unusedSimpArgs false
set_option linter.unusedVariables false
open Go.RowKit

def pairsAt (p : DLodPlan) (rs : List DLodRef) (k : Nat) (a : DLodRef) : Bool := each (fun _ b => pairOk p a b) (rs.drop (k + 1))
theorem each_cons {α : Type} (f : Nat → α → Bool) (x : α) (xs : List α) : each f (x :: xs) = (f 0 x && each (fun k => f (k + 1)) xs) := by
  rw [Bool.eq_iff_iff, Bool.and_eq_true, each_iff, each_iff]
  constructor
  · intro h
    exact ⟨h 0 x rfl, fun k y hk => h (k + 1) y (by simpa using hk)⟩
  · rintro ⟨h0, h1⟩ k y hk
    cases k with
    | zero => simp at hk; subst hk; exact h0
    | succ k => exact h1 k y (by simpa using hk)
theorem laidAt_pairs {p : DLodPlan} {rs : List DLodRef} {k : Nat} {a : DLodRef} (e : rs[k]? = some a) : laidAt p rs k a = pairsAt p rs k a := by
  unfold laidAt pairsAt
  obtain ⟨hk, rfl⟩ := List.getElem?_eq_some_iff.1 e
  rw [List.drop_eq_getElem_cons hk, each_cons]
  have h1 : overL p rs[k] 0 rs[k] = true := by simp [overL]
  rw [h1, Bool.true_and]
  congr 1

set_option maxRecDepth 100000 in
set_option maxHeartbeats 8000000 in
theorem I_chainLaid (p : DLodPlan) (L : Nat) (v : Value) (rs : List DLodRef) (w : World) (hl : Lodge w L p) (hp : lodOk p = true) (sc : Sl 2 rLodRef 0 w v rs) (ht : ∀ x ∈ rs, There p x) :
    Calls Tryz.prog 81 #[.pointer (some ⟨L, 0, none⟩), v] w fun e w' => e = .returned (.bool (laidL p rs)) ∧ Below w.heap.size w w' := by
  obtain ⟨a, len, cap, rfl, hln, h1, h2, h3⟩ := id sc
  have m1 : len ≤ 9223372036854775807 := by unfold maxLen at h2; omega
  have m2 : cap ≤ 9223372036854775807 := by unfold maxLen at h2; omega
  have HLN := Lib.hid hln
  have HL := Lib.hid hl
  have HP := Lib.hid hp
  have HT := Lib.hid ht
  have H3 := Lib.hid h3
  have h1c := h1
  clear h2 hln hl hp ht h3
  obtain ⟨z, hz⟩ : ∃ z, z = laidL p rs := ⟨_, rfl⟩
  have HZ := Lib.hid hz
  rw [← hz]
  clear hz
  refine calls_hide fun R HR => ?_
  go_enter Tryz.func81, Tryz.ntmps81
  go_wp2_with fail
  go_loopw [11] (fun zi wr => ∃ k : Nat, k ≤ len ∧ zi = .int .i64 k ∧ EachTo (laidAt p rs) rs k = true ∧ Below w.heap.size w wr) (fun zi _ => len - (intOf zi).toNat)
  case atStart => exact ⟨0, Nat.zero_le _, rfl, rfl, by (repeat' (first | (with_reducible exact Below.refl _ _) | (with_reducible refine Below.alloc ?_ ?_ _) | (with_reducible refine Below.setCell ?_ ?_ _) | (with_reducible refine Below.drew ?_) | (refine below_hyp (by assumption) ?_ ?_) | go_size))⟩
  case round =>
    obtain ⟨k, hk, rfl, ha, hb⟩ := hrel
    have HA := Lib.hid ha
    clear ha
    have hbx := hb.size
    by_cases hlt : k < len
    rotate_left
    · obtain rfl : k = len := by omega
      have RV : Hid (z = true) := Lib.hid (by rw [HZ.out]; exact each_done HA.out HLN.out)
      go_wp2
      all_goals (try go_returns)
      all_goals exact HR.out _ _ ⟨by rw [RV.out]; rfl, hb⟩
    obtain ⟨b, off, rfl, _, hbl, hr⟩ := H3.out (by omega)
    obtain ⟨⟨xk, xn⟩, cs, e0, _, e1, e4⟩ := hr k hlt
    obtain ⟨rfl, bx⟩ := e4
    have q1 : wr.cell? ⟨b, off + k * 2, none⟩ = some (.int .i64 xk) := keep_cell hb (show w.cell? ⟨b, off + k * 2, none⟩ = some (.int .i64 xk) from e1 0 _ rfl)
    have q2 : wr.cell? ⟨b, off + k * 2 + 1, none⟩ = some (.string xn) := keep_cell hb (show w.cell? ⟨b, off + k * 2 + 1, none⟩ = some (.string xn) from e1 1 _ rfl)
    have X := Lib.hid e0
    have HRW := Lib.hid hr
    have g1 : ((k : Int) + 1) ≤ (len : Int) := by omega
    have g2 : (0 : Int) ≤ (k : Int) + 1 := by omega
    have g3 : ((k : Int) + 1) ≤ (cap : Int) := by omega
    have g4 : (len : Int) ≤ (cap : Int) := by omega
    clear e0 e1 hr
    by_cases hcap : cap = k + 1
    · obtain rfl : len = k + 1 := by omega
      subst hcap
      have PF : Hid (pairsAt p rs k ⟨xk, xn⟩ = true) := Lib.hid (by
        unfold pairsAt
        rw [List.drop_of_length_le (by rw [HLN.out]; exact Nat.le_refl _)]; rfl)
      go_wp2_with fail
      obtain ⟨wx, hwx⟩ : ∃ x, x = wr.alloc (.cells #[.int .i64 xk, .string xn] 35) := ⟨_, rfl⟩
      have hEA : Below w.heap.size w wx := by rw [hwx]; (repeat' (first | (with_reducible exact Below.refl _ _) | (with_reducible refine Below.alloc ?_ ?_ _) | (with_reducible refine Below.setCell ?_ ?_ _) | (with_reducible refine Below.drew ?_) | (refine below_hyp (by assumption) ?_ ?_) | go_size))
      rw [← hwx]
      clear hwx q1 q2
      go_loopw [21] (fun zj ws => zj = .int .i64 0 ∧ Below wx.heap.size wx ws) (fun zj _ => 0)
      case atStart => exact ⟨rfl, Below.refl _ _⟩
      case round =>
        obtain ⟨rfl, hb2⟩ := hrel
        have HE2 := Lib.hid (hEA.trans (hb2.mono hEA.size))
        have hf : ¬ ((0 : Int) < ((k + 1 - (k + 1) : Nat) : Int)) := by omega
        clear hb2 hEA
        go_wp2
        refine ⟨⟨_, _, _, _, _, ⟨k + 1, by omega, by go_num, EachTo.step HA.out X.out ((laidAt_pairs X.out).trans PF.out), HE2.out⟩, rfl, rfl, rfl, rfl, rfl⟩, by first | (simp [intOf]; done) | (simp [intOf]; omega)⟩
    go_wp2_with fail
    have hEA : Below w.heap.size w (wr.alloc (.cells #[.int .i64 xk, .string xn] 35)) := by (repeat' (first | (with_reducible exact Below.refl _ _) | (with_reducible refine Below.alloc ?_ ?_ _) | (with_reducible refine Below.setCell ?_ ?_ _) | (with_reducible refine Below.drew ?_) | (refine below_hyp (by assumption) ?_ ?_) | go_size))
    obtain ⟨wx, hwx⟩ : ∃ x, x = wr.alloc (.cells #[.int .i64 xk, .string xn] 35) := ⟨_, rfl⟩
    have x0 : wx.cell? ⟨wr.heap.size, 0, none⟩ = some (.int .i64 xk) := by rw [hwx]; go_simp
    have x1 : wx.cell? ⟨wr.heap.size, 1, none⟩ = some (.string xn) := by rw [hwx]; go_simp
    rw [← hwx] at hEA ⊢
    clear hwx q1 q2
    have hEs := hEA.size
    have TX := Lib.hid (HT.out _ (List.mem_of_getElem? X.out))
    obtain ⟨n, hn⟩ : ∃ n, n = len - (k + 1) := ⟨_, rfl⟩
    rw [← hn]
    have HN := Lib.hid hn
    have hn63 : n ≤ 9223372036854775807 := by omega
    have X0 := Lib.hid x0
    have X1 := Lib.hid x1
    clear hn x0 x1
    go_loopw [21] (fun zj ws => ∃ j : Nat, j ≤ n ∧ zj = .int .i64 j ∧ EachTo (fun _ b => pairOk p ⟨xk, xn⟩ b) (rs.drop (k + 1)) j = true ∧ Below wx.heap.size wx ws) (fun zj _ => n - (intOf zj).toNat)
    case atStart => exact ⟨0, Nat.zero_le _, rfl, rfl, Below.refl _ _⟩
    case round =>
      obtain ⟨j, hj, rfl, ha2, hb2⟩ := hrel
      obtain ⟨ws, hws⟩ : ∃ x, x = wr := ⟨_, rfl⟩
      subst hws
      have HA2 := Lib.hid ha2
      clear ha2
      have hE2 := hEA.trans (hb2.mono hEs)
      have hE2s := hE2.size
      have x0 := keep_cell hb2 X0.out
      have x1 := keep_cell hb2 X1.out
      have lx := block_lt_of_cell x0
      by_cases hlt2 : j < n
      rotate_left
      · obtain rfl : j = n := by omega
        have PF : Hid (pairsAt p rs k ⟨xk, xn⟩ = true) := Lib.hid (by
          unfold pairsAt
          exact each_done HA2.out (by rw [List.length_drop, HLN.out, HN.out]))
        go_wp2
        go_roundw
        case measure => simp [intOf]; omega
        case rel => exact ⟨k + 1, by omega, by go_num, EachTo.step HA.out X.out ((laidAt_pairs X.out).trans PF.out), hE2⟩
      have hkj : k + 1 + j < len := by have := HN.out; omega
      obtain ⟨⟨yk, yn⟩, cs', f0, _, f1, f4⟩ := HRW.out (k + 1 + j) hkj
      obtain ⟨rfl, by0⟩ := f4
      have r1 : ws.cell? ⟨b, off + (k + 1) * 2 + j * 2, none⟩ = some (.int .i64 yk) := keep_cell hE2 (by
        have h5 : w.cell? ⟨b, off + (k + 1 + j) * 2 + 0, none⟩ = some (.int .i64 yk) := f1 0 _ rfl
        rw [Nat.add_mul, ← Nat.add_assoc] at h5; exact h5)
      have r2 : ws.cell? ⟨b, off + (k + 1) * 2 + j * 2 + 1, none⟩ = some (.string yn) := keep_cell hE2 (by
        have h5 : w.cell? ⟨b, off + (k + 1 + j) * 2 + 1, none⟩ = some (.string yn) := f1 1 _ rfl
        rw [Nat.add_mul, ← Nat.add_assoc] at h5; exact h5)
      have Y : Hid ((rs.drop (k + 1))[j]? = some ⟨yk, yn⟩) := Lib.hid (by rw [List.getElem?_drop]; exact f0)
      obtain ⟨q, hq⟩ : ∃ q, q = pairOk p ⟨xk, xn⟩ ⟨yk, yn⟩ := ⟨_, rfl⟩
      have PL : ∀ W, Below ws.heap.size ws W → Calls Tryz.prog 101 #[.pointer (some ⟨L, 0, none⟩), .agg #[.int .i64 xk, .string xn], .agg #[.int .i64 yk, .string yn]] W fun e w' => e = .returned (.bool q) ∧ Below W.heap.size W w' := fun W hW => by
        rw [hq]; exact I_pairLaid p L ⟨xk, xn⟩ ⟨yk, yn⟩ W (HL.out.below (hE2.trans (hW.mono hE2s))) HP.out TX.out (HT.out _ (List.mem_of_getElem? f0))
      have HQ := Lib.hid hq
      clear f0 f1 hq
      go_wp2_with fail
      refine (PL _ (by (repeat' (first | (with_reducible exact Below.refl _ _) | (with_reducible refine Below.alloc ?_ ?_ _) | (with_reducible refine Below.setCell ?_ ?_ _) | (with_reducible refine Below.drew ?_) | (refine below_hyp (by assumption) ?_ ?_) | go_size)))).mono ?_
      rintro _ w5 ⟨rfl, h5⟩
      have h5s := (h5).size; (try simp only [World.size_alloc, World.size_setCell, World.size_drew] at h5s)
      have hW5 : Below ws.heap.size ws w5 := by (repeat' (first | (with_reducible exact Below.refl _ _) | (with_reducible refine Below.alloc ?_ ?_ _) | (with_reducible refine Below.setCell ?_ ?_ _) | (with_reducible refine Below.drew ?_) | (refine below_hyp (by assumption) ?_ ?_) | go_size))
      clear PL r1 r2
      cases q
      · have RV : Hid (z = false) := Lib.hid (by
          rw [HZ.out]
          refine each_stop X.out ?_
          rw [laidAt_pairs X.out]
          exact each_stop Y.out HQ.out.symm)
        go_wp2
        all_goals (try go_returns)
        all_goals exact HR.out _ _ ⟨by rw [RV.out]; rfl, hE2.trans (hW5.mono hE2s)⟩
      go_wp2
      go_roundw
      case measure => simp [intOf]; omega
      case rel => exact ⟨j + 1, by omega, by go_num, EachTo.step HA2.out Y.out HQ.out.symm, hb2.trans (hW5.mono hb2.size)⟩


set_option maxRecDepth 100000 in
set_option maxHeartbeats 8000000 in
theorem I_canLay (p : DLodPlan) (L : Nat) (r : DLodRef) (w0 w : World) (hl : LodgeF w0 w L p) (hp : lodOk p = true) (hn : r.fName.size ≤ maxLen) (hk : (Lit.int .i64 r.fKeeper).wf = true) :
    Calls Tryz.prog 65 #[.pointer (some ⟨L, 0, none⟩), .agg #[.int .i64 r.fKeeper, .string r.fName]] w fun e w' => e = .returned (.bool (lnkLaid p r)) ∧ Below w0.heap.size w0 w' := by
  obtain ⟨a, len, cap, bo, ba, bl, n, c0, c1, c2, c3, s, m1, m2, m3, hn1, hw, hb1, hb2, hb3, hb4, hb5⟩ := id hl
  have HL := Lib.hid hl.lodge
  have HP := Lib.hid hp
  have M3 := Lib.hid m3
  have HW := Lib.hid hw
  have hLl := block_lt_of_cell c0
  obtain ⟨rk, rn⟩ := r
  dsimp only at hn hk ⊢
  have KF : Hid (KeyFit rk rn) := Lib.hid ⟨hk, hn⟩
  clear c0 c1 c2 m1 m2 m3 hl hp s hw hk
  obtain ⟨z, hz⟩ : ∃ z, z = lnkLaid p ⟨rk, rn⟩ := ⟨_, rfl⟩
  have HZ := Lib.hid hz
  rw [← hz]
  clear hz
  refine calls_hide fun R HR => ?_
  go_enter Tryz.func65, Tryz.ntmps65
  go_wp2_with fail
  obtain ⟨wK, hwK⟩ : ∃ x, x = w.alloc (.cells #[.int .i64 rk, .string rn] 35) := ⟨_, rfl⟩
  have r0 : wK.cell? ⟨w.heap.size, 0, none⟩ = some (.int .i64 rk) := by rw [hwK]; go_simp
  have r1 : wK.cell? ⟨w.heap.size, 1, none⟩ = some (.string rn) := by rw [hwK]; go_simp
  have hEK : Below w.heap.size w wK := by rw [hwK]; (repeat' (first | (with_reducible exact Below.refl _ _) | (with_reducible refine Below.alloc ?_ ?_ _) | (with_reducible refine Below.setCell ?_ ?_ _) | (with_reducible refine Below.drew ?_) | (refine below_hyp (by assumption) ?_ ?_) | go_size))
  rw [← hwK]
  clear hwK
  have k3 := keep_cell hEK c3
  have N3 := In.cell k3
  have N0 := In.cell r0
  have N1 := In.cell r1
  have K3 := Lib.hid k3
  have R0 := Lib.hid r0
  have R1 := Lib.hid r1
  have LK : ∀ y : In wK, (Instr.lookup 101 (.map (some bl)) (.agg #[.int .i64 rk, .string rn]) false).run Tryz.prog y.x = .ok (.int .i64 0) y.x := fun y => by
    have := ((M3.out.below hEK).below y.h).look KF.out
    simpa using this
  clear r0 r1 c3 k3
  refine wp_region_in (by kernel_rfl) (by kernel_rfl) ?_
  repeat (go_big_quiet_step (first | fail))
  refine wpQuiet_nil ?_
  rintro wZ ⟨⟨w1, hw1⟩, hq⟩
  obtain rfl : w1 = wZ := hq.symm
  clear hq
  have hw1s := hw1.size
  (try dsimp only)
  clear N3 N0 N1 LK
  have hE1 := hEK.trans (hw1.mono hEK.size)
  have hE1s := hE1.size
  have r0 := keep_cell hw1 R0.out
  have r1 := keep_cell hw1 R1.out
  go_wp2_with fail
  refine (I_chain p L ⟨rk, rn⟩ w1 (HL.out.below hE1) HP.out hn).mono ?_
  rintro _ wA ⟨⟨v, rfl, hR⟩, hA⟩
  have hEA := hE1.trans (hA.mono hE1s)
  replace r0 := keep_cell hA r0
  replace r1 := keep_cell hA r1
  have k3 := keep_cell hA (keep_cell hw1 K3.out)
  obtain ⟨va, vc, rfl⟩ := hR.form0
  have HRR := Lib.hid hR
  obtain ⟨q, hnl⟩ : ∃ q, q = (lodChain p ⟨rk, rn⟩).length := ⟨_, rfl⟩
  rw [← hnl]
  have HN := Lib.hid hnl
  clear hR hnl
  by_cases h0 : q = 0
  · have RV : Hid (z = false) := Lib.hid (by
      rw [HZ.out]; unfold lnkLaid
      rw [List.eq_nil_of_length_eq_zero (HN.out.symm.trans h0)]; rfl)
    subst h0
    go_wp2_with fail
    go_still_tail 5, (by kernel_rfl)
    refine wpList_storeF rfl _ _ _ rfl (b := bl) (n := n) (k := rk) (s := rn) (i := 2) rfl rfl rfl ((M3.out.below (hEA)).kept rfl) KF.out (by decide) (by unfold maxLen; omega) ?_
    intro wS hmS hgS
    have hzS := hgS.size
    have hES : Below w0.heap.size w0 wS := (HW.out.trans ((hEA).mono HW.out.size)).drew.grown hgS (by show _ ≤ (wA).heap.size; exact (HW.out.trans ((hEA).mono HW.out.size)).size) (fun k h => by cases h; exact hb1)
    go_wp2
    (all_goals (try go_returns))
    (all_goals exact HR.out _ _ ⟨by first | (rw [RV.out]; done) | (rw [RV.out]; rfl), hES⟩)
  have hne : lodChain p ⟨rk, rn⟩ ≠ [] := fun e => h0 (by rw [HN.out, e]; rfl)
  obtain ⟨h1, h2, h3⟩ := lodChain_some hn hne
  have HAL := Lib.hid (chainF_there HP.out 6 _ _ h2 h3)
  have LN : Hid (lnkLaid p ⟨rk, rn⟩ = laidL p (lodChain p ⟨rk, rn⟩)) := Lib.hid (by
    unfold lnkLaid
    cases e : lodChain p ⟨rk, rn⟩ with
    | nil => exact absurd e hne
    | cons _ _ => rfl)
  have SL := Lib.hid (HRR.out.sl fun x hx => by obtain ⟨_, _, _, _, h⟩ := HAL.out x hx; exact h)
  rw [← HN.out] at SL
  have hq0 : 0 < q := by omega
  have hqq : ¬ (q : Int) = 0 := by omega
  obtain ⟨x, hx⟩ : ∃ x, x = laidL p (lodChain p ⟨rk, rn⟩) := ⟨_, rfl⟩
  have CL : ∀ W, Below wA.heap.size wA W → Calls Tryz.prog 81 #[.pointer (some ⟨L, 0, none⟩), .slice va q vc] W fun e w' => e = .returned (.bool x) ∧ Below W.heap.size W w' := fun W hW => by
    rw [hx]; exact I_chainLaid p L _ _ W (HL.out.below (hEA.trans (hW.mono hEA.size))) HP.out (SL.out.stays rLodRef_good (Keeps.of_below hW)) HAL.out
  have HX := Lib.hid hx
  clear h0 hne h1 h2 h3 hx
  go_wp2_with fail
  refine (CL _ (by (repeat' (first | (with_reducible exact Below.refl _ _) | (with_reducible refine Below.alloc ?_ ?_ _) | (with_reducible refine Below.setCell ?_ ?_ _) | (with_reducible refine Below.drew ?_) | (refine below_hyp (by assumption) ?_ ?_) | go_size)))).mono ?_
  rintro _ wC ⟨rfl, hC⟩
  have hEC := hEA.trans (hC.mono hEA.size)
  replace r0 := keep_cell hC r0
  replace r1 := keep_cell hC r1
  replace k3 := keep_cell hC k3
  have RV : Hid (z = x) := Lib.hid (by rw [HZ.out, LN.out, HX.out])
  clear CL
  cases x
  · go_wp2_with fail
    go_still_tail 5, (by kernel_rfl)
    refine wpList_storeF rfl _ _ _ rfl (b := bl) (n := n) (k := rk) (s := rn) (i := 2) rfl rfl rfl ((M3.out.below (hEC)).kept rfl) KF.out (by decide) (by unfold maxLen; omega) ?_
    intro wS hmS hgS
    have hzS := hgS.size
    have hES : Below w0.heap.size w0 wS := (HW.out.trans ((hEC).mono HW.out.size)).drew.grown hgS (by show _ ≤ (wC).heap.size; exact (HW.out.trans ((hEC).mono HW.out.size)).size) (fun k h => by cases h; exact hb1)
    go_wp2
    (all_goals (try go_returns))
    (all_goals exact HR.out _ _ ⟨by first | (rw [RV.out]; done) | (rw [RV.out]; rfl), hES⟩)
  · go_wp2_with fail
    go_still_tail 5, (by kernel_rfl)
    refine wpList_storeF rfl _ _ _ rfl (b := bl) (n := n) (k := rk) (s := rn) (i := 1) rfl rfl rfl ((M3.out.below (hEC)).kept rfl) KF.out (by decide) (by unfold maxLen; omega) ?_
    intro wS hmS hgS
    have hzS := hgS.size
    have hES : Below w0.heap.size w0 wS := (HW.out.trans ((hEC).mono HW.out.size)).drew.grown hgS (by show _ ≤ (wC).heap.size; exact (HW.out.trans ((hEC).mono HW.out.size)).size) (fun k h => by cases h; exact hb1)
    go_wp2
    (all_goals (try go_returns))
    (all_goals exact HR.out _ _ ⟨by first | (rw [RV.out]; done) | (rw [RV.out]; rfl), hES⟩)

set_option maxRecDepth 100000 in
set_option maxHeartbeats 8000000 in
theorem I_LnkLaid (x : DLodPlan) (v1 : Value) (r : DLodRef) (w : World) (s1 : Sl 2 rLodKeeper 0 w v1 x.fKeepers) (hn : r.fName.size ≤ maxLen) (hk : (Lit.int .i64 r.fKeeper).wf = true) :
    Calls Tryz.prog 37 #[.agg #[v1], .agg #[.int .i64 r.fKeeper, .string r.fName]] w fun e w' => e = .returned (.bool (lnkLaid x r)) ∧ Below w.heap.size w w' := by
  obtain ⟨a, len, cap, rfl⟩ := s1.form
  have HS := Lib.hid s1
  clear s1
  obtain ⟨z, hz⟩ : ∃ z, z = lnkLaid x r := ⟨_, rfl⟩
  have HZ := Lib.hid hz
  rw [← hz]
  clear hz
  have HK := Lib.hid hk
  clear hk
  refine calls_hide fun R HR => ?_
  go_enter Tryz.func37, Tryz.ntmps37
  go_wp2_with fail
  have hEw : Below w.heap.size w ((w.alloc (.cells #[.slice a len cap] 33)).alloc (.cells #[.int .i64 r.fKeeper, .string r.fName] 35)) := by (repeat' (first | (with_reducible exact Below.refl _ _) | (with_reducible refine Below.alloc ?_ ?_ _) | (with_reducible refine Below.setCell ?_ ?_ _) | (with_reducible refine Below.drew ?_) | (refine below_hyp (by assumption) ?_ ?_) | go_size))
  refine (I_newLodgeF x _ _ (HS.out.stays rLodKeeper_good (Keeps.of_below hEw))).mono ?_
  rintro _ wA ⟨hA, hq⟩
  have hEA : Below w.heap.size w wA := by (repeat' (first | (with_reducible exact Below.refl _ _) | (with_reducible refine Below.alloc ?_ ?_ _) | (with_reducible refine Below.setCell ?_ ?_ _) | (with_reducible refine Below.drew ?_) | (refine below_hyp (by assumption) ?_ ?_) | go_size))
  have hAs := (hA).size; (try simp only [World.size_alloc, World.size_setCell, World.size_drew] at hAs)
  obtain ⟨hAac, hAad, hAao, hAaf, hAag, hAap, hAaz, hAax, hAay⟩ := bfacts (n := w.heap.size) (k := 2) hA (by go_size) (by go_size); replace hAad := hAad (by decide); replace hAag := hAag (by decide); replace hAax := hAax (by decide); have hAac1 := fun o => hAac 1 o (by decide); have hAaf1 := fun o => hAaf 1 o (by decide); have hAaz1 := hAaz 1 (by decide); clear hAac hAaf hAaz
  rcases hq with ⟨hp, rfl⟩ | ⟨hp, L, rfl, hL⟩
  · have RV : Hid (z = false) := Lib.hid (by
      rw [HZ.out]
      cases e : lnkLaid x r with
      | false => rfl
      | true =>
        unfold lnkLaid at e
        have hne : lodChain x r ≠ [] := fun h => by rw [h] at e; simp at e
        have := (lodChain_some hn hne).1
        rw [hp] at this; cases this)
    clear hp
    go_wp2
    all_goals (try go_returns)
    all_goals exact HR.out _ _ ⟨by rw [RV.out]; rfl, hEA⟩
  have HP := Lib.hid hp
  clear hp
  go_wp2_with fail
  refine (I_canLay x L r _ wA hL HP.out hn HK.out).mono ?_
  rintro _ wC ⟨rfl, hC⟩
  have hEC : Below w.heap.size w wC := hEw.trans (hC.mono (by simp; omega))
  go_wp2
  all_goals (try go_returns)
  all_goals exact HR.out _ _ ⟨by rw [HZ.out]; rfl, hEC⟩

end Go.Proofs.YtejfecmmcghpmaaGreat
