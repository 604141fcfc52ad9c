

/-
  The walks of the reference's LodChain, l3Has, LodUnder. Condition: the data can be read.
-/
import Derived.Test.YtejfecmmcghpmaaGreatUnder
namespace Go.Proofs.YtejfecmmcghpmaaGreat
set_option linter.unusedSimpArgs false
set_option linter.unusedVariables false
open Go.RowKit

set_option maxRecDepth 100000 in
set_option maxHeartbeats 8000000 in
theorem S_LodChain (x : DLodPlan) (v1 : Value) (r : DLodRef) (w : World) (s1 : Sl 2 rLodKeeper 0 w v1 x.fKeepers) (hn : r.fName.size ≤ maxLen) :
    Calls Tryz.prog 12 #[.agg #[v1], .agg #[.int .i64 r.fKeeper, .string r.fName]] w fun e w' => (∃ v, e = .returned v ∧ Refs w' w.heap.size v (lodChain x r)) ∧ Below w.heap.size w w' := by
  obtain ⟨a, len, cap, rfl⟩ := s1.form
  have HS := Lib.hid s1
  clear s1
  obtain ⟨jw, hjw⟩ : ∃ jw, jw = lodFind x r.fKeeper r.fName := ⟨_, rfl⟩
  have FA : ∀ W, Below w.heap.size w W → Calls Tryz.prog 23 #[.agg #[.slice a len cap], .int .i64 r.fKeeper, .string r.fName] W fun e w' => e = .returned (refT jw) ∧ Below W.heap.size W w' := fun W hW => by
    rw [hjw]; exact S_LodFind x _ r.fKeeper r.fName W (HS.out.stays rLodKeeper_good (Keeps.of_below hW)) hn
  have HJ := Lib.hid hjw
  clear hjw
  obtain ⟨⟨ak, an⟩, ac⟩ := jw
  unfold refT at FA
  dsimp only at FA
  obtain ⟨rk, rn⟩ := r
  dsimp only at FA hn ⊢
  refine calls_hide fun R HR => ?_
  go_enter Tryz.func12, Tryz.ntmps12
  go_wp2_with fail
  refine (FA _ (by (repeat' (first | (with_reducible exact Below.refl _ _) | (with_reducible refine Below.alloc ?_ ?_ _) | (with_reducible refine Below.setCell ?_ ?_ _) | (with_reducible refine Below.drew ?_) | (refine below_hyp (by assumption) ?_ ?_) | go_size)))).mono ?_
  rintro _ wA ⟨rfl, hA⟩
  have hEA : Below w.heap.size w wA := by (repeat' (first | (with_reducible exact Below.refl _ _) | (with_reducible refine Below.alloc ?_ ?_ _) | (with_reducible refine Below.setCell ?_ ?_ _) | (with_reducible refine Below.drew ?_) | (refine below_hyp (by assumption) ?_ ?_) | go_size))
  have hAs := (hA).size; (try simp only [World.size_alloc, World.size_setCell, World.size_drew] at hAs)
  obtain ⟨hAac, hAad, hAao, hAaf, hAag, hAap, hAaz, hAax, hAay⟩ := bfacts (n := w.heap.size) (k := 2) hA (by go_size) (by go_size); replace hAad := hAad (by decide); replace hAag := hAag (by decide); replace hAax := hAax (by decide); have hAac1 := fun o => hAac 1 o (by decide); have hAaf1 := fun o => hAaf 1 o (by decide); have hAaz1 := hAaz 1 (by decide); clear hAac hAaf hAaz
  by_cases ha : ac = 1
  · obtain ⟨q, hq⟩ : ∃ q, q = (ak == rk && an.toList == rn.toList) := ⟨_, rfl⟩
    cases q
    · have NO : Hid (lodChain x ⟨rk, rn⟩ = []) := Lib.hid (by
        unfold lodChain
        dsimp only
        rw [← HJ.out]
        rw [if_pos ha, if_neg (show ¬ refEq ⟨ak, an⟩ ⟨rk, rn⟩ = true by unfold refEq; dsimp only; rw [← hq]; simp)])
      have hq2 := hq.symm
      clear hq HJ
      subst ha
      go_wp2
      all_goals first
        | (exfalso; simp_all; done)
        | skip
      all_goals (try go_returns)
      all_goals exact HR.out _ _ ⟨⟨_, rfl, by rw [NO.out]; exact ⟨rfl, Or.inr ⟨_, 0, #[], rfl, by omega, heap_top (by simp), Nat.le_refl _, by decide, rfl, rfl⟩⟩⟩, by (repeat' (first | (with_reducible exact Below.refl _ _) | (with_reducible refine Below.alloc ?_ ?_ _) | (with_reducible refine Below.setCell ?_ ?_ _) | (with_reducible refine Below.drew ?_) | (refine below_hyp (by assumption) ?_ ?_) | go_size))⟩
    · obtain ⟨TH, rs, hrs, hcs⟩ := lodChain_there (p := x) (r := ⟨rk, rn⟩) hn (by rw [← HJ.out]; exact ha) (by rw [← HJ.out]; exact hq.symm)
      have hok := (lodFind_there (p := x) (k := rk) (nm := rn) hn (by have := HJ.out; rw [← this]; exact ha)).1
      have hsame : (⟨ak, an⟩ : DLodRef) = ⟨rk, rn⟩ := refEq_iff.1 hq.symm
      obtain ⟨rfl, rfl⟩ : ak = rk ∧ an = rn := by cases hsame; exact ⟨rfl, rfl⟩
      have HTH := Lib.hid TH
      have HRS := Lib.hid hrs
      have HCS := Lib.hid hcs
      have HOK := Lib.hid hok
      subst ha
      clear hq HJ TH hrs hcs hsame hok
      go_wp2_with fail
      refine (S_l3Chain x _ ⟨ak, an⟩ _ (HS.out.stays rLodKeeper_good (Keeps.of_below (hEA.trans (by (repeat' (first | (with_reducible exact Below.refl _ _) | (with_reducible refine Below.alloc ?_ ?_ _) | (with_reducible refine Below.setCell ?_ ?_ _) | (with_reducible refine Below.drew ?_) | (refine below_hyp (by assumption) ?_ ?_) | go_size)))))) HOK.out HTH.out).mono ?_
      rintro _ wB ⟨hB, v, rfl, hv⟩
      have hR := hv rs HRS.out
      have HRR : Hid (Refs wB w.heap.size v (lodChain x ⟨ak, an⟩)) := Lib.hid (by rw [HCS.out]; exact hR.low (by simp; omega))
      have hBs := hB.size
      simp only [World.size_alloc] at hBs
      have hEB : Below w.heap.size w wB := by (repeat' (first | (with_reducible exact Below.refl _ _) | (with_reducible refine Below.alloc ?_ ?_ _) | (with_reducible refine Below.setCell ?_ ?_ _) | (with_reducible refine Below.drew ?_) | (refine below_hyp (by assumption) ?_ ?_) | go_size))
      clear hv hR hB
      rw [show (chainR x ⟨ak, an⟩).isSome = true by rw [HRS.out]; rfl]
      go_wp2
      all_goals (try go_returns)
      all_goals exact HR.out _ _ ⟨⟨_, rfl, HRR.out⟩, hEB⟩
  · have NO : Hid (lodChain x ⟨rk, rn⟩ = []) := Lib.hid (by
      unfold lodChain
      dsimp only
      rw [← HJ.out]
      rw [if_neg ha])
    have ha2 : (ac == 1) = false := by simpa using ha
    have ha3 : (ac != 1) = true := by simpa using ha
    clear HJ
    go_wp2
    all_goals (try go_returns)
    all_goals exact HR.out _ _ ⟨⟨_, rfl, by rw [NO.out]; exact ⟨rfl, Or.inr ⟨_, 0, #[], rfl, by omega, heap_top (by simp), Nat.le_refl _, by decide, rfl, rfl⟩⟩⟩, by (repeat' (first | (with_reducible exact Below.refl _ _) | (with_reducible refine Below.alloc ?_ ?_ _) | (with_reducible refine Below.setCell ?_ ?_ _) | (with_reducible refine Below.drew ?_) | (refine below_hyp (by assumption) ?_ ?_) | go_size))⟩

set_option maxRecDepth 100000 in
set_option maxHeartbeats 8000000 in
theorem S_l3Has (rs : List DLodRef) (v : Value) (base : Nat) (b : DLodRef) (w : World) (hR : Refs w base v rs) :
    Calls Tryz.prog 58 #[v, .agg #[.int .i64 b.fKeeper, .string b.fName]] w fun e w' => e = .returned (.bool (rs.any fun x => refEq x b)) ∧ Below w.heap.size w w' := by
  obtain ⟨va, vc, rfl⟩ := hR.form0
  obtain ⟨n, hnl⟩ : ∃ n, n = rs.length := ⟨_, rfl⟩
  rw [← hnl] at hR ⊢
  have HN := Lib.hid hnl
  have RR := Lib.hid hR
  obtain ⟨z, hz⟩ : ∃ z, z = rs.any fun x => refEq x b := ⟨_, rfl⟩
  have HZ := Lib.hid hz
  rw [← hz]
  clear hnl hR hz
  obtain ⟨bk, bn⟩ := b
  dsimp only
  refine calls_hide fun R HR => ?_
  go_enter Tryz.func58, Tryz.ntmps58
  go_wp2_with fail
  go_loopw [5] (fun z wr => ∃ k : Nat, k ≤ n ∧ z = .int .i64 k ∧ EachTo (nots fun x => refEq x ⟨bk, bn⟩) rs k = true ∧ Below w.heap.size w wr ∧ wr.cell? ⟨w.heap.size, 0, none⟩ = some (.int .i64 bk) ∧ wr.cell? ⟨w.heap.size, 1, none⟩ = some (.string bn)) (fun z _ => n - (intOf z).toNat)
  case atStart => exact ⟨0, Nat.zero_le _, rfl, rfl, by (repeat' (first | (with_reducible exact Below.refl _ _) | (with_reducible refine Below.alloc ?_ ?_ _) | (with_reducible refine Below.setCell ?_ ?_ _) | (with_reducible refine Below.drew ?_) | (refine below_hyp (by assumption) ?_ ?_) | go_size)), by go_simp, by go_simp⟩
  case round =>
    obtain ⟨k, hk, rfl, hqa, hb, y0, y1⟩ := hrel
    have HQ := Lib.hid hqa
    have hbs := hb.size
    clear hqa
    by_cases hlt : k < n
    · obtain ⟨⟨xk, xn⟩, hx⟩ : ∃ x, rs[k]? = some x := ⟨_, List.getElem?_eq_getElem (by rw [← HN.out]; exact hlt)⟩
      have hR2 := RR.out
      rw [HN.out] at hR2
      obtain ⟨g, rc, he, hgb, hgn, hgm, hgl⟩ := hR2.form (by rw [← HN.out]; omega)
      rw [← HN.out] at he
      cases he
      obtain ⟨e0, e1⟩ := (RR.out.below hb).cell2 (by exact hx)
      have X := Lib.hid hx
      clear hx hR2
      dsimp only at e0 e1
      have hgr : g < wr.heap.size := block_lt_of_cell e0
      have hwr : w.heap.size < wr.heap.size := block_lt_of_cell y0
      have hn63 : k + 1 ≤ 9223372036854775807 := by have := HN.out; unfold maxLen at hgm; omega
      cases hq : refEq ⟨xk, xn⟩ ⟨bk, bn⟩
      · have HF := Lib.hid hq
        have hq2 : (xk == bk && xn.toList == bn.toList) = false := hq
        clear hq
        have bo : ∀ W, (binOp .eql 35 (.agg #[.int .i64 xk, .string xn]) (.agg #[.int .i64 bk, .string bn])).run Tryz.prog W = .ok (.bool false) W := fun W => by
          simp only [run_eql_struct, eq_ref, hq2]
          try simp [Result.andThen]
        clear hq2
        go_wp2_with fail
        go_region
        go_wp2
        go_roundw
        case measure => simp [intOf]; omega
        case rel => exact ⟨k + 1, by omega, by go_num, EachTo.step HQ.out X.out (by simp [nots, HF.out]), by (repeat' (first | (with_reducible exact Below.refl _ _) | (with_reducible refine Below.alloc ?_ ?_ _) | (with_reducible refine Below.setCell ?_ ?_ _) | (with_reducible refine Below.drew ?_) | (refine below_hyp (by assumption) ?_ ?_) | go_size)), by first | exact y0 | simpa using y0, by first | exact y1 | simpa using y1⟩
      · have heq := refEq_iff.1 hq
        obtain ⟨rfl, rfl⟩ : xk = bk ∧ xn = bn := by cases heq; exact ⟨rfl, rfl⟩
        have RV2 : Hid (z = true) := Lib.hid (by rw [HZ.out]; exact List.any_eq_true.2 ⟨_, List.mem_of_getElem? X.out, hq⟩)
        clear heq hq
        have bo : ∀ W, (binOp .eql 35 (.agg #[.int .i64 xk, .string xn]) (.agg #[.int .i64 xk, .string xn])).run Tryz.prog W = .ok (.bool true) W := fun W => by
          simp only [run_eql_struct, eq_ref]
          try simp [Result.andThen]
        go_wp2_with fail
        go_region
        go_wp2
        all_goals (try go_returns)
        all_goals exact HR.out _ _ ⟨by first | (rw [RV2.out]; done) | (rw [RV2.out]; rfl), by (repeat' (first | (with_reducible exact Below.refl _ _) | (with_reducible refine Below.alloc ?_ ?_ _) | (with_reducible refine Below.setCell ?_ ?_ _) | (with_reducible refine Below.drew ?_) | (refine below_hyp (by assumption) ?_ ?_) | go_size))⟩
    · obtain rfl : k = n := by omega
      have RV2 : Hid (z = false) := Lib.hid (by rw [HZ.out]; exact any_not HQ.out (by rw [← HN.out]; exact Nat.le_refl _))
      go_wp2
      all_goals (try go_returns)
      all_goals exact HR.out _ _ ⟨by rw [RV2.out]; rfl, hb⟩

set_option maxRecDepth 100000 in
set_option maxHeartbeats 8000000 in
theorem S_LodUnder (x : DLodPlan) (v1 : Value) (r b : DLodRef) (w : World) (s1 : Sl 2 rLodKeeper 0 w v1 x.fKeepers) (hn : r.fName.size ≤ maxLen) :
    Calls Tryz.prog 30 #[.agg #[v1], .agg #[.int .i64 r.fKeeper, .string r.fName], .agg #[.int .i64 b.fKeeper, .string b.fName]] w fun e w' => e = .returned (.bool (lodUnder x r b)) ∧ Below w.heap.size w w' := by
  obtain ⟨na1, nl1, nc1, rfl⟩ := s1.form
  have HS := Lib.hid s1
  clear s1
  obtain ⟨z, hz⟩ : ∃ z, z = lodUnder x r b := ⟨_, rfl⟩
  rw [← hz]
  have HA : ∀ (W : World) (v : Value) (base : Nat), Refs W base v (lodChain x r) → Calls Tryz.prog 58 #[v, .agg #[.int .i64 b.fKeeper, .string b.fName]] W fun e w' => e = .returned (.bool z) ∧ Below W.heap.size W w' := fun W v base h => by
    rw [hz]; exact S_l3Has _ v base b W h
  clear hz
  refine calls_hide fun R HR => ?_
  go_enter Tryz.func30, Tryz.ntmps30
  go_wp2_with fail
  obtain ⟨w2, hw2⟩ : ∃ w2, w2 = ((w.alloc (.cells #[.slice na1 nl1 nc1] 33)).alloc (.cells #[.int .i64 r.fKeeper, .string r.fName] 35)).alloc (.cells #[.int .i64 b.fKeeper, .string b.fName] 35) := ⟨_, rfl⟩
  rw [← hw2]
  have hE : Below w.heap.size w w2 := by rw [hw2]; (repeat' (first | (with_reducible exact Below.refl _ _) | (with_reducible refine Below.alloc ?_ ?_ _) | (with_reducible refine Below.setCell ?_ ?_ _) | (with_reducible refine Below.drew ?_) | (refine below_hyp (by assumption) ?_ ?_) | go_size))
  have hz := hE.size
  have hb2 : w.heap.size + 1 + 1 < w2.heap.size := by rw [hw2]; simp
  have q0' : w2.cell? ⟨w.heap.size, 0, none⟩ = some (.slice na1 nl1 nc1) := by rw [hw2]; go_simp
  have q1' : w2.cell? ⟨w.heap.size + 1, 0, none⟩ = some (.int .i64 r.fKeeper) := by rw [hw2]; go_simp
  have q2' : w2.cell? ⟨w.heap.size + 1, 1, none⟩ = some (.string r.fName) := by rw [hw2]; go_simp
  have q3' : w2.cell? ⟨w.heap.size + 1 + 1, 0, none⟩ = some (.int .i64 b.fKeeper) := by rw [hw2]; go_simp
  have q4' : w2.cell? ⟨w.heap.size + 1 + 1, 1, none⟩ = some (.string b.fName) := by rw [hw2]; go_simp
  have q0 : ∀ W, Below w2.heap.size w2 W → W.cell? ⟨w.heap.size, 0, none⟩ = some (.slice na1 nl1 nc1) := fun W hW => (hW.cell (p := ⟨w.heap.size, 0, none⟩) (by show w.heap.size < w2.heap.size; omega)).trans q0'
  have q1 : ∀ W, Below w2.heap.size w2 W → W.cell? ⟨w.heap.size + 1, 0, none⟩ = some (.int .i64 r.fKeeper) := fun W hW => (hW.cell (p := ⟨w.heap.size + 1, 0, none⟩) (by show w.heap.size + 1 < w2.heap.size; omega)).trans q1'
  have q2 : ∀ W, Below w2.heap.size w2 W → W.cell? ⟨w.heap.size + 1, 1, none⟩ = some (.string r.fName) := fun W hW => (hW.cell (p := ⟨w.heap.size + 1, 1, none⟩) (by show w.heap.size + 1 < w2.heap.size; omega)).trans q2'
  have q3 : ∀ W, Below w2.heap.size w2 W → W.cell? ⟨w.heap.size + 1 + 1, 0, none⟩ = some (.int .i64 b.fKeeper) := fun W hW => (hW.cell (p := ⟨w.heap.size + 1 + 1, 0, none⟩) (by show w.heap.size + 1 + 1 < w2.heap.size; omega)).trans q3'
  have q4 : ∀ W, Below w2.heap.size w2 W → W.cell? ⟨w.heap.size + 1 + 1, 1, none⟩ = some (.string b.fName) := fun W hW => (hW.cell (p := ⟨w.heap.size + 1 + 1, 1, none⟩) (by show w.heap.size + 1 + 1 < w2.heap.size; omega)).trans q4'
  have P1 : ∀ W, Below w2.heap.size w2 W → Sl 2 rLodKeeper 0 W (.slice na1 nl1 nc1) x.fKeepers := fun W hW => HS.out.stays rLodKeeper_good (Keeps.of_below (hE.trans (hW.mono hz)))
  clear hw2 q0' q1' q2' q3' q4'
  have keepA : ∀ x x' : World, Below x.heap.size x x' → Below w2.heap.size w2 x → Below w2.heap.size w2 x' := fun x x' hb e => keep_below hb e (Nat.le_refl _)
  go_region_held3 (fun x => Below w2.heap.size w2 x) (first | exact (Below.refl _ _).drew | exact keepA _ _ (by assumption) (by assumption)) (first | (go_at_call 12; refine (S_LodChain x _ r _ (P1 _ (by assumption)) hn).mono ?_; rintro _ _ ⟨⟨e1, rfl, u1⟩, _⟩) | (go_at_call 58; refine (HA _ _ _ u1).mono ?_; rintro _ _ ⟨rfl, _⟩))
  rename_i wA _ hA
  clear q0 q1 q2 q3 q4 keepA P1
  go_wp2
  all_goals (try go_returns)
  all_goals exact HR.out _ _ ⟨rfl, hE.trans (hA.mono hz)⟩

end Go.Proofs.YtejfecmmcghpmaaGreat
