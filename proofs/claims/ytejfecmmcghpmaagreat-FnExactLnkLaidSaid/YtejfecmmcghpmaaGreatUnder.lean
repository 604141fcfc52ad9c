

/-
  The walks of the program's under and LodUnder. Condition: the data can be read.
-/
import Derived.Test.YtejfecmmcghpmaaGreatChain
namespace Go.Proofs.YtejfecmmcghpmaaGreat
set_option linter.unusedSimpArgs false
set_option linter.unusedVariables false
open Go.RowKit

theorem flatR_at : ∀ {rs : List DLodRef} {k : Nat} {x : DLodRef}, rs[k]? = some x → (flatR rs)[k * 2]? = some (.int .i64 x.fKeeper) ∧ (flatR rs)[k * 2 + 1]? = some (.string x.fName)
  | [], k, x, h => by simp at h
  | y :: rs, 0, x, h => by simp at h; subst h; simp [flatR]
  | y :: rs, k + 1, x, h => by
    have h' : rs[k]? = some x := by simpa using h
    have := flatR_at h'
    rw [show (k + 1) * 2 = k * 2 + 2 by omega]
    simpa [flatR] using this
theorem Refs.cell2 {w : World} {base g n cap : Nat} {rs : List DLodRef} (h : Refs w base (.slice (some ⟨g, 0, none⟩) n cap) rs) {k : Nat} {x : DLodRef} (hk : rs[k]? = some x) : w.cell? ⟨g, k * 2, none⟩ = some (.int .i64 x.fKeeper) ∧ w.cell? ⟨g, k * 2 + 1, none⟩ = some (.string x.fName) := by
  obtain ⟨h1, h2⟩ := flatR_at hk
  have e1 := World.ownsRow.cells h (g := g) rfl _ _ h1
  have e2 := World.ownsRow.cells h (g := g) rfl _ _ h2
  rw [Addr.add_mid, Nat.zero_add] at e1 e2
  exact ⟨e1, e2⟩
theorem any_not {rs : List DLodRef} {b : DLodRef} {k : Nat} (h : EachTo (nots fun x => refEq x b) rs k = true) (hk : rs.length ≤ k) : rs.any (fun x => refEq x b) = false := by
  rw [Bool.eq_false_iff]
  intro hq
  obtain ⟨x, hx, hb⟩ := List.any_eq_true.1 hq
  obtain ⟨j, hj⟩ := List.mem_iff_getElem?.1 hx
  have := EachTo.mem h j x (by have := (List.getElem?_eq_some_iff.1 hj).1; omega) hj
  simp [nots, hb] at this

set_option maxRecDepth 100000 in
set_option maxHeartbeats 8000000 in
theorem I_under (p : DLodPlan) (L : Nat) (r b : DLodRef) (w : World) (hl : Lodge w L p) (hp : lodOk p = true) (hn : r.fName.size ≤ maxLen) :
    Calls Tryz.prog 59 #[.pointer (some ⟨L, 0, none⟩), .agg #[.int .i64 r.fKeeper, .string r.fName], .agg #[.int .i64 b.fKeeper, .string b.fName]] w fun e w' => e = .returned (.bool (lodUnder p r b)) ∧ Below w.heap.size w w' := by
  have HP := Lib.hid hp
  have HL := Lib.hid hl
  clear hl hp
  refine calls_hide fun R HR => ?_
  go_enter Tryz.func59, Tryz.ntmps59
  go_wp2_with fail
  refine (I_chain p L r _ (HL.out.below (by (repeat' (first | (with_reducible exact Below.refl _ _) | (with_reducible refine Below.alloc ?_ ?_ _) | (with_reducible refine Below.setCell ?_ ?_ _) | (with_reducible refine Below.drew ?_) | (refine below_hyp (by assumption) ?_ ?_) | go_size)))) HP.out hn).mono ?_
  rintro _ wA ⟨⟨v, rfl, hR⟩, hA⟩
  have hEA : Below w.heap.size w wA := by (repeat' (first | (with_reducible exact Below.refl _ _) | (with_reducible refine Below.alloc ?_ ?_ _) | (with_reducible refine Below.setCell ?_ ?_ _) | (with_reducible refine Below.drew ?_) | (refine below_hyp (by assumption) ?_ ?_) | go_size))
  have hAs := (hA).size; (try simp only [World.size_alloc, World.size_setCell, World.size_drew] at hAs)
  obtain ⟨hAac, hAad, hAao, hAaf, hAag, hAap, hAaz, hAax, hAay⟩ := bfacts (n := w.heap.size) (k := 2) hA (by go_size) (by go_size); replace hAad := hAad (by decide); replace hAag := hAag (by decide); replace hAax := hAax (by decide); have hAac1 := fun o => hAac 1 o (by decide); have hAaf1 := fun o => hAaf 1 o (by decide); have hAaz1 := hAaz 1 (by decide); clear hAac hAaf hAaz
  obtain ⟨rs, hrs⟩ : ∃ rs, rs = lodChain p r := ⟨_, rfl⟩
  have RV : Hid (lodUnder p r b = rs.any fun x => refEq x b) := Lib.hid (by rw [hrs]; rfl)
  rw [← hrs] at hR
  have u0 : wA.cell? ⟨w.heap.size + 1, 0, none⟩ = some (.int .i64 b.fKeeper) := by go_simp
  have u1 : wA.cell? ⟨w.heap.size + 1, 1, none⟩ = some (.string b.fName) := by go_simp
  obtain ⟨va, vc, rfl⟩ := hR.form0
  obtain ⟨n, hnl⟩ : ∃ n, n = rs.length := ⟨_, rfl⟩
  rw [← hnl]
  have HN := Lib.hid hnl
  have RR := Lib.hid hR
  have U0 := Lib.hid u0
  have U1 := Lib.hid u1
  clear hrs hR hnl u0 u1
  have hwA := block_lt_of_cell U0.out
  clear hAad hAag hAax hAay hAao hAap
  go_wp2_with fail
  go_loopw [13] (fun z wr => ∃ k : Nat, k ≤ n ∧ z = .int .i64 k ∧ EachTo (nots fun x => refEq x b) rs k = true ∧ Below wA.heap.size wA wr) (fun z _ => n - (intOf z).toNat)
  case atStart => exact ⟨0, Nat.zero_le _, rfl, rfl, Below.refl _ _⟩
  case round =>
    obtain ⟨k, hk, rfl, hqa, hb⟩ := hrel
    have HQ := Lib.hid hqa
    have hbs := hb.size
    clear hqa
    have y0 := keep_cell hb U0.out
    have y1 := keep_cell hb U1.out
    by_cases hlt : k < n
    · obtain ⟨⟨xk, xn⟩, hx⟩ : ∃ x, rs[k]? = some x := ⟨_, List.getElem?_eq_getElem (by rw [← HN.out]; exact hlt)⟩
      obtain ⟨g, rc, he, hgb, hgn, hgm, hgl⟩ := RR.out.form (by rw [← HN.out]; omega)
      rw [← HN.out] at he
      cases he
      obtain ⟨e0, e1⟩ := (RR.out.below hb).cell2 (by exact hx)
      have X := Lib.hid hx
      clear hx
      dsimp only at e0 e1
      obtain ⟨bk, bn⟩ := b
      dsimp only at y0 y1
      have hbl := block_lt_of_cell y0
      have hgr : g < wr.heap.size := block_lt_of_cell e0
      have hEr : Below w.heap.size w wr := hEA.trans (hb.mono hEA.size)
      have hErs := hEr.size
      have hn63 : k + 1 ≤ 9223372036854775807 := by have := HN.out; unfold maxLen at hgm; omega
      cases hq : refEq ⟨xk, xn⟩ ⟨bk, bn⟩
      · have HF := Lib.hid hq
        have hq2 : (xk == bk && xn.toList == bn.toList) = false := hq
        clear hq
        go_wp2
        all_goals first
          | (exfalso; simp_all; done)
          | skip
        all_goals
          go_roundw
          case measure => simp [intOf]; omega
          case rel => exact ⟨k + 1, by omega, by go_num, EachTo.step HQ.out X.out (by simp [nots, HF.out]), hb.alloc hbs _⟩
      · have heq := refEq_iff.1 hq
        obtain ⟨rfl, rfl⟩ : xk = bk ∧ xn = bn := by cases heq; exact ⟨rfl, rfl⟩
        have RV2 : Hid (lodUnder p r ⟨xk, xn⟩ = true) := Lib.hid (by rw [RV.out]; exact List.any_eq_true.2 ⟨_, List.mem_of_getElem? X.out, hq⟩)
        clear heq hq
        go_wp2
        all_goals (try go_returns)
        all_goals exact HR.out _ _ ⟨by first | (rw [RV2.out]; done) | (rw [RV2.out]; rfl), hEr.alloc hErs _⟩
    · obtain rfl : k = n := by omega
      have RV2 : Hid (lodUnder p r b = false) := Lib.hid (by rw [RV.out]; exact any_not HQ.out (by rw [← HN.out]; exact Nat.le_refl _))
      go_wp2
      all_goals (try go_returns)
      all_goals exact HR.out _ _ ⟨by rw [RV2.out]; rfl, hEA.trans (hb.mono hEA.size)⟩

theorem lodUnder_no {p : DLodPlan} (h : lodOk p = false) (r b : DLodRef) : lodUnder p r b = false := by
  unfold lodUnder lodChain
  rw [lodFind_no h]; rfl

set_option maxRecDepth 100000 in
set_option maxHeartbeats 8000000 in
theorem I_LodUnder (x : DLodPlan) (v1 : Value) (r b : DLodRef) (w : World) (s1 : Sl 2 rLodKeeper 0 w v1 x.fKeepers) (hn : r.fName.size ≤ maxLen) :
    Calls Tryz.prog 31 #[.agg #[v1], .agg #[.int .i64 r.fKeeper, .string r.fName], .agg #[.int .i64 b.fKeeper, .string b.fName]] w fun e w' => e = .returned (.bool (lodUnder x r b)) ∧ Below w.heap.size w w' := by
  obtain ⟨a, len, cap, rfl⟩ := s1.form
  obtain ⟨z, hz⟩ : ∃ z, z = lodUnder x r b := ⟨_, rfl⟩
  have HZ := Lib.hid hz
  rw [← hz]
  refine calls_hide fun R HR => ?_
  go_enter Tryz.func31, Tryz.ntmps31
  go_wp2_with fail
  refine (I_newLodge x _ _ (s1.stays rLodKeeper_good (Keeps.of_below' (B := w.heap.size) (by (repeat' (first | (with_reducible exact Below.refl _ _) | (with_reducible refine Below.alloc ?_ ?_ _) | (with_reducible refine Below.setCell ?_ ?_ _) | (with_reducible refine Below.drew ?_) | (refine below_hyp (by assumption) ?_ ?_) | go_size))) (Nat.le_refl _)))).mono ?_
  rintro _ wA ⟨hA, hq⟩
  have hEA : Below w.heap.size w wA := by (repeat' (first | (with_reducible exact Below.refl _ _) | (with_reducible refine Below.alloc ?_ ?_ _) | (with_reducible refine Below.setCell ?_ ?_ _) | (with_reducible refine Below.drew ?_) | (refine below_hyp (by assumption) ?_ ?_) | go_size))
  have hAs := (hA).size; (try simp only [World.size_alloc, World.size_setCell, World.size_drew] at hAs)
  obtain ⟨hAac, hAad, hAao, hAaf, hAag, hAap, hAaz, hAax, hAay⟩ := bfacts (n := w.heap.size) (k := 3) hA (by go_size) (by go_size); replace hAad := hAad (by decide); replace hAag := hAag (by decide); replace hAax := hAax (by decide); have hAac1 := fun o => hAac 1 o (by decide); have hAaf1 := fun o => hAaf 1 o (by decide); have hAaz1 := hAaz 1 (by decide); have hAac2 := fun o => hAac 2 o (by decide); have hAaf2 := fun o => hAaf 2 o (by decide); have hAaz2 := hAaz 2 (by decide); clear hAac hAaf hAaz
  rcases hq with ⟨hno, rfl⟩ | ⟨hy, L, rfl, hL⟩
  · have RV : Hid (z = false) := Lib.hid (HZ.out.trans (lodUnder_no hno r b))
    clear hno hz
    go_wp2
    all_goals (try go_returns)
    all_goals exact HR.out _ _ ⟨by rw [RV.out]; rfl, by (repeat' (first | (with_reducible exact Below.refl _ _) | (with_reducible refine Below.alloc ?_ ?_ _) | (with_reducible refine Below.setCell ?_ ?_ _) | (with_reducible refine Below.drew ?_) | (refine below_hyp (by assumption) ?_ ?_) | go_size))⟩
  · have HL := Lib.hid hL
    have HY := Lib.hid hy
    clear hL hy hz
    go_wp2_with fail
    refine (I_under x L r b _ HL.out HY.out hn).mono ?_
    rintro _ wB ⟨rfl, hB⟩
    have hBs := (hB).size; (try simp only [World.size_alloc, World.size_setCell, World.size_drew] at hBs)
    go_wp2
    all_goals (try go_returns)
    all_goals exact HR.out _ _ ⟨by rw [HZ.out]; rfl, by (repeat' (first | (with_reducible exact Below.refl _ _) | (with_reducible refine Below.alloc ?_ ?_ _) | (with_reducible refine Below.setCell ?_ ?_ _) | (with_reducible refine Below.drew ?_) | (refine below_hyp (by assumption) ?_ ?_) | go_size))⟩

end Go.Proofs.YtejfecmmcghpmaaGreat
