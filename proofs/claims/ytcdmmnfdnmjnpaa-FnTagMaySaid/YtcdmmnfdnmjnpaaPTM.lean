/-
  Texts of mine, packed: DrawT, LawTM, RowTM. No condition beside those of the single theorems.
-/
import Derived.Test.YtcdmmnfdnmjnpaaK12
import Derived.Test.YtcdmmnfdnmjnpaaK19
import Derived.Test.YtcdmmnfdnmjnpaaK18
import Derived.Test.YtcdmmnfdnmjnpaaK13
set_option linter.unusedSimpArgs false
set_option linter.unusedVariables false
namespace Go.Proofs.Ytcdmmnfdnmjnpaa
open Go.RowKit
set_option maxRecDepth 100000 in
set_option maxHeartbeats 4000000 in
theorem S_DrawTagMay (v : Value) (w : World) (hv : Bytes w v) :
    Calls Try.prog 40 #[v] w fun e w' => (∃ (pv : Value) (pl : DLodPlan) (k ak bk : Int) (an bn : ByteArray), e = .returned (.tuple #[.agg #[pv], .int .i64 k, .agg #[.int .i64 ak, .string an], .agg #[.int .i64 bk, .string bn]]) ∧ Sl 2 rLodKeeper 0 w' pv pl.fKeepers ∧ -1 ≤ k ∧ k ≤ 3 ∧ an.size ≤ 4 ∧ bn.size ≤ 4) ∧ Below w.heap.size w w' := by
  have hv' := hv
  refine calls_hide fun R HR => ?_
  go_enter Try.func40, Try.ntmps40
  go_wp2_with fail
  refine (S_l20Open _ _ (by first | exact hv' | exact hv'.alloc _ | exact (hv'.alloc _).alloc _ | exact ((hv'.alloc _).alloc _).alloc _)).mono ?_
  rintro e w1 ⟨rfl, h1, h2, h3⟩
  simp only [World.size_alloc] at h1 h2 h3
  have h2s := (h2).size; (try simp only [World.size_alloc, World.size_setCell, World.size_drew] at h2s)
  obtain ⟨h2ad, h2ao, h2ag, h2ap, h2ax, h2ay, h2ac1, h2af1, h2az1, h2ac2, h2af2, h2az2⟩ := bf3 (n := w.heap.size) h2
  go_wp2_with fail
  refine (S_l20PlanOr _ 0 14 _ (by omega) (by omega) (rdd) (by omega)).mono ?_
  rintro e w2 ⟨pv, pl, q, rfl, hs, hnr, hq, h4, h5⟩
  obtain ⟨a, len, cap, rfl⟩ := hs.form
  have HS := Lib.hid hs
  clear hs hnr
  have h5s := (h5).size; (try simp only [World.size_alloc, World.size_setCell, World.size_drew] at h5s)
  obtain ⟨h5bc, h5bd, h5bf, h5bg, h5bz, h5bx, h5by⟩ := efacts (n := w.heap.size) (k := 3) h5 (by go_size) (by go_size) (by first | omega | (simp; omega)); replace h5bd := h5bd (by decide); replace h5bg := h5bg (by decide); replace h5bx := h5bx (by decide); have h5bc1 := fun o => h5bc 1 o (by decide); have h5bf1 := fun o => h5bf 1 o (by decide); have h5bz1 := h5bz 1 (by decide); have h5bc2 := fun o => h5bc 2 o (by decide); have h5bf2 := fun o => h5bf 2 o (by decide); have h5bz2 := h5bz 2 (by decide); clear h5bc h5bf h5bz
  go_wp2_with fail
  refine (S_pick _ q 4 _ (by omega) (rdd) (by omega)).mono ?_
  rintro e w3 ⟨⟨x, hx, rfl⟩, h6, h7⟩
  have h7s := (h7).size; (try simp only [World.size_alloc, World.size_setCell, World.size_drew] at h7s)
  obtain ⟨h7cc, h7cd, h7cf, h7cg, h7cz, h7cx, h7cy⟩ := efacts (n := w.heap.size) (k := 3) h7 (by go_size) (by go_size) (by first | omega | (simp; omega)); replace h7cd := h7cd (by decide); replace h7cg := h7cg (by decide); replace h7cx := h7cx (by decide); have h7cc1 := fun o => h7cc 1 o (by decide); have h7cf1 := fun o => h7cf 1 o (by decide); have h7cz1 := h7cz 1 (by decide); have h7cc2 := fun o => h7cc 2 o (by decide); have h7cf2 := fun o => h7cf 2 o (by decide); have h7cz2 := h7cz 2 (by decide); clear h7cc h7cf h7cz
  obtain ⟨h7xc, h7xd, h7xf, h7xg, h7xz, h7xx, h7xy⟩ := efacts (n := w2.heap.size) (k := 1) h7 (by go_size) (by go_size) (by first | omega | (simp; omega)); replace h7xd := h7xd (by decide); replace h7xg := h7xg (by decide); replace h7xx := h7xx (by decide); clear h7xc h7xf h7xz
  have hx5 : 0 ≤ x ∧ x ≤ 3 := by obtain ⟨h1, h2, h3⟩ := hx; omega
  clear hx
  go_wp2_with fail
  refine (S_pick _ (q + 1) 2 _ (by omega) (rdd) (by omega)).mono ?_
  rintro e w4 ⟨⟨y, hy, rfl⟩, h8, h9⟩
  have h9s := (h9).size; (try simp only [World.size_alloc, World.size_setCell, World.size_drew] at h9s)
  obtain ⟨h9dc, h9dd, h9df, h9dg, h9dz, h9dx, h9dy⟩ := efacts (n := w.heap.size) (k := 3) h9 (by go_size) (by go_size) (by first | omega | (simp; omega)); replace h9dd := h9dd (by decide); replace h9dg := h9dg (by decide); replace h9dx := h9dx (by decide); have h9dc1 := fun o => h9dc 1 o (by decide); have h9df1 := fun o => h9df 1 o (by decide); have h9dz1 := h9dz 1 (by decide); have h9dc2 := fun o => h9dc 2 o (by decide); have h9df2 := fun o => h9df 2 o (by decide); have h9dz2 := h9dz 2 (by decide); clear h9dc h9df h9dz
  obtain ⟨h9yc, h9yd, h9yf, h9yg, h9yz, h9yx, h9yy⟩ := efacts (n := w2.heap.size) (k := 1) h9 (by go_size) (by go_size) (by first | omega | (simp; omega)); replace h9yd := h9yd (by decide); replace h9yg := h9yg (by decide); replace h9yx := h9yx (by decide); clear h9yc h9yf h9yz
  have hy5 : 0 ≤ y ∧ y ≤ 1 := by obtain ⟨h1, h2, h3⟩ := hy; omega
  clear hy
  have hwr : IntKind.i64.wrap (x - y) = x - y := IntWalk.i64_in _ (by omega)
  go_wp2_with fail
  refine (S_l20Tag _ (q + 1 + 1) 20 _ (by omega) (by omega) (rdd) (by omega)).mono ?_
  rintro e w5 ⟨⟨kv, ⟨kk, kn, rfl, hkn, _, _⟩, rfl⟩, h10, h11⟩
  have h11s := (h11).size; (try simp only [World.size_alloc, World.size_setCell, World.size_drew] at h11s)
  obtain ⟨h11fc, h11fd, h11ff, h11fg, h11fz, h11fx, h11fy⟩ := efacts (n := w.heap.size) (k := 3) h11 (by go_size) (by go_size) (by first | omega | (simp; omega)); replace h11fd := h11fd (by decide); replace h11fg := h11fg (by decide); replace h11fx := h11fx (by decide); have h11fc1 := fun o => h11fc 1 o (by decide); have h11ff1 := fun o => h11ff 1 o (by decide); have h11fz1 := h11fz 1 (by decide); have h11fc2 := fun o => h11fc 2 o (by decide); have h11ff2 := fun o => h11ff 2 o (by decide); have h11fz2 := h11fz 2 (by decide); clear h11fc h11ff h11fz
  obtain ⟨h11zc, h11zd, h11zf, h11zg, h11zz, h11zx, h11zy⟩ := efacts (n := w2.heap.size) (k := 1) h11 (by go_size) (by go_size) (by first | omega | (simp; omega)); replace h11zd := h11zd (by decide); replace h11zg := h11zg (by decide); replace h11zx := h11zx (by decide); clear h11zc h11zf h11zz
  go_wp2_with fail
  refine (S_pick _ (q + 1 + 1 + 2) 5 _ (by omega) (rdd) (by omega)).mono ?_
  rintro e w6 ⟨⟨z, hz, rfl⟩, h12, h13⟩
  have h13s := (h13).size; (try simp only [World.size_alloc, World.size_setCell, World.size_drew] at h13s)
  obtain ⟨h13gc, h13gd, h13gf, h13gg, h13gz, h13gx, h13gy⟩ := efacts (n := w.heap.size) (k := 3) h13 (by go_size) (by go_size) (by first | omega | (simp; omega)); replace h13gd := h13gd (by decide); replace h13gg := h13gg (by decide); replace h13gx := h13gx (by decide); have h13gc1 := fun o => h13gc 1 o (by decide); have h13gf1 := fun o => h13gf 1 o (by decide); have h13gz1 := h13gz 1 (by decide); have h13gc2 := fun o => h13gc 2 o (by decide); have h13gf2 := fun o => h13gf 2 o (by decide); have h13gz2 := h13gz 2 (by decide); clear h13gc h13gf h13gz
  obtain ⟨h13uc, h13ud, h13uf, h13ug, h13uz, h13ux, h13uy⟩ := efacts (n := w2.heap.size) (k := 1) h13 (by go_size) (by go_size) (by first | omega | (simp; omega)); replace h13ud := h13ud (by decide); replace h13ug := h13ug (by decide); replace h13ux := h13ux (by decide); clear h13uc h13uf h13uz
  obtain ⟨h13vc, h13vd, h13vf, h13vg, h13vz, h13vx, h13vy⟩ := efacts (n := w5.heap.size) (k := 1) h13 (by go_size) (by go_size) (by first | omega | (simp; omega)); replace h13vd := h13vd (by decide); replace h13vg := h13vg (by decide); replace h13vx := h13vx (by decide); clear h13vc h13vf h13vz
  have hlt := h12.lt
  have c7 : w6.cell? ⟨w2.heap.size, 0, none⟩ = some (.slice a len cap) := by go_simp
  have c9 : w6.cell? ⟨w5.heap.size, 0, none⟩ = some (.int .i64 kk) := by go_simp
  have d9 : w6.cell? ⟨w5.heap.size, 1, none⟩ = some (.string kn) := by go_simp
  have e0 : w6.cell? ⟨w.heap.size, 0, none⟩ = some (.slice none 0 0) := by go_simp
  have e1 : w6.cell? ⟨w.heap.size + 1, 0, none⟩ = some (.int .i64 0) := by go_simp
  have e2 : w6.cell? ⟨w.heap.size + 1, 1, none⟩ = some (.string ⟨#[]⟩) := by go_simp
  have e3 : w6.cell? ⟨w.heap.size + 1 + 1, 0, none⟩ = some (.int .i64 0) := by go_simp
  have e4 : w6.cell? ⟨w.heap.size + 1 + 1, 1, none⟩ = some (.string ⟨#[]⟩) := by go_simp
  have f0 : w6.frozen? ⟨w.heap.size, 0, none⟩ = false := by go_simp
  have f1 : w6.frozen? ⟨w.heap.size + 1, 0, none⟩ = false := by go_simp
  have f2 : w6.frozen? ⟨w.heap.size + 1, 1, none⟩ = false := by go_simp
  have f3 : w6.frozen? ⟨w.heap.size + 1 + 1, 0, none⟩ = false := by go_simp
  have f4 : w6.frozen? ⟨w.heap.size + 1 + 1, 1, none⟩ = false := by go_simp
  have EW : Hid (Ex (w.heap.size + 1 + 1 + 1) w.heap.size w w6) := Lib.hid (eexx)
  have k3 : Keeps w1.heap.size w2 w3 := (Keeps.alloc (Keeps.refl _ _) _).trans2 (Keeps.of_ex h7 h3 (Nat.le_refl _))
  have k5 : Keeps w1.heap.size w2 w5 := (k3.trans2 (Keeps.of_ex h9 h3 (Nat.le_refl _))).trans2 (Keeps.of_ex h11 h3 (Nat.le_refl _))
  have k6 : Keeps w1.heap.size w2 w6 := (Keeps.alloc k5 _).trans2 (Keeps.of_ex h13 h3 (Nat.le_refl _))
  have HS6 : Hid (Sl 2 rLodKeeper w1.heap.size w6 (.slice a len cap) pl.fKeepers) := Lib.hid (HS.out.stays rLodKeeper_good k6)
  clear k3 k5 k6
  have hr2 : w.heap.size + 1 + 1 + 1 < w2.heap.size := by omega
  have hl2 : w2.heap.size < w6.heap.size := block_lt_of_cell c7
  have hl5 : w5.heap.size < w6.heap.size := block_lt_of_cell c9
  clear h2ad h2ag h2ax h2ay h2ac1 h2ac2 h2af1 h2af2 h2az1 h2az2 h2ao h2ap h5bd h5bg h5bx h5by h5bc1 h5bc2 h5bf1 h5bf2 h5bz1 h5bz2 h7cd h7cg h7cx h7cy h7cc1 h7cc2 h7cf1 h7cf2 h7cz1 h7cz2 h9dd h9dg h9dx h9dy h9dc1 h9dc2 h9df1 h9df2 h9dz1 h9dz2 h11fd h11fg h11fx h11fy h11fc1 h11fc2 h11ff1 h11ff2 h11fz1 h11fz2 h13gd h13gg h13gx h13gy h13gc1 h13gc2 h13gf1 h13gf2 h13gz1 h13gz2 h7xd h7xg h7xx h7xy h9yd h9yg h9yx h9yy h11zd h11zg h11zx h11zy h13ud h13ug h13ux h13uy h13vd h13vg h13vx h13vy h2 h5 h7 h9 h11 h13
  have hxy : 0 ≤ x - y + 1 ∧ x - y ≤ 3 := by omega
  obtain ⟨xy, hxy2⟩ : ∃ k, x - y = k := ⟨_, rfl⟩
  rw [hxy2] at hxy ⊢
  clear hxy2 hwr hx5 hy5
  by_cases hz0 : z = 0
  · subst hz0
    have EW7 := EW.out
    go_wp2_with fail
    go_region
    all_goals
      go_wp2
      refine bodyPost_ret (v := ?_) ?hrun rfl ?_
      case hrun => (simp only [results, Try.results40]; go_simp; first | done | exact rfl)
      exact HR.out _ _ ⟨⟨_, pl, xy, kk, kk, kn, kn, rfl, (HS6.out.stays rLodKeeper_good (by (repeat' (first | (with_reducible exact Keeps.refl _ _) | (with_reducible refine Keeps.alloc ?_ _) | (with_reducible refine Keeps.setCell ?_ ?_ _) | (with_reducible refine Keeps.drew ?_) | (refine keeps_hyp (by assumption) ?_ ?_) | go_size)))).low rLodKeeper_good (Nat.zero_le _), by omega, by omega, hkn, hkn⟩, eexx⟩
  · have hz1 : (z == 0) = false := by simpa using hz0
    go_wp2_with fail
    go_region_with (first | (go_at_call 80; refine (S_l20Tag _ (q + 1 + 1 + 2 + 1) 20 _ (by omega) (by omega) (rdd) (by omega)).mono ?_; rintro _ w7 ⟨⟨_, ⟨k2, n2, rfl, hn2, _, _⟩, rfl⟩, hRq, hX⟩; have hs7 := hX.size; (try simp only [World.size_drew] at hs7); have e07 := (cell_of_heap (o := 0) (hX.block (w.heap.size) (by omega) (by go_size))).trans e0; have e17 := (cell_of_heap (o := 0) (hX.block (w.heap.size + 1) (by omega) (by go_size))).trans e1; have e27 := (cell_of_heap (o := 1) (hX.block (w.heap.size + 1) (by omega) (by go_size))).trans e2; have e37 := (cell_of_heap (o := 0) (hX.block (w.heap.size + 1 + 1) (by omega) (by go_size))).trans e3; have e47 := (cell_of_heap (o := 1) (hX.block (w.heap.size + 1 + 1) (by omega) (by go_size))).trans e4; have c77 := (cell_of_heap (o := 0) (hX.block (w2.heap.size) (by omega) (by go_size))).trans c7; have c97 := (cell_of_heap (o := 0) (hX.block (w5.heap.size) (by omega) (by go_size))).trans c9; have d97 := (cell_of_heap (o := 1) (hX.block (w5.heap.size) (by omega) (by go_size))).trans d9; have f07 := (frozen_of_heap (o := 0) (hX.block (w.heap.size) (by omega) (by go_size))).trans f0; have f17 := (frozen_of_heap (o := 0) (hX.block (w.heap.size + 1) (by omega) (by go_size))).trans f1; have f27 := (frozen_of_heap (o := 1) (hX.block (w.heap.size + 1) (by omega) (by go_size))).trans f2; have f37 := (frozen_of_heap (o := 0) (hX.block (w.heap.size + 1 + 1) (by omega) (by go_size))).trans f3; have f47 := (frozen_of_heap (o := 1) (hX.block (w.heap.size + 1 + 1) (by omega) (by go_size))).trans f4; have HS7 : Hid (Sl 2 rLodKeeper w1.heap.size w7 (.slice a len cap) pl.fKeepers) := Lib.hid (HS6.out.stays rLodKeeper_good (⟨hX.size, fun k hk hl => hX.block k (by omega) hl⟩ : Keeps w1.heap.size w6 w7)); have EW7 : Ex (w.heap.size + 1 + 1 + 1) w.heap.size w w7 := EW.out.trans ((show Ex (w.heap.size + 1 + 1 + 1) w6.heap.size w6 w7 from ⟨hX.os, hX.tape, hX.output, hX.size, hX.block⟩).mono (by omega)); clear hRq hX))
    all_goals
      have hl0 : w.heap.size < w7.heap.size := by omega
      have hl1 : w.heap.size + 1 < w7.heap.size := by omega
      have hl2' : w.heap.size + 1 + 1 < w7.heap.size := by omega
      go_wp2
      refine bodyPost_ret (v := ?_) ?hrun rfl ?_
      case hrun => (simp only [results, Try.results40]; go_simp; first | done | exact rfl)
      exact HR.out _ _ ⟨⟨_, pl, xy, kk, k2, kn, n2, rfl, (HS7.out.stays rLodKeeper_good (by (repeat' (first | (with_reducible exact Keeps.refl _ _) | (with_reducible refine Keeps.alloc ?_ _) | (with_reducible refine Keeps.setCell ?_ ?_ _) | (with_reducible refine Keeps.drew ?_) | (refine keeps_hyp (by assumption) ?_ ?_) | go_size)))).low rLodKeeper_good (Nat.zero_le _), by omega, by omega, hkn, hn2⟩, eexx⟩

theorem inPlan_iff2 {p : DLodPlan} {i : Int} : inPlan p i = true ↔ 0 ≤ i ∧ i < (p.fKeepers.length : Int) := by
  unfold inPlan
  simp

theorem bytes_up {w w' : World} {v : Value} (h : Bytes w v) (hb : Below w.heap.size w w') : Bytes w' v := h.stay hb.size fun k hk => hb.block k hk
set_option maxRecDepth 100000 in
set_option maxHeartbeats 8000000 in
theorem L_FnTagMay (v v' : Value) (w : World) (hv : Bytes w v) (hv' : Bytes w v') :
    Calls Try.prog 12 #[v, v'] w fun e w' => e = .returned (.bool true) ∧ Below w.heap.size w w' := by
  obtain ⟨c, len, cap, rfl, g1, g2, g3⟩ := id hv
  have m1 : len ≤ 9223372036854775807 := by unfold maxLen at g2; omega
  clear g2 g3
  obtain ⟨c', len', cap', rfl, g1', g2, g3⟩ := id hv'
  have m1' : len' ≤ 9223372036854775807 := by unfold maxLen at g2; omega
  clear g2 g3
  refine calls_hide fun R HR => ?_
  go_enter Try.func12, Try.ntmps12
  go_wp2_with fail
  all_goals first
    | (try go_returns
       exact HR.out _ _ ⟨rfl, bbel⟩)
    | skip
  refine (S_DrawTagMay _ _ hv).mono ?_
  rintro _ w1 ⟨⟨pv, pl, k, ak, bk, an, bn, rfl, hs, hk1, hk2, hna, hnb⟩, h1⟩
  have h1s := (h1).size; (try simp only [World.size_alloc, World.size_setCell, World.size_drew] at h1s)
  obtain ⟨fa, fl, fc, rfl⟩ := hs.form
  obtain ⟨hfl, hfc, hfm⟩ := hs.len
  have hfm' : fl ≤ 9223372036854775807 := by unfold maxLen at hfm; omega
  go_wp2_with fail
  refine (S_DrawTagMay _ _ ?hb).mono ?_
  case hb => exact bytes_up hv' (bbel)
  rintro _ w2 ⟨⟨pv', pl', k', ak', ck, an', cn, rfl, hs', hk1', hk2', hna', hnc⟩, h2⟩
  obtain ⟨fa', fl', fc', rfl⟩ := hs'.form
  have h2s := (h2).size; (try simp only [World.size_alloc, World.size_setCell, World.size_drew] at h2s)
  obtain ⟨h2pd, h2po, h2pg, h2pp, h2px, h2py, h2pc1, h2pf1, h2pz1, h2pc2, h2pf2, h2pz2⟩ := bf3 (n := w1.heap.size) h2
  have m00 : w1.heap.size < w2.heap.size := by omega
  have m01 : w1.heap.size < w2.heap.size + 1 := by omega
  have m02 : w1.heap.size < w2.heap.size + 1 + 1 := by omega
  have m10 : w1.heap.size + 1 < w2.heap.size := by omega
  have m11 : w1.heap.size + 1 < w2.heap.size + 1 := by omega
  have m12 : w1.heap.size + 1 < w2.heap.size + 1 + 1 := by omega
  have m20 : w1.heap.size + 1 + 1 < w2.heap.size := by omega
  have m21 : w1.heap.size + 1 + 1 < w2.heap.size + 1 := by omega
  have m22 : w1.heap.size + 1 + 1 < w2.heap.size + 1 + 1 := by omega
  have ha : an.size ≤ maxLen := by unfold maxLen; omega
  have hb : bn.size ≤ maxLen := by unfold maxLen; omega
  have hc : cn.size ≤ maxLen := by unfold maxLen; omega
  have h02 : (⟨#[]⟩ : ByteArray).size ≤ maxLen := by decide
  have CG : Hid (∀ (W : World) (x y : DTagTag), x.fName.size ≤ maxLen → y.fName.size ≤ maxLen → Below w1.heap.size w1 W → Calls Try.prog 41 #[.agg #[.slice fa fl fc], .int .i64 k, .agg #[.int .i64 x.fKind, .string x.fName], .agg #[.int .i64 y.fKind, .string y.fName]] W fun e w' => e = .returned (.bool (tagMay pl k x y)) ∧ Below W.heap.size W w') := Lib.hid fun W x y hx hy hW => I_TagMay pl _ k x y W (hs.stays rLodKeeper_good (Keeps.of_below' hW (Nat.le_refl _))) hx hy
  obtain ⟨x, hx⟩ : ∃ x, tagMay pl k ⟨ak, an⟩ ⟨bk, bn⟩ = x := ⟨_, rfl⟩
  obtain ⟨z, hz⟩ : ∃ x, tagMay pl k ⟨bk, bn⟩ ⟨ck, cn⟩ = x := ⟨_, rfl⟩
  obtain ⟨ok, hok⟩ : ∃ x, lodOk pl = x := ⟨_, rfl⟩
  obtain ⟨ta, hta⟩ : ∃ x, tagOk ak an = x := ⟨_, rfl⟩
  obtain ⟨tb, htb⟩ : ∃ x, tagOk bk bn = x := ⟨_, rfl⟩
  obtain ⟨tc, htc⟩ : ∃ x, tagOk ck cn = x := ⟨_, rfl⟩
  have CX : Hid (∀ W, Below w1.heap.size w1 W → Calls Try.prog 41 #[.agg #[.slice fa fl fc], .int .i64 k, .agg #[.int .i64 ak, .string an], .agg #[.int .i64 bk, .string bn]] W fun e w' => e = .returned (.bool x) ∧ Below W.heap.size W w') := Lib.hid fun W hW => by have := CG.out W ⟨ak, an⟩ ⟨bk, bn⟩ ha hb hW; rw [hx] at this; exact this
  have CZ : Hid (∀ W, Below w1.heap.size w1 W → Calls Try.prog 41 #[.agg #[.slice fa fl fc], .int .i64 k, .agg #[.int .i64 bk, .string bn], .agg #[.int .i64 ck, .string cn]] W fun e w' => e = .returned (.bool z) ∧ Below W.heap.size W w') := Lib.hid fun W hW => by have := CG.out W ⟨bk, bn⟩ ⟨ck, cn⟩ hb hc hW; rw [hz] at this; exact this
  have CS : Hid (∀ W, Below w1.heap.size w1 W → Calls Try.prog 42 #[.agg #[.slice fa fl fc], .int .i64 k, .agg #[.int .i64 ak, .string an], .agg #[.int .i64 bk, .string bn]] W fun e w' => e = .returned (.bool x) ∧ Below W.heap.size W w') := Lib.hid fun W hW => by have := S_TagMay pl _ k ⟨ak, an⟩ ⟨bk, bn⟩ W (hs.stays rLodKeeper_good (Keeps.of_below' hW (Nat.le_refl _))) ha hb; rw [hx] at this; exact this
  have CL : Hid (∀ W, Below w1.heap.size w1 W → Calls Try.prog 27 #[.agg #[.slice fa fl fc]] W fun e w' => e = .returned (.bool ok) ∧ Below W.heap.size W w') := Lib.hid fun W hW => by rw [← hok]; exact S_LodOk pl _ W (hs.stays rLodKeeper_good (Keeps.of_below' hW (Nat.le_refl _)))
  have KA : Hid (∀ W, Calls Try.prog 43 #[.agg #[.int .i64 ak, .string an]] W fun e w' => e = .returned (.bool ta) ∧ Below W.heap.size W w') := Lib.hid fun W => by rw [← hta]; exact S_TagOk ak an W ha
  have KB : Hid (∀ W, Calls Try.prog 43 #[.agg #[.int .i64 bk, .string bn]] W fun e w' => e = .returned (.bool tb) ∧ Below W.heap.size W w') := Lib.hid fun W => by rw [← htb]; exact S_TagOk bk bn W hb
  have KC : Hid (∀ W, Calls Try.prog 43 #[.agg #[.int .i64 ck, .string cn]] W fun e w' => e = .returned (.bool tc) ∧ Below W.heap.size W w') := Lib.hid fun W => by rw [← htc]; exact S_TagOk ck cn W hc
  have HX := Lib.hid hx
  have HZ := Lib.hid hz
  have HOK := Lib.hid hok
  have HTA := Lib.hid hta
  have HTB := Lib.hid htb
  have HTC := Lib.hid htc
  have HFL := Lib.hid hfl
  clear hs hs' hx hz hok hta htb htc hfl
  go_wp2_with fail
  refine (CX.out _ (bbel)).mono ?_
  rintro _ w3 ⟨rfl, h3⟩
  have h3s := (h3).size; (try simp only [World.size_alloc, World.size_setCell, World.size_drew] at h3s)
  obtain ⟨h3qd, h3qo, h3qg, h3qp, h3qx, h3qy, h3qc1, h3qf1, h3qz1, h3qc2, h3qf2, h3qz2⟩ := bf3 (n := w2.heap.size) h3
  obtain ⟨h3rqd, h3rqo, h3rqg, h3rqp, h3rqx, h3rqy, h3rqc1, h3rqf1, h3rqz1, h3rqc2, h3rqf2, h3rqz2⟩ := bf3 (n := w1.heap.size) h3
  go_wp2_with fail
  refine (CS.out _ (bbel)).mono ?_
  rintro _ w4 ⟨rfl, h4⟩
  have h4s := (h4).size; (try simp only [World.size_alloc, World.size_setCell, World.size_drew] at h4s)
  obtain ⟨h4qd, h4qo, h4qg, h4qp, h4qx, h4qy, h4qc1, h4qf1, h4qz1, h4qc2, h4qf2, h4qz2⟩ := bf3 (n := w2.heap.size) h4
  obtain ⟨h4rqd, h4rqo, h4rqg, h4rqp, h4rqx, h4rqy, h4rqc1, h4rqf1, h4rqz1, h4rqc2, h4rqf2, h4rqz2⟩ := bf3 (n := w1.heap.size) h4
  go_wp2_with fail
  refine (CL.out _ (bbel)).mono ?_
  rintro _ w5 ⟨rfl, h5⟩
  have h5s := (h5).size; (try simp only [World.size_alloc, World.size_setCell, World.size_drew] at h5s)
  obtain ⟨h5qd, h5qo, h5qg, h5qp, h5qx, h5qy, h5qc1, h5qf1, h5qz1, h5qc2, h5qf2, h5qz2⟩ := bf3 (n := w2.heap.size) h5
  obtain ⟨h5rqd, h5rqo, h5rqg, h5rqp, h5rqx, h5rqy, h5rqc1, h5rqf1, h5rqz1, h5rqc2, h5rqf2, h5rqz2⟩ := bf3 (n := w1.heap.size) h5
  cases ok
  · go_wp2_with (go_at_call 18; refine (L_loOk' _).mono ?_; rintro _ w9 ⟨rfl, h9⟩)
    all_goals (try go_returns)
    all_goals exact HR.out _ _ ⟨rfl, bbel⟩
  by_cases a0 : k < 0
  · go_wp2_with (go_at_call 18; refine (L_loOk' _).mono ?_; rintro _ w9 ⟨rfl, h9⟩)
    all_goals (try go_returns)
    all_goals exact HR.out _ _ ⟨rfl, bbel⟩
  by_cases a1 : (fl : Int) ≤ k
  · go_wp2_with (go_at_call 18; refine (L_loOk' _).mono ?_; rintro _ w9 ⟨rfl, h9⟩)
    all_goals (try go_returns)
    all_goals exact HR.out _ _ ⟨rfl, bbel⟩
  have HI : Hid (inPlan pl k = true) := Lib.hid (inPlan_iff2.2 ⟨by omega, by rw [HFL.out]; omega⟩)
  go_wp2_with fail
  refine (KA.out _).mono ?_
  rintro _ w6 ⟨rfl, h6⟩
  have h6s := (h6).size; (try simp only [World.size_alloc, World.size_setCell, World.size_drew] at h6s)
  obtain ⟨h6qd, h6qo, h6qg, h6qp, h6qx, h6qy, h6qc1, h6qf1, h6qz1, h6qc2, h6qf2, h6qz2⟩ := bf3 (n := w2.heap.size) h6
  obtain ⟨h6rqd, h6rqo, h6rqg, h6rqp, h6rqx, h6rqy, h6rqc1, h6rqf1, h6rqz1, h6rqc2, h6rqf2, h6rqz2⟩ := bf3 (n := w1.heap.size) h6
  cases ta
  · go_wp2_with (go_at_call 18; refine (L_loOk' _).mono ?_; rintro _ w9 ⟨rfl, h9⟩)
    all_goals (try go_returns)
    all_goals exact HR.out _ _ ⟨rfl, bbel⟩
  go_wp2_with fail
  refine (KB.out _).mono ?_
  rintro _ w7 ⟨rfl, h7⟩
  have h7s := (h7).size; (try simp only [World.size_alloc, World.size_setCell, World.size_drew] at h7s)
  obtain ⟨h7qd, h7qo, h7qg, h7qp, h7qx, h7qy, h7qc1, h7qf1, h7qz1, h7qc2, h7qf2, h7qz2⟩ := bf3 (n := w2.heap.size) h7
  obtain ⟨h7rqd, h7rqo, h7rqg, h7rqp, h7rqx, h7rqy, h7rqc1, h7rqf1, h7rqz1, h7rqc2, h7rqf2, h7rqz2⟩ := bf3 (n := w1.heap.size) h7
  cases tb
  · go_wp2_with (go_at_call 18; refine (L_loOk' _).mono ?_; rintro _ w9 ⟨rfl, h9⟩)
    all_goals (try go_returns)
    all_goals exact HR.out _ _ ⟨rfl, bbel⟩
  go_wp2_with fail
  refine (KC.out _).mono ?_
  rintro _ w8 ⟨rfl, h8⟩
  have h8s := (h8).size; (try simp only [World.size_alloc, World.size_setCell, World.size_drew] at h8s)
  obtain ⟨h8qd, h8qo, h8qg, h8qp, h8qx, h8qy, h8qc1, h8qf1, h8qz1, h8qc2, h8qf2, h8qz2⟩ := bf3 (n := w2.heap.size) h8
  obtain ⟨h8rqd, h8rqo, h8rqg, h8rqp, h8rqx, h8rqy, h8rqc1, h8rqf1, h8rqz1, h8rqc2, h8rqf2, h8rqz2⟩ := bf3 (n := w1.heap.size) h8
  cases tc
  · go_wp2_with (go_at_call 18; refine (L_loOk' _).mono ?_; rintro _ w9 ⟨rfl, h9⟩)
    all_goals (try go_returns)
    all_goals exact HR.out _ _ ⟨rfl, bbel⟩
  have CA : Hid (∀ W, Below w1.heap.size w1 W → Calls Try.prog 41 #[.agg #[.slice fa fl fc], .int .i64 k, .agg #[.int .i64 ak, .string an], .agg #[.int .i64 ak, .string an]] W fun e w' => e = .returned (.bool true) ∧ Below W.heap.size W w') := Lib.hid fun W hW => by have := CG.out W ⟨ak, an⟩ ⟨ak, an⟩ ha ha hW; rw [tagMay_self HOK.out HI.out HTA.out] at this; exact this
  have CB : Hid (∀ W, Below w1.heap.size w1 W → Calls Try.prog 41 #[.agg #[.slice fa fl fc], .int .i64 k, .agg #[.int .i64 ak, .string an], .agg #[.int .i64 0, .string ⟨#[]⟩]] W fun e w' => e = .returned (.bool true) ∧ Below W.heap.size W w') := Lib.hid fun W hW => by have := CG.out W ⟨ak, an⟩ noTag ha h02 hW; rw [tagMay_none HOK.out HI.out HTA.out] at this; exact this
  go_wp2_with fail
  refine (CA.out _ (bbel)).mono ?_
  rintro _ w9 ⟨rfl, h9⟩
  have h9s := (h9).size; (try simp only [World.size_alloc, World.size_setCell, World.size_drew] at h9s)
  obtain ⟨h9qd, h9qo, h9qg, h9qp, h9qx, h9qy, h9qc1, h9qf1, h9qz1, h9qc2, h9qf2, h9qz2⟩ := bf3 (n := w2.heap.size) h9
  obtain ⟨h9rqd, h9rqo, h9rqg, h9rqp, h9rqx, h9rqy, h9rqc1, h9rqf1, h9rqz1, h9rqc2, h9rqf2, h9rqz2⟩ := bf3 (n := w1.heap.size) h9
  go_wp2_with fail
  refine (CB.out _ (bbel)).mono ?_
  rintro _ w10 ⟨rfl, h10⟩
  have h10s := (h10).size; (try simp only [World.size_alloc, World.size_setCell, World.size_drew] at h10s)
  obtain ⟨h10qd, h10qo, h10qg, h10qp, h10qx, h10qy, h10qc1, h10qf1, h10qz1, h10qc2, h10qf2, h10qz2⟩ := bf3 (n := w2.heap.size) h10
  obtain ⟨h10rqd, h10rqo, h10rqg, h10rqp, h10rqx, h10rqy, h10rqc1, h10rqf1, h10rqz1, h10rqc2, h10rqf2, h10rqz2⟩ := bf3 (n := w1.heap.size) h10
  have q0 : w10.cell? ⟨w1.heap.size, 0, none⟩ = some (.slice fa fl fc) := by go_simp
  have q1 : w10.cell? ⟨w1.heap.size + 1, 0, none⟩ = some (.int .i64 ak) := by go_simp
  have q2 : w10.cell? ⟨w1.heap.size + 1, 1, none⟩ = some (.string an) := by go_simp
  have q3 : w10.cell? ⟨w1.heap.size + 1 + 1, 0, none⟩ = some (.int .i64 bk) := by go_simp
  have q4 : w10.cell? ⟨w1.heap.size + 1 + 1, 1, none⟩ = some (.string bn) := by go_simp
  have q5 : w10.cell? ⟨w2.heap.size + 1 + 1, 0, none⟩ = some (.int .i64 ck) := by go_simp
  have q6 : w10.cell? ⟨w2.heap.size + 1 + 1, 1, none⟩ = some (.string cn) := by go_simp
  have hB : Below w1.heap.size w1 w10 := bbel
  have l1 : w1.heap.size < w10.heap.size := block_lt_of_cell q0
  have l2 : w1.heap.size + 1 < w10.heap.size := block_lt_of_cell q1
  have l3 : w1.heap.size + 1 + 1 < w10.heap.size := block_lt_of_cell q3
  have l4 : w2.heap.size + 1 + 1 < w10.heap.size := block_lt_of_cell q5
  clear h2pd h2pg h2px h2py h2po h2pp h2pc1 h2pc2 h2pf1 h2pf2 h2pz1 h2pz2 h3qd h3qg h3qx h3qy h3qo h3qp h3qc1 h3qc2 h3qf1 h3qf2 h3qz1 h3qz2 h4qd h4qg h4qx h4qy h4qo h4qp h4qc1 h4qc2 h4qf1 h4qf2 h4qz1 h4qz2 h5qd h5qg h5qx h5qy h5qo h5qp h5qc1 h5qc2 h5qf1 h5qf2 h5qz1 h5qz2 h6qd h6qg h6qx h6qy h6qo h6qp h6qc1 h6qc2 h6qf1 h6qf2 h6qz1 h6qz2 h7qd h7qg h7qx h7qy h7qo h7qp h7qc1 h7qc2 h7qf1 h7qf2 h7qz1 h7qz2 h8qd h8qg h8qx h8qy h8qo h8qp h8qc1 h8qc2 h8qf1 h8qf2 h8qz1 h8qz2 h9qd h9qg h9qx h9qy h9qo h9qp h9qc1 h9qc2 h9qf1 h9qf2 h9qz1 h9qz2 h10qd h10qg h10qx h10qy h10qo h10qp h10qc1 h10qc2 h10qf1 h10qf2 h10qz1 h10qz2 h3rqd h3rqg h3rqx h3rqy h3rqo h3rqp h3rqc1 h3rqc2 h3rqf1 h3rqf2 h3rqz1 h3rqz2 h4rqd h4rqg h4rqx h4rqy h4rqo h4rqp h4rqc1 h4rqc2 h4rqf1 h4rqf2 h4rqz1 h4rqz2 h5rqd h5rqg h5rqx h5rqy h5rqo h5rqp h5rqc1 h5rqc2 h5rqf1 h5rqf2 h5rqz1 h5rqz2 h6rqd h6rqg h6rqx h6rqy h6rqo h6rqp h6rqc1 h6rqc2 h6rqf1 h6rqf2 h6rqz1 h6rqz2 h7rqd h7rqg h7rqx h7rqy h7rqo h7rqp h7rqc1 h7rqc2 h7rqf1 h7rqf2 h7rqz1 h7rqz2 h8rqd h8rqg h8rqx h8rqy h8rqo h8rqp h8rqc1 h8rqc2 h8rqf1 h8rqf2 h8rqz1 h8rqz2 h9rqd h9rqg h9rqx h9rqy h9rqo h9rqp h9rqc1 h9rqc2 h9rqf1 h9rqf2 h9rqz1 h9rqz2 h10rqd h10rqg h10rqx h10rqy h10rqo h10rqp h10rqc1 h10rqc2 h10rqf1 h10rqf2 h10rqz1 h10rqz2 h2 h3 h4 h5 h6 h7 h8 h9 h10
  by_cases hb2 : bk = 2
  · subst hb2
    have CC : Hid (∀ W, Below w1.heap.size w1 W → Calls Try.prog 41 #[.agg #[.slice fa fl fc], .int .i64 k, .agg #[.int .i64 3, .string ⟨#[]⟩], .agg #[.int .i64 2, .string bn]] W fun e w' => e = .returned (.bool true) ∧ Below W.heap.size W w') := Lib.hid fun W hW => by have := CG.out W anyTag ⟨2, bn⟩ h02 hb hW; rw [tagMay_any HOK.out HI.out HTB.out rfl] at this; exact this
    go_wp2_with fail
    refine (CC.out _ (bbel)).mono ?_
    rintro _ w11 ⟨rfl, h11⟩
    have h11s := (h11).size; (try simp only [World.size_alloc, World.size_setCell, World.size_drew] at h11s)
    replace q0 := keep_cell h11 q0
    replace q1 := keep_cell h11 q1
    replace q2 := keep_cell h11 q2
    replace q3 := keep_cell h11 q3
    replace q4 := keep_cell h11 q4
    replace q5 := keep_cell h11 q5
    replace q6 := keep_cell h11 q6
    cases x
    · go_wp2
      all_goals (try go_returns)
      all_goals exact HR.out _ _ ⟨rfl, bbel⟩
    go_wp2_with fail
    refine (CZ.out _ (bbel)).mono ?_
    rintro _ w12 ⟨rfl, h12⟩
    have h12s := (h12).size; (try simp only [World.size_alloc, World.size_setCell, World.size_drew] at h12s)
    replace q0 := keep_cell h12 q0
    replace q1 := keep_cell h12 q1
    replace q2 := keep_cell h12 q2
    replace q5 := keep_cell h12 q5
    replace q6 := keep_cell h12 q6
    cases z
    · go_wp2
      all_goals (try go_returns)
      all_goals exact HR.out _ _ ⟨rfl, bbel⟩
    have CT : Hid (∀ W, Below w1.heap.size w1 W → Calls Try.prog 41 #[.agg #[.slice fa fl fc], .int .i64 k, .agg #[.int .i64 ak, .string an], .agg #[.int .i64 ck, .string cn]] W fun e w' => e = .returned (.bool true) ∧ Below W.heap.size W w') := Lib.hid fun W hW => by have := CG.out W ⟨ak, an⟩ ⟨ck, cn⟩ ha hc hW; rw [tagMay_trans (b := ⟨2, bn⟩) ha hb HX.out HZ.out] at this; exact this
    go_wp2_with fail
    refine (CT.out _ (bbel)).mono ?_
    rintro _ w13 ⟨rfl, h13⟩
    have h13s := (h13).size; (try simp only [World.size_alloc, World.size_setCell, World.size_drew] at h13s)
    go_wp2
    all_goals (try go_returns)
    all_goals exact HR.out _ _ ⟨rfl, bbel⟩
  · have hb3 : (bk == 2) = false := by simpa using hb2
    cases x
    · go_wp2
      all_goals (try go_returns)
      all_goals exact HR.out _ _ ⟨rfl, bbel⟩
    go_wp2_with fail
    refine (CZ.out _ (bbel)).mono ?_
    rintro _ w12 ⟨rfl, h12⟩
    have h12s := (h12).size; (try simp only [World.size_alloc, World.size_setCell, World.size_drew] at h12s)
    replace q0 := keep_cell h12 q0
    replace q1 := keep_cell h12 q1
    replace q2 := keep_cell h12 q2
    replace q5 := keep_cell h12 q5
    replace q6 := keep_cell h12 q6
    cases z
    · go_wp2
      all_goals (try go_returns)
      all_goals exact HR.out _ _ ⟨rfl, bbel⟩
    have CT : Hid (∀ W, Below w1.heap.size w1 W → Calls Try.prog 41 #[.agg #[.slice fa fl fc], .int .i64 k, .agg #[.int .i64 ak, .string an], .agg #[.int .i64 ck, .string cn]] W fun e w' => e = .returned (.bool true) ∧ Below W.heap.size W w') := Lib.hid fun W hW => by have := CG.out W ⟨ak, an⟩ ⟨ck, cn⟩ ha hc hW; rw [tagMay_trans (b := ⟨bk, bn⟩) ha hb HX.out HZ.out] at this; exact this
    go_wp2_with fail
    refine (CT.out _ (bbel)).mono ?_
    rintro _ w13 ⟨rfl, h13⟩
    have h13s := (h13).size; (try simp only [World.size_alloc, World.size_setCell, World.size_drew] at h13s)
    go_wp2
    all_goals (try go_returns)
    all_goals exact HR.out _ _ ⟨rfl, bbel⟩

end Go.Proofs.Ytcdmmnfdnmjnpaa
namespace Go.Proofs.Ytcdmmnfdnmjnpaa
open Go.ChangeShapes Go.WideShapes Go.ChangeAt Go.RowKit Go.Joins
theorem cells_u8 : Try.prog.cellsOf 5 = 1 := by kernel_rfl

set_option maxRecDepth 100000 in
theorem fnTagMay_lifted (os : Os) (started : os.Started) (H : Type) (enc : TypeId × Value → H) :
    ReturnsInHanded {} Try.checked os 12 .any (Rows.fnTagMaySpec.pre6 enc Try.prog Try.f12 Rows.fnTagMayRow.domain false) (Rows.fnTagMaySpec.post enc Try.prog Try.f12 false true false false) := by
  refine returnsInHanded_of_change (C := Try.checked) own started (by kernel_rfl) Try.func12
    (ChangeSpec.witness6 (enc := enc) (C := Try.checked) false ⟨#[], #[.slice none 0 0, .slice none 0 0], []⟩ 8 (by kernel_rfl) (by kernel_rfl) (by kernel_rfl) (by kernel_rfl)) ?_
  intro W base args ds gs before hval0 hW hcnd _
  have hval : ∀ (j : Nat) t v, Try.f12.params[j]? = some t → args[j]? = some v → Value.okWide Try.prog W .any base t v := hval0
  have hW' := hW
  obtain ⟨p, q, hA0, hV, rfl, hfz, hnd⟩ := hW
  have hA : DataW.TrodAll enc Try.prog W 0 (fun _ => true) true Try.f12.params.toList args.toList ds p := hA0
  rw [Try.params12] at hA hval
  clear hA0 hval0
  obtain ⟨v0, v1, d0, d1, p0, p1, rfl, rfl, rfl, h0, h1⟩ := trodAll_two hA
  obtain ⟨rfl, rfl⟩ := trodVars_none hV
  have b0 := open_bytes Try.underlying22 Try.underlying5 cells_u8 (hval 0 22 v0 rfl rfl) h0
  have b1 := open_bytes Try.underlying22 Try.underlying5 cells_u8 (hval 1 22 v1 rfl rfl) h1
  refine (L_FnTagMay v0 v1 W b0 b1).mono fun e W' h => ?_
  obtain ⟨rfl, hb⟩ := h
  exact ⟨_, rfl, law_post (s := Rows.fnTagMaySpec) hW' hb rfl rfl rfl Try.underlying4 (by rw [Try.params12]; kernel_rfl)⟩
theorem fnTagMay_holds : Rows.FnTagMaySaid :=
  OpenClaim.holds_of_wide 12 Try.f12 rfl rfl rfl rfl rfl rfl rfl ⟨rfl, rfl, rfl, rfl, rfl⟩ rfl rfl rfl rfl rfl (by kernel_rfl) Try.func12 (by kernel_rfl)
    (of_decide_eq_true (by kernel_rfl)) (by unfold Func.isWrapper; first | (rw [if_pos (by decide +kernel)]; kernel_rfl) | (rw [if_neg (by decide +kernel)]; exact ⟨rfl, rfl⟩))
    (fun os started H enc _ => fnTagMay_lifted os started H enc)

end Go.Proofs.Ytcdmmnfdnmjnpaa
