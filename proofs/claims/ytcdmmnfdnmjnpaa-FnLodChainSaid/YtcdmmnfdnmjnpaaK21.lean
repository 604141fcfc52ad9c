/-
  Texts of mine, packed: DrawR. No condition beside those of the single theorems.
-/
import Derived.Test.YtcdmmnfdnmjnpaaK12
import Derived.Test.YtcdmmnfdnmjnpaaK20
set_option linter.unusedSimpArgs false
set_option linter.unusedVariables false
namespace Go.Proofs.Ytcdmmnfdnmjnpaa
open Go.RowKit
def Ref20 (r p : Nat) (w : World) (e : Ending) (w' : World) : Prop := ∃ (k : Int) (n : ByteArray) (q : Nat), e = .returned (.agg #[.int .i64 k, .string n]) ∧ n.size ≤ maxLen ∧ q ≤ p + 4 ∧ Rd w' r q ∧ Ex r w.heap.size w w'

set_option maxRecDepth 100000 in
set_option maxHeartbeats 4000000 in
theorem S_l20Ref (r p : Nat) (x : DLodPlan) (v1 : Value) (w : World) (s1 : Sl 2 rLodKeeper 0 w v1 x.fKeepers) (hr : Rd w r p) (hp : p < 800000) :
    Calls Try.prog 84 #[.pointer (some ⟨r, 0, none⟩), .agg #[v1]] w fun e w' => Ref20 r p w e w' := by
  have hlt := hr.lt
  obtain ⟨a, len, cap, rfl⟩ := s1.form
  have HS := Lib.hid s1
  refine calls_hide fun R HR => ?_
  go_enter Try.func84, Try.ntmps84
  go_wp2_with fail
  refine (S_PlanClasses x _ _ (HS.out.stays rLodKeeper_good (Keeps.of_below (((Below.refl _ _).alloc (Nat.le_refl _) _).alloc (by simp) _)))).mono ?_
  rintro _ w1 ⟨⟨v, xs, rfl, ht, hx⟩, h1⟩
  have h1s := (h1).size; (try simp only [World.size_alloc, World.size_setCell, World.size_drew] at h1s)
  obtain ⟨h1ad, h1ao, h1ag, h1ap, h1ax, h1ay, h1ac1, h1af1, h1az1⟩ := bf2 (n := w.heap.size) h1
  obtain ⟨va, vn, vc, rfl⟩ := ht.sl.form3
  have hvn : xs.length = vn := by
    obtain ⟨_, _, e, _⟩ := ht.sl.form
    cases e; rfl
  have E1 : Ex r w.heap.size w w1 := eexx
  have R1 : Rd w1 r p := rdd
  have HT := Lib.hid ht
  have e0 : w1.cell? ⟨w.heap.size + 1, 0, none⟩ = some (.int .i64 0) := by go_simp
  have e1 : w1.cell? ⟨w.heap.size + 1, 1, none⟩ = some (.string ⟨#[]⟩) := by go_simp
  have f0 : w1.frozen? ⟨w.heap.size + 1, 0, none⟩ = false := by go_simp
  have f1 : w1.frozen? ⟨w.heap.size + 1, 1, none⟩ = false := by go_simp
  clear h1ad h1ag h1ax h1ao h1ap h1ay h1ac1 h1af1 h1az1 ht h1
  have l1 : w.heap.size + 1 < w1.heap.size := by omega
  have h00 : (⟨#[]⟩ : ByteArray).size ≤ maxLen := by decide
  rcases Nat.eq_zero_or_pos vn with hz | hz
  · subst hz
    go_wp2_with fail
    refine (S_pick r p 5 _ (by omega) (rdd) (by omega)).mono ?_
    rintro _ w2 ⟨⟨y, hy, rfl⟩, R2, X2⟩
    have hs2 := X2.size
    have b2 := X2.block (w.heap.size + 1) (by omega) l1
    have hwr : IntKind.i64.wrap (y - 1) = y - 1 := by
      rcases five hy with rfl | rfl | rfl | rfl | rfl <;> rfl
    clear hy
    go_wp2_with fail
    refine (S_l20Name r (p + 1) _ (rdd) (by omega)).mono ?_
    rintro _ w3 ⟨⟨nm, hnm, rfl⟩, R3, X3⟩
    have hs3 := X3.size
    have b3 := (X3.block (w.heap.size + 1) (by omega) (by omega)).trans b2
    have hnm2 : nm.size ≤ maxLen := by unfold maxLen; omega
    replace e0 := (cell_of_heap b3).trans e0
    replace e1 := (cell_of_heap b3).trans e1
    replace f0 := (frozen_of_heap b3).trans f0
    replace f1 := (frozen_of_heap b3).trans f1
    clear b2 b3
    go_wp2
    all_goals
      refine bodyPost_ret (v := ?_) ?hrun rfl ?_
      case hrun => (simp only [results, Try.results84]; go_simp; first | done | exact rfl)
      exact HR.out _ _ ⟨_, _, p + 1 + 1, rfl, by first | assumption | (unfold maxLen; omega), by omega, rdd, eexx⟩
  · have hz2 : (0 : Int) < (vn : Int) := by omega
    go_wp2_with fail
    refine (S_pick r p 6 _ (by omega) (rdd) (by omega)).mono ?_
    rintro _ w2 ⟨⟨y, hy, rfl⟩, R2, X2⟩
    have hs2 := X2.size
    have b2 := X2.block (w.heap.size + 1) (by omega) l1
    clear hy
    by_cases hy0 : 0 < y
    · go_wp2_with fail
      refine (S_pick r (p + 1) vn _ (by omega) R2 (by omega)).mono ?_
      rintro _ w3 ⟨⟨kx', hkx, rfl⟩, R3, X3⟩
      have hs3 := X3.size
      have b3 := (X3.block (w.heap.size + 1) (by omega) (by omega)).trans b2
      obtain ⟨kx, hkm, rfl⟩ := pick_nat (by omega) hkx
      obtain ⟨b, cap', css, e, hb1, hb2, hb3, hb4, hrows⟩ := HT.out.sl.rowsAt (by omega)
      cases e
      simp only [World.size_alloc] at hb1
      obtain ⟨u, hu⟩ : ∃ u, xs[kx]? = some u := ⟨_, List.getElem?_eq_getElem (by omega)⟩
      obtain ⟨cs, hcs, hcl, ⟨rfl, hyn⟩, hrg⟩ := hrows kx u hu
      have bb := (X3.block b (by omega) (by omega)).trans (X2.block b (by omega) hb2)
      have q1 : w3.cell? ⟨b, kx * 2, none⟩ = some (.int .i64 u.fKeeper) := (cell_of_heap bb).trans (hrg 0 _ rfl)
      have q2 : w3.cell? ⟨b, kx * 2 + 1, none⟩ = some (.string u.fName) := (cell_of_heap bb).trans (hrg 1 _ rfl)
      have hkm2 : (kx : Int) < (xs.length : Int) := by omega
      have hbw : b < w3.heap.size := by omega
      have hbn : b ≠ w.heap.size + 1 := by omega
      replace e0 := (cell_of_heap b3).trans e0
      replace e1 := (cell_of_heap b3).trans e1
      replace f0 := (frozen_of_heap b3).trans f0
      replace f1 := (frozen_of_heap b3).trans f1
      clear b2 b3 bb hrows hrg hcs hcl hu hkx
      go_wp2
      all_goals
        refine bodyPost_ret (v := ?_) ?hrun rfl ?_
        case hrun => (simp only [results, Try.results84]; go_simp; first | done | exact rfl)
        exact HR.out _ _ ⟨_, _, p + 1 + 1, rfl, by first | assumption | (unfold maxLen; omega), by omega, rdd, eexx⟩
    · go_wp2_with fail
      refine (S_pick r (p + 1) 5 _ (by omega) (rdd) (by omega)).mono ?_
      rintro _ w3 ⟨⟨y3, hy, rfl⟩, R3, X3⟩
      have hs3 := X3.size
      have b3 := (X3.block (w.heap.size + 1) (by omega) (by omega)).trans b2
      have hwr : IntKind.i64.wrap (y3 - 1) = y3 - 1 := by
        rcases five hy with rfl | rfl | rfl | rfl | rfl <;> rfl
      clear hy
      go_wp2_with fail
      refine (S_l20Name r (p + 1 + 1) _ (rdd) (by omega)).mono ?_
      rintro _ w4 ⟨⟨nm, hnm, rfl⟩, R4, X4⟩
      have hs4 := X4.size
      have b4 := (X4.block (w.heap.size + 1) (by omega) (by omega)).trans b3
      have hnm2 : nm.size ≤ maxLen := by unfold maxLen; omega
      replace e0 := (cell_of_heap b4).trans e0
      replace e1 := (cell_of_heap b4).trans e1
      replace f0 := (frozen_of_heap b4).trans f0
      replace f1 := (frozen_of_heap b4).trans f1
      clear b2 b3 b4
      go_wp2
      all_goals
        refine bodyPost_ret (v := ?_) ?hrun rfl ?_
        case hrun => (simp only [results, Try.results84]; go_simp; first | done | exact rfl)
        exact HR.out _ _ ⟨_, _, p + 1 + 1 + 1, rfl, by first | assumption | (unfold maxLen; omega), by omega, rdd, eexx⟩

set_option maxRecDepth 100000 in
set_option maxHeartbeats 4000000 in
theorem S_DrawLodChain (v : Value) (w : World) (hv : Bytes w v) :
    Calls Try.prog 47 #[v] w fun e w' => (∃ (pv : Value) (pl : DLodPlan) (k : Int) (nm : ByteArray), e = .returned (.tuple #[.agg #[pv], .agg #[.int .i64 k, .string nm]]) ∧ Sl 2 rLodKeeper 0 w' pv pl.fKeepers ∧ nm.size ≤ maxLen) ∧ Below w.heap.size w w' := by
  have hv' := hv
  refine calls_hide fun R HR => ?_
  go_enter Try.func47, Try.ntmps47
  go_wp2_with fail
  refine (S_l20Open _ _ (by first | exact hv' | exact hv'.alloc _ | exact (hv'.alloc _).alloc _ | exact ((hv'.alloc _).alloc _).alloc _)).mono ?_
  rintro e w1 ⟨rfl, h1, h2, h3⟩
  simp only [World.size_alloc] at h1 h2 h3
  have h2s := (h2).size; (try simp only [World.size_alloc, World.size_setCell, World.size_drew] at h2s)
  obtain ⟨h2ad, h2ao, h2ag, h2ap, h2ax, h2ay, h2ac1, h2af1, h2az1⟩ := bf2 (n := w.heap.size) h2
  go_wp2_with fail
  refine (S_l20PlanOr _ 0 12 _ (by omega) (by omega) (rdd) (by omega)).mono ?_
  rintro e w2 ⟨pv, pl, q, rfl, hs, hnr, hq, h4, h5⟩
  obtain ⟨a, len, cap, rfl⟩ := hs.form
  have HS := Lib.hid hs
  clear hs hnr
  have h5s := (h5).size; (try simp only [World.size_alloc, World.size_setCell, World.size_drew] at h5s)
  obtain ⟨h5bc, h5bd, h5bf, h5bg, h5bz, h5bx, h5by⟩ := efacts (n := w.heap.size) (k := 2) h5 (by go_size) (by go_size) (by first | omega | (simp; omega)); replace h5bd := h5bd (by decide); replace h5bg := h5bg (by decide); replace h5bx := h5bx (by decide); have h5bc1 := fun o => h5bc 1 o (by decide); have h5bf1 := fun o => h5bf 1 o (by decide); have h5bz1 := h5bz 1 (by decide); clear h5bc h5bf h5bz
  have hr2 : w.heap.size + 1 + 1 < w2.heap.size := by omega
  have hr1 : w.heap.size + 1 + 1 < w1.heap.size := by omega
  obtain ⟨wE, hwE⟩ : ∃ wE, wE = w2.alloc (.cells #[.slice a len cap] 48) := ⟨_, rfl⟩
  have hsE : wE.heap.size = w2.heap.size + 1 := by rw [hwE]; simp
  have c7 : wE.cell? ⟨w2.heap.size, 0, none⟩ = some (.slice a len cap) := by rw [hwE]; go_simp
  have e0 : wE.cell? ⟨w.heap.size, 0, none⟩ = some (.slice none 0 0) := by rw [hwE]; go_simp
  have e1 : wE.cell? ⟨w.heap.size + 1, 0, none⟩ = some (.int .i64 0) := by rw [hwE]; go_simp
  have e2 : wE.cell? ⟨w.heap.size + 1, 1, none⟩ = some (.string ⟨#[]⟩) := by rw [hwE]; go_simp
  have f0 : wE.frozen? ⟨w.heap.size, 0, none⟩ = false := by rw [hwE]; go_simp
  have f1 : wE.frozen? ⟨w.heap.size + 1, 0, none⟩ = false := by rw [hwE]; go_simp
  have f2 : wE.frozen? ⟨w.heap.size + 1, 1, none⟩ = false := by rw [hwE]; go_simp
  have EW : Hid (Ex (w.heap.size + 1 + 1) w.heap.size w wE) := Lib.hid (by rw [hwE]; exact eexx)
  have RE : Rd wE (w.heap.size + 1 + 1) q := by rw [hwE]; exact rdd
  have HSE : Hid (Sl 2 rLodKeeper w1.heap.size wE (.slice a len cap) pl.fKeepers) := Lib.hid (by rw [hwE]; exact HS.out.stays rLodKeeper_good (Keeps.alloc (Keeps.refl _ _) _))
  have hl2 : w2.heap.size < wE.heap.size := by omega
  clear h2ad h2ag h2ax h2ay h2ao h2ap h5bd h5bg h5bx h5by h2ac1 h2af1 h2az1 h5bc1 h5bf1 h5bz1 h2 h5 h4 h1
  go_wp2_with fail
  rw [← hwE]
  clear hwE
  have CR : ∀ (W : World) (qq : Nat), qq ≤ q + 4 → Rd W (w.heap.size + 1 + 1) qq → Ex (w.heap.size + 1 + 1) wE.heap.size wE W → Calls Try.prog 84 #[.pointer (some ⟨w.heap.size + 1 + 1, 0, none⟩), .agg #[.slice a len cap]] W fun e w' => ∃ (k : Int) (n : ByteArray) (qz : Nat), e = .returned (.agg #[.int .i64 k, .string n]) ∧ n.size ≤ maxLen ∧ qz ≤ qq + 4 ∧ Rd w' (w.heap.size + 1 + 1) qz ∧ Ex (w.heap.size + 1 + 1) wE.heap.size wE w' := fun W qq h1 h2 h3 =>
    (S_l20Ref (w.heap.size + 1 + 1) qq pl _ W ((HSE.out.stays rLodKeeper_good (Keeps.of_ex h3 hr1 (Nat.le_refl _))).low rLodKeeper_good (Nat.zero_le _)) h2 (by omega)).mono fun e w' h => by
      obtain ⟨k, n, qz, h4, h5, h6, h7, h8⟩ := h
      exact ⟨k, n, qz, h4, h5, h6, h7, h3.trans (h8.mono h3.size)⟩
  go_region_with (first | (go_at_call 84; refine (CR _ q (by omega) (by first | exact RE | exact RE.drew | exact RE.drew.drew) (by first | exact Ex.refl _ _ _ | exact (Ex.refl _ _ _).drew | exact ((Ex.refl _ _ _).drew).drew)).mono ?_; rintro _ w7 ⟨k7, n7, q7, rfl, hn7, hq7, R7, hX7⟩; have hsl := hX7.size; have e0z := (cell_of_heap (o := 0) (hX7.block (w.heap.size) (by omega) (by omega))).trans e0; have e1z := (cell_of_heap (o := 0) (hX7.block (w.heap.size + 1) (by omega) (by omega))).trans e1; have e2z := (cell_of_heap (o := 1) (hX7.block (w.heap.size + 1) (by omega) (by omega))).trans e2; have f0z := (frozen_of_heap (o := 0) (hX7.block (w.heap.size) (by omega) (by omega))).trans f0; have f1z := (frozen_of_heap (o := 0) (hX7.block (w.heap.size + 1) (by omega) (by omega))).trans f1; have f2z := (frozen_of_heap (o := 1) (hX7.block (w.heap.size + 1) (by omega) (by omega))).trans f2; have c77 := (cell_of_heap (o := 0) (hX7.block (w2.heap.size) (by omega) hl2)).trans c7))
  all_goals
    have hl0 : w.heap.size < w7.heap.size := by omega
    have hl1 : w.heap.size + 1 < w7.heap.size := by omega
    have HSL : Hid (Sl 2 rLodKeeper w1.heap.size w7 (.slice a len cap) pl.fKeepers) := Lib.hid (HSE.out.stays rLodKeeper_good (Keeps.of_ex hX7 hr1 (Nat.le_refl _)))
    have EWL := EW.out.trans (hX7.mono (by omega))
    clear hX7
    go_wp2
    refine bodyPost_ret (v := ?_) ?hrun rfl ?_
    case hrun => (simp only [results, Try.results47]; go_simp; first | done | exact rfl)
    exact HR.out _ _ ⟨⟨_, pl, k7, n7, rfl, (HSL.out.stays rLodKeeper_good (by (repeat' (first | (with_reducible exact Keeps.refl _ _) | (with_reducible refine Keeps.alloc ?_ _) | (with_reducible refine Keeps.setCell ?_ ?_ _) | (with_reducible refine Keeps.drew ?_) | (refine keeps_hyp (by assumption) ?_ ?_) | go_size)))).low rLodKeeper_good (Nat.zero_le _), hn7⟩, eexx⟩

set_option maxRecDepth 100000 in
set_option maxHeartbeats 4000000 in
theorem S_DrawLodUnder (v : Value) (w : World) (hv : Bytes w v) :
    Calls Try.prog 44 #[v] w fun e w' => (∃ (pv : Value) (pl : DLodPlan) (k k2 : Int) (nm nm2 : ByteArray), e = .returned (.tuple #[.agg #[pv], .agg #[.int .i64 k, .string nm], .agg #[.int .i64 k2, .string nm2]]) ∧ Sl 2 rLodKeeper 0 w' pv pl.fKeepers ∧ nm.size ≤ maxLen ∧ nm2.size ≤ maxLen) ∧ Below w.heap.size w w' := by
  have hv' := hv
  refine calls_hide fun R HR => ?_
  go_enter Try.func44, Try.ntmps44
  go_wp2_with fail
  refine (S_l20Open _ _ (by first | exact hv' | exact hv'.alloc _ | exact (hv'.alloc _).alloc _ | exact ((hv'.alloc _).alloc _).alloc _)).mono ?_
  rintro e w1 ⟨rfl, h1, h2, h3⟩
  simp only [World.size_alloc] at h1 h2 h3
  have h2s := (h2).size; (try simp only [World.size_alloc, World.size_setCell, World.size_drew] at h2s)
  obtain ⟨h2ad, h2ao, h2ag, h2ap, h2ax, h2ay, h2ac1, h2af1, h2az1, h2ac2, h2af2, h2az2⟩ := bf3 (n := w.heap.size) h2
  go_wp2_with fail
  refine (S_l20PlanOr _ 0 12 _ (by omega) (by omega) (rdd) (by omega)).mono ?_
  rintro e w2 ⟨pv, pl, q, rfl, hs, hnr, hq, h4, h5⟩
  obtain ⟨a, len, cap, rfl⟩ := hs.form
  have HS := Lib.hid hs
  clear hs hnr
  have h5s := (h5).size; (try simp only [World.size_alloc, World.size_setCell, World.size_drew] at h5s)
  obtain ⟨h5bc, h5bd, h5bf, h5bg, h5bz, h5bx, h5by⟩ := efacts (n := w.heap.size) (k := 3) h5 (by go_size) (by go_size) (by first | omega | (simp; omega)); replace h5bd := h5bd (by decide); replace h5bg := h5bg (by decide); replace h5bx := h5bx (by decide); have h5bc1 := fun o => h5bc 1 o (by decide); have h5bf1 := fun o => h5bf 1 o (by decide); have h5bz1 := h5bz 1 (by decide); have h5bc2 := fun o => h5bc 2 o (by decide); have h5bf2 := fun o => h5bf 2 o (by decide); have h5bz2 := h5bz 2 (by decide); clear h5bc h5bf h5bz
  have hr2 : w.heap.size + 1 + 1 + 1 < w2.heap.size := by omega
  have hr1 : w.heap.size + 1 + 1 + 1 < w1.heap.size := by omega
  obtain ⟨wE, hwE⟩ : ∃ wE, wE = w2.alloc (.cells #[.slice a len cap] 48) := ⟨_, rfl⟩
  have hsE : wE.heap.size = w2.heap.size + 1 := by rw [hwE]; simp
  have c7 : wE.cell? ⟨w2.heap.size, 0, none⟩ = some (.slice a len cap) := by rw [hwE]; go_simp
  have e0 : wE.cell? ⟨w.heap.size, 0, none⟩ = some (.slice none 0 0) := by rw [hwE]; go_simp
  have e1 : wE.cell? ⟨w.heap.size + 1, 0, none⟩ = some (.int .i64 0) := by rw [hwE]; go_simp
  have e2 : wE.cell? ⟨w.heap.size + 1, 1, none⟩ = some (.string ⟨#[]⟩) := by rw [hwE]; go_simp
  have f0 : wE.frozen? ⟨w.heap.size, 0, none⟩ = false := by rw [hwE]; go_simp
  have f1 : wE.frozen? ⟨w.heap.size + 1, 0, none⟩ = false := by rw [hwE]; go_simp
  have f2 : wE.frozen? ⟨w.heap.size + 1, 1, none⟩ = false := by rw [hwE]; go_simp
  have e3 : wE.cell? ⟨w.heap.size + 1 + 1, 0, none⟩ = some (.int .i64 0) := by rw [hwE]; go_simp
  have e4 : wE.cell? ⟨w.heap.size + 1 + 1, 1, none⟩ = some (.string ⟨#[]⟩) := by rw [hwE]; go_simp
  have f3 : wE.frozen? ⟨w.heap.size + 1 + 1, 0, none⟩ = false := by rw [hwE]; go_simp
  have f4 : wE.frozen? ⟨w.heap.size + 1 + 1, 1, none⟩ = false := by rw [hwE]; go_simp
  have EW : Hid (Ex (w.heap.size + 1 + 1 + 1) w.heap.size w wE) := Lib.hid (by rw [hwE]; exact eexx)
  have RE : Rd wE (w.heap.size + 1 + 1 + 1) q := by rw [hwE]; exact rdd
  have HSE : Hid (Sl 2 rLodKeeper w1.heap.size wE (.slice a len cap) pl.fKeepers) := Lib.hid (by rw [hwE]; exact HS.out.stays rLodKeeper_good (Keeps.alloc (Keeps.refl _ _) _))
  have hl2 : w2.heap.size < wE.heap.size := by omega
  clear h2ad h2ag h2ax h2ay h2ao h2ap h5bd h5bg h5bx h5by h2ac1 h2ac2 h2af1 h2af2 h2az1 h2az2 h5bc1 h5bc2 h5bf1 h5bf2 h5bz1 h5bz2 h2 h5 h4 h1
  go_wp2_with fail
  rw [← hwE]
  clear hwE
  have CR : ∀ (W : World) (qq : Nat), qq ≤ q + 4 → Rd W (w.heap.size + 1 + 1 + 1) qq → Ex (w.heap.size + 1 + 1 + 1) wE.heap.size wE W → Calls Try.prog 84 #[.pointer (some ⟨w.heap.size + 1 + 1 + 1, 0, none⟩), .agg #[.slice a len cap]] W fun e w' => ∃ (k : Int) (n : ByteArray) (qz : Nat), e = .returned (.agg #[.int .i64 k, .string n]) ∧ n.size ≤ maxLen ∧ qz ≤ qq + 4 ∧ Rd w' (w.heap.size + 1 + 1 + 1) qz ∧ Ex (w.heap.size + 1 + 1 + 1) wE.heap.size wE w' := fun W qq h1 h2 h3 =>
    (S_l20Ref (w.heap.size + 1 + 1 + 1) qq pl _ W ((HSE.out.stays rLodKeeper_good (Keeps.of_ex h3 hr1 (Nat.le_refl _))).low rLodKeeper_good (Nat.zero_le _)) h2 (by omega)).mono fun e w' h => by
      obtain ⟨k, n, qz, h4, h5, h6, h7, h8⟩ := h
      exact ⟨k, n, qz, h4, h5, h6, h7, h3.trans (h8.mono h3.size)⟩
  go_region_with (first | (go_at_call 84; refine (CR _ q7 (by omega) (by first | exact R7 | exact R7.drew | exact R7.drew.drew) (by first | exact hX7 | exact hX7.drew | exact hX7.drew.drew)).mono ?_; rintro _ w8 ⟨k8, n8, q8, rfl, hn8, hq8, R8, hX8⟩; have hsl := hX8.size; have e0z := (cell_of_heap (o := 0) (hX8.block (w.heap.size) (by omega) (by omega))).trans e0; have e1z := (cell_of_heap (o := 0) (hX8.block (w.heap.size + 1) (by omega) (by omega))).trans e1; have e2z := (cell_of_heap (o := 1) (hX8.block (w.heap.size + 1) (by omega) (by omega))).trans e2; have e3z := (cell_of_heap (o := 0) (hX8.block (w.heap.size + 1 + 1) (by omega) (by omega))).trans e3; have e4z := (cell_of_heap (o := 1) (hX8.block (w.heap.size + 1 + 1) (by omega) (by omega))).trans e4; have f0z := (frozen_of_heap (o := 0) (hX8.block (w.heap.size) (by omega) (by omega))).trans f0; have f1z := (frozen_of_heap (o := 0) (hX8.block (w.heap.size + 1) (by omega) (by omega))).trans f1; have f2z := (frozen_of_heap (o := 1) (hX8.block (w.heap.size + 1) (by omega) (by omega))).trans f2; have f3z := (frozen_of_heap (o := 0) (hX8.block (w.heap.size + 1 + 1) (by omega) (by omega))).trans f3; have f4z := (frozen_of_heap (o := 1) (hX8.block (w.heap.size + 1 + 1) (by omega) (by omega))).trans f4; have c78 := (cell_of_heap (o := 0) (hX8.block (w2.heap.size) (by omega) hl2)).trans c7) | (go_at_call 84; refine (CR _ q (by omega) (by first | exact RE | exact RE.drew | exact RE.drew.drew) (by first | exact Ex.refl _ _ _ | exact (Ex.refl _ _ _).drew | exact ((Ex.refl _ _ _).drew).drew)).mono ?_; rintro _ w7 ⟨k7, n7, q7, rfl, hn7, hq7, R7, hX7⟩; have c77 := (cell_of_heap (o := 0) (hX7.block (w2.heap.size) (by omega) hl2)).trans c7))
  all_goals
    have hl0 : w.heap.size < w8.heap.size := by omega
    have hl1 : w.heap.size + 1 < w8.heap.size := by omega
    have hl2' : w.heap.size + 1 + 1 < w8.heap.size := by omega
    have HSL : Hid (Sl 2 rLodKeeper w1.heap.size w8 (.slice a len cap) pl.fKeepers) := Lib.hid (HSE.out.stays rLodKeeper_good (Keeps.of_ex hX8 hr1 (Nat.le_refl _)))
    have EWL := EW.out.trans (hX8.mono (by omega))
    clear hX8 hX7
    go_wp2
    refine bodyPost_ret (v := ?_) ?hrun rfl ?_
    case hrun => (simp only [results, Try.results44]; go_simp; first | done | exact rfl)
    exact HR.out _ _ ⟨⟨_, pl, k7, k8, n7, n8, rfl, (HSL.out.stays rLodKeeper_good (by (repeat' (first | (with_reducible exact Keeps.refl _ _) | (with_reducible refine Keeps.alloc ?_ _) | (with_reducible refine Keeps.setCell ?_ ?_ _) | (with_reducible refine Keeps.drew ?_) | (refine keeps_hyp (by assumption) ?_ ?_) | go_size)))).low rLodKeeper_good (Nat.zero_le _), hn7, hn8⟩, eexx⟩

end Go.Proofs.Ytcdmmnfdnmjnpaa
