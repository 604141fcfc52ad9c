

/-
  The walks of the reference's l3Whose and l3Class. Condition: the data can be read, and the keepers are ok.
-/
import Derived.Test.YtmmlhnjmjmbfpaaGreatFindP
import Derived.Test.YtmmlhnjmjmbfpaaGreatLodS
import Derived.Deep.RegionHeld3
namespace Go.Proofs.YtmmlhnjmjmbfpaaGreat
set_option linter.unusedSimpArgs false
set_option linter.unusedVariables false
open Go.RowKit

/-- a reference and a code, as they are returned -/
def refT (x : DLodRef × Int) : Value := .tuple #[.agg #[.int .i64 x.1.fKeeper, .string x.1.fName], .int .i64 x.2]
theorem keep_frozen {x x' : World} {a : Addr} {f : Bool} {v : Value} (hb : Below x.heap.size x x') (hc : x.cell? a = some v) (h : x.frozen? a = f) : x'.frozen? a = f := (hb.frozen (block_lt_of_cell hc)).trans h
theorem whoseR_of {p : DLodPlan} {i : Nat} {nm : ByteArray} {c : Int} {j : Nat} (h : whose p i nm = (c, j)) : whoseR p i nm = if c = 1 then (⟨(j : Int), nm⟩, 1) else (noRef, c) := by
  unfold whoseR; rw [h]

set_option maxRecDepth 100000 in
set_option maxHeartbeats 8000000 in
theorem S_l3Whose (p : DLodPlan) (v1 : Value) (i : Nat) (nm : ByteArray) (w : World) (s1 : Sl 2 rLodKeeper 0 w v1 p.fKeepers) (hp : lodOk p = true) (hi : i < p.fKeepers.length) :
    Calls Tryz.prog 36 #[.agg #[v1], .int .i64 (i : Int), .string nm] w fun e w' => e = .returned (refT (whoseR p i nm)) ∧ Below w.heap.size w w' := by
  obtain ⟨a, len, cap, rfl, hl, h1, h2, h3⟩ := id s1
  have m1 : len ≤ 9223372036854775807 := by unfold maxLen at h2; omega
  rw [hl] at hi
  have HL := Lib.hid hl
  have HP := Lib.hid hp
  clear h2 hl h1 hp
  refine calls_hide fun R HR => ?_
  go_enter Tryz.func36, Tryz.ntmps36
  go_wp2_with fail
  go_loopw [8, 9] (fun za zn wr => ∃ (n at' : Nat), n ≤ 4 ∧ za = .int .i64 at' ∧ zn = .int .i64 n ∧ at' < len ∧ whose p i nm = whoseF p nm (4 - n) at' ∧ Below w.heap.size w wr ∧ wr.cell? ⟨w.heap.size, 0, none⟩ = some (.slice a len cap) ∧ wr.cell? ⟨w.heap.size + 1, 0, none⟩ = some (.int .i64 0) ∧ wr.cell? ⟨w.heap.size + 1, 1, none⟩ = some (.string ⟨#[]⟩) ∧ wr.frozen? ⟨w.heap.size + 1, 0, none⟩ = false ∧ wr.frozen? ⟨w.heap.size + 1, 1, none⟩ = false) (fun _ zn _ => 4 - (intOf zn).toNat)
  case atStart => exact ⟨0, i, by omega, rfl, rfl, hi, rfl, by (repeat' (first | (with_reducible exact Below.refl _ _) | (with_reducible refine Below.alloc ?_ ?_ _) | (with_reducible refine Below.setCell ?_ ?_ _) | (with_reducible refine Below.drew ?_) | (refine below_hyp (by assumption) ?_ ?_) | go_size)), by go_simp, by go_simp, by go_simp, by go_simp, by go_simp⟩
  case round =>
    obtain ⟨n, at', hn, rfl, rfl, hat, hw, hb, c0, r0, r1, f0, f1⟩ := hrel
    have HW := Lib.hid hw
    clear hw
    have hbx := hb.size
    by_cases hn4 : n ≤ 3
    · obtain ⟨b, off, rfl, hlo, hbl, hr⟩ := h3.stays rLodKeeper_good (Keeps.of_below hb) (by omega)
      obtain ⟨k, cs, e0, e1, e2, e3⟩ := hr at' hat
      obtain ⟨x1, x2, rfl, t1, t2⟩ := e3
      obtain ⟨xa1, xl1, xc1, rfl⟩ := t1.form
      obtain ⟨xa2, xl2, xc2, rfl⟩ := t2.form
      have q1 : wr.cell? ⟨b, off + at' * 2, none⟩ = some (.slice xa1 xl1 xc1) := e2 0 _ rfl
      have q2 : wr.cell? ⟨b, off + at' * 2 + 1, none⟩ = some (.slice xa2 xl2 xc2) := e2 1 _ rfl
      have NX : Hid (nxt p nm at' = asksOf k.fAsks nm) := Lib.hid (by simp only [nxt, e0])
      have OW : Hid (ownN p nm at' = ownAt k.fOwns nm) := Lib.hid (by simp only [ownN, e0])
      have NL : asksOf k.fAsks nm < (len : Int) := by rw [← NX.out, ← HL.out]; exact nxt_lt HP.out nm at'
      clear e0 e1 e2 hr
      obtain ⟨z, hz⟩ : ∃ z, z = asksOf k.fAsks nm := ⟨_, rfl⟩
      rw [← hz] at NL
      have HZ := Lib.hid hz
      clear hz
      go_wp2_with fail
      refine (S_l3Asks k _ _ nm _ t1 t2).mono ?_
      rintro _ wA ⟨rfl, hA⟩
      rw [← HZ.out]
      have hEA := hb.trans (hA.mono hbx)
      replace f0 := keep_frozen hA r0 f0
      replace f1 := keep_frozen hA r1 f1
      replace c0 := keep_cell hA c0
      replace r0 := keep_cell hA r0
      replace r1 := keep_cell hA r1
      replace q1 := keep_cell hA q1
      replace q2 := keep_cell hA q2
      by_cases hzz : z < 0
      · have ZN := Lib.hid hzz
        go_wp2_with fail
        refine (S_l3Own k _ _ nm _ (t1.stays rClsClass_good (Keeps.of_below hA)) (t2.stays rLodAsk_good (Keeps.of_below hA))).mono ?_
        rintro _ wB ⟨rfl, hB⟩
        obtain ⟨y, hy⟩ : ∃ y, y = ownAt k.fOwns nm := ⟨_, rfl⟩
        rw [← hy]
        have HY := Lib.hid hy
        clear hy
        have hEB := hEA.trans (hB.mono hEA.size)
        have hBs := block_lt_of_cell (keep_cell hB r0)
        replace f0 := keep_frozen hB r0 f0
        replace f1 := keep_frozen hB r1 f1
        replace r0 := keep_cell hB r0
        replace r1 := keep_cell hB r1
        have RES : Hid (whose p i nm = if y < 0 then (2, 0) else (1, at')) := Lib.hid (by
          rw [HW.out, show 4 - n = (3 - n) + 1 by omega]
          simp only [whoseF]
          rw [NX.out, OW.out, ← HZ.out, ← HY.out, if_pos ZN.out])
        clear c0 q1 q2
        by_cases hyy : y < 0
        · have RV : Hid (whoseR p i nm = (noRef, 2)) := Lib.hid (by have h5 := RES.out; rw [if_pos hyy] at h5; rw [whoseR_of h5]; rfl)
          clear RES
          go_wp2
          all_goals
            refine bodyPost_ret (v := ?_) ?hrun rfl ?_
            case hrun => (simp only [results, Tryz.results36]; go_simp; first | done | exact rfl)
            exact HR.out _ _ ⟨by rw [RV.out]; rfl, by (repeat' (first | (with_reducible exact Below.refl _ _) | (with_reducible refine Below.alloc ?_ ?_ _) | (with_reducible refine Below.setCell ?_ ?_ _) | (with_reducible refine Below.drew ?_) | (refine below_hyp (by assumption) ?_ ?_) | go_size))⟩
        · have RV : Hid (whoseR p i nm = (⟨(at' : Int), nm⟩, 1)) := Lib.hid (by have h5 := RES.out; rw [if_neg hyy] at h5; rw [whoseR_of h5]; rfl)
          clear RES
          go_wp2
          all_goals
            refine bodyPost_ret (v := ?_) ?hrun rfl ?_
            case hrun => (simp only [results, Tryz.results36]; go_simp; first | done | exact rfl)
            exact HR.out _ _ ⟨by rw [RV.out]; rfl, by (repeat' (first | (with_reducible exact Below.refl _ _) | (with_reducible refine Below.alloc ?_ ?_ _) | (with_reducible refine Below.setCell ?_ ?_ _) | (with_reducible refine Below.drew ?_) | (refine below_hyp (by assumption) ?_ ?_) | go_size))⟩
      · have ZN := Lib.hid hzz
        have hzt : z = (z.toNat : Int) := by omega
        have ZT := Lib.hid hzt
        clear hzt
        go_wp2
        go_roundw
        case measure => simp [intOf]; omega
        case rel =>
          refine ⟨n + 1, z.toNat, by omega, by rw [← ZT.out], by go_num, by omega, ?_, hEA, c0, r0, r1, f0, f1⟩
          rw [HW.out, show 4 - n = (4 - (n + 1)) + 1 by omega]
          simp only [whoseF]
          rw [NX.out, ← HZ.out, if_neg (show ¬ z < 0 by have := ZN.out; omega)]
    · obtain rfl : n = 4 := by omega
      have RV : Hid (whoseR p i nm = (noRef, 3)) := Lib.hid (by have h5 := HW.out; rw [show 4 - 4 = 0 from rfl, whoseF] at h5; rw [whoseR_of h5]; rfl)
      have hrs := block_lt_of_cell r0
      go_wp2
      all_goals
        refine bodyPost_ret (v := ?_) ?hrun rfl ?_
        case hrun => (simp only [results, Tryz.results36]; go_simp; first | done | exact rfl)
        exact HR.out _ _ ⟨by rw [RV.out]; rfl, by (repeat' (first | (with_reducible exact Below.refl _ _) | (with_reducible refine Below.alloc ?_ ?_ _) | (with_reducible refine Below.setCell ?_ ?_ _) | (with_reducible refine Below.drew ?_) | (refine below_hyp (by assumption) ?_ ?_) | go_size))⟩

/-- a class, as it is read in w -/
def ClsV (w : World) (c : DClsClass) (v : Value) : Prop := ∃ a1 l1 c1 a2 l2 c2, v = .agg #[.string c.fName, .string c.fSuper, .slice a1 l1 c1, .slice a2 l2 c2] ∧ Sl 3 rClsField 0 w (.slice a1 l1 c1) c.fFields ∧ Sl 8 rClsMethod 0 w (.slice a2 l2 c2) c.fMethods ∧ c.fName.size ≤ maxLen ∧ c.fSuper.size ≤ maxLen

/-- a world grown out of wB, but for the cells of block B, that can be written -/
structure StoreOk (B n : Nat) (wB x : World) : Prop where
  below : Below B wB x
  cells : ∀ i, i < n → (x.cell? ⟨B, i, none⟩).isSome = true
  free : ∀ i, i < n → x.frozen? ⟨B, i, none⟩ = false
def cellV (w : World) (b i : Nat) : Value := (w.cell? ⟨b, i, none⟩).getD undef
theorem StoreOk.at' {B n : Nat} {wB : World} {i : Nat} (hi : i < n) : ∀ W, StoreOk B n wB W → W.cell? ⟨B, i, none⟩ = some (cellV W B i) := fun W h => by
  obtain ⟨u, hu⟩ := Option.isSome_iff_exists.1 (h.cells i hi)
  unfold cellV; rw [hu]; rfl
theorem StoreOk.fr {B n : Nat} {wB : World} {i : Nat} (hi : i < n) : ∀ W, StoreOk B n wB W → W.frozen? ⟨B, i, none⟩ = false := fun W h => h.free i hi
theorem StoreOk.rd {B n : Nat} {wB : World} {b o : Nat} {v : Value} (hb : b < B) (h : wB.cell? ⟨b, o, none⟩ = some v) : ∀ W, StoreOk B n wB W → W.cell? ⟨b, o, none⟩ = some v := fun W hW => (hW.below.cell (p := ⟨b, o, none⟩) hb).trans h
theorem StoreOk.drew {B n : Nat} {wB x : World} (h : StoreOk B n wB x) : StoreOk B n wB x.drew := ⟨h.below.drew, h.cells, h.free⟩
theorem StoreOk.call {B n : Nat} {wB x x' : World} (hb : Below x.heap.size x x') (h : StoreOk B n wB x) (hB : B ≤ wB.heap.size) : StoreOk B n wB x' :=
  ⟨h.below.trans (hb.mono (by have := h.below.size; omega)), fun i hi => by
    obtain ⟨u, hu⟩ := Option.isSome_iff_exists.1 (h.cells i hi)
    rw [keep_cell hb hu]; rfl, fun i hi => by
    obtain ⟨u, hu⟩ := Option.isSome_iff_exists.1 (h.cells i hi)
    exact keep_frozen hb hu (h.free i hi)⟩
theorem StoreOk.set {B n : Nat} {wB x : World} (h : StoreOk B n wB x) (i : Nat) (v : Value) : StoreOk B n wB (x.setCell ⟨B, i, none⟩ v) :=
  ⟨h.below.setCell (Nat.le_refl _) _, fun j hj => World.isSome_setCells B [v] i x _ (h.cells j hj), fun j hj => by rw [World.frozen?_setCell]; exact h.free j hj⟩

theorem isSome_back {w : World} {a p : Addr} {v : Value} (h : ((w.setCell a v).cell? p).isSome = true) : (w.cell? p).isSome = true := by
  unfold World.cell? World.setCell at h
  unfold World.cell?
  rw [Array.getElem?_modify] at h
  by_cases e : a.block = p.block
  · rw [if_pos e] at h
    cases ho : w.heap[p.block]? with
    | none => rw [ho] at h; simp at h
    | some o =>
      rw [ho] at h
      cases o with
      | cells c t fr =>
        simp only [Option.map_some] at h
        show (if p.spot.isSome then none else c[p.off]?).isSome = true
        by_cases hs : p.spot.isSome = true
        · rw [if_pos hs] at h; simp at h
        · rw [if_neg hs] at h ⊢
          by_cases ha : a.spot.isSome = true
          · rw [if_pos ha] at h; exact h
          · rw [if_neg ha] at h
            simpa using h
      | _ => simp at h
  · rw [if_neg e] at h; exact h
theorem stored4 {B : Nat} {wB w : World} {u0 u1 u2 u3 : Value} (h : StoreOk B 4 wB ((((w.setCell ⟨B, 0, none⟩ u0).setCell ⟨B, 1, none⟩ u1).setCell ⟨B, 2, none⟩ u2).setCell ⟨B, 3, none⟩ u3)) :
    ∃ c0 c1 c2 c3, w.cell? ⟨B, 0, none⟩ = some c0 ∧ w.cell? ⟨B, 1, none⟩ = some c1 ∧ w.cell? ⟨B, 2, none⟩ = some c2 ∧ w.cell? ⟨B, 3, none⟩ = some c3 ∧ B < w.heap.size := by
  have g : ∀ i, i < 4 → ∃ c, w.cell? ⟨B, i, none⟩ = some c := fun i hi => Option.isSome_iff_exists.1 (isSome_back (isSome_back (isSome_back (isSome_back (h.cells i hi)))))
  obtain ⟨c0, h0⟩ := g 0 (by omega)
  obtain ⟨c1, h1⟩ := g 1 (by omega)
  obtain ⟨c2, h2⟩ := g 2 (by omega)
  obtain ⟨c3, h3⟩ := g 3 (by omega)
  exact ⟨c0, c1, c2, c3, h0, h1, h2, h3, block_lt_of_cell h0⟩

set_option maxRecDepth 100000 in
set_option maxHeartbeats 8000000 in
theorem S_l3ClassO (p : DLodPlan) (v1 : Value) (r : DLodRef) (c : DClsClass) (w0 w : World) (hW : Below w0.heap.size w0 w) (s1 : Sl 2 rLodKeeper 0 w0 v1 p.fKeepers) (hc : clsAt p r = some c) (hrs : r.fName.size ≤ maxLen) :
    Calls Tryz.prog 35 #[.agg #[v1], .agg #[.int .i64 r.fKeeper, .string r.fName]] w fun e w' => (∃ v, e = .returned v ∧ ClsV w0 c v) ∧ Below w.heap.size w w' := by
  obtain ⟨a, len, cap, rfl, hl, h1, h2, h3⟩ := id s1
  have hW0 := hW
  have m1 : len ≤ 9223372036854775807 := by unfold maxLen at h2; omega
  unfold clsAt at hc
  by_cases h0 : ¬ 0 ≤ r.fKeeper
  · rw [if_neg h0] at hc; cases hc
  replace h0 := Decidable.byContradiction h0
  rw [if_pos h0] at hc
  obtain ⟨rk, rn⟩ := r
  simp only at hc h0 hrs
  obtain ⟨i, rfl⟩ : ∃ i : Nat, rk = (i : Int) := ⟨rk.toNat, by omega⟩
  rw [Int.toNat_natCast] at hc
  cases hk : p.fKeepers[i]? with
  | none => rw [hk] at hc; cases hc
  | some k =>
    rw [hk] at hc
    simp only at hc
    by_cases ho : ¬ 0 ≤ ownAt k.fOwns rn
    · rw [if_neg ho] at hc; cases hc
    replace ho := Decidable.byContradiction ho
    rw [if_pos ho] at hc
    obtain ⟨z, hz⟩ : ∃ z : Nat, ownAt k.fOwns rn = (z : Int) := ⟨(ownAt k.fOwns rn).toNat, by omega⟩
    rw [hz, Int.toNat_natCast] at hc
    have hi : i < len := by rw [← hl]; exact (List.getElem?_eq_some_iff.1 hk).1
    obtain ⟨b, off, rfl, hlo, hbl, hr⟩ := h3 (by omega)
    obtain ⟨k', cs, e0, e1, e2, e3⟩ := hr i hi
    obtain rfl : k = k' := Option.some.inj (hk.symm.trans e0)
    obtain ⟨x1, x2, rfl, t1, t2⟩ := e3
    obtain ⟨xa2, xl2, xc2, rfl⟩ := t2.form
    obtain ⟨ya, yl, yc, rfl, yh, yc1, yc2, y3⟩ := id t1
    have hzl : z < yl := by rw [← yh]; exact (List.getElem?_eq_some_iff.1 hc).1
    have my : yl ≤ 9223372036854775807 := by unfold maxLen at yc2; omega
    obtain ⟨b', off', rfl, _, hbl', hr'⟩ := y3 (by omega)
    obtain ⟨c', cs', g0, g1, g2, g3⟩ := hr' z hzl
    obtain rfl : c = c' := Option.some.inj (hc.symm.trans g0)
    obtain ⟨u1, u2, rfl, d1, d2, bx1, bx2⟩ := g3
    obtain ⟨za1, zl1, zc1, rfl⟩ := d1.form
    obtain ⟨za2, zl2, zc2, rfl⟩ := d2.form
    have q1 : w.cell? ⟨b, off + i * 2, none⟩ = some (.slice (some ⟨b', off', none⟩) yl yc) := keep_cell hW (e2 0 _ rfl)
    have q2 : w.cell? ⟨b, off + i * 2 + 1, none⟩ = some (.slice xa2 xl2 xc2) := keep_cell hW (e2 1 _ rfl)
    have p1 : w.cell? ⟨b', off' + z * 4, none⟩ = some (.string c.fName) := keep_cell hW (g2 0 _ rfl)
    have p2 : w.cell? ⟨b', off' + z * 4 + 1, none⟩ = some (.string c.fSuper) := keep_cell hW (g2 1 _ rfl)
    have p3 : w.cell? ⟨b', off' + z * 4 + 2, none⟩ = some (.slice za1 zl1 zc1) := keep_cell hW (g2 2 _ rfl)
    have p4 : w.cell? ⟨b', off' + z * 4 + 3, none⟩ = some (.slice za2 zl2 zc2) := keep_cell hW (g2 3 _ rfl)
    replace hbl := Nat.lt_of_lt_of_le hbl hW.size
    replace hbl' := Nat.lt_of_lt_of_le hbl' hW.size
    have HZ := Lib.hid hz
    clear e0 e1 e2 hr g0 g1 g2 hr' hc hk hz hl yh ho h0 h1 h2 yc1 yc2 h3 y3
    refine calls_hide fun R HR => ?_
    go_enter Tryz.func35, Tryz.ntmps35
    go_wp2_with fail
    obtain ⟨wB, hwB⟩ : ∃ wB, wB = ((w.alloc (.cells #[.slice (some ⟨b, off, none⟩) len cap] 33)).alloc (.cells #[.int .i64 (i : Int), .string rn] 35)).alloc (.cells #[.string ⟨#[]⟩, .string ⟨#[]⟩, .slice none 0 0, .slice none 0 0] 69) := ⟨_, rfl⟩
    rw [← hwB]
    have hBB : Below w.heap.size w wB := by rw [hwB]; (repeat' (first | (with_reducible exact Below.refl _ _) | (with_reducible refine Below.alloc ?_ ?_ _) | (with_reducible refine Below.setCell ?_ ?_ _) | (with_reducible refine Below.drew ?_) | (refine below_hyp (by assumption) ?_ ?_) | go_size))
    obtain ⟨B, hBd⟩ : ∃ B, B = w.heap.size + 1 + 1 := ⟨_, rfl⟩
    have hS : StoreOk B 4 wB wB := ⟨Below.refl _ _, fun j hj => by
      rw [hBd, hwB]
      match j, hj with
      | 0, _ => go_simp
      | 1, _ => go_simp
      | 2, _ => go_simp
      | 3, _ => go_simp, fun j hj => by rw [hBd, hwB]; go_simp⟩
    have hzB : B < wB.heap.size := by rw [hBd, hwB]; simp
    have k0 := StoreOk.rd (B := B) (n := 4) (show w.heap.size < B by omega) (show wB.cell? ⟨w.heap.size, 0, none⟩ = some (.slice (some ⟨b, off, none⟩) len cap) by rw [hwB]; go_simp)
    have k1 := StoreOk.rd (B := B) (n := 4) (show w.heap.size + 1 < B by omega) (show wB.cell? ⟨w.heap.size + 1, 0, none⟩ = some (.int .i64 (i : Int)) by rw [hwB]; go_simp)
    have k2 := StoreOk.rd (B := B) (n := 4) (show w.heap.size + 1 < B by omega) (show wB.cell? ⟨w.heap.size + 1, 1, none⟩ = some (.string rn) by rw [hwB]; go_simp)
    have Q1 := StoreOk.rd (B := B) (n := 4) (show b < B by omega) (keep_cell hBB q1)
    have Q2 := StoreOk.rd (B := B) (n := 4) (show b < B by omega) (keep_cell hBB q2)
    have P1 := StoreOk.rd (B := B) (n := 4) (show b' < B by omega) (keep_cell hBB p1)
    have P2 := StoreOk.rd (B := B) (n := 4) (show b' < B by omega) (keep_cell hBB p2)
    have P3 := StoreOk.rd (B := B) (n := 4) (show b' < B by omega) (keep_cell hBB p3)
    have P4 := StoreOk.rd (B := B) (n := 4) (show b' < B by omega) (keep_cell hBB p4)
    have V0 := StoreOk.at' (B := B) (n := 4) (wB := wB) (i := 0) (by omega)
    have V1 := StoreOk.at' (B := B) (n := 4) (wB := wB) (i := 1) (by omega)
    have V2 := StoreOk.at' (B := B) (n := 4) (wB := wB) (i := 2) (by omega)
    have V3 := StoreOk.at' (B := B) (n := 4) (wB := wB) (i := 3) (by omega)
    have F0 := StoreOk.fr (B := B) (n := 4) (wB := wB) (i := 0) (by omega)
    have F1 := StoreOk.fr (B := B) (n := 4) (wB := wB) (i := 1) (by omega)
    have F2 := StoreOk.fr (B := B) (n := 4) (wB := wB) (i := 2) (by omega)
    have F3 := StoreOk.fr (B := B) (n := 4) (wB := wB) (i := 3) (by omega)
    have hBw : B ≤ wB.heap.size := by omega
    have CO : ∀ W, StoreOk B 4 wB W → Calls Tryz.prog 47 #[.agg #[.slice (some ⟨b', off', none⟩) yl yc, .slice xa2 xl2 xc2], .string rn] W fun e w' => e = .returned (.int .i64 (z : Int)) ∧ Below W.heap.size W w' := fun W hW => by
      rw [← HZ.out]
      have hk := (Keeps.of_below (lo := 0) hW0).trans (Keeps.of_below (lo := 0) (hBB.trans (hW.below.mono (show w.heap.size ≤ B by omega))))
      exact S_l3Own k _ _ rn W (t1.stays rClsClass_good hk) (t2.stays rLodAsk_good hk)
    have g1 : (i : Int) < (len : Int) := by omega
    have g2 : (z : Int) < (yl : Int) := by omega
    have HBD := Lib.hid hBd
    rw [← hBd]
    clear hwB q1 q2 p1 p2 p3 p4 hBd
    go_region_held3 (fun x => StoreOk B 4 wB x) (first | with_reducible assumption | (with_reducible refine StoreOk.drew ?_; assumption) | exact StoreOk.call (by assumption) (by assumption) hBw | (repeat (with_reducible refine StoreOk.set ?_ _ _)); assumption) (first | (go_at_call 47; refine (CO _ (by assumption)).mono ?_; rintro _ _ ⟨rfl, _⟩))
    rename_i hE
    obtain ⟨e0, e1, e2, e3, y0, y1, y2, y3, hBl⟩ := stored4 hE
    have hEE : Below w.heap.size w _ := hBB.trans (hE.below.mono (show w.heap.size ≤ B by have := HBD.out; omega))
    clear k0 k1 k2 Q1 Q2 P1 P2 P3 P4 V0 V1 V2 V3 F0 F1 F2 F3 CO
    go_wp2
    refine bodyPost_ret (v := ?_) ?hrun rfl ?_
    case hrun => (simp only [results, Tryz.results35]; go_simp; first | done | exact rfl)
    exact HR.out _ _ ⟨⟨_, rfl, za1, zl1, zc1, za2, zl2, zc2, rfl, d1, d2, bx1, bx2⟩, hEE⟩

theorem S_l3Class (p : DLodPlan) (v1 : Value) (r : DLodRef) (c : DClsClass) (w : World) (s1 : Sl 2 rLodKeeper 0 w v1 p.fKeepers) (hc : clsAt p r = some c) (hrs : r.fName.size ≤ maxLen) :
    Calls Tryz.prog 35 #[.agg #[v1], .agg #[.int .i64 r.fKeeper, .string r.fName]] w fun e w' => (∃ v, e = .returned v ∧ ClsV w c v) ∧ Below w.heap.size w w' :=
  S_l3ClassO p v1 r c w w (Below.refl _ _) s1 hc hrs

end Go.Proofs.YtmmlhnjmjmbfpaaGreat
