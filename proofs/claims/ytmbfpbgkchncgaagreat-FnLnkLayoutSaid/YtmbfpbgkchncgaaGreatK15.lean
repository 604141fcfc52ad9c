/-
  Texts of mine, packed: FindS, FindI, FindT. No condition beside those of the single theorems.
-/
import Derived.Test.YtmbfpbgkchncgaaGreatK11
import Derived.Test.YtmbfpbgkchncgaaGreatK9
import Derived.Deep.RegionHeld3
import Derived.Test.YtmbfpbgkchncgaaGreatK14
import Derived.OwnWalk
import Derived.StillTailTactics
import Derived.Maps.Own
set_option linter.unusedSimpArgs false
set_option linter.unusedVariables false
set_option maxHeartbeats 16000000
set_option maxRecDepth 100000
namespace Go.Proofs.YtmbfpbgkchncgaaGreat
open Go.RowKit
def refT (x : DLodRef × Int) : Value := .tuple #[.agg #[.int .i64 x.1.fKeeper, .string x.1.fName], .int .i64 x.2]
theorem qas {x x' : World} {a : Addr} {f : Bool} {v : Value} (hb : Below x.heap.size x x') (hc : x.cell? a = some v) (h : x.frozen? a = f) : x'.frozen? a = f := (hb.frozen (block_lt_of_cell hc)).trans h
theorem whoseR_of {p : DLodPlan} {i : Nat} {nm : ByteArray} {c : Int} {j : Nat} (h : whose p i nm = (c, j)) : whoseR p i nm = if c = 1 then (⟨(j : Int), nm⟩, 1) else (noRef, c) := by
 unfold whoseR; rw [h]

theorem S_l3Whose (p : DLodPlan) (v1 : Value) (i : Nat) (nm : ByteArray) (w : World) (s1 : Sl 2 rLodKeeper 0 w v1 p.fKeepers) (hp : lodOk p = true) (hi : i < p.fKeepers.length) :
  Calls Tryz.prog 91 #[.agg #[v1], .int .i64 (i : Int), .string nm] w fun e w' => e = .returned (refT (whoseR p i nm)) ∧ Below w.heap.size w w' := by
 obtain ⟨a, len, cap, rfl, hl, h1, h2, h3⟩ := id s1
 have m1 : len ≤ 9223372036854775807 := by unfold maxLen at h2; omega
 rw [hl] at hi
 have HL := qhd hl
 have HP := qhd hp
 clear h2 hl h1 hp
 refine qab fun R HR => ?_
 go_enter Tryz.func91, Tryz.ntmps91
 go_wp2_with fail
 go_loopw [8, 9] (fun za zn wr => ∃ (n at' : Nat), n ≤ 4 ∧ za = .int .i64 at' ∧ zn = .int .i64 n ∧ at' < len ∧ whose p i nm = whoseF p nm (4 - n) at' ∧ Below w.heap.size w wr ∧ wr.cell? ⟨w.heap.size, 0, none⟩ = some (.slice a len cap) ∧ wr.cell? ⟨w.heap.size + 1, 0, none⟩ = some (.int .i64 0) ∧ wr.cell? ⟨w.heap.size + 1, 1, none⟩ = some (.string ⟨#[]⟩) ∧ wr.frozen? ⟨w.heap.size + 1, 0, none⟩ = false ∧ wr.frozen? ⟨w.heap.size + 1, 1, none⟩ = false) (fun _ zn _ => 4 - (intOf zn).toNat)
 case atStart => exact ⟨0, i, by omega, rfl, rfl, hi, rfl, bbel, by go_simp, by go_simp, by go_simp, by go_simp, by go_simp⟩
 case round =>
  obtain ⟨n, at', hn, rfl, rfl, hat, hw, hb, c0, r0, r1, f0, f1⟩ := hrel
  have HW := qhd hw
  clear hw
  have hbx := hb.size
  by_cases hn4 : n ≤ 3
  ·obtain ⟨b, off, rfl, hlo, hbl, hr⟩ := h3.stays rLodKeeper_good (Keeps.of_below hb) (by omega)
   obtain ⟨k, cs, e0, e1, e2, e3⟩ := hr at' hat
   obtain ⟨x1, x2, rfl, t1, t2⟩ := e3
   obtain ⟨xa1, xl1, xc1, rfl⟩ := t1.form
   obtain ⟨xa2, xl2, xc2, rfl⟩ := t2.form
   have q1 : wr.cell? ⟨b, off + at' * 2, none⟩ = some (.slice xa1 xl1 xc1) := e2 0 _ rfl
   have q2 : wr.cell? ⟨b, off + at' * 2 + 1, none⟩ = some (.slice xa2 xl2 xc2) := e2 1 _ rfl
   have NX : Hid (nxt p nm at' = asksOf k.fAsks nm) := qhd (by simp only [nxt, e0])
   have OW : Hid (ownN p nm at' = ownAt k.fOwns nm) := qhd (by simp only [ownN, e0])
   have NL : asksOf k.fAsks nm < (len : Int) := by rw [← NX.out, ← HL.out]; exact nxt_lt HP.out nm at'
   clear e0 e1 e2 hr
   obtain ⟨z, hz⟩ : ∃ z, z = asksOf k.fAsks nm := ⟨_, rfl⟩
   rw [← hz] at NL
   have HZ := qhd hz
   clear hz
   go_wp2_with fail
   refine (S_l3Asks k _ _ nm _ t1 t2).mono ?_
   rintro _ wA ⟨rfl, hA⟩
   rw [← HZ.out]
   have hEA := hb.trans (hA.mono hbx)
   replace f0 := qas hA r0 f0
   replace f1 := qas hA r1 f1
   replace c0 := qaa hA c0
   replace r0 := qaa hA r0
   replace r1 := qaa hA r1
   replace q1 := qaa hA q1
   replace q2 := qaa hA q2
   by_cases hzz : z < 0
   ·have ZN := qhd hzz
    go_wp2_with fail
    refine (S_l3Own k _ _ nm _ (t1.stays rClsClass_good (Keeps.of_below hA)) (t2.stays rLodAsk_good (Keeps.of_below hA))).mono ?_
    rintro _ wB ⟨rfl, hB⟩
    obtain ⟨y, hy⟩ : ∃ y, y = ownAt k.fOwns nm := ⟨_, rfl⟩
    rw [← hy]
    have HY := qhd hy
    clear hy
    have hEB := hEA.trans (hB.mono hEA.size)
    have hBs := block_lt_of_cell (qaa hB r0)
    replace f0 := qas hB r0 f0
    replace f1 := qas hB r1 f1
    replace r0 := qaa hB r0
    replace r1 := qaa hB r1
    have RES : Hid (whose p i nm = if y < 0 then (2, 0) else (1, at')) := qhd (by
     rw [HW.out, show 4 - n = (3 - n) + 1 by omega]
     simp only [whoseF]
     rw [NX.out, OW.out, ← HZ.out, ← HY.out, if_pos ZN.out])
    clear c0 q1 q2
    by_cases hyy : y < 0
    ·have RV : Hid (whoseR p i nm = (noRef, 2)) := qhd (by have h5 := RES.out; rw [if_pos hyy] at h5; rw [whoseR_of h5]; rfl)
     clear RES
     go_wp2
     all_goals
      refine bodyPost_ret (v := ?_) ?hrun rfl ?_
      case hrun => (simp only [results, Tryz.results91]; go_simp; first | done | exact rfl)
      exact HR.out _ _ ⟨by rw [RV.out]; rfl, bbel⟩
    ·have RV : Hid (whoseR p i nm = (⟨(at' : Int), nm⟩, 1)) := qhd (by have h5 := RES.out; rw [if_neg hyy] at h5; rw [whoseR_of h5]; rfl)
     clear RES
     go_wp2
     all_goals
      refine bodyPost_ret (v := ?_) ?hrun rfl ?_
      case hrun => (simp only [results, Tryz.results91]; go_simp; first | done | exact rfl)
      exact HR.out _ _ ⟨by rw [RV.out]; rfl, bbel⟩
   ·have ZN := qhd hzz
    have hzt : z = (z.toNat : Int) := by omega
    have ZT := qhd hzt
    clear hzt
    go_wp2
    go_roundw
    case measure => simp [intOf]; omega
    case rel =>
     refine ⟨n + 1, z.toNat, by omega, by rw [← ZT.out], by go_num, by omega, ?_, hEA, c0, r0, r1, f0, f1⟩
     rw [HW.out, show 4 - n = (4 - (n + 1)) + 1 by omega]
     simp only [whoseF]
     rw [NX.out, ← HZ.out, if_neg (show ¬ z < 0 by have := ZN.out; omega)]
  ·obtain rfl : n = 4 := by omega
   have RV : Hid (whoseR p i nm = (noRef, 3)) := qhd (by have h5 := HW.out; rw [show 4 - 4 = 0 from rfl, whoseF] at h5; rw [whoseR_of h5]; rfl)
   have hrs := block_lt_of_cell r0
   go_wp2
   all_goals
    refine bodyPost_ret (v := ?_) ?hrun rfl ?_
    case hrun => (simp only [results, Tryz.results91]; go_simp; first | done | exact rfl)
    exact HR.out _ _ ⟨by rw [RV.out]; rfl, bbel⟩

def ClsV (w : World) (c : DClsClass) (v : Value) : Prop := ∃ a1 l1 c1 a2 l2 c2, v = .agg #[.string c.fName, .string c.fSuper, .slice a1 l1 c1, .slice a2 l2 c2] ∧ Sl 3 rClsField 0 w (.slice a1 l1 c1) c.fFields ∧ Sl 8 rClsMethod 0 w (.slice a2 l2 c2) c.fMethods ∧ c.fName.size ≤ maxLen ∧ c.fSuper.size ≤ maxLen

structure StoreOk (B n : Nat) (wB x : World) : Prop where
 below : Below B wB x
 cells : ∀ i, i < n → (x.cell? ⟨B, i, none⟩).isSome = true
 free : ∀ i, i < n → x.frozen? ⟨B, i, none⟩ = false
def cellV (w : World) (b i : Nat) : Value := (w.cell? ⟨b, i, none⟩).getD undef
theorem StoreOk.at' {B n : Nat} {wB : World} {i : Nat} (hi : i < n) : ∀ W, StoreOk B n wB W → W.cell? ⟨B, i, none⟩ = some (cellV W B i) := fun W h => by
 obtain ⟨u, hu⟩ := Option.isSome_iff_exists.1 (h.cells i hi)
 unfold cellV; rw [hu]; rfl
theorem StoreOk.fr {B n : Nat} {wB : World} {i : Nat} (hi : i < n) : ∀ W, StoreOk B n wB W → W.frozen? ⟨B, i, none⟩ = false := fun W h => h.free i hi
theorem StoreOk.rd {B n : Nat} {wB : World} {b o : Nat} {v : Value} (hb : b < B) (h : wB.cell? ⟨b, o, none⟩ = some v) : ∀ W, StoreOk B n wB W → W.cell? ⟨b, o, none⟩ = some v := fun W hW => (hW.below.cell (p := ⟨b, o, none⟩) hb).trans h
theorem StoreOk.drew {B n : Nat} {wB x : World} (h : StoreOk B n wB x) : StoreOk B n wB x.drew := ⟨h.below.drew, h.cells, h.free⟩
theorem StoreOk.call {B n : Nat} {wB x x' : World} (hb : Below x.heap.size x x') (h : StoreOk B n wB x) (hB : B ≤ wB.heap.size) : StoreOk B n wB x' :=
 ⟨h.below.trans (hb.mono (by have := h.below.size; omega)), fun i hi => by
  obtain ⟨u, hu⟩ := Option.isSome_iff_exists.1 (h.cells i hi)
  rw [qaa hb hu]; rfl, fun i hi => by
  obtain ⟨u, hu⟩ := Option.isSome_iff_exists.1 (h.cells i hi)
  exact qas hb hu (h.free i hi)⟩
theorem StoreOk.set {B n : Nat} {wB x : World} (h : StoreOk B n wB x) (i : Nat) (v : Value) : StoreOk B n wB (x.setCell ⟨B, i, none⟩ v) :=
 ⟨h.below.setCell (Nat.le_refl _) _, fun j hj => World.isSome_setCells B [v] i x _ (h.cells j hj), fun j hj => by rw [World.frozen?_setCell]; exact h.free j hj⟩

theorem isSome_back {w : World} {a p : Addr} {v : Value} (h : ((w.setCell a v).cell? p).isSome = true) : (w.cell? p).isSome = true := by
 unfold World.cell? World.setCell at h
 unfold World.cell?
 rw [Array.getElem?_modify] at h
 by_cases e : a.block = p.block
 ·rw [if_pos e] at h
  cases ho : w.heap[p.block]? with
  | none => rw [ho] at h; simp at h
  | some o =>
    rw [ho] at h
    cases o with
    | cells c t fr =>
      simp only [Option.map_some] at h
      show (if p.spot.isSome then none else c[p.off]?).isSome = true
      by_cases hs : p.spot.isSome = true
      ·rw [if_pos hs] at h; simp at h
      ·rw [if_neg hs] at h ⊢
       by_cases ha : a.spot.isSome = true
       ·rw [if_pos ha] at h; exact h
       ·rw [if_neg ha] at h
        simpa using h
    | _ => simp at h
 ·rw [if_neg e] at h; exact h
theorem stored4 {B : Nat} {wB w : World} {u0 u1 u2 u3 : Value} (h : StoreOk B 4 wB ((((w.setCell ⟨B, 0, none⟩ u0).setCell ⟨B, 1, none⟩ u1).setCell ⟨B, 2, none⟩ u2).setCell ⟨B, 3, none⟩ u3)) :
  ∃ c0 c1 c2 c3, w.cell? ⟨B, 0, none⟩ = some c0 ∧ w.cell? ⟨B, 1, none⟩ = some c1 ∧ w.cell? ⟨B, 2, none⟩ = some c2 ∧ w.cell? ⟨B, 3, none⟩ = some c3 ∧ B < w.heap.size := by
 have g : ∀ i, i < 4 → ∃ c, w.cell? ⟨B, i, none⟩ = some c := fun i hi => Option.isSome_iff_exists.1 (isSome_back (isSome_back (isSome_back (isSome_back (h.cells i hi)))))
 obtain ⟨c0, h0⟩ := g 0 (by omega)
 obtain ⟨c1, h1⟩ := g 1 (by omega)
 obtain ⟨c2, h2⟩ := g 2 (by omega)
 obtain ⟨c3, h3⟩ := g 3 (by omega)
 exact ⟨c0, c1, c2, c3, h0, h1, h2, h3, block_lt_of_cell h0⟩

theorem S_l3ClassO (p : DLodPlan) (v1 : Value) (r : DLodRef) (c : DClsClass) (w0 w : World) (hW : Below w0.heap.size w0 w) (s1 : Sl 2 rLodKeeper 0 w0 v1 p.fKeepers) (hc : clsAt p r = some c) (hrs : r.fName.size ≤ maxLen) :
  Calls Tryz.prog 87 #[.agg #[v1], .agg #[.int .i64 r.fKeeper, .string r.fName]] w fun e w' => (∃ v, e = .returned v ∧ ClsV w0 c v) ∧ Below w.heap.size w w' := by
 obtain ⟨a, len, cap, rfl, hl, h1, h2, h3⟩ := id s1
 have hW0 := hW
 have m1 : len ≤ 9223372036854775807 := by unfold maxLen at h2; omega
 unfold clsAt at hc
 by_cases h0 : ¬ 0 ≤ r.fKeeper
 ·rw [if_neg h0] at hc; cases hc
 replace h0 := Decidable.byContradiction h0
 rw [if_pos h0] at hc
 obtain ⟨rk, rn⟩ := r
 simp only at hc h0 hrs
 obtain ⟨i, rfl⟩ : ∃ i : Nat, rk = (i : Int) := ⟨rk.toNat, by omega⟩
 rw [Int.toNat_natCast] at hc
 cases hk : p.fKeepers[i]? with
 | none => rw [hk] at hc; cases hc
 | some k =>
   rw [hk] at hc
   simp only at hc
   by_cases ho : ¬ 0 ≤ ownAt k.fOwns rn
   ·rw [if_neg ho] at hc; cases hc
   replace ho := Decidable.byContradiction ho
   rw [if_pos ho] at hc
   obtain ⟨z, hz⟩ : ∃ z : Nat, ownAt k.fOwns rn = (z : Int) := ⟨(ownAt k.fOwns rn).toNat, by omega⟩
   rw [hz, Int.toNat_natCast] at hc
   have hi : i < len := by rw [← hl]; exact (List.getElem?_eq_some_iff.1 hk).1
   obtain ⟨b, off, rfl, hlo, hbl, hr⟩ := h3 (by omega)
   obtain ⟨k', cs, e0, e1, e2, e3⟩ := hr i hi
   obtain rfl : k = k' := Option.some.inj (hk.symm.trans e0)
   obtain ⟨x1, x2, rfl, t1, t2⟩ := e3
   obtain ⟨xa2, xl2, xc2, rfl⟩ := t2.form
   obtain ⟨ya, yl, yc, rfl, yh, yc1, yc2, y3⟩ := id t1
   have hzl : z < yl := by rw [← yh]; exact (List.getElem?_eq_some_iff.1 hc).1
   have my : yl ≤ 9223372036854775807 := by unfold maxLen at yc2; omega
   obtain ⟨b', off', rfl, _, hbl', hr'⟩ := y3 (by omega)
   obtain ⟨c', cs', g0, g1, g2, g3⟩ := hr' z hzl
   obtain rfl : c = c' := Option.some.inj (hc.symm.trans g0)
   obtain ⟨u1, u2, rfl, d1, d2, bx1, bx2⟩ := g3
   obtain ⟨za1, zl1, zc1, rfl⟩ := d1.form
   obtain ⟨za2, zl2, zc2, rfl⟩ := d2.form
   have q1 : w.cell? ⟨b, off + i * 2, none⟩ = some (.slice (some ⟨b', off', none⟩) yl yc) := qaa hW (e2 0 _ rfl)
   have q2 : w.cell? ⟨b, off + i * 2 + 1, none⟩ = some (.slice xa2 xl2 xc2) := qaa hW (e2 1 _ rfl)
   have p1 : w.cell? ⟨b', off' + z * 4, none⟩ = some (.string c.fName) := qaa hW (g2 0 _ rfl)
   have p2 : w.cell? ⟨b', off' + z * 4 + 1, none⟩ = some (.string c.fSuper) := qaa hW (g2 1 _ rfl)
   have p3 : w.cell? ⟨b', off' + z * 4 + 2, none⟩ = some (.slice za1 zl1 zc1) := qaa hW (g2 2 _ rfl)
   have p4 : w.cell? ⟨b', off' + z * 4 + 3, none⟩ = some (.slice za2 zl2 zc2) := qaa hW (g2 3 _ rfl)
   replace hbl := Nat.lt_of_lt_of_le hbl hW.size
   replace hbl' := Nat.lt_of_lt_of_le hbl' hW.size
   have HZ := qhd hz
   clear e0 e1 e2 hr g0 g1 g2 hr' hc hk hz hl yh ho h0 h1 h2 yc1 yc2 h3 y3
   refine qab fun R HR => ?_
   go_enter Tryz.func87, Tryz.ntmps87
   go_wp2_with fail
   obtain ⟨wB, hwB⟩ : ∃ wB, wB = ((w.alloc (.cells #[.slice (some ⟨b, off, none⟩) len cap] 25)).alloc (.cells #[.int .i64 (i : Int), .string rn] 42)).alloc (.cells #[.string ⟨#[]⟩, .string ⟨#[]⟩, .slice none 0 0, .slice none 0 0] 29) := ⟨_, rfl⟩
   rw [← hwB]
   have hBB : Below w.heap.size w wB := by rw [hwB]; exact bbel
   obtain ⟨B, hBd⟩ : ∃ B, B = w.heap.size + 1 + 1 := ⟨_, rfl⟩
   have hS : StoreOk B 4 wB wB := ⟨Below.refl _ _, fun j hj => by
    rw [hBd, hwB]
    match j, hj with
    | 0, _ => go_simp
    | 1, _ => go_simp
    | 2, _ => go_simp
    | 3, _ => go_simp, fun j hj => by rw [hBd, hwB]; go_simp⟩
   have hzB : B < wB.heap.size := by rw [hBd, hwB]; simp
   have k0 := StoreOk.rd (B := B) (n := 4) (show w.heap.size < B by omega) (show wB.cell? ⟨w.heap.size, 0, none⟩ = some (.slice (some ⟨b, off, none⟩) len cap) by rw [hwB]; go_simp)
   have k1 := StoreOk.rd (B := B) (n := 4) (show w.heap.size + 1 < B by omega) (show wB.cell? ⟨w.heap.size + 1, 0, none⟩ = some (.int .i64 (i : Int)) by rw [hwB]; go_simp)
   have k2 := StoreOk.rd (B := B) (n := 4) (show w.heap.size + 1 < B by omega) (show wB.cell? ⟨w.heap.size + 1, 1, none⟩ = some (.string rn) by rw [hwB]; go_simp)
   have Q1 := StoreOk.rd (B := B) (n := 4) (show b < B by omega) (qaa hBB q1)
   have Q2 := StoreOk.rd (B := B) (n := 4) (show b < B by omega) (qaa hBB q2)
   have P1 := StoreOk.rd (B := B) (n := 4) (show b' < B by omega) (qaa hBB p1)
   have P2 := StoreOk.rd (B := B) (n := 4) (show b' < B by omega) (qaa hBB p2)
   have P3 := StoreOk.rd (B := B) (n := 4) (show b' < B by omega) (qaa hBB p3)
   have P4 := StoreOk.rd (B := B) (n := 4) (show b' < B by omega) (qaa hBB p4)
   have V0 := StoreOk.at' (B := B) (n := 4) (wB := wB) (i := 0) (by omega)
   have V1 := StoreOk.at' (B := B) (n := 4) (wB := wB) (i := 1) (by omega)
   have V2 := StoreOk.at' (B := B) (n := 4) (wB := wB) (i := 2) (by omega)
   have V3 := StoreOk.at' (B := B) (n := 4) (wB := wB) (i := 3) (by omega)
   have F0 := StoreOk.fr (B := B) (n := 4) (wB := wB) (i := 0) (by omega)
   have F1 := StoreOk.fr (B := B) (n := 4) (wB := wB) (i := 1) (by omega)
   have F2 := StoreOk.fr (B := B) (n := 4) (wB := wB) (i := 2) (by omega)
   have F3 := StoreOk.fr (B := B) (n := 4) (wB := wB) (i := 3) (by omega)
   have hBw : B ≤ wB.heap.size := by omega
   have CO : ∀ W, StoreOk B 4 wB W → Calls Tryz.prog 107 #[.agg #[.slice (some ⟨b', off', none⟩) yl yc, .slice xa2 xl2 xc2], .string rn] W fun e w' => e = .returned (.int .i64 (z : Int)) ∧ Below W.heap.size W w' := fun W hW => by
    rw [← HZ.out]
    have hk := (Keeps.of_below (lo := 0) hW0).trans (Keeps.of_below (lo := 0) (hBB.trans (hW.below.mono (show w.heap.size ≤ B by omega))))
    exact S_l3Own k _ _ rn W (t1.stays rClsClass_good hk) (t2.stays rLodAsk_good hk)
   have g1 : (i : Int) < (len : Int) := by omega
   have g2 : (z : Int) < (yl : Int) := by omega
   have HBD := qhd hBd
   rw [← hBd]
   clear hwB q1 q2 p1 p2 p3 p4 hBd
   go_region_held3 (fun x => StoreOk B 4 wB x) (first | with_reducible assumption | (with_reducible refine StoreOk.drew ?_; assumption) | exact StoreOk.call (by assumption) (by assumption) hBw | (repeat (with_reducible refine StoreOk.set ?_ _ _)); assumption) (first | (go_at_call 107; refine (CO _ (by assumption)).mono ?_; rintro _ _ ⟨rfl, _⟩))
   rename_i hE
   obtain ⟨e0, e1, e2, e3, y0, y1, y2, y3, hBl⟩ := stored4 hE
   have hEE : Below w.heap.size w _ := hBB.trans (hE.below.mono (show w.heap.size ≤ B by have := HBD.out; omega))
   clear k0 k1 k2 Q1 Q2 P1 P2 P3 P4 V0 V1 V2 V3 F0 F1 F2 F3 CO
   go_wp2
   refine bodyPost_ret (v := ?_) ?hrun rfl ?_
   case hrun => (simp only [results, Tryz.results87]; go_simp; first | done | exact rfl)
   exact HR.out _ _ ⟨⟨_, rfl, za1, zl1, zc1, za2, zl2, zc2, rfl, d1, d2, bx1, bx2⟩, hEE⟩

theorem S_l3Class (p : DLodPlan) (v1 : Value) (r : DLodRef) (c : DClsClass) (w : World) (s1 : Sl 2 rLodKeeper 0 w v1 p.fKeepers) (hc : clsAt p r = some c) (hrs : r.fName.size ≤ maxLen) :
  Calls Tryz.prog 87 #[.agg #[v1], .agg #[.int .i64 r.fKeeper, .string r.fName]] w fun e w' => (∃ v, e = .returned v ∧ ClsV w c v) ∧ Below w.heap.size w w' :=
 S_l3ClassO p v1 r c w w (Below.refl _ _) s1 hc hrs

def Ints (w : World) (base : Nat) (v : Value) (ns : List Nat) : Prop := w.ownsRow base 3 1 v ns.length (ns.map fun n : Nat => Value.int .i64 (n : Int))
theorem Ints.form {w : World} {base : Nat} {v : Value} {ns : List Nat} (h : Ints w base v ns) (hn : 0 < ns.length) : ∃ g cap, v = .slice (some ⟨g, 0, none⟩) ns.length cap ∧ base ≤ g ∧ ns.length ≤ cap ∧ cap ≤ maxLen ∧ g < w.heap.size := by
 obtain ⟨_, h⟩ := h
 rcases h with ⟨_, h0⟩ | ⟨g, cap, cur, h1, h2, h3, h4, h5, _⟩
 ·omega
 ·exact ⟨g, cap, h1, h2, h4, h5, (Array.getElem?_eq_some_iff.1 h3).1⟩
theorem Ints.below {w w' : World} {base : Nat} {v : Value} {ns : List Nat} (h : Ints w base v ns) (hb : Below w.heap.size w w') : Ints w' base v ns := by
 obtain ⟨h0, h⟩ := h
 rcases h with h | ⟨g, cap, cur, h1, h2, h3, h4⟩
 ·exact ⟨h0, Or.inl h⟩
 ·exact ⟨h0, Or.inr ⟨g, cap, cur, h1, h2, (hb.block g (Array.getElem?_eq_some_iff.1 h3).1).trans h3, h4⟩⟩
theorem Ints.cell {w : World} {base g len cap : Nat} {ns : List Nat} (h : Ints w base (.slice (some ⟨g, 0, none⟩) len cap) ns) {q n : Nat} (hq : ns[q]? = some n) : w.cell? ⟨g, q, none⟩ = some (.int .i64 (n : Int)) := by
 have := World.ownsRow.cells h (g := g) rfl q (.int .i64 (n : Int)) (by simp [hq])
 rw [Addr.add_mid, Nat.zero_add] at this
 exact this
theorem ints_one (w : World) (base i : Nat) (hb : base ≤ w.heap.size) : Ints (w.alloc (.cells #[.int .i64 (i : Int)] 3)) base (.slice (some ⟨w.heap.size, 0, none⟩) 1 1) [i] := by
 refine ⟨rfl, Or.inr ⟨w.heap.size, 1, #[.int .i64 (i : Int)], rfl, hb, ?_, Nat.le_refl _, by decide, rfl, rfl⟩⟩
 exact (MapKept.heap_alloc w _).1

theorem ask_nxt (p : DLodPlan) (nm : ByteArray) (i : Nat) : planF p askK (i : Int) nm = optI (nxt p nm i) := by
 unfold planF nxt
 rw [if_pos (by omega), Int.toNat_natCast]
 cases p.fKeepers[i]? with
 | none => simp [optI]
 | some k => rfl
theorem own_own (p : DLodPlan) (nm : ByteArray) (i : Nat) : planF p ownK (i : Int) nm = optI (ownN p nm i) := by
 unfold planF ownN
 rw [if_pos (by omega), Int.toNat_natCast]
 cases p.fKeepers[i]? with
 | none => simp [optI]
 | some k => rfl

def PathPost (w : World) (wh : Int × Nat) (e : Ending) (w' : World) : Prop := Below w.heap.size w w' ∧ ((wh.1 = 1 ∧ ∃ v seen, e = .returned (.tuple #[v, .int .i64 1]) ∧ Ints w' w.heap.size v seen ∧ ∃ pre, seen = pre ++ [wh.2]) ∨ (wh.1 ≠ 1 ∧ e = .returned (.tuple #[.slice none 0 0, .int .i64 wh.1])))

theorem I_path (p : DLodPlan) (L i : Nat) (nm : ByteArray) (w : World) (hl : Lodge w L p) (hp : lodOk p = true) (hi : i < p.fKeepers.length) (hnm : nm.size ≤ maxLen) :
  Calls Tryz.prog 146 #[.pointer (some ⟨L, 0, none⟩), .int .i64 (i : Int), .string nm] w (PathPost w (whose p i nm)) := by
 obtain ⟨a, len, cap, bo, ba, bl, n, c0, c1, c2, c3, s1, mo, ma, ml, hn⟩ := id hl
 obtain ⟨hln, hcap, hm⟩ := s1.len
 have hlen := lodOk_len hp
 rw [hln] at hlen hi
 have HLN := qhd hln
 have HP := qhd hp
 have MO := qhd mo
 have MA := qhd ma
 have HLD := qhd hl
 obtain ⟨i0, hi0, hz0, hz1, hz2⟩ := info_parts (show (Tryz.prog.info? 3).map (fun i => (i.zero, i.size, i.bytes)) = some (some (.int .i64 0), 1, 8) by kernel_rfl)
 have I0 := qhd hi0
 have Z0 := qhd hz0
 have Z1 := qhd hz1
 have Z2 := qhd hz2
 have C1 := qhd c1
 have C2 := qhd c2
 clear hi0 hz0 hz1 hz2 hln hp mo ma ml c1 c2 c3 hl
 have hq : (decide ((0 : Int) ≤ (i : Int)) && decide ((i : Int) < (len : Int))) = true := by simp; omega
 refine qab fun R HR => ?_
 go_enter Tryz.func146, Tryz.ntmps146
 go_wp2_with fail
 refine (I_has L (i : Int) _ len cap _ c0 (by omega)).mono ?_
 rintro _ _ ⟨rfl, rfl⟩
 rw [hq]
 clear hq
 go_wp2_with fail
 go_loopw [1, 8] (fun zk vo wr => ∃ (seen : List Nat) (at' : Nat), Asked p nm i seen at' ∧ zk = .int .i64 (at' : Int) ∧ Ints wr w.heap.size vo seen ∧ Below w.heap.size w wr) (fun _ vo _ => 4 - (match vo with | .slice _ n _ => n | _ => 0))
 case atStart => exact ⟨[i], i, Asked.start (by rw [HLN.out]; exact hi), rfl, ints_one w w.heap.size i (Nat.le_refl _), bbel⟩
 case round =>
  obtain ⟨seen, at', has, rfl, hR, hb⟩ := hrel
  have AS := qhd has
  have hsl := has.len HP.out
  have hbx := hb.size
  have hat : at' < len := by rw [← HLN.out]; exact has.inn _ has.mem
  obtain ⟨g, rc, rfl, hgb, hgn, hgm, hgl⟩ := hR.form (by omega)
  have RR := qhd hR
  obtain ⟨sn, hsn⟩ : ∃ sn, sn = seen.length := ⟨_, rfl⟩
  rw [← hsn] at hgn hsl ⊢
  have HSN := qhd hsn
  have k0 := qaa hb c0
  have k1 := qaa hb C1.out
  have k2 := qaa hb C2.out
  have KF : Hid (KeyFit (at' : Int) nm) := qhd ⟨WalkArith.wf_i64 (by omega), hnm⟩
  have LA : (Instr.lookup 132 (.map (some ba)) (.agg #[.int .i64 (at' : Int), .string nm]) true).run Tryz.prog wr = .ok (.tuple #[.int .i64 ((optI (nxt p nm at')).getD 0), .bool (optI (nxt p nm at')).isSome]) wr := by
   have := (MA.out.below hb).look_ok KF.out
   rw [ask_nxt] at this
   exact this
  have LO : (Instr.lookup 132 (.map (some bo)) (.agg #[.int .i64 (at' : Int), .string nm]) true).run Tryz.prog wr = .ok (.tuple #[.int .i64 ((optI (ownN p nm at')).getD 0), .bool (optI (ownN p nm at')).isSome]) wr := by
   have := (MO.out.below hb).look_ok KF.out
   rw [own_own] at this
   exact this
  clear has hR hsn
  by_cases hz : nxt p nm at' < 0
  ·have hq : (optI (nxt p nm at')).isSome = false := by unfold optI; rw [if_pos hz]; rfl
   have hq2 : (optI (nxt p nm at')).getD 0 = 0 := by unfold optI; rw [if_pos hz]; rfl
   rw [hq, hq2] at LA
   have ST : Hid (whose p i nm = if ownN p nm at' < 0 then (2, 0) else (1, at')) := qhd (AS.out.stop HP.out hz)
   clear hq hq2 hz
   by_cases ho : ownN p nm at' < 0
   ·have hq : (optI (ownN p nm at')).isSome = false := by unfold optI; rw [if_pos ho]; rfl
    have hq2 : (optI (ownN p nm at')).getD 0 = 0 := by unfold optI; rw [if_pos ho]; rfl
    rw [hq, hq2] at LO
    have RV : Hid (whose p i nm = (2, 0)) := qhd (by have := ST.out; rw [if_pos ho] at this; exact this)
    clear hq hq2 ho ST
    go_wp2
    all_goals (try go_returns)
    all_goals exact HR.out _ _ ⟨hb, Or.inr (by rw [RV.out]; exact ⟨by decide, rfl⟩)⟩
   ·have hq : (optI (ownN p nm at')).isSome = true := by unfold optI; rw [if_neg ho]; rfl
    have hq2 : (optI (ownN p nm at')).getD 0 = ownN p nm at' := by unfold optI; rw [if_neg ho]; rfl
    rw [hq, hq2] at LO
    have RV : Hid (whose p i nm = (1, at')) := qhd (by have := ST.out; rw [if_neg ho] at this; exact this)
    clear hq hq2 ho ST
    go_wp2
    all_goals (try go_returns)
    all_goals exact HR.out _ _ ⟨hb, Or.inl (by rw [RV.out]; exact ⟨rfl, _, seen, rfl, by rw [HSN.out]; exact RR.out, AS.out.ends⟩)⟩
  ·have hq : (optI (nxt p nm at')).isSome = true := by unfold optI; rw [if_neg hz]; rfl
   have hq2 : (optI (nxt p nm at')).getD 0 = nxt p nm at' := by unfold optI; rw [if_neg hz]; rfl
   rw [hq, hq2] at LA
   clear hq hq2
   obtain ⟨nx, hnx⟩ : ∃ nx : Nat, nxt p nm at' = (nx : Int) := ⟨(nxt p nm at').toNat, by omega⟩
   rw [hnx] at LA
   have NX := qhd hnx
   clear hz hnx LO
   go_wp2_with fail
   go_loop [36] (fun z => ∃ q : Nat, q ≤ sn ∧ z = .int .i64 q ∧ EachTo (nots fun s => s == nx) seen q = true) (fun z => sn - (intOf z).toNat)
   case atStart => exact ⟨0, Nat.zero_le _, rfl, rfl⟩
   case round =>
    obtain ⟨q, hq, rfl, hqa⟩ := hrel
    have HQ := qhd hqa
    clear hqa
    by_cases hlq : q < sn
    ·obtain ⟨s, hs⟩ : ∃ s, seen[q]? = some s := ⟨_, List.getElem?_eq_getElem (by rw [← HSN.out]; exact hlq)⟩
     have E1 := qhd hs
     have qc : wr.cell? ⟨g, q, none⟩ = some (.int .i64 (s : Int)) := (show Ints wr w.heap.size (.slice (some ⟨g, 0, none⟩) sn rc) seen by rw [HSN.out]; exact RR.out).cell hs
     clear hs
     by_cases hsn2 : s = nx
     ·subst hsn2
      have RV : Hid (whose p i nm = (3, 0)) := qhd (AS.out.ring (by rw [NX.out]; omega) (by rw [NX.out, Int.toNat_natCast]; exact List.mem_of_getElem? E1.out))
      have i1 : ((s : Int) == (s : Int)) = true := by simp
      go_wp2
      all_goals (try go_returns)
      all_goals exact HR.out _ _ ⟨hb, Or.inr (by rw [RV.out]; exact ⟨by decide, rfl⟩)⟩
     ·have i1 : ((s : Int) == (nx : Int)) = false := by simp; omega
      have i2 : (s == nx) = false := by simpa using hsn2
      have I2 := qhd i2
      have hsn3 : ¬ (s : Int) = (nx : Int) := by omega
      clear hsn2
      go_wp2
      go_round
      case rel => exact ⟨q + 1, by omega, by go_num, EachTo.step HQ.out E1.out (by simp [nots, I2.out])⟩
      case measure => simp [intOf]; omega
    ·obtain rfl : q = sn := by omega
     have NI : Hid (nx ∉ seen) := qhd (fun hm => by
      obtain ⟨y, hy⟩ := List.mem_iff_getElem?.1 hm
      have := EachTo.mem HQ.out y nx (by rw [HSN.out]; exact (List.getElem?_eq_some_iff.1 hy).1) hy
      simp [nots] at this)
     have NA : Hid (Asked p nm i (seen ++ [nx]) nx) := qhd (by
      have h := AS.out.step HP.out (by rw [NX.out]; omega) (by rw [NX.out, Int.toNat_natCast]; exact NI.out)
      rw [NX.out, Int.toNat_natCast] at h
      exact h)
     go_wp2_with (at_builtin; refine wpList_append_own _ rfl (.tmp 44) (.tmp 46) 110 rfl w.heap.size 3 i0 (.int .i64 0) 1 8 Tryz.underlying110 I0.out Z0.out Z1.out Z2.out rfl (by decide) _ q (seen.map fun n : Nat => Value.int .i64 (n : Int)) rfl ?c0 ⟨wr.heap.size, 0, none⟩ 1 1 [.int .i64 (nx : Int)] rfl rfl ?c1 ?c2 ?c3 ?c4 ?c5 ?_)
     case c0 => have h := RR.out.below (w' := wr.alloc (.cells #[.int .i64 (nx : Int)] 3)) (bbel); unfold Ints at h; rw [← HSN.out] at h; exact h
     case c2 => rfl
     case c3 => unfold maxLen; omega
     case c4 => omega
     case c5 => omega
     intro v' w1 hown' hg _
     have R1 : Hid (Ints w1 w.heap.size v' (seen ++ [nx])) := qhd (by
      unfold Ints
      rw [List.length_append, ← HSN.out, List.map_append]
      exact hown')
     have hE1 : Below w.heap.size w w1 := (show Below w.heap.size w (wr.alloc (.cells #[.int .i64 (nx : Int)] 3)) from bbel).grown hg (by simp; omega) (fun k h => by cases h; exact hgb)
     have HE1 := qhd hE1
     clear hown' hg k0 k1 k2 LA hE1
     go_wp2
     go_roundw
     case measure =>
      obtain ⟨g', rc', e', _⟩ := R1.out.form (by simp)
      rw [e']
      have := HSN.out
      simp
      omega
     case rel => exact ⟨seen ++ [nx], nx, NA.out, rfl, R1.out, HE1.out⟩

theorem I_resolve (p : DLodPlan) (L i : Nat) (nm : ByteArray) (w : World) (hl : Lodge w L p) (hp : lodOk p = true) (hi : i < p.fKeepers.length) (hnm : nm.size ≤ maxLen) :
  Calls Tryz.prog 118 #[.pointer (some ⟨L, 0, none⟩), .int .i64 (i : Int), .string nm] w fun e w' => e = .returned (refT (whoseR p i nm)) ∧ Below w.heap.size w w' := by
 have HLD := qhd hl
 have HP := qhd hp
 clear hl hp
 obtain ⟨⟨cd, at'⟩, hwh⟩ : ∃ wh, wh = whose p i nm := ⟨_, rfl⟩
 have RV : Hid (whoseR p i nm = if cd = 1 then (⟨(at' : Int), nm⟩, 1) else (noRef, cd)) := qhd (whoseR_of hwh.symm)
 have IP : ∀ W, Below w.heap.size w W → Calls Tryz.prog 146 #[.pointer (some ⟨L, 0, none⟩), .int .i64 (i : Int), .string nm] W (PathPost W (cd, at')) := fun W hW => by
  rw [hwh]; exact I_path p L i nm W (HLD.out.below hW) HP.out hi hnm
 clear hwh
 refine qab fun R HR => ?_
 go_enter Tryz.func118, Tryz.ntmps118
 go_wp2_with fail
 refine (IP _ (bbel)).mono ?_
 rintro e wA ⟨hA, hq⟩
 have hEA : Below w.heap.size w wA := bbel
 have hAs := (hA).size; (try simp only [qsz] at hAs)
 obtain ⟨hAad, hAao, hAag, hAap, hAax, hAay⟩ := bf1 (n := w.heap.size) hA
 rcases hq with ⟨rfl, v, seen, rfl, hI, pre, rfl⟩ | ⟨hcd, rfl⟩
 ·obtain ⟨g, rc, rfl, hgb, hgn, hgm, hgl⟩ := hI.form (by simp)
  have qc : wA.cell? ⟨g, pre.length, none⟩ = some (.int .i64 (at' : Int)) := hI.cell (by simp)
  obtain ⟨n, hn⟩ : ∃ n, n = pre.length := ⟨_, rfl⟩
  have hlen : (pre ++ [at']).length = n + 1 := by rw [hn]; simp
  rw [hlen] at hgn ⊢
  rw [← hn] at qc
  clear hn hlen hI
  have hm63 : n + 1 ≤ 9223372036854775807 := by unfold maxLen at hgm; omega
  go_wp2
  all_goals
   refine bodyPost_ret (v := ?_) ?hrun rfl ?_
   case hrun => (simp only [results, Tryz.results118]; go_simp; first | done | exact rfl)
   exact HR.out _ _ ⟨by rw [RV.out]; rfl, bbel⟩
 ·have hcd' : ¬ cd = 1 := hcd
  have i1 : (cd != 1) = true := by simpa using hcd'
  have i2 : (cd == 1) = false := by simpa using hcd'
  have RV2 : Hid (whoseR p i nm = (noRef, cd)) := qhd (by rw [RV.out, if_neg hcd'])
  clear hcd hcd' RV
  go_wp2
  all_goals
   refine bodyPost_ret (v := ?_) ?hrun rfl ?_
   case hrun => (simp only [results, Tryz.results118]; go_simp; first | done | exact rfl)
   exact HR.out _ _ ⟨by rw [RV2.out]; rfl, bbel⟩

theorem I_classV (p : DLodPlan) (L : Nat) (r : DLodRef) (c : DClsClass) (w0 : World) (hl : Lodge w0 L p) (hc : clsAt p r = some c) (hrs : r.fName.size ≤ maxLen) (hp : lodOk p = true) :
  ∃ v, ClsV w0 c v ∧ ∀ w, Below w0.heap.size w0 w → Calls Tryz.prog 84 #[.pointer (some ⟨L, 0, none⟩), .agg #[.int .i64 r.fKeeper, .string r.fName]] w fun e w' => e = .returned v ∧ Below w.heap.size w w' := by
 obtain ⟨a, len, cap, bo, ba, bl, n, c0, k1, c2, c3, s1, mo, ma, ml, hn⟩ := id hl
 obtain ⟨a'', len'', cap'', e'', hln, h1, h2, h3⟩ := id s1
 cases e''
 have hlen := lodOk_len hp
 have m1 : len ≤ 9223372036854775807 := by unfold maxLen at h2; omega
 unfold clsAt at hc
 by_cases h0 : ¬ 0 ≤ r.fKeeper
 ·rw [if_neg h0] at hc; cases hc
 replace h0 := Decidable.byContradiction h0
 rw [if_pos h0] at hc
 obtain ⟨rk, rn⟩ := r
 simp only at hc h0 hrs
 obtain ⟨i, rfl⟩ : ∃ i : Nat, rk = (i : Int) := ⟨rk.toNat, by omega⟩
 rw [Int.toNat_natCast] at hc
 cases hk : p.fKeepers[i]? with
 | none => rw [hk] at hc; cases hc
 | some k =>
   rw [hk] at hc
   simp only at hc
   by_cases ho : ¬ 0 ≤ ownAt k.fOwns rn
   ·rw [if_neg ho] at hc; cases hc
   replace ho := Decidable.byContradiction ho
   rw [if_pos ho] at hc
   obtain ⟨z, hz⟩ : ∃ z : Nat, ownAt k.fOwns rn = (z : Int) := ⟨(ownAt k.fOwns rn).toNat, by omega⟩
   rw [hz, Int.toNat_natCast] at hc
   have hi : i < len := by rw [← hln]; exact (List.getElem?_eq_some_iff.1 hk).1
   obtain ⟨b, off, rfl, hlo, hbl, hr⟩ := h3 (by omega)
   obtain ⟨k', cs, e0, e1, e2, e3⟩ := hr i hi
   obtain rfl : k = k' := Option.some.inj (hk.symm.trans e0)
   obtain ⟨x1, x2, rfl, t1, t2⟩ := e3
   obtain ⟨xa2, xl2, xc2, rfl⟩ := t2.form
   obtain ⟨ya, yl, yc, rfl, yh, yc1, yc2, y3⟩ := id t1
   have hzl : z < yl := by rw [← yh]; exact (List.getElem?_eq_some_iff.1 hc).1
   have my : yl ≤ 9223372036854775807 := by unfold maxLen at yc2; omega
   obtain ⟨b', off', rfl, _, hbl', hr'⟩ := y3 (by omega)
   obtain ⟨c', cs', g0, g1, g2, g3⟩ := hr' z hzl
   obtain rfl : c = c' := Option.some.inj (hc.symm.trans g0)
   obtain ⟨u1, u2, rfl, d1, d2, bx1, bx2⟩ := g3
   obtain ⟨za1, zl1, zc1, rfl⟩ := d1.form
   obtain ⟨za2, zl2, zc2, rfl⟩ := d2.form
   refine ⟨_, ⟨za1, zl1, zc1, za2, zl2, zc2, rfl, d1, d2, bx1, bx2⟩, fun w hW => ?_⟩
   have q1 : w.cell? ⟨b, off + i * 2, none⟩ = some (.slice (some ⟨b', off', none⟩) yl yc) := qaa hW (e2 0 _ rfl)
   have p1 : w.cell? ⟨b', off' + z * 4, none⟩ = some (.string c.fName) := qaa hW (g2 0 _ rfl)
   have p2 : w.cell? ⟨b', off' + z * 4 + 1, none⟩ = some (.string c.fSuper) := qaa hW (g2 1 _ rfl)
   have p3 : w.cell? ⟨b', off' + z * 4 + 2, none⟩ = some (.slice za1 zl1 zc1) := qaa hW (g2 2 _ rfl)
   have p4 : w.cell? ⟨b', off' + z * 4 + 3, none⟩ = some (.slice za2 zl2 zc2) := qaa hW (g2 3 _ rfl)
   replace hbl := Nat.lt_of_lt_of_le hbl hW.size
   replace hbl' := Nat.lt_of_lt_of_le hbl' hW.size
   have KF : Hid (KeyFit (i : Int) rn) := qhd ⟨WalkArith.wf_i64 (by omega), hrs⟩
   have HF : Hid (planF p ownK (i : Int) rn = some (z : Int)) := qhd (by
    unfold planF
    rw [if_pos (by omega), Int.toNat_natCast, hk]
    show optI (ownAt k.fOwns rn) = _
    rw [hz]; unfold optI; rw [if_neg (by omega)])
   have g1' : (i : Int) < (len : Int) := by omega
   have g2' : (z : Int) < (yl : Int) := by omega
   replace c0 := qaa hW c0
   replace k1 := qaa hW k1
   replace mo := mo.below hW
   have MO := qhd mo
   have hLl := block_lt_of_cell c0
   clear e0 e1 e2 hr g0 g1 g2 hr' hc hk hz hln yh ho h0 h1 h2 yc1 yc2 h3 y3 hl mo ma ml c2 c3
   refine qab fun R HR => ?_
   go_enter Tryz.func84, Tryz.ntmps84
   go_wp2_with fail
   obtain ⟨wB, hwB⟩ : ∃ wB, wB = (w.alloc (.cells #[.int .i64 (i : Int), .string rn] 42)).alloc (.cells #[.string ⟨#[]⟩, .string ⟨#[]⟩, .slice none 0 0, .slice none 0 0] 29) := ⟨_, rfl⟩
   rw [← hwB]
   have hBB : Below w.heap.size w wB := by rw [hwB]; exact bbel
   have LO : (Instr.lookup 132 (.map (some bo)) (.agg #[.int .i64 (i : Int), .string rn]) false).run Tryz.prog wB.drew = .ok (.int .i64 (z : Int)) wB.drew := by
    have := ((MO.out.below hBB).kept (w' := wB.drew) rfl).look KF.out
    rw [HF.out] at this
    exact this
   have K0 : wB.cell? ⟨L, 0, none⟩ = some (.slice (some ⟨b, off, none⟩) len cap) := qaa hBB c0
   have K1 : wB.cell? ⟨L, 1, none⟩ = some (.map (some bo)) := qaa hBB k1
   have Q1 := qaa hBB q1
   have P1 := qaa hBB p1
   have P2 := qaa hBB p2
   have P3 := qaa hBB p3
   have P4 := qaa hBB p4
   have r0 : wB.cell? ⟨w.heap.size, 0, none⟩ = some (.int .i64 (i : Int)) := by rw [hwB]; go_simp
   have r1 : wB.cell? ⟨w.heap.size, 1, none⟩ = some (.string rn) := by rw [hwB]; go_simp
   have o0 : wB.cell? ⟨w.heap.size + 1, 0, none⟩ = some (.string ⟨#[]⟩) := by rw [hwB]; go_simp
   have o1 : wB.cell? ⟨w.heap.size + 1, 1, none⟩ = some (.string ⟨#[]⟩) := by rw [hwB]; go_simp
   have o2 : wB.cell? ⟨w.heap.size + 1, 2, none⟩ = some (.slice none 0 0) := by rw [hwB]; go_simp
   have o3 : wB.cell? ⟨w.heap.size + 1, 3, none⟩ = some (.slice none 0 0) := by rw [hwB]; go_simp
   have f0 : wB.frozen? ⟨w.heap.size + 1, 0, none⟩ = false := by rw [hwB]; go_simp
   have f1 : wB.frozen? ⟨w.heap.size + 1, 1, none⟩ = false := by rw [hwB]; go_simp
   have f2 : wB.frozen? ⟨w.heap.size + 1, 2, none⟩ = false := by rw [hwB]; go_simp
   have f3 : wB.frozen? ⟨w.heap.size + 1, 3, none⟩ = false := by rw [hwB]; go_simp
   have hzB : w.heap.size + 1 < wB.heap.size := by rw [hwB]; simp
   clear hwB c0 k1 q1 p1 p2 p3 p4
   go_still_tail 17, (by kernel_rfl)
   go_wp2
   all_goals
    refine bodyPost_ret (v := ?_) ?hrun rfl ?_
    case hrun => (simp only [results, Tryz.results84]; go_simp; first | done | exact rfl)
    exact HR.out _ _ ⟨rfl, bbel⟩

theorem I_classO (p : DLodPlan) (L : Nat) (r : DLodRef) (c : DClsClass) (w0 w : World) (hW : Below w0.heap.size w0 w) (hl : Lodge w0 L p) (hc : clsAt p r = some c) (hrs : r.fName.size ≤ maxLen) (hp : lodOk p = true) :
  Calls Tryz.prog 84 #[.pointer (some ⟨L, 0, none⟩), .agg #[.int .i64 r.fKeeper, .string r.fName]] w fun e w' => (∃ v, e = .returned v ∧ ClsV w0 c v) ∧ Below w.heap.size w w' := by
 obtain ⟨v, hv, h⟩ := I_classV p L r c w0 hl hc hrs hp
 exact (h w hW).mono fun e w' ⟨he, hb⟩ => ⟨⟨v, he, hv⟩, hb⟩

theorem I_class (p : DLodPlan) (L : Nat) (r : DLodRef) (c : DClsClass) (w : World) (hl : Lodge w L p) (hc : clsAt p r = some c) (hrs : r.fName.size ≤ maxLen) (hp : lodOk p = true) :
  Calls Tryz.prog 84 #[.pointer (some ⟨L, 0, none⟩), .agg #[.int .i64 r.fKeeper, .string r.fName]] w fun e w' => (∃ v, e = .returned v ∧ ClsV w c v) ∧ Below w.heap.size w w' :=
 I_classO p L r c w w (Below.refl _ _) hl hc hrs hp

def flatR (rs : List DLodRef) : List Value := rs.flatMap fun r => [.int .i64 r.fKeeper, .string r.fName]
theorem flatR_snoc (rs : List DLodRef) (r : DLodRef) : flatR (rs ++ [r]) = flatR rs ++ [.int .i64 r.fKeeper, .string r.fName] := by simp [flatR]
def Refs (w : World) (base : Nat) (v : Value) (rs : List DLodRef) : Prop := w.ownsRow base 42 2 v rs.length (flatR rs)
theorem Refs.form {w : World} {base : Nat} {v : Value} {rs : List DLodRef} (h : Refs w base v rs) (hn : 0 < rs.length) : ∃ g cap, v = .slice (some ⟨g, 0, none⟩) rs.length cap ∧ base ≤ g ∧ rs.length ≤ cap ∧ cap ≤ maxLen ∧ g < w.heap.size := by
 obtain ⟨_, h⟩ := h
 rcases h with ⟨_, h0⟩ | ⟨g, cap, cur, h1, h2, h3, h4, h5, _⟩
 ·omega
 ·exact ⟨g, cap, h1, h2, h4, h5, (Array.getElem?_eq_some_iff.1 h3).1⟩
theorem Refs.low {w : World} {base base' : Nat} {v : Value} {rs : List DLodRef} (h : Refs w base v rs) (hb : base' ≤ base) : Refs w base' v rs := by
 obtain ⟨h0, h⟩ := h
 rcases h with h | ⟨g, cap, cur, h1, h2, h3⟩
 ·exact ⟨h0, Or.inl h⟩
 ·exact ⟨h0, Or.inr ⟨g, cap, cur, h1, Nat.le_trans hb h2, h3⟩⟩
theorem Refs.below {w w' : World} {base : Nat} {v : Value} {rs : List DLodRef} (h : Refs w base v rs) (hb : Below w.heap.size w w') : Refs w' base v rs := by
 obtain ⟨h0, h⟩ := h
 rcases h with h | ⟨g, cap, cur, h1, h2, h3, h4⟩
 ·exact ⟨h0, Or.inl h⟩
 ·exact ⟨h0, Or.inr ⟨g, cap, cur, h1, h2, (hb.block g (Array.getElem?_eq_some_iff.1 h3).1).trans h3, h4⟩⟩
theorem Refs.kept {w w' : World} {base : Nat} {v : Value} {rs : List DLodRef} (h : Refs w base v rs) (hk : ∀ g, v.ownBlock = some g → w'.heap[g]? = w.heap[g]?) : Refs w' base v rs := by
 obtain ⟨h0, h⟩ := h
 rcases h with h | ⟨g, cap, cur, h1, h2, h3, h4⟩
 ·exact ⟨h0, Or.inl h⟩
 ·exact ⟨h0, Or.inr ⟨g, cap, cur, h1, h2, (hk g (by rw [h1]; rfl)).trans h3, h4⟩⟩
theorem Refs.apart {w : World} {base b : Nat} {v : Value} {rs : List DLodRef} {x y : Value} {t : TypeId} {fr : Nat × Nat} (h : Refs w base v rs) (hn : 2 ≤ rs.length) (hb : w.heap[b]? = some (.cells #[x, y] t fr)) : v.ownBlock ≠ some b := by
 obtain ⟨_, h⟩ := h
 rcases h with ⟨_, h0⟩ | ⟨g, cap, cur, h1, h2, h3, h4, h5, h6, _⟩
 ·omega
 ·intro e
  rw [h1] at e
  cases e
  rw [hb] at h3
  cases h3
  simp at h6
  omega
theorem heap_setCell_at {w : World} {b i : Nat} {cs : Array Value} {t : TypeId} {fr : Nat × Nat} {v : Value} (h : w.heap[b]? = some (.cells cs t fr)) : (w.setCell ⟨b, i, none⟩ v).heap[b]? = some (.cells (cs.setIfInBounds i v) t fr) := by
 show (w.heap.modify b _)[b]? = _
 rw [Array.getElem?_modify, if_pos rfl, h]; rfl
theorem two_cells {w : World} {b : Nat} {x y : Value} {t : TypeId} (h : w.heap[b]? = some (.cells #[x, y] t (0, 0))) : w.cell? ⟨b, 0, none⟩ = some x ∧ w.cell? ⟨b, 1, none⟩ = some y ∧ w.frozen? ⟨b, 0, none⟩ = false ∧ w.frozen? ⟨b, 1, none⟩ = false := by
 refine ⟨?_, ?_, ?_, ?_⟩ <;> simp [World.cell?, World.frozen?, h]
theorem refs_one (w : World) (base : Nat) (r : DLodRef) (hb : base ≤ w.heap.size) : Refs (w.alloc (.cells #[.int .i64 r.fKeeper, .string r.fName] 42)) base (.slice (some ⟨w.heap.size, 0, none⟩) 1 1) [r] := by
 refine ⟨rfl, Or.inr ⟨w.heap.size, 1, #[.int .i64 r.fKeeper, .string r.fName], rfl, hb, ?_, Nat.le_refl _, by decide, rfl, rfl⟩⟩
 exact (MapKept.heap_alloc w _).1


def ChainPost (w : World) (o : Option (List DLodRef)) (e : Ending) (w' : World) : Prop := Below w.heap.size w w' ∧ ∃ v, e = .returned (.tuple #[v, .bool o.isSome]) ∧ ∀ rs, o = some rs → Refs w' w.heap.size v rs
def There (p : DLodPlan) (r : DLodRef) : Prop := ∃ j : Nat, r.fKeeper = (j : Int) ∧ j < p.fKeepers.length ∧ 0 ≤ ownN p r.fName j ∧ r.fName.size ≤ maxLen
theorem There.cls {p : DLodPlan} {r : DLodRef} (h : There p r) : ∃ c, clsAt p r = some c := by
 obtain ⟨j, h1, h2, h3, h4⟩ := h
 obtain ⟨c, hc, _⟩ := clsAt_of_own h2 h3
 obtain ⟨rk, rn⟩ := r
 simp only at h1
 subst h1
 exact ⟨c, hc⟩

theorem S_l3Chain (p : DLodPlan) (v1 : Value) (r : DLodRef) (w : World) (s1 : Sl 2 rLodKeeper 0 w v1 p.fKeepers) (hp : lodOk p = true) (ht : There p r) :
  Calls Tryz.prog 53 #[.agg #[v1], .agg #[.int .i64 r.fKeeper, .string r.fName]] w (ChainPost w (chainR p r)) := by
 obtain ⟨a, len, cap, rfl⟩ := s1.form
 obtain ⟨hl, _, _⟩ := s1.len
 have HL := qhd hl
 have HP := qhd hp
 have HT := qhd ht
 clear hl hp ht
 obtain ⟨i0, hi, hz0, hz1, hz2⟩ := info_parts (show (Tryz.prog.info? 42).map (fun i => (i.zero, i.size, i.bytes)) = some (some (.agg #[.int .i64 0, .string ⟨#[]⟩]), 2, 24) by kernel_rfl)
 have I0 := qhd hi
 have Z0 := qhd hz0
 have Z1 := qhd hz1
 have Z2 := qhd hz2
 clear hi hz0 hz1 hz2
 refine qab fun R HR => ?_
 go_enter Tryz.func53, Tryz.ntmps53
 go_wp2_with fail
 obtain ⟨B, hBd⟩ : ∃ B, B = w.heap.size + 1 + 1 + 1 := ⟨_, rfl⟩
 obtain ⟨wS, hwS⟩ : ∃ wS, wS = (((w.alloc (.cells #[.slice a len cap] 25)).alloc (.cells #[.int .i64 r.fKeeper, .string r.fName] 42)).alloc (.cells #[.int .i64 r.fKeeper, .string r.fName] 42)).alloc (.cells #[.int .i64 r.fKeeper, .string r.fName] 42) := ⟨_, rfl⟩
 rw [← hwS]
 have hES : Below w.heap.size w wS := by rw [hwS]; exact bbel
 have k0 : wS.cell? ⟨w.heap.size, 0, none⟩ = some (.slice a len cap) := by rw [hwS]; go_simp
 have kB : wS.heap[B]? = some (.cells #[.int .i64 r.fKeeper, .string r.fName] 42 (0, 0)) := by
  rw [hwS, hBd]
  have h := (MapKept.heap_alloc (((w.alloc (.cells #[.slice a len cap] 25)).alloc (.cells #[.int .i64 r.fKeeper, .string r.fName] 42)).alloc (.cells #[.int .i64 r.fKeeper, .string r.fName] 42)) (.cells #[.int .i64 r.fKeeper, .string r.fName] 42)).1
  simpa only [World.size_alloc] using h
 have kR : Refs wS (w.heap.size + 1) (.slice (some ⟨w.heap.size + 1 + 1, 0, none⟩) 1 1) ([] ++ [r]) := by
  have h := refs_one ((w.alloc (.cells #[.slice a len cap] 25)).alloc (.cells #[.int .i64 r.fKeeper, .string r.fName] 42)) (w.heap.size + 1) r (by simp)
  simp only [World.size_alloc] at h
  rw [hwS]
  exact h.below (bbel)
 have KB := qhd kB
 have KR := qhd kR
 have K0 := qhd k0
 have hBw : w.heap.size < B := by omega
 have hB2 : w.heap.size + 1 + 1 ≠ B := by omega
 rw [← hBd]
 clear hwS kB kR k0 hBd
 go_loopw [6] (fun vo wr => ∃ (pre : List DLodRef) (x : DLodRef), pre.length ≤ 6 ∧ There p x ∧ chainR p r = (chainF p (6 - pre.length) x).map (pre ++ ·) ∧ Below w.heap.size w wr ∧ wr.cell? ⟨w.heap.size, 0, none⟩ = some (.slice a len cap) ∧ wr.heap[B]? = some (.cells #[.int .i64 x.fKeeper, .string x.fName] 42 (0, 0)) ∧ Refs wr (w.heap.size + 1) vo (pre ++ [x]) ∧ vo.ownBlock ≠ some B) (fun vo _ => 7 - (match vo with | .slice _ n _ => n | _ => 0))
 case atStart => exact ⟨[], r, by simp, HT.out, by simp [chainR], hES, K0.out, KB.out, KR.out, by simp [Value.ownBlock]; omega⟩
 case round =>
  obtain ⟨pre, ⟨xk, xn⟩, hn, ht, hch, hb, c0, cB, hR, hvB⟩ := hrel
  obtain ⟨j, hj1, hj2, hj3, hj4⟩ := id ht
  simp only at hj1 hj2 hj3 hj4
  subst hj1
  have CH := qhd hch
  have TX := qhd ht
  have RR := qhd hR
  have CB := qhd cB
  have hbx := hb.size
  obtain ⟨g, rc, rfl, hgb, hgn, hgm, hgl⟩ := hR.form (by simp)
  obtain ⟨b0, b1, f0, f1⟩ := two_cells cB
  have hBl := block_lt_of_cell b0
  have hwl := block_lt_of_cell c0
  have hgB : g ≠ B := by intro e; subst e; exact hvB rfl
  have hg0 : g ≠ w.heap.size := by omega
  clear hch ht hR cB hvB
  obtain ⟨n, hnd⟩ : ∃ n, n = pre.length := ⟨_, rfl⟩
  have hlen : (pre ++ [(⟨(j : Int), xn⟩ : DLodRef)]).length = n + 1 := by rw [hnd]; simp
  rw [hlen] at hgn ⊢
  rw [← hnd] at hn
  have HLN := qhd hlen
  have HND := qhd hnd
  clear hlen hnd
  by_cases h6 : n ≤ 5
  ·go_wp2_with fail
   obtain ⟨c, hc⟩ := TX.out.cls
   have HC := qhd hc
   refine (S_l3Class p _ ⟨(j : Int), xn⟩ c _ (s1.stays rLodKeeper_good (Keeps.of_below hb)) hc hj4).mono ?_
   rintro _ wA ⟨⟨v, rfl, a1, l1, c1, a2, l2, c2, rfl, d1, d2, by1, by2⟩, hA⟩
   have hEA := hb.trans (hA.mono hbx)
   clear hc
   replace c0 := qaa hA c0
   replace b0 := qaa hA b0
   replace b1 := qaa hA b1
   have RA : Hid (Refs wA (w.heap.size + 1) (.slice (some ⟨g, 0, none⟩) (n + 1) rc) (pre ++ [⟨(j : Int), xn⟩])) := qhd (by rw [← HLN.out]; exact RR.out.below hA)
   have BA : Hid (wA.heap[B]? = some (.cells #[.int .i64 (j : Int), .string xn] 42 (0, 0))) := qhd ((hA.block B hBl).trans CB.out)
   have hAs := hA.size
   have hwA := block_lt_of_cell c0
   have hBA := block_lt_of_cell b0
   clear f0 f1 RR CB
   cases hq : c.fSuper.toList.isEmpty
   ·have HQ := qhd hq
    have q2 : ¬ c.fSuper.toList = [] := by simpa using hq
    go_wp2_with fail
    have hcs : c.fSuper.size ≤ maxLen := by2
    obtain ⟨jw, hjw⟩ : ∃ jw, jw = whoseR p j c.fSuper := ⟨_, rfl⟩
    refine (S_l3Whose p _ j c.fSuper _ (s1.stays rLodKeeper_good ((Keeps.of_below hEA).trans (Keeps.of_below' (B := wA.heap.size) (bbel) (Nat.le_refl _)))) HP.out hj2).mono ?_
    rintro _ wC ⟨rfl, hC⟩
    have hC' : Below wA.heap.size wA wC := bbel
    have hEC := hEA.trans (hC'.mono hEA.size)
    have hCs := hC'.size
    have q3 : wC.cell? ⟨wA.heap.size, 1, none⟩ = some (.string c.fSuper) := (hC.cell (by simp)).trans (by go_simp)
    replace c0 := qaa hC' c0
    replace b0 := qaa hC' b0
    replace b1 := qaa hC' b1
    have RC : Hid (Refs wC (w.heap.size + 1) (.slice (some ⟨g, 0, none⟩) (n + 1) rc) (pre ++ [⟨(j : Int), xn⟩])) := qhd (RA.out.below hC')
    have BC : Hid (wC.heap[B]? = some (.cells #[.int .i64 (j : Int), .string xn] 42 (0, 0))) := qhd ((hC'.block B hBA).trans BA.out)
    have hwC := block_lt_of_cell c0
    have hBC := block_lt_of_cell b0
    have hgC : g < wC.heap.size := by omega
    clear RA BA hC
    rw [← hjw]
    have HJ := qhd hjw
    rcases whoseR_code p j c.fSuper with hcd | ⟨hcd, hno⟩
    ·obtain ⟨j', he, hj'1, hj'2⟩ := whoseR_there HP.out hj2 hcd
     have hjw' : jw = (⟨(j' : Int), c.fSuper⟩, 1) := hjw.trans he
     have UP : Hid (chainR p r = (chainF p (6 - (n + 1)) ⟨(j' : Int), c.fSuper⟩).map ((pre ++ [⟨(j : Int), xn⟩]) ++ ·)) := qhd (by
      have h5 := CH.out
      rw [← HND.out, show 6 - n = (6 - (n + 1)) + 1 by omega] at h5
      have h6 := chain_up h5 HC.out HQ.out (by simpa using hcd)
      simp only [Int.toNat_natCast] at h6
      rw [he] at h6
      exact h6)
     subst hjw'
     clear hjw hcd he HJ
     unfold refT
     have hbC : w.heap.size ≤ wC.heap.size := hEC.size
     go_wp2_with (at_builtin; refine wpList_append_own _ rfl (.tmp 36) (.tmp 38) 55 rfl (w.heap.size + 1) 42 i0 (.agg #[.int .i64 0, .string ⟨#[]⟩]) 2 24 Tryz.underlying55 I0.out Z0.out Z1.out Z2.out rfl (by decide) _ (n + 1) (flatR (pre ++ [⟨(j : Int), xn⟩])) rfl ?c0 ⟨wC.heap.size + 1, 0, none⟩ 1 1 [.int .i64 (j' : Int), .string c.fSuper] rfl rfl ?c1 ?c2 ?c3 ?c4 ?c5 ?_)
     case c0 => have h := RC.out.below (w' := (wC.alloc (.cells #[.int .i64 (j' : Int), .string c.fSuper] 42)).alloc (.cells #[.int .i64 (j' : Int), .string c.fSuper] 42)) (bbel); unfold Refs at h; rw [HLN.out] at h; exact h
     case c1 =>
      intro q u hq
      match q, hq with
      | 0, hq => cases hq; simp [Addr.add]
      | 1, hq => cases hq; simp [Addr.add]
      | q + 2, hq => simp at hq
     case c2 => intro u hu; simp at hu; rcases hu with rfl | rfl <;> rfl
     case c3 => unfold maxLen; omega
     case c4 => omega
     case c5 => simp; omega
     intro v' w1 hown' hg _
     have hzN := hg.size
     simp only [World.size_alloc] at hzN
     have blk : ∀ k, k < wC.heap.size + 1 + 1 → k ≠ g → w1.heap[k]? = ((wC.alloc (.cells #[.int .i64 (j' : Int), .string c.fSuper] 42)).alloc (.cells #[.int .i64 (j' : Int), .string c.fSuper] 42)).heap[k]? := fun k hk hne => hg.block k (by simp; omega) (by simp [Value.ownBlock]; exact hne)
     have R1 : Hid (Refs w1 (w.heap.size + 1) v' (pre ++ [⟨(j : Int), xn⟩] ++ [⟨(j' : Int), c.fSuper⟩])) := qhd (by
      unfold Refs
      rw [List.length_append, HLN.out, flatR_snoc]
      exact hown')
     have B1 : w1.heap[B]? = some (.cells #[.int .i64 (j : Int), .string xn] 42 (0, 0)) := by
      rw [blk B (by omega) (fun e => hgB e.symm)]
      exact ((show Below wC.heap.size wC _ from bbel).block B hBC).trans BC.out
     have hap := R1.out.apart (by simp) B1
     obtain ⟨m0, m1, mf0, mf1⟩ := two_cells B1
     have n0 : w1.cell? ⟨wC.heap.size, 0, none⟩ = some (.int .i64 (j' : Int)) := by rw [qae (blk _ (by omega) (by omega))]; go_simp
     have n1 : w1.cell? ⟨wC.heap.size, 1, none⟩ = some (.string c.fSuper) := by rw [qae (blk _ (by omega) (by omega))]; go_simp
     have d0 : w1.cell? ⟨w.heap.size, 0, none⟩ = some (.slice a len cap) := by rw [qae (blk _ (by omega) (fun e => hg0 e.symm))]; go_simp
     have hE1 : Below w.heap.size w w1 := (show Below w.heap.size w ((wC.alloc (.cells #[.int .i64 (j' : Int), .string c.fSuper] 42)).alloc (.cells #[.int .i64 (j' : Int), .string c.fSuper] 42)) from bbel).grown hg (by simp; omega) (fun k h => by cases h; exact Nat.le_of_succ_le hgb)
     have BB1 := qhd B1
     have D0 := qhd d0
     have HAP := qhd hap
     clear hown' hg blk B1 hap c0 b0 b1 q3
     go_wp2
     go_roundw
     case measure =>
      obtain ⟨g', rc', e', _⟩ := R1.out.form (by simp)
      rw [e']
      simp
      have := HLN.out
      simp at this
      omega
     case rel =>
      refine ⟨pre ++ [⟨(j : Int), xn⟩], ⟨(j' : Int), c.fSuper⟩, by rw [HLN.out]; omega, ⟨j', rfl, hj'1, hj'2, hcs⟩, by rw [HLN.out]; exact UP.out, (hE1.setCell (by show _ ≤ B; omega) _).setCell (by show _ ≤ B; omega) _, ?_, ?_, ?_, HAP.out⟩
      ·rw [World.cell?_setCell_far _ _ _ _ (by show B ≠ w.heap.size; omega), World.cell?_setCell_far _ _ _ _ (by show B ≠ w.heap.size; omega)]; exact D0.out
      ·have h := heap_setCell_at (i := 1) (v := .string c.fSuper) (heap_setCell_at (i := 0) (v := .int .i64 (j' : Int)) BB1.out)
       simpa using h
      ·refine R1.out.kept fun q hq => ?_
       have hne : q ≠ B := fun e => HAP.out (by rw [hq, e])
       rw [Below.heap_setCell _ _ _ _ hne, Below.heap_setCell _ _ _ _ hne]
    ·have hjw' : jw = (noRef, (whoseR p j c.fSuper).2) := by rw [hjw]; exact Prod.ext hno rfl
     obtain ⟨cd, hcde⟩ : ∃ cd, cd = (whoseR p j c.fSuper).2 := ⟨_, rfl⟩
     rw [← hcde] at hjw' hcd
     have RES : Hid (chainR p r = none) := qhd (by
      have h5 := CH.out
      rw [← HND.out, show 6 - n = (6 - (n + 1)) + 1 by omega] at h5
      exact chain_out h5 HC.out HQ.out (by simp only [Int.toNat_natCast]; rw [← hcde]; exact hcd))
     have RO : Hid ((chainR p r).isSome = false) := qhd (by rw [RES.out]; rfl)
     have i1 : (cd != 1) = true := by simpa using hcd
     have i2 : (cd == 1) = false := by simpa using hcd
     subst hjw'
     clear hjw hcde hno HJ hcd
     unfold refT noRef
     go_wp2
     all_goals (try go_returns)
     all_goals exact HR.out _ _ ⟨bbel, _, by first | (rw [RO.out]; done) | (rw [RO.out]; rfl), fun rs h => by rw [RES.out] at h; cases h⟩
   ·have HQ := qhd hq
    have q2 : c.fSuper.toList = [] := by simpa using hq
    have RES : Hid (chainR p r = some (pre ++ [⟨(j : Int), xn⟩])) := qhd (by
     have h5 := CH.out
     rw [← HND.out, show 6 - n = (5 - n) + 1 by omega] at h5
     exact chain_end h5 HC.out HQ.out)
    have RO : Hid ((chainR p r).isSome = true) := qhd (by rw [RES.out]; rfl)
    go_wp2
    all_goals (try go_returns)
    all_goals exact HR.out _ _ ⟨bbel, _, by first | (rw [RO.out]; done) | (rw [RO.out]; rfl), fun rs h => by rw [RES.out] at h; cases h; exact (RA.out.below (bbel)).low (by omega)⟩
  ·have RES : Hid (chainR p r = none) := qhd (by
    have h5 := CH.out
    rw [← HND.out, show 6 - n = 0 by omega] at h5
    exact chain_deep h5)
   have RO : Hid ((chainR p r).isSome = false) := qhd (by rw [RES.out]; rfl)
   go_wp2
   all_goals (try go_returns)
   all_goals exact HR.out _ _ ⟨bbel, _, by first | (rw [RO.out]; done) | (rw [RO.out]; rfl), fun rs h => by rw [RES.out] at h; cases h⟩

theorem S_l3Find (p : DLodPlan) (v1 : Value) (i : Nat) (nm : ByteArray) (w : World) (s1 : Sl 2 rLodKeeper 0 w v1 p.fKeepers) (hp : lodOk p = true) (hi : i < p.fKeepers.length) (hnm : nm.size ≤ maxLen) :
  Calls Tryz.prog 114 #[.agg #[v1], .int .i64 (i : Int), .string nm] w fun e w' => e = .returned (refT (findR p i nm)) ∧ Below w.heap.size w w' := by
 obtain ⟨a, len, cap, rfl⟩ := s1.form
 have HP := qhd hp
 clear hp
 obtain ⟨jw, hjw⟩ : ∃ jw, jw = whoseR p i nm := ⟨_, rfl⟩
 have SW : ∀ W, Below w.heap.size w W → Calls Tryz.prog 91 #[.agg #[.slice a len cap], .int .i64 (i : Int), .string nm] W fun e w' => e = .returned (refT jw) ∧ Below W.heap.size W w' := fun W hW => by
  rw [hjw]; exact S_l3Whose p _ i nm W (s1.stays rLodKeeper_good (Keeps.of_below hW)) HP.out hi
 rcases whoseR_code p i nm with hcd | ⟨hcd, hno⟩
 ·obtain ⟨j', he, hj'1, hj'2⟩ := whoseR_there HP.out hi hcd
  have hjw' : jw = (⟨(j' : Int), nm⟩, 1) := hjw.trans he
  have HT : Hid (There p ⟨(j' : Int), nm⟩) := qhd ⟨j', rfl, hj'1, hj'2, hnm⟩
  have RV : Hid (findR p i nm = if (chainR p ⟨(j' : Int), nm⟩).isSome then (⟨(j' : Int), nm⟩, 1) else (noRef, 4)) := qhd (by unfold findR; rw [he]; rfl)
  subst hjw'
  clear hjw hcd he
  unfold refT at SW
  refine qab fun R HR => ?_
  go_enter Tryz.func114, Tryz.ntmps114
  go_wp2_with fail
  refine (SW _ (bbel)).mono ?_
  rintro _ wA ⟨rfl, hA⟩
  have hEA : Below w.heap.size w wA := bbel
  have hAs := (hA).size; (try simp only [qsz] at hAs)
  obtain ⟨hAad, hAao, hAag, hAap, hAax, hAay, hAac1, hAaf1, hAaz1⟩ := bf2 (n := w.heap.size) hA
  go_wp2_with fail
  refine (S_l3Chain p _ ⟨(j' : Int), nm⟩ _ (s1.stays rLodKeeper_good ((Keeps.of_below hEA).trans (Keeps.of_below' (B := wA.heap.size) (bbel) (Nat.le_refl _)))) HP.out HT.out).mono ?_
  rintro _ wB ⟨hB, v, rfl, _⟩
  have hAB : Below wA.heap.size wA wB := bbel
  have hEB := hEA.trans (hAB.mono hEA.size)
  have hBs := hB.size
  simp only [World.size_alloc] at hBs
  have z0 : wA.cell? ⟨w.heap.size + 1, 0, none⟩ = some (.int .i64 0) := by go_simp
  have z1 : wA.cell? ⟨w.heap.size + 1, 1, none⟩ = some (.string ⟨#[]⟩) := by go_simp
  have zf0 : wA.frozen? ⟨w.heap.size + 1, 0, none⟩ = false := by go_simp
  have zf1 : wA.frozen? ⟨w.heap.size + 1, 1, none⟩ = false := by go_simp
  have y0 := qaa hAB z0
  have y1 := qaa hAB z1
  have yf0 := qas hAB z0 zf0
  have yf1 := qas hAB z1 zf1
  have x0 : wB.cell? ⟨wA.heap.size, 0, none⟩ = some (.int .i64 (j' : Int)) := (hB.cell (by simp)).trans (by go_simp)
  have x1 : wB.cell? ⟨wA.heap.size, 1, none⟩ = some (.string nm) := (hB.cell (by simp)).trans (by go_simp)
  have hBl := block_lt_of_cell y0
  obtain ⟨bb, hbb⟩ : ∃ bb, bb = (chainR p ⟨(j' : Int), nm⟩).isSome := ⟨_, rfl⟩
  rw [← hbb]
  have RV2 : Hid (findR p i nm = if bb then (⟨(j' : Int), nm⟩, 1) else (noRef, 4)) := qhd (by rw [RV.out, hbb])
  have hne : w.heap.size + 1 ≠ wA.heap.size := by have := block_lt_of_cell z0; omega
  clear hbb RV z0 z1 zf0 zf1 hAad hAag hAax hAay hAao hAap hB
  cases bb
  all_goals
   go_wp2
   all_goals
    refine bodyPost_ret (v := ?_) ?hrun rfl ?_
    case hrun => (simp only [results, Tryz.results114]; go_simp; first | done | exact rfl)
    exact HR.out _ _ ⟨by rw [RV2.out]; rfl, bbel⟩
 ·obtain ⟨cd, hcde⟩ : ∃ cd, cd = (whoseR p i nm).2 := ⟨_, rfl⟩
  have hjw' : jw = (noRef, cd) := by rw [hjw, hcde]; exact Prod.ext hno rfl
  rw [← hcde] at hcd
  have RV : Hid (findR p i nm = (noRef, cd)) := qhd (by unfold findR; rw [← hcde, if_neg hcd])
  have i1 : (cd != 1) = true := by simpa using hcd
  have i2 : (cd == 1) = false := by simpa using hcd
  subst hjw'
  clear hjw hcde hno hcd
  unfold refT noRef at SW
  refine qab fun R HR => ?_
  go_enter Tryz.func114, Tryz.ntmps114
  go_wp2_with fail
  refine (SW _ (bbel)).mono ?_
  rintro _ wA ⟨rfl, hA⟩
  have hEA : Below w.heap.size w wA := bbel
  have hAs := (hA).size; (try simp only [qsz] at hAs)
  obtain ⟨hAad, hAao, hAag, hAap, hAax, hAay, hAac1, hAaf1, hAaz1⟩ := bf2 (n := w.heap.size) hA
  go_wp2
  all_goals
   refine bodyPost_ret (v := ?_) ?hrun rfl ?_
   case hrun => (simp only [results, Tryz.results114]; go_simp; first | done | exact rfl)
   exact HR.out _ _ ⟨by rw [RV.out]; rfl, bbel⟩

end Go.Proofs.YtmbfpbgkchncgaaGreat
