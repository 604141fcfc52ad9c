/-
  Texts of mine, packed: LawLY, RowLY. No condition beside those of the single theorems.
-/
import Derived.Test.YtmbfpbgkchncgaaGreatK25
import Derived.Test.YtmbfpbgkchncgaaGreatK21
import Derived.Test.YtmbfpbgkchncgaaGreatK2
import Derived.Test.YtmbfpbgkchncgaaGreatK17
import Derived.BigQuiet
import Derived.Test.YtmbfpbgkchncgaaGreatK13
set_option linter.unusedSimpArgs false
set_option linter.unusedVariables false
set_option maxHeartbeats 16000000
set_option maxRecDepth 100000
namespace Go.Proofs.YtmbfpbgkchncgaaGreat
open Go.RowKit
theorem wf_smallY {k : Int} (h : -1 ≤ k ∧ k ≤ 9) : (Lit.int .i64 k).wf = true := by
 obtain ⟨h1, h2⟩ := h
 have : k = -1 ∨ k = 0 ∨ k = 1 ∨ k = 2 ∨ k = 3 ∨ k = 4 ∨ k = 5 ∨ k = 6 ∨ k = 7 ∨ k = 8 ∨ k = 9 := by omega
 rcases this with rfl | rfl | rfl | rfl | rfl | rfl | rfl | rfl | rfl | rfl | rfl <;> rfl
theorem chain_smallY {p : DLodPlan} {r : DLodRef} (hn : r.fName.size ≤ maxLen) {x : DLodRef} (hx : x ∈ lodChain p r) : -1 ≤ x.fKeeper ∧ x.fKeeper ≤ 9 := by
 obtain ⟨c, hc, _, _, hp⟩ := chain_cls hn hx
 obtain ⟨k, hk, hkl⟩ := clsAt_in hc
 have := lodOk_len hp
 omega
theorem Sl.takeY {α : Type} {k : Nat} {R : RowRel α} {lo : Nat} {w : World} {a : Option Addr} {len cap m : Nat} {xs : List α} (h : Sl k R lo w (.slice a len cap) xs) (hm : m ≤ len) : Sl k R lo w (.slice a m cap) (xs.take m) := by
 obtain ⟨a', len', cap', e, hl, h1, h2, h3⟩ := h
 cases e
 refine ⟨a, m, cap, rfl, by rw [List.length_take]; omega, by omega, h2, fun hp => ?_⟩
 obtain ⟨b, off, e, g1, g2, g3⟩ := h3 (by omega)
 refine ⟨b, off, e, g1, g2, fun i hi => ?_⟩
 obtain ⟨x, cs, c0, c1, c2, c3⟩ := g3 i (by omega)
 exact ⟨x, cs, by rw [List.getElem?_take, if_pos hi]; exact c0, c1, c2, c3⟩
theorem lnk_row {w : World} {va : Option Addr} {vn vc : Nat} {ks : List DLnkField} (h : Sl 5 rLnkField 0 w (.slice va vn vc) ks) {j : Nat} {x : DLnkField} (hk : ks[j]? = some x) : ∃ (vb vo : Nat), va = some ⟨vb, vo, none⟩ ∧ vb < w.heap.size ∧ w.rangeAt vb (vo + j * 5) [.int .i64 x.fOf.fKeeper, .string x.fOf.fName, .int .i64 x.fAt, .int .i64 x.fKind.fKind, .string x.fKind.fName] := by
 obtain ⟨a, len, cap, e, hl, h1, h2, h3⟩ := h
 cases e
 have hs := (List.getElem?_eq_some_iff.1 hk).1
 obtain ⟨b, off, rfl, _, hbl, hr⟩ := h3 (by omega)
 obtain ⟨m', cs, g0, g1, g2, g3⟩ := hr j (by omega)
 obtain rfl : x = m' := Option.some.inj (hk.symm.trans g0)
 obtain ⟨rfl, b1, b2⟩ := g3
 exact ⟨b, off, rfl, hbl, g2⟩
theorem lnk_len {w : World} {va : Option Addr} {vn vc : Nat} {ks : List DLnkField} (h : Sl 5 rLnkField 0 w (.slice va vn vc) ks) : ks.length = vn ∧ vn ≤ vc ∧ vc ≤ 9223372036854775807 := by
 obtain ⟨a, len, cap, e, hl, h1, h2, h3⟩ := h
 cases e
 exact ⟨hl, h1, by unfold maxLen at h2; omega⟩
theorem TSl.slY {w : World} {lo : Nat} {v : Value} {xs : List DLnkField} (h : TSl 5 rLnkField 64 lo w v xs) : Sl 5 rLnkField 0 w v xs := (h.sl (R' := rLnkField) (fun _ _ h => h)).low rLnkField_good (Nat.zero_le _)
@[go_sem] theorem eg_lnkf : Tryz.prog.eqGuardType Tryz.prog.depth 64 = false := by kernel_rfl
@[go_sem] theorem eq_lnkf (k a kk : Int) (n kn : ByteArray) (w : World) : (Op.equalIn 10000 64 (.agg #[.int .i64 k, .string n, .int .i64 a, .int .i64 kk, .string kn]) (.agg #[.int .i64 k, .string n, .int .i64 a, .int .i64 kk, .string kn])).run Tryz.prog w = .ok true w := by
 have iu3 := Tryz.underlying3
 have ia3 := Tryz.isAgg3
 have iz3 := Tryz.sizeOf3
 have iu9 := Tryz.underlying9
 have ia9 := Tryz.isAgg9
 have iz9 := Tryz.sizeOf9
 have ik := Tryz.underlying59
 have iak : ∀ W : World, (Go.isAgg 59).run Tryz.prog W = .ok true W := Tryz.isAgg59
 have izk : ∀ W : World, (Go.sizeOf 59).run Tryz.prog W = .ok 2 W := Tryz.sizeOf59
 have ir := Tryz.underlying42
 have iar : ∀ W : World, (Go.isAgg 42).run Tryz.prog W = .ok true W := Tryz.isAgg42
 have izr : ∀ W : World, (Go.sizeOf 42).run Tryz.prog W = .ok 2 W := Tryz.sizeOf42
 have hS : Tryz.prog.underlying 64 = some (.struct (Tryz.prog.fieldsOf 64)) := by kernel_rfl
 have hp : Tryz.prog.stoodInHeld 64 = false := by kernel_rfl
 have hSk : Tryz.prog.underlying 59 = some (.struct (Tryz.prog.fieldsOf 59)) := by kernel_rfl
 have hpk : Tryz.prog.stoodInHeld 59 = false := by kernel_rfl
 have hSr : Tryz.prog.underlying 42 = some (.struct (Tryz.prog.fieldsOf 42)) := by kernel_rfl
 have hpr : Tryz.prog.stoodInHeld 42 = false := by kernel_rfl
 have hk : ∀ W : World, (Op.equalIn 9999 59 (.agg #[.int .i64 kk, .string kn]) (.agg #[.int .i64 kk, .string kn])).run Tryz.prog W = .ok true W := fun W => by
  rw [show (9999 : Nat) = 9998 + 1 from rfl, run_equalIn_agg W 9998 59 _ _ hSk hpk]
  simp only [Program.fieldsOf, Tryz.underlying59]
  go_simp
  try simp
 have hr : ∀ W : World, (Op.equalIn 9999 42 (.agg #[.int .i64 k, .string n]) (.agg #[.int .i64 k, .string n])).run Tryz.prog W = .ok true W := fun W => by
  rw [show (9999 : Nat) = 9998 + 1 from rfl, run_equalIn_agg W 9998 42 _ _ hSr hpr]
  simp only [Program.fieldsOf, Tryz.underlying42]
  go_simp
  try simp
 rw [show (10000 : Nat) = 9999 + 1 from rfl, run_equalIn_agg w 9999 64 _ _ hS hp]
 simp only [Program.fieldsOf, Tryz.underlying64]
 go_simp
 try simp [hk, hr]
theorem L_loFields (va vb : Value) (ks : List DLnkField) (w : World) (h1 : Sl 5 rLnkField 0 w va ks) (h2 : Sl 5 rLnkField 0 w vb ks) :
  Calls Tryz.prog 22 #[va, vb] w fun e w' => e = .returned (.bool true) ∧ Below w.heap.size w w' := by
 obtain ⟨a1, n, c1, rfl⟩ := h1.form
 obtain ⟨a2, n2, c2, rfl⟩ := h2.form
 obtain ⟨hn, l1, l2⟩ := lnk_len h1
 obtain ⟨hn2, l3, l4⟩ := lnk_len h2
 obtain rfl : n2 = n := hn2.symm.trans hn
 have m1 : n2 ≤ 9223372036854775807 := by omega
 have H1 := qhd h1
 have H2 := qhd h2
 have HN := qhd hn
 clear h1 h2 hn hn2
 refine qab fun R HR => ?_
 go_enter Tryz.func22, Tryz.ntmps22
 go_wp2_with fail
 go_loopw [5] (fun z wr => ∃ k : Nat, k ≤ n2 ∧ z = .int .i64 k ∧ Below w.heap.size w wr) (fun z _ => n2 - (intOf z).toNat)
 case atStart => exact ⟨0, Nat.zero_le _, rfl, bbel⟩
 case round =>
  obtain ⟨k, hk, rfl, hb⟩ := hrel
  have hbs := hb.size
  by_cases hlt : k < n2
  ·have hlt2 : (k : Int) < (n2 : Int) := by omega
   obtain ⟨x, hx⟩ : ∃ x, ks[k]? = some x := ⟨_, List.getElem?_eq_getElem (by have := HN.out; omega)⟩
   obtain ⟨g1, o1, rfl, l5, p⟩ := lnk_row (H1.out.stays rLnkField_good (Keeps.of_below hb)) hx
   obtain ⟨g2, o2, rfl, l6, q⟩ := lnk_row (H2.out.stays rLnkField_good (Keeps.of_below hb)) hx
   have p0 := p 0 _ rfl
   have p1 := p 1 _ rfl
   have p2 := p 2 _ rfl
   have p3 := p 3 _ rfl
   have p4 := p 4 _ rfl
   have q0 := q 0 _ rfl
   have q1 := q 1 _ rfl
   have q2 := q 2 _ rfl
   have q3 := q 3 _ rfl
   have q4 := q 4 _ rfl
   simp only [Nat.add_zero] at p0 q0
   clear p q hx
   go_wp2_with fail
   first | (go_quiet (fail)) | skip
   go_wp2
   go_roundw
   case measure => simp [intOf]; omega
   case rel => exact ⟨k + 1, by omega, by go_num, Below.drewN hb _⟩
  ·obtain rfl : k = n2 := by omega
   go_wp2
   all_goals (try go_returns)
   all_goals exact HR.out _ _ ⟨rfl, bbel⟩

theorem S_DrawLnkLayout (v : Value) (w : World) (hv : Bytes w v) :
  Calls Tryz.prog 21 #[v] w fun e w' => (∃ (pv : Value) (pl : DLodPlan) (k : Int) (nm : ByteArray), e = .returned (.tuple #[.agg #[pv], .agg #[.int .i64 k, .string nm]]) ∧ Sl 2 rLodKeeper 0 w' pv pl.fKeepers ∧ nm.size ≤ maxLen ∧ -1 ≤ k ∧ k ≤ 9) ∧ Below w.heap.size w w' := by
 have HV := qhd hv
 clear hv
 refine qab fun R HR => ?_
 go_enter Tryz.func21, Tryz.ntmps21
 go_wp2_with fail
 refine (S_DrawLodChainO _ _ ((HV.out.alloc _).alloc _)).mono ?_
 rintro _ w1 ⟨⟨pv, pl, k, nm, rfl, hs, hb1, hb2, hb3⟩, hB⟩
 obtain ⟨a, len, cap, rfl⟩ := hs.form
 have hBs := (hB).size; (try simp only [qsz] at hBs)
 obtain ⟨hBad, hBao, hBag, hBap, hBax, hBay, hBac1, hBaf1, hBaz1⟩ := bf2 (n := w.heap.size) hB
 have HS := qhd hs
 clear hs
 go_wp2
 all_goals
  refine bodyPost_ret (v := ?_) ?hrun rfl ?_
  case hrun => (simp only [results, Tryz.results21]; go_simp; first | done | exact rfl)
  exact HR.out _ _ ⟨⟨_, pl, k, nm, rfl, (HS.out.stays rLodKeeper_good (by (repeat' (first | (with_reducible exact Keeps.refl _ _) | (with_reducible refine Keeps.alloc ?_ _) | (with_reducible refine Keeps.setCell ?_ ?_ _) | (with_reducible refine Keeps.drew ?_) | (refine keeps_hyp (by assumption) ?_ ?_) | go_size)))).low rLodKeeper_good (Nat.zero_le _), hb1, hb2, hb3⟩, bbel⟩
def uF (lo : Nat) (pv : Value) (g n gc : Nat) (xk : Int) (xn : ByteArray) (up : List DLnkField) : Nat → Value → World → Prop
 | 0, v, w => v = .agg #[pv]
 | 1, v, w => v = .slice (some ⟨g, 0, none⟩) n gc
 | 2, v, w => v = .pointer (some ⟨g, 2, none⟩)
 | 3, v, w => v = .agg #[.int .i64 xk, .string xn]
 | 4, v, w => TSl 5 rLnkField 64 lo w v up
 | 5, v, w => TSl 5 rLnkField 64 lo w v up
 | _, _, _ => True
theorem uF_stays {lo : Nat} {pv : Value} {g n gc : Nat} {xk : Int} {xn : ByteArray} {up : List DLnkField} : ∀ i j u w w', i ≠ j → Below w.heap.size w w' → uF lo pv g n gc xk xn up i u w → uF lo pv g n gc xk xn up i u w' := by
 intro i j u w w' hne hg h
 match i with
 | 0 | 1 | 2 | 3 => exact h
 | 4 =>
   exact h.below (E := NoT) qal hg
 | 5 =>
   exact h.below (E := NoT) qal hg
 | n + 6 => trivial

theorem L_FnLnkLayout (v : Value) (w : World) (hv : Bytes w v) :
  Calls Tryz.prog 6 #[v] w fun e w' => e = .returned (.bool true) ∧ Below w.heap.size w w' := by
 obtain ⟨c, len, cap, rfl, g1, g2, g3⟩ := id hv
 have m1 : len ≤ 9223372036854775807 := by unfold maxLen at g2; omega
 clear g2 g3
 refine qab fun R HR => ?_
 go_enter Tryz.func6, Tryz.ntmps6
 go_wp2_with fail
 all_goals first
  | (try go_returns
     exact HR.out _ _ ⟨rfl, bbel⟩)
  | skip
 refine (S_DrawLnkLayout _ _ hv).mono ?_
 rintro _ w1 ⟨⟨pv, pl, k1, n1, rfl, hs, hn1, hk1⟩, h1⟩
 have h1s := (h1).size; (try simp only [qsz] at h1s)
 obtain ⟨fa, fl, fc, rfl⟩ := hs.form
 have hwf := wf_smallY hk1
 have hn1' := hn1
 obtain ⟨z, hz⟩ : ∃ x, lnkLaid pl ⟨k1, n1⟩ = x := ⟨_, rfl⟩
 obtain ⟨ls, hls⟩ : ∃ x, lnkLayout pl ⟨k1, n1⟩ = x := ⟨_, rfl⟩
 have KS : Hid (∀ W, Below w1.heap.size w1 W → Sl 2 rLodKeeper 0 W (.slice fa fl fc) pl.fKeepers) := qhd fun W hW => hs.stays rLodKeeper_good (Keeps.of_below' hW (Nat.le_refl _))
 have CP : Hid (∀ (W : World) (x : DLodRef), x.fName.size ≤ maxLen → -1 ≤ x.fKeeper ∧ x.fKeeper ≤ 9 → Below w1.heap.size w1 W → Calls Tryz.prog 19 #[.agg #[.slice fa fl fc], .agg #[.int .i64 x.fKeeper, .string x.fName]] W fun e w' => LayV W e w' (lnkLayout pl x)) := qhd fun W x hx hk hW => I_LnkLayout pl _ x W (KS.out W hW) hx (wf_smallY hk)
 have CI : Hid (∀ W, Below w1.heap.size w1 W → Calls Tryz.prog 19 #[.agg #[.slice fa fl fc], .agg #[.int .i64 k1, .string n1]] W fun e w' => LayV W e w' ls) := qhd fun W hW => by rw [← hls]; exact CP.out W ⟨k1, n1⟩ hn1 hk1 hW
 have CS : Hid (∀ W, Below w1.heap.size w1 W → Calls Tryz.prog 23 #[.agg #[.slice fa fl fc], .agg #[.int .i64 k1, .string n1]] W fun e w' => LayV W e w' ls) := qhd fun W hW => by rw [← hls]; exact S_LnkLayout pl _ ⟨k1, n1⟩ W (KS.out W hW) hn1
 have CL : Hid (∀ W, Below w1.heap.size w1 W → Calls Tryz.prog 17 #[.agg #[.slice fa fl fc], .agg #[.int .i64 k1, .string n1]] W fun e w' => e = .returned (.bool z) ∧ Below W.heap.size W w') := qhd fun W hW => by rw [← hz]; exact I_LnkLaid pl _ ⟨k1, n1⟩ W (KS.out W hW) hn1 hwf
 have CM : Hid (∀ W, Below w1.heap.size w1 W → Calls Tryz.prog 18 #[.agg #[.slice fa fl fc], .agg #[.int .i64 k1, .string n1]] W fun e w' => e = .returned (.bool z) ∧ Below W.heap.size W w') := qhd fun W hW => by rw [← hz]; exact S_LnkLaid pl _ ⟨k1, n1⟩ W (KS.out W hW) hn1
 have CX : Hid (∀ (W : World) (x : DLodRef), x.fName.size ≤ maxLen → -1 ≤ x.fKeeper ∧ x.fKeeper ≤ 9 → Below w1.heap.size w1 W → Calls Tryz.prog 17 #[.agg #[.slice fa fl fc], .agg #[.int .i64 x.fKeeper, .string x.fName]] W fun e w' => e = .returned (.bool (lnkLaid pl x)) ∧ Below W.heap.size W w') := qhd fun W x hx hk hW => I_LnkLaid pl _ x W (KS.out W hW) hx (wf_smallY hk)
 have CC : Hid (∀ W, Below w1.heap.size w1 W → Calls Tryz.prog 20 #[.agg #[.slice fa fl fc], .agg #[.int .i64 k1, .string n1]] W fun e w' => (∃ v, e = .returned v ∧ Refs w' W.heap.size v (lodChain pl ⟨k1, n1⟩)) ∧ Below W.heap.size W w') := qhd fun W hW => I_LodChain pl _ ⟨k1, n1⟩ W (KS.out W hW) hn1
 obtain ⟨_, ⟨xa1, xl1, xc1, xa2, xl2, xc2, rfl, sF, _⟩, LO⟩ := L_loOfX pl _ ⟨k1, n1⟩ w1 hs
 obtain ⟨nA, hnA⟩ : ∃ x, x = (loOfP pl ⟨k1, n1⟩).fName := ⟨_, rfl⟩
 obtain ⟨pA, hpA⟩ : ∃ x, x = (loOfP pl ⟨k1, n1⟩).fSuper := ⟨_, rfl⟩
 rw [← hnA, ← hpA] at LO
 have HLO := qhd LO
 have HSF := qhd sF
 have HZ := qhd hz
 have HLS := qhd hls
 obtain ⟨rs, hrs⟩ : ∃ rs, lodChain pl ⟨k1, n1⟩ = rs := ⟨_, rfl⟩
 have HRS := qhd hrs
 rw [hrs] at CC
 clear hs hz hls LO sF hnA hpA hrs
 go_wp2_with fail
 have hB0 : Below w1.heap.size w1 ((w1.alloc (.cells #[.slice fa fl fc] 25)).alloc (.cells #[.int .i64 k1, .string n1] 42)) := bbel
 refine (CI.out _ (bbel)).mono ?_
 rintro _ w2 ⟨⟨v5, rfl, t5⟩, h2⟩
 have h2s := (h2).size; (try simp only [qsz] at h2s)
 obtain ⟨h2pd, h2po, h2pg, h2pp, h2px, h2py, h2pc1, h2pf1, h2pz1⟩ := bf2 (n := w1.heap.size) h2
 have r0 : w2.cell? ⟨w1.heap.size, 0, none⟩ = some (.slice fa fl fc) := by go_simp
 have r1 : w2.cell? ⟨w1.heap.size + 1, 0, none⟩ = some (.int .i64 k1) := by go_simp
 have r2 : w2.cell? ⟨w1.heap.size + 1, 1, none⟩ = some (.string n1) := by go_simp
 have hB2 : Below w1.heap.size w1 w2 := bbel
 obtain ⟨oa, oc, rfl, hoc, hom⟩ := t5.form
 have T5 := qhd (t5.low' (lo' := w1.heap.size) (E := NoT) qal hB0.size)
 have zz : (z != z) = false := by simp
 have hl0 : w1.heap.size < w2.heap.size := by omega
 have hl1 : w1.heap.size + 1 < w2.heap.size := by omega
 clear h2pd h2pg h2px h2py h2po h2pp h2pc1 h2pf1 h2pz1 h2 t5 hB0
 go_wp2_with fail
 refine (CL.out _ hB2).mono ?_
 rintro _ w3 ⟨rfl, h3⟩
 have hs3 := h3.size
 have hB3 : Below w1.heap.size w1 w3 := hB2.trans (h3.mono hB2.size)
 replace r0 := qaa h3 r0
 replace r1 := qaa h3 r1
 replace r2 := qaa h3 r2
 replace T5 := qhd (T5.out.below (E := NoT) qal h3)
 have hl30 : w1.heap.size < w3.heap.size := by omega
 have hl31 : w1.heap.size + 1 < w3.heap.size := by omega
 clear h3 hB2 hl0 hl1
 go_wp2_with fail
 refine (CS.out _ hB3).mono ?_
 rintro _ w4 ⟨⟨v29, rfl, t29⟩, h4⟩
 have hs4 := h4.size
 have hB4 : Below w1.heap.size w1 w4 := hB3.trans (h4.mono hB3.size)
 replace r0 := qaa h4 r0
 replace r1 := qaa h4 r1
 replace r2 := qaa h4 r2
 replace T5 := qhd (T5.out.below (E := NoT) qal h4)
 have hl40 : w1.heap.size < w4.heap.size := by omega
 have hl41 : w1.heap.size + 1 < w4.heap.size := by omega
 obtain ⟨ya, yc, rfl, _, _⟩ := t29.form
 have T29 := qhd t29.slY
 clear h4 hB3 hl30 hl31 t29
 go_wp2_with fail
 refine (L_loFields _ _ ls w4 T5.out.slY T29.out).mono ?_
 rintro _ w5 ⟨rfl, h5⟩
 have hs5 := h5.size
 have hB5 : Below w1.heap.size w1 w5 := hB4.trans (h5.mono hB4.size)
 replace r0 := qaa h5 r0
 replace r1 := qaa h5 r1
 replace r2 := qaa h5 r2
 replace T5 := qhd (T5.out.below (E := NoT) qal h5)
 have hl50 : w1.heap.size < w5.heap.size := by omega
 have hl51 : w1.heap.size + 1 < w5.heap.size := by omega
 clear h5 hB4 hl40 hl41 T29
 go_wp2_with fail
 refine (CM.out _ hB5).mono ?_
 rintro _ w6 ⟨rfl, h6⟩
 have hs6 := h6.size
 have hB6 : Below w1.heap.size w1 w6 := hB5.trans (h6.mono hB5.size)
 replace r0 := qaa h6 r0
 replace r1 := qaa h6 r1
 replace r2 := qaa h6 r2
 replace T5 := qhd (T5.out.below (E := NoT) qal h6)
 have hl60 : w1.heap.size < w6.heap.size := by omega
 have hl61 : w1.heap.size + 1 < w6.heap.size := by omega
 clear h6 hB5 hl50 hl51
 cases z
 ·have hls0 : ls = [] := by rw [← HLS.out]; unfold lnkLayout; rw [HZ.out]; rfl
  have hl9 : ls.length = 0 := by rw [hls0]; rfl
  rw [hl9]
  go_wp2_with (go_at_call 11; refine (L_loOk' _).mono ?_; rintro _ w9 ⟨rfl, h9⟩)
  all_goals (try go_returns)
  all_goals exact HR.out _ _ ⟨rfl, bbel⟩
 have hz : lnkLaid pl ⟨k1, n1⟩ = true := HZ.out
 obtain ⟨up, hup, hup0, hup1⟩ := plain_layout hn1 hz
 rw [HRS.out] at hup0 hup1
 rw [HLS.out] at hup
 have HUP := qhd hup
 have HUP0 := qhd hup0
 have HUP1 := qhd hup1
 have hne : rs ≠ [] := by rw [← HRS.out]; exact (lnkLaid_parts hz).1
 have hpos : 0 < rs.length := List.length_pos_iff.2 hne
 clear hz hup hup0 hup1 hne CL CM CS CI
 go_wp2_with fail
 refine (CC.out _ hB6).mono ?_
 rintro _ w7 ⟨⟨v7, rfl, hrf⟩, h7⟩
 have hs7 := h7.size
 have hB7 : Below w1.heap.size w1 w7 := hB6.trans (h7.mono hB6.size)
 replace r0 := qaa h7 r0
 replace r1 := qaa h7 r1
 replace r2 := qaa h7 r2
 replace T5 := qhd (T5.out.below (E := NoT) qal h7)
 have hl70 : w1.heap.size < w7.heap.size := by omega
 have hl71 : w1.heap.size + 1 < w7.heap.size := by omega
 obtain ⟨g, gc, rfl, _, hgc, hgm, hgl⟩ := hrf.form hpos
 have HRF := qhd hrf
 have HB7 := qhd hB7
 obtain ⟨n, hn⟩ : ∃ n, rs.length = n := ⟨_, rfl⟩
 rw [hn] at hpos hgc HRF ⊢
 have HN := qhd hn
 have hn9 : n ≤ 9223372036854775807 := by unfold maxLen at hgm; omega
 clear h7 hB6 hl60 hl61 hrf hn CC
 go_upto_if 53 with fail
 go_cut [8] from 51 to 64 (fun v8 wx => (∃ up' : List DLnkField, up' = up ∧ TSl 5 rLnkField 64 w1.heap.size wx v8 up') ∧ Below w7.heap.size w7 wx)
 case first =>
  have hbE : Below w7.heap.size w7 (w7.alloc (.cells #[] 64)) := (Below.refl _ _).alloc (Nat.le_refl _) _
  by_cases hn1 : n = 1
  ·subst hn1
   have hu0 : up = [] := HUP0.out (by rw [HN.out]; exact Nat.le_refl _)
   have HU0 := qhd hu0
   clear hu0
   go_wp2_with fail
   go_meet
   case rel => exact ⟨⟨up, rfl, by rw [HU0.out]; exact ((Empty0.new w7 64 (Nat.le_refl _)).own (α := DLnkField) (k := 5) (R := rLnkField) (Nat.le_refl _)).sl.low' (E := NoT) qal HB7.out.size⟩, hbE⟩
  have hn2 : (1 : Int) < (n : Int) := by omega
  obtain ⟨⟨xk, xn⟩, hx⟩ : ∃ x, rs[1]? = some x := ⟨_, List.getElem?_eq_getElem (by rw [HN.out]; omega)⟩
  obtain ⟨hxl, hxu⟩ := HUP1.out _ hx
  obtain ⟨p1, p2⟩ := HRF.out.cell2 hx
  have hxm := List.mem_of_getElem? hx
  rw [← HRS.out] at hxm
  have hxs := chain_smallY hn1' hxm
  have hxn := (plain_tail hn1' (by rw [HRS.out]; exact hx)).1
  obtain ⟨wE, hwE⟩ : ∃ W, W = w7.alloc (.cells #[] 64) := ⟨_, rfl⟩
  rw [← hwE] at hbE ⊢
  have q0' := qaa hbE r0
  have q1' : wE.cell? ⟨g, 2, none⟩ = some (.int .i64 xk) := qaa hbE (by simpa using p1)
  have q2' : wE.cell? ⟨g, 3, none⟩ = some (.string xn) := qaa hbE (by simpa using p2)
  have hsE := hbE.size
  have hBE : Below w1.heap.size w1 wE := HB7.out.trans (hbE.mono HB7.out.size)
  have HBE := qhd hBE
  have CX1 : ∀ y : In wE, Calls Tryz.prog 17 #[.agg #[.slice fa fl fc], .agg #[.int .i64 xk, .string xn]] y.x fun e w' => e = .returned (.bool true) ∧ Below y.x.heap.size y.x w' := fun y => by
   have := CX.out y.x ⟨xk, xn⟩ hxn hxs (HBE.out.trans (y.h.mono HBE.out.size))
   rw [hxl] at this
   exact this
  have i0 := In.cell q0'
  have i1 := In.cell q1'
  have i2 := In.cell q2'
  have hgE : g < wE.heap.size := by omega
  have hE0 : w1.heap.size < wE.heap.size := by omega
  have hgc2 : (n : Int) ≤ (gc : Int) := by omega
  clear hwE p1 p2 hx hxm
  go_wp2_with fail
  refine qaj (by kernel_rfl) (by kernel_rfl) ?_
  repeat (go_big_quiet_step (first | (go_at_call 17; exact Calls.ins (CX1 _))))
  refine wpQuiet_nil ?_
  rintro wZ ⟨⟨wI, hwI⟩, hq⟩
  obtain rfl : wI = wZ := hq.symm
  clear hq
  have hwIs := hwI.size
  (try dsimp only)
  have r0 := qaa hwI q0'
  have q1 := qaa hwI q1'
  have q2 := qaa hwI q2'
  have hbI := hbE.trans (hwI.mono hbE.size)
  have HBX := qhd (HBE.out.trans (hwI.mono HBE.out.size))
  have CUP : Hid (∀ W, Below w1.heap.size w1 W → Calls Tryz.prog 19 #[.agg #[.slice fa fl fc], .agg #[.int .i64 xk, .string xn]] W fun e w' => (∃ v, e = .returned v ∧ TSl 5 rLnkField 64 w1.heap.size w' v up) ∧ Below W.heap.size W w') := qhd fun W hW => by
   have h9 := CP.out W ⟨xk, xn⟩ hxn hxs hW
   rw [hxu] at h9
   exact h9.mono fun e w' h => by
    obtain ⟨⟨v, h1, h2⟩, h3⟩ := h
    exact ⟨⟨v, h1, h2.low' (E := NoT) qal hW.size⟩, h3⟩
  clear CX1 i0 i1 i2 hwI q0' q1' q2' hbE
  go_wp2_with fail
  refine qay 6 (Below wI.heap.size wI) (fun _ w1 w2 => Below w1.heap.size w1 w2) (fun _ => uF w1.heap.size (.slice fa fl fc) g n gc xk xn up) (fun _ _ => True) noDead (by kernel_rfl) (by decide) (by kernel_rfl) (Or.inl (by rfl)) (by kernel_rfl) ((Below.refl _ _).drew) (fun _ _ _ _ _ _ _ _ _ h => h) noDead_dead (fun _ => trivial) (fun _ _ _ _ _ _ _ _ => trivial) (fun _ i j u w1 w2 hne _ _ hg hF => uF_stays i j u w1 w2 hne hg hF) (fun _ _ _ => Below.refl _ _) ?_
  refine qac (d := 60) rfl rfl (fun wx hC hI hd S0 hS => ?_) (fun v0 => ?_)
  ·have c0' := qaa hC r0
   have HSS := qhd hS; clear hS hd hI
   go_simp
   exact HSS.out _ _ hC (Below.refl _ _) (by simp [uF])
  simp only [qnr]
  refine qac (d := 61) rfl rfl (fun wx hC hI hd S0 hS => ?_) (fun v1 => ?_)
  ·have HSS := qhd hS; clear hS hd hI
   go_simp
   exact HSS.out _ _ hC (Below.refl _ _) (by simp [uF])
  simp only [qnr]
  refine qac (d := 62) rfl rfl (fun wx hC hI hd S0 hS => ?_) (fun v2 => ?_)
  ·have d1 := hd ⟨1, .data⟩ (by simp) rfl v1 (by simp)
   simp only [uF] at d1
   subst d1
   have HSS := qhd hS; clear hS hd hI
   go_simp
   exact HSS.out _ _ hC (Below.refl _ _) (by simp [uF])
  simp only [qnr]
  refine qac (d := 63) rfl rfl (fun wx hC hI hd S0 hS => ?_) (fun v3 => ?_)
  ·have d2 := hd ⟨2, .data⟩ (by simp) rfl v2 (by simp)
   simp only [uF] at d2
   subst d2
   have c1' := qaa hC q1
   have c2' := qaa hC q2
   have HSS := qhd hS; clear hS hd hI
   go_simp
   exact HSS.out _ _ hC (Below.refl _ _) (by simp [uF])
  simp only [qnr]
  refine qac (d := 64) rfl rfl (fun wx hC hI hd S0 hS => ?_) (fun v4 => ?_)
  ·have d0 := hd ⟨0, .data⟩ (by simp) rfl v0 (by simp)
   simp only [uF] at d0
   subst d0
   have d3 := hd ⟨3, .data⟩ (by simp) rfl v3 (by simp)
   simp only [uF] at d3
   subst d3
   have HSS := qhd hS; clear hS hd hI
   go_simp
   refine (CUP.out _ (HBX.out.trans (hC.mono HBX.out.size))).mono ?_
   rintro _ w' ⟨⟨v', rfl, ht'⟩, hX⟩
   refine HSS.out _ _ (hC.trans (hX.mono hC.size)) hX ?_
   (simp only [qls, Nat.reduceAdd, uF])
   exact ht'
  simp only [qnr]
  refine qac (d := 8) rfl rfl (fun wx hC hI hd S0 hS => ?_) (fun v5 => ?_)
  ·have d4 := hd ⟨4, .data⟩ (by simp) rfl v4 (by simp)
   simp only [uF] at d4
   have HSS := qhd hS; clear hS hd hI
   go_simp
   refine HSS.out _ _ hC (Below.refl _ _) ?_
   (simp only [qls, Nat.reduceAdd, uF])
   exact d4
  simp only [qnr]
  intro wF hC hF
  have f5 := hF 5 v5 (by simp) (fun _ _ => rfl)
  simp only [uF] at f5
  have hbF := hbI.trans (hC.mono hbI.size)
  have F5 := qhd f5
  obtain ⟨fa5, fc5, rfl, _, _⟩ := f5.form
  clear hF hC f5
  simp only [List.drop_succ_cons, List.drop_zero, List.drop_nil]
  go_wp2_with fail
  go_meet
  case rel => exact ⟨⟨up, rfl, F5.out⟩, hbF⟩
 case rest =>
  obtain ⟨⟨up2, hup2, t8⟩, h8⟩ := hcut
  rw [hup2] at t8
  clear hup2
  obtain ⟨w8, hw8⟩ : ∃ x, x = wc := ⟨_, rfl⟩
  subst hw8
  have hs8 := h8.size
  have hB8 : Below w1.heap.size w1 w8 := HB7.out.trans (h8.mono HB7.out.size)
  replace r0 := qaa h8 r0
  replace r1 := qaa h8 r1
  replace r2 := qaa h8 r2
  replace T5 := qhd (T5.out.below (E := NoT) qal h8)
  have hl80 : w1.heap.size < w8.heap.size := by omega
  have hl81 : w1.heap.size + 1 < w8.heap.size := by omega
  obtain ⟨ua, uc, rfl, huc, hum⟩ := t8.form
  have T8 := qhd t8
  clear h8 t8 hl70 hl71
  go_wp2_with fail
  refine (HLO.out _ hB8).mono ?_
  rintro _ w9 ⟨rfl, h9⟩
  have hs9 := h9.size
  have hB9 : Below w1.heap.size w1 w9 := hB8.trans (h9.mono hB8.size)
  replace r0 := qaa h9 r0
  replace r1 := qaa h9 r1
  replace r2 := qaa h9 r2
  replace T5 := qhd (T5.out.below (E := NoT) qal h9)
  replace T8 := qhd (T8.out.below (E := NoT) qal h9)
  have hl90 : w1.heap.size < w9.heap.size := by omega
  have hl91 : w1.heap.size + 1 < w9.heap.size := by omega
  obtain ⟨hfl, hfc, hf9⟩ := fld_len HSF.out
  have hfld : ∀ W, (Instr.field 29 (.agg #[.string nA, .string pA, .slice xa1 xl1 xc1, .slice xa2 xl2 xc2]) 2).run Tryz.prog W = .ok (.slice xa1 xl1 xc1) W := fun _ => by kernel_rfl
  obtain ⟨uL, huL⟩ : ∃ k, up.length = k := ⟨_, rfl⟩
  have hll : ls.length = uL + xl1 := by
   have := HUP.out
   rw [this, List.length_append, ownLay_len, huL, hfl]
  rw [hll] at hoc ⊢
  rw [huL] at huc ⊢
  have HUL := qhd huL
  have HLL := qhd hll
  have HFL := qhd hfl
  have hoc9 : oc ≤ 9223372036854775807 := by unfold maxLen at hom; omega
  have hw10 : IntKind.i64.wrap ((uL : Int) + (xl1 : Int)) = ((uL + xl1 : Nat) : Int) := by rw [IntWalk.i64_in _ (by omega)]; omega
  have hne5 : (((uL + xl1 : Nat) : Int) != ((uL + xl1 : Nat) : Int)) = false := by simp
  have huo : (uL : Int) ≤ (oc : Int) := by omega
  have T5S := T5.out.slY
  rw [HLL.out] at T5S
  have T5P := T5S.takeY (m := uL) (by omega)
  have hpre : ls.take uL = up := by rw [HUP.out, ← HUL.out]; simp
  rw [hpre] at T5P
  have HT5P := qhd T5P
  have HT5S := qhd T5S
  have HT8 := qhd T8.out.slY
  rw [HUL.out] at HT8
  clear h9 hB8 hl80 hl81 hfl huL hll T5S T5P hpre
  have SLC : ∀ W, (Instr.sliceAt 53 (.slice oa (uL + xl1) oc) none (some (.int .i64 (uL : Int))) none).run Tryz.prog W = .ok (.slice oa uL oc) W := fun W => by
   cases oa <;> go_simp <;> simp
  simp only [hfld, Result.andThen]
  go_wp2_with fail
  refine (L_loFields _ _ up w9 HT5P.out HT8.out).mono ?_
  rintro _ wX ⟨rfl, hX⟩
  have hsX := hX.size
  have hBX : Below w1.heap.size w1 wX := hB9.trans (hX.mono hB9.size)
  replace r1 := qaa hX r1
  replace r2 := qaa hX r2
  have HB5 := qhd (HT5S.out.stays rLnkField_good (Keeps.of_below hX))
  have HBX := qhd hBX
  have hX0 : w1.heap.size + 1 < wX.heap.size := by omega
  clear hX hB9 hl90 hl91 r0 HT5P HT5S HT8 T5 T8 SLC
  go_wp2_with fail
  go_loopw [10] (fun zj wr => ∃ j : Nat, j ≤ xl1 ∧ zj = .int .i64 (j : Int) ∧ Below wX.heap.size wX wr) (fun zj _ => xl1 - (intOf zj).toNat)
  case atStart => exact ⟨0, Nat.zero_le _, rfl, Below.refl _ _⟩
  case round =>
   obtain ⟨j, hj, rfl, hb⟩ := hrel
   have hbs := hb.size
   have HBR := qhd (HBX.out.trans (hb.mono HBX.out.size))
   have HBb := qhd hb
   replace r1 := qaa hb r1
   replace r2 := qaa hb r2
   have hr0 : w1.heap.size + 1 < wr.heap.size := by omega
   by_cases hlt : j < xl1
   ·have hlt2 : (j : Int) < (xl1 : Int) := by omega
    obtain ⟨f, hf⟩ : ∃ x, (loOfP pl ⟨k1, n1⟩).fFields[j]? = some x := ⟨_, List.getElem?_eq_getElem (by rw [HFL.out]; exact hlt)⟩
    have hrow : ls[uL + j]? = some ⟨⟨k1, n1⟩, ((uL + j : Nat) : Int), f.fKind⟩ := by
     rw [HUP.out, List.getElem?_append_right (by rw [HUL.out]; omega), HUL.out, show uL + j - uL = j by omega]
     have := ownLay_at (p := pl) (r := ⟨k1, n1⟩) (n := uL) hf
     exact this
    obtain ⟨lb, lo, rfl, hlb, pr⟩ := lnk_row (HB5.out.stays rLnkField_good (Keeps.of_below hb)) hrow
    have p0 := pr 0 _ rfl
    have p1 := pr 1 _ rfl
    have p2 := pr 2 _ rfl
    have p3 := pr 3 _ rfl
    have p4 := pr 4 _ rfl
    simp only [Nat.add_zero] at p0
    obtain ⟨fb, fo, rfl, hfb, hfn', f0', f1', f2'⟩ := fld_row3 HSF.out hf
    have f1 := qaa HBR.out f1'
    have f2 := qaa HBR.out f2'
    have hfbr : fb < wr.heap.size := Nat.lt_of_lt_of_le hfb HBR.out.size
    have hwj : IntKind.i64.wrap ((uL : Int) + (j : Int)) = ((uL + j : Nat) : Int) := by rw [IntWalk.i64_in _ (by omega)]; omega
    have hulj : ((uL + j : Nat) : Int) < ((uL + xl1 : Nat) : Int) := by omega
    have hneA : (((uL + j : Nat) : Int) != ((uL + j : Nat) : Int)) = false := by simp
    clear pr hrow hf f0' f1' f2' hb
    go_wp2_with fail
    go_quiet (fail)
    go_wp2
    go_roundw
    case measure => simp [intOf]; omega
    case rel => exact ⟨j + 1, by omega, by go_num, by first | exact Below.drewN (HBb.out.alloc hbs _) _ | skip⟩
   ·obtain rfl : j = xl1 := by omega
    go_wp2
    all_goals (try go_returns)
    all_goals exact HR.out _ _ ⟨rfl, by have := HBR.out; exact bbel⟩

end Go.Proofs.YtmbfpbgkchncgaaGreat
namespace Go.Proofs.YtmbfpbgkchncgaaGreat
open Go.ChangeShapes Go.WideShapes Go.ChangeAt Go.RowKit Go.Joins
theorem cells_u8 : Tryz.prog.cellsOf 5 = 1 := by kernel_rfl

theorem fnLnkLayout_lifted (os : Os) (started : os.Started) (H : Type) (enc : TypeId × Value → H) :
  ReturnsInHanded {} Tryz.checked os 6 .any (Rows.fnLnkLayoutSpec.pre6 enc Tryz.prog Tryz.f6 Rows.fnLnkLayoutRow.domain false) (Rows.fnLnkLayoutSpec.post enc Tryz.prog Tryz.f6 false true false false) := by
 refine returnsInHanded_of_change (C := Tryz.checked) own started (by kernel_rfl) Tryz.func6
  (ChangeSpec.witness6 (enc := enc) (C := Tryz.checked) false ⟨#[], #[.slice none 0 0], []⟩ 8 (by kernel_rfl) (by kernel_rfl) (by kernel_rfl) (by kernel_rfl)) ?_
 intro W base args ds gs before hval0 hW hcnd _
 have hval : ∀ (j : Nat) t v, Tryz.f6.params[j]? = some t → args[j]? = some v → Value.okWide Tryz.prog W .any base t v := hval0
 have hW' := hW
 obtain ⟨p, q, hA0, hV, rfl, hfz, hnd⟩ := hW
 have hA : DataW.TrodAll enc Tryz.prog W 0 (fun _ => true) true Tryz.f6.params.toList args.toList ds p := hA0
 rw [Tryz.params6] at hA hval
 clear hA0 hval0
 obtain ⟨v0, d0, rfl, rfl, h0⟩ := trodAll_one hA
 obtain ⟨rfl, rfl⟩ := trodVars_none hV
 have b0 := open_bytes Tryz.underlying22 Tryz.underlying5 cells_u8 (hval 0 22 v0 rfl rfl) h0
 refine (L_FnLnkLayout v0 W b0).mono fun e W' h => ?_
 obtain ⟨rfl, hb⟩ := h
 exact ⟨_, rfl, law_post (s := Rows.fnLnkLayoutSpec) hW' hb rfl rfl rfl Tryz.underlying4 (by rw [Tryz.params6]; kernel_rfl)⟩
theorem fnLnkLayout_holds : Rows.FnLnkLayoutSaid :=
 OpenClaim.holds_of_wide 6 Tryz.f6 rfl rfl rfl rfl rfl rfl rfl ⟨rfl, rfl, rfl, rfl, rfl⟩ rfl rfl rfl rfl rfl (by kernel_rfl) Tryz.func6 (by kernel_rfl)
  (of_decide_eq_true (by kernel_rfl)) (by unfold Func.isWrapper; first | (rw [if_pos (by decide +kernel)]; kernel_rfl) | (rw [if_neg (by decide +kernel)]; exact ⟨rfl, rfl⟩))
  (fun os started H enc _ => fnLnkLayout_lifted os started H enc)

end Go.Proofs.YtmbfpbgkchncgaaGreat
