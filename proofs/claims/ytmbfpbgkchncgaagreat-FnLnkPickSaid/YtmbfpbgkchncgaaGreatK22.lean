/-
  Texts of mine, packed: PickM. No condition beside those of the single theorems.
-/
import Derived.Test.YtmbfpbgkchncgaaGreatK18
import Derived.Test.YtmbfpbgkchncgaaGreatK20
import Derived.Test.YtmbfpbgkchncgaaGreatK10
set_option linter.unusedSimpArgs false
set_option linter.unusedVariables false
set_option maxHeartbeats 16000000
set_option maxRecDepth 100000
namespace Go.Proofs.YtmbfpbgkchncgaaGreat
open Go.RowKit
def pickT (x : DLodRef × Int × Bool) : Value := .tuple #[.agg #[.int .i64 x.1.fKeeper, .string x.1.fName, .int .i64 x.2.1], .bool x.2.2]
theorem whichL_stop {p : DLodPlan} {nm : ByteArray} {rs : List DLodRef} {k : Nat} {x : DLodRef} {c : DClsClass} (h : EachTo (nots (hasM p nm)) rs k = true) (hx : rs[k]? = some x) (hc : loOfP p x = c) (ha : 0 ≤ methodAt c.fMethods nm) : whichL p nm rs = (x, methodAt c.fMethods nm, true) := by
 subst hc
 refine whichL_hit (k := k) (fun j y hj hy => ?_) hx (by unfold hasM; simpa using ha)
 have := EachTo.mem h j y hj hy
 simpa [nots] using this
theorem whichL_end {p : DLodPlan} {nm : ByteArray} {rs : List DLodRef} {k : Nat} (h : EachTo (nots (hasM p nm)) rs k = true) (hk : rs.length = k) : whichL p nm rs = (noRef, 0, false) := by
 refine whichL_none fun x hx => ?_
 obtain ⟨j, hj⟩ := List.mem_iff_getElem?.1 hx
 have := EachTo.mem h j x (by rw [← hk]; exact (List.getElem?_eq_some_iff.1 hj).1) hj
 simpa [nots] using this
theorem hasM_not {p : DLodPlan} {nm : ByteArray} {x : DLodRef} {c : DClsClass} (hc : loOfP p x = c) (ha : ¬ 0 ≤ methodAt c.fMethods nm) (k : Nat) : nots (hasM p nm) k x = true := by
 subst hc
 unfold nots hasM
 simp; omega
theorem there_cls {p : DLodPlan} (hp : lodOk p = true) {x : DLodRef} (h : There p x) : ∃ c, clsAt p x = some c ∧ loOfP p x = c ∧ x.fName.size ≤ maxLen := by
 obtain ⟨c, hc⟩ := h.cls
 obtain ⟨_, _, _, _, hn⟩ := h
 exact ⟨c, hc, (loOf_some hc).1, hn⟩
def whF (g k n cap : Nat) (pv : Value) (x : DLodRef) (c : DClsClass) (nm : ByteArray) : Nat → Value → World → Prop
 | 0, v, w => v = .agg #[pv]
 | 1, v, w => v = .slice (some ⟨g, 0, none⟩) n cap
 | 2, v, w => v = .int .i64 (k : Int)
 | 3, v, w => v = .pointer (some ⟨g, k * 2, none⟩)
 | 4, v, w => v = .agg #[.int .i64 x.fKeeper, .string x.fName]
 | 5, v, w => ∃ (a1 : Option Addr) (l1 c1 : Nat) (a2 : Option Addr) (l2 c2 : Nat), v = .agg #[.string c.fName, .string c.fSuper, .slice a1 l1 c1, .slice a2 l2 c2] ∧ Sl 8 rClsMethod 0 w (.slice a2 l2 c2) c.fMethods
 | 6, v, w => ∃ (a2 : Option Addr) (l2 c2 : Nat), v = .slice a2 l2 c2 ∧ Sl 8 rClsMethod 0 w (.slice a2 l2 c2) c.fMethods
 | 7, v, w => v = .string nm
 | 8, v, w => v = .int .i64 (methodAt c.fMethods nm)
 | _, _, _ => True
theorem whF_stays {g k n cap : Nat} {pv : Value} {x : DLodRef} {c : DClsClass} {nm : ByteArray} : ∀ i j u w w', i ≠ j → Below w.heap.size w w' → whF g k n cap pv x c nm i u w → whF g k n cap pv x c nm i u w' := by
 intro i j u w w' hne hg h
 match i with
 | 0 | 1 | 2 | 3 | 4 | 7 | 8 => exact h
 | 5 =>
   obtain ⟨a1, l1, c1, a2, l2, c2, h1, h2⟩ := h
   exact ⟨a1, l1, c1, a2, l2, c2, h1, h2.stays qap (Keeps.of_below hg)⟩
 | 6 =>
   obtain ⟨a2, l2, c2, h1, h2⟩ := h
   exact ⟨a2, l2, c2, h1, h2.stays qap (Keeps.of_below hg)⟩
 | n + 9 => trivial
theorem S_l4Which (p : DLodPlan) (pv : Value) (g n cap : Nat) (rs : List DLodRef) (nm : ByteArray) (w : World) (base : Nat) (sp : Sl 2 rLodKeeper 0 w pv p.fKeepers) (hp : lodOk p = true) (hr : Refs w base (.slice (some ⟨g, 0, none⟩) n cap) rs) (hn : rs.length = n) (hm : cap ≤ maxLen ∧ n ≤ cap) (hg : g < w.heap.size) (ht : ∀ x ∈ rs, There p x) :
  Calls Tryz.prog 54 #[.agg #[pv], .slice (some ⟨g, 0, none⟩) n cap, .string nm] w fun e w' => e = .returned (pickT (whichL p nm rs)) ∧ Below w.heap.size w w' := by
 obtain ⟨pa, pl, pc, rfl⟩ := sp.form
 obtain ⟨hm1, hm2⟩ := hm
 have m1 : n ≤ 9223372036854775807 := by unfold maxLen at hm1; omega
 have HSP := qhd sp
 have HP := qhd hp
 have HRF := qhd hr
 have HN := qhd hn
 have HT := qhd ht
 obtain ⟨z, hz⟩ : ∃ z, z = whichL p nm rs := ⟨_, rfl⟩
 have HZ := qhd hz
 rw [← hz]
 clear sp hp hr hn ht hz
 refine qac fun R HR => ?_
 go_enter Tryz.func54, Tryz.ntmps54
 go_wp2_with fail
 obtain ⟨w0, hw0⟩ : ∃ W, W = (w.alloc (.cells #[.slice pa pl pc] 25)).alloc (.cells #[.int .i64 0, .string ⟨#[]⟩, .int .i64 0] 68) := ⟨_, rfl⟩
 have hB0 : Below w.heap.size w w0 := by rw [hw0]; exact bbel
 have hz0 : w0.heap.size = w.heap.size + 1 + 1 := by rw [hw0]; simp
 have d0 : w0.cell? ⟨w.heap.size, 0, none⟩ = some (.slice pa pl pc) := by rw [hw0]; go_simp
 have d1 : w0.cell? ⟨w.heap.size + 1, 0, none⟩ = some (.int .i64 0) := by rw [hw0]; go_simp
 have d2 : w0.cell? ⟨w.heap.size + 1, 1, none⟩ = some (.string ⟨#[]⟩) := by rw [hw0]; go_simp
 have d3 : w0.cell? ⟨w.heap.size + 1, 2, none⟩ = some (.int .i64 0) := by rw [hw0]; go_simp
 have f1 : w0.frozen? ⟨w.heap.size + 1, 0, none⟩ = false := by rw [hw0]; go_simp
 have f2 : w0.frozen? ⟨w.heap.size + 1, 1, none⟩ = false := by rw [hw0]; go_simp
 have f3 : w0.frozen? ⟨w.heap.size + 1, 2, none⟩ = false := by rw [hw0]; go_simp
 rw [← hw0]
 have HD : Hid (∀ W, Below w0.heap.size w0 W → (W.cell? ⟨w.heap.size, 0, none⟩ = some (.slice pa pl pc) ∧ W.cell? ⟨w.heap.size + 1, 0, none⟩ = some (.int .i64 0) ∧ W.cell? ⟨w.heap.size + 1, 1, none⟩ = some (.string ⟨#[]⟩) ∧ W.cell? ⟨w.heap.size + 1, 2, none⟩ = some (.int .i64 0)) ∧ W.frozen? ⟨w.heap.size + 1, 0, none⟩ = false ∧ W.frozen? ⟨w.heap.size + 1, 1, none⟩ = false ∧ W.frozen? ⟨w.heap.size + 1, 2, none⟩ = false) := qhd fun W hW => ⟨⟨qaa hW d0, qaa hW d1, qaa hW d2, qaa hW d3⟩, qaq hW d1 f1, qaq hW d2 f2, qaq hW d3 f3⟩
 clear hw0 d0 d1 d2 d3 f1 f2 f3
 go_loopw [8] (fun zi wr => ∃ k : Nat, k ≤ n ∧ zi = .int .i64 k ∧ EachTo (nots (hasM p nm)) rs k = true ∧ Below w0.heap.size w0 wr) (fun zi _ => n - (intOf zi).toNat)
 case atStart => exact ⟨0, Nat.zero_le _, rfl, rfl, Below.refl _ _⟩
 case round =>
  obtain ⟨k, hk, rfl, ha, hb⟩ := hrel
  have HA := qhd ha
  have hbs := hb.size
  have hBr : Below w.heap.size w wr := hB0.trans (hb.mono hB0.size)
  obtain ⟨⟨c0, e1, e2, e3⟩, g1, g2, g3⟩ := HD.out wr hb
  have hl1 : w.heap.size + 1 < wr.heap.size := by omega
  have hl0 : w.heap.size < wr.heap.size := by omega
  clear ha
  by_cases hlt : k < n
  ·have hlt2 : (k : Int) < (n : Int) := by omega
   obtain ⟨x, hx⟩ : ∃ x, rs[k]? = some x := ⟨_, List.getElem?_eq_getElem (by rw [HN.out]; exact hlt)⟩
   obtain ⟨p1, p2⟩ := HRF.out.cell2 hx
   have q1 := qaa hBr p1
   have q2 := qaa hBr p2
   have hgr : g < wr.heap.size := Nat.lt_of_lt_of_le hg hBr.size
   obtain ⟨c, hc, hlc, hxn⟩ := there_cls HP.out (HT.out x (List.mem_of_getElem? hx))
   have HC := qhd hc
   have HLC := qhd hlc
   have HX := qhd hx
   have SPP : Hid (Sl 2 rLodKeeper 0 wr (.slice pa pl pc) p.fKeepers) := qhd (HSP.out.stays rLodKeeper_good (Keeps.of_below hBr))
   clear hx p1 p2 hc hlc
   go_wp2_with fail
   refine qau 9 (Below wr.heap.size wr) (fun _ w1 w2 => Below w1.heap.size w1 w2) (fun _ => whF g k n cap (.slice pa pl pc) x c nm) (fun _ _ => True) noDead (by kernel_rfl) (by decide) (by kernel_rfl) (Or.inr ⟨by kernel_rfl, by kernel_rfl⟩) (by kernel_rfl) ((Below.refl _ _).drew) (fun _ _ _ _ _ _ _ _ _ h => h) noDead_dead (fun _ => trivial) (fun _ _ _ _ _ _ _ _ => trivial) (fun _ i j u w1 w2 hne _ _ hg hF => whF_stays i j u w1 w2 hne hg hF) (fun _ _ _ => Below.refl _ _) ?_
   refine qab (d := 16) rfl rfl (fun wx hC hI hd S0 hS => ?_) (fun v0 => ?_)
   ·have c0' := qaa hC c0
    have HSS := qhd hS; clear hS hd hI
    go_simp
    exact HSS.out _ _ hC (Below.refl _ _) (by simp [whF])
   simp only [qnr]
   refine qab (d := 17) rfl rfl (fun wx hC hI hd S0 hS => ?_) (fun v1 => ?_)
   ·have HSS := qhd hS; clear hS hd hI
    go_simp
    exact HSS.out _ _ hC (Below.refl _ _) (by simp [whF])
   simp only [qnr]
   refine qab (d := 18) rfl rfl (fun wx hC hI hd S0 hS => ?_) (fun v2 => ?_)
   ·have HSS := qhd hS; clear hS hd hI
    go_simp
    exact HSS.out _ _ hC (Below.refl _ _) (by simp [whF])
   simp only [qnr]
   refine qab (d := 19) rfl rfl (fun wx hC hI hd S0 hS => ?_) (fun v3 => ?_)
   ·have d1 := hd ⟨1, .data⟩ (by simp) rfl v1 (by simp)
    simp only [whF] at d1
    subst d1
    have d2 := hd ⟨2, .data⟩ (by simp) rfl v2 (by simp)
    simp only [whF] at d2
    subst d2
    have HSS := qhd hS; clear hS hd hI
    go_simp
    exact HSS.out _ _ hC (Below.refl _ _) (by simp [whF])
   simp only [qnr]
   refine qab (d := 20) rfl rfl (fun wx hC hI hd S0 hS => ?_) (fun v4 => ?_)
   ·have d3 := hd ⟨3, .data⟩ (by simp) rfl v3 (by simp)
    simp only [whF] at d3
    subst d3
    have c1' := qaa hC q1
    have c2' := qaa hC q2
    have HSS := qhd hS; clear hS hd hI
    go_simp
    exact HSS.out _ _ hC (Below.refl _ _) (by simp [whF])
   simp only [qnr]
   refine qab (d := 21) rfl rfl (fun wx hC hI hd S0 hS => ?_) (fun v5 => ?_)
   ·have d0 := hd ⟨0, .data⟩ (by simp) rfl v0 (by simp)
    simp only [whF] at d0
    subst d0
    have d4 := hd ⟨4, .data⟩ (by simp) rfl v4 (by simp)
    simp only [whF] at d4
    subst d4
    have HSS := qhd hS; clear hS hd hI
    go_simp
    refine (S_l3ClassO p _ x c wr wx hC SPP.out HC.out hxn).mono ?_
    rintro _ w' ⟨⟨_, rfl, a1, l1, c1, a2, l2, c2, rfl, _, s2, _, _⟩, hX⟩
    refine HSS.out _ _ (hC.trans (hX.mono hC.size)) (hX) ?_
    (simp only [qls, Nat.reduceAdd, whF])
    exact ⟨a1, l1, c1, a2, l2, c2, rfl, s2.stays qap (Keeps.of_below (hC.trans (hX.mono hC.size)))⟩
   simp only [qnr]
   refine qab (d := 22) rfl rfl (fun wx hC hI hd S0 hS => ?_) (fun v6 => ?_)
   ·have d5 := hd ⟨5, .data⟩ (by simp) rfl v5 (by simp)
    simp only [whF] at d5
    obtain ⟨a1, l1, c1, a2, l2, c2, d5, s5⟩ := d5
    subst d5
    have HSS := qhd hS; clear hS hd hI
    have hfld : ∀ W, (Instr.field 29 (.agg #[.string c.fName, .string c.fSuper, .slice a1 l1 c1, .slice a2 l2 c2]) 3).run Tryz.prog W = .ok (.slice a2 l2 c2) W := fun _ => by kernel_rfl
    go_simp
    (try simp only [hfld, Result.andThen])
    refine HSS.out _ _ (hC) (Below.refl _ _) ?_
    (simp only [qls, Nat.reduceAdd, whF])
    exact ⟨a2, l2, c2, rfl, s5⟩
   simp only [qnr]
   refine qab (d := 23) rfl rfl (fun wx hC hI hd S0 hS => ?_) (fun v7 => ?_)
   ·have HSS := qhd hS; clear hS hd hI
    go_simp
    exact HSS.out _ _ hC (Below.refl _ _) (by simp [whF])
   simp only [qnr]
   refine qab (d := 24) rfl rfl (fun wx hC hI hd S0 hS => ?_) (fun v8 => ?_)
   ·have d6 := hd ⟨6, .data⟩ (by simp) rfl v6 (by simp)
    simp only [whF] at d6
    obtain ⟨a2, l2, c2, d6, s6⟩ := d6
    have d7 := hd ⟨7, .data⟩ (by simp) rfl v7 (by simp)
    simp only [whF] at d7
    subst d7
    subst d6
    have HSS := qhd hS; clear hS hd hI
    go_simp
    refine (S_l2Method c.fMethods _ nm wx s6).mono ?_
    rintro _ w' ⟨rfl, rfl⟩
    exact HSS.out _ _ hC (Below.refl _ _) (by (simp only [qls, Nat.reduceAdd, whF]))
   simp only [qnr]
   intro wE hC hF
   have f8 := hF 8 v8 (by simp) (fun _ _ => rfl)
   simp only [whF] at f8
   subst f8
   have hE : Below w0.heap.size w0 wE := hb.trans (hC.mono hbs)
   have hsE := hE.size
   have q1E := qaa hC q1
   have q2E := qaa hC q2
   have hgE : g < wE.heap.size := Nat.lt_of_lt_of_le hgr hC.size
   clear hF hC c0 e1 e2 e3 g1 g2 g3 q1 q2
   obtain ⟨⟨c0, e1, e2, e3⟩, g1, g2, g3⟩ := HD.out wE hE
   have hl1' : w.heap.size + 1 < wE.heap.size := by omega
   have hl0' : w.heap.size < wE.heap.size := by omega
   have hgne : g ≠ w.heap.size + 1 := by omega
   obtain ⟨q, hq⟩ : ∃ q, q = methodAt c.fMethods nm := ⟨_, rfl⟩
   rw [← hq]
   have HQ := qhd hq
   have hBE : Below w.heap.size w wE := hB0.trans (hE.mono hB0.size)
   clear hq
   simp only [List.drop_succ_cons, List.drop_zero]
   by_cases hq0 : 0 ≤ q
   ·have RV : Hid (z = (x, q, true)) := qhd (by rw [HZ.out, HQ.out]; exact whichL_stop HA.out HX.out HLC.out (by rw [← HQ.out]; exact hq0))
    clear hBr hb hB0 hE
    go_wp2
    all_goals
     refine bodyPost_ret (v := ?_) ?hrun rfl ?_
     case hrun => (simp only [results, Tryz.results54]; go_simp; first | done | exact rfl)
     exact HR.out _ _ ⟨by rw [RV.out]; rfl, bbel⟩
   ·have hEE := hE
    clear hBr hb hBE hE
    go_wp2
    go_roundw
    case measure => simp [intOf]; omega
    case rel => exact ⟨k + 1, by omega, by go_num, EachTo.step HA.out HX.out (hasM_not HLC.out (by rw [← HQ.out]; exact hq0) k), hEE⟩
  ·obtain rfl : k = n := by omega
   have RV : Hid (z = (noRef, 0, false)) := qhd (by rw [HZ.out]; exact whichL_end HA.out HN.out)
   clear hb hB0
   go_wp2
   all_goals
    refine bodyPost_ret (v := ?_) ?hrun rfl ?_
    case hrun => (simp only [results, Tryz.results54]; go_simp; first | done | exact rfl)
    exact HR.out _ _ ⟨by rw [RV.out]; rfl, bbel⟩

theorem S_LnkPick (x : DLodPlan) (v1 : Value) (r : DLodRef) (nm : ByteArray) (w : World) (s1 : Sl 2 rLodKeeper 0 w v1 x.fKeepers) (hn : r.fName.size ≤ maxLen) (hm : nm.size ≤ maxLen) :
  Calls Tryz.prog 26 #[.agg #[v1], .agg #[.int .i64 r.fKeeper, .string r.fName], .string nm] w fun e w' => e = .returned (pickT (lnkPick x r nm)) ∧ Below w.heap.size w w' := by
 obtain ⟨pa, pl, pc, rfl⟩ := s1.form
 have HS := qhd s1
 obtain ⟨z, hz⟩ : ∃ z, z = lnkLaid x r := ⟨_, rfl⟩
 obtain ⟨y, hy⟩ : ∃ y, y = namOk nm := ⟨_, rfl⟩
 obtain ⟨u, hu⟩ : ∃ u, u = lnkPick x r nm := ⟨_, rfl⟩
 have HU := qhd hu
 have CL : Hid (∀ W, Below w.heap.size w W → Calls Tryz.prog 18 #[.agg #[.slice pa pl pc], .agg #[.int .i64 r.fKeeper, .string r.fName]] W fun e w' => e = .returned (.bool z) ∧ Below W.heap.size W w') := qhd fun W hW => by
  rw [hz]; exact S_LnkLaid x _ r W (HS.out.stays rLodKeeper_good (Keeps.of_below hW)) hn
 have CN : Hid (∀ W, Calls Tryz.prog 27 #[.string nm] W fun e w' => e = .returned (.bool y) ∧ W = w') := qhd fun W => by rw [hy]; exact S_NamOk nm W hm
 have HZ := qhd hz
 have HY := qhd hy
 rw [← hu]
 clear s1 hz hy hu
 refine qac fun R HR => ?_
 go_enter Tryz.func26, Tryz.ntmps26
 go_wp2_with fail
 refine (CL.out _ (bbel)).mono ?_
 rintro _ wA ⟨rfl, hA⟩
 have hEA : Below w.heap.size w wA := bbel
 have hAs := (hA).size; (try simp only [qsz] at hAs)
 obtain ⟨hAad, hAao, hAag, hAap, hAax, hAay, hAac1, hAaf1, hAaz1, hAac2, hAaf2, hAaz2⟩ := bf3 (n := w.heap.size) hA
 cases z
 ·have RV : Hid (u = (noRef, 0, false)) := qhd (by rw [HU.out]; unfold lnkPick; rw [← HZ.out]; rfl)
  go_wp2
  all_goals
   refine bodyPost_ret (v := ?_) ?hrun rfl ?_
   case hrun => (simp only [results, Tryz.results26]; go_simp; first | done | exact rfl)
   exact HR.out _ _ ⟨by rw [RV.out]; rfl, bbel⟩
 go_wp2_with fail
 refine (CN.out _).mono ?_
 rintro _ _ ⟨rfl, rfl⟩
 cases y
 ·have RV : Hid (u = (noRef, 0, false)) := qhd (by rw [HU.out]; unfold lnkPick; rw [← HZ.out, ← HY.out]; rfl)
  go_wp2
  all_goals
   refine bodyPost_ret (v := ?_) ?hrun rfl ?_
   case hrun => (simp only [results, Tryz.results26]; go_simp; first | done | exact rfl)
   exact HR.out _ _ ⟨by rw [RV.out]; rfl, bbel⟩
 obtain ⟨hne, _⟩ := lnkLaid_parts HZ.out.symm
 obtain ⟨hp, hth, hcr⟩ := lodChain_some hn hne
 have HP := qhd hp
 have HAL := qhd (chainF_there hp 6 _ _ hth hcr)
 have HTH := qhd hth
 have HCR := qhd hcr
 have HNE := qhd hne
 have RV : Hid (u = whichL x nm (lodChain x r)) := qhd (by rw [HU.out]; exact lnkPick_any hn nm HZ.out.symm)
 clear hp hth hcr hne
 have l0 : w.heap.size < wA.heap.size := by omega
 have l1 : w.heap.size + 1 < wA.heap.size := by omega
 have l2 : w.heap.size + 1 + 1 < wA.heap.size := by omega
 go_wp2_with fail
 refine (S_l3Chain x _ r wA (HS.out.stays rLodKeeper_good (Keeps.of_below hEA)) HP.out HTH.out).mono ?_
 rintro _ wC ⟨hC, v, rfl, hrefs⟩
 have HRF := qhd (hrefs _ HCR.out)
 obtain ⟨g, cap, rfl, _, hc1, hc2, hgl⟩ := HRF.out.form (by
  have := HNE.out
  cases e : lodChain x r with
  | nil => exact absurd e this
  | cons _ _ => simp)
 have hEC : Below w.heap.size w wC := hEA.trans (hC.mono hEA.size)
 have hsC := hC.size
 obtain ⟨hCbd, hCbo, hCbg, hCbp, hCbx, hCby, hCbc1, hCbf1, hCbz1, hCbc2, hCbf2, hCbz2⟩ := bf3 (n := w.heap.size) hC
 obtain ⟨q, hq⟩ : ∃ q, q = whichL x nm (lodChain x r) := ⟨_, rfl⟩
 obtain ⟨n, hnn⟩ : ∃ n, n = (lodChain x r).length := ⟨_, rfl⟩
 have CW : Hid (∀ W, Below wC.heap.size wC W → Calls Tryz.prog 54 #[.agg #[.slice pa pl pc], .slice (some ⟨g, 0, none⟩) n cap, .string nm] W fun e w' => e = .returned (pickT q) ∧ Below W.heap.size W w') := qhd fun W hW => by
  rw [hq, hnn]
  exact S_l4Which x _ g _ cap _ nm W _ (HS.out.stays rLodKeeper_good (Keeps.of_below (hEC.trans (hW.mono hEC.size)))) HP.out (HRF.out.below hW) rfl ⟨hc2, hc1⟩ (Nat.lt_of_lt_of_le hgl hW.size) HAL.out
 rw [← hnn]
 rw [← hq] at RV
 clear hq hnn hrefs
 obtain ⟨⟨qk, qn⟩, qa, qb⟩ := q
 unfold pickT at CW
 dsimp only at CW
 have hEA' := hEA
 clear hEA
 go_wp2_with fail
 refine (CW.out _ (by first | exact Below.refl _ _ | (clear hEC; exact bbel))).mono ?_
 rintro _ wW ⟨rfl, hW⟩
 have hEW : Below w.heap.size w wW := hEC.trans (hW.mono hEC.size)
 have hsW := hW.size
 obtain ⟨hWdd, hWdo, hWdg, hWdp, hWdx, hWdy, hWdc1, hWdf1, hWdz1, hWdc2, hWdf2, hWdz2⟩ := bf3 (n := w.heap.size) hW
 clear hEA' hEC hW hC hA
 go_wp2
 all_goals
  refine bodyPost_ret (v := ?_) ?hrun rfl ?_
  case hrun => (simp only [results, Tryz.results26]; go_simp; first | done | exact rfl)
  exact HR.out _ _ ⟨by rw [RV.out]; rfl, bbel⟩

theorem I_pick (p : DLodPlan) (L : Nat) (r : DLodRef) (nm : ByteArray) (w0 w : World) (hl : LodgeF w0 w L p) (hp : lodOk p = true) (hn : r.fName.size ≤ maxLen) (hk : (Lit.int .i64 r.fKeeper).wf = true) :
  Calls Tryz.prog 52 #[.pointer (some ⟨L, 0, none⟩), .agg #[.int .i64 r.fKeeper, .string r.fName], .string nm] w fun e w' => e = .returned (pickT (lnkPick p r nm)) ∧ Below w0.heap.size w0 w' := by
 have HL := qhd hl
 have HP := qhd hp
 have HW : Hid (Below w0.heap.size w0 w) := qhd (by obtain ⟨_, _, _, _, _, _, _, _, _, _, _, _, _, _, _, _, hw, _⟩ := hl; exact hw)
 obtain ⟨z, hz⟩ : ∃ z, z = lnkLaid p r := ⟨_, rfl⟩
 obtain ⟨u, hu⟩ : ∃ u, u = lnkPick p r nm := ⟨_, rfl⟩
 have HU := qhd hu
 have CL : Hid (∀ W, Below w.heap.size w W → Calls Tryz.prog 44 #[.pointer (some ⟨L, 0, none⟩), .agg #[.int .i64 r.fKeeper, .string r.fName]] W fun e w' => e = .returned (.bool z) ∧ Below w0.heap.size w0 w' ∧ Lodge w' L p ∧ FrameL L W w') := qhd fun W hW => by
  rw [hz]; exact I_canLay p L r w0 W (HL.out.below hW) HP.out hn hk
 have HZ := qhd hz
 rw [← hu]
 clear hl hp hz hu hk
 obtain ⟨bl, hbl, hblw⟩ : ∃ bl, w.cell? ⟨L, 3, none⟩ = some (.map (some bl)) ∧ bl < w.heap.size := by
  obtain ⟨_, _, _, _, _, bl, _, _, _, _, c3, _, _, _, m3, _⟩ := HL.out
  exact ⟨bl, c3, m3.lt⟩
 have HBL := qhd hbl
 clear hbl
 refine qac fun R HR => ?_
 go_enter Tryz.func52, Tryz.ntmps52
 go_wp2_with fail
 obtain ⟨wB, hwB⟩ : ∃ W, W = (w.alloc (.cells #[.int .i64 r.fKeeper, .string r.fName] 42)).alloc (.cells #[.int .i64 0, .string ⟨#[]⟩, .int .i64 0] 68) := ⟨_, rfl⟩
 have hB0 : Below w.heap.size w wB := by rw [hwB]; exact bbel
 have hz0 : wB.heap.size = w.heap.size + 1 + 1 := by rw [hwB]; simp
 have b0 : wB.cell? ⟨w.heap.size, 0, none⟩ = some (.int .i64 r.fKeeper) := by rw [hwB]; go_simp
 have b1 : wB.cell? ⟨w.heap.size, 1, none⟩ = some (.string r.fName) := by rw [hwB]; go_simp
 have d1 : wB.cell? ⟨w.heap.size + 1, 0, none⟩ = some (.int .i64 0) := by rw [hwB]; go_simp
 have d2 : wB.cell? ⟨w.heap.size + 1, 1, none⟩ = some (.string ⟨#[]⟩) := by rw [hwB]; go_simp
 have d3 : wB.cell? ⟨w.heap.size + 1, 2, none⟩ = some (.int .i64 0) := by rw [hwB]; go_simp
 have f1 : wB.frozen? ⟨w.heap.size + 1, 0, none⟩ = false := by rw [hwB]; go_simp
 have f2 : wB.frozen? ⟨w.heap.size + 1, 1, none⟩ = false := by rw [hwB]; go_simp
 have f3 : wB.frozen? ⟨w.heap.size + 1, 2, none⟩ = false := by rw [hwB]; go_simp
 rw [← hwB]
 clear hwB
 refine (CL.out _ hB0).mono ?_
 rintro _ wA ⟨rfl, hA, hLA, hFr⟩
 have hk1 : wA.heap[w.heap.size]? = wB.heap[w.heap.size]? := hFr.2 bl (qaa hB0 HBL.out) _ (by omega) (by omega)
 have hk2 : wA.heap[w.heap.size + 1]? = wB.heap[w.heap.size + 1]? := hFr.2 bl (qaa hB0 HBL.out) _ (by omega) (by omega)
 have hsA : w.heap.size + 1 < wA.heap.size := by have := hFr.1; omega
 have hsA0 : w.heap.size < wA.heap.size := by omega
 have a0 := (qae (o := 0) hk1).trans b0
 have a1 := (qae (o := 1) hk1).trans b1
 have e1 := (qae (o := 0) hk2).trans d1
 have e2 := (qae (o := 1) hk2).trans d2
 have e3 := (qae (o := 2) hk2).trans d3
 have g1 := (qai (o := 0) hk2).trans f1
 have g2 := (qai (o := 1) hk2).trans f2
 have g3 := (qai (o := 2) hk2).trans f3
 have HEA := qhd hA
 have HLA := qhd hLA
 have hw0 : w0.heap.size ≤ w.heap.size := HW.out.size
 have hwA0 : w0.heap.size ≤ wA.heap.size := by omega
 clear hFr hk1 hk2 b0 b1 d1 d2 d3 f1 f2 f3 hB0 hz0 hA hLA
 have OUTB : Unit → Below w0.heap.size w0 wA := fun _ => HEA.out
 cases z
 ·have RV : Hid (u = (noRef, 0, false)) := qhd (by rw [HU.out]; unfold lnkPick; rw [← HZ.out]; rfl)
  go_wp2
  all_goals
   refine bodyPost_ret (v := ?_) ?hrun rfl ?_
   case hrun => (simp only [results, Tryz.results52]; go_simp; first | done | exact rfl)
   exact HR.out _ _ ⟨by rw [RV.out]; rfl, by have := OUTB (); exact bbel⟩
 have RV : Hid (u = whichL p nm (lodChain p r)) := qhd (by rw [HU.out]; exact lnkPick_any hn nm HZ.out.symm)
 obtain ⟨hne, _⟩ := lnkLaid_parts HZ.out.symm
 obtain ⟨_, hth, hcr⟩ := lodChain_some hn hne
 have HAL := qhd (chainF_there HP.out 6 _ _ hth hcr)
 have HNE := qhd hne
 clear hth hcr hne
 go_wp2_with fail
 refine (I_chain p L r wA HLA.out HP.out hn).mono ?_
 rintro _ wC ⟨⟨v, rfl, hR⟩, hC⟩
 have hsC := hC.size
 have HRF := qhd hR
 obtain ⟨g, cap, rfl, _, hc1, hc2, hgl⟩ := hR.form (by
  have := HNE.out
  cases e : lodChain p r with
  | nil => exact absurd e this
  | cons _ _ => simp)
 obtain ⟨n, hnn⟩ : ∃ n, n = (lodChain p r).length := ⟨_, rfl⟩
 have HN := qhd hnn
 rw [← hnn] at hc1 ⊢
 rw [← hnn] at HRF
 have hn9 : n ≤ 9223372036854775807 := by unfold maxLen at hc2; omega
 obtain ⟨rs, hrs⟩ : ∃ rs, rs = lodChain p r := ⟨_, rfl⟩
 have HRS := qhd hrs
 rw [← hrs] at HRF RV HAL
 have HLN : Hid (rs.length = n) := qhd (by rw [hrs]; exact hnn.symm)
 have HLC := qhd (HLA.out.below hC)
 have HD : Hid (∀ W, Below wC.heap.size wC W → (W.cell? ⟨w.heap.size + 1, 0, none⟩ = some (.int .i64 0) ∧ W.cell? ⟨w.heap.size + 1, 1, none⟩ = some (.string ⟨#[]⟩) ∧ W.cell? ⟨w.heap.size + 1, 2, none⟩ = some (.int .i64 0)) ∧ W.frozen? ⟨w.heap.size + 1, 0, none⟩ = false ∧ W.frozen? ⟨w.heap.size + 1, 1, none⟩ = false ∧ W.frozen? ⟨w.heap.size + 1, 2, none⟩ = false) := qhd fun W hW => by
  have h := hC.trans (hW.mono hsC)
  exact ⟨⟨qaa h e1, qaa h e2, qaa h e3⟩, qaq h e1 g1, qaq h e2 g2, qaq h e3 g3⟩
 have OUTC : Hid (∀ W, Below wC.heap.size wC W → Unit → Below w0.heap.size w0 W) := qhd fun W hW _ => HEA.out.trans ((hC.trans (hW.mono hsC)).mono hwA0)
 have hsC2 : w.heap.size + 1 < wC.heap.size := by omega
 clear a0 a1 e1 e2 e3 g1 g2 g3 hR hnn hrs hC OUTB hsA hsA0 hsC
 go_wp2_with fail
 go_loopw [20] (fun zi wr => ∃ k : Nat, k ≤ n ∧ zi = .int .i64 k ∧ EachTo (nots (hasM p nm)) rs k = true ∧ Below wC.heap.size wC wr) (fun zi _ => n - (intOf zi).toNat)
 case atStart => exact ⟨0, Nat.zero_le _, rfl, rfl, Below.refl _ _⟩
 case round =>
  obtain ⟨k, hk, rfl, ha, hb⟩ := hrel
  have HA := qhd ha
  have hbs := hb.size
  clear ha
  have hl1 : w.heap.size + 1 < wr.heap.size := by omega
  have hl0 : w.heap.size < wr.heap.size := by omega
  by_cases hlt : k < n
  ·have hlt2 : (k : Int) < (n : Int) := by omega
   obtain ⟨x, hx⟩ : ∃ x, rs[k]? = some x := ⟨_, List.getElem?_eq_getElem (by rw [HLN.out]; exact hlt)⟩
   obtain ⟨p1, p2⟩ := HRF.out.cell2 hx
   have q1 := qaa hb p1
   have q2 := qaa hb p2
   have hgr : g < wr.heap.size := Nat.lt_of_lt_of_le hgl hbs
   obtain ⟨c, hc, hlc, hxn⟩ := there_cls HP.out (HAL.out x (List.mem_of_getElem? hx))
   have HC := qhd hc
   have HLCC := qhd hlc
   have HX := qhd hx
   have HBR : Hid (Below wC.heap.size wC wr) := qhd hb
   clear hx p1 p2 hc hlc
   go_wp2_with fail
   refine (I_class p L x c _ (HLC.out.below (hb.alloc hbs _)) HC.out hxn HP.out).mono ?_
   rintro _ wE ⟨⟨_, rfl, a1, l1, c1, a2, l2, c2, rfl, s1, s2, _, _⟩, hE⟩
   have hEs := (hE).size; (try simp only [qsz] at hEs)
   obtain ⟨hEed, hEeo, hEeg, hEep, hEex, hEey⟩ := bf1 (n := wr.heap.size) hE
   have t0 : wE.cell? ⟨wr.heap.size, 0, none⟩ = some (.int .i64 x.fKeeper) := by go_simp
   have t1 : wE.cell? ⟨wr.heap.size, 1, none⟩ = some (.string x.fName) := by go_simp
   clear hEed hEeg hEeo hEep hEex hEey
   have hBE : Below wC.heap.size wC wE := (hb.alloc hbs _).trans (hE.mono (by simp; omega))
   have HS1 := qhd (s1.stays qar (Keeps.of_below hE))
   have HS2 := qhd (s2.stays qap (Keeps.of_below hE))
   clear hb hE s1 s2 q1 q2
   go_wp2_with fail
   refine (I_methodAt c _ _ nm wE HS1.out HS2.out).mono ?_
   rintro _ wF ⟨rfl, hF⟩
   have hsF := hF.size
   have t0' := qaa hF t0
   have t1' := qaa hF t1
   clear t0 t1
   have hBF : Below wC.heap.size wC wF := hBE.trans (hF.mono hBE.size)
   have hrE : wr.heap.size < wF.heap.size := by omega
   obtain ⟨⟨e1, e2, e3⟩, g1, g2, g3⟩ := HD.out wF hBF
   have hl3 : w.heap.size + 1 < wF.heap.size := by omega
   obtain ⟨q, hq⟩ : ∃ q, q = methodAt c.fMethods nm := ⟨_, rfl⟩
   rw [← hq]
   have HQ := qhd hq
   clear hq hF hBE
   by_cases hq0 : 0 ≤ q
   ·have RV2 : Hid (u = (x, q, true)) := qhd (by rw [RV.out, HQ.out]; exact whichL_stop HA.out HX.out HLCC.out (by rw [← HQ.out]; exact hq0))
    have OUTF := OUTC.out wF hBF
    clear hBF
    go_wp2
    all_goals
     refine bodyPost_ret (v := ?_) ?hrun rfl ?_
     case hrun => (simp only [results, Tryz.results52]; go_simp; first | done | exact rfl)
     exact HR.out _ _ ⟨by rw [RV2.out]; rfl, by have := OUTF (); exact bbel⟩
   ·go_wp2
    go_roundw
    case measure => simp [intOf]; omega
    case rel => exact ⟨k + 1, by omega, by go_num, EachTo.step HA.out HX.out (hasM_not HLCC.out (by rw [← HQ.out]; omega) k), hBF⟩
  ·obtain rfl : n = k := by omega
   have RV2 : Hid (u = (noRef, 0, false)) := qhd (by rw [RV.out]; exact whichL_end HA.out HLN.out)
   obtain ⟨⟨e1, e2, e3⟩, g1, g2, g3⟩ := HD.out wr hb
   have OUTF := OUTC.out wr hb
   clear hb
   go_wp2
   all_goals
    refine bodyPost_ret (v := ?_) ?hrun rfl ?_
    case hrun => (simp only [results, Tryz.results52]; go_simp; first | done | exact rfl)
    exact HR.out _ _ ⟨by rw [RV2.out]; rfl, by have := OUTF (); exact bbel⟩

theorem I_LnkPick (x : DLodPlan) (v1 : Value) (r : DLodRef) (nm : ByteArray) (w : World) (s1 : Sl 2 rLodKeeper 0 w v1 x.fKeepers) (hn : r.fName.size ≤ maxLen) (hk : (Lit.int .i64 r.fKeeper).wf = true) :
  Calls Tryz.prog 25 #[.agg #[v1], .agg #[.int .i64 r.fKeeper, .string r.fName], .string nm] w fun e w' => e = .returned (pickT (lnkPick x r nm)) ∧ Below w.heap.size w w' := by
 obtain ⟨pa, pl, pc, rfl⟩ := s1.form
 have HS := qhd s1
 obtain ⟨u, hu⟩ : ∃ u, u = lnkPick x r nm := ⟨_, rfl⟩
 have HU := qhd hu
 rw [← hu]
 have HK := qhd hk
 clear s1 hu hk
 refine qac fun R HR => ?_
 go_enter Tryz.func25, Tryz.ntmps25
 go_wp2_with fail
 have hEw : Below w.heap.size w (((w.alloc (.cells #[.slice pa pl pc] 25)).alloc (.cells #[.int .i64 r.fKeeper, .string r.fName] 42)).alloc (.cells #[.int .i64 0, .string ⟨#[]⟩, .int .i64 0] 68)) := bbel
 refine (I_newLodgeF x _ _ (HS.out.stays rLodKeeper_good (Keeps.of_below hEw))).mono ?_
 rintro _ wA ⟨hA, hq⟩
 have hEA : Below w.heap.size w wA := bbel
 have hAs := (hA).size; (try simp only [qsz] at hAs)
 obtain ⟨hAad, hAao, hAag, hAap, hAax, hAay, hAac1, hAaf1, hAaz1, hAac2, hAaf2, hAaz2⟩ := bf3 (n := w.heap.size) hA
 rcases hq with ⟨hp, rfl⟩ | ⟨hp, L, rfl, hL⟩
 ·have RV : Hid (u = (noRef, 0, false)) := qhd (by
   rw [HU.out]
   unfold lnkPick
   cases e : lnkLaid x r with
   | false => rfl
   | true =>
     have := (lodChain_some hn (lnkLaid_parts e).1).1
     rw [hp] at this; cases this)
  clear hp hEw hA
  go_wp2
  all_goals
   refine bodyPost_ret (v := ?_) ?hrun rfl ?_
   case hrun => (simp only [results, Tryz.results25]; go_simp; first | done | exact rfl)
   exact HR.out _ _ ⟨by rw [RV.out]; rfl, bbel⟩
 have HP := qhd hp
 have HLF := qhd hL
 have h9 := I_pick x L r nm _ wA HLF.out HP.out hn HK.out
 rw [← HU.out] at h9
 obtain ⟨⟨qk, qn⟩, qa, qb⟩ := u
 unfold pickT at h9
 dsimp only at h9
 have CP := qhd h9
 clear hp hL h9
 go_wp2_with fail
 refine CP.out.mono ?_
 rintro _ wC ⟨rfl, hC⟩
 have hEC : Below w.heap.size w wC := hEw.trans (hC.mono (by simp; omega))
 have hCs := (hC).size; (try simp only [qsz] at hCs)
 obtain ⟨hCcd, hCco, hCcg, hCcp, hCcx, hCcy, hCcc1, hCcf1, hCcz1, hCcc2, hCcf2, hCcz2⟩ := bf3 (n := w.heap.size) hC
 clear hEw hC hEA hA CP HLF
 go_wp2
 all_goals
  refine bodyPost_ret (v := ?_) ?hrun rfl ?_
  case hrun => (simp only [results, Tryz.results25]; go_simp; first | done | exact rfl)
  exact HR.out _ _ ⟨rfl, bbel⟩

end Go.Proofs.YtmbfpbgkchncgaaGreat
