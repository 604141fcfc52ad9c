/-
  Texts of mine, packed: LawLL, RowLL. No condition beside those of the single theorems.
-/
import Derived.Test.YtmbfpbgkchncgaaGreatK25
import Derived.Test.YtmbfpbgkchncgaaGreatK21
import Derived.Test.YtmbfpbgkchncgaaGreatK2
import Derived.Test.YtmbfpbgkchncgaaGreatK17
import Derived.Test.YtmbfpbgkchncgaaGreatK4
import Derived.BigQuiet
import Derived.Test.YtmbfpbgkchncgaaGreatK13
set_option linter.unusedSimpArgs false
set_option linter.unusedVariables false
set_option maxHeartbeats 16000000
set_option maxRecDepth 100000
namespace Go.Proofs.YtmbfpbgkchncgaaGreat
open Go.RowKit
theorem wf_smallL {k : Int} (h : -1 ≤ k ∧ k ≤ 9) : (Lit.int .i64 k).wf = true := by
 obtain ⟨h1, h2⟩ := h
 have : k = -1 ∨ k = 0 ∨ k = 1 ∨ k = 2 ∨ k = 3 ∨ k = 4 ∨ k = 5 ∨ k = 6 ∨ k = 7 ∨ k = 8 ∨ k = 9 := by omega
 rcases this with rfl | rfl | rfl | rfl | rfl | rfl | rfl | rfl | rfl | rfl | rfl <;> rfl
theorem chain_smallL {p : DLodPlan} {r : DLodRef} (hn : r.fName.size ≤ maxLen) {x : DLodRef} (hx : x ∈ lodChain p r) : -1 ≤ x.fKeeper ∧ x.fKeeper ≤ 9 := by
 obtain ⟨c, hc, _, _, hp⟩ := chain_cls hn hx
 obtain ⟨k, hk, hkl⟩ := clsAt_in hc
 have := lodOk_len hp
 omega
theorem nm_ne {a b : ByteArray} (h : a ≠ b) : (a.toList == b.toList) = false := by
 cases e : (a.toList == b.toList)
 ·rfl
 ·exact absurd (sameN_iff.1 (by unfold sameN; exact e)) h
theorem str_at {w : World} {lo B : Nat} {v : Value} {xs : List ByteArray} (h : TOwn 1 rStr 9 lo B w v xs) {i : Nat} {x : ByteArray} (hx : xs[i]? = some x) : ∃ g cap, v = .slice (some ⟨g, 0, none⟩) xs.length cap ∧ g < w.heap.size ∧ xs.length ≤ cap ∧ cap ≤ maxLen ∧ w.cell? ⟨g, i, none⟩ = some (.string x) := by
 obtain ⟨⟨css, h1, h2⟩, _⟩ := h
 have hi := (List.getElem?_eq_some_iff.1 hx).1
 obtain ⟨g, cap, e, _, hg, hc, hm, hcell, _⟩ := own_cell h2 (by omega)
 obtain ⟨cs, hcs⟩ : ∃ cs, css[i]? = some cs := ⟨_, List.getElem?_eq_getElem (by rw [h1.len]; exact hi)⟩
 obtain ⟨hk, rfl, _⟩ := h1.row i x cs hx hcs
 refine ⟨g, cap, e, hg, hc, hm, ?_⟩
 have := flat_at (j := 0) h1.each hcs (by omega)
 rw [Nat.mul_one, Nat.add_zero] at this
 exact hcell _ _ (this.trans rfl)
theorem names_all {p : DLodPlan} {rs : List DLodRef} (h : ∀ x ∈ rs, (loOfP p x).fFields.length ≤ 3) : (namesTo p rs).length ≤ 3 * rs.length := by
 rw [names_len]
 exact lay_len h

theorem S_DrawLnkLaid (v : Value) (w : World) (hv : Bytes w v) :
  Calls Tryz.prog 16 #[v] w fun e w' => (∃ (pv : Value) (pl : DLodPlan) (k : Int) (nm : ByteArray), e = .returned (.tuple #[.agg #[pv], .agg #[.int .i64 k, .string nm]]) ∧ Sl 2 rLodKeeper 0 w' pv pl.fKeepers ∧ nm.size ≤ maxLen ∧ -1 ≤ k ∧ k ≤ 9) ∧ Below w.heap.size w w' := by
 have HV := qhd hv
 clear hv
 refine qab fun R HR => ?_
 go_enter Tryz.func16, Tryz.ntmps16
 go_wp2_with fail
 refine (S_DrawLodChainO _ _ ((HV.out.alloc _).alloc _)).mono ?_
 rintro _ w1 ⟨⟨pv, pl, k, nm, rfl, hs, hb1, hb2, hb3⟩, hB⟩
 obtain ⟨a, len, cap, rfl⟩ := hs.form
 have hBs := (hB).size; (try simp only [qsz] at hBs)
 obtain ⟨hBad, hBao, hBag, hBap, hBax, hBay, hBac1, hBaf1, hBaz1⟩ := bf2 (n := w.heap.size) hB
 have HS := qhd hs
 clear hs
 go_wp2
 all_goals
  refine bodyPost_ret (v := ?_) ?hrun rfl ?_
  case hrun => (simp only [results, Tryz.results16]; go_simp; first | done | exact rfl)
  exact HR.out _ _ ⟨⟨_, pl, k, nm, rfl, (HS.out.stays rLodKeeper_good (by (repeat' (first | (with_reducible exact Keeps.refl _ _) | (with_reducible refine Keeps.alloc ?_ _) | (with_reducible refine Keeps.setCell ?_ ?_ _) | (with_reducible refine Keeps.drew ?_) | (refine keeps_hyp (by assumption) ?_ ?_) | go_size)))).low rLodKeeper_good (Nat.zero_le _), hb1, hb2, hb3⟩, bbel⟩
def vF (vs : Nat → Value) (B : Nat) (pv : Value) (g n gc k : Nat) (xk : Int) (xn cn cs : ByteArray) (a1 : Option Addr) (l1 c1 : Nat) (a2 : Option Addr) (l2 c2 : Nat) : Nat → Value → World → Prop
 | 0, v, w => v = .agg #[pv]
 | 1, v, w => v = .slice (some ⟨g, 0, none⟩) n gc
 | 2, v, w => v = .int .i64 (k : Int)
 | 3, v, w => v = .pointer (some ⟨g, k * 2, none⟩)
 | 4, v, w => v = .agg #[.int .i64 xk, .string xn]
 | 5, v, w => v = .agg ([.string cn, .string cs, .slice a1 l1 c1, .slice a2 l2 c2] : List Value).toArray
 | 6, v, w => ∃ e : Nat, v = .pointer (some ⟨e, 0, none⟩) ∧ B ≤ e ∧ e < w.heap.size ∧ w.there e 0 4 ∧ TypeAt w e 29
 | 7, v, w => ∃ e : Nat, vs 6 = .pointer (some ⟨e, 0, none⟩) ∧ B ≤ e ∧ e < w.heap.size ∧ TypeAt w e 29 ∧ w.cell? ⟨e, 2, none⟩ = some (.slice a1 l1 c1)
 | _, _, _ => True
theorem vF_stays {vs : Nat → Value} {B : Nat} {pv : Value} {g n gc k : Nat} {xk : Int} {xn cn cs : ByteArray} {a1 : Option Addr} {l1 c1 : Nat} {a2 : Option Addr} {l2 c2 : Nat} : ∀ i j u w w', i ≠ j → rwG 7 j w w' → vF vs B pv g n gc k xk xn cn cs a1 l1 c1 a2 l2 c2 i u w → vF vs B pv g n gc k xk xn cn cs a1 l1 c1 a2 l2 c2 i u w' := by
 intro i j u w w' hne hg h
 match i with
 | 0 | 1 | 2 | 3 | 4 | 5 => exact h
 | 6 =>
   obtain ⟨e, h1, h2, h3, h4, h5⟩ := h
   exact ⟨e, h1, h2, Nat.lt_of_lt_of_le h3 (rw_size hg), rw_there hg h3 h4, rw_type hg h3 h5⟩
 | 7 =>
   obtain ⟨e, h1, h2, h3, h4, h5⟩ := h
   rcases hg with ⟨_, hg⟩ | ⟨rfl, _⟩
   ·exact ⟨e, h1, h2, Nat.lt_of_lt_of_le h3 hg.size, h4.below hg h3, qaa hg h5⟩
   ·exact absurd rfl hne
 | n + 8 => trivial

theorem vF_dep {l : List Oper} {m : Nat} {B : Nat} {pv : Value} {g n gc k : Nat} {xk : Int} {xn cn cs : ByteArray} {a1 : Option Addr} {l1 c1 : Nat} {a2 : Option Addr} {l2 c2 : Nat} (h : ∀ o, l[7]? = some o → ∃ e ∈ o.after, Region.binds .any e = true ∧ e.on = 6) : DepF (fun vs => vF vs B pv g n gc k xk xn cn cs a1 l1 c1 a2 l2 c2) l m := by
 intro i o vs vs' u w hi ho he hf
 match i with
 | 0 | 1 | 2 | 3 | 4 | 5 | 6 => exact hf
 | 7 =>
   obtain ⟨e, h1, h2, h3⟩ := h o ho
   have h4 := he e h1 h2
   rw [h3] at h4
   obtain ⟨e', h5, h6⟩ := hf
   exact ⟨e', by rw [← h4]; exact h5, h6⟩
 | n + 8 => trivial

theorem L_FnLnkLaid (v : Value) (w : World) (hv : Bytes w v) :
  Calls Tryz.prog 5 #[v] w fun e w' => e = .returned (.bool true) ∧ Below w.heap.size w w' := by
 obtain ⟨c, len, cap, rfl, g1, g2, g3⟩ := id hv
 have m1 : len ≤ 9223372036854775807 := by unfold maxLen at g2; omega
 clear g2 g3
 refine qab fun R HR => ?_
 go_enter Tryz.func5, Tryz.ntmps5
 go_wp2_with fail
 all_goals first
  | (try go_returns
     exact HR.out _ _ ⟨rfl, bbel⟩)
  | skip
 refine (S_DrawLnkLaid _ _ hv).mono ?_
 rintro _ w1 ⟨⟨pv, pl, k1, n1, rfl, hs, hn1, hk1⟩, h1⟩
 have h1s := (h1).size; (try simp only [qsz] at h1s)
 obtain ⟨fa, fl, fc, rfl⟩ := hs.form
 have hwf := wf_smallL hk1
 obtain ⟨z, hz⟩ : ∃ x, lnkLaid pl ⟨k1, n1⟩ = x := ⟨_, rfl⟩
 obtain ⟨ls, hls⟩ : ∃ x, lnkLayout pl ⟨k1, n1⟩ = x := ⟨_, rfl⟩
 have KS : Hid (∀ W, Below w1.heap.size w1 W → Sl 2 rLodKeeper 0 W (.slice fa fl fc) pl.fKeepers) := qhd fun W hW => hs.stays rLodKeeper_good (Keeps.of_below' hW (Nat.le_refl _))
 have CI : Hid (∀ W, Below w1.heap.size w1 W → Calls Tryz.prog 19 #[.agg #[.slice fa fl fc], .agg #[.int .i64 k1, .string n1]] W fun e w' => LayV W e w' ls) := qhd fun W hW => by rw [← hls]; exact I_LnkLayout pl _ ⟨k1, n1⟩ W (KS.out W hW) hn1 hwf
 have CL : Hid (∀ W, Below w1.heap.size w1 W → Calls Tryz.prog 17 #[.agg #[.slice fa fl fc], .agg #[.int .i64 k1, .string n1]] W fun e w' => e = .returned (.bool z) ∧ Below W.heap.size W w') := qhd fun W hW => by rw [← hz]; exact I_LnkLaid pl _ ⟨k1, n1⟩ W (KS.out W hW) hn1 hwf
 have CM : Hid (∀ W, Below w1.heap.size w1 W → Calls Tryz.prog 18 #[.agg #[.slice fa fl fc], .agg #[.int .i64 k1, .string n1]] W fun e w' => e = .returned (.bool z) ∧ Below W.heap.size W w') := qhd fun W hW => by rw [← hz]; exact S_LnkLaid pl _ ⟨k1, n1⟩ W (KS.out W hW) hn1
 have CX : Hid (∀ (W : World) (x : DLodRef), x.fName.size ≤ maxLen → -1 ≤ x.fKeeper ∧ x.fKeeper ≤ 9 → Below w1.heap.size w1 W → Calls Tryz.prog 17 #[.agg #[.slice fa fl fc], .agg #[.int .i64 x.fKeeper, .string x.fName]] W fun e w' => e = .returned (.bool (lnkLaid pl x)) ∧ Below W.heap.size W w') := qhd fun W x hx hk hW => I_LnkLaid pl _ x W (KS.out W hW) hx (wf_smallL hk)
 have CC : Hid (∀ W, Below w1.heap.size w1 W → Calls Tryz.prog 20 #[.agg #[.slice fa fl fc], .agg #[.int .i64 k1, .string n1]] W fun e w' => (∃ v, e = .returned v ∧ Refs w' W.heap.size v (lodChain pl ⟨k1, n1⟩)) ∧ Below W.heap.size W w') := qhd fun W hW => I_LodChain pl _ ⟨k1, n1⟩ W (KS.out W hW) hn1
 have LO : Hid (∀ x : DLodRef, LoOfX pl (.slice fa fl fc) x w1) := qhd fun x => L_loOfX pl _ x w1 hs
 have HK4 : Hid ((Tryz.prog.info? 29).map (·.size) = some 4) := qhd (by kernel_rfl)
 have HZ := qhd hz
 have HLS := qhd hls
 have HN1 := qhd hn1
 obtain ⟨rs, hrs⟩ : ∃ rs, lodChain pl ⟨k1, n1⟩ = rs := ⟨_, rfl⟩
 have HRS := qhd hrs
 rw [hrs] at CC
 have zz : (z != z) = false := by simp
 clear hs hz hls hrs
 go_wp2_with fail
 have hB0 : Below w1.heap.size w1 ((w1.alloc (.cells #[.slice fa fl fc] 25)).alloc (.cells #[.int .i64 k1, .string n1] 42)) := bbel
 refine (CL.out _ (bbel)).mono ?_
 rintro _ w2 ⟨rfl, h2⟩
 have h2s := (h2).size; (try simp only [qsz] at h2s)
 obtain ⟨h2pd, h2po, h2pg, h2pp, h2px, h2py, h2pc1, h2pf1, h2pz1⟩ := bf2 (n := w1.heap.size) h2
 have r0 : w2.cell? ⟨w1.heap.size, 0, none⟩ = some (.slice fa fl fc) := by go_simp
 have r1 : w2.cell? ⟨w1.heap.size + 1, 0, none⟩ = some (.int .i64 k1) := by go_simp
 have r2 : w2.cell? ⟨w1.heap.size + 1, 1, none⟩ = some (.string n1) := by go_simp
 have hB2 : Below w1.heap.size w1 w2 := bbel
 have hl0 : w1.heap.size < w2.heap.size := by omega
 have hl1 : w1.heap.size + 1 < w2.heap.size := by omega
 clear h2pd h2pg h2px h2py h2po h2pp h2pc1 h2pf1 h2pz1 h2 hB0
 go_wp2_with fail
 refine (CM.out _ hB2).mono ?_
 rintro _ w3 ⟨rfl, h3⟩
 have hs3 := h3.size
 have hB3 : Below w1.heap.size w1 w3 := hB2.trans (h3.mono hB2.size)
 replace r0 := qaa h3 r0
 replace r1 := qaa h3 r1
 replace r2 := qaa h3 r2
 have hl30 : w1.heap.size < w3.heap.size := by omega
 have hl31 : w1.heap.size + 1 < w3.heap.size := by omega
 clear h3 hB2 hl0 hl1
 cases z
 ·have hls0 : ls = [] := by rw [← HLS.out]; unfold lnkLayout; rw [HZ.out]; rfl
  go_wp2_with fail
  refine (CI.out _ hB3).mono ?_
  rintro _ w4 ⟨⟨v32, rfl, t32⟩, h4⟩
  obtain ⟨oa, oc, rfl, _, _⟩ := t32.form
  have hB4 : Below w1.heap.size w1 w4 := hB3.trans (h4.mono hB3.size)
  have hs4 := h4.size
  have hl9 : ls.length = 0 := by rw [hls0]; rfl
  rw [hl9]
  clear t32 h4 hB3
  go_wp2_with (go_at_call 11; refine (L_loOk' _).mono ?_; rintro _ w9 ⟨rfl, h9⟩)
  all_goals (try go_returns)
  all_goals exact HR.out _ _ ⟨rfl, bbel⟩
 have hz : lnkLaid pl ⟨k1, n1⟩ = true := HZ.out
 have hne : rs ≠ [] := by rw [← HRS.out]; exact (lnkLaid_parts hz).1
 have hpos : 0 < rs.length := List.length_pos_iff.2 hne
 have h6 : rs.length ≤ 6 := by
  obtain ⟨_, hf6, _⟩ := plain_first (p := pl) (r := ⟨k1, n1⟩) hn1 (lnkLaid_parts hz).1
  rw [← HRS.out]; exact_mod_cast hf6
 have hf3 : ∀ x ∈ rs, (loOfP pl x).fFields.length ≤ 3 := fun x hx => by
  rw [← HRS.out] at hx
  obtain ⟨c, _, h2, h3, _⟩ := chain_cls hn1 hx
  rw [h2]; exact cls_fields h3
 have HF3 := qhd hf3
 have HNX : Hid (∀ (k j : Nat) (x : DLodRef) (f : DClsField), rs[k]? = some x → (loOfP pl x).fFields[j]? = some f → ∀ nm ∈ namesTo pl (rs.take k) ++ (namesOf pl x).take j, nm ≠ f.fName) := qhd fun k j x f hx hf => by
  have h := names_next hn1 hz (k := k) (j := j) (x := x) (f := f) (by rw [HRS.out]; exact hx) hf
  rw [HRS.out] at h
  exact h
 have HLA : Hid (∀ (k : Nat) (x : DLodRef), rs[k]? = some x → lnkLaid pl x = true ∧ x.fName.size ≤ maxLen ∧ -1 ≤ x.fKeeper ∧ x.fKeeper ≤ 9) := qhd fun k x hx => by
  have hxc : (lodChain pl ⟨k1, n1⟩)[k]? = some x := by rw [HRS.out]; exact hx
  exact ⟨(laid_above hn1 hz hxc).1, (plain_tail hn1 hxc).1, chain_smallL hn1 (List.mem_of_getElem? hxc)⟩
 clear hz hne CL CM hf3
 go_wp2_with fail
 refine (CC.out _ hB3).mono ?_
 rintro _ w7 ⟨⟨v7, rfl, hrf⟩, h7⟩
 have hs7 := h7.size
 have hB7 : Below w1.heap.size w1 w7 := hB3.trans (h7.mono hB3.size)
 replace r0 := qaa h7 r0
 replace r1 := qaa h7 r1
 replace r2 := qaa h7 r2
 have hl70 : w1.heap.size < w7.heap.size := by omega
 have hl71 : w1.heap.size + 1 < w7.heap.size := by omega
 obtain ⟨g, gc, rfl, _, hgc, hgm, hgl⟩ := hrf.form hpos
 have HRF := qhd hrf
 have HB7 := qhd hB7
 obtain ⟨n, hn⟩ : ∃ n, rs.length = n := ⟨_, rfl⟩
 rw [hn] at hpos hgc HRF h6 ⊢
 have HN := qhd hn
 have hn9 : n ≤ 9223372036854775807 := by unfold maxLen at hgm; omega
 have hgc9 : gc ≤ 9223372036854775807 := by unfold maxLen at hgm; omega
 have R0 := qhd r0
 have R1 := qhd r1
 have R2 := qhd r2
 clear h7 hB3 hl30 hl31 hrf hn CC hB7 r0 r1 r2
 go_wp2_with fail
 go_loopw [7, 8] (fun zo zi wr => ∃ k : Nat, k ≤ n ∧ zi = .int .i64 (k : Int) ∧ TOwn 1 rStr 9 w7.heap.size w7.heap.size wr zo (namesTo pl (rs.take k)) ∧ Below w7.heap.size w7 wr) (fun _ zi _ => n - (intOf zi).toNat)
 case atStart =>
  refine ⟨0, Nat.zero_le _, rfl, ?_, (Below.refl _ _).alloc (Nat.le_refl _) _⟩
  exact (Empty0.new w7 _ (Nat.le_refl _)).own (Nat.le_refl _)
 case round =>
  obtain ⟨k, hk, rfl, hto, hb⟩ := hrel
  have hbs := hb.size
  have HBb := qhd hb
  have HBX := qhd (HB7.out.trans (hb.mono HB7.out.size))
  have HTO := qhd hto
  obtain ⟨oa, oc, hov, hoc, hom⟩ := hto.sl.form
  subst hov
  have r0 := qaa hb R0.out
  have hlr0 : w1.heap.size < wr.heap.size := by omega
  have hgr : g < wr.heap.size := by omega
  have hnl : (namesTo pl (rs.take k)).length ≤ 18 := by
   have h := names_all (p := pl) (rs := rs.take k) (fun x hx => HF3.out x (List.mem_of_mem_take hx))
   rw [List.length_take] at h
   omega
  clear hto
  by_cases hlt : k < n
  rotate_left
  ·obtain rfl : k = n := by omega
   have hfull : namesTo pl (rs.take k) = namesTo pl rs := by rw [List.take_of_length_le (by rw [HN.out]; exact Nat.le_refl _)]
   have hlen : (namesTo pl (rs.take k)).length = ls.length := by
    rw [hfull, names_len, ← HLS.out]
    unfold lnkLayout
    rw [HZ.out, HRS.out]; rfl
   have r1 := qaa hb R1.out
   have r2 := qaa hb R2.out
   have hlr1 : w1.heap.size + 1 < wr.heap.size := by omega
   rw [hlen]
   have hll : ls.length ≤ 18 := by omega
   clear hb hfull hlen hoc
   go_wp2_with fail
   refine (CI.out _ HBX.out).mono ?_
   rintro _ w8 ⟨⟨v98, rfl, t98⟩, h8⟩
   obtain ⟨ya, yc, rfl, _, _⟩ := t98.form
   have hB8 : Below w1.heap.size w1 w8 := HBX.out.trans (h8.mono HBX.out.size)
   clear t98 h8
   go_wp2
   all_goals (try go_returns)
   all_goals exact HR.out _ _ ⟨by first | rfl | simp, bbel⟩
  have hlt2 : (k : Int) < (n : Int) := by omega
  obtain ⟨⟨xk, xn⟩, hx⟩ : ∃ x, rs[k]? = some x := ⟨_, List.getElem?_eq_getElem (by rw [HN.out]; exact hlt)⟩
  obtain ⟨hxl, hxn, hxs⟩ := HLA.out k _ hx
  obtain ⟨p1, p2⟩ := (HRF.out.below hb).cell2 hx
  obtain ⟨_, ⟨a1, l1, c1, a2, l2, c2, rfl, sF, _⟩, CLOX⟩ := LO.out ⟨xk, xn⟩
  have HSF := qhd sF
  obtain ⟨cn, hcn⟩ : ∃ x, x = (loOfP pl ⟨xk, xn⟩).fName := ⟨_, rfl⟩
  obtain ⟨cs, hcs⟩ : ∃ x, x = (loOfP pl ⟨xk, xn⟩).fSuper := ⟨_, rfl⟩
  rw [← hcn, ← hcs] at CLOX
  have CLO := qhd CLOX
  obtain ⟨hfl, hfc, hf9⟩ := fld_len sF
  have HFL := qhd hfl
  have hl3 : l1 ≤ 3 := by have := HF3.out _ (List.mem_of_getElem? hx); omega
  have HX := qhd hx
  have CX1 : ∀ y : In wr, Calls Tryz.prog 17 #[.agg #[.slice fa fl fc], .agg #[.int .i64 xk, .string xn]] y.x fun e w' => e = .returned (.bool true) ∧ Below y.x.heap.size y.x w' := fun y => by
   have := CX.out y.x ⟨xk, xn⟩ hxn hxs (HBX.out.trans (y.h.mono HBX.out.size))
   rw [hxl] at this
   exact this
  have i0 := In.cell r0
  have i1 := In.cell p1
  have i2 := In.cell p2
  clear hx sF CLOX hcn hcs hfl hxl hb
  go_wp2_with fail
  refine qaj (by kernel_rfl) (by kernel_rfl) ?_
  repeat (go_big_quiet_step (first | (go_at_call 17; exact Calls.ins (CX1 _))))
  refine wpQuiet_nil ?_
  rintro wZ ⟨⟨wI, hwI⟩, hq⟩
  obtain rfl : wI = wZ := hq.symm
  clear hq
  have hwIs := hwI.size
  (try dsimp only)
  replace r0 := qaa hwI r0
  have q1 := qaa hwI p1
  have q2 := qaa hwI p2
  have hbI := HBb.out.trans (hwI.mono HBb.out.size)
  replace HBX := qhd (HBX.out.trans (hwI.mono HBX.out.size))
  replace HTO := qhd (HTO.out.below (E := NoT) rStr_goodT hwI)
  have hgI : g < wI.heap.size := by omega
  have hI0 : w1.heap.size < wI.heap.size := by omega
  clear CX1 i0 i1 i2 hwI p1 p2
  go_wp2_with fail
  refine qay 8 (Below wI.heap.size wI) (rwG 7) (fun vs => vF vs wI.heap.size (.slice fa fl fc) g n gc k xk xn cn cs a1 l1 c1 a2 l2 c2) (fun _ _ => True) noDead (by kernel_rfl) (by decide) (by kernel_rfl) (Or.inl (by rfl)) (by kernel_rfl) ((Below.refl _ _).drew) ?hdep noDead_dead (fun _ => trivial) (fun _ _ _ _ _ _ _ _ => trivial) (fun _ i j u w1 w2 hne _ _ hg hF => vF_stays i j u w1 w2 hne hg hF) (fun j w _ => rw_rfl _ j w) ?_
  case hdep => exact vF_dep (fun o ho => by cases ho; exact ⟨⟨6, .data⟩, by simp, rfl, rfl⟩)
  refine qac (d := 55) rfl rfl (fun wx hC hI hd S0 hS => ?_) (fun v0 => ?_)
  ·have c0' := qaa hC r0
   have HSS := qhd hS; clear hS hd hI
   go_simp
   exact HSS.out _ _ hC (rw_rfl _ _ _) (by simp [vF])
  simp only [qnr]
  refine qac (d := 56) rfl rfl (fun wx hC hI hd S0 hS => ?_) (fun v1 => ?_)
  ·have HSS := qhd hS; clear hS hd hI
   go_simp
   exact HSS.out _ _ hC (rw_rfl _ _ _) (by simp [vF])
  simp only [qnr]
  refine qac (d := 57) rfl rfl (fun wx hC hI hd S0 hS => ?_) (fun v2 => ?_)
  ·have HSS := qhd hS; clear hS hd hI
   go_simp
   exact HSS.out _ _ hC (rw_rfl _ _ _) (by simp [vF])
  simp only [qnr]
  refine qac (d := 58) rfl rfl (fun wx hC hI hd S0 hS => ?_) (fun v3 => ?_)
  ·have d1 := hd ⟨1, .data⟩ (by simp) rfl v1 (by simp)
   simp only [vF] at d1
   subst d1
   have d2 := hd ⟨2, .data⟩ (by simp) rfl v2 (by simp)
   simp only [vF] at d2
   subst d2
   have HSS := qhd hS; clear hS hd hI
   go_simp
   exact HSS.out _ _ hC (rw_rfl _ _ _) (by simp [vF])
  simp only [qnr]
  refine qac (d := 59) rfl rfl (fun wx hC hI hd S0 hS => ?_) (fun v4 => ?_)
  ·have d3 := hd ⟨3, .data⟩ (by simp) rfl v3 (by simp)
   simp only [vF] at d3
   subst d3
   have c1' := qaa hC q1
   have c2' := qaa hC q2
   have HSS := qhd hS; clear hS hd hI
   go_simp
   exact HSS.out _ _ hC (rw_rfl _ _ _) (by simp [vF])
  simp only [qnr]
  refine qac (d := 60) rfl rfl (fun wx hC hI hd S0 hS => ?_) (fun v5 => ?_)
  ·have d0 := hd ⟨0, .data⟩ (by simp) rfl v0 (by simp)
   simp only [vF] at d0
   subst d0
   have d4 := hd ⟨4, .data⟩ (by simp) rfl v4 (by simp)
   simp only [vF] at d4
   subst d4
   have HSS := qhd hS; clear hS hd hI
   go_simp
   refine (CLO.out _ (HBX.out.trans (hC.mono HBX.out.size))).mono ?_
   rintro _ w' ⟨rfl, hX⟩
   exact HSS.out _ _ (hC.trans (hX.mono hC.size)) (rw_of (by simp) hX) (by simp [vF])
  simp only [qnr]
  refine qac (d := 9) rfl rfl (fun wx hC hI hd S0 hS => ?_) (fun v6 => ?_)
  ·have hzx := hC.size
   have HSS := qhd hS; clear hS hd hI
   go_simp
   refine HSS.out _ _ (hC.alloc hzx _) (rw_of (by simp) ((Below.refl _ _).alloc (Nat.le_refl _) _)) ?_
   (simp only [qls, Nat.reduceAdd, vF])
   exact ⟨_, rfl, hzx, by simp, there_of (heap_alloc_new wx _) rfl, TypeAt.new _ _ _⟩
  simp only [qnr]
  refine wpRelyE_cons0 rfl rfl (fun wx hC hI hd S0 hS => ?_) (fun v7 => ?_)
  ·have d6 := hd ⟨6, .data⟩ (by simp) rfl v6 (by simp)
   simp only [vF] at d6
   obtain ⟨e6, d6, he6, hl6, ht6, hT6⟩ := d6
   have d5 := hd ⟨5, .data⟩ (by simp) rfl v5 (by simp)
   simp only [vF] at d5
   subst d5
   subst d6
   have HSS := qhd hS; clear hS hd hI
   refine wp_store_rowO 29 (.tmp 9) (.tmp 60) rfl e6 ([.string cn, .string cs, .slice a1 l1 c1, .slice a2 l2 c2]) (by rfl) (by rfl) (by simpa using ht6) HK4.out (by intro v hv; simp only [List.mem_cons, List.not_mem_nil, or_false] at hv; rcases hv with rfl | rfl | rfl | rfl <;> rfl) (fun w' hr1 hr2 hr3 hr4 hr5 => ⟨put_defers' _ _ _, ?_⟩)
   refine HSS.out _ _ (hC.trans (hr3.below he6)) (rw_store (Nat.le_of_eq hr3.size) hr4 hr5) ?_
   (simp only [qls, Nat.reduceAdd, vF])
   exact ⟨e6, rfl, he6, by rw [← hr3.size]; exact hl6, hr5 _ _ hT6, by simpa using hr1 2 _ rfl⟩
  simp only [qnr]
  intro wF hC hF
  have f6 := hF 6 v6 (by simp) (fun _ _ => rfl)
  have f7 := hF 7 v7 (by simp) (fun _ _ => rfl)
  simp only [vF, getv, List.nil_append, List.cons_append, List.getD_cons_succ, List.getD_cons_zero] at f7
  obtain ⟨E, f7, hE1, hE2, hET, hEc⟩ := f7
  subst f7
  have hsF := hC.size
  have hbF := hbI.trans (hC.mono hbI.size)
  have HBF := qhd hbF
  replace HTO := qhd (HTO.out.below (E := NoT) rStr_goodT hC)
  clear hF hC hbI r0 q1 q2 f6
  simp only [List.drop_succ_cons, List.drop_zero, List.drop_nil]
  go_wp2_with fail
  obtain ⟨bs, hbs'⟩ : ∃ bs, namesTo pl (rs.take k) = bs := ⟨_, rfl⟩
  have HBS := qhd hbs'
  rw [hbs'] at HTO hnl ⊢
  have hwF7 : w7.heap.size ≤ wF.heap.size := HBF.out.size
  have hE7 : w7.heap.size ≤ E := by omega
  clear hbs' hoc
  go_loopw [7, 10] (fun zo zj wr => ∃ j : Nat, j ≤ l1 ∧ zj = .int .i64 (j : Int) ∧ TOwn 1 rStr 9 w7.heap.size w7.heap.size wr zo (bs ++ (namesOf pl ⟨xk, xn⟩).take j) ∧ TypeAt wr E 29 ∧ wr.cell? ⟨E, 2, none⟩ = some (.slice a1 l1 c1) ∧ Below w7.heap.size w7 wr) (fun _ zj _ => l1 - (intOf zj).toNat)
  case atStart => exact ⟨0, Nat.zero_le _, rfl, by rw [List.take_zero, List.append_nil]; exact HTO.out, hET, hEc, HBF.out⟩
  case round =>
   obtain ⟨j, hj, rfl, htj, hTE, z2, hbj⟩ := hrel
   have hjs := hbj.size
   have HTJ := qhd htj
   have HBJ := qhd hbj
   have HTE := qhd hTE
   have hEw : E < wr.heap.size := block_lt_of_cell z2
   obtain ⟨oa2, oc2, hov, hoc2, hom2⟩ := htj.sl.form
   subst hov
   clear htj hTE
   have hnof : (namesOf pl ⟨xk, xn⟩).length = l1 := by unfold namesOf; rw [List.length_map]; exact HFL.out
   by_cases hjl : j < l1
   rotate_left
   ·obtain rfl : j = l1 := by omega
    have hsucc : bs ++ (namesOf pl ⟨xk, xn⟩).take j = namesTo pl (rs.take (k + 1)) := by
     rw [namesTo_succ HX.out, HBS.out, List.take_of_length_le (by omega)]
    obtain ⟨yL, hyL⟩ : ∃ yL, yL = (bs ++ (namesOf pl ⟨xk, xn⟩).take j).length := ⟨_, rfl⟩
    have HTK := qhd HTJ.out
    rw [← hyL] at HTK ⊢
    rw [hsucc] at HTK
    clear hsucc hnof hyL HTJ
    go_wp2
    go_roundw
    case measure => simp [intOf] <;> omega
    case rel => exact ⟨k + 1, by omega, by go_num, HTK.out, hbj⟩
   have hjl2 : (j : Int) < (l1 : Int) := by omega
   obtain ⟨f, hf⟩ : ∃ x, (loOfP pl ⟨xk, xn⟩).fFields[j]? = some x := ⟨_, List.getElem?_eq_getElem (by rw [HFL.out]; exact hjl)⟩
   have hnx := HNX.out k j _ f HX.out hf
   rw [HBS.out] at hnx
   obtain ⟨fb, fo, rfl, hfb, _, f0', _, _⟩ := fld_row3 HSF.out hf
   have hWJ : Below w1.heap.size w1 wr := HB7.out.trans (hbj.mono HB7.out.size)
   have f0 := qaa hWJ f0'
   have hfbr : fb < wr.heap.size := Nat.lt_of_lt_of_le hfb hWJ.size
   have hfs : f.fName.size ≤ maxLen := by
    have := HSF.out
    obtain ⟨a, len, cap, e, hl, h1, h2, h3⟩ := this
    cases e
    obtain ⟨b, off, e2, _, _, hr⟩ := h3 (by omega)
    obtain ⟨m', cs', g0, g1, g2, g3⟩ := hr j (by omega)
    obtain rfl : f = m' := Option.some.inj (hf.symm.trans g0)
    exact g3.2.1
   have HFS := qhd hfs
   have hsnoc : bs ++ (namesOf pl ⟨xk, xn⟩).take (j + 1) = bs ++ (namesOf pl ⟨xk, xn⟩).take j ++ [f.fName] := by
    rw [List.append_assoc]
    congr 1
    rw [List.take_add_one]
    unfold namesOf
    rw [List.getElem?_map, hf]; rfl
   have HSN := qhd hsnoc
   have HNN := qhd hnx
   obtain ⟨ys, hys⟩ : ∃ ys, ys = bs ++ (namesOf pl ⟨xk, xn⟩).take j := ⟨_, rfl⟩
   have hyl : ys.length ≤ 21 := by rw [hys, List.length_append, List.length_take]; omega
   rw [← hys] at HTJ HSN HNN hoc2 ⊢
   have F0 := qhd f0
   have Z2 := qhd z2
   have HYL := qhd hyl
   clear hf hnx f0' hfs hsnoc hnof hWJ hys hfb
   go_wp2_with fail
   go_loopw [11] (fun zi ws => ∃ i : Nat, i ≤ ys.length ∧ zi = .int .i64 (i : Int) ∧ Below wr.heap.size wr ws) (fun zi _ => ys.length - (intOf zi).toNat)
   case atStart => exact ⟨0, Nat.zero_le _, rfl, Below.refl _ _⟩
   case round =>
    obtain ⟨i, hi, rfl, hbi⟩ := hrel
    have hsi := hbi.size
    have hbW : Below w7.heap.size w7 wr := HBJ.out.trans (hbi.mono HBJ.out.size)
    have f0 := qaa hbi F0.out
    have z2 := qaa hbi Z2.out
    have hEi : E < wr.heap.size := by omega
    have hfi : fb < wr.heap.size := by omega
    have HTI := qhd (HTJ.out.below (E := NoT) rStr_goodT hbi)
    by_cases hil : i < ys.length
    ·have hil2 : (i : Int) < (ys.length : Int) := by omega
     obtain ⟨nm, hnm⟩ : ∃ x, ys[i]? = some x := ⟨_, List.getElem?_eq_getElem hil⟩
     obtain ⟨g9, c9, e9, hg9, _, _, y0⟩ := str_at HTI.out hnm
     cases e9
     have hne := nm_ne (HNN.out nm (List.mem_of_getElem? hnm))
     clear hnm
     go_wp2_with fail
     go_quiet (fail)
     go_wp2
     go_roundw
     case measure => simp [intOf]; omega
     case rel => exact ⟨i + 1, by omega, by go_num, Below.drewN hbi _⟩
    ·obtain rfl : i = ys.length := by omega
     have hTI := HTE.out.below hbi hEw
     have hsz9 : w7.heap.size ≤ wr.heap.size := hbW.size
     obtain ⟨wB, hwB⟩ : ∃ W, W = wr.alloc (.cells #[.string f.fName] 9) := ⟨_, rfl⟩
     have hbB : Below wr.heap.size wr wB := by rw [hwB]; exact (Below.refl _ _).alloc (Nat.le_refl _) _
     have SRC : Src 1 wB (.slice (some ⟨wr.heap.size, 0, none⟩) 1 1) [[.string f.fName]] := by rw [hwB]; exact Src.new (k := 1)
     have HTB := qhd (HTI.out.below (E := NoT) rStr_goodT hbB)
     have hTB := hTI.below hbB hEi
     have hzB := qaa hbB z2
     have hsB := hbB.size
     have SRCH := qhd SRC
     go_wp2_with (at_builtin; rw [← hwB]; refine qam (B := w7.heap.size) (lo := w7.heap.size) (xs := ys) (ys := [f.fName]) (css := [[.string f.fName]]) (E := fun s => s ≠ 9) (by rfl) (.tmp 85) (.tmp 92) 57 (by rfl) sty_Str (rStr_goodT.mono fun _ h => h.elim) (fun h => h rfl) rStr_one (by rfl) (by rfl) HTB.out SRCH.out (Rows.one rfl ⟨rfl, HFS.out⟩) (by have := HYL.out; simp only [List.length_cons, List.length_nil]; omega) (Nat.le_refl _) (by omega) ?_; intro v9 wG htG hbG hgG hkG hatG; have HTG := qhd htG; have HBG := qhd hbG; have HKG := qhd hkG; clear htG hbG hgG hkG hatG)
     have hEG := hTB.kept HKG.out (Nat.zero_le _) (show 29 ≠ 9 by decide)
     have hTG := hTB.of_kept hEG
     have hzG := (qae hEG).trans hzB
     have hBG : Below w7.heap.size w7 wG := (hbW.trans (hbB.mono hsz9)).trans HBG.out
     have htG := HTG.out
     rw [← HSN.out] at htG
     go_wp2
     go_roundw
     case measure => simp [intOf]; omega
     case rel => exact ⟨j + 1, by omega, by go_num, htG, hTG, hzG, hBG⟩

end Go.Proofs.YtmbfpbgkchncgaaGreat
namespace Go.Proofs.YtmbfpbgkchncgaaGreat
open Go.ChangeShapes Go.WideShapes Go.ChangeAt Go.RowKit Go.Joins
theorem cells_u8 : Tryz.prog.cellsOf 5 = 1 := by kernel_rfl

theorem fnLnkLaid_lifted (os : Os) (started : os.Started) (H : Type) (enc : TypeId × Value → H) :
  ReturnsInHanded {} Tryz.checked os 5 .any (Rows.fnLnkLaidSpec.pre6 enc Tryz.prog Tryz.f5 Rows.fnLnkLaidRow.domain false) (Rows.fnLnkLaidSpec.post enc Tryz.prog Tryz.f5 false true false false) := by
 refine returnsInHanded_of_change (C := Tryz.checked) own started (by kernel_rfl) Tryz.func5
  (ChangeSpec.witness6 (enc := enc) (C := Tryz.checked) false ⟨#[], #[.slice none 0 0], []⟩ 8 (by kernel_rfl) (by kernel_rfl) (by kernel_rfl) (by kernel_rfl)) ?_
 intro W base args ds gs before hval0 hW hcnd _
 have hval : ∀ (j : Nat) t v, Tryz.f5.params[j]? = some t → args[j]? = some v → Value.okWide Tryz.prog W .any base t v := hval0
 have hW' := hW
 obtain ⟨p, q, hA0, hV, rfl, hfz, hnd⟩ := hW
 have hA : DataW.TrodAll enc Tryz.prog W 0 (fun _ => true) true Tryz.f5.params.toList args.toList ds p := hA0
 rw [Tryz.params5] at hA hval
 clear hA0 hval0
 obtain ⟨v0, d0, rfl, rfl, h0⟩ := trodAll_one hA
 obtain ⟨rfl, rfl⟩ := trodVars_none hV
 have b0 := open_bytes Tryz.underlying22 Tryz.underlying5 cells_u8 (hval 0 22 v0 rfl rfl) h0
 refine (L_FnLnkLaid v0 W b0).mono fun e W' h => ?_
 obtain ⟨rfl, hb⟩ := h
 exact ⟨_, rfl, law_post (s := Rows.fnLnkLaidSpec) hW' hb rfl rfl rfl Tryz.underlying4 (by rw [Tryz.params5]; kernel_rfl)⟩
theorem fnLnkLaid_holds : Rows.FnLnkLaidSaid :=
 OpenClaim.holds_of_wide 5 Tryz.f5 rfl rfl rfl rfl rfl rfl rfl ⟨rfl, rfl, rfl, rfl, rfl⟩ rfl rfl rfl rfl rfl (by kernel_rfl) Tryz.func5 (by kernel_rfl)
  (of_decide_eq_true (by kernel_rfl)) (by unfold Func.isWrapper; first | (rw [if_pos (by decide +kernel)]; kernel_rfl) | (rw [if_neg (by decide +kernel)]; exact ⟨rfl, rfl⟩))
  (fun os started H enc _ => fnLnkLaid_lifted os started H enc)

end Go.Proofs.YtmbfpbgkchncgaaGreat
