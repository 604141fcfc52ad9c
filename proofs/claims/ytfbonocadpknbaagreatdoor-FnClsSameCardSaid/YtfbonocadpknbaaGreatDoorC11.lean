/-
  Texts of mine, packed: LodR, Plan, Hole, Pick. No condition beside those of the single theorems.
-/
import Derived.Test.YtfbonocadpknbaaGreatDoorC9
import Derived.Test.YtfbonocadpknbaaGreatDoorC10
import Derived.Test.YtfbonocadpknbaaGreatDoorC6
set_option linter.unusedSimpArgs false
set_option linter.unusedVariables false
set_option maxHeartbeats 16000000
set_option maxRecDepth 100000
namespace Go.Proofs.YtfbonocadpknbaaGreatDoor
open Go.RowKit
theorem Sl.text {lo : Nat} {w : World} {b n c : Nat} {o : Nat} {ls : List ByteArray} (h : Sl 1 rStr lo w (.slice (some ⟨b, o, none⟩) n c) ls) {k : Nat} {x : ByteArray} (hk : ls[k]? = some x) : w.cell? ⟨b, o + k, none⟩ = some (.string x) := by
 obtain ⟨a, len, cap, e, hl, h1, h2, h3⟩ := h
 cases e
 obtain ⟨b', off, e, _, _, hr⟩ := h3 (by have := (List.getElem?_eq_some_iff.1 hk).1; omega)
 cases e
 obtain ⟨y, cs, e0, hc, hcell, hy, _⟩ := hr k (by have := (List.getElem?_eq_some_iff.1 hk).1; omega)
 rw [e0] at hk
 cases hk
 subst hy
 have := hcell 0 (.string x) rfl
 simpa using this

def lineF (lo B k : Nat) (pv sv : Value) (ad : Addr) (x : ByteArray) (q : DLodPlan) (ok : Bool) (g : Nat → Value) : Nat → Value → World → Prop
 | 0, v, _ => v = .agg #[pv]
 | 1, v, _ => v = sv
 | 2, v, _ => v = .int .i64 (k : Int)
 | 3, v, _ => v = .pointer (some ad)
 | 4, v, _ => v = .string x
 | 5, v, w => ∃ v', v = .tuple #[.agg #[v'], .bool ok] ∧ TPlan lo w v' q
 | 6, v, w => ∃ v', v = .tuple #[.agg #[v'], .bool ok] ∧ TPlan lo w v' q
 | 7, v, w => ∃ v', v = .agg #[v'] ∧ TPlan lo w v' q
 | 8, v, _ => v = .bool ok
 | 9, v, w => ∃ c y, v = .pointer (some ⟨c, 0, none⟩) ∧ B ≤ c ∧ One1 w c y ∧ TypeAt w c 25
 | 10, _, w => ∃ c v', g 9 = .pointer (some ⟨c, 0, none⟩) ∧ g 7 = .agg #[v'] ∧ One1 w c v'
 | 11, v, _ => v = .bool ok
 | _, _, _ => True
def lineG (B : Nat) (i : Nat) (w w' : World) : Prop := Below w.heap.size w w' ∨ (i = 10 ∧ ∃ c y, B ≤ c ∧ TypeAt w c 25 ∧ w' = w.setCell ⟨c, 0, none⟩ y)
theorem One1.set_same {w : World} {b : Nat} {v x0 : Value} (h : One1 w b x0) : One1 (w.setCell ⟨b, 0, none⟩ v) b v := by
 obtain ⟨h0, a0, b0⟩ := h
 exact ⟨by simpa [World.setCell] using h0, by rw [World.cell?_setCell_same _ _ _ a0], by rw [World.frozen?_setCell]; exact b0⟩
theorem One1.set_any {w : World} {b c : Nat} {v x0 : Value} (h : One1 w b x0) : ∃ y, One1 (w.setCell ⟨c, 0, none⟩ v) b y := by
 by_cases hc : b = c
 ·subst hc; exact ⟨v, h.set_same⟩
 ·exact ⟨x0, h.set_other hc⟩
theorem lineF_stays {lo B k : Nat} {pv sv : Value} {ad : Addr} {x : ByteArray} {q : DLodPlan} {ok : Bool} {g : Nat → Value} : ∀ i j u w w', i ≠ j → lineG B j w w' → lineF lo B k pv sv ad x q ok g i u w → lineF lo B k pv sv ad x q ok g i u w'
 | 0, _, _, _, _, _, _, h => h
 | 1, _, _, _, _, _, _, h => h
 | 2, _, _, _, _, _, _, h => h
 | 3, _, _, _, _, _, _, h => h
 | 4, _, _, _, _, _, _, h => h
 | 5, _, _, _, _, _, Or.inl g, ⟨v', h1, h2⟩ => ⟨v', h1, h2.below g⟩
 | 6, _, _, _, _, _, Or.inl g, ⟨v', h1, h2⟩ => ⟨v', h1, h2.below g⟩
 | 7, _, _, _, _, _, Or.inl g, ⟨v', h1, h2⟩ => ⟨v', h1, h2.below g⟩
 | 5, _, _, _, _, _, Or.inr ⟨_, c, y, _, ht, e⟩, ⟨v', h1, h2⟩ => ⟨v', h1, e ▸ h2.keeps (KeepsT.set ht EPlan_plan)⟩
 | 6, _, _, _, _, _, Or.inr ⟨_, c, y, _, ht, e⟩, ⟨v', h1, h2⟩ => ⟨v', h1, e ▸ h2.keeps (KeepsT.set ht EPlan_plan)⟩
 | 7, _, _, _, _, _, Or.inr ⟨_, c, y, _, ht, e⟩, ⟨v', h1, h2⟩ => ⟨v', h1, e ▸ h2.keeps (KeepsT.set ht EPlan_plan)⟩
 | 8, _, _, _, _, _, _, h => h
 | 9, _, _, _, _, _, Or.inl g, ⟨c, y, h1, h2, h3, h4⟩ => ⟨c, y, h1, h2, h3.below g h3.lt, h4.below g h3.lt⟩
 | 9, _, _, _, _, _, Or.inr ⟨_, c', y', _, _, e⟩, ⟨c, y, h1, h2, h3, h4⟩ => by
   obtain ⟨z, hz⟩ := h3.set_any (c := c') (v := y')
   exact ⟨c, z, h1, h2, e ▸ hz, e ▸ h4.set _ _⟩
 | 10, _, _, _, _, _, Or.inl g, ⟨c, v', h1, h2, h3⟩ => ⟨c, v', h1, h2, h3.below g h3.lt⟩
 | 10, _, _, _, _, hne, Or.inr ⟨h, _⟩, _ => absurd h.symm hne
 | 11, _, _, _, _, _, _, h => h
 | _ + 12, _, _, _, _, _, _, _ => trivial

theorem S_LodParse (ls : List ByteArray) (v : Value) (w : World) (s : Sl 1 rStr 0 w v ls) (hsz : ∀ x ∈ ls, x.size ≤ 10000) :
  Calls Tryz.prog 52 #[v] w fun e w' => ∃ pv, e = .returned (.tuple #[.agg #[pv], .int .i64 (lodParse ls).2]) ∧ TPlan w.heap.size w' pv (lodParse ls).1 ∧ Below w.heap.size w w' := by
 obtain ⟨a, len, cap, rfl⟩ := s.form
 obtain ⟨hl, hc, hm⟩ := s.len
 have hm' : len ≤ 9223372036854775807 := by unfold maxLen at hm; omega
 have HS := qhd s
 have HZ := qhd hsz
 have HL := qhd hl
 clear s hsz hl hm
 by_cases h4 : 400 < len
 ·have IV : Hid (lodParse ls = (⟨[]⟩, 401)) := qhd (by unfold lodParse; rw [if_pos (by rw [HL.out]; exact h4)])
  have hd : decide ((400 : Int) < (len : Int)) = true := by simp; omega
  refine qab fun R HR => ?_
  go_enter Tryz.func52, Tryz.ntmps52
  go_wp2
  all_goals
   refine bodyPost_ret (v := ?_) ?hrun rfl ?_
   case hrun => (simp only [results, Tryz.results52]; go_simp; first | done | exact rfl)
   refine HR.out _ _ ⟨.slice none 0 0, ?_, ?_, bbel⟩
   ·rw [IV.out]
   ·rw [IV.out]; exact TPlan.nil _ _
 have hd : decide ((400 : Int) < (len : Int)) = false := by simp; omega
 have IV : Hid (lodParse ls = parseGo 0 ⟨[]⟩ ls) := qhd (by unfold lodParse; rw [if_neg (by rw [HL.out]; exact h4)])
 refine qab fun R HR => ?_
 go_enter Tryz.func52, Tryz.ntmps52
 go_wp2_with fail
 go_loopw [5] (fun kv wr => ∃ (k : Nat) (q : DLodPlan) (pv : Value), kv = .int .i64 (k : Int) ∧ k ≤ len ∧ parseGo 0 ⟨[]⟩ ls = parseGo k q (ls.drop k) ∧ SmallP k q ∧ TPlan w.heap.size wr pv q ∧ One1 wr (w.heap.size + 1) pv ∧ One1 wr w.heap.size (.slice none 0 0) ∧ TypeAt wr (w.heap.size + 1) 25 ∧ TypeAt wr w.heap.size 25 ∧ Below w.heap.size w wr) (fun kv _ => len - (intOf kv).toNat)
 case atStart => exact ⟨0, ⟨[]⟩, .slice none 0 0, rfl, by omega, rfl, ⟨Nat.zero_le _, fun k hk => by simp at hk, fun k hk => by simp at hk, fun k hk => by simp at hk⟩, TPlan.nil _ _, by refine ⟨by (first | omega | (simp; done) | (simp; omega)), ?_, ?_⟩ <;> go_simp, by refine ⟨by (first | omega | (simp; done) | (simp; omega)), ?_, ?_⟩ <;> go_simp, by (repeat' (first | (with_reducible assumption) | ((with_reducible refine TypeAt.new' _ _ _ _ ?_); simp; done) | (with_reducible refine TypeAt.alloc ?_ _) | (with_reducible refine TypeAt.set ?_ _ _) | (with_reducible refine TypeAt.drew ?_))), by (repeat' (first | (with_reducible assumption) | ((with_reducible refine TypeAt.new' _ _ _ _ ?_); simp; done) | (with_reducible refine TypeAt.alloc ?_ _) | (with_reducible refine TypeAt.set ?_ _ _) | (with_reducible refine TypeAt.drew ?_))), bbel⟩
 case round =>
  obtain ⟨k, q, pv, rfl, hk, hpg, hsm, hpl, hP, hR, hTP, hTR, hb⟩ := hrel
  have PG := qhd hpg
  have SM := qhd hsm
  have PL := qhd hpl
  have PP := qhd hP
  have RR := qhd hR
  have TPP := qhd hTP
  have TRR := qhd hTR
  have hbz := hb.size
  have hlp := hP.lt
  have hlr := hR.lt
  have p0 := hP.c0
  clear hpg hsm hpl hTP hTR hP hR
  by_cases hkl : k < len
  ·obtain ⟨x, hx⟩ : ∃ x, ls[k]? = some x := ⟨_, List.getElem?_eq_getElem (by rw [HL.out]; exact hkl)⟩
   obtain ⟨b, off, ha, hbl⟩ : ∃ b off, a = some ⟨b, off, none⟩ ∧ b < w.heap.size := by
    obtain ⟨a', len', cap', e, _, _, _, h3⟩ := HS.out
    cases e
    obtain ⟨b, off, e, _, h4, _⟩ := h3 (by omega)
    exact ⟨b, off, e, h4⟩
   subst ha
   have hcx : wr.cell? ⟨b, off + k, none⟩ = some (.string x) := (hb.cell (p := ⟨b, off + k, none⟩) hbl).trans (Sl.text HS.out hx)
   have HX := qhd hx
   obtain ⟨q', ok, hq⟩ : ∃ a b, lineR q x = (a, b) := ⟨_, _, rfl⟩
   have HQ := qhd hq
   have CX : Hid (∀ W, Below wr.heap.size wr W → Calls Tryz.prog 75 #[.agg #[pv], .string x] W fun e w' => (∃ v', e = .returned (.tuple #[.agg #[v'], .bool ok]) ∧ TPlan w.heap.size w' v' q') ∧ Below W.heap.size W w') := qhd fun W hW => (S_l8Line q pv x w.heap.size W (by have := hW.size; omega) (PL.out.below hW) (SM.out.le (by omega)) (HZ.out x (List.mem_of_getElem? HX.out))).mono fun e w' h => by
    obtain ⟨v', h1, h2, h3⟩ := h
    rw [HQ.out] at h1 h2
    exact ⟨⟨v', h1, h2⟩, h3⟩
   clear hx hq
   go_wp2_with fail
   refine wp_region_relyD 12 (relyC wr) (lineG wr.heap.size) (lineF w.heap.size wr.heap.size k pv (.slice (some ⟨b, off, none⟩) len cap) ⟨b, off + k, none⟩ x q' ok) (by kernel_rfl) (by decide) (by kernel_rfl) (Or.inl rfl) (by kernel_rfl) ((Below.refl _ _).drew) ?hdep (fun g i j u w1 w2 hne _ hg hF => lineF_stays i j u w1 w2 hne hg hF) (fun _ _ _ => Or.inl (Below.refl _ _)) ?_
   case hdep =>
    intro i o g g' u w hi ho he hF
    match i, hi with
    | 0, _ | 1, _ | 2, _ | 3, _ | 4, _ | 5, _ | 6, _ | 7, _ | 8, _ | 9, _ | 11, _ => exact hF
    | 10, _ =>
      simp only [List.getElem?_cons_succ, List.getElem?_cons_zero, Option.some.injEq] at ho
      subst ho
      obtain ⟨c, v', h1, h2, h3⟩ := hF
      exact ⟨c, v', by rw [← he ⟨9, .data⟩ (by simp) rfl]; exact h1, by rw [← he ⟨7, .data⟩ (by simp) rfl]; exact h2, h3⟩
    | n + 12, h => omega
   refine qai (d := 20) rfl rfl (fun wx hC hd S0 hS => ?_) (fun v0 => ?_)
   ·have c0 := qad hC p0
    have HSS := qhd hS; clear hS hd
    go_simp
    exact HSS.out _ _ hC (Or.inl (Below.refl _ _)) rfl
   simp only [qnr]
   refine qai (d := 21) rfl rfl (fun wx hC hd S0 hS => ?_) (fun v1 => ?_)
   ·have HSS := qhd hS; clear hS hd
    go_simp
    exact HSS.out _ _ hC (Or.inl (Below.refl _ _)) rfl
   simp only [qnr]
   refine qai (d := 22) rfl rfl (fun wx hC hd S0 hS => ?_) (fun v2 => ?_)
   ·have HSS := qhd hS; clear hS hd
    go_simp
    exact HSS.out _ _ hC (Or.inl (Below.refl _ _)) rfl
   simp only [qnr]
   refine qai (d := 23) rfl rfl (fun wx hC hd S0 hS => ?_) (fun v3 => ?_)
   ·have d1 : v1 = _ := hd ⟨1, .data⟩ (by simp) rfl v1 rfl
    have d2 : v2 = _ := hd ⟨2, .data⟩ (by simp) rfl v2 rfl
    subst d1; subst d2
    have HSS := qhd hS; clear hS hd
    go_simp
    exact HSS.out _ _ hC (Or.inl (Below.refl _ _)) rfl
   simp only [qnr]
   refine qai (d := 24) rfl rfl (fun wx hC hd S0 hS => ?_) (fun v4 => ?_)
   ·have d3 : v3 = _ := hd ⟨3, .data⟩ (by simp) rfl v3 rfl
    subst d3
    have c0 := qad hC hcx
    have HSS := qhd hS; clear hS hd
    go_simp
    exact HSS.out _ _ hC (Or.inl (Below.refl _ _)) rfl
   simp only [qnr]
   refine qai (d := 25) rfl rfl (fun wx hC hd S0 hS => ?_) (fun v5 => ?_)
   ·have d0 : v0 = _ := hd ⟨0, .data⟩ (by simp) rfl v0 rfl
    have d4 : v4 = _ := hd ⟨4, .data⟩ (by simp) rfl v4 rfl
    subst d0; subst d4
    have HSS := qhd hS; clear hS hd
    go_simp
    refine (CX.out wx hC).mono ?_
    rintro _ w' ⟨⟨v', rfl, h2⟩, h3⟩
    exact HSS.out _ _ (relyC_next hC h3) (Or.inl h3) ⟨v', rfl, h2⟩
   simp only [qnr]
   refine qai (d := 19) rfl rfl (fun wx hC hd S0 hS => ?_) (fun v6 => ?_)
   ·have h5 := hd ⟨5, .data⟩ (by simp) rfl v5 (by simp)
    simp only [lineF] at h5
    obtain ⟨v', e5, h5⟩ := h5
    subst e5
    have HSS := qhd hS; clear hS hd
    go_simp
    exact HSS.out _ _ hC (Or.inl (Below.refl _ _)) (by (simp only [qls, Nat.reduceAdd, lineF]); exact ⟨v', rfl, h5⟩)
   simp only [qnr]
   refine qai (d := 26) rfl rfl (fun wx hC hd S0 hS => ?_) (fun v7 => ?_)
   ·have h6 := hd ⟨6, .data⟩ (by simp) rfl v6 (by simp)
    simp only [lineF] at h6
    obtain ⟨v', e6, h6⟩ := h6
    subst e6
    have HSS := qhd hS; clear hS hd
    go_simp
    exact HSS.out _ _ hC (Or.inl (Below.refl _ _)) (by (simp only [qls, Nat.reduceAdd, lineF]); exact ⟨v', rfl, h6⟩)
   simp only [qnr]
   refine qai (d := 27) rfl rfl (fun wx hC hd S0 hS => ?_) (fun v8 => ?_)
   ·have h6 := hd ⟨6, .data⟩ (by simp) rfl v6 (by simp)
    simp only [lineF] at h6
    obtain ⟨v', e6, h6⟩ := h6
    subst e6
    have HSS := qhd hS; clear hS hd
    go_simp
    exact HSS.out _ _ hC (Or.inl (Below.refl _ _)) (by (simp only [qls, Nat.reduceAdd, lineF]))
   simp only [qnr]
   refine qai (d := 6) rfl rfl (fun wx hC hd S0 hS => ?_) (fun v9 => ?_)
   ·have hzx := relyC_size hC
    have HSS := qhd hS; clear hS hd
    go_simp
    refine HSS.out _ _ (relyC_next hC ((Below.refl _ _).alloc (Nat.le_refl _) _)) (Or.inl ((Below.refl _ _).alloc (Nat.le_refl _) _)) ?_
    (simp only [qls, Nat.reduceAdd, lineF])
    refine ⟨wx.heap.size, .slice none 0 0, rfl, hzx, ⟨by simp, ?_, ?_⟩, TypeAt.new _ _ _⟩ <;> go_simp
   simp only [qnr]
   refine wpRely_cons0 rfl rfl (fun wx hC hd S0 hS => ?_) (fun v10 => ?_)
   ·have h9 := hd ⟨9, .data⟩ (by simp) rfl v9 (by simp)
    have h7 := hd ⟨7, .data⟩ (by simp) rfl v7 (by simp)
    simp only [lineF] at h9 h7
    obtain ⟨c, y, e9, h1, h2, h3⟩ := h9
    obtain ⟨v', e7, h7⟩ := h7
    subst e9; subst e7
    obtain ⟨fa, fc, rfl, _, _⟩ := h7.form
    have c0 := h2.c0
    have f0 := h2.f0
    have HSS := qhd hS; clear hS hd
    go_simp
    refine HSS.out undef _ (Below.setCell hC (by exact h1) _) (Or.inr ⟨by simp, c, _, h1, h3, rfl⟩) ?_
    (simp only [qls, Nat.reduceAdd, lineF])
    exact ⟨c, _, rfl, rfl, h2.set_same⟩
   simp only [qnr]
   refine qai (d := 7) rfl rfl (fun wx hC hd S0 hS => ?_) (fun v11 => ?_)
   ·have h8 := hd ⟨8, .data⟩ (by simp) rfl v8 (by simp)
    simp only [lineF] at h8
    subst h8
    have HSS := qhd hS; clear hS hd
    go_simp
    exact HSS.out _ _ hC (Or.inl (Below.refl _ _)) (by (simp only [qls, Nat.reduceAdd, lineF]))
   simp only [qnr]
   intro w2 hC hF
   have f10 := hF 10 v10 (by simp)
   have f7 := hF 7 v7 (by simp)
   have f11 := hF 11 v11 (by simp)
   have f9 := hF 9 v9 (by simp)
   simp only [lineF] at f10 f7 f11 f9
   obtain ⟨c9, y9, e9, g1, g2, g3⟩ := f9
   obtain ⟨v', e7, g4⟩ := f7
   obtain ⟨c, v'', h9, h7, hc1⟩ := f10
   have h9' : v9 = .pointer (some ⟨c, 0, none⟩) := h9
   have h7' : v7 = .agg #[v''] := h7
   have hcc : c9 = c := by rw [e9] at h9'; simpa using h9'
   have hvv : v' = v'' := by rw [e7] at h7'; simpa using h7'
   subst hcc; subst hvv; subst e9; subst e7; subst f11
   have P2 := PP.out.below hC hlp
   have R2 := RR.out.below hC hlr
   have TP2 := qhd (TPP.out.below hC hlp)
   have TR2 := qhd (TRR.out.below hC hlr)
   have TC2 := qhd g3
   have G4 := qhd g4
   have hb2 : Below w.heap.size w w2 := hb.trans (Below.mono hC hbz)
   have hz2 : wr.heap.size ≤ w2.heap.size := hC.size
   clear hF hC h9 h7 h9' h7' CX g2 g3 g4 hcx p0
   have c0 := hc1.c0
   have f0 := hc1.f0
   obtain ⟨l1, p0, p1⟩ := P2
   obtain ⟨l2, r0, r1⟩ := R2
   have hk9 : IntKind.i64.wrap ((k : Int) + 1) = (k : Int) + 1 := IntWalk.i64_in _ (by omega)
   have hdr : ls.drop k = x :: ls.drop (k + 1) := by
    obtain ⟨hk3, e3⟩ := List.getElem?_eq_some_iff.1 HX.out
    rw [List.drop_eq_getElem_cons hk3, e3]
   have HDR := qhd hdr
   clear hdr
   simp only [List.drop_succ_cons, List.drop_zero]
   obtain ⟨fa, fc, rfl, _, _⟩ := G4.out.form
   cases ok
   ·have IV2 : Hid (lodParse ls = (⟨[]⟩, (k : Int) + 1)) := qhd (by
     rw [IV.out, PG.out, HDR.out, parseGo, HQ.out]
     rfl)
    go_wp2
    all_goals
     refine bodyPost_ret (v := ?_) ?hrun rfl ?_
     case hrun => (simp only [results, Tryz.results52]; go_simp; first | done | exact rfl)
     refine HR.out _ _ ⟨.slice none 0 0, ?_, ?_, bbel⟩
     ·rw [IV2.out]
     ·rw [IV2.out]; exact TPlan.nil _ _
   ·have IV2 : Hid (parseGo 0 ⟨[]⟩ ls = parseGo (k + 1) q' (ls.drop (k + 1))) := qhd (by
     rw [PG.out, HDR.out, parseGo, HQ.out]
     rfl)
    have SM2 : Hid (SmallP (k + 1) q') := qhd (by have := SM.out.line x; rw [HQ.out] at this; exact this)
    go_wp2
    go_roundw
    case measure => simp [intOf]; omega
    case rel => exact ⟨k + 1, q', _, by go_num, by omega, IV2.out, SM2.out, G4.out.keeps (KeepsT.set TP2.out EPlan_plan), One1.set_same ⟨l1, p0, p1⟩, One1.set_other ⟨l2, r0, r1⟩ (by omega), TP2.out.set _ _, TR2.out.set _ _, bbel⟩
  ·have hkl' : k = len := by omega
   subst hkl'
   have hdr : ls.drop k = [] := List.drop_eq_nil_of_le (by rw [HL.out]; exact Nat.le_refl _)
   have IV2 : Hid (lodParse ls = if lodOk q then (q, 0) else (⟨[]⟩, (k : Int) + 1)) := qhd (by rw [IV.out, PG.out, hdr]; rfl)
   have CX : Hid (∀ W, Below wr.heap.size wr W → Calls Tryz.prog 9 #[.agg #[pv]] W fun e w' => e = .returned (.bool (lodOk q)) ∧ Below W.heap.size W w') := qhd fun W hW => S_LodOk q pv W (PL.out.below hW).sl
   obtain ⟨ok, hok⟩ : ∃ b, lodOk q = b := ⟨_, rfl⟩
   rw [hok] at CX IV2
   clear hdr
   have r0 := RR.out.c0
   have r1 := RR.out.f0
   obtain ⟨fa, fc, rfl, _, _⟩ := PL.out.form
   have hk9 : IntKind.i64.wrap ((k : Int) + 1) = (k : Int) + 1 := IntWalk.i64_in _ (by omega)
   have OK := qhd hok
   clear hok
   go_wp2_with fail
   refine (CX.out _ (bbel)).mono ?_
   rintro _ w2 ⟨rfl, h2⟩
   have P2 := PP.out.below h2 hlp
   have R2 := RR.out.below h2 hlr
   have PL2 := qhd (PL.out.below h2)
   have TR2 := qhd (TRR.out.below h2 hlr)
   have hb2 : Below w.heap.size w w2 := hb.trans (h2.mono hbz)
   have hz2 := h2.size
   clear CX h2
   obtain ⟨l1, p0, p1⟩ := P2
   obtain ⟨l2, r0, r1⟩ := R2
   cases ok
   ·go_wp2
    all_goals
     refine bodyPost_ret (v := ?_) ?hrun rfl ?_
     case hrun => (simp only [results, Tryz.results52]; go_simp; first | done | exact rfl)
     refine HR.out _ _ ⟨.slice none 0 0, ?_, ?_, bbel⟩
     ·rw [IV2.out]; rfl
     ·rw [IV2.out]; exact TPlan.nil _ _
   ·go_wp2
    all_goals
     refine bodyPost_ret (v := ?_) ?hrun rfl ?_
     case hrun => (simp only [results, Tryz.results52]; go_simp; first | done | exact rfl)
     refine HR.out _ _ ⟨.slice fa q.fKeepers.length fc, ?_, ?_, bbel⟩
     ·rw [IV2.out]; rfl
     ·rw [IV2.out]
      exact PL2.out.keeps (KeepsT.set TR2.out EPlan_plan)

theorem TPlan.low {lo lo' : Nat} {w : World} {v : Value} {p : DLodPlan} (h : TPlan lo w v p) (hl : lo' ≤ lo) : TPlan lo' w v p := by
 obtain ⟨css, h1, h2, h3⟩ := h
 exact ⟨css, h1.mono fun cs x hx => tLodKeeper_goodT.low _ _ _ _ _ hl hx, own_low h2 hl, h3⟩
theorem TPlan.ex {lo r N : Nat} {w w' : World} {v : Value} {p : DLodPlan} (h : TPlan lo w v p) (he : Ex r N w w') (hr : r < lo) (hN : w.heap.size ≤ N) : TPlan lo w' v p :=
 h.keeps ⟨he.size, fun g cs e fr hl _ hg => he.block g (by omega) (by have := (Array.getElem?_eq_some_iff.1 hg).1; omega)⟩
theorem parseGo_zero : ∀ {ls : List ByteArray} {k : Nat} {p : DLodPlan}, (parseGo k p ls).2 = 0 → lodOk (parseGo k p ls).1 = true
 | [], k, p, h => by
   unfold parseGo at h ⊢
   split
   ·assumption
   ·rename_i hn; rw [if_neg hn] at h; simp at h; omega
 | l :: r, k, p, h => by
   unfold parseGo at h ⊢
   split
   ·rename_i hy; rw [if_pos hy] at h; exact parseGo_zero h
   ·rename_i hn; rw [if_neg hn] at h; simp at h; omega
theorem parse_zero {ls : List ByteArray} (h : (lodParse ls).2 = 0) : lodOk (lodParse ls).1 = true := by
 unfold lodParse at h ⊢
 split
 ·rename_i hy; rw [if_pos hy] at h; simp at h
 ·rename_i hn; rw [if_neg hn] at h; exact parseGo_zero h
def Plan20 (r p : Nat) (w : World) (e : Ending) (w' : World) : Prop := ∃ pv pl q, e = .returned (.agg #[pv]) ∧ TPlan w.heap.size w' pv pl ∧ lodOk pl = true ∧ NoRing pl ∧ q ≤ p + 40 ∧ Rd w' r q ∧ Ex r w.heap.size w w'

theorem S_l20Plan (r p : Nat) (n : Int) (w : World) (hn : -9223372036854775808 < n) (hn2 : n ≤ 9223372036854775807) (hr : Rd w r p) (hp : p < 700000) :
  Calls Tryz.prog 27 #[.pointer (some ⟨r, 0, none⟩), .int .i64 n] w fun e w' => Plan20 r p w e w' := by
 have hlt := hr.lt
 refine qab fun R HR => ?_
 go_enter Tryz.func27, Tryz.ntmps27
 go_wp2_with fail
 refine (S_l20Lines r p _ (rdd) (by omega)).mono ?_
 rintro _ w1 ⟨lv, ls, q, rfl, hd, hT, hq, R1, X1⟩
 have X1s := (X1).size; (try simp only [qsz] at X1s)
 simp only [World.size_alloc] at hT
 have HD := qhd hd
 have HT := qhd hT
 have C1 : Hid (One1 w1 w.heap.size (.slice none 0 0)) := qhd (by
  have hk := X1.block w.heap.size (by omega) (by simp)
  refine ⟨by omega, ?_, ?_⟩
  ·rw [qag hk]; go_simp
  ·rw [qao hk]; go_simp)
 have T1 : Hid (TypeAt w1 w.heap.size 25) := qhd (by
  have hk := X1.block w.heap.size (by omega) (by simp)
  obtain ⟨cs, fr, h⟩ := TypeAt.new w #[.slice none 0 0] 25
  exact ⟨cs, fr, hk.trans h⟩)
 have E1 : Ex r w.heap.size w w1 := eexx
 obtain ⟨hl0, hl1⟩ := hd.len
 obtain ⟨g, cap, rfl, _, _, _, _, _⟩ := hT.strs hl0
 obtain ⟨m, hm⟩ : ∃ m, ls.length = m := ⟨_, rfl⟩
 have HM := qhd hm
 rw [hm] at hl0 hl1 HT ⊢
 clear hd hT X1 hm
 go_wp2_with fail
 refine (S_odd r q n _ hn hn2 (rdd) (by omega)).mono ?_
 rintro _ w2 ⟨⟨x, rfl⟩, R2, X2⟩
 have X2s := (X2).size; (try simp only [qsz] at X2s)
 have C2 : Hid (One1 w2 w.heap.size (.slice none 0 0)) := qhd (by
  have hk := X2.block w.heap.size (by omega) (by omega)
  exact ⟨by omega, (qag hk).trans C1.out.c0, (qao hk).trans C1.out.f0⟩)
 have T2 : Hid (TypeAt w2 w.heap.size 25) := qhd (by
  have hk := X2.block w.heap.size (by omega) (by omega)
  obtain ⟨cs, fr, h⟩ := T1.out
  exact ⟨cs, fr, hk.trans h⟩)
 have HT2 := qhd (HT.out.ex X2 (by omega) (Nat.le_refl _))
 have E2 : Ex r w.heap.size w w2 := eexx
 clear C1 T1 HT X2 E1
 have c0 := C2.out.c0
 have f0 := C2.out.f0
 cases x
 ·go_wp2_with fail
  refine (S_LodParse ls _ w2 ((HT2.out.sl.sl fun _ _ h => h).low rStr_good (Nat.zero_le _)) (fun x hx => by have := HD.out.size x hx; omega)).mono ?_
  rintro _ w9 ⟨pv, rfl, hpl, h9⟩
  have hz9 := h9.size
  obtain ⟨pl, hpp, hok⟩ := HD.out.parse
  rw [hpp] at hpl
  have hnr : NoRing pl := by have := lodParse_noring HD.out.no; rw [hpp] at this; exact this
  have HPL := qhd hpl
  have HOK := qhd hok
  have HNR := qhd hnr
  have HPP := qhd hpp
  obtain ⟨l9, c0, f0⟩ := C2.out.below h9 C2.out.lt
  have T9 := qhd (T2.out.below h9 C2.out.lt)
  have R9 : Rd w9 r (q + 1) := rd_below h9 R2 (by omega)
  have E9 : Ex r w.heap.size w w9 := exC_next E2 h9
  obtain ⟨fa, fc, rfl, _, _⟩ := hpl.form
  clear hpl hok hnr hpp h9
  rw [HPP.out]
  go_wp2
  all_goals
   refine bodyPost_ret (v := ?_) ?hrun rfl ?_
   case hrun => (simp only [results, Tryz.results27]; go_simp; first | done | exact rfl)
   refine HR.out _ _ ⟨_, pl, (q + 1), rfl, ?_, HOK.out, HNR.out, by omega, rdd, eexx⟩
   have TR := T9.out
   exact TPlan.keeps (HPL.out.low (by omega)) (by (repeat' (first | (with_reducible exact KeepsT.refl _ _ _) | (with_reducible assumption) | (with_reducible refine KeepsT.allocB ?_ _) | (with_reducible refine KeepsT.drewB ?_) | (with_reducible refine KeepsT.setB ?_ ?_ (EPlan_plan) _) | ((with_reducible refine TypeAt.new' _ _ _ _ ?_); simp; done) | (with_reducible refine TypeAt.alloc ?_ _) | (with_reducible refine TypeAt.set ?_ _ _) | (with_reducible refine TypeAt.drew ?_))))
 ·go_wp2_with fail
  refine (S_l20Turn ls _ _ _ r (q + 1) w2 HT2.out (by omega) (by rw [HM.out]; exact hl0) (by rw [HM.out]; exact hl1) HD.out.size (rdd) (by omega)).mono ?_
  rintro _ w3 ⟨lv2, ls2, q2, rfl, htu, hs2, hq2, R3, X3⟩
  have hs3 := X3.size
  have C3 : Hid (One1 w3 w.heap.size (.slice none 0 0)) := qhd (by
   have hk := X3.block w.heap.size (by omega) (by omega)
   exact ⟨by omega, (qag hk).trans C2.out.c0, (qao hk).trans C2.out.f0⟩)
  have T3 : Hid (TypeAt w3 w.heap.size 25) := qhd (by
   have hk := X3.block w.heap.size (by omega) (by omega)
   obtain ⟨cs, fr, h⟩ := T2.out
   exact ⟨cs, fr, hk.trans h⟩)
  have HT3 := qhd (HT2.out.ex X3 (by omega) (Nat.le_refl _))
  have E3 : Ex r w.heap.size w w3 := eexx
  have HTU := qhd htu
  have HS2 := qhd hs2
  clear C2 T2 HT2 X3 E2 c0 f0 htu hs2
  have c0 := C3.out.c0
  have f0 := C3.out.f0
  go_wp2_with fail
  refine (S_LodParse ls2 _ w3 HS2.out (fun x hx => by have := (HTU.out.2 x hx).1; omega)).mono ?_
  rintro _ w4 ⟨pv2, rfl, hpl2, h4⟩
  have hz4 := h4.size
  obtain ⟨pl2, c2, hpp2⟩ : ∃ a b, lodParse ls2 = (a, b) := ⟨_, _, rfl⟩
  rw [hpp2] at hpl2
  have HPL2 := qhd hpl2
  have HPP2 := qhd hpp2
  obtain ⟨ga, gc, rfl, _, _⟩ := hpl2.form
  have C4 := qhd (C3.out.below h4 C3.out.lt)
  have T4 := qhd (T3.out.below h4 C3.out.lt)
  have HT4 := qhd (HT3.out.below qak h4)
  have R4 : Rd w4 r q2 := rd_below h4 R3 (by omega)
  have E4 : Ex r w.heap.size w w4 := exC_next E3 h4
  clear hpl2 hpp2 h4 C3 T3 HT3 E3 c0 f0
  rw [HPP2.out]
  have hl4 := C4.out.lt
  have c0 := C4.out.c0
  have f0 := C4.out.f0
  by_cases hc2 : c2 = 0
  ·subst hc2
   have hok2 : lodOk pl2 = true := by have := parse_zero (ls := ls2) (by rw [HPP2.out]); rwa [HPP2.out] at this
   have HOK2 := qhd hok2
   have HNR2 : Hid (NoRing pl2) := qhd (by have := lodParse_noring (HTU.out.no HD.out); rw [HPP2.out] at this; exact this)
   clear hok2
   go_wp2
   all_goals
    refine bodyPost_ret (v := ?_) ?hrun rfl ?_
    case hrun => (simp only [results, Tryz.results27]; go_simp; first | done | exact rfl)
    refine HR.out _ _ ⟨_, pl2, q2, rfl, ?_, HOK2.out, HNR2.out, by omega, rdd, eexx⟩
    have TR := T4.out
    exact TPlan.keeps (HPL2.out.low (by omega)) (by (repeat' (first | (with_reducible exact KeepsT.refl _ _ _) | (with_reducible assumption) | (with_reducible refine KeepsT.allocB ?_ _) | (with_reducible refine KeepsT.drewB ?_) | (with_reducible refine KeepsT.setB ?_ ?_ (EPlan_plan) _) | ((with_reducible refine TypeAt.new' _ _ _ _ ?_); simp; done) | (with_reducible refine TypeAt.alloc ?_ _) | (with_reducible refine TypeAt.set ?_ _ _) | (with_reducible refine TypeAt.drew ?_))))
  ·have hc3 : (c2 == 0) = false := by rw [beq_eq_false_iff_ne]; exact hc2
   go_wp2_with fail
   refine (S_LodParse ls _ _ (((HT4.out.below qak (bbel)).sl.sl fun _ _ h => h).low rStr_good (Nat.zero_le _)) (fun x hx => by have := HD.out.size x hx; omega)).mono ?_
   rintro _ w9 ⟨pv, rfl, hpl, h9⟩
   have hz9 := h9.size
   (try simp only [World.size_alloc, World.size_setCell] at hz9)
   obtain ⟨pl, hpp, hok⟩ := HD.out.parse
   rw [hpp] at hpl
   have hnr : NoRing pl := by have := lodParse_noring HD.out.no; rw [hpp] at this; exact this
   have HPL : Hid (TPlan w.heap.size w9 pv pl) := qhd (hpl.low (by simp; omega))
   have HOK := qhd hok
   have HNR := qhd hnr
   have HPP := qhd hpp
   have h49 : Below w4.heap.size w4 w9 := bbel
   obtain ⟨l9, c0, f0⟩ := C4.out.below h49 hl4
   have T9 := qhd (T4.out.below h49 hl4)
   have R9 : Rd w9 r q2 := rd_below h49 R4 (by omega)
   have E9 : Ex r w.heap.size w w9 := exC_next E4 h49
   obtain ⟨fa, fc, rfl, _, _⟩ := HPL.out.form
   clear hpl hok hnr hpp h9
   rw [HPP.out]
   go_wp2
   all_goals
    refine bodyPost_ret (v := ?_) ?hrun rfl ?_
    case hrun => (simp only [results, Tryz.results27]; go_simp; first | done | exact rfl)
    refine HR.out _ _ ⟨_, pl, q2, rfl, ?_, HOK.out, HNR.out, by omega, rdd, eexx⟩
    have TR := T9.out
    exact TPlan.keeps HPL.out (by (repeat' (first | (with_reducible exact KeepsT.refl _ _ _) | (with_reducible assumption) | (with_reducible refine KeepsT.allocB ?_ _) | (with_reducible refine KeepsT.drewB ?_) | (with_reducible refine KeepsT.setB ?_ ?_ (EPlan_plan) _) | ((with_reducible refine TypeAt.new' _ _ _ _ ?_); simp; done) | (with_reducible refine TypeAt.alloc ?_ _) | (with_reducible refine TypeAt.set ?_ _ _) | (with_reducible refine TypeAt.drew ?_))))

def NoShare (x y : Value) : Prop := ∀ b, x.ownBlock = some b → y.ownBlock ≠ some b
structure Hole (lo : Nat) (w : World) (v : Value) (css : List (List Value)) (p : DLodPlan) (k : Nat) (xo xa : Value) : Prop where
 len : css.length = p.fKeepers.length
 sz : ∀ cs ∈ css, cs.length = 2
 row : ∀ (i : Nat) (x : DLodKeeper) (o a : Value), i ≠ k → p.fKeepers[i]? = some x → css[i]? = some [o, a] → tLodKeeper lo w [o, a] x ∧ NoShare xo o ∧ NoShare xa a
 owns : w.ownsRow lo 45 2 v p.fKeepers.length css.flatten
theorem NoShare.symm {x y : Value} (h : NoShare x y) : NoShare y x := fun b hb hc => h b hc hb
theorem PlanC.hole {lo : Nat} {w : World} {v : Value} {css : List (List Value)} {p : DLodPlan} (h : PlanC lo w v css p) {k : Nat} {xo xa : Value} (hk : css[k]? = some [xo, xa]) : Hole lo w v css p k xo xa :=
 ⟨h.rows.len, h.rows.each, fun i x o a hi hx hc => ⟨(h.rows.row i x _ hx hc).2, by
  rcases Nat.lt_or_gt_of_ne hi with hlt | hgt
  ·have := h.apart i k o a xo xa hlt hc hk
   exact NoShare.symm this.1
  ·exact (h.apart k i xo xa o a hgt hk hc).1, by
  rcases Nat.lt_or_gt_of_ne hi with hlt | hgt
  ·have := h.apart i k o a xo xa hlt hc hk
   exact NoShare.symm this.2
  ·exact (h.apart k i xo xa o a hgt hk hc).2⟩, h.owns⟩
theorem Hole.keeps {lo : Nat} {w w' : World} {v : Value} {css : List (List Value)} {p : DLodPlan} {k : Nat} {xo xa : Value} (h : Hole lo w v css p k xo xa) (hk : KeepsT EPlan lo w w') : Hole lo w' v css p k xo xa :=
 ⟨h.len, h.sz, fun i x o a hi hx hc => by
  obtain ⟨h1, h2⟩ := h.row i x o a hi hx hc
  exact ⟨(tLodKeeper_goodT.mono fun _ h => Or.inl h).stays _ _ _ _ _ hk h1, h2⟩, own_kept h.owns (fun g cs fr _ hl hg => hk.block g cs _ fr hl (Or.inr rfl) hg)⟩
theorem Hole.ex {lo r N : Nat} {w w' : World} {v : Value} {css : List (List Value)} {p : DLodPlan} {k : Nat} {xo xa : Value} (h : Hole lo w v css p k xo xa) (he : Ex r N w w') (hr : r < lo) (hN : w.heap.size ≤ N) : Hole lo w' v css p k xo xa :=
 h.keeps ⟨he.size, fun g cs e fr hl _ hg => he.block g (by omega) (by have := (Array.getElem?_eq_some_iff.1 hg).1; omega)⟩
theorem Hole.below {lo : Nat} {w w' : World} {v : Value} {css : List (List Value)} {p : DLodPlan} {k : Nat} {xo xa : Value} (h : Hole lo w v css p k xo xa) (hb : Below w.heap.size w w') : Hole lo w' v css p k xo xa := h.keeps (KeepsT.of_below hb)
theorem NoShare.next {x x' y : Value} {n : Nat} (h : NoShare x y) (hx : ∀ b, x'.ownBlock = some b → x.ownBlock = some b ∨ n ≤ b) (hy : ∀ b, y.ownBlock = some b → b < n) : NoShare x' y := fun b hb hc => by
 rcases hx b hb with h1 | h1
 ·exact h b h1 hc
 ·have := hy b hc; omega
theorem Hole.put {lo b : Nat} {w w' : World} {cap : Nat} {css : List (List Value)} {p : DLodPlan} {k : Nat} {xo xa : Value} {kx : DLodKeeper} (h : Hole lo w (.slice (some ⟨b, 0, none⟩) p.fKeepers.length cap) css p k xo xa) (hk : k < p.fKeepers.length) (hx : tLodKeeper lo w [xo, xa] kx) (ht : Turn b w w') (hr : w'.rangeAt b (k * 2) [xo, xa])
  (hoth : ∀ j, j < k * 2 ∨ k * 2 + 2 ≤ j → w'.cell? ⟨b, j, none⟩ = w.cell? ⟨b, j, none⟩) : Sl 2 rLodKeeper 0 w' (.slice (some ⟨b, 0, none⟩) p.fKeepers.length cap) (p.fKeepers.set k kx) := by
 obtain ⟨b', cap', e, hlo, hbl, hc, hm, hcell, _⟩ := own_cell h.owns (by omega)
 cases e
 have hTA : TypeAt w b 45 := by
  obtain ⟨_, h2⟩ := h.owns
  rcases h2 with ⟨_, h2⟩ | ⟨g, cap, cur, h1, _, h3, _⟩
  ·omega
  ·cases h1; exact ⟨cur, (0, 0), h3⟩
 have hkeep : KeepsT ELodKeeper lo w w' := ⟨Nat.le_of_eq ht.size, fun g cs e fr _ he hg => ht.block g (fun eg => by
  subst eg
  obtain ⟨cs', fr', hT⟩ := hTA
  rw [hT] at hg
  cases hg
  exact ELodKeeper_not he)⟩
 refine ⟨_, _, _, rfl, by rw [List.length_set], hc, hm, fun _ => ⟨b, 0, rfl, Nat.zero_le _, by rw [← ht.size]; exact hbl, fun i hi => ?_⟩⟩
 obtain ⟨x, hxi⟩ : ∃ x, p.fKeepers[i]? = some x := ⟨_, List.getElem?_eq_getElem hi⟩
 by_cases hik : i = k
 ·subst hik
  refine ⟨kx, [xo, xa], by rw [List.getElem?_set, if_pos rfl, if_pos hi], rfl, fun j u hj => ?_, rLodKeeper_good.low _ 0 _ _ _ (Nat.zero_le _) (tLodKeeper_r (tLodKeeper_goodT.stays _ _ _ _ _ hkeep hx))⟩
  rw [Nat.zero_add]
  exact hr j u hj
 ·obtain ⟨cs, hcs⟩ : ∃ cs, css[i]? = some cs := ⟨_, List.getElem?_eq_getElem (by rw [h.len]; exact hi)⟩
  have hz := h.sz cs (List.mem_of_getElem? hcs)
  obtain ⟨o, a, rfl⟩ : ∃ o a, cs = [o, a] := by
   match cs, hz with
   | [o, a], _ => exact ⟨o, a, rfl⟩
  refine ⟨x, [o, a], by rw [List.getElem?_set, if_neg (fun e => hik e.symm)]; exact hxi, rfl, fun j u hj => ?_, rLodKeeper_good.low _ 0 _ _ _ (Nat.zero_le _) (tLodKeeper_r (tLodKeeper_goodT.stays _ _ _ _ _ hkeep (h.row i x o a hik hxi hcs).1))⟩
  have hj2 : j < 2 := by have := (List.getElem?_eq_some_iff.1 hj).1; simpa using this
  rw [Nat.zero_add, hoth _ (by omega)]
  exact hcell _ u ((flat_at h.sz hcs hj2).trans hj)

def pickF (B r q n k b : Nat) (pf lv : Value) (rows : Nat → List Value) (e : TypeId) : Nat → Value → World → Prop
 | 0, v, _ => v = pf
 | 1, v, _ => v = lv
 | 2, v, _ => v = .pointer (some ⟨r, 0, none⟩)
 | 3, v, _ => v = pf
 | 4, v, _ => v = lv
 | 5, v, _ => v = .int .i64 (n : Int)
 | 6, v, w => ∃ x, x < n ∧ v = .int .i64 (x : Int) ∧ Rd w r (q + 1)
 | 7, v, _ => ∃ x, x < n ∧ v = .pointer (some ⟨b, x * k, none⟩)
 | 8, v, _ => ∃ x, x < n ∧ v = .agg (rows x).toArray
 | 9, v, w => ∃ c cs, v = .pointer (some ⟨c, 0, none⟩) ∧ B ≤ c ∧ w.heap[c]? = some (.cells cs e (0, 0)) ∧ cs.size = k
 | _, _, _ => True
def pickI (r q : Nat) (i : Nat) (w : World) : Prop := i = 6 → Rd w r q
def pickG (r : Nat) (i : Nat) (w w' : World) : Prop := (i = 6 ∧ Ex r w.heap.size w w') ∨ Below w.heap.size w w'
theorem pickF_stays {B r q n k b : Nat} (hr : r < B) {pf lv : Value} {rows : Nat → List Value} {e : TypeId} : ∀ i j u w w', i ≠ j → pickG r j w w' → pickF B r q n k b pf lv rows e i u w → pickF B r q n k b pf lv rows e i u w' := by
 intro i j u w w' hne hg h
 rcases hg with ⟨rfl, g⟩ | g
 ·match i with
  | 0 | 1 | 2 | 3 | 4 | 5 | 7 | 8 => exact h
  | 6 => exact absurd rfl hne
  | 9 =>
    obtain ⟨c, cs, h1, h2, h3, h4⟩ := h
    exact ⟨c, cs, h1, h2, (g.block c (by omega) (Array.getElem?_eq_some_iff.1 h3).1).trans h3, h4⟩
  | n + 10 => trivial
 ·match i with
  | 0 | 1 | 2 | 3 | 4 | 5 | 7 | 8 => exact h
  | 6 =>
    obtain ⟨x, h1, h2, h3⟩ := h
    exact ⟨x, h1, h2, rd_below g h3 h3.lt⟩
  | 9 =>
    obtain ⟨c, cs, h1, h2, h3, h4⟩ := h
    exact ⟨c, cs, h1, h2, (g.block c (Array.getElem?_eq_some_iff.1 h3).1).trans h3, h4⟩
  | n + 10 => trivial
theorem pickI_stays {r q : Nat} : ∀ i j w w', i ≠ j → pickG r j w w' → pickI r q i w → pickI r q i w' := by
 intro i j w w' hne hg h hi
 subst hi
 rcases hg with ⟨e, _⟩ | g
 ·exact absurd e.symm hne
 ·exact rd_below g (h rfl) (h rfl).lt
def noDead (i j : Nat) : Bool := false
theorem noDead_dead {l : List Oper} {n : Nat} : DeadF noDead l n := fun _ _ _ _ h => by cases h
theorem there_of {w : World} {c k : Nat} {cs : Array Value} {e : TypeId} (h : w.heap[c]? = some (.cells cs e (0, 0))) (hk : cs.size = k) : w.there c 0 k := fun j hj => by
 rw [Nat.zero_add]
 have h1 : (w.cell? ⟨c, j, none⟩) = some cs[j] := by simp [World.cell?, h, show j < cs.size by omega]
 exact ⟨by rw [h1]; rfl, by simp [World.frozen?, h]⟩
theorem Turn.cell {b c o : Nat} {w w' : World} (h : Turn b w w') (hc : c ≠ b) : w'.cell? ⟨c, o, none⟩ = w.cell? ⟨c, o, none⟩ := qag (h.block c hc)
theorem Turn.ex {b r N : Nat} {w w' : World} (h : Turn b w w') (hb : N ≤ b) : Ex r N w w' := ⟨h.os, h.tape, h.output, Nat.le_of_eq h.size, fun k _ hk => h.block k (by omega)⟩
theorem pick_nat {n : Nat} {x : Int} (h0 : 0 < n) (h : InPick (n : Int) x) : ∃ k : Nat, k < n ∧ x = (k : Int) := by
 obtain ⟨h1, h2, _⟩ := h
 have := h2 (by omega)
 exact ⟨x.toNat, by omega, by omega⟩

end Go.Proofs.YtfbonocadpknbaaGreatDoor
