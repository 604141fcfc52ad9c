/-
  Texts of mine, packed: Refs, DrawR, LoOf, ChainI. No condition beside those of the single theorems.
-/
import Derived.Test.YtmbfpbgkchncgaaGreatK17
import Derived.Test.YtmbfpbgkchncgaaGreatK11
import Derived.Test.YtmbfpbgkchncgaaGreatK12
import Derived.Test.YtmbfpbgkchncgaaGreatK16
import Derived.Test.YtmbfpbgkchncgaaGreatK19
set_option linter.unusedSimpArgs false
set_option linter.unusedVariables false
set_option maxHeartbeats 16000000
set_option maxRecDepth 100000
namespace Go.Proofs.YtmbfpbgkchncgaaGreat
open Go.RowKit
theorem rLodRef_one : ∀ lo w cs x, rLodRef lo w cs x → ∀ u ∈ cs, u.oneCell' = true := by
 intro lo w cs x h u hu
 obtain ⟨rfl, _⟩ := h
 simp at hu
 rcases hu with rfl | rfl <;> rfl
def rLodRefB : RowRel DLodRef := fun lo w cs x => rLodRef lo w cs x ∧ 0 ≤ x.fKeeper ∧ x.fKeeper ≤ 3
theorem rLodRefB_goodT : GoodT NoT rLodRefB := ⟨fun _ _ _ _ _ _ h => h, fun _ _ _ _ _ _ h => h⟩
theorem rLodRefB_one : ∀ lo w cs x, rLodRefB lo w cs x → ∀ u ∈ cs, u.oneCell' = true := fun lo w cs x h => rLodRef_one lo w cs x h.1
theorem sty_Ref : STy 55 42 2 (.agg #[.int .i64 0, .string ⟨#[]⟩]) 24 := ⟨Tryz.underlying55, by kernel_rfl, rfl, by decide, by decide⟩
theorem TOwn.empty {α : Type} {k : Nat} {R : RowRel α} {e : TypeId} (lo B : Nat) (w : World) (hB : B ≤ w.heap.size) (hl : lo ≤ B) : TOwn k R e lo B (w.alloc (.cells #[] e)) (.slice (some ⟨w.heap.size, 0, none⟩) 0 0) ([] : List α) := by
 refine ⟨⟨[], Rows.nil, by simp, Or.inr ⟨w.heap.size, 0, #[], rfl, by omega, ?_, Nat.le_refl _, by decide, by simp, by simp⟩⟩, fun b h => ?_⟩
 ·exact (MapKept.heap_alloc w _).1
 ·simp [Value.ownBlock] at h; omega

theorem S_l7Classes (x : DLodPlan) (v1 : Value) (w : World) (s1 : Sl 2 rLodKeeper 0 w v1 x.fKeepers) (hp : lodOk x = true) :
  Calls Tryz.prog 120 #[.agg #[v1]] w fun e w' => (∃ (v : Value) (xs : List DLodRef), e = .returned v ∧ TOwn 2 rLodRefB 42 (w.heap.size + 1) (w.heap.size + 1) w' v xs ∧ xs.length ≤ 15) ∧ Below w.heap.size w w' := by
 obtain ⟨a, len, cap, rfl, hl, h1, h2, h3⟩ := id s1
 have m1 : len ≤ 9223372036854775807 := by unfold maxLen at h2; omega
 have hl3 := lodOk_len hp
 rw [hl] at hl3
 have HP := qhd hp
 have HL := qhd hl
 clear h2 hl h1 hp
 refine qab fun R HR => ?_
 go_enter Tryz.func120, Tryz.ntmps120
 go_wp2_with fail
 obtain ⟨wE, hwE⟩ : ∃ wE, wE = (w.alloc (.cells #[.slice a len cap] 25)).alloc (.cells #[] 42) := ⟨_, rfl⟩
 rw [← hwE]
 have hBE : Below w.heap.size w wE := by rw [hwE]; exact bbel
 have hsE : wE.heap.size = w.heap.size + 1 + 1 := by rw [hwE]; simp
 have c0 : wE.cell? ⟨w.heap.size, 0, none⟩ = some (.slice a len cap) := by rw [hwE]; go_simp
 have hT : TOwn 2 rLodRefB 42 (w.heap.size + 1) (w.heap.size + 1) wE (.slice (some ⟨w.heap.size + 1, 0, none⟩) 0 0) ([] : List DLodRef) := by
  rw [hwE]
  have := TOwn.empty (α := DLodRef) (k := 2) (R := rLodRefB) (e := 42) (w.heap.size + 1) (w.heap.size + 1) (w.alloc (.cells #[.slice a len cap] 25)) (by simp) (Nat.le_refl _)
  simpa using this
 clear hwE
 go_loopw [3, 4, 5] (fun zo zi zj wr => ∃ (i : Nat) (v : Value) (xs : List DLodRef), i ≤ len ∧ zo = v ∧ zi = .int .i64 i ∧ TOwn 2 rLodRefB 42 (w.heap.size + 1) (w.heap.size + 1) wr v xs ∧ xs.length ≤ 5 * i ∧ Below (w.heap.size + 1) wE wr) (fun _ zi _ _ => len - (intOf zi).toNat)
 case atStart => exact ⟨0, _, [], Nat.zero_le _, rfl, rfl, hT, by simp, Below.refl _ _⟩
 case round =>
  obtain ⟨i, v, xs, hi, rfl, rfl, ht, hx, hb⟩ := hrel
  obtain ⟨va, vn, vc, rfl⟩ := ht.sl.form3
  have HT := qhd ht
  clear ht
  have hbs := hb.size
  have r0 : wr.cell? ⟨w.heap.size, 0, none⟩ = some (.slice a len cap) := qax hb (by omega) c0
  have l0 : w.heap.size < wr.heap.size := block_lt_of_cell r0
  by_cases hlt : i < len
  ·have hlt2 : (i : Int) < (len : Int) := by omega
   obtain ⟨b, off, rfl, hlo, hbl, hr⟩ := h3 (by omega)
   obtain ⟨k, cs, e0, e1, e2, e3⟩ := hr i hlt
   obtain ⟨x1, x2, rfl, t1, t2⟩ := e3
   obtain ⟨xa2, xl2, xc2, rfl⟩ := t2.form
   obtain ⟨ya, yl, yc, rfl, yh, yc1, yc2, y3⟩ := id t1
   have hyl : yl ≤ 5 := by have := (keeperOk_parts (lodOk_keeper HP.out e0)).1; omega
   have hEw : Hid (∀ (g o : Nat) (u : Value), g < w.heap.size → w.cell? ⟨g, o, none⟩ = some u → ∀ W, Below (w.heap.size + 1) wE W → W.cell? ⟨g, o, none⟩ = some u) := qhd fun g o u hg hu W hW => qax hW (by omega) (qax hBE hg hu)
   have q1 : w.cell? ⟨b, off + i * 2, none⟩ = some (.slice ya yl yc) := e2 0 _ rfl
   have Q1 := qhd q1
   clear e0 e1 e2 hr t1 t2 yh yc1 yc2 q1
   have q1 := hEw.out _ _ _ hbl Q1.out wr hb
   have hblr : b < wr.heap.size := by omega
   go_wp2_with fail
   go_loopw [3, 5] (fun zo zj wr => ∃ (j : Nat) (v : Value) (xs : List DLodRef), j ≤ yl ∧ zo = v ∧ zj = .int .i64 j ∧ TOwn 2 rLodRefB 42 (w.heap.size + 1) (w.heap.size + 1) wr v xs ∧ xs.length ≤ 5 * i + j ∧ Below (w.heap.size + 1) wE wr) (fun _ zj _ => yl - (intOf zj).toNat)
   case atStart => exact ⟨0, _, xs, Nat.zero_le _, rfl, rfl, HT.out, by omega, hb⟩
   case round =>
    obtain ⟨j, v, ys, hj, rfl, rfl, ht2, hx2, hb2⟩ := hrel
    obtain ⟨ua, un, uc, rfl⟩ := ht2.sl.form3
    have HT2 := qhd ht2
    clear ht2
    have hbs2 := hb2.size
    have s0 : wr.cell? ⟨w.heap.size, 0, none⟩ = some (.slice (some ⟨b, off, none⟩) len cap) := qax hb2 (by omega) c0
    have l1 : w.heap.size < wr.heap.size := block_lt_of_cell s0
    have q2 := hEw.out _ _ _ hbl Q1.out wr hb2
    have hblq : b < wr.heap.size := by omega
    by_cases hlj : j < yl
    ·have hlj2 : (j : Int) < (yl : Int) := by omega
     obtain ⟨b', off', rfl, _, hbl', hr'⟩ := y3 (by omega)
     obtain ⟨c', cs', g0, g1, g2, g3⟩ := hr' j hlj
     obtain ⟨u1, u2, rfl, d1, d2, bx1, bx2⟩ := g3
     have p1 : wr.cell? ⟨b', off' + j * 4, none⟩ = some (.string c'.fName) := hEw.out _ _ _ hbl' (g2 0 _ rfl) wr hb2
     have hblq' : b' < wr.heap.size := by omega
     clear g0 g1 g2 hr' d1 d2
     go_wp2_with (at_builtin; refine qam (B := w.heap.size + 1) (lo := w.heap.size + 1) (R := rLodRefB) (E := NoT) (xs := ys) (ys := [⟨(i : Int), c'.fName⟩]) (css := [[.int .i64 (i : Int), .string c'.fName]]) (by rfl) (.tmp 25) (.tmp 38) 55 (by rfl) sty_Ref rLodRefB_goodT (fun h => h) rLodRefB_one (by rfl) (by rfl) (HT2.out.below rLodRefB_goodT ((Below.refl _ _).alloc (Nat.le_refl _) _)) (Src.new (k := 2) (cs := [.int .i64 (i : Int), .string c'.fName])) (Rows.one rfl ⟨⟨rfl, bx1⟩, by show (0 : Int) ≤ (i : Int); omega, by show (i : Int) ≤ 3; omega⟩) (by simp; omega) (Nat.le_refl _) (by simp; omega) ?_)
     intro v9 wt ht9 hb9 hg9 hk9 hat9
     have hB9 : Below (w.heap.size + 1) wE wt := (hb2.trans ((Below.refl _ _).alloc (by omega) _)).trans hb9
     have hn9 : (ys ++ [(⟨(i : Int), c'.fName⟩ : DLodRef)]).length ≤ 5 * i + (j + 1) := by simp; omega
     have HT9 := qhd ht9
     have HB9 := qhd hB9
     clear ht9 hb9 hg9 hk9 hat9 hB9
     go_wp2
     go_roundw
     case measure => simp [intOf]; omega
     case rel => exact ⟨j + 1, _, _, by omega, rfl, by go_num, HT9.out, hn9, HB9.out⟩
    ·obtain rfl : j = yl := by omega
     go_wp2
     go_roundw
     case measure => simp [intOf]; omega
     case rel => exact ⟨i + 1, _, ys, by omega, rfl, by go_num, HT2.out, by omega, hb2⟩
  ·obtain rfl : i = len := by omega
   go_wp2
   all_goals (try go_returns)
   all_goals exact HR.out _ _ ⟨⟨_, xs, rfl, HT.out, by omega⟩, hBE.trans (hb.mono (by omega))⟩

theorem S_PlanClasses (x : DLodPlan) (v1 : Value) (w : World) (s1 : Sl 2 rLodKeeper 0 w v1 x.fKeepers) :
  Calls Tryz.prog 88 #[.agg #[v1]] w fun e w' => (∃ (v : Value) (xs : List DLodRef), e = .returned v ∧ TOwn 2 rLodRefB 42 (w.heap.size + 1) (w.heap.size + 1) w' v xs ∧ xs.length ≤ 15) ∧ Below w.heap.size w w' := by
 obtain ⟨a, len, cap, rfl⟩ := s1.form
 have HS := qhd s1
 refine qab fun R HR => ?_
 go_enter Tryz.func88, Tryz.ntmps88
 go_wp2_with fail
 obtain ⟨wE, hwE⟩ : ∃ wE, wE = (w.alloc (.cells #[.slice a len cap] 25)).alloc (.cells #[] 42) := ⟨_, rfl⟩
 rw [← hwE]
 have hBE : Below w.heap.size w wE := by rw [hwE]; exact bbel
 have hsE : wE.heap.size = w.heap.size + 1 + 1 := by rw [hwE]; simp
 have c0 : wE.cell? ⟨w.heap.size, 0, none⟩ = some (.slice a len cap) := by rw [hwE]; go_simp
 have hT : TOwn 2 rLodRefB 42 (w.heap.size + 1) (w.heap.size + 1) wE (.slice (some ⟨w.heap.size + 1, 0, none⟩) 0 0) ([] : List DLodRef) := by
  rw [hwE]
  have := TOwn.empty (α := DLodRef) (k := 2) (R := rLodRefB) (e := 42) (w.heap.size + 1) (w.heap.size + 1) (w.alloc (.cells #[.slice a len cap] 25)) (by simp) (Nat.le_refl _)
  simpa using this
 clear hwE
 refine (S_LodOk x _ _ (HS.out.stays rLodKeeper_good (Keeps.of_below hBE))).mono ?_
 rintro _ w1 ⟨rfl, h1⟩
 have hs1 := h1.size
 have c1 := qaa h1 c0
 have hB1 : Below w.heap.size w w1 := hBE.trans (h1.mono hBE.size)
 have hT1 := hT.below rLodRefB_goodT h1
 clear c0 hT h1
 cases hok : lodOk x
 ·clear hok
  go_wp2
  all_goals (try go_returns)
  all_goals exact HR.out _ _ ⟨⟨_, [], rfl, hT1, by simp⟩, hB1⟩
 have HOK := qhd hok
 clear hok
 go_wp2_with fail
 refine (S_l7Classes x _ _ (HS.out.stays rLodKeeper_good (Keeps.of_below hB1)) HOK.out).mono ?_
 rintro _ w2 ⟨⟨v, xs, rfl, ht, hx⟩, h2⟩
 have hs2 := h2.size
 obtain ⟨va, vn, vc, rfl⟩ := ht.sl.form3
 have hvn : xs.length = vn := by
  obtain ⟨_, _, e, _⟩ := ht.sl.form
  cases e; rfl
 have c2 := qaa h2 c1
 have hB2 : Below w.heap.size w w2 := hB1.trans (h2.mono hB1.size)
 have hT2 := hT1.below rLodRefB_goodT h2
 have HT := qhd ht
 have hap : ∀ b, (Value.slice va vn vc).ownBlock = some b → (Value.slice (some ⟨w.heap.size + 1, 0, none⟩) 0 0).ownBlock ≠ some b := fun b hb e => by
  have h3 := ht.own b hb
  simp [Value.ownBlock] at e
  omega
 clear c1 hT1 ht h2
 go_wp2_with fail
 go_loopw [3, 5] (fun zo zi wr => ∃ (i : Nat) (u : Value) (ys : List DLodRef), i ≤ vn ∧ zo = u ∧ zi = .int .i64 i ∧ TOwn 2 rLodRefB 42 (w.heap.size + 1) (w.heap.size + 1) wr u ys ∧ TOwn 2 rLodRefB 42 (w1.heap.size + 1) (w1.heap.size + 1) wr (.slice va vn vc) xs ∧ (∀ b, (Value.slice va vn vc).ownBlock = some b → u.ownBlock ≠ some b) ∧ ys.length ≤ i ∧ Below (w.heap.size + 1) w2 wr) (fun _ zi _ => vn - (intOf zi).toNat)
 case atStart => exact ⟨0, _, [], Nat.zero_le _, rfl, rfl, hT2, HT.out, hap, by simp, Below.refl _ _⟩
 case round =>
  obtain ⟨i, u, ys, hi, rfl, rfl, ht, hta, hap2, hx2, hb⟩ := hrel
  obtain ⟨ua, un, uc, rfl⟩ := ht.sl.form3
  have HT2 := qhd ht
  have HTA := qhd hta
  have HAP := qhd hap2
  clear ht hap2
  have hbs := hb.size
  have r0 : wr.cell? ⟨w.heap.size, 0, none⟩ = some (.slice a len cap) := qax hb (by omega) c2
  have l0 : w.heap.size < wr.heap.size := block_lt_of_cell r0
  have hBr : Hid (Below w.heap.size w wr) := qhd (hB2.trans (hb.mono (by omega)))
  by_cases hlt : i < vn
  ·have hlt2 : (i : Int) < (vn : Int) := by omega
   obtain ⟨b, cap', css, e, hb1, hb2, hb3, hb4, hrows⟩ := hta.sl.rowsAt (by omega)
   cases e
   obtain ⟨y, hy⟩ : ∃ y, xs[i]? = some y := ⟨_, List.getElem?_eq_getElem (by omega)⟩
   obtain ⟨cs, hcs, hcl, ⟨⟨rfl, hyn⟩, hyk⟩, hrg⟩ := hrows i y hy
   have q1 : wr.cell? ⟨b, i * 2, none⟩ = some (.int .i64 y.fKeeper) := hrg 0 _ rfl
   have q2 : wr.cell? ⟨b, i * 2 + 1, none⟩ = some (.string y.fName) := hrg 1 _ rfl
   have HYN := qhd hyn
   have HYK := qhd hyk
   clear hrows hrg hcs hcl hy hta hyk
   have hbl9 : b < wr.heap.size := hb2
   obtain ⟨n9, hn9⟩ : ∃ n, (lodChain x y).length = n := ⟨_, rfl⟩
   have CH : ∀ W, Below wr.heap.size wr W → Calls Tryz.prog 45 #[.agg #[.slice a len cap], .agg #[.int .i64 y.fKeeper, .string y.fName]] W fun e w' => (∃ (ga : Option Addr) (gc : Nat), e = .returned (.slice ga n9 gc)) ∧ Below W.heap.size W w' := fun W hW =>
    (S_LodChain x _ y W (HS.out.stays rLodKeeper_good (Keeps.of_below (hBr.out.trans (hW.mono hBr.out.size)))) HYN.out).mono fun e w' h => by
     obtain ⟨⟨v, rfl, hrf⟩, hb⟩ := h
     obtain ⟨ga, gc, rfl, _, _⟩ := own_form hrf
     exact ⟨⟨ga, gc, by rw [hn9]⟩, hb⟩
   clear hn9
   go_wp2_with fail
   go_region_with (first | (go_at_call 45; refine (CH _ (by first | exact Below.refl _ _ | exact (Below.refl _ _).drew | exact ((Below.refl _ _).drew).drew)).mono ?_; rintro _ wc ⟨⟨ga, gc, rfl⟩, hc⟩; have hc' : Below wr.heap.size wr wc := ⟨hc.os, hc.tape, hc.output, hc.size, hc.block⟩; clear hc))
   all_goals
    have hsc := hc'.size
    have s0 := qaa hc' r0
    have s1 := qaa hc' q1
    have s2 := qaa hc' q2
    have hblc : b < wc.heap.size := by omega
    have HTB := qhd (HT2.out.below rLodRefB_goodT hc')
    have HTC := qhd (HTA.out.below rLodRefB_goodT hc')
    have HBC : Hid (Below (w.heap.size + 1) w2 wc) := qhd (hb.trans (hc'.mono (by omega)))
    clear r0 q1 q2 hc' hb CH
    by_cases h9 : 0 < n9
    ·have h9' : (0 : Int) < (n9 : Int) := by omega
     go_wp2_with (at_builtin; refine qam (B := w.heap.size + 1) (lo := w.heap.size + 1) (R := rLodRefB) (E := NoT) (xs := ys) (ys := [⟨y.fKeeper, y.fName⟩]) (css := [[.int .i64 y.fKeeper, .string y.fName]]) (by rfl) (.tmp 27) (.tmp 32) 55 (by rfl) sty_Ref rLodRefB_goodT (fun h => h) rLodRefB_one (by rfl) (by rfl) (HTB.out.below rLodRefB_goodT ((Below.refl _ _).alloc (Nat.le_refl _) _)) (Src.new (k := 2) (cs := [.int .i64 y.fKeeper, .string y.fName])) (Rows.one rfl ⟨⟨rfl, HYN.out⟩, HYK.out⟩) (by simp; omega) (Nat.le_refl _) (by simp; omega) ?_)
     intro v9 wt ht9 hb9 hg9 hk9 hat9
     have hs9 := hb9.size
     simp only [World.size_alloc] at hs9
     have HTD : Hid (TOwn 2 rLodRefB 42 (w1.heap.size + 1) (w1.heap.size + 1) wt (.slice (some ⟨b, 0, none⟩) xs.length vc) xs) := qhd ((HTC.out.below rLodRefB_goodT ((Below.refl _ _).alloc (Nat.le_refl _) _)).grown rLodRefB_goodT hg9 HAP.out)
     have HAQ : Hid (∀ g, (Value.slice (some ⟨b, 0, none⟩) xs.length vc).ownBlock = some g → v9.ownBlock ≠ some g) := qhd fun g hg e => by
      rcases hat9 g e with h | h
      ·exact HAP.out g hg h
      ·have := HTC.out.lt g hg
       skip
       omega
     have hB9 : Below (w.heap.size + 1) w2 wt := (HBC.out.trans ((Below.refl _ _).alloc (by omega) _)).trans hb9
     have hn9 : (ys ++ [(⟨y.fKeeper, y.fName⟩ : DLodRef)]).length ≤ i + 1 := by simp; omega
     have HT9 := qhd ht9
     have HB9 := qhd hB9
     clear ht9 hb9 hg9 hk9 hat9 hB9
     go_wp2
     go_roundw
     case measure => simp [intOf]; omega
     case rel => exact ⟨i + 1, _, _, by omega, rfl, by go_num, HT9.out, HTD.out, HAQ.out, hn9, HB9.out⟩
    ·have h9' : ¬ (0 : Int) < (n9 : Int) := by omega
     go_wp2
     go_roundw
     case measure => simp [intOf]; omega
     case rel => exact ⟨i + 1, _, ys, by omega, rfl, by go_num, HTB.out, HTC.out, HAP.out, by omega, HBC.out⟩
  ·obtain rfl : i = vn := by omega
   clear hta
   go_wp2
   all_goals (try go_returns)
   all_goals exact HR.out _ _ ⟨⟨_, ys, rfl, HT2.out, by omega⟩, hBr.out⟩

def Ref20 (r p : Nat) (w : World) (e : Ending) (w' : World) : Prop := ∃ (k : Int) (n : ByteArray) (q : Nat), e = .returned (.agg #[.int .i64 k, .string n]) ∧ n.size ≤ maxLen ∧ (-1 ≤ k ∧ k ≤ 9) ∧ (q ≤ p + 4 ∧ p < q) ∧ Rd w' r q ∧ Ex r w.heap.size w w'

theorem S_l20Ref (r p : Nat) (x : DLodPlan) (v1 : Value) (w : World) (s1 : Sl 2 rLodKeeper 0 w v1 x.fKeepers) (hr : Rd w r p) (hp : p < 800000) :
  Calls Tryz.prog 50 #[.pointer (some ⟨r, 0, none⟩), .agg #[v1]] w fun e w' => Ref20 r p w e w' := by
 have hlt := hr.lt
 obtain ⟨a, len, cap, rfl⟩ := s1.form
 have HS := qhd s1
 refine qab fun R HR => ?_
 go_enter Tryz.func50, Tryz.ntmps50
 go_wp2_with fail
 refine (S_PlanClasses x _ _ (HS.out.stays rLodKeeper_good (Keeps.of_below (((Below.refl _ _).alloc (Nat.le_refl _) _).alloc (by simp) _)))).mono ?_
 rintro _ w1 ⟨⟨v, xs, rfl, ht, hx⟩, h1⟩
 have h1s := (h1).size; (try simp only [qsz] at h1s)
 obtain ⟨h1ad, h1ao, h1ag, h1ap, h1ax, h1ay, h1ac1, h1af1, h1az1⟩ := bf2 (n := w.heap.size) h1
 obtain ⟨va, vn, vc, rfl⟩ := ht.sl.form3
 have hvn : xs.length = vn := by
  obtain ⟨_, _, e, _⟩ := ht.sl.form
  cases e; rfl
 have E1 : Ex r w.heap.size w w1 := eexx
 have R1 : Rd w1 r p := rdd
 have HT := qhd ht
 have e0 : w1.cell? ⟨w.heap.size + 1, 0, none⟩ = some (.int .i64 0) := by go_simp
 have e1 : w1.cell? ⟨w.heap.size + 1, 1, none⟩ = some (.string ⟨#[]⟩) := by go_simp
 have f0 : w1.frozen? ⟨w.heap.size + 1, 0, none⟩ = false := by go_simp
 have f1 : w1.frozen? ⟨w.heap.size + 1, 1, none⟩ = false := by go_simp
 clear h1ad h1ag h1ax h1ao h1ap h1ay h1ac1 h1af1 h1az1 ht h1
 have l1 : w.heap.size + 1 < w1.heap.size := by omega
 have h00 : (⟨#[]⟩ : ByteArray).size ≤ maxLen := by decide
 rcases Nat.eq_zero_or_pos vn with hz | hz
 ·subst hz
  go_wp2_with fail
  refine (S_pick r p 5 _ (by omega) (rdd) (by omega)).mono ?_
  rintro _ w2 ⟨⟨y, hy, rfl⟩, R2, X2⟩
  have hs2 := X2.size
  have b2 := X2.block (w.heap.size + 1) (by omega) l1
  have hwr : IntKind.i64.wrap (y - 1) = y - 1 := by
   rcases five hy with rfl | rfl | rfl | rfl | rfl <;> rfl
  have HYB : Hid (-1 ≤ y - 1 ∧ y - 1 ≤ 9) := qhd (by rcases five hy with rfl | rfl | rfl | rfl | rfl <;> decide)
  clear hy
  go_wp2_with fail
  refine (S_l20Name r (p + 1) _ (rdd) (by omega)).mono ?_
  rintro _ w3 ⟨⟨nm, hnm, rfl⟩, R3, X3⟩
  have hs3 := X3.size
  have b3 := (X3.block (w.heap.size + 1) (by omega) (by omega)).trans b2
  have hnm2 : nm.size ≤ maxLen := by unfold maxLen; omega
  replace e0 := (qae b3).trans e0
  replace e1 := (qae b3).trans e1
  replace f0 := (qai b3).trans f0
  replace f1 := (qai b3).trans f1
  clear b2 b3
  go_wp2
  all_goals
   refine bodyPost_ret (v := ?_) ?hrun rfl ?_
   case hrun => (simp only [results, Tryz.results50]; go_simp; first | done | exact rfl)
   exact HR.out _ _ ⟨_, _, p + 1 + 1, rfl, by first | assumption | (unfold maxLen; omega), HYB.out, by omega, rdd, eexx⟩
 ·have hz2 : (0 : Int) < (vn : Int) := by omega
  go_wp2_with fail
  refine (S_pick r p 6 _ (by omega) (rdd) (by omega)).mono ?_
  rintro _ w2 ⟨⟨y, hy, rfl⟩, R2, X2⟩
  have hs2 := X2.size
  have b2 := X2.block (w.heap.size + 1) (by omega) l1
  clear hy
  by_cases hy0 : 0 < y
  ·go_wp2_with fail
   refine (S_pick r (p + 1) vn _ (by omega) R2 (by omega)).mono ?_
   rintro _ w3 ⟨⟨kx', hkx, rfl⟩, R3, X3⟩
   have hs3 := X3.size
   have b3 := (X3.block (w.heap.size + 1) (by omega) (by omega)).trans b2
   obtain ⟨kx, hkm, rfl⟩ := pick_nat (by omega) hkx
   obtain ⟨b, cap', css, e, hb1, hb2, hb3, hb4, hrows⟩ := HT.out.sl.rowsAt (by omega)
   cases e
   simp only [World.size_alloc] at hb1
   obtain ⟨u, hu⟩ : ∃ u, xs[kx]? = some u := ⟨_, List.getElem?_eq_getElem (by omega)⟩
   obtain ⟨cs, hcs, hcl, ⟨⟨rfl, hyn⟩, hyk⟩, hrg⟩ := hrows kx u hu
   have HYB : Hid (-1 ≤ u.fKeeper ∧ u.fKeeper ≤ 9) := qhd (by omega)
   have bb := (X3.block b (by omega) (by omega)).trans (X2.block b (by omega) hb2)
   have q1 : w3.cell? ⟨b, kx * 2, none⟩ = some (.int .i64 u.fKeeper) := (qae bb).trans (hrg 0 _ rfl)
   have q2 : w3.cell? ⟨b, kx * 2 + 1, none⟩ = some (.string u.fName) := (qae bb).trans (hrg 1 _ rfl)
   have hkm2 : (kx : Int) < (xs.length : Int) := by omega
   have hbw : b < w3.heap.size := by omega
   have hbn : b ≠ w.heap.size + 1 := by omega
   replace e0 := (qae b3).trans e0
   replace e1 := (qae b3).trans e1
   replace f0 := (qai b3).trans f0
   replace f1 := (qai b3).trans f1
   clear b2 b3 bb hrows hrg hcs hcl hu hkx hyk
   go_wp2
   all_goals
    refine bodyPost_ret (v := ?_) ?hrun rfl ?_
    case hrun => (simp only [results, Tryz.results50]; go_simp; first | done | exact rfl)
    exact HR.out _ _ ⟨_, _, p + 1 + 1, rfl, by first | assumption | (unfold maxLen; omega), HYB.out, by omega, rdd, eexx⟩
  ·go_wp2_with fail
   refine (S_pick r (p + 1) 5 _ (by omega) (rdd) (by omega)).mono ?_
   rintro _ w3 ⟨⟨y3, hy, rfl⟩, R3, X3⟩
   have hs3 := X3.size
   have b3 := (X3.block (w.heap.size + 1) (by omega) (by omega)).trans b2
   have hwr : IntKind.i64.wrap (y3 - 1) = y3 - 1 := by
    rcases five hy with rfl | rfl | rfl | rfl | rfl <;> rfl
   have HYB : Hid (-1 ≤ y3 - 1 ∧ y3 - 1 ≤ 9) := qhd (by rcases five hy with rfl | rfl | rfl | rfl | rfl <;> decide)
   clear hy
   go_wp2_with fail
   refine (S_l20Name r (p + 1 + 1) _ (rdd) (by omega)).mono ?_
   rintro _ w4 ⟨⟨nm, hnm, rfl⟩, R4, X4⟩
   have hs4 := X4.size
   have b4 := (X4.block (w.heap.size + 1) (by omega) (by omega)).trans b3
   have hnm2 : nm.size ≤ maxLen := by unfold maxLen; omega
   replace e0 := (qae b4).trans e0
   replace e1 := (qae b4).trans e1
   replace f0 := (qai b4).trans f0
   replace f1 := (qai b4).trans f1
   clear b2 b3 b4
   go_wp2
   all_goals
    refine bodyPost_ret (v := ?_) ?hrun rfl ?_
    case hrun => (simp only [results, Tryz.results50]; go_simp; first | done | exact rfl)
    exact HR.out _ _ ⟨_, _, p + 1 + 1 + 1, rfl, by first | assumption | (unfold maxLen; omega), HYB.out, by omega, rdd, eexx⟩

theorem S_DrawLodChainO (v : Value) (w : World) (hv : Bytes w v) :
  Calls Tryz.prog 43 #[v] w fun e w' => (∃ (pv : Value) (pl : DLodPlan) (k : Int) (nm : ByteArray), e = .returned (.tuple #[.agg #[pv], .agg #[.int .i64 k, .string nm]]) ∧ Sl 2 rLodKeeper w.heap.size w' pv pl.fKeepers ∧ nm.size ≤ maxLen ∧ -1 ≤ k ∧ k ≤ 9) ∧ Below w.heap.size w w' := by
 have hv' := hv
 refine qab fun R HR => ?_
 go_enter Tryz.func43, Tryz.ntmps43
 go_wp2_with fail
 refine (S_l20Open _ _ (by first | exact hv' | exact hv'.alloc _ | exact (hv'.alloc _).alloc _ | exact ((hv'.alloc _).alloc _).alloc _)).mono ?_
 rintro e w1 ⟨rfl, h1, h2, h3⟩
 simp only [World.size_alloc] at h1 h2 h3
 have h2s := (h2).size; (try simp only [qsz] at h2s)
 obtain ⟨h2ad, h2ao, h2ag, h2ap, h2ax, h2ay, h2ac1, h2af1, h2az1⟩ := bf2 (n := w.heap.size) h2
 go_wp2_with fail
 refine (S_l20PlanOr _ 0 12 _ (by omega) (by omega) (rdd) (by omega)).mono ?_
 rintro e w2 ⟨pv, pl, q, rfl, hs, hnr, hq, h4, h5⟩
 obtain ⟨a, len, cap, rfl⟩ := hs.form
 have HS := qhd hs
 clear hs hnr
 have h5s := (h5).size; (try simp only [qsz] at h5s)
 obtain ⟨h5bc, h5bd, h5bf, h5bg, h5bz, h5bx, h5by⟩ := efacts (n := w.heap.size) (k := 2) h5 (by go_size) (by go_size) (by first | omega | (simp; omega)); replace h5bd := h5bd (by decide); replace h5bg := h5bg (by decide); replace h5bx := h5bx (by decide); have h5bc1 := fun o => h5bc 1 o (by decide); have h5bf1 := fun o => h5bf 1 o (by decide); have h5bz1 := h5bz 1 (by decide); clear h5bc h5bf h5bz
 have hr2 : w.heap.size + 1 + 1 < w2.heap.size := by omega
 have hr1 : w.heap.size + 1 + 1 < w1.heap.size := by omega
 obtain ⟨wE, hwE⟩ : ∃ wE, wE = w2.alloc (.cells #[.slice a len cap] 25) := ⟨_, rfl⟩
 have hsE : wE.heap.size = w2.heap.size + 1 := by rw [hwE]; simp
 have c7 : wE.cell? ⟨w2.heap.size, 0, none⟩ = some (.slice a len cap) := by rw [hwE]; go_simp
 have e0 : wE.cell? ⟨w.heap.size, 0, none⟩ = some (.slice none 0 0) := by rw [hwE]; go_simp
 have e1 : wE.cell? ⟨w.heap.size + 1, 0, none⟩ = some (.int .i64 0) := by rw [hwE]; go_simp
 have e2 : wE.cell? ⟨w.heap.size + 1, 1, none⟩ = some (.string ⟨#[]⟩) := by rw [hwE]; go_simp
 have f0 : wE.frozen? ⟨w.heap.size, 0, none⟩ = false := by rw [hwE]; go_simp
 have f1 : wE.frozen? ⟨w.heap.size + 1, 0, none⟩ = false := by rw [hwE]; go_simp
 have f2 : wE.frozen? ⟨w.heap.size + 1, 1, none⟩ = false := by rw [hwE]; go_simp
 have EW : Hid (Ex (w.heap.size + 1 + 1) w.heap.size w wE) := qhd (by rw [hwE]; exact eexx)
 have RE : Rd wE (w.heap.size + 1 + 1) q := by rw [hwE]; exact rdd
 have HSE : Hid (Sl 2 rLodKeeper w1.heap.size wE (.slice a len cap) pl.fKeepers) := qhd (by rw [hwE]; exact HS.out.stays rLodKeeper_good (Keeps.alloc (Keeps.refl _ _) _))
 have hl2 : w2.heap.size < wE.heap.size := by omega
 clear h2ad h2ag h2ax h2ay h2ao h2ap h5bd h5bg h5bx h5by h2ac1 h2af1 h2az1 h5bc1 h5bf1 h5bz1 h2 h5 h4 h1
 go_wp2_with fail
 rw [← hwE]
 clear hwE
 have CR : ∀ (W : World) (qq : Nat), qq ≤ q + 4 → Rd W (w.heap.size + 1 + 1) qq → Ex (w.heap.size + 1 + 1) wE.heap.size wE W → Calls Tryz.prog 50 #[.pointer (some ⟨w.heap.size + 1 + 1, 0, none⟩), .agg #[.slice a len cap]] W fun e w' => ∃ (k : Int) (n : ByteArray) (qz : Nat), e = .returned (.agg #[.int .i64 k, .string n]) ∧ n.size ≤ maxLen ∧ (-1 ≤ k ∧ k ≤ 9) ∧ qz ≤ qq + 4 ∧ Rd w' (w.heap.size + 1 + 1) qz ∧ Ex (w.heap.size + 1 + 1) wE.heap.size wE w' := fun W qq h1 h2 h3 =>
  (S_l20Ref (w.heap.size + 1 + 1) qq pl _ W ((HSE.out.stays rLodKeeper_good (Keeps.of_ex h3 hr1 (Nat.le_refl _))).low rLodKeeper_good (Nat.zero_le _)) h2 (by omega)).mono fun e w' h => by
   obtain ⟨k, n, qz, h4, h5, hkb, h6, h7, h8⟩ := h
   exact ⟨k, n, qz, h4, h5, hkb, h6.1, h7, h3.trans (h8.mono h3.size)⟩
 go_region_with (first | (go_at_call 50; refine (CR _ q (by omega) (by first | exact RE | exact RE.drew | exact RE.drew.drew) (by first | exact Ex.refl _ _ _ | exact (Ex.refl _ _ _).drew | exact ((Ex.refl _ _ _).drew).drew)).mono ?_; rintro _ w7 ⟨k7, n7, q7, rfl, hn7, hkb7, hq7, R7, hX7⟩; have hsl := hX7.size; have e0z := (qae (o := 0) (hX7.block (w.heap.size) (by omega) (by omega))).trans e0; have e1z := (qae (o := 0) (hX7.block (w.heap.size + 1) (by omega) (by omega))).trans e1; have e2z := (qae (o := 1) (hX7.block (w.heap.size + 1) (by omega) (by omega))).trans e2; have f0z := (qai (o := 0) (hX7.block (w.heap.size) (by omega) (by omega))).trans f0; have f1z := (qai (o := 0) (hX7.block (w.heap.size + 1) (by omega) (by omega))).trans f1; have f2z := (qai (o := 1) (hX7.block (w.heap.size + 1) (by omega) (by omega))).trans f2; have c77 := (qae (o := 0) (hX7.block (w2.heap.size) (by omega) hl2)).trans c7))
 all_goals
  have hl0 : w.heap.size < w7.heap.size := by omega
  have hl1 : w.heap.size + 1 < w7.heap.size := by omega
  have HSL : Hid (Sl 2 rLodKeeper w1.heap.size w7 (.slice a len cap) pl.fKeepers) := qhd (HSE.out.stays rLodKeeper_good (Keeps.of_ex hX7 hr1 (Nat.le_refl _)))
  have EWL := EW.out.trans (hX7.mono (by omega))
  clear hX7
  go_wp2
  refine bodyPost_ret (v := ?_) ?hrun rfl ?_
  case hrun => (simp only [results, Tryz.results43]; go_simp; first | done | exact rfl)
  exact HR.out _ _ ⟨⟨_, pl, k7, n7, rfl, (HSL.out.stays rLodKeeper_good (by (repeat' (first | (with_reducible exact Keeps.refl _ _) | (with_reducible refine Keeps.alloc ?_ _) | (with_reducible refine Keeps.setCell ?_ ?_ _) | (with_reducible refine Keeps.drew ?_) | (refine keeps_hyp (by assumption) ?_ ?_) | go_size)))).low rLodKeeper_good (by omega), hn7, hkb7⟩, eexx⟩
theorem Below.drewN {B : Nat} {a w : World} (h : Below B a w) (q : Nat) : Below B a (w.drewN q) := ⟨h.os, h.tape, h.output, h.size, h.block⟩

theorem L_loOk' (w : World) : Calls Tryz.prog 11 #[] w fun e w' => e = .returned (.bool true) ∧ Below w.heap.size w w' := by
 refine qab fun R HR => ?_
 go_enter Tryz.func11, Tryz.ntmps11
 go_wp2_with (go_at_call 40; refine (I_NamOk _ _ (by decide)).mono ?_; rintro _ _ ⟨rfl, rfl⟩)
 all_goals (try go_returns)
 all_goals exact HR.out _ _ ⟨rfl, bbel⟩

theorem loOf_hit {p : DLodPlan} {i : Nat} {k : DLodKeeper} {nm : ByteArray} {j : Nat} {c : DClsClass} (hk : p.fKeepers[i]? = some k) (h : EachTo (nots fun c => sameN c.fName nm) k.fOwns j = true) (hc : k.fOwns[j]? = some c) (hs : sameN c.fName nm = true) : loOfP p ⟨(i : Int), nm⟩ = c := by
 have hi := (List.getElem?_eq_some_iff.1 hk).1
 unfold loOfP
 rw [if_pos (by unfold inPlan; simp; omega)]
 simp only [Int.toNat_natCast, hk]
 rw [find_first, firstAt_hit' h hc hs]
 rw [if_pos (by omega), Int.toNat_natCast, hc]
theorem loOf_miss {p : DLodPlan} {i : Nat} {k : DLodKeeper} {nm : ByteArray} {j : Nat} (hk : p.fKeepers[i]? = some k) (h : EachTo (nots fun c => sameN c.fName nm) k.fOwns j = true) (hl : k.fOwns.length = j) : loOfP p ⟨(i : Int), nm⟩ = nilCls := by
 have hi := (List.getElem?_eq_some_iff.1 hk).1
 unfold loOfP
 rw [if_pos (by unfold inPlan; simp; omega)]
 simp only [Int.toNat_natCast, hk]
 rw [find_first, firstAt_none' h hl]
 rw [if_neg (by omega)]
theorem loOf_out {p : DLodPlan} {r : DLodRef} (h : inPlan p r.fKeeper = false) : loOfP p r = nilCls := by
 unfold loOfP; rw [h]; rfl

def LoV (c : DClsClass) (w : World) (v : Value) : Prop := ∃ (a1 : Option Addr) (l1 c1 : Nat) (a2 : Option Addr) (l2 c2 : Nat), v = .agg #[.string c.fName, .string c.fSuper, .slice a1 l1 c1, .slice a2 l2 c2] ∧ Sl 3 rClsField 0 w (.slice a1 l1 c1) c.fFields ∧ Sl 8 rClsMethod 0 w (.slice a2 l2 c2) c.fMethods
theorem LoV.nil {w : World} : LoV nilCls w (.agg #[.string ⟨#[]⟩, .string ⟨#[]⟩, .slice none 0 0, .slice none 0 0]) := ⟨_, _, _, _, _, _, rfl, ⟨none, 0, 0, rfl, rfl, Nat.le_refl _, Nat.zero_le _, fun h => absurd h (by omega)⟩, ⟨none, 0, 0, rfl, rfl, Nat.le_refl _, Nat.zero_le _, fun h => absurd h (by omega)⟩⟩
def LoOfX (p : DLodPlan) (v1 : Value) (r : DLodRef) (w : World) : Prop := ∃ v, LoV (loOfP p r) w v ∧ ∀ W, Below w.heap.size w W → Calls Tryz.prog 14 #[.agg #[v1], .agg #[.int .i64 r.fKeeper, .string r.fName]] W fun e w' => e = .returned v ∧ Below W.heap.size W w'
theorem L_loOf_far (p : DLodPlan) (a : Option Addr) (len cap : Nat) (rk : Int) (rn : ByteArray) (w : World) (m1 : len ≤ 9223372036854775807) (h : rk < 0 ∨ (len : Int) ≤ rk) : Calls Tryz.prog 14 #[.agg #[.slice a len cap], .agg #[.int .i64 rk, .string rn]] w fun e w' => e = .returned (.agg #[.string ⟨#[]⟩, .string ⟨#[]⟩, .slice none 0 0, .slice none 0 0]) ∧ Below w.heap.size w w' := by
 by_cases k0 : rk < 0
 ·clear h
  refine qab fun R HR => ?_
  go_enter Tryz.func14, Tryz.ntmps14
  go_wp2
  all_goals
   refine bodyPost_ret (v := ?_) ?hrun rfl ?_
   case hrun => (simp only [results, Tryz.results14]; go_simp; first | done | exact rfl)
   exact HR.out _ _ ⟨rfl, bbel⟩
 ·have hi2 : (len : Int) ≤ rk := by omega
  clear h
  refine qab fun R HR => ?_
  go_enter Tryz.func14, Tryz.ntmps14
  go_wp2
  all_goals
   refine bodyPost_ret (v := ?_) ?hrun rfl ?_
   case hrun => (simp only [results, Tryz.results14]; go_simp; first | done | exact rfl)
   exact HR.out _ _ ⟨rfl, bbel⟩

theorem L_loOfX (p : DLodPlan) (v1 : Value) (r : DLodRef) (w0 : World) (s1 : Sl 2 rLodKeeper 0 w0 v1 p.fKeepers) : LoOfX p v1 r w0 := by
 obtain ⟨a, len, cap, rfl, hl, h1, h2, h3⟩ := id s1
 have m1 : len ≤ 9223372036854775807 := by unfold maxLen at h2; omega
 obtain ⟨rk, rn⟩ := r
 have HL := qhd hl
 clear h2 hl h1
 by_cases k0 : rk < 0 ∨ (len : Int) ≤ rk
 ·exact ⟨_, by rw [show loOfP p ⟨rk, rn⟩ = nilCls from loOf_out (by unfold inPlan; rw [HL.out]; simp; omega)]; exact LoV.nil, fun W hW => L_loOf_far p a len cap rk rn W m1 k0⟩
 obtain ⟨i, rfl⟩ : ∃ i : Nat, rk = (i : Int) := ⟨rk.toNat, by omega⟩
 have hi : i < len := by omega
 have hi2 : (i : Int) < (len : Int) := by omega
 clear k0
 obtain ⟨b, off, rfl, hlo, hbl, hr⟩ := h3 (by omega)
 obtain ⟨k, cs, e0, e1, e2, e3⟩ := hr i hi
 obtain ⟨x1, x2, rfl, t1, t2⟩ := e3
 obtain ⟨xa2, xl2, xc2, rfl⟩ := t2.form
 obtain ⟨ya, yl, yc, rfl, yh, yc1, yc2, y3⟩ := id t1
 have my : yl ≤ 9223372036854775807 := by unfold maxLen at yc2; omega
 have q1 : w0.cell? ⟨b, off + i * 2, none⟩ = some (.slice ya yl yc) := e2 0 _ rfl
 have q2 : w0.cell? ⟨b, off + i * 2 + 1, none⟩ = some (.slice xa2 xl2 xc2) := e2 1 _ rfl
 have E0 := qhd e0
 have YH := qhd yh
 clear e0 e1 e2 hr yh yc1 yc2 t2 t1 s1 h3
 rcases firstAt_cases (fun c : DClsClass => sameN c.fName rn) k.fOwns with ⟨hno, hall⟩ | ⟨z, c, hz, hc, hs, hbef⟩
 ·have hE : EachTo (nots fun c : DClsClass => sameN c.fName rn) k.fOwns yl = true := EachTo.mk fun j x hj hx => by simp [nots, hall j x hx]
  refine ⟨.agg #[.string ⟨#[]⟩, .string ⟨#[]⟩, .slice none 0 0, .slice none 0 0], by rw [loOf_miss E0.out hE YH.out]; exact LoV.nil, fun w hW => ?_⟩
  have HALL := qhd hall
  clear hall hno hE
  replace q1 := qaa hW q1
  replace q2 := qaa hW q2
  have hblw : b < w.heap.size := Nat.lt_of_lt_of_le hbl hW.size
  refine qab fun R HR => ?_
  go_enter Tryz.func14, Tryz.ntmps14
  go_wp2_with fail
  obtain ⟨wE, hwE⟩ : ∃ wE, wE = ((w.alloc (.cells #[.slice (some ⟨b, off, none⟩) len cap] 25)).alloc (.cells #[.int .i64 (i : Int), .string rn] 42)).alloc (.cells #[.string ⟨#[]⟩, .string ⟨#[]⟩, .slice none 0 0, .slice none 0 0] 29) := ⟨_, rfl⟩
  rw [← hwE]
  have hBE : Below w.heap.size w wE := by rw [hwE]; exact bbel
  have c0 : wE.cell? ⟨w.heap.size, 0, none⟩ = some (.slice (some ⟨b, off, none⟩) len cap) := by rw [hwE]; go_simp
  have c1 : wE.cell? ⟨w.heap.size + 1, 0, none⟩ = some (.int .i64 (i : Int)) := by rw [hwE]; go_simp
  have c2 : wE.cell? ⟨w.heap.size + 1, 1, none⟩ = some (.string rn) := by rw [hwE]; go_simp
  have r0 : wE.cell? ⟨w.heap.size + 1 + 1, 0, none⟩ = some (.string ⟨#[]⟩) := by rw [hwE]; go_simp
  have r1 : wE.cell? ⟨w.heap.size + 1 + 1, 1, none⟩ = some (.string ⟨#[]⟩) := by rw [hwE]; go_simp
  have r2 : wE.cell? ⟨w.heap.size + 1 + 1, 2, none⟩ = some (.slice none 0 0) := by rw [hwE]; go_simp
  have r3 : wE.cell? ⟨w.heap.size + 1 + 1, 3, none⟩ = some (.slice none 0 0) := by rw [hwE]; go_simp
  have f0 : wE.frozen? ⟨w.heap.size + 1 + 1, 0, none⟩ = false := by rw [hwE]; go_simp
  have f1 : wE.frozen? ⟨w.heap.size + 1 + 1, 1, none⟩ = false := by rw [hwE]; go_simp
  have f2 : wE.frozen? ⟨w.heap.size + 1 + 1, 2, none⟩ = false := by rw [hwE]; go_simp
  have f3 : wE.frozen? ⟨w.heap.size + 1 + 1, 3, none⟩ = false := by rw [hwE]; go_simp
  have hsE : wE.heap.size = w.heap.size + 1 + 1 + 1 := by rw [hwE]; simp
  clear hwE
  go_loopw [5] (fun z wr => ∃ j : Nat, j ≤ yl ∧ z = .int .i64 j ∧ Below wE.heap.size wE wr) (fun z _ => yl - (intOf z).toNat)
  case atStart => exact ⟨0, Nat.zero_le _, rfl, by (repeat' (first | (with_reducible exact Below.refl _ _) | (with_reducible refine Below.drewN ?_ _) | (with_reducible refine Below.alloc ?_ ?_ _) | (with_reducible refine Below.setCell ?_ ?_ _) | (with_reducible refine Below.drew ?_) | (refine below_hyp (by assumption) ?_ ?_) | go_size))⟩
  case round =>
   obtain ⟨j, hj, rfl, hb⟩ := hrel
   have hsE2 : w.heap.size + 3 ≤ wr.heap.size := by have := hb.size; omega
   have F0 := qas hb r0 f0
   have F1 := qas hb r1 f1
   have F2 := qas hb r2 f2
   have F3 := qas hb r3 f3
   have C0 := qaa hb c0
   have C1 := qaa hb c1
   have C2 := qaa hb c2
   have R0 := qaa hb r0
   have R1 := qaa hb r1
   have R2 := qaa hb r2
   have R3 := qaa hb r3
   have hbw := hBE.trans (hb.mono hBE.size)
   have q1r : wr.cell? ⟨b, off + i * 2, none⟩ = some (.slice ya yl yc) := qaa hbw q1
   have q2r : wr.cell? ⟨b, off + i * 2 + 1, none⟩ = some (.slice xa2 xl2 xc2) := qaa hbw q2
   by_cases hlt : j < yl
   ·obtain ⟨b', off', rfl, _, hbl', hr'⟩ := y3 (by omega)
    obtain ⟨c', cs', g0, g1, g2, g3⟩ := hr' j hlt
    obtain ⟨u1, u2, rfl, d1, d2, bx1, bx2⟩ := g3
    have p1 : wr.cell? ⟨b', off' + j * 4, none⟩ = some (.string c'.fName) := qaa hbw (qaa hW (g2 0 _ rfl))
    have hws := hW.size
    have hbl2 : b' < wr.heap.size := by omega
    have hx2 : (c'.fName.toList == rn.toList) = false := HALL.out j c' g0
    clear g0 g1 g2 hr' d1 d2
    have hjl : (j : Int) < (yl : Int) := by omega
    go_wp2_with fail
    go_quiet (fail)
    go_wp2
    go_roundw
    case measure => simp [intOf]; omega
    case rel => exact ⟨j + 1, by omega, by go_num, Below.drewN hb _⟩
   ·obtain rfl : j = yl := by omega
    go_wp2
    all_goals
     refine bodyPost_ret (v := ?_) ?hrun rfl ?_
     case hrun => (simp only [results, Tryz.results14]; go_simp; first | done | exact rfl)
     exact HR.out _ _ ⟨rfl, by (repeat' (first | (with_reducible exact Below.refl _ _) | (with_reducible refine Below.drewN ?_ _) | (with_reducible refine Below.alloc ?_ ?_ _) | (with_reducible refine Below.setCell ?_ ?_ _) | (with_reducible refine Below.drew ?_) | (refine below_hyp (by assumption) ?_ ?_) | go_size))⟩
 ·have hE : EachTo (nots fun c : DClsClass => sameN c.fName rn) k.fOwns z = true := EachTo.mk fun j x hj hx => by simp [nots, hbef j x hj hx]
  have hzl : z < yl := by have := (List.getElem?_eq_some_iff.1 hc).1; have := YH.out; omega
  obtain ⟨b', off', rfl, _, hbl', hr'⟩ := y3 (by omega)
  obtain ⟨c', cs', g0, g1, g2, g3⟩ := hr' z hzl
  obtain rfl : c = c' := Option.some.inj (hc.symm.trans g0)
  obtain ⟨u1, u2, rfl, d1, d2, bx1, bx2⟩ := g3
  obtain ⟨za1, zl1, zc1, rfl⟩ := d1.form
  obtain ⟨za2, zl2, zc2, rfl⟩ := d2.form
  refine ⟨.agg #[.string c.fName, .string c.fSuper, .slice za1 zl1 zc1, .slice za2 zl2 zc2], by rw [loOf_hit E0.out hE hc hs]; exact ⟨_, _, _, _, _, _, rfl, d1, d2⟩, fun w hW => ?_⟩
  have HB := qhd hbef
  have hws := hW.size
  replace q1 := qaa hW q1
  replace q2 := qaa hW q2
  have q3 := qaa hW (show w0.cell? ⟨b', off' + z * 4, none⟩ = some (.string c.fName) from g2 0 _ rfl)
  have q4 := qaa hW (show w0.cell? ⟨b', off' + z * 4 + 1, none⟩ = some (.string c.fSuper) from g2 1 _ rfl)
  have q5 := qaa hW (show w0.cell? ⟨b', off' + z * 4 + 2, none⟩ = some (.slice za1 zl1 zc1) from g2 2 _ rfl)
  have q6 := qaa hW (show w0.cell? ⟨b', off' + z * 4 + 3, none⟩ = some (.slice za2 zl2 zc2) from g2 3 _ rfl)
  have hblw : b < w.heap.size := Nat.lt_of_lt_of_le hbl hW.size
  have hblw' : b' < w.heap.size := Nat.lt_of_lt_of_le hbl' hW.size
  have hs2 : (c.fName.toList == rn.toList) = true := hs
  clear g0 g1 g2 d1 d2 hbef hz hc hs hE
  refine qab fun R HR => ?_
  go_enter Tryz.func14, Tryz.ntmps14
  go_wp2_with fail
  obtain ⟨wE, hwE⟩ : ∃ wE, wE = ((w.alloc (.cells #[.slice (some ⟨b, off, none⟩) len cap] 25)).alloc (.cells #[.int .i64 (i : Int), .string rn] 42)).alloc (.cells #[.string ⟨#[]⟩, .string ⟨#[]⟩, .slice none 0 0, .slice none 0 0] 29) := ⟨_, rfl⟩
  rw [← hwE]
  have hBE : Below w.heap.size w wE := by rw [hwE]; exact bbel
  have c0 : wE.cell? ⟨w.heap.size, 0, none⟩ = some (.slice (some ⟨b, off, none⟩) len cap) := by rw [hwE]; go_simp
  have c1 : wE.cell? ⟨w.heap.size + 1, 0, none⟩ = some (.int .i64 (i : Int)) := by rw [hwE]; go_simp
  have c2 : wE.cell? ⟨w.heap.size + 1, 1, none⟩ = some (.string rn) := by rw [hwE]; go_simp
  have r0 : wE.cell? ⟨w.heap.size + 1 + 1, 0, none⟩ = some (.string ⟨#[]⟩) := by rw [hwE]; go_simp
  have r1 : wE.cell? ⟨w.heap.size + 1 + 1, 1, none⟩ = some (.string ⟨#[]⟩) := by rw [hwE]; go_simp
  have r2 : wE.cell? ⟨w.heap.size + 1 + 1, 2, none⟩ = some (.slice none 0 0) := by rw [hwE]; go_simp
  have r3 : wE.cell? ⟨w.heap.size + 1 + 1, 3, none⟩ = some (.slice none 0 0) := by rw [hwE]; go_simp
  have f0 : wE.frozen? ⟨w.heap.size + 1 + 1, 0, none⟩ = false := by rw [hwE]; go_simp
  have f1 : wE.frozen? ⟨w.heap.size + 1 + 1, 1, none⟩ = false := by rw [hwE]; go_simp
  have f2 : wE.frozen? ⟨w.heap.size + 1 + 1, 2, none⟩ = false := by rw [hwE]; go_simp
  have f3 : wE.frozen? ⟨w.heap.size + 1 + 1, 3, none⟩ = false := by rw [hwE]; go_simp
  have hsE : wE.heap.size = w.heap.size + 1 + 1 + 1 := by rw [hwE]; simp
  clear hwE
  go_loopw [5] (fun y wr => ∃ j : Nat, j ≤ z ∧ y = .int .i64 j ∧ Below wE.heap.size wE wr) (fun z _ => yl - (intOf z).toNat)
  case atStart => exact ⟨0, Nat.zero_le _, rfl, by (repeat' (first | (with_reducible exact Below.refl _ _) | (with_reducible refine Below.drewN ?_ _) | (with_reducible refine Below.alloc ?_ ?_ _) | (with_reducible refine Below.setCell ?_ ?_ _) | (with_reducible refine Below.drew ?_) | (refine below_hyp (by assumption) ?_ ?_) | go_size))⟩
  case round =>
   obtain ⟨j, hj, rfl, hb⟩ := hrel
   have hsE2 : w.heap.size + 3 ≤ wr.heap.size := by have := hb.size; omega
   have F0 := qas hb r0 f0
   have F1 := qas hb r1 f1
   have F2 := qas hb r2 f2
   have F3 := qas hb r3 f3
   have C0 := qaa hb c0
   have C1 := qaa hb c1
   have C2 := qaa hb c2
   have R0 := qaa hb r0
   have R1 := qaa hb r1
   have R2 := qaa hb r2
   have R3 := qaa hb r3
   have hbw := hBE.trans (hb.mono hBE.size)
   have q1r := qaa hbw q1
   have q2r := qaa hbw q2
   have hbl2 : b' < wr.heap.size := by omega
   have hjy : j < yl := by omega
   by_cases hlt : j < z
   ·obtain ⟨c', cs', g0, g1, g2, g3⟩ := hr' j (by omega)
    obtain ⟨u1, u2, rfl, d1, d2, bx1, bx2⟩ := g3
    have p1 : wr.cell? ⟨b', off' + j * 4, none⟩ = some (.string c'.fName) := qaa hbw (qaa hW (g2 0 _ rfl))
    have hx2 : (c'.fName.toList == rn.toList) = false := HB.out j c' hlt g0
    clear g0 g1 g2 d1 d2 q3 q4 q5 q6
    have hjl : (j : Int) < (yl : Int) := by omega
    go_wp2_with fail
    go_quiet (fail)
    go_wp2
    go_roundw
    case measure => simp [intOf]; omega
    case rel => exact ⟨j + 1, by omega, by go_num, Below.drewN hb _⟩
   ·obtain rfl : j = z := by omega
    have q3r := qaa hbw q3
    have q4r := qaa hbw q4
    have q5r := qaa hbw q5
    have q6r := qaa hbw q6
    have hjl : (j : Int) < (yl : Int) := by omega
    go_wp2_with fail
    go_quiet (fail)
    go_wp2
    all_goals
     refine bodyPost_ret (v := ?_) ?hrun rfl ?_
     case hrun => (simp only [results, Tryz.results14]; go_simp; first | done | exact rfl)
     exact HR.out _ _ ⟨rfl, by (repeat' (first | (with_reducible exact Below.refl _ _) | (with_reducible refine Below.drewN ?_ _) | (with_reducible refine Below.alloc ?_ ?_ _) | (with_reducible refine Below.setCell ?_ ?_ _) | (with_reducible refine Below.drew ?_) | (refine below_hyp (by assumption) ?_ ?_) | go_size))⟩

theorem I_LodChain (x : DLodPlan) (v1 : Value) (r : DLodRef) (w : World) (s1 : Sl 2 rLodKeeper 0 w v1 x.fKeepers) (hn : r.fName.size ≤ maxLen) :
  Calls Tryz.prog 20 #[.agg #[v1], .agg #[.int .i64 r.fKeeper, .string r.fName]] w fun e w' => (∃ v, e = .returned v ∧ Refs w' w.heap.size v (lodChain x r)) ∧ Below w.heap.size w w' := by
 obtain ⟨a, len, cap, rfl⟩ := s1.form
 refine qab fun R HR => ?_
 go_enter Tryz.func20, Tryz.ntmps20
 go_wp2_with fail
 refine (I_newLodge x _ _ (s1.stays rLodKeeper_good (Keeps.of_below' (B := w.heap.size) (bbel) (Nat.le_refl _)))).mono ?_
 rintro _ wA ⟨hA, hq⟩
 have hEA : Below w.heap.size w wA := bbel
 have hAs := (hA).size; (try simp only [qsz] at hAs)
 obtain ⟨hAad, hAao, hAag, hAap, hAax, hAay, hAac1, hAaf1, hAaz1⟩ := bf2 (n := w.heap.size) hA
 rcases hq with ⟨hno, rfl⟩ | ⟨hy, L, rfl, hL⟩
 ·have RV : Hid (lodChain x r = []) := qhd (by unfold lodChain; rw [lodFind_no hno]; rfl)
  clear hno
  go_wp2
  all_goals (try go_returns)
  all_goals exact HR.out _ _ ⟨⟨_, rfl, by rw [RV.out]; exact ⟨by simp [flatR], Or.inl ⟨rfl, rfl⟩⟩⟩, bbel⟩
 ·have HL := qhd hL
  have HY := qhd hy
  clear hL hy
  go_wp2_with fail
  refine (I_chain x L r _ HL.out HY.out hn).mono ?_
  rintro _ wB ⟨⟨v, rfl, hv⟩, hB⟩
  have hBs := (hB).size; (try simp only [qsz] at hBs)
  have HV := qhd (hv.low (base' := w.heap.size) (by omega))
  clear hv
  go_wp2
  all_goals (try go_returns)
  all_goals exact HR.out _ _ ⟨⟨_, rfl, HV.out⟩, bbel⟩


end Go.Proofs.YtmbfpbgkchncgaaGreat
