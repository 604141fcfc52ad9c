

/-
  The walks of the program's newLodge: a lodge holds what the keepers have and whom they ask. Condition: the data can be read.
-/
import Derived.Test.YtmmlhnjmjmbfpaaGreatLodI
namespace Go.Proofs.YtmmlhnjmjmbfpaaGreat
set_option linter.unusedSimpArgs false
set_option linter.unusedVariables false
open Go.RowKit

def planF (p : DLodPlan) (g : DLodKeeper → ByteArray → Option Int) : Int → ByteArray → Option Int := fun k s => if 0 ≤ k then (match p.fKeepers[k.toNat]? with | some x => g x s | none => none) else none
/-- .. of the first j keepers -/
def planTo (p : DLodPlan) (g : DLodKeeper → ByteArray → Option Int) (j : Nat) : Int → ByteArray → Option Int := fun k s => if k < (j : Int) then planF p g k s else none
theorem planTo_zero (p : DLodPlan) (g : DLodKeeper → ByteArray → Option Int) (k : Int) (s : ByteArray) : planTo p g 0 k s = none := by
  unfold planTo planF
  by_cases h : k < 0
  · have : ¬ 0 ≤ k := by omega
    simp [h, this]
  · have : ¬ k < ((0 : Nat) : Int) := by omega
    rw [if_neg this]
theorem planTo_self (p : DLodPlan) (g : DLodKeeper → ByteArray → Option Int) (j : Nat) (s : ByteArray) : planTo p g j (j : Int) s = none := by simp [planTo]
theorem planTo_step {p : DLodPlan} {g : DLodKeeper → ByteArray → Option Int} {j : Nat} {x : DLodKeeper} (e : p.fKeepers[j]? = some x) (k : Int) (s : ByteArray) : plus (planTo p g j) (j : Int) (g x) k s = planTo p g (j + 1) k s := by
  unfold plus planTo
  by_cases hk : k = (j : Int)
  · subst hk
    have h1 : (j : Int) < ((j + 1 : Nat) : Int) := by omega
    simp only [if_true, h1]
    unfold planF
    rw [if_pos (by omega), Int.toNat_natCast, e]
  · rw [if_neg hk]
    by_cases h : k < (j : Int)
    · rw [if_pos h, if_pos (by omega)]
    · rw [if_neg h, if_neg (by omega)]
theorem planTo_all (p : DLodPlan) (g : DLodKeeper → ByteArray → Option Int) (k : Int) (s : ByteArray) : planTo p g p.fKeepers.length k s = planF p g k s := by
  unfold planTo
  by_cases h : k < (p.fKeepers.length : Int)
  · rw [if_pos h]
  · rw [if_neg h]
    unfold planF
    by_cases h0 : 0 ≤ k
    · rw [if_pos h0, List.getElem?_eq_none (by omega)]
    · rw [if_neg h0]

/-- at L lies a lodge of p's keepers -/
def Lodge (w : World) (L : Nat) (p : DLodPlan) : Prop :=
  ∃ (a : Option Addr) (len cap bo ba bl n : Nat), w.cell? ⟨L, 0, none⟩ = some (.slice a len cap) ∧ w.cell? ⟨L, 1, none⟩ = some (.map (some bo)) ∧ w.cell? ⟨L, 2, none⟩ = some (.map (some ba)) ∧ w.cell? ⟨L, 3, none⟩ = some (.map (some bl)) ∧
    Sl 2 rLodKeeper 0 w (.slice a len cap) p.fKeepers ∧ MapF w bo n (planF p ownK) ∧ MapF w ba n (planF p askK) ∧ (∃ g, MapF w bl n g) ∧ n ≤ 2000
theorem Lodge.below {w w' : World} {L : Nat} {p : DLodPlan} (h : Lodge w L p) (hb : Below w.heap.size w w') : Lodge w' L p := by
  obtain ⟨a, len, cap, bo, ba, bl, n, c0, c1, c2, c3, s, m1, m2, ⟨g, m3⟩, hn⟩ := h
  exact ⟨a, len, cap, bo, ba, bl, n, keep_cell hb c0, keep_cell hb c1, keep_cell hb c2, keep_cell hb c3, s.stays rLodKeeper_good (Keeps.of_below hb), m1.below hb, m2.below hb, ⟨g, m3.below hb⟩, hn⟩
/-- .. made out of w0, of which it is not known yet what can be laid out -/
def LodgeF (w0 w : World) (L : Nat) (p : DLodPlan) : Prop :=
  ∃ (a : Option Addr) (len cap bo ba bl n : Nat), w.cell? ⟨L, 0, none⟩ = some (.slice a len cap) ∧ w.cell? ⟨L, 1, none⟩ = some (.map (some bo)) ∧ w.cell? ⟨L, 2, none⟩ = some (.map (some ba)) ∧ w.cell? ⟨L, 3, none⟩ = some (.map (some bl)) ∧
    Sl 2 rLodKeeper 0 w0 (.slice a len cap) p.fKeepers ∧ MapF w bo n (planF p ownK) ∧ MapF w ba n (planF p askK) ∧ MapF w bl n (fun _ _ => none) ∧ n ≤ 1000 ∧ Below w0.heap.size w0 w ∧ w0.heap.size ≤ bl ∧ bo ≠ bl ∧ ba ≠ bl ∧ L ≠ bl ∧ w0.heap.size ≤ L
theorem LodgeF.lodge {w0 w : World} {L : Nat} {p : DLodPlan} (h : LodgeF w0 w L p) : Lodge w L p := by
  obtain ⟨a, len, cap, bo, ba, bl, n, c0, c1, c2, c3, s, m1, m2, m3, hn, hb, _⟩ := h
  exact ⟨a, len, cap, bo, ba, bl, n, c0, c1, c2, c3, s.stays rLodKeeper_good (Keeps.of_below hb), m1, m2, ⟨_, m3⟩, by omega⟩
theorem LodgeF.below {w0 w w' : World} {L : Nat} {p : DLodPlan} (h : LodgeF w0 w L p) (hb : Below w.heap.size w w') : LodgeF w0 w' L p := by
  obtain ⟨a, len, cap, bo, ba, bl, n, c0, c1, c2, c3, s, m1, m2, m3, hn, hw, h1, h2, h3, h4, h5⟩ := h
  exact ⟨a, len, cap, bo, ba, bl, n, keep_cell hb c0, keep_cell hb c1, keep_cell hb c2, keep_cell hb c3, s, m1.below hb, m2.below hb, m3.below hb, hn, hw.trans (hb.mono hw.size), h1, h2, h3, h4, h5⟩

def NewLodge (w : World) (p : DLodPlan) (e : Ending) (w' : World) : Prop :=
  Below w.heap.size w w' ∧ ((lodOk p = false ∧ e = .returned (.pointer none)) ∨ (lodOk p = true ∧ ∃ L, e = .returned (.pointer (some ⟨L, 0, none⟩)) ∧ Lodge w' L p))

def NewLodgeF (w : World) (p : DLodPlan) (e : Ending) (w' : World) : Prop :=
  Below w.heap.size w w' ∧ ((lodOk p = false ∧ e = .returned (.pointer none)) ∨ (lodOk p = true ∧ ∃ L, e = .returned (.pointer (some ⟨L, 0, none⟩)) ∧ LodgeF w w' L p))

set_option maxRecDepth 100000 in
set_option maxHeartbeats 8000000 in
theorem I_newLodgeF (x : DLodPlan) (v1 : Value) (w : World) (s1 : Sl 2 rLodKeeper 0 w v1 x.fKeepers) :
    Calls Tryz.prog 22 #[.agg #[v1]] w (NewLodgeF w x) := by
  obtain ⟨a, len, cap, rfl⟩ := s1.form
  obtain ⟨hl, hcap, hm⟩ := s1.len
  have m1 : len ≤ 9223372036854775807 := by unfold maxLen at hm; omega
  have HL := Lib.hid hl
  clear hl hm hcap
  have hmm := @run_makeMap Tryz.prog
  refine calls_hide fun R HR => ?_
  go_enter Tryz.func22, Tryz.ntmps22
  go_wp2_with fail
  all_goals first
    | (try go_returns
       exact HR.out _ _ ⟨by (repeat' (first | (with_reducible exact Below.refl _ _) | (with_reducible refine Below.alloc ?_ ?_ _) | (with_reducible refine Below.setCell ?_ ?_ _) | (with_reducible refine Below.drew ?_) | (refine below_hyp (by assumption) ?_ ?_) | go_size)), Or.inl ⟨by
         unfold lodOk; rw [HL.out]
         by_cases h8 : len ≤ 3
         · have h9 : ¬ 1 ≤ len := by omega
           rw [decide_eq_false h9]; simp
         · rw [decide_eq_false h8]; simp, rfl⟩⟩)
    | skip
  have hn1 : 1 ≤ len := by omega
  have hn3 : len ≤ 3 := by omega
  obtain ⟨wS, hwS⟩ : ∃ wS, wS = ((((w.alloc (.cells #[.slice a len cap] 33)).alloc (.map #[] 0)).alloc (.map #[] 0)).alloc (.map #[] 0)).alloc (.cells #[.slice a len cap, .map (some (w.heap.size + 1)), .map (some (w.heap.size + 1 + 1)), .map (some (w.heap.size + 1 + 1 + 1))] 78) := ⟨_, rfl⟩
  rw [← hwS]
  have hES : Below w.heap.size w wS := by rw [hwS]; (repeat' (first | (with_reducible exact Below.refl _ _) | (with_reducible refine Below.alloc ?_ ?_ _) | (with_reducible refine Below.setCell ?_ ?_ _) | (with_reducible refine Below.drew ?_) | (refine below_hyp (by assumption) ?_ ?_) | go_size))
  have k0 : wS.cell? ⟨w.heap.size + 1 + 1 + 1 + 1, 0, none⟩ = some (.slice a len cap) := by rw [hwS]; go_simp
  have k1 : wS.cell? ⟨w.heap.size + 1 + 1 + 1 + 1, 1, none⟩ = some (.map (some (w.heap.size + 1))) := by rw [hwS]; go_simp
  have k2 : wS.cell? ⟨w.heap.size + 1 + 1 + 1 + 1, 2, none⟩ = some (.map (some (w.heap.size + 1 + 1))) := by rw [hwS]; go_simp
  have k3 : wS.cell? ⟨w.heap.size + 1 + 1 + 1 + 1, 3, none⟩ = some (.map (some (w.heap.size + 1 + 1 + 1))) := by rw [hwS]; go_simp
  have M1 : MapF wS (w.heap.size + 1) 0 (fun _ _ => none) := by
    have h := MapF.made (w.alloc (.cells #[.slice a len cap] 33))
    rw [World.size_alloc] at h
    rw [hwS]
    exact h.below (by (repeat' (first | (with_reducible exact Below.refl _ _) | (with_reducible refine Below.alloc ?_ ?_ _) | (with_reducible refine Below.setCell ?_ ?_ _) | (with_reducible refine Below.drew ?_) | (refine below_hyp (by assumption) ?_ ?_) | go_size)))
  have M2 : MapF wS (w.heap.size + 1 + 1) 0 (fun _ _ => none) := by
    have h := MapF.made ((w.alloc (.cells #[.slice a len cap] 33)).alloc (.map #[] 0))
    simp only [World.size_alloc] at h
    rw [hwS]
    exact h.below (by (repeat' (first | (with_reducible exact Below.refl _ _) | (with_reducible refine Below.alloc ?_ ?_ _) | (with_reducible refine Below.setCell ?_ ?_ _) | (with_reducible refine Below.drew ?_) | (refine below_hyp (by assumption) ?_ ?_) | go_size)))
  have M3 : MapF wS (w.heap.size + 1 + 1 + 1) 0 (fun _ _ => none) := by
    have h := MapF.made (((w.alloc (.cells #[.slice a len cap] 33)).alloc (.map #[] 0)).alloc (.map #[] 0))
    simp only [World.size_alloc] at h
    rw [hwS]
    exact h.below (by (repeat' (first | (with_reducible exact Below.refl _ _) | (with_reducible refine Below.alloc ?_ ?_ _) | (with_reducible refine Below.setCell ?_ ?_ _) | (with_reducible refine Below.drew ?_) | (refine below_hyp (by assumption) ?_ ?_) | go_size)))
  have MM1 := Lib.hid M1
  have MM2 := Lib.hid M2
  have MM3 := Lib.hid M3
  have K0 := Lib.hid k0
  have K1 := Lib.hid k1
  have K2 := Lib.hid k2
  have K3 := Lib.hid k3
  have hzS : w.heap.size + 1 + 1 + 1 + 1 < wS.heap.size := by rw [hwS]; simp
  clear hwS k0 k1 k2 k3 M1 M2 M3
  obtain ⟨L, hLd⟩ : ∃ L, L = w.heap.size + 1 + 1 + 1 + 1 := ⟨_, rfl⟩
  have hL1 : L ≠ w.heap.size + 1 := by omega
  have hL2 : L ≠ w.heap.size + 1 + 1 := by omega
  have HL3 : Hid (L = w.heap.size + 1 + 1 + 1 + 1) := Lib.hid hLd
  rw [← hLd] at K0 K1 K2 K3 hzS
  rw [← hLd]
  clear hLd
  go_loopw [25] (fun z wr => ∃ j : Nat, j ≤ len ∧ z = .int .i64 j ∧ EachTo (fun _ k => keeperOk x.fKeepers.length k) x.fKeepers j = true ∧ Below w.heap.size w wr ∧ Frame2 (w.heap.size + 1) (w.heap.size + 1 + 1) wS wr ∧ MapF wr (w.heap.size + 1) (10 * j) (planTo x ownK j) ∧ MapF wr (w.heap.size + 1 + 1) (10 * j) (planTo x askK j)) (fun z _ => len - (intOf z).toNat)
  case atStart => exact ⟨0, Nat.zero_le _, rfl, rfl, hES, Frame2.refl _ _ _, MM1.out.congr fun k s _ => (planTo_zero _ _ k s).symm, MM2.out.congr fun k s _ => (planTo_zero _ _ k s).symm⟩
  case round =>
    clear hmm
    obtain ⟨j, hj, rfl, ha, hb, hf, hmo, hma⟩ := hrel
    have HA := Lib.hid ha
    have HMO := Lib.hid hmo
    have HMA := Lib.hid hma
    clear ha hmo hma
    have hbx := hb.size
    have hfs := hf.1
    have k0 := hf.cell K0.out hL1 hL2
    have k1 := hf.cell K1.out hL1 hL2
    have k2 := hf.cell K2.out hL1 hL2
    have k3 := hf.cell K3.out hL1 hL2
    by_cases hlt : j < len
    · obtain ⟨y, hy⟩ : ∃ y, x.fKeepers[j]? = some y := ⟨_, List.getElem?_eq_getElem (by rw [HL.out]; exact hlt)⟩
      have E0 := Lib.hid hy
      clear hy
      go_wp2_with fail
      refine (I_enter x y w _ L (w.heap.size + 1) (w.heap.size + 1 + 1) j (10 * j) a len cap _ _ s1 E0.out hb hn3 k0 k1 k2 HMO.out HMA.out (by omega) (by omega) (by omega) (by omega) hL1 hL2 (planTo_self _ _ _) (planTo_self _ _ _)).mono ?_
      rintro _ w1 ⟨rfl, g, gf, gm⟩
      have hF1 := hf.trans gf
      have GM := Lib.hid gm
      clear gm k0 k1 k2 k3 gf hf
      cases hx : keeperOk len y
      · have H5 := Lib.hid hx
        clear hx
        go_wp2
        all_goals (try go_returns)
        all_goals exact HR.out _ _ ⟨g, Or.inl ⟨by
          have h5 : each (fun _ k => keeperOk x.fKeepers.length k) x.fKeepers = false := each_stop E0.out (by rw [HL.out]; exact H5.out)
          unfold lodOk; rw [h5]; simp, rfl⟩⟩
      have H5 := Lib.hid hx
      clear hx
      go_wp2
      go_roundw
      case measure => simp [intOf]; omega
      case rel =>
        obtain ⟨q1, q2⟩ := GM.out H5.out
        exact ⟨j + 1, by omega, by go_num, EachTo.step HA.out E0.out (by rw [HL.out]; exact H5.out), g, hF1, (q1.congr fun k s _ => planTo_step E0.out k s).mono (by omega), (q2.congr fun k s _ => planTo_step E0.out k s).mono (by omega)⟩
    · obtain rfl : j = len := by omega
      have hm3 : MapF wr (w.heap.size + 1 + 1 + 1) 0 (fun _ _ => none) := MM3.out.kept (hf.2 _ MM3.out.lt (by omega) (by omega))
      have KK0 := Lib.hid k0
      have KK1 := Lib.hid k1
      have KK2 := Lib.hid k2
      have KK3 := Lib.hid k3
      have HM3 := Lib.hid hm3
      clear k0 k1 k2 k3 hm3
      go_wp2
      all_goals (try go_returns)
      all_goals exact HR.out _ _ ⟨hb, Or.inr ⟨by
        have h5 : each (fun _ k => keeperOk x.fKeepers.length k) x.fKeepers = true := each_done HA.out HL.out
        unfold lodOk; rw [h5, HL.out, decide_eq_true hn1, decide_eq_true hn3]; rfl, L, rfl, a, j, cap, _, _, _, 10 * j, KK0.out, KK1.out, KK2.out, KK3.out, s1, HMO.out.congr (fun k s _ => by rw [← planTo_all, HL.out]), HMA.out.congr (fun k s _ => by rw [← planTo_all, HL.out]), HM3.out.mono (by omega), by omega, hb, by omega, by omega, by omega, by have := HL3.out; omega, by have := HL3.out; omega⟩⟩

theorem I_newLodge (x : DLodPlan) (v1 : Value) (w : World) (s1 : Sl 2 rLodKeeper 0 w v1 x.fKeepers) :
    Calls Tryz.prog 22 #[.agg #[v1]] w (NewLodge w x) :=
  (I_newLodgeF x v1 w s1).mono fun e w' h => ⟨h.1, h.2.imp id fun ⟨h1, L, h2, h3⟩ => ⟨h1, L, h2, h3.lodge⟩⟩

end Go.Proofs.YtmmlhnjmjmbfpaaGreat
