/-
  Texts of mine, packed: LawLU, RowLU. No condition beside those of the single theorems.
-/
import Derived.Test.YtcdmmnfdnmjnpaaK21
import Derived.Test.YtcdmmnfdnmjnpaaK17
import Derived.Test.YtcdmmnfdnmjnpaaK20
import Derived.Test.YtcdmmnfdnmjnpaaK29
import Derived.Test.YtcdmmnfdnmjnpaaK2
import Derived.Test.YtcdmmnfdnmjnpaaK13
set_option linter.unusedSimpArgs false
set_option linter.unusedVariables false
namespace Go.Proofs.Ytcdmmnfdnmjnpaa
open Go.RowKit
set_option maxHeartbeats 400000 in
theorem L_loOkU (w : World) : Calls Try.prog 18 #[] w fun e w' => e = .returned (.bool true) ∧ Below w.heap.size w w' := by
  refine calls_hide fun R HR => ?_
  go_enter Try.func18, Try.ntmps18
  go_wp2_with (go_at_call 53; refine (I_NamOk _ _ (by decide)).mono ?_; rintro _ _ ⟨rfl, rfl⟩)
  all_goals (try go_returns)
  all_goals exact HR.out _ _ ⟨rfl, bbel⟩

def uF (pv : Value) (k1 k2 : Int) (n1 n2 : ByteArray) (sa : Bool) (na : Nat) (u z : Bool) : Nat → Value → World → Prop
  | 0, v, _ => v = .agg #[pv]
  | 1, v, _ => v = .agg #[.int .i64 k1, .string n1]
  | 2, v, _ => v = .agg #[.int .i64 k1, .string n1]
  | 3, v, _ => v = .bool sa
  | 4, v, _ => v = .agg #[pv]
  | 5, v, _ => v = .agg #[.int .i64 k1, .string n1]
  | 6, v, _ => ∃ (ga : Option Addr) (gc : Nat), v = .slice ga na gc
  | 7, v, _ => v = .int .i64 (na : Int)
  | 8, v, _ => v = .bool sa
  | 9, v, _ => v = .bool false
  | 10, v, _ => v = .bool false
  | 11, v, _ => v = .bool u
  | 12, v, _ => v = .bool u
  | 13, v, _ => match u with | true => v = .agg #[pv] | false => True
  | 14, v, _ => match u with | true => v = .agg #[.int .i64 k2, .string n2] | false => True
  | 15, v, _ => match u with | true => v = .agg #[.int .i64 k1, .string n1] | false => True
  | 16, v, _ => match u with | true => v = .bool z | false => True
  | 17, v, _ => v = .bool (u && z)
  | 18, v, _ => v = .bool (u && z)
  | 19, v, _ => match u && z with | true => v = .agg #[.int .i64 k1, .string n1] | false => True
  | 20, v, _ => match u && z with | true => v = .agg #[.int .i64 k2, .string n2] | false => True
  | 21, v, _ => match u && z with | true => v = .bool false | false => True
  | 22, v, _ => v = .bool false
  | 23, v, _ => v = .bool false
  | _, _, _ => True
theorem uF_stays {pv : Value} {k1 k2 : Int} {n1 n2 : ByteArray} {sa : Bool} {na : Nat} {u z : Bool} : ∀ i x w w', uF pv k1 k2 n1 n2 sa na u z i x w → uF pv k1 k2 n1 n2 sa na u z i x w' := by
  intro i x w w' h
  match i with
  | 0 | 1 | 2 | 3 | 4 | 5 | 6 | 7 | 8 | 9 | 10 | 11 | 12 | 13 | 14 | 15 | 16 | 17 | 18 | 19 | 20 | 21 | 22 | 23 => exact h
  | n + 24 => trivial

set_option maxRecDepth 100000 in
set_option maxHeartbeats 16000000 in
theorem L_FnLodUnder (v : Value) (w : World) (hv : Bytes w v) :
    Calls Try.prog 13 #[v] w fun e w' => e = .returned (.bool true) ∧ Below w.heap.size w w' := by
  obtain ⟨c, len, cap, rfl, g1, g2, g3⟩ := id hv
  have m1 : len ≤ 9223372036854775807 := by unfold maxLen at g2; omega
  clear g2 g3
  refine calls_hide fun R HR => ?_
  go_enter Try.func13, Try.ntmps13
  go_wp2_with fail
  all_goals first
    | (try go_returns
       exact HR.out _ _ ⟨rfl, bbel⟩)
    | skip
  refine (S_DrawLodUnder _ _ hv).mono ?_
  rintro _ w1 ⟨⟨pv, pl, k1, k2, n1, n2, rfl, hs, hn1, hn2⟩, h1⟩
  have h1s := (h1).size; (try simp only [World.size_alloc, World.size_setCell, World.size_drew] at h1s)
  obtain ⟨fa, fl, fc, rfl⟩ := hs.form
  obtain ⟨u, hu⟩ : ∃ x, lodUnder pl ⟨k1, n1⟩ ⟨k2, n2⟩ = x := ⟨_, rfl⟩
  obtain ⟨z, hz⟩ : ∃ x, lodUnder pl ⟨k2, n2⟩ ⟨k1, n1⟩ = x := ⟨_, rfl⟩
  obtain ⟨sa, hsa⟩ : ∃ x, lodUnder pl ⟨k1, n1⟩ ⟨k1, n1⟩ = x := ⟨_, rfl⟩
  obtain ⟨na, hna'⟩ : ∃ x, (lodChain pl ⟨k1, n1⟩).length = x := ⟨_, rfl⟩
  have hna : (sa = false ∧ na = 0) ∨ (sa = true ∧ (0 : Int) < (na : Int)) := by
    have h := plain_under_self (p := pl) (a := ⟨k1, n1⟩) hn1
    rw [hsa] at h
    rcases List.eq_nil_or_concat (lodChain pl ⟨k1, n1⟩) with e | ⟨l, b, e⟩
    · rw [e] at h hna'; exact Or.inl ⟨h, hna'.symm⟩
    · rw [e] at h hna'
      refine Or.inr ⟨by rw [h]; simp, ?_⟩
      simp at hna'
      omega
  have CG : Hid (∀ (W : World) (x y : DLodRef), x.fName.size ≤ maxLen → Below w1.heap.size w1 W → Calls Try.prog 45 #[.agg #[.slice fa fl fc], .agg #[.int .i64 x.fKeeper, .string x.fName], .agg #[.int .i64 y.fKeeper, .string y.fName]] W fun e w' => e = .returned (.bool (lodUnder pl x y)) ∧ Below W.heap.size W w') := Lib.hid fun W x y hx hW => I_LodUnder pl _ x y W (hs.stays rLodKeeper_good (Keeps.of_below' hW (Nat.le_refl _))) hx
  have CX : Hid (∀ W, Below w1.heap.size w1 W → Calls Try.prog 45 #[.agg #[.slice fa fl fc], .agg #[.int .i64 k1, .string n1], .agg #[.int .i64 k2, .string n2]] W fun e w' => e = .returned (.bool u) ∧ Below W.heap.size W w') := Lib.hid fun W hW => by have := CG.out W ⟨k1, n1⟩ ⟨k2, n2⟩ hn1 hW; rw [hu] at this; exact this
  have CS : Hid (∀ W, Below w1.heap.size w1 W → Calls Try.prog 46 #[.agg #[.slice fa fl fc], .agg #[.int .i64 k1, .string n1], .agg #[.int .i64 k2, .string n2]] W fun e w' => e = .returned (.bool u) ∧ Below W.heap.size W w') := Lib.hid fun W hW => by have := S_LodUnder pl _ ⟨k1, n1⟩ ⟨k2, n2⟩ W (hs.stays rLodKeeper_good (Keeps.of_below' hW (Nat.le_refl _))) hn1; rw [hu] at this; exact this
  have CC : Hid (∀ (W : World) (x : DLodRef), x.fName.size ≤ maxLen → Below w1.heap.size w1 W → Calls Try.prog 34 #[.agg #[.slice fa fl fc], .agg #[.int .i64 x.fKeeper, .string x.fName]] W fun e w' => (∃ v, e = .returned v ∧ Refs w' W.heap.size v (lodChain pl x)) ∧ Below W.heap.size W w') := Lib.hid fun W x hx hW => I_LodChain pl _ x W (hs.stays rLodKeeper_good (Keeps.of_below' hW (Nat.le_refl _))) hx
  have HU := Lib.hid hu
  have HZ := Lib.hid hz
  have HNA := Lib.hid hna'
  clear hs hu
  go_wp2_with fail
  refine (CX.out _ (bbel)).mono ?_
  rintro _ w2 ⟨rfl, h2⟩
  have h2s := (h2).size; (try simp only [World.size_alloc, World.size_setCell, World.size_drew] at h2s)
  obtain ⟨h2pd, h2po, h2pg, h2pp, h2px, h2py, h2pc1, h2pf1, h2pz1, h2pc2, h2pf2, h2pz2⟩ := bf3 (n := w1.heap.size) h2
  go_wp2_with fail
  refine (CS.out _ (bbel)).mono ?_
  rintro _ wE ⟨rfl, h3⟩
  have h3s := (h3).size; (try simp only [World.size_alloc, World.size_setCell, World.size_drew] at h3s)
  obtain ⟨h3pd, h3po, h3pg, h3pp, h3px, h3py, h3pc1, h3pf1, h3pz1, h3pc2, h3pf2, h3pz2⟩ := bf3 (n := w1.heap.size) h3
  have e0 : wE.cell? ⟨w1.heap.size, 0, none⟩ = some (.slice fa fl fc) := by go_simp
  have e1 : wE.cell? ⟨w1.heap.size + 1, 0, none⟩ = some (.int .i64 k1) := by go_simp
  have e2 : wE.cell? ⟨w1.heap.size + 1, 1, none⟩ = some (.string n1) := by go_simp
  have e3 : wE.cell? ⟨w1.heap.size + 1 + 1, 0, none⟩ = some (.int .i64 k2) := by go_simp
  have e4 : wE.cell? ⟨w1.heap.size + 1 + 1, 1, none⟩ = some (.string n2) := by go_simp
  have hBE : Below w1.heap.size w1 wE := bbel
  clear h2pd h2pg h2px h2py h2po h2pp h3pd h3pg h3px h3py h3po h3pp h2pc1 h2pc2 h2pf1 h2pf2 h2pz1 h2pz2 h3pc1 h3pc2 h3pf1 h3pf2 h3pz1 h3pz2 h2 h3
  have CAA : Hid (∀ W, Below wE.heap.size wE W → Calls Try.prog 45 #[.agg #[.slice fa fl fc], .agg #[.int .i64 k1, .string n1], .agg #[.int .i64 k1, .string n1]] W fun e w' => e = .returned (.bool sa) ∧ Below W.heap.size W w') := Lib.hid fun W hW => by have := CG.out W ⟨k1, n1⟩ ⟨k1, n1⟩ hn1 (hBE.trans (hW.mono hBE.size)); rw [hsa] at this; exact this
  have CBA : Hid (∀ W, Below wE.heap.size wE W → Calls Try.prog 45 #[.agg #[.slice fa fl fc], .agg #[.int .i64 k2, .string n2], .agg #[.int .i64 k1, .string n1]] W fun e w' => e = .returned (.bool z) ∧ Below W.heap.size W w') := Lib.hid fun W hW => by have := CG.out W ⟨k2, n2⟩ ⟨k1, n1⟩ hn2 (hBE.trans (hW.mono hBE.size)); rw [hz] at this; exact this
  have CCA : Hid (∀ W, Below wE.heap.size wE W → Calls Try.prog 34 #[.agg #[.slice fa fl fc], .agg #[.int .i64 k1, .string n1]] W fun e w' => (∃ (ga : Option Addr) (gc : Nat), e = .returned (.slice ga na gc)) ∧ Below W.heap.size W w') := Lib.hid fun W hW => (CC.out W ⟨k1, n1⟩ hn1 (hBE.trans (hW.mono hBE.size))).mono fun e w' h => by
    obtain ⟨⟨v, rfl, hrf⟩, hb⟩ := h
    obtain ⟨ga, gc, rfl, _, _⟩ := own_form hrf
    exact ⟨⟨ga, gc, by rw [HNA.out]⟩, hb⟩
  have l0 : w1.heap.size < wE.heap.size := block_lt_of_cell e0
  have l1 : w1.heap.size + 1 < wE.heap.size := block_lt_of_cell e1
  have l2 : w1.heap.size + 1 + 1 < wE.heap.size := block_lt_of_cell e3
  clear hz hsa hna'
  cases u
  · go_wp2_with fail
    refine wp_region_relyE 24 (Below wE.heap.size wE) (fun _ w1 w2 => Below w1.heap.size w1 w2) (fun _ => uF (.slice fa fl fc) k1 k2 n1 n2 sa na false false) (fun _ _ => True) noDead (by kernel_rfl) (by decide) (by kernel_rfl) (Or.inl (by rfl)) (by kernel_rfl) ((Below.refl _ _).drew) (fun _ _ _ _ _ _ _ _ _ h => h) noDead_dead (fun _ => trivial) (fun _ _ _ _ _ _ _ _ => trivial) (fun _ i j u w1 w2 hne _ _ hg hF => uF_stays i u w1 w2 hF) (fun _ _ _ => Below.refl _ _) ?_
    refine wpRelyE_cons2 (d := 28) rfl rfl (fun wx hC hI hd S0 hS => ?_) (fun v0 => ?_)
    · have c0 := keep_cell hC e0
      have HSS := Lib.hid hS; clear hS hd hI
      go_simp
      exact HSS.out _ _ hC (Below.refl _ _) (by simp [uF])
    simp only [Act.put, List.setIfInBounds_toArray, List.set_cons_zero, List.set_cons_succ]
    refine wpRelyE_cons2 (d := 29) rfl rfl (fun wx hC hI hd S0 hS => ?_) (fun v1 => ?_)
    · have c1 := keep_cell hC e1; have c2 := keep_cell hC e2
      have HSS := Lib.hid hS; clear hS hd hI
      go_simp
      exact HSS.out _ _ hC (Below.refl _ _) (by simp [uF])
    simp only [Act.put, List.setIfInBounds_toArray, List.set_cons_zero, List.set_cons_succ]
    refine wpRelyE_cons2 (d := 30) rfl rfl (fun wx hC hI hd S0 hS => ?_) (fun v2 => ?_)
    · have c1 := keep_cell hC e1; have c2 := keep_cell hC e2
      have HSS := Lib.hid hS; clear hS hd hI
      go_simp
      exact HSS.out _ _ hC (Below.refl _ _) (by simp [uF])
    simp only [Act.put, List.setIfInBounds_toArray, List.set_cons_zero, List.set_cons_succ]
    refine wpRelyE_cons2 (d := 31) rfl rfl (fun wx hC hI hd S0 hS => ?_) (fun v3 => ?_)
    · have d0 := hd ⟨0, .data⟩ (by simp) rfl v0 (by simp)
      simp only [uF] at d0
      have d1 := hd ⟨1, .data⟩ (by simp) rfl v1 (by simp)
      simp only [uF] at d1
      have d2 := hd ⟨2, .data⟩ (by simp) rfl v2 (by simp)
      simp only [uF] at d2
      subst d0; subst d1; subst d2
      have HSS := Lib.hid hS; clear hS hd hI
      go_simp
      refine (CAA.out _ hC).mono ?_
      rintro _ w' ⟨rfl, hX⟩
      exact HSS.out _ _ (hC.trans (hX.mono hC.size)) hX (by simp [uF])
    simp only [Act.put, List.setIfInBounds_toArray, List.set_cons_zero, List.set_cons_succ]
    refine wpRelyE_cons2 (d := 32) rfl rfl (fun wx hC hI hd S0 hS => ?_) (fun v4 => ?_)
    · have c0 := keep_cell hC e0
      have HSS := Lib.hid hS; clear hS hd hI
      go_simp
      exact HSS.out _ _ hC (Below.refl _ _) (by simp [uF])
    simp only [Act.put, List.setIfInBounds_toArray, List.set_cons_zero, List.set_cons_succ]
    refine wpRelyE_cons2 (d := 33) rfl rfl (fun wx hC hI hd S0 hS => ?_) (fun v5 => ?_)
    · have c1 := keep_cell hC e1; have c2 := keep_cell hC e2
      have HSS := Lib.hid hS; clear hS hd hI
      go_simp
      exact HSS.out _ _ hC (Below.refl _ _) (by simp [uF])
    simp only [Act.put, List.setIfInBounds_toArray, List.set_cons_zero, List.set_cons_succ]
    refine wpRelyE_cons2 (d := 34) rfl rfl (fun wx hC hI hd S0 hS => ?_) (fun v6 => ?_)
    · have d4 := hd ⟨4, .data⟩ (by simp) rfl v4 (by simp)
      simp only [uF] at d4
      have d5 := hd ⟨5, .data⟩ (by simp) rfl v5 (by simp)
      simp only [uF] at d5
      subst d4; subst d5
      have HSS := Lib.hid hS; clear hS hd hI
      go_simp
      refine (CCA.out _ hC).mono ?_
      rintro _ w' ⟨⟨ga, gc, rfl⟩, hX⟩
      exact HSS.out _ _ (hC.trans (hX.mono hC.size)) hX (by simp [uF])
    simp only [Act.put, List.setIfInBounds_toArray, List.set_cons_zero, List.set_cons_succ]
    refine wpRelyE_cons2 (d := 35) rfl rfl (fun wx hC hI hd S0 hS => ?_) (fun v7 => ?_)
    · have d6 := hd ⟨6, .data⟩ (by simp) rfl v6 (by simp)
      simp only [uF] at d6
      obtain ⟨ga, gc, d6⟩ := d6
      subst d6
      have HSS := Lib.hid hS; clear hS hd hI
      go_simp
      exact HSS.out _ _ hC (Below.refl _ _) (by simp [uF])
    simp only [Act.put, List.setIfInBounds_toArray, List.set_cons_zero, List.set_cons_succ]
    refine wpRelyE_cons2 (d := 36) rfl rfl (fun wx hC hI hd S0 hS => ?_) (fun v8 => ?_)
    · have d7 := hd ⟨7, .data⟩ (by simp) rfl v7 (by simp)
      simp only [uF] at d7
      subst d7
      have HSS := Lib.hid hS; clear hS hd hI
      rcases hna with ⟨rfl, h0⟩ | ⟨rfl, h0⟩
      · go_simp
        exact HSS.out _ _ hC (Below.refl _ _) (by simp [uF])
      · go_simp
        exact HSS.out _ _ hC (Below.refl _ _) (by (simp only [List.nil_append, List.cons_append, List.length_cons, List.length_nil, Nat.reduceAdd, uF]); simp only [Value.bool.injEq, decide_eq_true_eq]; omega)
    simp only [Act.put, List.setIfInBounds_toArray, List.set_cons_zero, List.set_cons_succ]
    refine wpRelyE_cons2 (d := 37) rfl rfl (fun wx hC hI hd S0 hS => ?_) (fun v9 => ?_)
    · have d3 := hd ⟨3, .data⟩ (by simp) rfl v3 (by simp)
      simp only [uF] at d3
      have d8 := hd ⟨8, .data⟩ (by simp) rfl v8 (by simp)
      simp only [uF] at d8
      subst d3; subst d8
      have HSS := Lib.hid hS; clear hS hd hI
      cases sa <;> (go_simp; exact HSS.out _ _ hC (Below.refl _ _) (by simp [uF]))
    simp only [Act.put, List.setIfInBounds_toArray, List.set_cons_zero, List.set_cons_succ]
    refine wpRelyE_cons2 (d := 38) rfl rfl (fun wx hC hI hd S0 hS => ?_) (fun v10 => ?_)
    · have d9 := hd ⟨9, .data⟩ (by simp) rfl v9 (by simp)
      simp only [uF] at d9
      subst d9
      have HSS := Lib.hid hS; clear hS hd hI
      go_simp
      exact HSS.out _ _ hC (Below.refl _ _) (by simp [uF])
    simp only [Act.put, List.setIfInBounds_toArray, List.set_cons_zero, List.set_cons_succ]
    refine wpRelyE_consG (d := 39) rfl (fun wx hC hI hd S0 hS => ?_) (fun v11 => ?_)
    · have dg := hd ⟨10, .guard⟩ (by simp) rfl v10 (by simp)
      simp only [uF] at dg
      subst dg
      have HSS := Lib.hid hS; clear hS hd hI
      refine Or.inl ⟨by rfl, ?_⟩
      go_simp
      exact HSS.out _ _ hC (Below.refl _ _) (by simp [uF])
    simp only [Act.put, List.setIfInBounds_toArray, List.set_cons_zero, List.set_cons_succ]
    refine wpRelyE_consG (d := 40) rfl (fun wx hC hI hd S0 hS => ?_) (fun v12 => ?_)
    · have dg := hd ⟨10, .guard⟩ (by simp) rfl v10 (by simp)
      simp only [uF] at dg
      subst dg
      have d11 := hd ⟨11, .data⟩ (by simp) rfl v11 (by simp)
      simp only [uF] at d11
      subst d11
      have HSS := Lib.hid hS; clear hS hd hI
      refine Or.inl ⟨by rfl, ?_⟩
      go_simp
      exact HSS.out _ _ hC (Below.refl _ _) (by simp [uF])
    simp only [Act.put, List.setIfInBounds_toArray, List.set_cons_zero, List.set_cons_succ]
    refine wpRelyE_consG (d := 41) rfl (fun wx hC hI hd S0 hS => ?_) (fun v13 => ?_)
    · have dg := hd ⟨12, .guard⟩ (by simp) rfl v12 (by simp)
      simp only [uF] at dg
      subst dg
      have HSS := Lib.hid hS; clear hS hd hI
      refine Or.inr ⟨by rfl, ?_⟩
      exact HSS.out _ _ hC (Below.refl _ _) (by simp [uF])
    simp only [Act.put, List.setIfInBounds_toArray, List.set_cons_zero, List.set_cons_succ]
    refine wpRelyE_consG (d := 42) rfl (fun wx hC hI hd S0 hS => ?_) (fun v14 => ?_)
    · have dg := hd ⟨12, .guard⟩ (by simp) rfl v12 (by simp)
      simp only [uF] at dg
      subst dg
      have HSS := Lib.hid hS; clear hS hd hI
      refine Or.inr ⟨by rfl, ?_⟩
      exact HSS.out _ _ hC (Below.refl _ _) (by simp [uF])
    simp only [Act.put, List.setIfInBounds_toArray, List.set_cons_zero, List.set_cons_succ]
    refine wpRelyE_consG (d := 43) rfl (fun wx hC hI hd S0 hS => ?_) (fun v15 => ?_)
    · have dg := hd ⟨12, .guard⟩ (by simp) rfl v12 (by simp)
      simp only [uF] at dg
      subst dg
      have HSS := Lib.hid hS; clear hS hd hI
      refine Or.inr ⟨by rfl, ?_⟩
      exact HSS.out _ _ hC (Below.refl _ _) (by simp [uF])
    simp only [Act.put, List.setIfInBounds_toArray, List.set_cons_zero, List.set_cons_succ]
    refine wpRelyE_consG (d := 44) rfl (fun wx hC hI hd S0 hS => ?_) (fun v16 => ?_)
    · have dg := hd ⟨12, .guard⟩ (by simp) rfl v12 (by simp)
      simp only [uF] at dg
      subst dg
      have HSS := Lib.hid hS; clear hS hd hI
      refine Or.inr ⟨by rfl, ?_⟩
      exact HSS.out _ _ hC (Below.refl _ _) (by simp [uF])
    simp only [Act.put, List.setIfInBounds_toArray, List.set_cons_zero, List.set_cons_succ]
    refine wpRelyE_consG (d := 45) rfl (fun wx hC hI hd S0 hS => ?_) (fun v17 => ?_)
    · have dg := hd ⟨10, .guard⟩ (by simp) rfl v10 (by simp)
      simp only [uF] at dg
      subst dg
      have d12 := hd ⟨12, .data⟩ (by simp) rfl v12 (by simp)
      simp only [uF] at d12
      subst d12
      have HSS := Lib.hid hS; clear hS hd hI
      refine Or.inl ⟨by rfl, ?_⟩
      go_simp
      exact HSS.out _ _ hC (Below.refl _ _) (by simp [uF])
    simp only [Act.put, List.setIfInBounds_toArray, List.set_cons_zero, List.set_cons_succ]
    refine wpRelyE_consG (d := 46) rfl (fun wx hC hI hd S0 hS => ?_) (fun v18 => ?_)
    · have dg := hd ⟨10, .guard⟩ (by simp) rfl v10 (by simp)
      simp only [uF] at dg
      subst dg
      have d17 := hd ⟨17, .data⟩ (by simp) rfl v17 (by simp)
      simp only [uF] at d17
      subst d17
      have HSS := Lib.hid hS; clear hS hd hI
      refine Or.inl ⟨by rfl, ?_⟩
      go_simp
      exact HSS.out _ _ hC (Below.refl _ _) (by simp [uF])
    simp only [Act.put, List.setIfInBounds_toArray, List.set_cons_zero, List.set_cons_succ]
    refine wpRelyE_consG (d := 47) rfl (fun wx hC hI hd S0 hS => ?_) (fun v19 => ?_)
    · have dg := hd ⟨18, .guard⟩ (by simp) rfl v18 (by simp)
      simp only [uF] at dg
      subst dg
      have HSS := Lib.hid hS; clear hS hd hI
      refine Or.inr ⟨by rfl, ?_⟩
      exact HSS.out _ _ hC (Below.refl _ _) (by simp [uF])
    simp only [Act.put, List.setIfInBounds_toArray, List.set_cons_zero, List.set_cons_succ]
    refine wpRelyE_consG (d := 48) rfl (fun wx hC hI hd S0 hS => ?_) (fun v20 => ?_)
    · have dg := hd ⟨18, .guard⟩ (by simp) rfl v18 (by simp)
      simp only [uF] at dg
      subst dg
      have HSS := Lib.hid hS; clear hS hd hI
      refine Or.inr ⟨by rfl, ?_⟩
      exact HSS.out _ _ hC (Below.refl _ _) (by simp [uF])
    simp only [Act.put, List.setIfInBounds_toArray, List.set_cons_zero, List.set_cons_succ]
    refine wpRelyE_consG (d := 49) rfl (fun wx hC hI hd S0 hS => ?_) (fun v21 => ?_)
    · have dg := hd ⟨18, .guard⟩ (by simp) rfl v18 (by simp)
      simp only [uF] at dg
      subst dg
      have HSS := Lib.hid hS; clear hS hd hI
      refine Or.inr ⟨by rfl, ?_⟩
      exact HSS.out _ _ hC (Below.refl _ _) (by simp [uF])
    simp only [Act.put, List.setIfInBounds_toArray, List.set_cons_zero, List.set_cons_succ]
    refine wpRelyE_consG (d := 50) rfl (fun wx hC hI hd S0 hS => ?_) (fun v22 => ?_)
    · have dg := hd ⟨10, .guard⟩ (by simp) rfl v10 (by simp)
      simp only [uF] at dg
      subst dg
      have d18 := hd ⟨18, .data⟩ (by simp) rfl v18 (by simp)
      simp only [uF] at d18
      subst d18
      have HSS := Lib.hid hS; clear hS hd hI
      refine Or.inl ⟨by rfl, ?_⟩
      go_simp
      exact HSS.out _ _ hC (Below.refl _ _) (by simp [uF])
    simp only [Act.put, List.setIfInBounds_toArray, List.set_cons_zero, List.set_cons_succ]
    refine wpRelyE_cons2 (d := 51) rfl rfl (fun wx hC hI hd S0 hS => ?_) (fun v23 => ?_)
    · have d10 := hd ⟨10, .data⟩ (by simp) rfl v10 (by simp)
      simp only [uF] at d10
      have d22 := hd ⟨22, .data⟩ (by simp) rfl v22 (by simp)
      simp only [uF] at d22
      subst d10; subst d22
      have HSS := Lib.hid hS; clear hS hd hI
      go_simp
      exact HSS.out _ _ hC (Below.refl _ _) (by simp [uF])
    simp only [Act.put, List.setIfInBounds_toArray, List.set_cons_zero, List.set_cons_succ]
    intro wF hF0 hF
    have g23 := hF 23 v23 (by simp) (fun _ _ => rfl)
    simp only [uF] at g23
    subst g23
    clear hF
    simp only [List.drop_succ_cons, List.drop_zero, List.drop_nil]
    have hFs := hF0.size
    go_wp2_with (go_at_call 18; refine (L_loOkU _).mono ?_; rintro _ w9 ⟨rfl, h9⟩)
    all_goals (try go_returns)
    all_goals exact HR.out _ _ ⟨rfl, bbel⟩
  cases z
  · go_wp2_with fail
    refine wp_region_relyE 24 (Below wE.heap.size wE) (fun _ w1 w2 => Below w1.heap.size w1 w2) (fun _ => uF (.slice fa fl fc) k1 k2 n1 n2 sa na true false) (fun _ _ => True) noDead (by kernel_rfl) (by decide) (by kernel_rfl) (Or.inl (by rfl)) (by kernel_rfl) ((Below.refl _ _).drew) (fun _ _ _ _ _ _ _ _ _ h => h) noDead_dead (fun _ => trivial) (fun _ _ _ _ _ _ _ _ => trivial) (fun _ i j u w1 w2 hne _ _ hg hF => uF_stays i u w1 w2 hF) (fun _ _ _ => Below.refl _ _) ?_
    refine wpRelyE_cons2 (d := 28) rfl rfl (fun wx hC hI hd S0 hS => ?_) (fun v0 => ?_)
    · have c0 := keep_cell hC e0
      have HSS := Lib.hid hS; clear hS hd hI
      go_simp
      exact HSS.out _ _ hC (Below.refl _ _) (by simp [uF])
    simp only [Act.put, List.setIfInBounds_toArray, List.set_cons_zero, List.set_cons_succ]
    refine wpRelyE_cons2 (d := 29) rfl rfl (fun wx hC hI hd S0 hS => ?_) (fun v1 => ?_)
    · have c1 := keep_cell hC e1; have c2 := keep_cell hC e2
      have HSS := Lib.hid hS; clear hS hd hI
      go_simp
      exact HSS.out _ _ hC (Below.refl _ _) (by simp [uF])
    simp only [Act.put, List.setIfInBounds_toArray, List.set_cons_zero, List.set_cons_succ]
    refine wpRelyE_cons2 (d := 30) rfl rfl (fun wx hC hI hd S0 hS => ?_) (fun v2 => ?_)
    · have c1 := keep_cell hC e1; have c2 := keep_cell hC e2
      have HSS := Lib.hid hS; clear hS hd hI
      go_simp
      exact HSS.out _ _ hC (Below.refl _ _) (by simp [uF])
    simp only [Act.put, List.setIfInBounds_toArray, List.set_cons_zero, List.set_cons_succ]
    refine wpRelyE_cons2 (d := 31) rfl rfl (fun wx hC hI hd S0 hS => ?_) (fun v3 => ?_)
    · have d0 := hd ⟨0, .data⟩ (by simp) rfl v0 (by simp)
      simp only [uF] at d0
      have d1 := hd ⟨1, .data⟩ (by simp) rfl v1 (by simp)
      simp only [uF] at d1
      have d2 := hd ⟨2, .data⟩ (by simp) rfl v2 (by simp)
      simp only [uF] at d2
      subst d0; subst d1; subst d2
      have HSS := Lib.hid hS; clear hS hd hI
      go_simp
      refine (CAA.out _ hC).mono ?_
      rintro _ w' ⟨rfl, hX⟩
      exact HSS.out _ _ (hC.trans (hX.mono hC.size)) hX (by simp [uF])
    simp only [Act.put, List.setIfInBounds_toArray, List.set_cons_zero, List.set_cons_succ]
    refine wpRelyE_cons2 (d := 32) rfl rfl (fun wx hC hI hd S0 hS => ?_) (fun v4 => ?_)
    · have c0 := keep_cell hC e0
      have HSS := Lib.hid hS; clear hS hd hI
      go_simp
      exact HSS.out _ _ hC (Below.refl _ _) (by simp [uF])
    simp only [Act.put, List.setIfInBounds_toArray, List.set_cons_zero, List.set_cons_succ]
    refine wpRelyE_cons2 (d := 33) rfl rfl (fun wx hC hI hd S0 hS => ?_) (fun v5 => ?_)
    · have c1 := keep_cell hC e1; have c2 := keep_cell hC e2
      have HSS := Lib.hid hS; clear hS hd hI
      go_simp
      exact HSS.out _ _ hC (Below.refl _ _) (by simp [uF])
    simp only [Act.put, List.setIfInBounds_toArray, List.set_cons_zero, List.set_cons_succ]
    refine wpRelyE_cons2 (d := 34) rfl rfl (fun wx hC hI hd S0 hS => ?_) (fun v6 => ?_)
    · have d4 := hd ⟨4, .data⟩ (by simp) rfl v4 (by simp)
      simp only [uF] at d4
      have d5 := hd ⟨5, .data⟩ (by simp) rfl v5 (by simp)
      simp only [uF] at d5
      subst d4; subst d5
      have HSS := Lib.hid hS; clear hS hd hI
      go_simp
      refine (CCA.out _ hC).mono ?_
      rintro _ w' ⟨⟨ga, gc, rfl⟩, hX⟩
      exact HSS.out _ _ (hC.trans (hX.mono hC.size)) hX (by simp [uF])
    simp only [Act.put, List.setIfInBounds_toArray, List.set_cons_zero, List.set_cons_succ]
    refine wpRelyE_cons2 (d := 35) rfl rfl (fun wx hC hI hd S0 hS => ?_) (fun v7 => ?_)
    · have d6 := hd ⟨6, .data⟩ (by simp) rfl v6 (by simp)
      simp only [uF] at d6
      obtain ⟨ga, gc, d6⟩ := d6
      subst d6
      have HSS := Lib.hid hS; clear hS hd hI
      go_simp
      exact HSS.out _ _ hC (Below.refl _ _) (by simp [uF])
    simp only [Act.put, List.setIfInBounds_toArray, List.set_cons_zero, List.set_cons_succ]
    refine wpRelyE_cons2 (d := 36) rfl rfl (fun wx hC hI hd S0 hS => ?_) (fun v8 => ?_)
    · have d7 := hd ⟨7, .data⟩ (by simp) rfl v7 (by simp)
      simp only [uF] at d7
      subst d7
      have HSS := Lib.hid hS; clear hS hd hI
      rcases hna with ⟨rfl, h0⟩ | ⟨rfl, h0⟩
      · go_simp
        exact HSS.out _ _ hC (Below.refl _ _) (by simp [uF])
      · go_simp
        exact HSS.out _ _ hC (Below.refl _ _) (by (simp only [List.nil_append, List.cons_append, List.length_cons, List.length_nil, Nat.reduceAdd, uF]); simp only [Value.bool.injEq, decide_eq_true_eq]; omega)
    simp only [Act.put, List.setIfInBounds_toArray, List.set_cons_zero, List.set_cons_succ]
    refine wpRelyE_cons2 (d := 37) rfl rfl (fun wx hC hI hd S0 hS => ?_) (fun v9 => ?_)
    · have d3 := hd ⟨3, .data⟩ (by simp) rfl v3 (by simp)
      simp only [uF] at d3
      have d8 := hd ⟨8, .data⟩ (by simp) rfl v8 (by simp)
      simp only [uF] at d8
      subst d3; subst d8
      have HSS := Lib.hid hS; clear hS hd hI
      cases sa <;> (go_simp; exact HSS.out _ _ hC (Below.refl _ _) (by simp [uF]))
    simp only [Act.put, List.setIfInBounds_toArray, List.set_cons_zero, List.set_cons_succ]
    refine wpRelyE_cons2 (d := 38) rfl rfl (fun wx hC hI hd S0 hS => ?_) (fun v10 => ?_)
    · have d9 := hd ⟨9, .data⟩ (by simp) rfl v9 (by simp)
      simp only [uF] at d9
      subst d9
      have HSS := Lib.hid hS; clear hS hd hI
      go_simp
      exact HSS.out _ _ hC (Below.refl _ _) (by simp [uF])
    simp only [Act.put, List.setIfInBounds_toArray, List.set_cons_zero, List.set_cons_succ]
    refine wpRelyE_consG (d := 39) rfl (fun wx hC hI hd S0 hS => ?_) (fun v11 => ?_)
    · have dg := hd ⟨10, .guard⟩ (by simp) rfl v10 (by simp)
      simp only [uF] at dg
      subst dg
      have HSS := Lib.hid hS; clear hS hd hI
      refine Or.inl ⟨by rfl, ?_⟩
      go_simp
      exact HSS.out _ _ hC (Below.refl _ _) (by simp [uF])
    simp only [Act.put, List.setIfInBounds_toArray, List.set_cons_zero, List.set_cons_succ]
    refine wpRelyE_consG (d := 40) rfl (fun wx hC hI hd S0 hS => ?_) (fun v12 => ?_)
    · have dg := hd ⟨10, .guard⟩ (by simp) rfl v10 (by simp)
      simp only [uF] at dg
      subst dg
      have d11 := hd ⟨11, .data⟩ (by simp) rfl v11 (by simp)
      simp only [uF] at d11
      subst d11
      have HSS := Lib.hid hS; clear hS hd hI
      refine Or.inl ⟨by rfl, ?_⟩
      go_simp
      exact HSS.out _ _ hC (Below.refl _ _) (by simp [uF])
    simp only [Act.put, List.setIfInBounds_toArray, List.set_cons_zero, List.set_cons_succ]
    refine wpRelyE_consG (d := 41) rfl (fun wx hC hI hd S0 hS => ?_) (fun v13 => ?_)
    · have dg := hd ⟨12, .guard⟩ (by simp) rfl v12 (by simp)
      simp only [uF] at dg
      subst dg
      have c0 := keep_cell hC e0
      have HSS := Lib.hid hS; clear hS hd hI
      refine Or.inl ⟨by rfl, ?_⟩
      go_simp
      exact HSS.out _ _ hC (Below.refl _ _) (by simp [uF])
    simp only [Act.put, List.setIfInBounds_toArray, List.set_cons_zero, List.set_cons_succ]
    refine wpRelyE_consG (d := 42) rfl (fun wx hC hI hd S0 hS => ?_) (fun v14 => ?_)
    · have dg := hd ⟨12, .guard⟩ (by simp) rfl v12 (by simp)
      simp only [uF] at dg
      subst dg
      have c3 := keep_cell hC e3; have c4 := keep_cell hC e4
      have HSS := Lib.hid hS; clear hS hd hI
      refine Or.inl ⟨by rfl, ?_⟩
      go_simp
      exact HSS.out _ _ hC (Below.refl _ _) (by simp [uF])
    simp only [Act.put, List.setIfInBounds_toArray, List.set_cons_zero, List.set_cons_succ]
    refine wpRelyE_consG (d := 43) rfl (fun wx hC hI hd S0 hS => ?_) (fun v15 => ?_)
    · have dg := hd ⟨12, .guard⟩ (by simp) rfl v12 (by simp)
      simp only [uF] at dg
      subst dg
      have c1 := keep_cell hC e1; have c2 := keep_cell hC e2
      have HSS := Lib.hid hS; clear hS hd hI
      refine Or.inl ⟨by rfl, ?_⟩
      go_simp
      exact HSS.out _ _ hC (Below.refl _ _) (by simp [uF])
    simp only [Act.put, List.setIfInBounds_toArray, List.set_cons_zero, List.set_cons_succ]
    refine wpRelyE_consG (d := 44) rfl (fun wx hC hI hd S0 hS => ?_) (fun v16 => ?_)
    · have dg := hd ⟨12, .guard⟩ (by simp) rfl v12 (by simp)
      simp only [uF] at dg
      subst dg
      have d13 := hd ⟨13, .data⟩ (by simp) rfl v13 (by simp)
      simp only [uF] at d13
      have d14 := hd ⟨14, .data⟩ (by simp) rfl v14 (by simp)
      simp only [uF] at d14
      have d15 := hd ⟨15, .data⟩ (by simp) rfl v15 (by simp)
      simp only [uF] at d15
      subst d13; subst d14; subst d15
      have HSS := Lib.hid hS; clear hS hd hI
      refine Or.inl ⟨by rfl, ?_⟩
      go_simp
      refine (CBA.out _ hC).mono ?_
      rintro _ w' ⟨rfl, hX⟩
      exact HSS.out _ _ (hC.trans (hX.mono hC.size)) hX (by simp [uF])
    simp only [Act.put, List.setIfInBounds_toArray, List.set_cons_zero, List.set_cons_succ]
    refine wpRelyE_consG (d := 45) rfl (fun wx hC hI hd S0 hS => ?_) (fun v17 => ?_)
    · have dg := hd ⟨10, .guard⟩ (by simp) rfl v10 (by simp)
      simp only [uF] at dg
      subst dg
      have d12 := hd ⟨12, .data⟩ (by simp) rfl v12 (by simp)
      simp only [uF] at d12
      have d16 := hd ⟨16, .data⟩ (by simp) rfl v16 (by simp)
      simp only [uF] at d16
      subst d12; subst d16
      have HSS := Lib.hid hS; clear hS hd hI
      refine Or.inl ⟨by rfl, ?_⟩
      go_simp
      exact HSS.out _ _ hC (Below.refl _ _) (by simp [uF])
    simp only [Act.put, List.setIfInBounds_toArray, List.set_cons_zero, List.set_cons_succ]
    refine wpRelyE_consG (d := 46) rfl (fun wx hC hI hd S0 hS => ?_) (fun v18 => ?_)
    · have dg := hd ⟨10, .guard⟩ (by simp) rfl v10 (by simp)
      simp only [uF] at dg
      subst dg
      have d17 := hd ⟨17, .data⟩ (by simp) rfl v17 (by simp)
      simp only [uF] at d17
      subst d17
      have HSS := Lib.hid hS; clear hS hd hI
      refine Or.inl ⟨by rfl, ?_⟩
      go_simp
      exact HSS.out _ _ hC (Below.refl _ _) (by simp [uF])
    simp only [Act.put, List.setIfInBounds_toArray, List.set_cons_zero, List.set_cons_succ]
    refine wpRelyE_consG (d := 47) rfl (fun wx hC hI hd S0 hS => ?_) (fun v19 => ?_)
    · have dg := hd ⟨18, .guard⟩ (by simp) rfl v18 (by simp)
      simp only [uF] at dg
      subst dg
      have HSS := Lib.hid hS; clear hS hd hI
      refine Or.inr ⟨by rfl, ?_⟩
      exact HSS.out _ _ hC (Below.refl _ _) (by simp [uF])
    simp only [Act.put, List.setIfInBounds_toArray, List.set_cons_zero, List.set_cons_succ]
    refine wpRelyE_consG (d := 48) rfl (fun wx hC hI hd S0 hS => ?_) (fun v20 => ?_)
    · have dg := hd ⟨18, .guard⟩ (by simp) rfl v18 (by simp)
      simp only [uF] at dg
      subst dg
      have HSS := Lib.hid hS; clear hS hd hI
      refine Or.inr ⟨by rfl, ?_⟩
      exact HSS.out _ _ hC (Below.refl _ _) (by simp [uF])
    simp only [Act.put, List.setIfInBounds_toArray, List.set_cons_zero, List.set_cons_succ]
    refine wpRelyE_consG (d := 49) rfl (fun wx hC hI hd S0 hS => ?_) (fun v21 => ?_)
    · have dg := hd ⟨18, .guard⟩ (by simp) rfl v18 (by simp)
      simp only [uF] at dg
      subst dg
      have HSS := Lib.hid hS; clear hS hd hI
      refine Or.inr ⟨by rfl, ?_⟩
      exact HSS.out _ _ hC (Below.refl _ _) (by simp [uF])
    simp only [Act.put, List.setIfInBounds_toArray, List.set_cons_zero, List.set_cons_succ]
    refine wpRelyE_consG (d := 50) rfl (fun wx hC hI hd S0 hS => ?_) (fun v22 => ?_)
    · have dg := hd ⟨10, .guard⟩ (by simp) rfl v10 (by simp)
      simp only [uF] at dg
      subst dg
      have d18 := hd ⟨18, .data⟩ (by simp) rfl v18 (by simp)
      simp only [uF] at d18
      subst d18
      have HSS := Lib.hid hS; clear hS hd hI
      refine Or.inl ⟨by rfl, ?_⟩
      go_simp
      exact HSS.out _ _ hC (Below.refl _ _) (by simp [uF])
    simp only [Act.put, List.setIfInBounds_toArray, List.set_cons_zero, List.set_cons_succ]
    refine wpRelyE_cons2 (d := 51) rfl rfl (fun wx hC hI hd S0 hS => ?_) (fun v23 => ?_)
    · have d10 := hd ⟨10, .data⟩ (by simp) rfl v10 (by simp)
      simp only [uF] at d10
      have d22 := hd ⟨22, .data⟩ (by simp) rfl v22 (by simp)
      simp only [uF] at d22
      subst d10; subst d22
      have HSS := Lib.hid hS; clear hS hd hI
      go_simp
      exact HSS.out _ _ hC (Below.refl _ _) (by simp [uF])
    simp only [Act.put, List.setIfInBounds_toArray, List.set_cons_zero, List.set_cons_succ]
    intro wF hF0 hF
    have g23 := hF 23 v23 (by simp) (fun _ _ => rfl)
    simp only [uF] at g23
    subst g23
    clear hF
    simp only [List.drop_succ_cons, List.drop_zero, List.drop_nil]
    have hFs := hF0.size
    have d0 := keep_cell hF0 e0
    have d1 := keep_cell hF0 e1
    have d2 := keep_cell hF0 e2
    have d3 := keep_cell hF0 e3
    have d4 := keep_cell hF0 e4
    have hBF : Below w1.heap.size w1 wF := hBE.trans (hF0.mono hBE.size)
    have hFl0 : w1.heap.size < wF.heap.size := by omega
    clear hF0 e0 e1 e2 e3 e4 hBE CAA CBA CCA
    go_wp2_with fail
    refine (CC.out _ ⟨k2, n2⟩ hn2 (bbel)).mono ?_
    rintro _ wG ⟨⟨vc, rfl, hrf⟩, hG⟩
    have hne : 0 < (lodChain pl ⟨k2, n2⟩).length := List.length_pos_iff.2 (plain_under_not (p := pl) (a := ⟨k1, n1⟩) (b := ⟨k2, n2⟩) hn1 HU.out)
    obtain ⟨g, gc, rfl, hg1, hg2, _⟩ := own_cell hrf hne
    obtain ⟨rs, hrs⟩ : ∃ rs, lodChain pl ⟨k2, n2⟩ = rs := ⟨_, rfl⟩
    rw [hrs] at hne hrf ⊢
    have HALL : Hid (∀ x ∈ rs, lodUnder pl ⟨k1, n1⟩ x = true) := Lib.hid (by rw [← hrs]; exact plain_under_three (p := pl) (a := ⟨k1, n1⟩) (b := ⟨k2, n2⟩) hn1 HU.out)
    have HRF := Lib.hid hrf
    obtain ⟨nb, hnb⟩ : ∃ n, rs.length = n := ⟨_, rfl⟩
    have HNB := Lib.hid hnb
    rw [hnb] at hne ⊢
    have hgs := hG.size
    have b0 := keep_cell hG d0
    have b1 := keep_cell hG d1
    have b2 := keep_cell hG d2
    have hBG : Below w1.heap.size w1 wG := hBF.trans (hG.mono hBF.size)
    have hne2 : (0 : Int) < (nb : Int) := by omega
    have hnl : nb ≤ 9223372036854775807 := by
      have := own_form hrf
      obtain ⟨_, _, e, h1, h2⟩ := this
      unfold maxLen at h2
      omega
    clear hrs hrf hnb d0 d1 d2 d3 d4 hG hBF
    go_wp2_with fail
    go_loopw [8] (fun zi wr => ∃ k : Nat, k ≤ nb ∧ zi = .int .i64 k ∧ Below wG.heap.size wG wr) (fun zi _ => nb - (intOf zi).toNat)
    case atStart => exact ⟨0, by omega, rfl, Below.refl _ _⟩
    case round =>
      obtain ⟨k, hk, rfl, hb⟩ := hrel
      have hbs := hb.size
      have r0 := keep_cell hb b0
      have r1 := keep_cell hb b1
      have r2 := keep_cell hb b2
      by_cases hlt : k < nb
      · have hlt2 : (k : Int) < (nb : Int) := by omega
        obtain ⟨x, hx⟩ : ∃ x, rs[k]? = some x := ⟨_, List.getElem?_eq_getElem (by have := HNB.out; omega)⟩
        have HR2 := HRF.out.below hb
        rw [HNB.out] at HR2
        obtain ⟨q1, q2⟩ := HR2.cell2 hx
        have hg3 : g < wr.heap.size := by omega
        have hut := HALL.out x (List.mem_of_getElem? hx)
        have CT : ∀ y : In wr, Calls Try.prog 45 #[.agg #[.slice fa fl fc], .agg #[.int .i64 k1, .string n1], .agg #[.int .i64 x.fKeeper, .string x.fName]] y.x fun e w' => e = .returned (.bool true) ∧ Below y.x.heap.size y.x w' := fun y => by
          have := CG.out y.x ⟨k1, n1⟩ x hn1 ((hBG.trans (hb.mono hBG.size)).trans (y.h.mono (hBG.trans (hb.mono hBG.size)).size))
          rw [hut] at this
          exact this
        have y0 := In.cell r0
        have y1 := In.cell r1
        have y2 := In.cell r2
        have y3 := In.cell q1
        have y4 := In.cell q2
        clear HR2 hx hut q1 q2
        go_wp2_with fail
        refine wp_region_in (by kernel_rfl) (by kernel_rfl) ?_
        repeat (go_big_quiet_step (first | (go_at_call 45; exact Calls.ins (CT _))))
        refine wpQuiet_nil ?_
        rintro wZ ⟨⟨wI, hwI⟩, hq⟩
        obtain rfl : wI = wZ := hq.symm
        clear hq
        have hwIs := hwI.size
        (try dsimp only)
        have hB3 := hb.trans (hwI.mono hbs)
        clear hb hwI
        go_wp2
        go_roundw
        case measure => simp [intOf]; omega
        case rel => exact ⟨k + 1, by omega, by go_num, hB3⟩
      · obtain rfl : k = nb := by omega
        go_wp2
        all_goals (try go_returns)
        all_goals exact HR.out _ _ ⟨rfl, bbel⟩
  · have hre := plain_under_two (p := pl) (a := ⟨k1, n1⟩) (b := ⟨k2, n2⟩) hn1 hn2 HU.out HZ.out
    cases hre
    go_wp2_with fail
    refine wp_region_relyE 24 (Below wE.heap.size wE) (fun _ w1 w2 => Below w1.heap.size w1 w2) (fun _ => uF (.slice fa fl fc) k1 k1 n1 n1 sa na true true) (fun _ _ => True) noDead (by kernel_rfl) (by decide) (by kernel_rfl) (Or.inl (by rfl)) (by kernel_rfl) ((Below.refl _ _).drew) (fun _ _ _ _ _ _ _ _ _ h => h) noDead_dead (fun _ => trivial) (fun _ _ _ _ _ _ _ _ => trivial) (fun _ i j u w1 w2 hne _ _ hg hF => uF_stays i u w1 w2 hF) (fun _ _ _ => Below.refl _ _) ?_
    refine wpRelyE_cons2 (d := 28) rfl rfl (fun wx hC hI hd S0 hS => ?_) (fun v0 => ?_)
    · have c0 := keep_cell hC e0
      have HSS := Lib.hid hS; clear hS hd hI
      go_simp
      exact HSS.out _ _ hC (Below.refl _ _) (by simp [uF])
    simp only [Act.put, List.setIfInBounds_toArray, List.set_cons_zero, List.set_cons_succ]
    refine wpRelyE_cons2 (d := 29) rfl rfl (fun wx hC hI hd S0 hS => ?_) (fun v1 => ?_)
    · have c1 := keep_cell hC e1; have c2 := keep_cell hC e2
      have HSS := Lib.hid hS; clear hS hd hI
      go_simp
      exact HSS.out _ _ hC (Below.refl _ _) (by simp [uF])
    simp only [Act.put, List.setIfInBounds_toArray, List.set_cons_zero, List.set_cons_succ]
    refine wpRelyE_cons2 (d := 30) rfl rfl (fun wx hC hI hd S0 hS => ?_) (fun v2 => ?_)
    · have c1 := keep_cell hC e1; have c2 := keep_cell hC e2
      have HSS := Lib.hid hS; clear hS hd hI
      go_simp
      exact HSS.out _ _ hC (Below.refl _ _) (by simp [uF])
    simp only [Act.put, List.setIfInBounds_toArray, List.set_cons_zero, List.set_cons_succ]
    refine wpRelyE_cons2 (d := 31) rfl rfl (fun wx hC hI hd S0 hS => ?_) (fun v3 => ?_)
    · have d0 := hd ⟨0, .data⟩ (by simp) rfl v0 (by simp)
      simp only [uF] at d0
      have d1 := hd ⟨1, .data⟩ (by simp) rfl v1 (by simp)
      simp only [uF] at d1
      have d2 := hd ⟨2, .data⟩ (by simp) rfl v2 (by simp)
      simp only [uF] at d2
      subst d0; subst d1; subst d2
      have HSS := Lib.hid hS; clear hS hd hI
      go_simp
      refine (CAA.out _ hC).mono ?_
      rintro _ w' ⟨rfl, hX⟩
      exact HSS.out _ _ (hC.trans (hX.mono hC.size)) hX (by simp [uF])
    simp only [Act.put, List.setIfInBounds_toArray, List.set_cons_zero, List.set_cons_succ]
    refine wpRelyE_cons2 (d := 32) rfl rfl (fun wx hC hI hd S0 hS => ?_) (fun v4 => ?_)
    · have c0 := keep_cell hC e0
      have HSS := Lib.hid hS; clear hS hd hI
      go_simp
      exact HSS.out _ _ hC (Below.refl _ _) (by simp [uF])
    simp only [Act.put, List.setIfInBounds_toArray, List.set_cons_zero, List.set_cons_succ]
    refine wpRelyE_cons2 (d := 33) rfl rfl (fun wx hC hI hd S0 hS => ?_) (fun v5 => ?_)
    · have c1 := keep_cell hC e1; have c2 := keep_cell hC e2
      have HSS := Lib.hid hS; clear hS hd hI
      go_simp
      exact HSS.out _ _ hC (Below.refl _ _) (by simp [uF])
    simp only [Act.put, List.setIfInBounds_toArray, List.set_cons_zero, List.set_cons_succ]
    refine wpRelyE_cons2 (d := 34) rfl rfl (fun wx hC hI hd S0 hS => ?_) (fun v6 => ?_)
    · have d4 := hd ⟨4, .data⟩ (by simp) rfl v4 (by simp)
      simp only [uF] at d4
      have d5 := hd ⟨5, .data⟩ (by simp) rfl v5 (by simp)
      simp only [uF] at d5
      subst d4; subst d5
      have HSS := Lib.hid hS; clear hS hd hI
      go_simp
      refine (CCA.out _ hC).mono ?_
      rintro _ w' ⟨⟨ga, gc, rfl⟩, hX⟩
      exact HSS.out _ _ (hC.trans (hX.mono hC.size)) hX (by simp [uF])
    simp only [Act.put, List.setIfInBounds_toArray, List.set_cons_zero, List.set_cons_succ]
    refine wpRelyE_cons2 (d := 35) rfl rfl (fun wx hC hI hd S0 hS => ?_) (fun v7 => ?_)
    · have d6 := hd ⟨6, .data⟩ (by simp) rfl v6 (by simp)
      simp only [uF] at d6
      obtain ⟨ga, gc, d6⟩ := d6
      subst d6
      have HSS := Lib.hid hS; clear hS hd hI
      go_simp
      exact HSS.out _ _ hC (Below.refl _ _) (by simp [uF])
    simp only [Act.put, List.setIfInBounds_toArray, List.set_cons_zero, List.set_cons_succ]
    refine wpRelyE_cons2 (d := 36) rfl rfl (fun wx hC hI hd S0 hS => ?_) (fun v8 => ?_)
    · have d7 := hd ⟨7, .data⟩ (by simp) rfl v7 (by simp)
      simp only [uF] at d7
      subst d7
      have HSS := Lib.hid hS; clear hS hd hI
      rcases hna with ⟨rfl, h0⟩ | ⟨rfl, h0⟩
      · go_simp
        exact HSS.out _ _ hC (Below.refl _ _) (by simp [uF])
      · go_simp
        exact HSS.out _ _ hC (Below.refl _ _) (by (simp only [List.nil_append, List.cons_append, List.length_cons, List.length_nil, Nat.reduceAdd, uF]); simp only [Value.bool.injEq, decide_eq_true_eq]; omega)
    simp only [Act.put, List.setIfInBounds_toArray, List.set_cons_zero, List.set_cons_succ]
    refine wpRelyE_cons2 (d := 37) rfl rfl (fun wx hC hI hd S0 hS => ?_) (fun v9 => ?_)
    · have d3 := hd ⟨3, .data⟩ (by simp) rfl v3 (by simp)
      simp only [uF] at d3
      have d8 := hd ⟨8, .data⟩ (by simp) rfl v8 (by simp)
      simp only [uF] at d8
      subst d3; subst d8
      have HSS := Lib.hid hS; clear hS hd hI
      cases sa <;> (go_simp; exact HSS.out _ _ hC (Below.refl _ _) (by simp [uF]))
    simp only [Act.put, List.setIfInBounds_toArray, List.set_cons_zero, List.set_cons_succ]
    refine wpRelyE_cons2 (d := 38) rfl rfl (fun wx hC hI hd S0 hS => ?_) (fun v10 => ?_)
    · have d9 := hd ⟨9, .data⟩ (by simp) rfl v9 (by simp)
      simp only [uF] at d9
      subst d9
      have HSS := Lib.hid hS; clear hS hd hI
      go_simp
      exact HSS.out _ _ hC (Below.refl _ _) (by simp [uF])
    simp only [Act.put, List.setIfInBounds_toArray, List.set_cons_zero, List.set_cons_succ]
    refine wpRelyE_consG (d := 39) rfl (fun wx hC hI hd S0 hS => ?_) (fun v11 => ?_)
    · have dg := hd ⟨10, .guard⟩ (by simp) rfl v10 (by simp)
      simp only [uF] at dg
      subst dg
      have HSS := Lib.hid hS; clear hS hd hI
      refine Or.inl ⟨by rfl, ?_⟩
      go_simp
      exact HSS.out _ _ hC (Below.refl _ _) (by simp [uF])
    simp only [Act.put, List.setIfInBounds_toArray, List.set_cons_zero, List.set_cons_succ]
    refine wpRelyE_consG (d := 40) rfl (fun wx hC hI hd S0 hS => ?_) (fun v12 => ?_)
    · have dg := hd ⟨10, .guard⟩ (by simp) rfl v10 (by simp)
      simp only [uF] at dg
      subst dg
      have d11 := hd ⟨11, .data⟩ (by simp) rfl v11 (by simp)
      simp only [uF] at d11
      subst d11
      have HSS := Lib.hid hS; clear hS hd hI
      refine Or.inl ⟨by rfl, ?_⟩
      go_simp
      exact HSS.out _ _ hC (Below.refl _ _) (by simp [uF])
    simp only [Act.put, List.setIfInBounds_toArray, List.set_cons_zero, List.set_cons_succ]
    refine wpRelyE_consG (d := 41) rfl (fun wx hC hI hd S0 hS => ?_) (fun v13 => ?_)
    · have dg := hd ⟨12, .guard⟩ (by simp) rfl v12 (by simp)
      simp only [uF] at dg
      subst dg
      have c0 := keep_cell hC e0
      have HSS := Lib.hid hS; clear hS hd hI
      refine Or.inl ⟨by rfl, ?_⟩
      go_simp
      exact HSS.out _ _ hC (Below.refl _ _) (by simp [uF])
    simp only [Act.put, List.setIfInBounds_toArray, List.set_cons_zero, List.set_cons_succ]
    refine wpRelyE_consG (d := 42) rfl (fun wx hC hI hd S0 hS => ?_) (fun v14 => ?_)
    · have dg := hd ⟨12, .guard⟩ (by simp) rfl v12 (by simp)
      simp only [uF] at dg
      subst dg
      have c3 := keep_cell hC e3; have c4 := keep_cell hC e4
      have HSS := Lib.hid hS; clear hS hd hI
      refine Or.inl ⟨by rfl, ?_⟩
      go_simp
      exact HSS.out _ _ hC (Below.refl _ _) (by simp [uF])
    simp only [Act.put, List.setIfInBounds_toArray, List.set_cons_zero, List.set_cons_succ]
    refine wpRelyE_consG (d := 43) rfl (fun wx hC hI hd S0 hS => ?_) (fun v15 => ?_)
    · have dg := hd ⟨12, .guard⟩ (by simp) rfl v12 (by simp)
      simp only [uF] at dg
      subst dg
      have c1 := keep_cell hC e1; have c2 := keep_cell hC e2
      have HSS := Lib.hid hS; clear hS hd hI
      refine Or.inl ⟨by rfl, ?_⟩
      go_simp
      exact HSS.out _ _ hC (Below.refl _ _) (by simp [uF])
    simp only [Act.put, List.setIfInBounds_toArray, List.set_cons_zero, List.set_cons_succ]
    refine wpRelyE_consG (d := 44) rfl (fun wx hC hI hd S0 hS => ?_) (fun v16 => ?_)
    · have dg := hd ⟨12, .guard⟩ (by simp) rfl v12 (by simp)
      simp only [uF] at dg
      subst dg
      have d13 := hd ⟨13, .data⟩ (by simp) rfl v13 (by simp)
      simp only [uF] at d13
      have d14 := hd ⟨14, .data⟩ (by simp) rfl v14 (by simp)
      simp only [uF] at d14
      have d15 := hd ⟨15, .data⟩ (by simp) rfl v15 (by simp)
      simp only [uF] at d15
      subst d13; subst d14; subst d15
      have HSS := Lib.hid hS; clear hS hd hI
      refine Or.inl ⟨by rfl, ?_⟩
      go_simp
      refine (CBA.out _ hC).mono ?_
      rintro _ w' ⟨rfl, hX⟩
      exact HSS.out _ _ (hC.trans (hX.mono hC.size)) hX (by simp [uF])
    simp only [Act.put, List.setIfInBounds_toArray, List.set_cons_zero, List.set_cons_succ]
    refine wpRelyE_consG (d := 45) rfl (fun wx hC hI hd S0 hS => ?_) (fun v17 => ?_)
    · have dg := hd ⟨10, .guard⟩ (by simp) rfl v10 (by simp)
      simp only [uF] at dg
      subst dg
      have d12 := hd ⟨12, .data⟩ (by simp) rfl v12 (by simp)
      simp only [uF] at d12
      have d16 := hd ⟨16, .data⟩ (by simp) rfl v16 (by simp)
      simp only [uF] at d16
      subst d12; subst d16
      have HSS := Lib.hid hS; clear hS hd hI
      refine Or.inl ⟨by rfl, ?_⟩
      go_simp
      exact HSS.out _ _ hC (Below.refl _ _) (by simp [uF])
    simp only [Act.put, List.setIfInBounds_toArray, List.set_cons_zero, List.set_cons_succ]
    refine wpRelyE_consG (d := 46) rfl (fun wx hC hI hd S0 hS => ?_) (fun v18 => ?_)
    · have dg := hd ⟨10, .guard⟩ (by simp) rfl v10 (by simp)
      simp only [uF] at dg
      subst dg
      have d17 := hd ⟨17, .data⟩ (by simp) rfl v17 (by simp)
      simp only [uF] at d17
      subst d17
      have HSS := Lib.hid hS; clear hS hd hI
      refine Or.inl ⟨by rfl, ?_⟩
      go_simp
      exact HSS.out _ _ hC (Below.refl _ _) (by simp [uF])
    simp only [Act.put, List.setIfInBounds_toArray, List.set_cons_zero, List.set_cons_succ]
    refine wpRelyE_consG (d := 47) rfl (fun wx hC hI hd S0 hS => ?_) (fun v19 => ?_)
    · have dg := hd ⟨18, .guard⟩ (by simp) rfl v18 (by simp)
      simp only [uF] at dg
      subst dg
      have c1 := keep_cell hC e1; have c2 := keep_cell hC e2
      have HSS := Lib.hid hS; clear hS hd hI
      refine Or.inl ⟨by rfl, ?_⟩
      go_simp
      exact HSS.out _ _ hC (Below.refl _ _) (by simp [uF])
    simp only [Act.put, List.setIfInBounds_toArray, List.set_cons_zero, List.set_cons_succ]
    refine wpRelyE_consG (d := 48) rfl (fun wx hC hI hd S0 hS => ?_) (fun v20 => ?_)
    · have dg := hd ⟨18, .guard⟩ (by simp) rfl v18 (by simp)
      simp only [uF] at dg
      subst dg
      have c3 := keep_cell hC e3; have c4 := keep_cell hC e4
      have HSS := Lib.hid hS; clear hS hd hI
      refine Or.inl ⟨by rfl, ?_⟩
      go_simp
      exact HSS.out _ _ hC (Below.refl _ _) (by simp [uF])
    simp only [Act.put, List.setIfInBounds_toArray, List.set_cons_zero, List.set_cons_succ]
    refine wpRelyE_consG (d := 49) rfl (fun wx hC hI hd S0 hS => ?_) (fun v21 => ?_)
    · have dg := hd ⟨18, .guard⟩ (by simp) rfl v18 (by simp)
      simp only [uF] at dg
      subst dg
      have d19 := hd ⟨19, .data⟩ (by simp) rfl v19 (by simp)
      simp only [uF] at d19
      have d20 := hd ⟨20, .data⟩ (by simp) rfl v20 (by simp)
      simp only [uF] at d20
      subst d19; subst d20
      have HSS := Lib.hid hS; clear hS hd hI
      refine Or.inl ⟨by rfl, ?_⟩
      go_simp
      exact HSS.out _ _ hC (Below.refl _ _) (by simp [uF])
    simp only [Act.put, List.setIfInBounds_toArray, List.set_cons_zero, List.set_cons_succ]
    refine wpRelyE_consG (d := 50) rfl (fun wx hC hI hd S0 hS => ?_) (fun v22 => ?_)
    · have dg := hd ⟨10, .guard⟩ (by simp) rfl v10 (by simp)
      simp only [uF] at dg
      subst dg
      have d18 := hd ⟨18, .data⟩ (by simp) rfl v18 (by simp)
      simp only [uF] at d18
      have d21 := hd ⟨21, .data⟩ (by simp) rfl v21 (by simp)
      simp only [uF] at d21
      subst d18; subst d21
      have HSS := Lib.hid hS; clear hS hd hI
      refine Or.inl ⟨by rfl, ?_⟩
      go_simp
      exact HSS.out _ _ hC (Below.refl _ _) (by simp [uF])
    simp only [Act.put, List.setIfInBounds_toArray, List.set_cons_zero, List.set_cons_succ]
    refine wpRelyE_cons2 (d := 51) rfl rfl (fun wx hC hI hd S0 hS => ?_) (fun v23 => ?_)
    · have d10 := hd ⟨10, .data⟩ (by simp) rfl v10 (by simp)
      simp only [uF] at d10
      have d22 := hd ⟨22, .data⟩ (by simp) rfl v22 (by simp)
      simp only [uF] at d22
      subst d10; subst d22
      have HSS := Lib.hid hS; clear hS hd hI
      go_simp
      exact HSS.out _ _ hC (Below.refl _ _) (by simp [uF])
    simp only [Act.put, List.setIfInBounds_toArray, List.set_cons_zero, List.set_cons_succ]
    intro wF hF0 hF
    have g23 := hF 23 v23 (by simp) (fun _ _ => rfl)
    simp only [uF] at g23
    subst g23
    clear hF
    simp only [List.drop_succ_cons, List.drop_zero, List.drop_nil]
    have hFs := hF0.size
    have d0 := keep_cell hF0 e0
    have d1 := keep_cell hF0 e1
    have d2 := keep_cell hF0 e2
    have d3 := keep_cell hF0 e3
    have d4 := keep_cell hF0 e4
    have hBF : Below w1.heap.size w1 wF := hBE.trans (hF0.mono hBE.size)
    have hFl0 : w1.heap.size < wF.heap.size := by omega
    clear hF0 e0 e1 e2 e3 e4 hBE CAA CBA CCA
    go_wp2_with fail
    refine (CC.out _ ⟨k1, n1⟩ hn1 (bbel)).mono ?_
    rintro _ wG ⟨⟨vc, rfl, hrf⟩, hG⟩
    have hne : 0 < (lodChain pl ⟨k1, n1⟩).length := List.length_pos_iff.2 (plain_under_not (p := pl) (a := ⟨k1, n1⟩) (b := ⟨k1, n1⟩) hn1 HU.out)
    obtain ⟨g, gc, rfl, hg1, hg2, _⟩ := own_cell hrf hne
    obtain ⟨rs, hrs⟩ : ∃ rs, lodChain pl ⟨k1, n1⟩ = rs := ⟨_, rfl⟩
    rw [hrs] at hne hrf ⊢
    have HALL : Hid (∀ x ∈ rs, lodUnder pl ⟨k1, n1⟩ x = true) := Lib.hid (by rw [← hrs]; exact plain_under_three (p := pl) (a := ⟨k1, n1⟩) (b := ⟨k1, n1⟩) hn1 HU.out)
    have HRF := Lib.hid hrf
    obtain ⟨nb, hnb⟩ : ∃ n, rs.length = n := ⟨_, rfl⟩
    have HNB := Lib.hid hnb
    rw [hnb] at hne ⊢
    have hgs := hG.size
    have b0 := keep_cell hG d0
    have b1 := keep_cell hG d1
    have b2 := keep_cell hG d2
    have hBG : Below w1.heap.size w1 wG := hBF.trans (hG.mono hBF.size)
    have hne2 : (0 : Int) < (nb : Int) := by omega
    have hnl : nb ≤ 9223372036854775807 := by
      have := own_form hrf
      obtain ⟨_, _, e, h1, h2⟩ := this
      unfold maxLen at h2
      omega
    clear hrs hrf hnb d0 d1 d2 d3 d4 hG hBF
    go_wp2_with fail
    go_loopw [8] (fun zi wr => ∃ k : Nat, k ≤ nb ∧ zi = .int .i64 k ∧ Below wG.heap.size wG wr) (fun zi _ => nb - (intOf zi).toNat)
    case atStart => exact ⟨0, by omega, rfl, Below.refl _ _⟩
    case round =>
      obtain ⟨k, hk, rfl, hb⟩ := hrel
      have hbs := hb.size
      have r0 := keep_cell hb b0
      have r1 := keep_cell hb b1
      have r2 := keep_cell hb b2
      by_cases hlt : k < nb
      · have hlt2 : (k : Int) < (nb : Int) := by omega
        obtain ⟨x, hx⟩ : ∃ x, rs[k]? = some x := ⟨_, List.getElem?_eq_getElem (by have := HNB.out; omega)⟩
        have HR2 := HRF.out.below hb
        rw [HNB.out] at HR2
        obtain ⟨q1, q2⟩ := HR2.cell2 hx
        have hg3 : g < wr.heap.size := by omega
        have hut := HALL.out x (List.mem_of_getElem? hx)
        have CT : ∀ y : In wr, Calls Try.prog 45 #[.agg #[.slice fa fl fc], .agg #[.int .i64 k1, .string n1], .agg #[.int .i64 x.fKeeper, .string x.fName]] y.x fun e w' => e = .returned (.bool true) ∧ Below y.x.heap.size y.x w' := fun y => by
          have := CG.out y.x ⟨k1, n1⟩ x hn1 ((hBG.trans (hb.mono hBG.size)).trans (y.h.mono (hBG.trans (hb.mono hBG.size)).size))
          rw [hut] at this
          exact this
        have y0 := In.cell r0
        have y1 := In.cell r1
        have y2 := In.cell r2
        have y3 := In.cell q1
        have y4 := In.cell q2
        clear HR2 hx hut q1 q2
        go_wp2_with fail
        refine wp_region_in (by kernel_rfl) (by kernel_rfl) ?_
        repeat (go_big_quiet_step (first | (go_at_call 45; exact Calls.ins (CT _))))
        refine wpQuiet_nil ?_
        rintro wZ ⟨⟨wI, hwI⟩, hq⟩
        obtain rfl : wI = wZ := hq.symm
        clear hq
        have hwIs := hwI.size
        (try dsimp only)
        have hB3 := hb.trans (hwI.mono hbs)
        clear hb hwI
        go_wp2
        go_roundw
        case measure => simp [intOf]; omega
        case rel => exact ⟨k + 1, by omega, by go_num, hB3⟩
      · obtain rfl : k = nb := by omega
        go_wp2
        all_goals (try go_returns)
        all_goals exact HR.out _ _ ⟨rfl, bbel⟩

end Go.Proofs.Ytcdmmnfdnmjnpaa
namespace Go.Proofs.Ytcdmmnfdnmjnpaa
open Go.ChangeShapes Go.WideShapes Go.ChangeAt Go.RowKit Go.Joins
theorem cells_u8 : Try.prog.cellsOf 5 = 1 := by kernel_rfl

set_option maxRecDepth 100000 in
theorem fnLodUnder_lifted (os : Os) (started : os.Started) (H : Type) (enc : TypeId × Value → H) :
    ReturnsInHanded {} Try.checked os 13 .any (Rows.fnLodUnderSpec.pre6 enc Try.prog Try.f13 Rows.fnLodUnderRow.domain false) (Rows.fnLodUnderSpec.post enc Try.prog Try.f13 false true false false) := by
  refine returnsInHanded_of_change (C := Try.checked) own started (by kernel_rfl) Try.func13
    (ChangeSpec.witness6 (enc := enc) (C := Try.checked) false ⟨#[], #[.slice none 0 0], []⟩ 8 (by kernel_rfl) (by kernel_rfl) (by kernel_rfl) (by kernel_rfl)) ?_
  intro W base args ds gs before hval0 hW hcnd _
  have hval : ∀ (j : Nat) t v, Try.f13.params[j]? = some t → args[j]? = some v → Value.okWide Try.prog W .any base t v := hval0
  have hW' := hW
  obtain ⟨p, q, hA0, hV, rfl, hfz, hnd⟩ := hW
  have hA : DataW.TrodAll enc Try.prog W 0 (fun _ => true) true Try.f13.params.toList args.toList ds p := hA0
  rw [Try.params13] at hA hval
  clear hA0 hval0
  obtain ⟨v0, d0, rfl, rfl, h0⟩ := trodAll_one hA
  obtain ⟨rfl, rfl⟩ := trodVars_none hV
  have b0 := open_bytes Try.underlying22 Try.underlying5 cells_u8 (hval 0 22 v0 rfl rfl) h0
  refine (L_FnLodUnder v0 W b0).mono fun e W' h => ?_
  obtain ⟨rfl, hb⟩ := h
  exact ⟨_, rfl, law_post (s := Rows.fnLodUnderSpec) hW' hb rfl rfl rfl Try.underlying4 (by rw [Try.params13]; kernel_rfl)⟩
theorem fnLodUnder_holds : Rows.FnLodUnderSaid :=
  OpenClaim.holds_of_wide 13 Try.f13 rfl rfl rfl rfl rfl rfl rfl ⟨rfl, rfl, rfl, rfl, rfl⟩ rfl rfl rfl rfl rfl (by kernel_rfl) Try.func13 (by kernel_rfl)
    (of_decide_eq_true (by kernel_rfl)) (by unfold Func.isWrapper; first | (rw [if_pos (by decide +kernel)]; kernel_rfl) | (rw [if_neg (by decide +kernel)]; exact ⟨rfl, rfl⟩))
    (fun os started H enc _ => fnLodUnder_lifted os started H enc)

end Go.Proofs.Ytcdmmnfdnmjnpaa
