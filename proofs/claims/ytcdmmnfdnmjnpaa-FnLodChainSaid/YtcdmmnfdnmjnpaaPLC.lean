/-
  Texts of mine, packed: LawLC, RowLC. No condition beside those of the single theorems.
-/
import Derived.Test.YtcdmmnfdnmjnpaaK21
import Derived.Test.YtcdmmnfdnmjnpaaK32
import Derived.Test.YtcdmmnfdnmjnpaaK2
import Derived.Test.YtcdmmnfdnmjnpaaK13
set_option linter.unusedSimpArgs false
set_option linter.unusedVariables false
namespace Go.Proofs.Ytcdmmnfdnmjnpaa
open Go.RowKit
theorem four_cellsC {w : World} {b : Nat} {x y z u : Value} {t : TypeId} (h : w.heap[b]? = some (.cells #[x, y, z, u] t (0, 0))) : w.cell? ⟨b, 0, none⟩ = some x ∧ w.cell? ⟨b, 1, none⟩ = some y ∧ w.cell? ⟨b, 2, none⟩ = some z ∧ w.cell? ⟨b, 3, none⟩ = some u ∧ w.frozen? ⟨b, 0, none⟩ = false ∧ w.frozen? ⟨b, 1, none⟩ = false ∧ w.frozen? ⟨b, 2, none⟩ = false ∧ w.frozen? ⟨b, 3, none⟩ = false := by
  refine ⟨?_, ?_, ?_, ?_, ?_, ?_, ?_, ?_⟩ <;> simp [World.cell?, World.frozen?, h]
def aF (B : Nat) (pv : Value) (g n gc k : Nat) (xk : Int) (xn : ByteArray) (lv : Value) : Nat → Value → World → Prop
  | 0, v, _ => v = .agg #[pv]
  | 1, v, _ => v = .slice (some ⟨g, 0, none⟩) n gc
  | 2, v, _ => v = .int .i64 (k : Int)
  | 3, v, _ => v = .pointer (some ⟨g, k * 2, none⟩)
  | 4, v, _ => v = .agg #[.int .i64 xk, .string xn]
  | 5, v, _ => v = lv
  | 6, v, w => ∃ e, v = .pointer (some ⟨e, 0, none⟩) ∧ B ≤ e ∧ w.heap[e]? = some (.cells #[.string ⟨#[]⟩, .string ⟨#[]⟩, .slice none 0 0, .slice none 0 0] 37 (0, 0))
  | _, _, _ => True
theorem aF_stays {B : Nat} {pv : Value} {g n gc k : Nat} {xk : Int} {xn : ByteArray} {lv : Value} : ∀ i u w w', Below w.heap.size w w' → aF B pv g n gc k xk xn lv i u w → aF B pv g n gc k xk xn lv i u w' := by
  intro i u w w' hg h
  match i with
  | 0 | 1 | 2 | 3 | 4 | 5 => exact h
  | 6 =>
    obtain ⟨e, h1, h2, h3⟩ := h
    exact ⟨e, h1, h2, (hg.block e (Array.getElem?_eq_some_iff.1 h3).1).trans h3⟩
  | n + 7 => trivial
def bF (vs : Nat → Value) (B : Nat) (pv : Value) (g n gc k : Nat) (xk : Int) (e9 : Nat) (su : ByteArray) (yk : Int) (yn : ByteArray) : Nat → Value → World → Prop
  | 0, v, _ => v = .agg #[pv]
  | 1, v, _ => v = .slice (some ⟨g, 0, none⟩) n gc
  | 2, v, _ => v = .int .i64 (k : Int)
  | 3, v, _ => v = .pointer (some ⟨g, k * 2, none⟩)
  | 4, v, _ => v = .pointer (some ⟨g, k * 2, none⟩)
  | 5, v, _ => v = .int .i64 xk
  | 6, v, _ => v = .pointer (some ⟨e9, 1, none⟩)
  | 7, v, _ => v = .string su
  | 8, v, _ => v = .tuple #[.agg #[.int .i64 yk, .string yn], .int .i64 1]
  | 9, v, _ => v = .tuple #[.agg #[.int .i64 yk, .string yn], .int .i64 1]
  | 10, v, _ => v = .agg #[.int .i64 yk, .string yn]
  | 11, v, _ => v = .int .i64 1
  | 12, v, w => ∃ (e : Nat) (a b : Value), v = .pointer (some ⟨e, 0, none⟩) ∧ B ≤ e ∧ w.heap[e]? = some (.cells #[a, b] 60 (0, 0))
  | 13, _, w => ∃ e, vs 12 = .pointer (some ⟨e, 0, none⟩) ∧ B ≤ e ∧ w.heap[e]? = some (.cells #[.int .i64 yk, .string yn] 60 (0, 0))
  | 14, v, _ => v = .int .i64 1
  | _, _, _ => True
def tG (j : Nat) (w w' : World) : Prop := (j ≠ 13 ∧ Below w.heap.size w w') ∨ (j = 13 ∧ ∀ (e : Nat) (x y : Value) (t : TypeId), w.heap[e]? = some (.cells #[x, y] t (0, 0)) → ∃ x' y', w'.heap[e]? = some (.cells #[x', y'] t (0, 0)))
theorem tG_rfl (j : Nat) (w : World) : tG j w w := by
  by_cases h : j = 13
  · exact Or.inr ⟨h, fun e x y t h => ⟨x, y, h⟩⟩
  · exact Or.inl ⟨h, Below.refl _ _⟩
theorem tG_of {w w' : World} {j : Nat} (hj : j ≠ 13) (h : Below w.heap.size w w') : tG j w w' := Or.inl ⟨hj, h⟩
theorem tG_13 (w : World) (g : Nat) (a b : Value) : tG 13 w ((w.setCell ⟨g, 0, none⟩ a).setCell ⟨g, 1, none⟩ b) := Or.inr ⟨rfl, fun e x y t h => by
  by_cases he : e = g
  · subst he
    have := heap_setCell_at (i := 1) (v := b) (heap_setCell_at (i := 0) (v := a) h)
    exact ⟨_, _, by simpa using this⟩
  · exact ⟨x, y, (Below.heap_setCell _ _ _ _ (by simpa using he)).trans ((Below.heap_setCell _ _ _ _ (by simpa using he)).trans h)⟩⟩
theorem bF_stays {vs : Nat → Value} {B : Nat} {pv : Value} {g n gc k : Nat} {xk : Int} {e9 : Nat} {su : ByteArray} {yk : Int} {yn : ByteArray} : ∀ i j u w w', i ≠ j → tG j w w' → bF vs B pv g n gc k xk e9 su yk yn i u w → bF vs B pv g n gc k xk e9 su yk yn i u w' := by
  intro i j u w w' hne hg h
  match i with
  | 0 | 1 | 2 | 3 | 4 | 5 | 6 | 7 | 8 | 9 | 10 | 11 | 14 => exact h
  | 12 =>
    obtain ⟨e, a, b, h1, h2, h3⟩ := h
    rcases hg with ⟨_, hg⟩ | ⟨_, hg⟩
    · exact ⟨e, a, b, h1, h2, (hg.block e (Array.getElem?_eq_some_iff.1 h3).1).trans h3⟩
    · obtain ⟨a', b', h4⟩ := hg e a b _ h3
      exact ⟨e, a', b', h1, h2, h4⟩
  | 13 =>
    obtain ⟨e, h1, h2, h3⟩ := h
    rcases hg with ⟨_, hg⟩ | ⟨rfl, hg⟩
    · exact ⟨e, h1, h2, (hg.block e (Array.getElem?_eq_some_iff.1 h3).1).trans h3⟩
    · exact absurd rfl hne
  | n + 15 => trivial
theorem bF_dep {l : List Oper} {m B : Nat} {pv : Value} {g n gc k : Nat} {xk : Int} {e9 : Nat} {su : ByteArray} {yk : Int} {yn : ByteArray} (h : ∀ o, l[13]? = some o → ∃ e ∈ o.after, Region.binds .any e = true ∧ e.on = 12) : DepF (fun vs => bF vs B pv g n gc k xk e9 su yk yn) l m := by
  intro i o vs vs' u w hi ho he hf
  match i with
  | 0 | 1 | 2 | 3 | 4 | 5 | 6 | 7 | 8 | 9 | 10 | 11 | 12 | 14 => exact hf
  | 13 =>
    obtain ⟨e, h1, h2, h3⟩ := h o ho
    have h4 := he e h1 h2
    rw [h3] at h4
    obtain ⟨e', h5, h6, h7⟩ := hf
    exact ⟨e', by rw [← h4]; exact h5, h6, h7⟩
  | n + 15 => trivial

set_option maxRecDepth 100000 in
set_option maxHeartbeats 16000000 in
theorem L_FnLodChain (v : Value) (w : World) (hv : Bytes w v) :
    Calls Try.prog 14 #[v] w fun e w' => e = .returned (.bool true) ∧ Below w.heap.size w w' := by
  obtain ⟨c, len, cap, rfl, g1, g2, g3⟩ := id hv
  have m1 : len ≤ 9223372036854775807 := by unfold maxLen at g2; omega
  clear g2 g3
  refine calls_hide fun R HR => ?_
  go_enter Try.func14, Try.ntmps14
  go_wp2_with fail
  all_goals first
    | (try go_returns
       exact HR.out _ _ ⟨rfl, bbel⟩)
    | skip
  refine (S_DrawLodChain _ _ hv).mono ?_
  rintro _ w1 ⟨⟨pv, pl, k1, n1, rfl, hs, hn1⟩, h1⟩
  have h1s := (h1).size; (try simp only [World.size_alloc, World.size_setCell, World.size_drew] at h1s)
  obtain ⟨fa, fl, fc, rfl⟩ := hs.form
  obtain ⟨rs, hrs⟩ : ∃ rs, lodChain pl ⟨k1, n1⟩ = rs := ⟨_, rfl⟩
  obtain ⟨jw, hjw⟩ : ∃ j, lodFind pl k1 n1 = j := ⟨_, rfl⟩
  have CC : Hid (∀ W, Below w1.heap.size w1 W → Calls Try.prog 34 #[.agg #[.slice fa fl fc], .agg #[.int .i64 k1, .string n1]] W fun e w' => (∃ v, e = .returned v ∧ Refs w' W.heap.size v rs) ∧ Below W.heap.size W w') := Lib.hid fun W hW => by rw [← hrs]; exact I_LodChain pl _ ⟨k1, n1⟩ W (hs.stays rLodKeeper_good (Keeps.of_below' hW (Nat.le_refl _))) hn1
  have CS : Hid (∀ W, Below w1.heap.size w1 W → Calls Try.prog 49 #[.agg #[.slice fa fl fc], .agg #[.int .i64 k1, .string n1]] W fun e w' => (∃ v, e = .returned v ∧ Refs w' W.heap.size v rs) ∧ Below W.heap.size W w') := Lib.hid fun W hW => by rw [← hrs]; exact S_LodChain pl _ ⟨k1, n1⟩ W (hs.stays rLodKeeper_good (Keeps.of_below' hW (Nat.le_refl _))) hn1
  have CG : Hid (∀ (W : World) (i : Int) (s : ByteArray), s.size ≤ maxLen → Below w1.heap.size w1 W → Calls Try.prog 29 #[.agg #[.slice fa fl fc], .int .i64 i, .string s] W fun e w' => e = .returned (refT (lodFind pl i s)) ∧ Below W.heap.size W w') := Lib.hid fun W i s hs9 hW => I_LodFind pl _ i s W (hs.stays rLodKeeper_good (Keeps.of_below' hW (Nat.le_refl _))) hs9
  have CF : Hid (∀ W, Below w1.heap.size w1 W → Calls Try.prog 29 #[.agg #[.slice fa fl fc], .int .i64 k1, .string n1] W fun e w' => e = .returned (refT jw) ∧ Below W.heap.size W w') := Lib.hid fun W hW => by rw [← hjw]; exact CG.out W k1 n1 hn1 hW
  have LO : Hid (∀ x : DLodRef, LoOf pl (.slice fa fl fc) x w1) := Lib.hid fun x => L_loOf pl _ x w1 hs
  have HRS := Lib.hid hrs
  have HJ := Lib.hid hjw
  clear hs hrs hjw
  go_wp2_with fail
  refine (CC.out _ (bbel)).mono ?_
  rintro _ w2 ⟨⟨_, rfl, hrf⟩, h2⟩
  have h2s := (h2).size; (try simp only [World.size_alloc, World.size_setCell, World.size_drew] at h2s)
  obtain ⟨h2pd, h2po, h2pg, h2pp, h2px, h2py, h2pc1, h2pf1, h2pz1⟩ := bf2 (n := w1.heap.size) h2
  obtain ⟨ga, gc, rfl, hgc, hgm⟩ := own_form hrf
  have hgm' : gc ≤ 9223372036854775807 := by unfold maxLen at hgm; omega
  have HRF := Lib.hid hrf
  clear hrf
  go_wp2_with fail
  refine (CS.out _ (bbel)).mono ?_
  rintro _ w3 ⟨⟨_, rfl, hrf'⟩, h3⟩
  have h3s := (h3).size; (try simp only [World.size_alloc, World.size_setCell, World.size_drew] at h3s)
  obtain ⟨h3pd, h3po, h3pg, h3pp, h3px, h3py, h3pc1, h3pf1, h3pz1⟩ := bf2 (n := w1.heap.size) h3
  obtain ⟨ga', gc', rfl, _, _⟩ := own_form hrf'
  have HRF' := Lib.hid hrf'
  clear hrf'
  go_wp2_with fail
  refine (L_loRefs _ _ rs _ _ _ (HRF.out.below h3) HRF'.out).mono ?_
  rintro _ w4 ⟨rfl, h4⟩
  have h4s := (h4).size; (try simp only [World.size_alloc, World.size_setCell, World.size_drew] at h4s)
  obtain ⟨h4pd, h4po, h4pg, h4pp, h4px, h4py, h4pc1, h4pf1, h4pz1⟩ := bf2 (n := w1.heap.size) h4
  have HRG : Hid (Refs w4 0 (.slice ga rs.length gc) rs) := Lib.hid (((HRF.out.below h3).below h4).low (Nat.zero_le _))
  have e0 : w4.cell? ⟨w1.heap.size, 0, none⟩ = some (.slice fa fl fc) := by go_simp
  have e1 : w4.cell? ⟨w1.heap.size + 1, 0, none⟩ = some (.int .i64 k1) := by go_simp
  have e2 : w4.cell? ⟨w1.heap.size + 1, 1, none⟩ = some (.string n1) := by go_simp
  have hB4 : Below w1.heap.size w1 w4 := bbel
  clear h2pd h2pg h2px h2py h2po h2pp h2pc1 h2pf1 h2pz1 h3pd h3pg h3px h3py h3po h3pp h3pc1 h3pf1 h3pz1 h4pd h4pg h4px h4py h4po h4pp h4pc1 h4pf1 h4pz1 h2 h3 h4 HRF HRF'
  obtain ⟨⟨xk, xn⟩, cd⟩ := jw
  simp only [refT] at CF
  go_wp2_with fail
  refine (CF.out _ (bbel)).mono ?_
  rintro _ w5 ⟨rfl, h5⟩
  have h5s := (h5).size; (try simp only [World.size_alloc, World.size_setCell, World.size_drew] at h5s)
  replace e0 := keep_cell h5 e0
  replace e1 := keep_cell h5 e1
  replace e2 := keep_cell h5 e2
  have l0 : w1.heap.size < w5.heap.size := block_lt_of_cell e0
  have l1 : w1.heap.size + 1 < w5.heap.size := block_lt_of_cell e1
  have HR5 := Lib.hid (HRG.out.below h5)
  have hB5 : Below w1.heap.size w1 w5 := hB4.trans (h5.mono hB4.size)
  clear h5 hB4 HRG
  by_cases hnil : rs = []
  · have hnone := (plain_chain_none (p := pl) (r := ⟨k1, n1⟩) hn1).1 (HRS.out.trans hnil)
    dsimp only at hnone
    rw [HJ.out] at hnone
    subst hnil
    simp only [List.length_nil]
    go_wp2_with fail
    refine (CF.out _ (bbel)).mono ?_
    rintro _ w6 ⟨rfl, h6⟩
    have h6s := (h6).size; (try simp only [World.size_alloc, World.size_setCell, World.size_drew] at h6s)
    have f1 : w6.cell? ⟨w1.heap.size + 1, 0, none⟩ = some (.int .i64 k1) := keep_cell h6 (by go_simp)
    have f2 : w6.cell? ⟨w1.heap.size + 1, 1, none⟩ = some (.string n1) := keep_cell h6 (by go_simp)
    have l2 : w1.heap.size + 1 < w6.heap.size := block_lt_of_cell f1
    by_cases hcd : cd = 1
    · subst hcd
      have hne : (xk == k1 && xn.toList == n1.toList) = false := by
        cases he : (xk == k1 && xn.toList == n1.toList)
        · rfl
        · exact absurd ⟨rfl, refEq_iff.1 he⟩ hnone
      have hcs : (xk == k1) = false ∨ ((xk == k1) = true ∧ (xn.toList == n1.toList) = false) := by
        cases e : (xk == k1)
        · exact Or.inl rfl
        · rw [e] at hne; exact Or.inr ⟨rfl, by simpa using hne⟩
      clear hne hnone
      rcases hcs with q1 | ⟨q1, q2⟩
      all_goals
        go_wp2_with (go_at_call 18; refine (L_loOk' _).mono ?_; rintro _ w9 ⟨rfl, h9⟩)
        all_goals (try go_returns)
        all_goals exact HR.out _ _ ⟨rfl, bbel⟩
    · clear hnone
      have hcd2 : (cd == 1) = false := by simpa using hcd
      go_wp2_with (go_at_call 18; refine (L_loOk' _).mono ?_; rintro _ w9 ⟨rfl, h9⟩)
      all_goals (try go_returns)
      all_goals exact HR.out _ _ ⟨rfl, bbel⟩
  obtain ⟨hf0, hf6, hfd⟩ := plain_first (p := pl) (r := ⟨k1, n1⟩) hn1 (by rw [HRS.out]; exact hnil)
  rw [HRS.out] at hf0 hf6
  dsimp only at hfd
  rw [HJ.out] at hfd
  cases hfd
  have hpos : 0 < rs.length := List.length_pos_iff.2 hnil
  obtain ⟨g, gc1, eg, hgw, hg1, hgl, hgr⟩ := HR5.out.at' hpos
  cases eg
  obtain ⟨n, hn⟩ : ∃ n, rs.length = n := ⟨_, rfl⟩
  have HN := Lib.hid hn
  obtain ⟨z1, z2⟩ := hgr 0 _ hf0
  rw [hn] at hf6 hpos hg1 ⊢
  simp only [Nat.zero_mul, Nat.zero_add] at z1 z2
  have hn0 : (0 : Int) < (n : Int) := by omega
  have hn00 : ((n : Int) == 0) = false := by simp; omega
  have hn6 : (n : Int) ≤ 6 := by omega
  clear hgr hf0 hn hnil
  go_wp2_with fail
  obtain ⟨wE, hwE⟩ : ∃ wE, wE = w5.alloc (.cells #[.int .i64 k1, .string n1] 60) := ⟨_, rfl⟩
  rw [← hwE]
  have hsE : wE.heap.size = w5.heap.size + 1 := by rw [hwE]; simp
  have hBE : Below w1.heap.size w1 wE := by rw [hwE]; exact hB5.alloc hB5.size _
  have c0 : wE.cell? ⟨w1.heap.size, 0, none⟩ = some (.slice fa fl fc) := by rw [hwE]; go_simp
  have c1 : wE.cell? ⟨w1.heap.size + 1, 0, none⟩ = some (.int .i64 k1) := by rw [hwE]; go_simp
  have c2 : wE.cell? ⟨w1.heap.size + 1, 1, none⟩ = some (.string n1) := by rw [hwE]; go_simp
  have c3 : wE.cell? ⟨g, 0, none⟩ = some (.int .i64 k1) := by rw [hwE]; go_simp
  have c4 : wE.cell? ⟨g, 1, none⟩ = some (.string n1) := by rw [hwE]; go_simp
  have hgE : g < wE.heap.size := by omega
  have HRE : Hid (Refs wE 0 (.slice (some ⟨g, 0, none⟩) n gc) rs) := Lib.hid (by rw [hwE]; have := HR5.out.below ((Below.refl _ _).alloc (Nat.le_refl _) (.cells #[.int .i64 k1, .string n1] 60)); rw [HN.out] at this; exact this)
  clear hwE e0 e1 e2 z1 z2 HR5 hB5
  go_quiet (fail)
  go_wp2_with fail
  go_loopw [10] (fun z wr => ∃ k : Nat, k ≤ n ∧ z = .int .i64 k ∧ Below wE.heap.size wE wr) (fun z _ => n - (intOf z).toNat)
  case atStart => exact ⟨0, by omega, rfl, Below.drewN (Below.refl _ _) _⟩
  case round =>
    obtain ⟨k, hk, rfl, hb⟩ := hrel
    have hbs := hb.size
    have r0 := keep_cell hb c0
    have l2 : w1.heap.size < wr.heap.size := by omega
    have hgr : g < wr.heap.size := by omega
    by_cases hlt : k < n
    · have hlt2 : (k : Int) < (n : Int) := by omega
      have hkc : (k : Int) ≤ (gc : Int) := by omega
      obtain ⟨x, hx⟩ : ∃ x, rs[k]? = some x := ⟨_, List.getElem?_eq_getElem (by have := HN.out; omega)⟩
      have hRr := HRE.out.below hb
      obtain ⟨q1, q2⟩ := hRr.cell2 hx
      have hBr : Hid (Below w1.heap.size w1 wr) := Lib.hid (hBE.trans (hb.mono hBE.size))
      obtain ⟨lv, ⟨la1, ll1, lc1, la2, ll2, lc2, elv⟩, LOX⟩ := LO.out x
      subst elv
      have hnx := plain_next (p := pl) (r := ⟨k1, n1⟩) hn1 (k := k) (x := x) (by rw [HRS.out]; exact hx)
      rw [HRS.out, HN.out] at hnx
      obtain ⟨nm9, hnm9⟩ : ∃ s, (loOfP pl x).fName = s := ⟨_, rfl⟩
      obtain ⟨su, hsu⟩ : ∃ s, (loOfP pl x).fSuper = s := ⟨_, rfl⟩
      rw [hnm9, hsu] at LOX
      rw [hsu] at hnx
      have HNX := Lib.hid hnx
      have hno : ∀ (j : Nat) (y : DLodRef), j < k → rs[j]? = some y → refEq y x = false := fun j y hj hy => by
        cases e : refEq y x
        · rfl
        · have := refEq_iff.1 e
          subst this
          have := plain_once (p := pl) (r := ⟨k1, n1⟩) hn1 (by rw [HRS.out]; exact hx) (by rw [HRS.out]; exact hy)
          omega
      have HNO := Lib.hid hno
      have HX := Lib.hid hx
      clear hnx hno hnm9 hsu hRr hx
      go_wp2_with fail
      refine wp_region_relyE 7 (Below wr.heap.size wr) (fun _ w1 w2 => Below w1.heap.size w1 w2) (fun _ => aF wr.heap.size (.slice fa fl fc) g n gc k x.fKeeper x.fName (.agg #[.string nm9, .string su, .slice la1 ll1 lc1, .slice la2 ll2 lc2])) (fun _ _ => True) noDead (by kernel_rfl) (by decide) (by kernel_rfl) (Or.inr ⟨by kernel_rfl, by kernel_rfl⟩) (by kernel_rfl) ((Below.refl _ _).drew) (fun _ _ _ _ _ _ _ _ _ h => h) noDead_dead (fun _ => trivial) (fun _ _ _ _ _ _ _ _ => trivial) (fun _ i j u w1 w2 hne _ _ hg hF => aF_stays i u w1 w2 hg hF) (fun _ _ _ => Below.refl _ _) ?_
      refine wpRelyE_cons2 (d := 78) rfl rfl (fun wx hC hI hd S0 hS => ?_) (fun v0 => ?_)
      · have c2 := keep_cell hC r0
        have HSS := Lib.hid hS; clear hS hd hI
        go_simp
        exact HSS.out _ _ hC (Below.refl _ _) (by simp [aF])
      simp only [Act.put, List.setIfInBounds_toArray, List.set_cons_zero, List.set_cons_succ]
      refine wpRelyE_cons2 (d := 79) rfl rfl (fun wx hC hI hd S0 hS => ?_) (fun v1 => ?_)
      · have HSS := Lib.hid hS; clear hS hd hI
        go_simp
        exact HSS.out _ _ hC (Below.refl _ _) (by simp [aF])
      simp only [Act.put, List.setIfInBounds_toArray, List.set_cons_zero, List.set_cons_succ]
      refine wpRelyE_cons2 (d := 80) rfl rfl (fun wx hC hI hd S0 hS => ?_) (fun v2 => ?_)
      · have HSS := Lib.hid hS; clear hS hd hI
        go_simp
        exact HSS.out _ _ hC (Below.refl _ _) (by simp [aF])
      simp only [Act.put, List.setIfInBounds_toArray, List.set_cons_zero, List.set_cons_succ]
      refine wpRelyE_cons2 (d := 81) rfl rfl (fun wx hC hI hd S0 hS => ?_) (fun v3 => ?_)
      · have d1 := hd ⟨1, .data⟩ (by simp) rfl v1 (by simp)
        simp only [aF] at d1
        have d2 := hd ⟨2, .data⟩ (by simp) rfl v2 (by simp)
        simp only [aF] at d2
        subst d1; subst d2
        have HSS := Lib.hid hS; clear hS hd hI
        go_simp
        exact HSS.out _ _ hC (Below.refl _ _) (by simp [aF])
      simp only [Act.put, List.setIfInBounds_toArray, List.set_cons_zero, List.set_cons_succ]
      refine wpRelyE_cons2 (d := 82) rfl rfl (fun wx hC hI hd S0 hS => ?_) (fun v4 => ?_)
      · have d3 := hd ⟨3, .data⟩ (by simp) rfl v3 (by simp)
        simp only [aF] at d3
        subst d3
        have c3 := keep_cell hC q1; have c4 := keep_cell hC q2
        have HSS := Lib.hid hS; clear hS hd hI
        go_simp
        exact HSS.out _ _ hC (Below.refl _ _) (by simp [aF])
      simp only [Act.put, List.setIfInBounds_toArray, List.set_cons_zero, List.set_cons_succ]
      refine wpRelyE_cons2 (d := 83) rfl rfl (fun wx hC hI hd S0 hS => ?_) (fun v5 => ?_)
      · have d0 := hd ⟨0, .data⟩ (by simp) rfl v0 (by simp)
        simp only [aF] at d0
        have d4 := hd ⟨4, .data⟩ (by simp) rfl v4 (by simp)
        simp only [aF] at d4
        subst d0; subst d4
        have HSS := Lib.hid hS; clear hS hd hI
        go_simp
        refine (LOX _ (hBr.out.trans (hC.mono hBr.out.size))).mono ?_
        rintro _ w' ⟨rfl, hX⟩
        exact HSS.out _ _ (hC.trans (hX.mono hC.size)) hX (by simp [aF])
      simp only [Act.put, List.setIfInBounds_toArray, List.set_cons_zero, List.set_cons_succ]
      refine wpRelyE_cons2 (d := 11) rfl rfl (fun wx hC hI hd S0 hS => ?_) (fun v6 => ?_)
      · have hzx := hC.size
        have HSS := Lib.hid hS; clear hS hd hI
        go_simp
        exact HSS.out _ _ (hC.alloc hzx _) ((Below.refl _ _).alloc (Nat.le_refl _) _) (by simp only [List.nil_append, List.cons_append, List.length_cons, List.length_nil, Nat.reduceAdd, aF]; exact ⟨_, rfl, hzx, heap_alloc_new wx _⟩)
      simp only [Act.put, List.setIfInBounds_toArray, List.set_cons_zero, List.set_cons_succ]
      intro wF hC hF
      have f5 := hF 5 v5 (by simp) (fun _ _ => rfl)
      have f6 := hF 6 v6 (by simp) (fun _ _ => rfl)
      simp only [aF] at f5 f6
      obtain ⟨e9, f6, he9, hh9⟩ := f6
      subst f5
      subst f6
      obtain ⟨y0, y1, y2, y3, x0, x1, x2, x3⟩ := four_cellsC hh9
      have hsF := hC.size
      have n3' : e9 < wF.heap.size := block_lt_of_cell y0
      have s0 := keep_cell hC r0
      have s1 := keep_cell hC q1
      have s2 := keep_cell hC q2
      have hgF : g < wF.heap.size := by omega
      have lF : w1.heap.size < wF.heap.size := by omega
      clear hF hh9 r0 q1 q2
      simp only [List.drop_succ_cons, List.drop_zero]
      go_wp2_with fail
      obtain ⟨wS, hwS⟩ : ∃ wS, wS = (((wF.setCell ⟨e9, 0, none⟩ (.string nm9)).setCell ⟨e9, 1, none⟩ (.string su)).setCell ⟨e9, 2, none⟩ (.slice la1 ll1 lc1)).setCell ⟨e9, 3, none⟩ (.slice la2 ll2 lc2) := ⟨_, rfl⟩
      rw [← hwS]
      have hsS : wS.heap.size = wF.heap.size := by rw [hwS]; simp [World.setCell]
      have hbS : Below wE.heap.size wE wS := by
        rw [hwS]
        have h := hb.trans (hC.mono hbs)
        exact (((h.setCell (by show wE.heap.size ≤ e9; omega) _).setCell (by show wE.heap.size ≤ e9; omega) _).setCell (by show wE.heap.size ≤ e9; omega) _).setCell (by show wE.heap.size ≤ e9; omega) _
      have t0 : wS.cell? ⟨w1.heap.size, 0, none⟩ = some (.slice fa fl fc) := cell_below hbS (by omega) c0
      have HRS2 := Lib.hid (HRE.out.below hbS)
      obtain ⟨t1, t2⟩ := HRS2.out.cell2 HX.out
      have t3 : wS.cell? ⟨e9, 1, none⟩ = some (.string su) := by rw [hwS]; go_simp
      have l3 : e9 < wS.heap.size := by omega
      have hgS : g < wS.heap.size := by omega
      clear hwS hC y0 y1 y2 y3 x0 x1 x2 x3 s0 s1 s2 hb
      have CH : ∀ y : In wS, Calls Try.prog 50 #[.slice (some ⟨g, 0, none⟩) k gc, .agg #[.int .i64 x.fKeeper, .string x.fName]] y.x fun e w' => e = .returned (.bool false) ∧ Below y.x.heap.size y.x w' := fun y => L_loHas g n gc k rs x 0 y.x (HRS2.out.below y.h) (by have := HN.out; omega) HNO.out
      have i0 := In.cell t0
      have i1 := In.cell t1
      have i2 := In.cell t2
      have i3 := In.cell t3
      rcases HNX.out with ⟨hsu, hkn⟩ | ⟨hsu, hsm, y, hy, hfy⟩
      · subst hsu
        subst hkn
        refine wp_region_in (by kernel_rfl) (by kernel_rfl) ?_
        repeat (go_big_quiet_step (first | (go_at_call 50; exact Calls.ins (CH _))))
        refine wpQuiet_nil ?_
        rintro wZ ⟨⟨wI, hwI⟩, hq⟩
        obtain rfl : wI = wZ := hq.symm
        clear hq
        have hwIs := hwI.size
        (try dsimp only)
        have u3 := keep_cell hwI t3
        have hbI := hbS.trans (hwI.mono hbS.size)
        clear CH i0 i1 i2 i3 hwI hbS
        go_wp2
        go_roundw
        case measure => simp [intOf] <;> omega
        case rel => exact ⟨k + 1, by omega, by go_num, hbI⟩
      · have hsu2 : (su.toList == []) = false := by
          cases h : su.toList with
          | nil => rw [h] at hsu; cases hsu
          | cons a l => rfl
        have hk1 : k + 1 < n := by have := (List.getElem?_eq_some_iff.1 hy).1; have := HN.out; omega
        have hkn3 : ¬ (k : Int) = (n : Int) - 1 := by omega
        have hkn4 : ((k : Int) == (n : Int) - 1) = false := by simpa using hkn3
        have hw9 : IntKind.i64.wrap ((n : Int) - 1) = (n : Int) - 1 := IntWalk.i64_in _ (by omega)
        have HY := Lib.hid hy
        have HFY := Lib.hid hfy
        clear hy hfy
        refine wp_region_in (by kernel_rfl) (by kernel_rfl) ?_
        repeat (go_big_quiet_step (first | (go_at_call 50; exact Calls.ins (CH _))))
        refine wpQuiet_nil ?_
        rintro wZ ⟨⟨wI, hwI⟩, hq⟩
        obtain rfl : wI = wZ := hq.symm
        clear hq
        have hwIs := hwI.size
        (try dsimp only)
        have s0 := keep_cell hwI t0
        have s1 := keep_cell hwI t1
        have s3 := keep_cell hwI t3
        have hsI := hwI.size
        have hgI : g < wI.heap.size := by omega
        have hbI := hbS.trans (hwI.mono hbS.size)
        have hBI : Hid (Below w1.heap.size w1 wI) := Lib.hid (hBE.trans (hbI.mono hBE.size))
        have HRI := Lib.hid (HRE.out.below hbI)
        have CN : ∀ W, Below w1.heap.size w1 W → Calls Try.prog 29 #[.agg #[.slice fa fl fc], .int .i64 x.fKeeper, .string su] W fun e w' => e = .returned (.tuple #[.agg #[.int .i64 y.fKeeper, .string y.fName], .int .i64 1]) ∧ Below W.heap.size W w' := fun W hW => by
          have := CG.out W x.fKeeper su hsm hW
          rw [HFY.out] at this
          exact this
        clear CH i0 i1 i2 i3 hwI hbS t0 t1 t2 t3
        go_wp2_with fail
        refine wp_region_relyE 15 (Below wI.heap.size wI) tG (fun vs => bF vs wI.heap.size (.slice fa fl fc) g n gc k x.fKeeper e9 su y.fKeeper y.fName) (fun _ _ => True) noDead (by kernel_rfl) (by decide) (by kernel_rfl) (Or.inl (by rfl)) (by kernel_rfl) ((Below.refl _ _).drew) ?hdep noDead_dead (fun _ => trivial) (fun _ _ _ _ _ _ _ _ => trivial) (fun _ i j u w1 w2 hne _ _ hg hF => bF_stays i j u w1 w2 hne hg hF) (fun j w _ => tG_rfl j w) ?_
        case hdep => exact bF_dep (fun o ho => by cases ho; exact ⟨⟨12, .data⟩, by simp, rfl, rfl⟩)
        refine wpRelyE_cons2 (d := 107) rfl rfl (fun wx hC hI hd S0 hS => ?_) (fun y0 => ?_)
        · have c2 := keep_cell hC s0
          have HSS := Lib.hid hS; clear hS hd hI
          go_simp
          exact HSS.out _ _ hC (tG_rfl _ _) (by simp [bF])
        simp only [Act.put, List.setIfInBounds_toArray, List.set_cons_zero, List.set_cons_succ]
        refine wpRelyE_cons2 (d := 108) rfl rfl (fun wx hC hI hd S0 hS => ?_) (fun y1 => ?_)
        · have HSS := Lib.hid hS; clear hS hd hI
          go_simp
          exact HSS.out _ _ hC (tG_rfl _ _) (by simp [bF])
        simp only [Act.put, List.setIfInBounds_toArray, List.set_cons_zero, List.set_cons_succ]
        refine wpRelyE_cons2 (d := 109) rfl rfl (fun wx hC hI hd S0 hS => ?_) (fun y2 => ?_)
        · have HSS := Lib.hid hS; clear hS hd hI
          go_simp
          exact HSS.out _ _ hC (tG_rfl _ _) (by simp [bF])
        simp only [Act.put, List.setIfInBounds_toArray, List.set_cons_zero, List.set_cons_succ]
        refine wpRelyE_cons2 (d := 110) rfl rfl (fun wx hC hI hd S0 hS => ?_) (fun y3 => ?_)
        · have d1 := hd ⟨1, .data⟩ (by simp) rfl y1 (by simp)
          simp only [bF] at d1
          have d2 := hd ⟨2, .data⟩ (by simp) rfl y2 (by simp)
          simp only [bF] at d2
          subst d1; subst d2
          have HSS := Lib.hid hS; clear hS hd hI
          go_simp
          exact HSS.out _ _ hC (tG_rfl _ _) (by simp [bF])
        simp only [Act.put, List.setIfInBounds_toArray, List.set_cons_zero, List.set_cons_succ]
        refine wpRelyE_cons2 (d := 111) rfl rfl (fun wx hC hI hd S0 hS => ?_) (fun y4 => ?_)
        · have d3 := hd ⟨3, .data⟩ (by simp) rfl y3 (by simp)
          simp only [bF] at d3
          subst d3
          have HSS := Lib.hid hS; clear hS hd hI
          go_simp
          exact HSS.out _ _ hC (tG_rfl _ _) (by simp [bF])
        simp only [Act.put, List.setIfInBounds_toArray, List.set_cons_zero, List.set_cons_succ]
        refine wpRelyE_cons2 (d := 112) rfl rfl (fun wx hC hI hd S0 hS => ?_) (fun y5 => ?_)
        · have d4 := hd ⟨4, .data⟩ (by simp) rfl y4 (by simp)
          simp only [bF] at d4
          subst d4
          have c3 := keep_cell hC s1
          have HSS := Lib.hid hS; clear hS hd hI
          go_simp
          exact HSS.out _ _ hC (tG_rfl _ _) (by simp [bF])
        simp only [Act.put, List.setIfInBounds_toArray, List.set_cons_zero, List.set_cons_succ]
        refine wpRelyE_cons2 (d := 113) rfl rfl (fun wx hC hI hd S0 hS => ?_) (fun y6 => ?_)
        · have HSS := Lib.hid hS; clear hS hd hI
          go_simp
          exact HSS.out _ _ hC (tG_rfl _ _) (by simp [bF])
        simp only [Act.put, List.setIfInBounds_toArray, List.set_cons_zero, List.set_cons_succ]
        refine wpRelyE_cons2 (d := 114) rfl rfl (fun wx hC hI hd S0 hS => ?_) (fun y7 => ?_)
        · have d6 := hd ⟨6, .data⟩ (by simp) rfl y6 (by simp)
          simp only [bF] at d6
          subst d6
          have c4 := keep_cell hC s3
          have HSS := Lib.hid hS; clear hS hd hI
          go_simp
          exact HSS.out _ _ hC (tG_rfl _ _) (by simp [bF])
        simp only [Act.put, List.setIfInBounds_toArray, List.set_cons_zero, List.set_cons_succ]
        refine wpRelyE_cons2 (d := 115) rfl rfl (fun wx hC hI hd S0 hS => ?_) (fun y8 => ?_)
        · have d0 := hd ⟨0, .data⟩ (by simp) rfl y0 (by simp)
          simp only [bF] at d0
          have d5 := hd ⟨5, .data⟩ (by simp) rfl y5 (by simp)
          simp only [bF] at d5
          have d7 := hd ⟨7, .data⟩ (by simp) rfl y7 (by simp)
          simp only [bF] at d7
          subst d0; subst d5; subst d7
          have HSS := Lib.hid hS; clear hS hd hI
          go_simp
          refine (CN _ (hBI.out.trans (hC.mono hBI.out.size))).mono ?_
          rintro _ w' ⟨rfl, hX⟩
          exact HSS.out _ _ (hC.trans (hX.mono hC.size)) (tG_of (by simp) hX) (by simp [bF])
        simp only [Act.put, List.setIfInBounds_toArray, List.set_cons_zero, List.set_cons_succ]
        refine wpRelyE_cons2 (d := 106) rfl rfl (fun wx hC hI hd S0 hS => ?_) (fun y9 => ?_)
        · have d8 := hd ⟨8, .data⟩ (by simp) rfl y8 (by simp)
          simp only [bF] at d8
          subst d8
          have HSS := Lib.hid hS; clear hS hd hI
          go_simp
          exact HSS.out _ _ hC (tG_rfl _ _) (by simp [bF])
        simp only [Act.put, List.setIfInBounds_toArray, List.set_cons_zero, List.set_cons_succ]
        refine wpRelyE_cons2 (d := 116) rfl rfl (fun wx hC hI hd S0 hS => ?_) (fun y10 => ?_)
        · have d9 := hd ⟨9, .data⟩ (by simp) rfl y9 (by simp)
          simp only [bF] at d9
          subst d9
          have HSS := Lib.hid hS; clear hS hd hI
          go_simp
          exact HSS.out _ _ hC (tG_rfl _ _) (by simp [bF])
        simp only [Act.put, List.setIfInBounds_toArray, List.set_cons_zero, List.set_cons_succ]
        refine wpRelyE_cons2 (d := 117) rfl rfl (fun wx hC hI hd S0 hS => ?_) (fun y11 => ?_)
        · have d9 := hd ⟨9, .data⟩ (by simp) rfl y9 (by simp)
          simp only [bF] at d9
          subst d9
          have HSS := Lib.hid hS; clear hS hd hI
          go_simp
          exact HSS.out _ _ hC (tG_rfl _ _) (by simp [bF])
        simp only [Act.put, List.setIfInBounds_toArray, List.set_cons_zero, List.set_cons_succ]
        refine wpRelyE_cons2 (d := 12) rfl rfl (fun wx hC hI hd S0 hS => ?_) (fun y12 => ?_)
        · have hzx := hC.size
          have HSS := Lib.hid hS; clear hS hd hI
          go_simp
          exact HSS.out _ _ (hC.alloc hzx _) (tG_of (by simp) ((Below.refl _ _).alloc (Nat.le_refl _) _)) (by simp only [List.nil_append, List.cons_append, List.length_cons, List.length_nil, Nat.reduceAdd, bF]; exact ⟨_, _, _, rfl, hzx, heap_alloc_new wx _⟩)
        simp only [Act.put, List.setIfInBounds_toArray, List.set_cons_zero, List.set_cons_succ]
        refine wpRelyE_cons0 rfl rfl (fun wx hC hI hd S0 hS => ?_) (fun y13 => ?_)
        · have d12 := hd ⟨12, .data⟩ (by simp) rfl y12 (by simp)
          simp only [bF] at d12
          have d10 := hd ⟨10, .data⟩ (by simp) rfl y10 (by simp)
          simp only [bF] at d10
          subst d10
          obtain ⟨e7, a7, b7, d12, he7, hh7⟩ := d12
          subst d12
          obtain ⟨k0, k1', f0, f1⟩ := two_cells hh7
          have HSS := Lib.hid hS; clear hS hd hI
          go_simp
          refine HSS.out _ _ ((hC.setCell he7 _).setCell he7 _) (tG_13 _ _ _ _) ?_
          simp only [List.nil_append, List.cons_append, List.length_cons, List.length_nil, Nat.reduceAdd, bF]
          exact ⟨e7, rfl, he7, by have := heap_setCell_at (i := 1) (v := .string y.fName) (heap_setCell_at (i := 0) (v := .int .i64 y.fKeeper) hh7); simpa using this⟩
        simp only [Act.put, List.setIfInBounds_toArray, List.set_cons_zero, List.set_cons_succ]
        refine wpRelyE_cons2 (d := 13) rfl rfl (fun wx hC hI hd S0 hS => ?_) (fun y14 => ?_)
        · have d11 := hd ⟨11, .data⟩ (by simp) rfl y11 (by simp)
          simp only [bF] at d11
          subst d11
          have HSS := Lib.hid hS; clear hS hd hI
          go_simp
          exact HSS.out _ _ hC (tG_rfl _ _) (by simp [bF])
        simp only [Act.put, List.setIfInBounds_toArray, List.set_cons_zero, List.set_cons_succ]
        intro wK hC hF
        have f13 := hF 13 y13 (by simp) (fun _ _ => rfl)
        have f14 := hF 14 y14 (by simp) (fun _ _ => rfl)
        simp only [bF, getv, List.nil_append, List.cons_append, List.getElem?_cons_succ, List.getElem?_cons_zero, Option.getD_some] at f13 f14
        obtain ⟨e7, f13, he7, hh7⟩ := f13
        obtain ⟨a0, a1, _, _⟩ := two_cells hh7
        subst f14
        subst f13
        have hsK := hC.size
        have hbK := hbI.trans (hC.mono hbI.size)
        obtain ⟨b0, b1⟩ := (HRE.out.below hbK).cell2 HY.out
        have hgK : g < wK.heap.size := by omega
        have h7K : e7 < wK.heap.size := block_lt_of_cell a0
        have hk1' : (k : Int) + 1 < (n : Int) := by omega
        have hw8 : IntKind.i64.wrap ((k : Int) + 1) = (k : Int) + 1 := IntWalk.i64_in _ (by omega)
        clear hF hC hh7 hbI s0 s1 s3
        simp only [List.drop_succ_cons, List.drop_zero, List.drop_nil]
        go_wp2_with fail
        go_quiet (fail)
        go_wp2
        go_roundw
        case measure => simp [intOf]; omega
        case rel => exact ⟨k + 1, by omega, by go_num, Below.drewN hbK _⟩
    · obtain rfl : k = n := by omega
      go_wp2
      all_goals (try go_returns)
      all_goals exact HR.out _ _ ⟨rfl, bbel⟩

end Go.Proofs.Ytcdmmnfdnmjnpaa
namespace Go.Proofs.Ytcdmmnfdnmjnpaa
open Go.ChangeShapes Go.WideShapes Go.ChangeAt Go.RowKit Go.Joins
theorem cells_u8 : Try.prog.cellsOf 5 = 1 := by kernel_rfl

set_option maxRecDepth 100000 in
theorem fnLodChain_lifted (os : Os) (started : os.Started) (H : Type) (enc : TypeId × Value → H) :
    ReturnsInHanded {} Try.checked os 14 .any (Rows.fnLodChainSpec.pre6 enc Try.prog Try.f14 Rows.fnLodChainRow.domain false) (Rows.fnLodChainSpec.post enc Try.prog Try.f14 false true false false) := by
  refine returnsInHanded_of_change (C := Try.checked) own started (by kernel_rfl) Try.func14
    (ChangeSpec.witness6 (enc := enc) (C := Try.checked) false ⟨#[], #[.slice none 0 0], []⟩ 8 (by kernel_rfl) (by kernel_rfl) (by kernel_rfl) (by kernel_rfl)) ?_
  intro W base args ds gs before hval0 hW hcnd _
  have hval : ∀ (j : Nat) t v, Try.f14.params[j]? = some t → args[j]? = some v → Value.okWide Try.prog W .any base t v := hval0
  have hW' := hW
  obtain ⟨p, q, hA0, hV, rfl, hfz, hnd⟩ := hW
  have hA : DataW.TrodAll enc Try.prog W 0 (fun _ => true) true Try.f14.params.toList args.toList ds p := hA0
  rw [Try.params14] at hA hval
  clear hA0 hval0
  obtain ⟨v0, d0, rfl, rfl, h0⟩ := trodAll_one hA
  obtain ⟨rfl, rfl⟩ := trodVars_none hV
  have b0 := open_bytes Try.underlying22 Try.underlying5 cells_u8 (hval 0 22 v0 rfl rfl) h0
  refine (L_FnLodChain v0 W b0).mono fun e W' h => ?_
  obtain ⟨rfl, hb⟩ := h
  exact ⟨_, rfl, law_post (s := Rows.fnLodChainSpec) hW' hb rfl rfl rfl Try.underlying4 (by rw [Try.params14]; kernel_rfl)⟩
theorem fnLodChain_holds : Rows.FnLodChainSaid :=
  OpenClaim.holds_of_wide 14 Try.f14 rfl rfl rfl rfl rfl rfl rfl ⟨rfl, rfl, rfl, rfl, rfl⟩ rfl rfl rfl rfl rfl (by kernel_rfl) Try.func14 (by kernel_rfl)
    (of_decide_eq_true (by kernel_rfl)) (by unfold Func.isWrapper; first | (rw [if_pos (by decide +kernel)]; kernel_rfl) | (rw [if_neg (by decide +kernel)]; exact ⟨rfl, rfl⟩))
    (fun os started H enc _ => fnLodChain_lifted os started H enc)

end Go.Proofs.Ytcdmmnfdnmjnpaa
