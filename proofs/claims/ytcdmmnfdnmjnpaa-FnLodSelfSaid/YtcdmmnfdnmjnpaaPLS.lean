/-
  Texts of mine, packed: LawLS, RowLS. No condition beside those of the single theorems.
-/
import Derived.Test.YtcdmmnfdnmjnpaaK12
import Derived.Test.YtcdmmnfdnmjnpaaK20
import Derived.Test.YtcdmmnfdnmjnpaaK29
import Derived.Test.YtcdmmnfdnmjnpaaK31
import Derived.Test.YtcdmmnfdnmjnpaaK13
set_option linter.unusedSimpArgs false
set_option linter.unusedVariables false
namespace Go.Proofs.Ytcdmmnfdnmjnpaa
open Go.RowKit
theorem S_DrawPlanClasses (v : Value) (w : World) (hv : Bytes w v) :
    Calls Try.prog 32 #[v] w fun e w' => (∃ (pv : Value) (pl : DLodPlan), e = .returned (.agg #[pv]) ∧ Sl 2 rLodKeeper 0 w' pv pl.fKeepers) ∧ Below w.heap.size w w' := by
  have hv' := hv
  refine calls_hide fun R HR => ?_
  go_enter Try.func32, Try.ntmps32
  go_wp2_with fail
  refine (S_l20Open _ _ (by first | exact hv' | exact hv'.alloc _)).mono ?_
  rintro e w1 ⟨rfl, h1, h2, h3⟩
  simp only [World.size_alloc] at h1 h2 h3
  have h2s := (h2).size; (try simp only [World.size_alloc, World.size_setCell, World.size_drew] at h2s)
  obtain ⟨h2ad, h2ao, h2ag, h2ap, h2ax, h2ay⟩ := bf1 (n := w.heap.size) h2
  go_wp2_with fail
  refine (S_l20PlanOr _ 0 6 _ (by omega) (by omega) (rdd) (by omega)).mono ?_
  rintro e w2 ⟨pv, pl, q, rfl, hs, hnr, hq, h4, h5⟩
  obtain ⟨a, len, cap, rfl⟩ := hs.form
  have HS := Lib.hid hs
  clear hs hnr
  have h5s := (h5).size; (try simp only [World.size_alloc, World.size_setCell, World.size_drew] at h5s)
  obtain ⟨h5bc, h5bd, h5bf, h5bg, h5bz, h5bx, h5by⟩ := efacts (n := w.heap.size) (k := 1) h5 (by go_size) (by go_size) (by first | omega | (simp; omega)); replace h5bd := h5bd (by decide); replace h5bg := h5bg (by decide); replace h5bx := h5bx (by decide); clear h5bc h5bf h5bz
  go_wp2
  all_goals
    refine bodyPost_ret (v := ?_) ?hrun rfl ?_
    case hrun => (simp only [results, Try.results32]; go_simp; first | done | exact rfl)
    exact HR.out _ _ ⟨⟨_, pl, rfl, (HS.out.stays rLodKeeper_good (by (repeat' (first | (with_reducible exact Keeps.refl _ _) | (with_reducible refine Keeps.alloc ?_ _) | (with_reducible refine Keeps.setCell ?_ ?_ _) | (with_reducible refine Keeps.drew ?_) | (refine keeps_hyp (by assumption) ?_ ?_) | go_size)))).low rLodKeeper_good (Nat.zero_le _)⟩, eexx⟩

set_option maxRecDepth 100000 in
set_option maxHeartbeats 8000000 in
theorem I_PlanClasses_no (x : DLodPlan) (v1 : Value) (w : World) (s1 : Sl 2 rLodKeeper 0 w v1 x.fKeepers) (hno : lodOk x = false) :
    Calls Try.prog 33 #[.agg #[v1]] w fun e w' => e = .returned (.slice none 0 0) ∧ Below w.heap.size w w' := by
  obtain ⟨a, len, cap, rfl⟩ := s1.form
  refine calls_hide fun R HR => ?_
  go_enter Try.func33, Try.ntmps33
  go_wp2_with fail
  refine (I_newLodge x _ _ (s1.stays rLodKeeper_good (Keeps.of_below' (B := w.heap.size) (bbel) (Nat.le_refl _)))).mono ?_
  rintro _ wA ⟨hA, hq⟩
  have hEA : Below w.heap.size w wA := bbel
  have hAs := (hA).size; (try simp only [World.size_alloc, World.size_setCell, World.size_drew] at hAs)
  obtain ⟨hAad, hAao, hAag, hAap, hAax, hAay⟩ := bf1 (n := w.heap.size) hA
  rcases hq with ⟨_, rfl⟩ | ⟨hy, L, rfl, hL⟩
  · clear hno
    go_wp2
    all_goals (try go_returns)
    all_goals exact HR.out _ _ ⟨rfl, bbel⟩
  · rw [hno] at hy; cases hy

def sF (vs : Nat → Value) (B g b' off' yl yc i : Nat) (nm : ByteArray) (rk : Int) (rn : ByteArray) (cd : Int) : Nat → Value → World → Prop
  | 0, v, _ => v = .agg #[.slice (some ⟨g, 0, none⟩) 1 1]
  | 1, v, _ => v = .pointer (some ⟨g + 1, 0, none⟩)
  | 2, v, _ => v = .slice (some ⟨g, 0, none⟩) 1 1
  | 3, v, _ => v = .pointer (some ⟨g, 0, none⟩)
  | 4, v, _ => v = .pointer (some ⟨g, 0, none⟩)
  | 5, v, _ => v = .slice (some ⟨b', off', none⟩) yl yc
  | 6, v, _ => v = .int .i64 (i : Int)
  | 7, v, _ => v = .pointer (some ⟨b', off' + i * 4, none⟩)
  | 8, v, _ => v = .pointer (some ⟨b', off' + i * 4, none⟩)
  | 9, v, _ => v = .string nm
  | 10, v, _ => v = .tuple #[.agg #[.int .i64 rk, .string rn], .int .i64 cd]
  | 11, v, _ => v = .tuple #[.agg #[.int .i64 rk, .string rn], .int .i64 cd]
  | 12, v, _ => v = .agg #[.int .i64 rk, .string rn]
  | 13, v, _ => v = .int .i64 cd
  | 14, v, w => ∃ (e : Nat) (a b : Value), v = .pointer (some ⟨e, 0, none⟩) ∧ B ≤ e ∧ w.heap[e]? = some (.cells #[a, b] 60 (0, 0))
  | 15, _, w => ∃ e, vs 14 = .pointer (some ⟨e, 0, none⟩) ∧ B ≤ e ∧ w.heap[e]? = some (.cells #[.int .i64 rk, .string rn] 60 (0, 0))
  | 16, v, _ => v = .int .i64 cd
  | _, _, _ => True
def cF (g b' off' yl yc i : Nat) (nm : ByteArray) (nn : Nat) : Nat → Value → World → Prop
  | 0, v, _ => v = .agg #[.slice (some ⟨g, 0, none⟩) 1 1]
  | 1, v, _ => v = .pointer (some ⟨g + 1, 0, none⟩)
  | 2, v, _ => v = .slice (some ⟨g, 0, none⟩) 1 1
  | 3, v, _ => v = .pointer (some ⟨g, 0, none⟩)
  | 4, v, _ => v = .pointer (some ⟨g, 0, none⟩)
  | 5, v, _ => v = .slice (some ⟨b', off', none⟩) yl yc
  | 6, v, _ => v = .int .i64 (i : Int)
  | 7, v, _ => v = .pointer (some ⟨b', off' + i * 4, none⟩)
  | 8, v, _ => v = .pointer (some ⟨b', off' + i * 4, none⟩)
  | 9, v, _ => v = .string nm
  | 10, v, _ => v = .agg #[.int .i64 0, .string nm]
  | 11, v, _ => ∃ (ga : Option Addr) (gc : Nat), v = .slice ga nn gc
  | 12, v, _ => ∃ (ga : Option Addr) (gc : Nat), v = .slice ga nn gc
  | _, _, _ => True
theorem cF_stays {g b' off' yl yc k nn : Nat} {nm : ByteArray} : ∀ i u w w', cF g b' off' yl yc k nm nn i u w → cF g b' off' yl yc k nm nn i u w' := by
  intro i u w w' h
  match i with
  | 0 | 1 | 2 | 3 | 4 | 5 | 6 | 7 | 8 | 9 | 10 | 11 | 12 => exact h
  | n + 13 => trivial
def sG (j : Nat) (w w' : World) : Prop := (j ≠ 15 ∧ Below w.heap.size w w') ∨ (j = 15 ∧ ∀ (e : Nat) (x y : Value) (t : TypeId), w.heap[e]? = some (.cells #[x, y] t (0, 0)) → ∃ x' y', w'.heap[e]? = some (.cells #[x', y'] t (0, 0)))
theorem sG_rfl (j : Nat) (w : World) : sG j w w := by
  by_cases h : j = 15
  · exact Or.inr ⟨h, fun e x y t h => ⟨x, y, h⟩⟩
  · exact Or.inl ⟨h, Below.refl _ _⟩
theorem sG_of {w w' : World} {j : Nat} (hj : j ≠ 15) (h : Below w.heap.size w w') : sG j w w' := Or.inl ⟨hj, h⟩
theorem sG_15 (w : World) (g : Nat) (a b : Value) : sG 15 w ((w.setCell ⟨g, 0, none⟩ a).setCell ⟨g, 1, none⟩ b) := Or.inr ⟨rfl, fun e x y t h => by
  by_cases he : e = g
  · subst he
    have := heap_setCell_at (i := 1) (v := b) (heap_setCell_at (i := 0) (v := a) h)
    exact ⟨_, _, by simpa using this⟩
  · exact ⟨x, y, (Below.heap_setCell _ _ _ _ (by simpa using he)).trans ((Below.heap_setCell _ _ _ _ (by simpa using he)).trans h)⟩⟩
theorem sF_stays {vs : Nat → Value} {B g b' off' yl yc k : Nat} {nm : ByteArray} {rk : Int} {rn : ByteArray} {cd : Int} : ∀ i j u w w', i ≠ j → sG j w w' → sF vs B g b' off' yl yc k nm rk rn cd i u w → sF vs B g b' off' yl yc k nm rk rn cd i u w' := by
  intro i j u w w' hne hg h
  match i with
  | 0 | 1 | 2 | 3 | 4 | 5 | 6 | 7 | 8 | 9 | 10 | 11 | 12 | 13 | 16 => exact h
  | 14 =>
    obtain ⟨e, a, b, h1, h2, h3⟩ := h
    rcases hg with ⟨_, hg⟩ | ⟨_, hg⟩
    · exact ⟨e, a, b, h1, h2, (hg.block e (Array.getElem?_eq_some_iff.1 h3).1).trans h3⟩
    · obtain ⟨a', b', h4⟩ := hg e a b _ h3
      exact ⟨e, a', b', h1, h2, h4⟩
  | 15 =>
    obtain ⟨e, h1, h2, h3⟩ := h
    rcases hg with ⟨_, hg⟩ | ⟨rfl, hg⟩
    · exact ⟨e, h1, h2, (hg.block e (Array.getElem?_eq_some_iff.1 h3).1).trans h3⟩
    · exact absurd rfl hne
  | n + 17 => trivial
theorem sF_dep {l : List Oper} {n B g b' off' yl yc k : Nat} {nm : ByteArray} {rk : Int} {rn : ByteArray} {cd : Int} (h : ∀ o, l[15]? = some o → ∃ e ∈ o.after, Region.binds .any e = true ∧ e.on = 14) : DepF (fun vs => sF vs B g b' off' yl yc k nm rk rn cd) l n := by
  intro i o vs vs' u w hi ho he hf
  match i with
  | 0 | 1 | 2 | 3 | 4 | 5 | 6 | 7 | 8 | 9 | 10 | 11 | 12 | 13 | 14 | 16 => exact hf
  | 15 =>
    obtain ⟨e, h1, h2, h3⟩ := h o ho
    have h4 := he e h1 h2
    rw [h3] at h4
    obtain ⟨e', h5, h6, h7⟩ := hf
    exact ⟨e', by rw [← h4]; exact h5, h6, h7⟩
  | n + 17 => trivial
set_option maxRecDepth 100000 in
set_option maxHeartbeats 16000000 in
theorem L_FnLodSelf (v : Value) (w : World) (hv : Bytes w v) :
    Calls Try.prog 9 #[v] w fun e w' => e = .returned (.bool true) ∧ Below w.heap.size w w' := by
  obtain ⟨c, len, cap, rfl, g1, g2, g3⟩ := id hv
  have m1 : len ≤ 9223372036854775807 := by unfold maxLen at g2; omega
  clear g2 g3
  refine calls_hide fun R HR => ?_
  go_enter Try.func9, Try.ntmps9
  go_wp2_with fail
  all_goals first
    | (try go_returns
       exact HR.out _ _ ⟨rfl, bbel⟩)
    | skip
  refine (S_DrawPlanClasses _ _ hv).mono ?_
  rintro _ w1 ⟨⟨pv, pl, rfl, hs⟩, h1⟩
  have h1s := (h1).size; (try simp only [World.size_alloc, World.size_setCell, World.size_drew] at h1s)
  obtain ⟨fa, fl, fc, rfl⟩ := hs.form
  obtain ⟨hfl, hfc, hfm⟩ := hs.len
  have hfm' : fl ≤ 9223372036854775807 := by unfold maxLen at hfm; omega
  go_wp2_with fail
  refine (S_LodOk pl _ _ (hs.stays rLodKeeper_good (Keeps.of_below ((Below.refl _ _).alloc (Nat.le_refl _) _)))).mono ?_
  rintro _ w2 ⟨rfl, h2⟩
  have h2s := (h2).size; (try simp only [World.size_alloc, World.size_setCell, World.size_drew] at h2s)
  obtain ⟨h2pd, h2po, h2pg, h2pp, h2px, h2py⟩ := bf1 (n := w1.heap.size) h2
  cases hok : lodOk pl
  · go_wp2_with fail
    refine (I_PlanClasses_no pl _ _ (hs.stays rLodKeeper_good (Keeps.of_below (bbel))) hok).mono ?_
    rintro _ w3 ⟨rfl, h3⟩
    have h3s := (h3).size; (try simp only [World.size_alloc, World.size_setCell, World.size_drew] at h3s)
    clear hok
    go_wp2_with (go_at_call 18; refine (L_loOk' _).mono ?_; rintro _ w9 ⟨rfl, h9⟩)
    all_goals (try go_returns)
    all_goals exact HR.out _ _ ⟨rfl, bbel⟩
  have hB2 : Below w1.heap.size w1 w2 := bbel
  have hl3 := lodOk_len hok
  rw [hfl] at hl3
  obtain ⟨x1, x2, x3, x4, x5, x6, x7, h3⟩ := id hs
  cases x4
  obtain ⟨b, off, rfl, hlo, hbl, hr⟩ := h3 (by omega)
  obtain ⟨kp, cs, e0, e1, e2, e3⟩ := hr 0 (by omega)
  obtain ⟨v1, v2, rfl, t1, t2⟩ := e3
  obtain ⟨xa2, xl2, xc2, rfl⟩ := t2.form
  obtain ⟨ya, yl, yc, rfl, yh, yc1, yc2, y3⟩ := id t1
  have hkp := keeperOk_parts (lodOk_keeper hok e0)
  have hyl : yl ≤ 5 := by have := hkp.1; omega
  have my : yl ≤ 9223372036854775807 := by omega
  have q1 : w2.cell? ⟨b, off, none⟩ = some (.slice ya yl yc) := keep_cell hB2 (by have := e2 0 _ rfl; simpa using this)
  have q2 : w2.cell? ⟨b, off + 1, none⟩ = some (.slice xa2 xl2 xc2) := keep_cell hB2 (by have := e2 1 _ rfl; simpa using this)
  have HKP := Lib.hid hkp
  have HT1 := Lib.hid t1
  have YH := Lib.hid yh
  have hz0 : (0 : Int) < (fl : Int) := by omega
  have hbl2 : b < w2.heap.size := Nat.lt_of_lt_of_le hbl hB2.size
  have u0 : w2.cell? ⟨w1.heap.size, 0, none⟩ = some (.slice (some ⟨b, off, none⟩) fl fc) := by go_simp
  have l0 : w1.heap.size < w2.heap.size := block_lt_of_cell u0
  have l1 : w1.heap.size < w2.heap.size + 1 := by omega
  clear e0 e1 e2 hr t1 t2 yh yc1 h3 x7 x6 x5 hkp hok h2pd h2pg h2px h2po h2py h2pp h2 hs
  go_wp2_with fail
  obtain ⟨wE, hwE⟩ : ∃ wE, wE = (w2.alloc (.cells #[.slice ya yl yc, .slice none 0 0] 54)).alloc (.cells #[.slice (some ⟨w2.heap.size, 0, none⟩) 1 1] 48) := ⟨_, rfl⟩
  rw [← hwE]
  have hsE : wE.heap.size = w2.heap.size + 1 + 1 := by rw [hwE]; simp
  have hBE : Below w1.heap.size w1 wE := by rw [hwE]; exact bbel
  have c0 : wE.cell? ⟨w2.heap.size, 0, none⟩ = some (.slice ya yl yc) := by rw [hwE]; go_simp
  have c1 : wE.cell? ⟨w2.heap.size, 1, none⟩ = some (.slice none 0 0) := by rw [hwE]; go_simp
  have c2 : wE.cell? ⟨w2.heap.size + 1, 0, none⟩ = some (.slice (some ⟨w2.heap.size, 0, none⟩) 1 1) := by rw [hwE]; go_simp
  clear hwE u0 q1 q2
  have hbsE := hBE.size
  have HTE := Lib.hid (HT1.out.stays rClsClass_good (Keeps.of_below hBE))
  have HXS : Hid (∀ W, Below wE.heap.size wE W → Sl 2 rLodKeeper 0 W (.slice (some ⟨w2.heap.size, 0, none⟩) 1 1) [(⟨kp.fOwns, []⟩ : DLodKeeper)]) := Lib.hid fun W hW => by
    have k0 := keep_cell hW c0
    have k1 := keep_cell hW c1
    have hT := HTE.out.stays rClsClass_good (Keeps.of_below hW)
    have hW1 := hW.size
    refine ⟨some ⟨w2.heap.size, 0, none⟩, 1, 1, rfl, rfl, Nat.le_refl _, by decide, fun _ => ⟨w2.heap.size, 0, rfl, Nat.zero_le _, by omega, fun i hi => ?_⟩⟩
    obtain rfl : i = 0 := by omega
    refine ⟨⟨kp.fOwns, []⟩, [.slice ya yl yc, .slice none 0 0], rfl, rfl, fun j u hj => ?_, ⟨_, _, rfl, hT, ⟨none, 0, 0, rfl, rfl, Nat.le_refl _, Nat.zero_le _, fun h => absurd h (by omega)⟩⟩⟩
    match j, hj with
    | 0, hj => cases hj; simpa using k0
    | 1, hj => cases hj; simpa using k1
    | j + 2, hj => simp at hj
  have CF : Hid (∀ (W : World) (s : ByteArray), s.size ≤ maxLen → Below wE.heap.size wE W → Calls Try.prog 29 #[.agg #[.slice (some ⟨w2.heap.size, 0, none⟩) 1 1], .int .i64 0, .string s] W fun e w' => e = .returned (refT (lodFind ⟨[⟨kp.fOwns, []⟩]⟩ 0 s)) ∧ Below W.heap.size W w') := Lib.hid fun W s hs9 hW => I_LodFind ⟨[⟨kp.fOwns, []⟩]⟩ _ 0 s W (HXS.out W hW) hs9
  have CC : Hid (∀ (W : World) (s : ByteArray), s.size ≤ maxLen → Below wE.heap.size wE W → Calls Try.prog 34 #[.agg #[.slice (some ⟨w2.heap.size, 0, none⟩) 1 1], .agg #[.int .i64 0, .string s]] W fun e w' => (∃ (ga : Option Addr) (gc : Nat), e = .returned (.slice ga (lodChain ⟨[⟨kp.fOwns, []⟩]⟩ ⟨0, s⟩).length gc)) ∧ Below W.heap.size W w') := Lib.hid fun W s hs9 hW =>
    (I_LodChain ⟨[⟨kp.fOwns, []⟩]⟩ _ ⟨0, s⟩ W (HXS.out W hW) hs9).mono fun e w' h => by
      obtain ⟨⟨v, rfl, hrf⟩, hb⟩ := h
      obtain ⟨ga, gc, rfl, _, _⟩ := own_form hrf
      exact ⟨⟨ga, gc, rfl⟩, hb⟩
  go_loopw [5] (fun zi wr => ∃ i : Nat, i ≤ yl ∧ zi = .int .i64 i ∧ Below wE.heap.size wE wr) (fun zi _ => yl - (intOf zi).toNat)
  case atStart => exact ⟨0, Nat.zero_le _, rfl, Below.refl _ _⟩
  case round =>
    obtain ⟨i, hi, rfl, hb⟩ := hrel
    have hbs := hb.size
    have r0 := keep_cell hb c0
    have r1 := keep_cell hb c1
    have r2 := keep_cell hb c2
    have m0 : w2.heap.size < wr.heap.size := by omega
    have m1' : w2.heap.size + 1 < wr.heap.size := by omega
    by_cases hlt : i < yl
    · have hlt2 : (i : Int) < (yl : Int) := by omega
      obtain ⟨b', off', rfl, _, hbl', hr'⟩ := y3 (by omega)
      obtain ⟨c', cs', g0, g1, g2, g3⟩ := hr' i hlt
      obtain ⟨u1, u2, rfl, d1, d2, bx1, bx2⟩ := g3
      have p1 : wr.cell? ⟨b', off' + i * 4, none⟩ = some (.string c'.fName) := keep_cell hb (keep_cell hBE (g2 0 _ rfl))
      have hbl2' : b' < wr.heap.size := by omega
      obtain ⟨hx, hfd⟩ := plain_self HKP.out.1 HKP.out.2.2.1 g0
      have hpf := plain_find ⟨[⟨kp.fOwns, []⟩]⟩ 0 c'.fName
      have hcn := plain_chain_none (p := ⟨[⟨kp.fOwns, []⟩]⟩) (r := ⟨0, c'.fName⟩) bx1
      have CF2 := fun W hW => CF.out W c'.fName bx1 hW
      have CC2 := fun W hW => CC.out W c'.fName bx1 hW
      obtain ⟨jw, hjw⟩ : ∃ j, lodFind ⟨[⟨kp.fOwns, []⟩]⟩ 0 c'.fName = j := ⟨_, rfl⟩
      obtain ⟨nn, hnn⟩ : ∃ n, (lodChain ⟨[⟨kp.fOwns, []⟩]⟩ ⟨0, c'.fName⟩).length = n := ⟨_, rfl⟩
      rw [hjw] at hfd hpf CF2 hcn
      rw [hnn] at CC2
      have hcase : (jw = (⟨0, c'.fName⟩, 1) ∧ (0 : Int) < (nn : Int)) ∨ (jw = (noRef, 4) ∧ nn = 0) := by
        rcases hfd with ⟨h1, h2⟩ | h1
        · refine Or.inl ⟨Prod.ext h2 h1, ?_⟩
          have : lodChain ⟨[⟨kp.fOwns, []⟩]⟩ ⟨0, c'.fName⟩ ≠ [] := fun e => (hcn.1 e) ⟨h1, h2⟩
          have := List.length_pos_iff.2 this
          omega
        · have h2 := (hpf.2 (by omega)).1
          refine Or.inr ⟨Prod.ext h2 h1, ?_⟩
          have : lodChain ⟨[⟨kp.fOwns, []⟩]⟩ ⟨0, c'.fName⟩ = [] := hcn.2 fun e => by omega
          rw [this] at hnn
          exact hnn.symm
      have HB := Lib.hid hb
      clear hx hfd hpf hcn hjw hnn g0 g1 g2 hr' d1 d2
      rcases hcase with ⟨rfl, hnn⟩ | ⟨rfl, rfl⟩
      · have hnn2 : 0 < nn := by omega
        have hnn3 : decide (0 < nn) = true := by simpa using hnn2
        simp only [refT, noRef] at CF2
        go_wp2_with fail
        refine wp_region_relyE 17 (Below wr.heap.size wr) sG (fun vs => sF vs wr.heap.size w2.heap.size b' off' yl yc i c'.fName 0 c'.fName 1) (fun _ _ => True) noDead (by kernel_rfl) (by decide) (by kernel_rfl) (Or.inl (by rfl)) (by kernel_rfl) ((Below.refl _ _).drew) ?hdep noDead_dead (fun _ => trivial) (fun _ _ _ _ _ _ _ _ => trivial) (fun g i j u w1 w2 hne hdd hC hg hF => sF_stays i j u w1 w2 hne hg hF) (fun j w _ => sG_rfl j w) ?_
        case hdep => exact sF_dep (fun o ho => by cases ho; exact ⟨⟨14, .data⟩, by simp, rfl, rfl⟩)
        refine wpRelyE_cons2 (d := 43) rfl rfl (fun wx hC hI hd S0 hS => ?_) (fun v0 => ?_)
        · have c2 := keep_cell hC r2
          have HSS := Lib.hid hS; clear hS hd hI
          go_simp
          exact HSS.out _ _ hC (sG_rfl _ _) (by simp [sF])
        simp only [Act.put, List.setIfInBounds_toArray, List.set_cons_zero, List.set_cons_succ]
        refine wpRelyE_cons2 (d := 44) rfl rfl (fun wx hC hI hd S0 hS => ?_) (fun v1 => ?_)
        · have HSS := Lib.hid hS; clear hS hd hI
          go_simp
          exact HSS.out _ _ hC (sG_rfl _ _) (by simp [sF])
        simp only [Act.put, List.setIfInBounds_toArray, List.set_cons_zero, List.set_cons_succ]
        refine wpRelyE_cons2 (d := 45) rfl rfl (fun wx hC hI hd S0 hS => ?_) (fun v2 => ?_)
        · have d1 := hd ⟨1, .data⟩ (by simp) rfl v1 (by simp)
          simp only [sF] at d1
          subst d1
          have c2 := keep_cell hC r2
          have HSS := Lib.hid hS; clear hS hd hI
          go_simp
          exact HSS.out _ _ hC (sG_rfl _ _) (by simp [sF])
        simp only [Act.put, List.setIfInBounds_toArray, List.set_cons_zero, List.set_cons_succ]
        refine wpRelyE_cons2 (d := 46) rfl rfl (fun wx hC hI hd S0 hS => ?_) (fun v3 => ?_)
        · have d2 := hd ⟨2, .data⟩ (by simp) rfl v2 (by simp)
          simp only [sF] at d2
          subst d2
          have HSS := Lib.hid hS; clear hS hd hI
          go_simp
          exact HSS.out _ _ hC (sG_rfl _ _) (by simp [sF])
        simp only [Act.put, List.setIfInBounds_toArray, List.set_cons_zero, List.set_cons_succ]
        refine wpRelyE_cons2 (d := 47) rfl rfl (fun wx hC hI hd S0 hS => ?_) (fun v4 => ?_)
        · have d3 := hd ⟨3, .data⟩ (by simp) rfl v3 (by simp)
          simp only [sF] at d3
          subst d3
          have HSS := Lib.hid hS; clear hS hd hI
          go_simp
          exact HSS.out _ _ hC (sG_rfl _ _) (by simp [sF])
        simp only [Act.put, List.setIfInBounds_toArray, List.set_cons_zero, List.set_cons_succ]
        refine wpRelyE_cons2 (d := 48) rfl rfl (fun wx hC hI hd S0 hS => ?_) (fun v5 => ?_)
        · have d4 := hd ⟨4, .data⟩ (by simp) rfl v4 (by simp)
          simp only [sF] at d4
          subst d4
          have c0 := keep_cell hC r0; have c1 := keep_cell hC r1
          have HSS := Lib.hid hS; clear hS hd hI
          go_simp
          exact HSS.out _ _ hC (sG_rfl _ _) (by simp [sF])
        simp only [Act.put, List.setIfInBounds_toArray, List.set_cons_zero, List.set_cons_succ]
        refine wpRelyE_cons2 (d := 49) rfl rfl (fun wx hC hI hd S0 hS => ?_) (fun v6 => ?_)
        · have HSS := Lib.hid hS; clear hS hd hI
          go_simp
          exact HSS.out _ _ hC (sG_rfl _ _) (by simp [sF])
        simp only [Act.put, List.setIfInBounds_toArray, List.set_cons_zero, List.set_cons_succ]
        refine wpRelyE_cons2 (d := 50) rfl rfl (fun wx hC hI hd S0 hS => ?_) (fun v7 => ?_)
        · have d5 := hd ⟨5, .data⟩ (by simp) rfl v5 (by simp)
          simp only [sF] at d5
          have d6 := hd ⟨6, .data⟩ (by simp) rfl v6 (by simp)
          simp only [sF] at d6
          subst d5; subst d6
          have HSS := Lib.hid hS; clear hS hd hI
          go_simp
          exact HSS.out _ _ hC (sG_rfl _ _) (by simp [sF])
        simp only [Act.put, List.setIfInBounds_toArray, List.set_cons_zero, List.set_cons_succ]
        refine wpRelyE_cons2 (d := 51) rfl rfl (fun wx hC hI hd S0 hS => ?_) (fun v8 => ?_)
        · have d7 := hd ⟨7, .data⟩ (by simp) rfl v7 (by simp)
          simp only [sF] at d7
          subst d7
          have HSS := Lib.hid hS; clear hS hd hI
          go_simp
          exact HSS.out _ _ hC (sG_rfl _ _) (by simp [sF])
        simp only [Act.put, List.setIfInBounds_toArray, List.set_cons_zero, List.set_cons_succ]
        refine wpRelyE_cons2 (d := 52) rfl rfl (fun wx hC hI hd S0 hS => ?_) (fun v9 => ?_)
        · have d8 := hd ⟨8, .data⟩ (by simp) rfl v8 (by simp)
          simp only [sF] at d8
          subst d8
          have cp := keep_cell hC p1
          have HSS := Lib.hid hS; clear hS hd hI
          go_simp
          exact HSS.out _ _ hC (sG_rfl _ _) (by simp [sF])
        simp only [Act.put, List.setIfInBounds_toArray, List.set_cons_zero, List.set_cons_succ]
        refine wpRelyE_cons2 (d := 53) rfl rfl (fun wx hC hI hd S0 hS => ?_) (fun v10 => ?_)
        · have d0 := hd ⟨0, .data⟩ (by simp) rfl v0 (by simp)
          simp only [sF] at d0
          have d9 := hd ⟨9, .data⟩ (by simp) rfl v9 (by simp)
          simp only [sF] at d9
          subst d0; subst d9
          have HSS := Lib.hid hS; clear hS hd hI
          go_simp
          refine (CF2 _ (HB.out.trans (hC.mono hbs))).mono ?_
          rintro _ w' ⟨rfl, hX⟩
          exact HSS.out _ _ (hC.trans (hX.mono hC.size)) (sG_of (by simp) hX) (by simp [sF])
        simp only [Act.put, List.setIfInBounds_toArray, List.set_cons_zero, List.set_cons_succ]
        refine wpRelyE_cons2 (d := 42) rfl rfl (fun wx hC hI hd S0 hS => ?_) (fun v11 => ?_)
        · have d10 := hd ⟨10, .data⟩ (by simp) rfl v10 (by simp)
          simp only [sF] at d10
          subst d10
          have HSS := Lib.hid hS; clear hS hd hI
          go_simp
          exact HSS.out _ _ hC (sG_rfl _ _) (by simp [sF])
        simp only [Act.put, List.setIfInBounds_toArray, List.set_cons_zero, List.set_cons_succ]
        refine wpRelyE_cons2 (d := 54) rfl rfl (fun wx hC hI hd S0 hS => ?_) (fun v12 => ?_)
        · have d11 := hd ⟨11, .data⟩ (by simp) rfl v11 (by simp)
          simp only [sF] at d11
          subst d11
          have HSS := Lib.hid hS; clear hS hd hI
          go_simp
          exact HSS.out _ _ hC (sG_rfl _ _) (by simp [sF])
        simp only [Act.put, List.setIfInBounds_toArray, List.set_cons_zero, List.set_cons_succ]
        refine wpRelyE_cons2 (d := 55) rfl rfl (fun wx hC hI hd S0 hS => ?_) (fun v13 => ?_)
        · have d11 := hd ⟨11, .data⟩ (by simp) rfl v11 (by simp)
          simp only [sF] at d11
          subst d11
          have HSS := Lib.hid hS; clear hS hd hI
          go_simp
          exact HSS.out _ _ hC (sG_rfl _ _) (by simp [sF])
        simp only [Act.put, List.setIfInBounds_toArray, List.set_cons_zero, List.set_cons_succ]
        refine wpRelyE_cons2 (d := 6) rfl rfl (fun wx hC hI hd S0 hS => ?_) (fun v14 => ?_)
        · have hzx := hC.size
          have HSS := Lib.hid hS; clear hS hd hI
          go_simp
          exact HSS.out _ _ (hC.alloc hzx _) (sG_of (by simp) ((Below.refl _ _).alloc (Nat.le_refl _) _)) (by simp only [List.nil_append, List.cons_append, List.length_cons, List.length_nil, Nat.reduceAdd, sF]; exact ⟨_, _, _, rfl, hzx, heap_alloc_new wx _⟩)
        simp only [Act.put, List.setIfInBounds_toArray, List.set_cons_zero, List.set_cons_succ]
        refine wpRelyE_cons0 rfl rfl (fun wx hC hI hd S0 hS => ?_) (fun v15 => ?_)
        · have d14 := hd ⟨14, .data⟩ (by simp) rfl v14 (by simp)
          simp only [sF] at d14
          have d12 := hd ⟨12, .data⟩ (by simp) rfl v12 (by simp)
          simp only [sF] at d12
          subst d12
          obtain ⟨e9, a9, b9, d14, he9, hh9⟩ := d14
          subst d14
          obtain ⟨k0, k1, f0, f1⟩ := two_cells hh9
          have HSS := Lib.hid hS; clear hS hd hI
          go_simp
          refine HSS.out _ _ ((hC.setCell he9 _).setCell he9 _) (sG_15 _ _ _ _) ?_
          simp only [List.nil_append, List.cons_append, List.length_cons, List.length_nil, Nat.reduceAdd, sF]
          exact ⟨e9, rfl, he9, by have := heap_setCell_at (i := 1) (v := .string c'.fName) (heap_setCell_at (i := 0) (v := .int .i64 0) hh9); simpa using this⟩
        simp only [Act.put, List.setIfInBounds_toArray, List.set_cons_zero, List.set_cons_succ]
        refine wpRelyE_cons2 (d := 7) rfl rfl (fun wx hC hI hd S0 hS => ?_) (fun v16 => ?_)
        · have d13 := hd ⟨13, .data⟩ (by simp) rfl v13 (by simp)
          simp only [sF] at d13
          subst d13
          have HSS := Lib.hid hS; clear hS hd hI
          go_simp
          exact HSS.out _ _ hC (sG_rfl _ _) (by simp [sF])
        simp only [Act.put, List.setIfInBounds_toArray, List.set_cons_zero, List.set_cons_succ]
        intro wF hC hF
        have f15 := hF 15 v15 (by simp) (fun _ _ => rfl)
        have f16 := hF 16 v16 (by simp) (fun _ _ => rfl)
        simp only [sF, getv, List.nil_append, List.cons_append, List.getElem?_cons_succ, List.getElem?_cons_zero, Option.getD_some] at f15 f16
        obtain ⟨e9, f14, he9, hh9⟩ := f15
        obtain ⟨z0, z1, _, _⟩ := two_cells hh9
        subst f16
        subst f14
        have hsF := hC.size
        have s0 := keep_cell hC r0
        have s1 := keep_cell hC r1
        have s2 := keep_cell hC r2
        have sp := keep_cell hC p1
        have n0 : w2.heap.size < wF.heap.size := by omega
        have n1' : w2.heap.size + 1 < wF.heap.size := by omega
        have n2' : b' < wF.heap.size := by omega
        have n3' : e9 < wF.heap.size := block_lt_of_cell z0
        have HBF : Hid (Below wE.heap.size wE wF) := Lib.hid (HB.out.trans (hC.mono hbs))
        clear hF hC hh9 hb r0 r1 r2 p1
        simp only [List.drop_succ_cons, List.drop_zero, List.drop_nil]
        go_wp2_with fail
        go_quiet (fail)
        go_wp2_with fail
        refine wp_region_relyE 13 (Below wF.heap.size wF) (fun _ w1 w2 => Below w1.heap.size w1 w2) (fun _ => cF w2.heap.size b' off' yl yc i c'.fName nn) (fun _ _ => True) noDead (by kernel_rfl) (by decide) (by kernel_rfl) (Or.inl (by rfl)) (by kernel_rfl) ((Below.drewN (Below.refl _ _) _).drew) (fun _ _ _ _ _ _ _ _ _ h => h) noDead_dead (fun _ => trivial) (fun _ _ _ _ _ _ _ _ => trivial) (fun _ i j u w1 w2 hne _ _ hg hF => cF_stays i u w1 w2 hF) (fun _ _ _ => Below.refl _ _) ?_
        refine wpRelyE_cons2 (d := 85) rfl rfl (fun wx hC hI hd S0 hS => ?_) (fun y0 => ?_)
        · have c2 := keep_cell hC s2
          have HSS := Lib.hid hS; clear hS hd hI
          go_simp
          exact HSS.out _ _ hC (Below.refl _ _) (by simp [cF])
        simp only [Act.put, List.setIfInBounds_toArray, List.set_cons_zero, List.set_cons_succ]
        refine wpRelyE_cons2 (d := 86) rfl rfl (fun wx hC hI hd S0 hS => ?_) (fun y1 => ?_)
        · have HSS := Lib.hid hS; clear hS hd hI
          go_simp
          exact HSS.out _ _ hC (Below.refl _ _) (by simp [cF])
        simp only [Act.put, List.setIfInBounds_toArray, List.set_cons_zero, List.set_cons_succ]
        refine wpRelyE_cons2 (d := 87) rfl rfl (fun wx hC hI hd S0 hS => ?_) (fun y2 => ?_)
        · have d1 := hd ⟨1, .data⟩ (by simp) rfl y1 (by simp)
          simp only [cF] at d1
          subst d1
          have c2 := keep_cell hC s2
          have HSS := Lib.hid hS; clear hS hd hI
          go_simp
          exact HSS.out _ _ hC (Below.refl _ _) (by simp [cF])
        simp only [Act.put, List.setIfInBounds_toArray, List.set_cons_zero, List.set_cons_succ]
        refine wpRelyE_cons2 (d := 88) rfl rfl (fun wx hC hI hd S0 hS => ?_) (fun y3 => ?_)
        · have d2 := hd ⟨2, .data⟩ (by simp) rfl y2 (by simp)
          simp only [cF] at d2
          subst d2
          have HSS := Lib.hid hS; clear hS hd hI
          go_simp
          exact HSS.out _ _ hC (Below.refl _ _) (by simp [cF])
        simp only [Act.put, List.setIfInBounds_toArray, List.set_cons_zero, List.set_cons_succ]
        refine wpRelyE_cons2 (d := 89) rfl rfl (fun wx hC hI hd S0 hS => ?_) (fun y4 => ?_)
        · have d3 := hd ⟨3, .data⟩ (by simp) rfl y3 (by simp)
          simp only [cF] at d3
          subst d3
          have HSS := Lib.hid hS; clear hS hd hI
          go_simp
          exact HSS.out _ _ hC (Below.refl _ _) (by simp [cF])
        simp only [Act.put, List.setIfInBounds_toArray, List.set_cons_zero, List.set_cons_succ]
        refine wpRelyE_cons2 (d := 90) rfl rfl (fun wx hC hI hd S0 hS => ?_) (fun y5 => ?_)
        · have d4 := hd ⟨4, .data⟩ (by simp) rfl y4 (by simp)
          simp only [cF] at d4
          subst d4
          have c0 := keep_cell hC s0; have c1 := keep_cell hC s1
          have HSS := Lib.hid hS; clear hS hd hI
          go_simp
          exact HSS.out _ _ hC (Below.refl _ _) (by simp [cF])
        simp only [Act.put, List.setIfInBounds_toArray, List.set_cons_zero, List.set_cons_succ]
        refine wpRelyE_cons2 (d := 91) rfl rfl (fun wx hC hI hd S0 hS => ?_) (fun y6 => ?_)
        · have HSS := Lib.hid hS; clear hS hd hI
          go_simp
          exact HSS.out _ _ hC (Below.refl _ _) (by simp [cF])
        simp only [Act.put, List.setIfInBounds_toArray, List.set_cons_zero, List.set_cons_succ]
        refine wpRelyE_cons2 (d := 92) rfl rfl (fun wx hC hI hd S0 hS => ?_) (fun y7 => ?_)
        · have d5 := hd ⟨5, .data⟩ (by simp) rfl y5 (by simp)
          simp only [cF] at d5
          have d6 := hd ⟨6, .data⟩ (by simp) rfl y6 (by simp)
          simp only [cF] at d6
          subst d5; subst d6
          have HSS := Lib.hid hS; clear hS hd hI
          go_simp
          exact HSS.out _ _ hC (Below.refl _ _) (by simp [cF])
        simp only [Act.put, List.setIfInBounds_toArray, List.set_cons_zero, List.set_cons_succ]
        refine wpRelyE_cons2 (d := 93) rfl rfl (fun wx hC hI hd S0 hS => ?_) (fun y8 => ?_)
        · have d7 := hd ⟨7, .data⟩ (by simp) rfl y7 (by simp)
          simp only [cF] at d7
          subst d7
          have HSS := Lib.hid hS; clear hS hd hI
          go_simp
          exact HSS.out _ _ hC (Below.refl _ _) (by simp [cF])
        simp only [Act.put, List.setIfInBounds_toArray, List.set_cons_zero, List.set_cons_succ]
        refine wpRelyE_cons2 (d := 94) rfl rfl (fun wx hC hI hd S0 hS => ?_) (fun y9 => ?_)
        · have d8 := hd ⟨8, .data⟩ (by simp) rfl y8 (by simp)
          simp only [cF] at d8
          subst d8
          have cp := keep_cell hC sp
          have HSS := Lib.hid hS; clear hS hd hI
          go_simp
          exact HSS.out _ _ hC (Below.refl _ _) (by simp [cF])
        simp only [Act.put, List.setIfInBounds_toArray, List.set_cons_zero, List.set_cons_succ]
        refine wpRelyE_cons2 (d := 95) rfl rfl (fun wx hC hI hd S0 hS => ?_) (fun y10 => ?_)
        · have d9 := hd ⟨9, .data⟩ (by simp) rfl y9 (by simp)
          simp only [cF] at d9
          subst d9
          have HSS := Lib.hid hS; clear hS hd hI
          go_simp
          exact HSS.out _ _ hC (Below.refl _ _) (by simp [cF])
        simp only [Act.put, List.setIfInBounds_toArray, List.set_cons_zero, List.set_cons_succ]
        refine wpRelyE_cons2 (d := 96) rfl rfl (fun wx hC hI hd S0 hS => ?_) (fun y11 => ?_)
        · have d0 := hd ⟨0, .data⟩ (by simp) rfl y0 (by simp)
          simp only [cF] at d0
          have d10 := hd ⟨10, .data⟩ (by simp) rfl y10 (by simp)
          simp only [cF] at d10
          subst d0; subst d10
          have HSS := Lib.hid hS; clear hS hd hI
          go_simp
          refine (CC2 _ (HBF.out.trans (hC.mono HBF.out.size))).mono ?_
          rintro _ w' ⟨⟨ga, gc, rfl⟩, hX⟩
          exact HSS.out _ _ (hC.trans (hX.mono hC.size)) hX (by simp [cF])
        simp only [Act.put, List.setIfInBounds_toArray, List.set_cons_zero, List.set_cons_succ]
        refine wpRelyE_cons2 (d := 8) rfl rfl (fun wx hC hI hd S0 hS => ?_) (fun y12 => ?_)
        · have d11 := hd ⟨11, .data⟩ (by simp) rfl y11 (by simp)
          simp only [cF] at d11
          obtain ⟨ga, gc, d11⟩ := d11
          subst d11
          have HSS := Lib.hid hS; clear hS hd hI
          go_simp
          exact HSS.out _ _ hC (Below.refl _ _) (by simp [cF])
        simp only [Act.put, List.setIfInBounds_toArray, List.set_cons_zero, List.set_cons_succ]
        intro wH hC hF
        have g12 := hF 12 y12 (by simp) (fun _ _ => rfl)
        simp only [cF] at g12
        obtain ⟨ga, gc, g12⟩ := g12
        subst g12
        have hsH := hC.size
        have HBH : Hid (Below wE.heap.size wE wH) := Lib.hid (HBF.out.trans (hC.mono HBF.out.size))
        clear hF hC
        simp only [List.drop_succ_cons, List.drop_zero, List.drop_nil]
        go_wp2
        go_roundw
        case measure => simp [intOf]; omega
        case rel => exact ⟨i + 1, by omega, by go_num, HBH.out⟩
      · have hq0 := HB
        clear hq0
        simp only [refT, noRef] at CF2
        go_wp2_with fail
        refine wp_region_relyE 17 (Below wr.heap.size wr) sG (fun vs => sF vs wr.heap.size w2.heap.size b' off' yl yc i c'.fName 0 ⟨#[]⟩ 4) (fun _ _ => True) noDead (by kernel_rfl) (by decide) (by kernel_rfl) (Or.inl (by rfl)) (by kernel_rfl) ((Below.refl _ _).drew) ?hdep noDead_dead (fun _ => trivial) (fun _ _ _ _ _ _ _ _ => trivial) (fun g i j u w1 w2 hne hdd hC hg hF => sF_stays i j u w1 w2 hne hg hF) (fun j w _ => sG_rfl j w) ?_
        case hdep => exact sF_dep (fun o ho => by cases ho; exact ⟨⟨14, .data⟩, by simp, rfl, rfl⟩)
        refine wpRelyE_cons2 (d := 43) rfl rfl (fun wx hC hI hd S0 hS => ?_) (fun v0 => ?_)
        · have c2 := keep_cell hC r2
          have HSS := Lib.hid hS; clear hS hd hI
          go_simp
          exact HSS.out _ _ hC (sG_rfl _ _) (by simp [sF])
        simp only [Act.put, List.setIfInBounds_toArray, List.set_cons_zero, List.set_cons_succ]
        refine wpRelyE_cons2 (d := 44) rfl rfl (fun wx hC hI hd S0 hS => ?_) (fun v1 => ?_)
        · have HSS := Lib.hid hS; clear hS hd hI
          go_simp
          exact HSS.out _ _ hC (sG_rfl _ _) (by simp [sF])
        simp only [Act.put, List.setIfInBounds_toArray, List.set_cons_zero, List.set_cons_succ]
        refine wpRelyE_cons2 (d := 45) rfl rfl (fun wx hC hI hd S0 hS => ?_) (fun v2 => ?_)
        · have d1 := hd ⟨1, .data⟩ (by simp) rfl v1 (by simp)
          simp only [sF] at d1
          subst d1
          have c2 := keep_cell hC r2
          have HSS := Lib.hid hS; clear hS hd hI
          go_simp
          exact HSS.out _ _ hC (sG_rfl _ _) (by simp [sF])
        simp only [Act.put, List.setIfInBounds_toArray, List.set_cons_zero, List.set_cons_succ]
        refine wpRelyE_cons2 (d := 46) rfl rfl (fun wx hC hI hd S0 hS => ?_) (fun v3 => ?_)
        · have d2 := hd ⟨2, .data⟩ (by simp) rfl v2 (by simp)
          simp only [sF] at d2
          subst d2
          have HSS := Lib.hid hS; clear hS hd hI
          go_simp
          exact HSS.out _ _ hC (sG_rfl _ _) (by simp [sF])
        simp only [Act.put, List.setIfInBounds_toArray, List.set_cons_zero, List.set_cons_succ]
        refine wpRelyE_cons2 (d := 47) rfl rfl (fun wx hC hI hd S0 hS => ?_) (fun v4 => ?_)
        · have d3 := hd ⟨3, .data⟩ (by simp) rfl v3 (by simp)
          simp only [sF] at d3
          subst d3
          have HSS := Lib.hid hS; clear hS hd hI
          go_simp
          exact HSS.out _ _ hC (sG_rfl _ _) (by simp [sF])
        simp only [Act.put, List.setIfInBounds_toArray, List.set_cons_zero, List.set_cons_succ]
        refine wpRelyE_cons2 (d := 48) rfl rfl (fun wx hC hI hd S0 hS => ?_) (fun v5 => ?_)
        · have d4 := hd ⟨4, .data⟩ (by simp) rfl v4 (by simp)
          simp only [sF] at d4
          subst d4
          have c0 := keep_cell hC r0; have c1 := keep_cell hC r1
          have HSS := Lib.hid hS; clear hS hd hI
          go_simp
          exact HSS.out _ _ hC (sG_rfl _ _) (by simp [sF])
        simp only [Act.put, List.setIfInBounds_toArray, List.set_cons_zero, List.set_cons_succ]
        refine wpRelyE_cons2 (d := 49) rfl rfl (fun wx hC hI hd S0 hS => ?_) (fun v6 => ?_)
        · have HSS := Lib.hid hS; clear hS hd hI
          go_simp
          exact HSS.out _ _ hC (sG_rfl _ _) (by simp [sF])
        simp only [Act.put, List.setIfInBounds_toArray, List.set_cons_zero, List.set_cons_succ]
        refine wpRelyE_cons2 (d := 50) rfl rfl (fun wx hC hI hd S0 hS => ?_) (fun v7 => ?_)
        · have d5 := hd ⟨5, .data⟩ (by simp) rfl v5 (by simp)
          simp only [sF] at d5
          have d6 := hd ⟨6, .data⟩ (by simp) rfl v6 (by simp)
          simp only [sF] at d6
          subst d5; subst d6
          have HSS := Lib.hid hS; clear hS hd hI
          go_simp
          exact HSS.out _ _ hC (sG_rfl _ _) (by simp [sF])
        simp only [Act.put, List.setIfInBounds_toArray, List.set_cons_zero, List.set_cons_succ]
        refine wpRelyE_cons2 (d := 51) rfl rfl (fun wx hC hI hd S0 hS => ?_) (fun v8 => ?_)
        · have d7 := hd ⟨7, .data⟩ (by simp) rfl v7 (by simp)
          simp only [sF] at d7
          subst d7
          have HSS := Lib.hid hS; clear hS hd hI
          go_simp
          exact HSS.out _ _ hC (sG_rfl _ _) (by simp [sF])
        simp only [Act.put, List.setIfInBounds_toArray, List.set_cons_zero, List.set_cons_succ]
        refine wpRelyE_cons2 (d := 52) rfl rfl (fun wx hC hI hd S0 hS => ?_) (fun v9 => ?_)
        · have d8 := hd ⟨8, .data⟩ (by simp) rfl v8 (by simp)
          simp only [sF] at d8
          subst d8
          have cp := keep_cell hC p1
          have HSS := Lib.hid hS; clear hS hd hI
          go_simp
          exact HSS.out _ _ hC (sG_rfl _ _) (by simp [sF])
        simp only [Act.put, List.setIfInBounds_toArray, List.set_cons_zero, List.set_cons_succ]
        refine wpRelyE_cons2 (d := 53) rfl rfl (fun wx hC hI hd S0 hS => ?_) (fun v10 => ?_)
        · have d0 := hd ⟨0, .data⟩ (by simp) rfl v0 (by simp)
          simp only [sF] at d0
          have d9 := hd ⟨9, .data⟩ (by simp) rfl v9 (by simp)
          simp only [sF] at d9
          subst d0; subst d9
          have HSS := Lib.hid hS; clear hS hd hI
          go_simp
          refine (CF2 _ (HB.out.trans (hC.mono hbs))).mono ?_
          rintro _ w' ⟨rfl, hX⟩
          exact HSS.out _ _ (hC.trans (hX.mono hC.size)) (sG_of (by simp) hX) (by simp [sF])
        simp only [Act.put, List.setIfInBounds_toArray, List.set_cons_zero, List.set_cons_succ]
        refine wpRelyE_cons2 (d := 42) rfl rfl (fun wx hC hI hd S0 hS => ?_) (fun v11 => ?_)
        · have d10 := hd ⟨10, .data⟩ (by simp) rfl v10 (by simp)
          simp only [sF] at d10
          subst d10
          have HSS := Lib.hid hS; clear hS hd hI
          go_simp
          exact HSS.out _ _ hC (sG_rfl _ _) (by simp [sF])
        simp only [Act.put, List.setIfInBounds_toArray, List.set_cons_zero, List.set_cons_succ]
        refine wpRelyE_cons2 (d := 54) rfl rfl (fun wx hC hI hd S0 hS => ?_) (fun v12 => ?_)
        · have d11 := hd ⟨11, .data⟩ (by simp) rfl v11 (by simp)
          simp only [sF] at d11
          subst d11
          have HSS := Lib.hid hS; clear hS hd hI
          go_simp
          exact HSS.out _ _ hC (sG_rfl _ _) (by simp [sF])
        simp only [Act.put, List.setIfInBounds_toArray, List.set_cons_zero, List.set_cons_succ]
        refine wpRelyE_cons2 (d := 55) rfl rfl (fun wx hC hI hd S0 hS => ?_) (fun v13 => ?_)
        · have d11 := hd ⟨11, .data⟩ (by simp) rfl v11 (by simp)
          simp only [sF] at d11
          subst d11
          have HSS := Lib.hid hS; clear hS hd hI
          go_simp
          exact HSS.out _ _ hC (sG_rfl _ _) (by simp [sF])
        simp only [Act.put, List.setIfInBounds_toArray, List.set_cons_zero, List.set_cons_succ]
        refine wpRelyE_cons2 (d := 6) rfl rfl (fun wx hC hI hd S0 hS => ?_) (fun v14 => ?_)
        · have hzx := hC.size
          have HSS := Lib.hid hS; clear hS hd hI
          go_simp
          exact HSS.out _ _ (hC.alloc hzx _) (sG_of (by simp) ((Below.refl _ _).alloc (Nat.le_refl _) _)) (by simp only [List.nil_append, List.cons_append, List.length_cons, List.length_nil, Nat.reduceAdd, sF]; exact ⟨_, _, _, rfl, hzx, heap_alloc_new wx _⟩)
        simp only [Act.put, List.setIfInBounds_toArray, List.set_cons_zero, List.set_cons_succ]
        refine wpRelyE_cons0 rfl rfl (fun wx hC hI hd S0 hS => ?_) (fun v15 => ?_)
        · have d14 := hd ⟨14, .data⟩ (by simp) rfl v14 (by simp)
          simp only [sF] at d14
          have d12 := hd ⟨12, .data⟩ (by simp) rfl v12 (by simp)
          simp only [sF] at d12
          subst d12
          obtain ⟨e9, a9, b9, d14, he9, hh9⟩ := d14
          subst d14
          obtain ⟨k0, k1, f0, f1⟩ := two_cells hh9
          have HSS := Lib.hid hS; clear hS hd hI
          go_simp
          refine HSS.out _ _ ((hC.setCell he9 _).setCell he9 _) (sG_15 _ _ _ _) ?_
          simp only [List.nil_append, List.cons_append, List.length_cons, List.length_nil, Nat.reduceAdd, sF]
          exact ⟨e9, rfl, he9, by have := heap_setCell_at (i := 1) (v := .string ⟨#[]⟩) (heap_setCell_at (i := 0) (v := .int .i64 0) hh9); simpa using this⟩
        simp only [Act.put, List.setIfInBounds_toArray, List.set_cons_zero, List.set_cons_succ]
        refine wpRelyE_cons2 (d := 7) rfl rfl (fun wx hC hI hd S0 hS => ?_) (fun v16 => ?_)
        · have d13 := hd ⟨13, .data⟩ (by simp) rfl v13 (by simp)
          simp only [sF] at d13
          subst d13
          have HSS := Lib.hid hS; clear hS hd hI
          go_simp
          exact HSS.out _ _ hC (sG_rfl _ _) (by simp [sF])
        simp only [Act.put, List.setIfInBounds_toArray, List.set_cons_zero, List.set_cons_succ]
        intro wF hC hF
        have f15 := hF 15 v15 (by simp) (fun _ _ => rfl)
        have f16 := hF 16 v16 (by simp) (fun _ _ => rfl)
        simp only [sF, getv, List.nil_append, List.cons_append, List.getElem?_cons_succ, List.getElem?_cons_zero, Option.getD_some] at f15 f16
        obtain ⟨e9, f14, he9, hh9⟩ := f15
        obtain ⟨z0, z1, _, _⟩ := two_cells hh9
        subst f16
        subst f14
        have hsF := hC.size
        have s0 := keep_cell hC r0
        have s1 := keep_cell hC r1
        have s2 := keep_cell hC r2
        have sp := keep_cell hC p1
        have n0 : w2.heap.size < wF.heap.size := by omega
        have n1' : w2.heap.size + 1 < wF.heap.size := by omega
        have n2' : b' < wF.heap.size := by omega
        have n3' : e9 < wF.heap.size := block_lt_of_cell z0
        have HBF : Hid (Below wE.heap.size wE wF) := Lib.hid (HB.out.trans (hC.mono hbs))
        clear hF hC hh9 hb r0 r1 r2 p1
        simp only [List.drop_succ_cons, List.drop_zero, List.drop_nil]
        go_wp2_with fail
        go_quiet (fail)
        go_wp2_with fail
        refine wp_region_relyE 13 (Below wF.heap.size wF) (fun _ w1 w2 => Below w1.heap.size w1 w2) (fun _ => cF w2.heap.size b' off' yl yc i c'.fName 0) (fun _ _ => True) noDead (by kernel_rfl) (by decide) (by kernel_rfl) (Or.inl (by rfl)) (by kernel_rfl) ((Below.drewN (Below.refl _ _) _).drew) (fun _ _ _ _ _ _ _ _ _ h => h) noDead_dead (fun _ => trivial) (fun _ _ _ _ _ _ _ _ => trivial) (fun _ i j u w1 w2 hne _ _ hg hF => cF_stays i u w1 w2 hF) (fun _ _ _ => Below.refl _ _) ?_
        refine wpRelyE_cons2 (d := 85) rfl rfl (fun wx hC hI hd S0 hS => ?_) (fun y0 => ?_)
        · have c2 := keep_cell hC s2
          have HSS := Lib.hid hS; clear hS hd hI
          go_simp
          exact HSS.out _ _ hC (Below.refl _ _) (by simp [cF])
        simp only [Act.put, List.setIfInBounds_toArray, List.set_cons_zero, List.set_cons_succ]
        refine wpRelyE_cons2 (d := 86) rfl rfl (fun wx hC hI hd S0 hS => ?_) (fun y1 => ?_)
        · have HSS := Lib.hid hS; clear hS hd hI
          go_simp
          exact HSS.out _ _ hC (Below.refl _ _) (by simp [cF])
        simp only [Act.put, List.setIfInBounds_toArray, List.set_cons_zero, List.set_cons_succ]
        refine wpRelyE_cons2 (d := 87) rfl rfl (fun wx hC hI hd S0 hS => ?_) (fun y2 => ?_)
        · have d1 := hd ⟨1, .data⟩ (by simp) rfl y1 (by simp)
          simp only [cF] at d1
          subst d1
          have c2 := keep_cell hC s2
          have HSS := Lib.hid hS; clear hS hd hI
          go_simp
          exact HSS.out _ _ hC (Below.refl _ _) (by simp [cF])
        simp only [Act.put, List.setIfInBounds_toArray, List.set_cons_zero, List.set_cons_succ]
        refine wpRelyE_cons2 (d := 88) rfl rfl (fun wx hC hI hd S0 hS => ?_) (fun y3 => ?_)
        · have d2 := hd ⟨2, .data⟩ (by simp) rfl y2 (by simp)
          simp only [cF] at d2
          subst d2
          have HSS := Lib.hid hS; clear hS hd hI
          go_simp
          exact HSS.out _ _ hC (Below.refl _ _) (by simp [cF])
        simp only [Act.put, List.setIfInBounds_toArray, List.set_cons_zero, List.set_cons_succ]
        refine wpRelyE_cons2 (d := 89) rfl rfl (fun wx hC hI hd S0 hS => ?_) (fun y4 => ?_)
        · have d3 := hd ⟨3, .data⟩ (by simp) rfl y3 (by simp)
          simp only [cF] at d3
          subst d3
          have HSS := Lib.hid hS; clear hS hd hI
          go_simp
          exact HSS.out _ _ hC (Below.refl _ _) (by simp [cF])
        simp only [Act.put, List.setIfInBounds_toArray, List.set_cons_zero, List.set_cons_succ]
        refine wpRelyE_cons2 (d := 90) rfl rfl (fun wx hC hI hd S0 hS => ?_) (fun y5 => ?_)
        · have d4 := hd ⟨4, .data⟩ (by simp) rfl y4 (by simp)
          simp only [cF] at d4
          subst d4
          have c0 := keep_cell hC s0; have c1 := keep_cell hC s1
          have HSS := Lib.hid hS; clear hS hd hI
          go_simp
          exact HSS.out _ _ hC (Below.refl _ _) (by simp [cF])
        simp only [Act.put, List.setIfInBounds_toArray, List.set_cons_zero, List.set_cons_succ]
        refine wpRelyE_cons2 (d := 91) rfl rfl (fun wx hC hI hd S0 hS => ?_) (fun y6 => ?_)
        · have HSS := Lib.hid hS; clear hS hd hI
          go_simp
          exact HSS.out _ _ hC (Below.refl _ _) (by simp [cF])
        simp only [Act.put, List.setIfInBounds_toArray, List.set_cons_zero, List.set_cons_succ]
        refine wpRelyE_cons2 (d := 92) rfl rfl (fun wx hC hI hd S0 hS => ?_) (fun y7 => ?_)
        · have d5 := hd ⟨5, .data⟩ (by simp) rfl y5 (by simp)
          simp only [cF] at d5
          have d6 := hd ⟨6, .data⟩ (by simp) rfl y6 (by simp)
          simp only [cF] at d6
          subst d5; subst d6
          have HSS := Lib.hid hS; clear hS hd hI
          go_simp
          exact HSS.out _ _ hC (Below.refl _ _) (by simp [cF])
        simp only [Act.put, List.setIfInBounds_toArray, List.set_cons_zero, List.set_cons_succ]
        refine wpRelyE_cons2 (d := 93) rfl rfl (fun wx hC hI hd S0 hS => ?_) (fun y8 => ?_)
        · have d7 := hd ⟨7, .data⟩ (by simp) rfl y7 (by simp)
          simp only [cF] at d7
          subst d7
          have HSS := Lib.hid hS; clear hS hd hI
          go_simp
          exact HSS.out _ _ hC (Below.refl _ _) (by simp [cF])
        simp only [Act.put, List.setIfInBounds_toArray, List.set_cons_zero, List.set_cons_succ]
        refine wpRelyE_cons2 (d := 94) rfl rfl (fun wx hC hI hd S0 hS => ?_) (fun y9 => ?_)
        · have d8 := hd ⟨8, .data⟩ (by simp) rfl y8 (by simp)
          simp only [cF] at d8
          subst d8
          have cp := keep_cell hC sp
          have HSS := Lib.hid hS; clear hS hd hI
          go_simp
          exact HSS.out _ _ hC (Below.refl _ _) (by simp [cF])
        simp only [Act.put, List.setIfInBounds_toArray, List.set_cons_zero, List.set_cons_succ]
        refine wpRelyE_cons2 (d := 95) rfl rfl (fun wx hC hI hd S0 hS => ?_) (fun y10 => ?_)
        · have d9 := hd ⟨9, .data⟩ (by simp) rfl y9 (by simp)
          simp only [cF] at d9
          subst d9
          have HSS := Lib.hid hS; clear hS hd hI
          go_simp
          exact HSS.out _ _ hC (Below.refl _ _) (by simp [cF])
        simp only [Act.put, List.setIfInBounds_toArray, List.set_cons_zero, List.set_cons_succ]
        refine wpRelyE_cons2 (d := 96) rfl rfl (fun wx hC hI hd S0 hS => ?_) (fun y11 => ?_)
        · have d0 := hd ⟨0, .data⟩ (by simp) rfl y0 (by simp)
          simp only [cF] at d0
          have d10 := hd ⟨10, .data⟩ (by simp) rfl y10 (by simp)
          simp only [cF] at d10
          subst d0; subst d10
          have HSS := Lib.hid hS; clear hS hd hI
          go_simp
          refine (CC2 _ (HBF.out.trans (hC.mono HBF.out.size))).mono ?_
          rintro _ w' ⟨⟨ga, gc, rfl⟩, hX⟩
          exact HSS.out _ _ (hC.trans (hX.mono hC.size)) hX (by simp [cF])
        simp only [Act.put, List.setIfInBounds_toArray, List.set_cons_zero, List.set_cons_succ]
        refine wpRelyE_cons2 (d := 8) rfl rfl (fun wx hC hI hd S0 hS => ?_) (fun y12 => ?_)
        · have d11 := hd ⟨11, .data⟩ (by simp) rfl y11 (by simp)
          simp only [cF] at d11
          obtain ⟨ga, gc, d11⟩ := d11
          subst d11
          have HSS := Lib.hid hS; clear hS hd hI
          go_simp
          exact HSS.out _ _ hC (Below.refl _ _) (by simp [cF])
        simp only [Act.put, List.setIfInBounds_toArray, List.set_cons_zero, List.set_cons_succ]
        intro wH hC hF
        have g12 := hF 12 y12 (by simp) (fun _ _ => rfl)
        simp only [cF] at g12
        obtain ⟨ga, gc, g12⟩ := g12
        subst g12
        have hsH := hC.size
        have HBH : Hid (Below wE.heap.size wE wH) := Lib.hid (HBF.out.trans (hC.mono HBF.out.size))
        clear hF hC
        simp only [List.drop_succ_cons, List.drop_zero, List.drop_nil]
        go_wp2
        go_roundw
        case measure => simp [intOf]; omega
        case rel => exact ⟨i + 1, by omega, by go_num, HBH.out⟩
    · obtain rfl : i = yl := by omega
      go_wp2_with (go_at_call 18; refine (L_loOk' _).mono ?_; rintro _ w9 ⟨rfl, h9⟩)
      all_goals (try go_returns)
      all_goals exact HR.out _ _ ⟨rfl, bbel⟩

end Go.Proofs.Ytcdmmnfdnmjnpaa
namespace Go.Proofs.Ytcdmmnfdnmjnpaa
open Go.ChangeShapes Go.WideShapes Go.ChangeAt Go.RowKit Go.Joins
theorem cells_u8 : Try.prog.cellsOf 5 = 1 := by kernel_rfl

set_option maxRecDepth 100000 in
theorem fnLodSelf_lifted (os : Os) (started : os.Started) (H : Type) (enc : TypeId × Value → H) :
    ReturnsInHanded {} Try.checked os 9 .any (Rows.fnLodSelfSpec.pre6 enc Try.prog Try.f9 Rows.fnLodSelfRow.domain false) (Rows.fnLodSelfSpec.post enc Try.prog Try.f9 false true false false) := by
  refine returnsInHanded_of_change (C := Try.checked) own started (by kernel_rfl) Try.func9
    (ChangeSpec.witness6 (enc := enc) (C := Try.checked) false ⟨#[], #[.slice none 0 0], []⟩ 8 (by kernel_rfl) (by kernel_rfl) (by kernel_rfl) (by kernel_rfl)) ?_
  intro W base args ds gs before hval0 hW hcnd _
  have hval : ∀ (j : Nat) t v, Try.f9.params[j]? = some t → args[j]? = some v → Value.okWide Try.prog W .any base t v := hval0
  have hW' := hW
  obtain ⟨p, q, hA0, hV, rfl, hfz, hnd⟩ := hW
  have hA : DataW.TrodAll enc Try.prog W 0 (fun _ => true) true Try.f9.params.toList args.toList ds p := hA0
  rw [Try.params9] at hA hval
  clear hA0 hval0
  obtain ⟨v0, d0, rfl, rfl, h0⟩ := trodAll_one hA
  obtain ⟨rfl, rfl⟩ := trodVars_none hV
  have b0 := open_bytes Try.underlying22 Try.underlying5 cells_u8 (hval 0 22 v0 rfl rfl) h0
  refine (L_FnLodSelf v0 W b0).mono fun e W' h => ?_
  obtain ⟨rfl, hb⟩ := h
  exact ⟨_, rfl, law_post (s := Rows.fnLodSelfSpec) hW' hb rfl rfl rfl Try.underlying4 (by rw [Try.params9]; kernel_rfl)⟩
theorem fnLodSelf_holds : Rows.FnLodSelfSaid :=
  OpenClaim.holds_of_wide 9 Try.f9 rfl rfl rfl rfl rfl rfl rfl ⟨rfl, rfl, rfl, rfl, rfl⟩ rfl rfl rfl rfl rfl (by kernel_rfl) Try.func9 (by kernel_rfl)
    (of_decide_eq_true (by kernel_rfl)) (by unfold Func.isWrapper; first | (rw [if_pos (by decide +kernel)]; kernel_rfl) | (rw [if_neg (by decide +kernel)]; exact ⟨rfl, rfl⟩))
    (fun os started H enc _ => fnLodSelf_lifted os started H enc)

end Go.Proofs.Ytcdmmnfdnmjnpaa
