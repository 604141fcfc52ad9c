/-
  Texts of mine, packed: Refs, ChainI. No condition beside those of the single theorems.
-/
import Derived.Test.YtcdmmnfdnmjnpaaK17
import Derived.Test.YtcdmmnfdnmjnpaaK11
set_option linter.unusedSimpArgs false
set_option linter.unusedVariables false
namespace Go.Proofs.Ytcdmmnfdnmjnpaa
open Go.RowKit
theorem rLodRef_goodT : GoodT NoT rLodRef := ⟨fun _ _ _ _ _ _ h => h, fun _ _ _ _ _ _ h => h⟩
theorem rLodRef_one : ∀ lo w cs x, rLodRef lo w cs x → ∀ u ∈ cs, u.oneCell' = true := by
  intro lo w cs x h u hu
  obtain ⟨rfl, _⟩ := h
  simp at hu
  rcases hu with rfl | rfl <;> rfl
theorem sty_Ref : STy 65 60 2 (.agg #[.int .i64 0, .string ⟨#[]⟩]) 24 := ⟨Try.underlying65, by kernel_rfl, rfl, by decide, by decide⟩
theorem TOwn.empty {α : Type} {k : Nat} {R : RowRel α} {e : TypeId} (lo B : Nat) (w : World) (hB : B ≤ w.heap.size) (hl : lo ≤ B) : TOwn k R e lo B (w.alloc (.cells #[] e)) (.slice (some ⟨w.heap.size, 0, none⟩) 0 0) ([] : List α) := by
  refine ⟨⟨[], Rows.nil, by simp, Or.inr ⟨w.heap.size, 0, #[], rfl, by omega, ?_, Nat.le_refl _, by decide, by simp, by simp⟩⟩, fun b h => ?_⟩
  · exact (MapKept.heap_alloc w _).1
  · simp [Value.ownBlock] at h; omega

set_option maxRecDepth 100000 in
set_option maxHeartbeats 8000000 in
theorem S_l7Classes (x : DLodPlan) (v1 : Value) (w : World) (s1 : Sl 2 rLodKeeper 0 w v1 x.fKeepers) (hp : lodOk x = true) :
    Calls Try.prog 120 #[.agg #[v1]] w fun e w' => (∃ (v : Value) (xs : List DLodRef), e = .returned v ∧ TOwn 2 rLodRef 60 (w.heap.size + 1) (w.heap.size + 1) w' v xs ∧ xs.length ≤ 15) ∧ Below w.heap.size w w' := by
  obtain ⟨a, len, cap, rfl, hl, h1, h2, h3⟩ := id s1
  have m1 : len ≤ 9223372036854775807 := by unfold maxLen at h2; omega
  have hl3 := lodOk_len hp
  rw [hl] at hl3
  have HP := Lib.hid hp
  have HL := Lib.hid hl
  clear h2 hl h1 hp
  refine calls_hide fun R HR => ?_
  go_enter Try.func120, Try.ntmps120
  go_wp2_with fail
  obtain ⟨wE, hwE⟩ : ∃ wE, wE = (w.alloc (.cells #[.slice a len cap] 48)).alloc (.cells #[] 60) := ⟨_, rfl⟩
  rw [← hwE]
  have hBE : Below w.heap.size w wE := by rw [hwE]; exact bbel
  have hsE : wE.heap.size = w.heap.size + 1 + 1 := by rw [hwE]; simp
  have c0 : wE.cell? ⟨w.heap.size, 0, none⟩ = some (.slice a len cap) := by rw [hwE]; go_simp
  have hT : TOwn 2 rLodRef 60 (w.heap.size + 1) (w.heap.size + 1) wE (.slice (some ⟨w.heap.size + 1, 0, none⟩) 0 0) ([] : List DLodRef) := by
    rw [hwE]
    have := TOwn.empty (α := DLodRef) (k := 2) (R := rLodRef) (e := 60) (w.heap.size + 1) (w.heap.size + 1) (w.alloc (.cells #[.slice a len cap] 48)) (by simp) (Nat.le_refl _)
    simpa using this
  clear hwE
  go_loopw [3, 4, 5] (fun zo zi zj wr => ∃ (i : Nat) (v : Value) (xs : List DLodRef), i ≤ len ∧ zo = v ∧ zi = .int .i64 i ∧ TOwn 2 rLodRef 60 (w.heap.size + 1) (w.heap.size + 1) wr v xs ∧ xs.length ≤ 5 * i ∧ Below (w.heap.size + 1) wE wr) (fun _ zi _ _ => len - (intOf zi).toNat)
  case atStart => exact ⟨0, _, [], Nat.zero_le _, rfl, rfl, hT, by simp, Below.refl _ _⟩
  case round =>
    obtain ⟨i, v, xs, hi, rfl, rfl, ht, hx, hb⟩ := hrel
    obtain ⟨va, vn, vc, rfl⟩ := ht.sl.form3
    have HT := Lib.hid ht
    clear ht
    have hbs := hb.size
    have r0 : wr.cell? ⟨w.heap.size, 0, none⟩ = some (.slice a len cap) := cell_below hb (by omega) c0
    have l0 : w.heap.size < wr.heap.size := block_lt_of_cell r0
    by_cases hlt : i < len
    · have hlt2 : (i : Int) < (len : Int) := by omega
      obtain ⟨b, off, rfl, hlo, hbl, hr⟩ := h3 (by omega)
      obtain ⟨k, cs, e0, e1, e2, e3⟩ := hr i hlt
      obtain ⟨x1, x2, rfl, t1, t2⟩ := e3
      obtain ⟨xa2, xl2, xc2, rfl⟩ := t2.form
      obtain ⟨ya, yl, yc, rfl, yh, yc1, yc2, y3⟩ := id t1
      have hyl : yl ≤ 5 := by have := (keeperOk_parts (lodOk_keeper HP.out e0)).1; omega
      have hEw : Hid (∀ (g o : Nat) (u : Value), g < w.heap.size → w.cell? ⟨g, o, none⟩ = some u → ∀ W, Below (w.heap.size + 1) wE W → W.cell? ⟨g, o, none⟩ = some u) := Lib.hid fun g o u hg hu W hW => cell_below hW (by omega) (cell_below hBE hg hu)
      have q1 : w.cell? ⟨b, off + i * 2, none⟩ = some (.slice ya yl yc) := e2 0 _ rfl
      have Q1 := Lib.hid q1
      clear e0 e1 e2 hr t1 t2 yh yc1 yc2 q1
      have q1 := hEw.out _ _ _ hbl Q1.out wr hb
      have hblr : b < wr.heap.size := by omega
      go_wp2_with fail
      go_loopw [3, 5] (fun zo zj wr => ∃ (j : Nat) (v : Value) (xs : List DLodRef), j ≤ yl ∧ zo = v ∧ zj = .int .i64 j ∧ TOwn 2 rLodRef 60 (w.heap.size + 1) (w.heap.size + 1) wr v xs ∧ xs.length ≤ 5 * i + j ∧ Below (w.heap.size + 1) wE wr) (fun _ zj _ => yl - (intOf zj).toNat)
      case atStart => exact ⟨0, _, xs, Nat.zero_le _, rfl, rfl, HT.out, by omega, hb⟩
      case round =>
        obtain ⟨j, v, ys, hj, rfl, rfl, ht2, hx2, hb2⟩ := hrel
        obtain ⟨ua, un, uc, rfl⟩ := ht2.sl.form3
        have HT2 := Lib.hid ht2
        clear ht2
        have hbs2 := hb2.size
        have s0 : wr.cell? ⟨w.heap.size, 0, none⟩ = some (.slice (some ⟨b, off, none⟩) len cap) := cell_below hb2 (by omega) c0
        have l1 : w.heap.size < wr.heap.size := block_lt_of_cell s0
        have q2 := hEw.out _ _ _ hbl Q1.out wr hb2
        have hblq : b < wr.heap.size := by omega
        by_cases hlj : j < yl
        · have hlj2 : (j : Int) < (yl : Int) := by omega
          obtain ⟨b', off', rfl, _, hbl', hr'⟩ := y3 (by omega)
          obtain ⟨c', cs', g0, g1, g2, g3⟩ := hr' j hlj
          obtain ⟨u1, u2, rfl, d1, d2, bx1, bx2⟩ := g3
          have p1 : wr.cell? ⟨b', off' + j * 4, none⟩ = some (.string c'.fName) := hEw.out _ _ _ hbl' (g2 0 _ rfl) wr hb2
          have hblq' : b' < wr.heap.size := by omega
          clear g0 g1 g2 hr' d1 d2
          go_wp2_with (at_builtin; refine wpList_append_F (B := w.heap.size + 1) (lo := w.heap.size + 1) (R := rLodRef) (E := NoT) (xs := ys) (ys := [⟨(i : Int), c'.fName⟩]) (css := [[.int .i64 (i : Int), .string c'.fName]]) (by rfl) (.tmp 25) (.tmp 38) 65 (by rfl) sty_Ref rLodRef_goodT (fun h => h) rLodRef_one (by rfl) (by rfl) (HT2.out.below rLodRef_goodT ((Below.refl _ _).alloc (Nat.le_refl _) _)) (Src.new (k := 2) (cs := [.int .i64 (i : Int), .string c'.fName])) (Rows.one rfl ⟨rfl, bx1⟩) (by simp; omega) (Nat.le_refl _) (by simp; omega) ?_)
          intro v9 wt ht9 hb9 hg9 hk9 hat9
          have hB9 : Below (w.heap.size + 1) wE wt := (hb2.trans ((Below.refl _ _).alloc (by omega) _)).trans hb9
          have hn9 : (ys ++ [(⟨(i : Int), c'.fName⟩ : DLodRef)]).length ≤ 5 * i + (j + 1) := by simp; omega
          have HT9 := Lib.hid ht9
          have HB9 := Lib.hid hB9
          clear ht9 hb9 hg9 hk9 hat9 hB9
          go_wp2
          go_roundw
          case measure => simp [intOf]; omega
          case rel => exact ⟨j + 1, _, _, by omega, rfl, by go_num, HT9.out, hn9, HB9.out⟩
        · obtain rfl : j = yl := by omega
          go_wp2
          go_roundw
          case measure => simp [intOf]; omega
          case rel => exact ⟨i + 1, _, ys, by omega, rfl, by go_num, HT2.out, by omega, hb2⟩
    · obtain rfl : i = len := by omega
      go_wp2
      all_goals (try go_returns)
      all_goals exact HR.out _ _ ⟨⟨_, xs, rfl, HT.out, by omega⟩, hBE.trans (hb.mono (by omega))⟩

set_option maxRecDepth 100000 in
set_option maxHeartbeats 8000000 in
theorem S_PlanClasses (x : DLodPlan) (v1 : Value) (w : World) (s1 : Sl 2 rLodKeeper 0 w v1 x.fKeepers) :
    Calls Try.prog 107 #[.agg #[v1]] w fun e w' => (∃ (v : Value) (xs : List DLodRef), e = .returned v ∧ TOwn 2 rLodRef 60 (w.heap.size + 1) (w.heap.size + 1) w' v xs ∧ xs.length ≤ 15) ∧ Below w.heap.size w w' := by
  obtain ⟨a, len, cap, rfl⟩ := s1.form
  have HS := Lib.hid s1
  refine calls_hide fun R HR => ?_
  go_enter Try.func107, Try.ntmps107
  go_wp2_with fail
  obtain ⟨wE, hwE⟩ : ∃ wE, wE = (w.alloc (.cells #[.slice a len cap] 48)).alloc (.cells #[] 60) := ⟨_, rfl⟩
  rw [← hwE]
  have hBE : Below w.heap.size w wE := by rw [hwE]; exact bbel
  have hsE : wE.heap.size = w.heap.size + 1 + 1 := by rw [hwE]; simp
  have c0 : wE.cell? ⟨w.heap.size, 0, none⟩ = some (.slice a len cap) := by rw [hwE]; go_simp
  have hT : TOwn 2 rLodRef 60 (w.heap.size + 1) (w.heap.size + 1) wE (.slice (some ⟨w.heap.size + 1, 0, none⟩) 0 0) ([] : List DLodRef) := by
    rw [hwE]
    have := TOwn.empty (α := DLodRef) (k := 2) (R := rLodRef) (e := 60) (w.heap.size + 1) (w.heap.size + 1) (w.alloc (.cells #[.slice a len cap] 48)) (by simp) (Nat.le_refl _)
    simpa using this
  clear hwE
  refine (S_LodOk x _ _ (HS.out.stays rLodKeeper_good (Keeps.of_below hBE))).mono ?_
  rintro _ w1 ⟨rfl, h1⟩
  have hs1 := h1.size
  have c1 := keep_cell h1 c0
  have hB1 : Below w.heap.size w w1 := hBE.trans (h1.mono hBE.size)
  have hT1 := hT.below rLodRef_goodT h1
  clear c0 hT h1
  cases hok : lodOk x
  · clear hok
    go_wp2
    all_goals (try go_returns)
    all_goals exact HR.out _ _ ⟨⟨_, [], rfl, hT1, by simp⟩, hB1⟩
  have HOK := Lib.hid hok
  clear hok
  go_wp2_with fail
  refine (S_l7Classes x _ _ (HS.out.stays rLodKeeper_good (Keeps.of_below hB1)) HOK.out).mono ?_
  rintro _ w2 ⟨⟨v, xs, rfl, ht, hx⟩, h2⟩
  have hs2 := h2.size
  obtain ⟨va, vn, vc, rfl⟩ := ht.sl.form3
  have hvn : xs.length = vn := by
    obtain ⟨_, _, e, _⟩ := ht.sl.form
    cases e; rfl
  have c2 := keep_cell h2 c1
  have hB2 : Below w.heap.size w w2 := hB1.trans (h2.mono hB1.size)
  have hT2 := hT1.below rLodRef_goodT h2
  have HT := Lib.hid ht
  have hap : ∀ b, (Value.slice va vn vc).ownBlock = some b → (Value.slice (some ⟨w.heap.size + 1, 0, none⟩) 0 0).ownBlock ≠ some b := fun b hb e => by
    have h3 := ht.own b hb
    simp [Value.ownBlock] at e
    omega
  clear c1 hT1 ht h2
  go_wp2_with fail
  go_loopw [3, 5] (fun zo zi wr => ∃ (i : Nat) (u : Value) (ys : List DLodRef), i ≤ vn ∧ zo = u ∧ zi = .int .i64 i ∧ TOwn 2 rLodRef 60 (w.heap.size + 1) (w.heap.size + 1) wr u ys ∧ TOwn 2 rLodRef 60 (w1.heap.size + 1) (w1.heap.size + 1) wr (.slice va vn vc) xs ∧ (∀ b, (Value.slice va vn vc).ownBlock = some b → u.ownBlock ≠ some b) ∧ ys.length ≤ i ∧ Below (w.heap.size + 1) w2 wr) (fun _ zi _ => vn - (intOf zi).toNat)
  case atStart => exact ⟨0, _, [], Nat.zero_le _, rfl, rfl, hT2, HT.out, hap, by simp, Below.refl _ _⟩
  case round =>
    obtain ⟨i, u, ys, hi, rfl, rfl, ht, hta, hap2, hx2, hb⟩ := hrel
    obtain ⟨ua, un, uc, rfl⟩ := ht.sl.form3
    have HT2 := Lib.hid ht
    have HTA := Lib.hid hta
    have HAP := Lib.hid hap2
    clear ht hap2
    have hbs := hb.size
    have r0 : wr.cell? ⟨w.heap.size, 0, none⟩ = some (.slice a len cap) := cell_below hb (by omega) c2
    have l0 : w.heap.size < wr.heap.size := block_lt_of_cell r0
    have hBr : Hid (Below w.heap.size w wr) := Lib.hid (hB2.trans (hb.mono (by omega)))
    by_cases hlt : i < vn
    · have hlt2 : (i : Int) < (vn : Int) := by omega
      obtain ⟨b, cap', css, e, hb1, hb2, hb3, hb4, hrows⟩ := hta.sl.rowsAt (by omega)
      cases e
      obtain ⟨y, hy⟩ : ∃ y, xs[i]? = some y := ⟨_, List.getElem?_eq_getElem (by omega)⟩
      obtain ⟨cs, hcs, hcl, ⟨rfl, hyn⟩, hrg⟩ := hrows i y hy
      have q1 : wr.cell? ⟨b, i * 2, none⟩ = some (.int .i64 y.fKeeper) := hrg 0 _ rfl
      have q2 : wr.cell? ⟨b, i * 2 + 1, none⟩ = some (.string y.fName) := hrg 1 _ rfl
      have HYN := Lib.hid hyn
      clear hrows hrg hcs hcl hy hta
      have hbl9 : b < wr.heap.size := hb2
      obtain ⟨n9, hn9⟩ : ∃ n, (lodChain x y).length = n := ⟨_, rfl⟩
      have CH : ∀ W, Below wr.heap.size wr W → Calls Try.prog 49 #[.agg #[.slice a len cap], .agg #[.int .i64 y.fKeeper, .string y.fName]] W fun e w' => (∃ (ga : Option Addr) (gc : Nat), e = .returned (.slice ga n9 gc)) ∧ Below W.heap.size W w' := fun W hW =>
        (S_LodChain x _ y W (HS.out.stays rLodKeeper_good (Keeps.of_below (hBr.out.trans (hW.mono hBr.out.size)))) HYN.out).mono fun e w' h => by
          obtain ⟨⟨v, rfl, hrf⟩, hb⟩ := h
          obtain ⟨ga, gc, rfl, _, _⟩ := own_form hrf
          exact ⟨⟨ga, gc, by rw [hn9]⟩, hb⟩
      clear hn9
      go_wp2_with fail
      go_region_with (first | (go_at_call 49; refine (CH _ (by first | exact Below.refl _ _ | exact (Below.refl _ _).drew | exact ((Below.refl _ _).drew).drew)).mono ?_; rintro _ wc ⟨⟨ga, gc, rfl⟩, hc⟩; have hc' : Below wr.heap.size wr wc := ⟨hc.os, hc.tape, hc.output, hc.size, hc.block⟩; clear hc))
      all_goals
        have hsc := hc'.size
        have s0 := keep_cell hc' r0
        have s1 := keep_cell hc' q1
        have s2 := keep_cell hc' q2
        have hblc : b < wc.heap.size := by omega
        have HTB := Lib.hid (HT2.out.below rLodRef_goodT hc')
        have HTC := Lib.hid (HTA.out.below rLodRef_goodT hc')
        have HBC : Hid (Below (w.heap.size + 1) w2 wc) := Lib.hid (hb.trans (hc'.mono (by omega)))
        clear r0 q1 q2 hc' hb CH
        by_cases h9 : 0 < n9
        · have h9' : (0 : Int) < (n9 : Int) := by omega
          go_wp2_with (at_builtin; refine wpList_append_F (B := w.heap.size + 1) (lo := w.heap.size + 1) (R := rLodRef) (E := NoT) (xs := ys) (ys := [⟨y.fKeeper, y.fName⟩]) (css := [[.int .i64 y.fKeeper, .string y.fName]]) (by rfl) (.tmp 27) (.tmp 32) 65 (by rfl) sty_Ref rLodRef_goodT (fun h => h) rLodRef_one (by rfl) (by rfl) (HTB.out.below rLodRef_goodT ((Below.refl _ _).alloc (Nat.le_refl _) _)) (Src.new (k := 2) (cs := [.int .i64 y.fKeeper, .string y.fName])) (Rows.one rfl ⟨rfl, HYN.out⟩) (by simp; omega) (Nat.le_refl _) (by simp; omega) ?_)
          intro v9 wt ht9 hb9 hg9 hk9 hat9
          have hs9 := hb9.size
          simp only [World.size_alloc] at hs9
          have HTD : Hid (TOwn 2 rLodRef 60 (w1.heap.size + 1) (w1.heap.size + 1) wt (.slice (some ⟨b, 0, none⟩) xs.length vc) xs) := Lib.hid ((HTC.out.below rLodRef_goodT ((Below.refl _ _).alloc (Nat.le_refl _) _)).grown rLodRef_goodT hg9 HAP.out)
          have HAQ : Hid (∀ g, (Value.slice (some ⟨b, 0, none⟩) xs.length vc).ownBlock = some g → v9.ownBlock ≠ some g) := Lib.hid fun g hg e => by
            rcases hat9 g e with h | h
            · exact HAP.out g hg h
            · have := HTC.out.lt g hg
              skip
              omega
          have hB9 : Below (w.heap.size + 1) w2 wt := (HBC.out.trans ((Below.refl _ _).alloc (by omega) _)).trans hb9
          have hn9 : (ys ++ [(⟨y.fKeeper, y.fName⟩ : DLodRef)]).length ≤ i + 1 := by simp; omega
          have HT9 := Lib.hid ht9
          have HB9 := Lib.hid hB9
          clear ht9 hb9 hg9 hk9 hat9 hB9
          go_wp2
          go_roundw
          case measure => simp [intOf]; omega
          case rel => exact ⟨i + 1, _, _, by omega, rfl, by go_num, HT9.out, HTD.out, HAQ.out, hn9, HB9.out⟩
        · have h9' : ¬ (0 : Int) < (n9 : Int) := by omega
          go_wp2
          go_roundw
          case measure => simp [intOf]; omega
          case rel => exact ⟨i + 1, _, ys, by omega, rfl, by go_num, HTB.out, HTC.out, HAP.out, by omega, HBC.out⟩
    · obtain rfl : i = vn := by omega
      clear hta
      go_wp2
      all_goals (try go_returns)
      all_goals exact HR.out _ _ ⟨⟨_, ys, rfl, HT2.out, by omega⟩, hBr.out⟩

set_option maxRecDepth 100000 in
set_option maxHeartbeats 8000000 in
theorem I_LodChain (x : DLodPlan) (v1 : Value) (r : DLodRef) (w : World) (s1 : Sl 2 rLodKeeper 0 w v1 x.fKeepers) (hn : r.fName.size ≤ maxLen) :
    Calls Try.prog 34 #[.agg #[v1], .agg #[.int .i64 r.fKeeper, .string r.fName]] w fun e w' => (∃ v, e = .returned v ∧ Refs w' w.heap.size v (lodChain x r)) ∧ Below w.heap.size w w' := by
  obtain ⟨a, len, cap, rfl⟩ := s1.form
  refine calls_hide fun R HR => ?_
  go_enter Try.func34, Try.ntmps34
  go_wp2_with fail
  refine (I_newLodge x _ _ (s1.stays rLodKeeper_good (Keeps.of_below' (B := w.heap.size) (bbel) (Nat.le_refl _)))).mono ?_
  rintro _ wA ⟨hA, hq⟩
  have hEA : Below w.heap.size w wA := bbel
  have hAs := (hA).size; (try simp only [World.size_alloc, World.size_setCell, World.size_drew] at hAs)
  obtain ⟨hAad, hAao, hAag, hAap, hAax, hAay, hAac1, hAaf1, hAaz1⟩ := bf2 (n := w.heap.size) hA
  rcases hq with ⟨hno, rfl⟩ | ⟨hy, L, rfl, hL⟩
  · have RV : Hid (lodChain x r = []) := Lib.hid (by unfold lodChain; rw [lodFind_no hno]; rfl)
    clear hno
    go_wp2
    all_goals (try go_returns)
    all_goals exact HR.out _ _ ⟨⟨_, rfl, by rw [RV.out]; exact ⟨by simp [flatR], Or.inl ⟨rfl, rfl⟩⟩⟩, bbel⟩
  · have HL := Lib.hid hL
    have HY := Lib.hid hy
    clear hL hy
    go_wp2_with fail
    refine (I_chain x L r _ HL.out HY.out hn).mono ?_
    rintro _ wB ⟨⟨v, rfl, hv⟩, hB⟩
    have hBs := (hB).size; (try simp only [World.size_alloc, World.size_setCell, World.size_drew] at hBs)
    have HV := Lib.hid (hv.low (base' := w.heap.size) (by omega))
    clear hv
    go_wp2
    all_goals (try go_returns)
    all_goals exact HR.out _ _ ⟨⟨_, rfl, HV.out⟩, bbel⟩


end Go.Proofs.Ytcdmmnfdnmjnpaa
