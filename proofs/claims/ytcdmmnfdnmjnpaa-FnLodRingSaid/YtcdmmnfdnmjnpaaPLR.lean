/-
  Texts of mine, packed: LawLR, RowLR. No condition beside those of the single theorems.
-/
import Derived.Test.YtcdmmnfdnmjnpaaK12
import Derived.Test.YtcdmmnfdnmjnpaaK16
import Derived.Test.YtcdmmnfdnmjnpaaK33
import Derived.Test.YtcdmmnfdnmjnpaaK31
import Derived.Test.YtcdmmnfdnmjnpaaK29
import Derived.Test.YtcdmmnfdnmjnpaaK13
set_option linter.unusedSimpArgs false
set_option linter.unusedVariables false
namespace Go.Proofs.Ytcdmmnfdnmjnpaa
open Go.RowKit
theorem inPlan_iffR {p : DLodPlan} {i : Int} : inPlan p i = true ↔ 0 ≤ i ∧ i < (p.fKeepers.length : Int) := by
  unfold inPlan
  simp
theorem empty0_newR (w : World) (e : TypeId) {B b : Nat} (hb : b = w.heap.size) (hB : B ≤ w.heap.size) : Empty0 e B (w.alloc (.cells #[] e)) (.slice (some ⟨b, 0, none⟩) 0 0) := by
  subst hb; exact Empty0.new w e hB
theorem Sl.cssA {w : World} {a : Option Addr} {n cap : Nat} {xs : List DLodAsk} (h : Sl 2 rLodAsk 0 w (.slice a n cap) xs) :
    (a = none ∧ xs = []) ∨ ∃ css : List (List Value), Src 2 w (.slice a n cap) css ∧ ∀ lo W, Rows 2 rLodAsk lo W css xs := by
  obtain ⟨a', n', cap', e, hl, h1, h2, h3⟩ := h
  cases e
  rcases Nat.eq_zero_or_pos n with h0 | h0
  · subst h0
    have hx : xs = [] := List.eq_nil_of_length_eq_zero hl
    subst hx
    cases a with
    | none => exact Or.inl ⟨rfl, rfl⟩
    | some ad => exact Or.inr ⟨[], Or.inr ⟨ad, cap, rfl, fun j u hj => by simp at hj⟩, fun _ _ => Rows.nil⟩
  · obtain ⟨b, off, rfl, _, hb, hr⟩ := h3 h0
    have hat : ∀ (i : Nat) (x : DLodAsk), xs[i]? = some x → (xs.map fun x : DLodAsk => [(.string x.fName : Value), .int .i64 x.fKeeper])[i]? = some ([.string x.fName, .int .i64 x.fKeeper] : List Value) := fun i x hx => by rw [List.getElem?_map, hx]; rfl
    have heach : ∀ c ∈ xs.map (fun x : DLodAsk => [(.string x.fName : Value), .int .i64 x.fKeeper]), c.length = 2 := fun c hc => by
      obtain ⟨x, _, rfl⟩ := List.mem_map.1 hc
      rfl
    have hrow : ∀ (i : Nat) (x : DLodAsk), xs[i]? = some x → x.fName.size ≤ maxLen ∧ w.rangeAt b (off + i * 2) [.string x.fName, .int .i64 x.fKeeper] := fun i x hx => by
      have hi : i < n := by have := (List.getElem?_eq_some_iff.1 hx).1; omega
      obtain ⟨y, cs, e0, _, e2, e3, e4⟩ := hr i hi
      rw [hx] at e0
      cases e0
      rw [e3] at e2
      exact ⟨e4, e2⟩
    refine Or.inr ⟨xs.map fun x : DLodAsk => [(.string x.fName : Value), .int .i64 x.fKeeper], Or.inr ⟨⟨b, off, none⟩, cap, by simp [hl], fun j u hj => ?_⟩, fun lo W => ⟨by simp, fun i x cs hx hc => ?_⟩⟩
    · have hjl : j < n * 2 := by
        have := (List.getElem?_eq_some_iff.1 hj).1
        rw [flat_len heach] at this
        simpa [hl] using this
      obtain ⟨x, hx⟩ : ∃ x, xs[j / 2]? = some x := ⟨_, List.getElem?_eq_getElem (by omega)⟩
      have hfl := flat_at heach (hat _ x hx) (j := j % 2) (by omega)
      rw [show j / 2 * 2 + j % 2 = j by omega, hj] at hfl
      have := (hrow _ x hx).2 (j % 2) u hfl.symm
      rw [Addr.add_mid]
      rw [show off + j / 2 * 2 + j % 2 = off + j by omega] at this
      exact this
    · rw [hat i x hx] at hc
      cases hc
      exact ⟨rfl, rfl, (hrow i x hx).1⟩
theorem run_append_nil {T ty e : TypeId} {k : Nat} {z : Value} {bytes : Nat} (h : STy T e k z bytes) (w : World) (g c : Nat) :
    (Builtin.append_ #[T, T] ty #[.slice (some ⟨g, 0, none⟩) 0 0, .slice none 0 c]).run Try.prog w = .ok (.slice (some ⟨g, 0, none⟩) 0 0) w := by
  obtain ⟨i, hi, hz, hk, hb⟩ := h.parts
  simp [Builtin.append_, run_underlying h.un, sizeOf, typeInfo, hi, Builtin.lenOf, Builtin.firstCells, storeCells, loadCells, loadCellsFrom]

theorem ring_list : nRing.toList = [114, 105, 110, 103] := by
  show (⟨#[114, 105, 110, 103]⟩ : ByteArray).toList = [114, 105, 110, 103]
  go_simp
-- REGION 12 (genlr.py)
theorem sameN_neR {a b : ByteArray} (h : a ≠ b) : (a.toList == b.toList) = false := by
  cases e : (a.toList == b.toList)
  · rfl
  · exact absurd (sameN_iff.1 (show sameN a b = true from e)) h
def rDead (i j : Nat) : Bool := j == 14 && (i == 3 || i == 10 || i == 13)
def rG (N j : Nat) (w w' : World) : Prop := (j = 14 ∧ Below N w w') ∨ Below w.heap.size w w'
theorem rG_of {N : Nat} {w w' : World} (j : Nat) (h : Below w.heap.size w w') : rG N j w w' := Or.inr h
def rF (N X ga fl capA P b off fc ix : Nat) (ya : Option Addr) (yl yc : Nat) (xs : List DLodAsk) : Nat → Value → World → Prop
  | 0, v, w => v = .pointer (some ⟨X, 0, none⟩)
  | 1, v, w => v = .slice (some ⟨ga, 0, none⟩) fl capA
  | 2, v, w => v = .int .i64 (ix : Int)
  | 3, v, w => Empty0 56 N w v
  | 4, v, w => v = .pointer (some ⟨P, 0, none⟩)
  | 5, v, w => v = .slice (some ⟨b, off, none⟩) fl fc
  | 6, v, w => v = .int .i64 (ix : Int)
  | 7, v, w => v = .pointer (some ⟨b, off + ix * 2, none⟩)
  | 8, v, w => v = .pointer (some ⟨b, off + ix * 2 + 1, none⟩)
  | 9, v, w => v = .slice ya yl yc
  | 10, v, w => TOwn 2 rLodAsk 56 N N w v xs
  | 11, v, w => v = .int .i64 (ix : Int)
  | 12, v, w => v = .agg #[.string nRing, .int .i64 (ix : Int)]
  | 13, v, w => Src 2 w v [[.string nRing, .int .i64 (ix : Int)]]
  | 14, v, w => TOwn 2 rLodAsk 56 N N w v (xs ++ [⟨nRing, (ix : Int)⟩])
  | _, _, _ => True
theorem rF_stays {N X ga fl capA P b off fc ix : Nat} {ya : Option Addr} {yl yc : Nat} {xs : List DLodAsk} : ∀ i j u w w', i ≠ j → rDead i j = false → rG N j w w' → rF N X ga fl capA P b off fc ix ya yl yc xs i u w → rF N X ga fl capA P b off fc ix ya yl yc xs i u w' := by
  intro i j u w w' hne hd hg h
  match i with
  | 0 | 1 | 2 | 4 | 5 | 6 | 7 | 8 | 9 | 11 | 12 => exact h
  | 3 =>
    rcases hg with ⟨rfl, _⟩ | hg
    · cases hd
    · exact Empty0.below h hg
  | 10 =>
    rcases hg with ⟨rfl, _⟩ | hg
    · cases hd
    · exact TOwn.below rLodAsk_goodT h hg
  | 13 =>
    rcases hg with ⟨rfl, _⟩ | hg
    · cases hd
    · exact Src.kept (k := 2) h hg
  | 14 =>
    rcases hg with ⟨rfl, _⟩ | hg
    · exact absurd rfl hne
    · exact TOwn.below rLodAsk_goodT h hg
  | n + 15 => trivial
set_option maxRecDepth 100000 in
set_option maxHeartbeats 8000000 in
theorem L_FnLodRing (v : Value) (w : World) (hv : Bytes w v) :
    Calls Try.prog 7 #[v] w fun e w' => e = .returned (.bool true) ∧ Below w.heap.size w w' := by
  obtain ⟨c, len, cap, rfl, g1, g2, g3⟩ := id hv
  have m1 : len ≤ 9223372036854775807 := by unfold maxLen at g2; omega
  clear g2 g3
  refine calls_hide fun R HR => ?_
  go_enter Try.func7, Try.ntmps7
  go_wp2_with fail
  all_goals first
    | (try go_returns
       exact HR.out _ _ ⟨rfl, bbel⟩)
    | skip
  refine (S_DrawLodFind _ _ hv).mono ?_
  rintro _ w1 ⟨⟨pv, pl, k, nm, rfl, hs, hnr, hk1, hk2, hnm⟩, h1⟩
  have h1s := (h1).size; (try simp only [World.size_alloc, World.size_setCell, World.size_drew] at h1s)
  obtain ⟨fa, fl, fc, rfl⟩ := hs.form
  obtain ⟨hfl, hfc, hfm⟩ := hs.len
  have hfm' : fl ≤ 9223372036854775807 := by unfold maxLen at hfm; omega
  have hn : nm.size ≤ maxLen := by unfold maxLen; omega
  obtain ⟨jw, hjw⟩ : ∃ x, lodFind pl k nm = x := ⟨_, rfl⟩
  obtain ⟨ok, hok⟩ : ∃ x, lodOk pl = x := ⟨_, rfl⟩
  obtain ⟨nn, hnn⟩ : ∃ x, namOk nm = x := ⟨_, rfl⟩
  have CG : Hid (∀ (W : World) (i : Int) (s : ByteArray), s.size ≤ maxLen → Below w1.heap.size w1 W → Calls Try.prog 29 #[.agg #[.slice fa fl fc], .int .i64 i, .string s] W fun e w' => e = .returned (refT (lodFind pl i s)) ∧ Below W.heap.size W w') := Lib.hid fun W i s hs9 hW => I_LodFind pl _ i s W (hs.stays rLodKeeper_good (Keeps.of_below' hW (Nat.le_refl _))) hs9
  have CI : Hid (∀ W, Below w1.heap.size w1 W → Calls Try.prog 29 #[.agg #[.slice fa fl fc], .int .i64 k, .string nm] W fun e w' => e = .returned (refT jw) ∧ Below W.heap.size W w') := Lib.hid fun W hW => by rw [← hjw]; exact CG.out W k nm hn hW
  have CL : Hid (∀ W, Below w1.heap.size w1 W → Calls Try.prog 27 #[.agg #[.slice fa fl fc]] W fun e w' => e = .returned (.bool ok) ∧ Below W.heap.size W w') := Lib.hid fun W hW => by rw [← hok]; exact S_LodOk pl _ W (hs.stays rLodKeeper_good (Keeps.of_below' hW (Nat.le_refl _)))
  have CN : Hid (∀ W, Calls Try.prog 30 #[.string nm] W fun e w' => e = .returned (.bool nn) ∧ W = w') := Lib.hid fun W => by rw [← hnn]; exact S_NamOk nm W hn
  have HNR := Lib.hid hnr
  obtain ⟨⟨rk, rn⟩, cd⟩ := jw
  unfold refT at CI
  dsimp only at CI
  have HJ := Lib.hid hjw
  have HOK := Lib.hid hok
  have HNN := Lib.hid hnn
  have HFL := Lib.hid hfl
  have HS := Lib.hid hs
  clear hs hjw hok hnr hnn hfl
  go_wp2_with fail
  refine (CL.out _ (bbel)).mono ?_
  rintro _ w2 ⟨rfl, h2⟩
  have h2s := (h2).size; (try simp only [World.size_alloc, World.size_setCell, World.size_drew] at h2s)
  obtain ⟨h2pd, h2po, h2pg, h2pp, h2px, h2py⟩ := bf1 (n := w1.heap.size) h2
  cases ok
  · go_wp2_with (go_at_call 18; refine (L_loOk' _).mono ?_; rintro _ w9 ⟨rfl, h9⟩)
    all_goals (try go_returns)
    all_goals exact HR.out _ _ ⟨rfl, bbel⟩
  by_cases a0 : k < 0
  · go_wp2_with (go_at_call 18; refine (L_loOk' _).mono ?_; rintro _ w9 ⟨rfl, h9⟩)
    all_goals (try go_returns)
    all_goals exact HR.out _ _ ⟨rfl, bbel⟩
  by_cases a1 : (fl : Int) ≤ k
  · go_wp2_with (go_at_call 18; refine (L_loOk' _).mono ?_; rintro _ w9 ⟨rfl, h9⟩)
    all_goals (try go_returns)
    all_goals exact HR.out _ _ ⟨rfl, bbel⟩
  obtain ⟨i, rfl⟩ : ∃ i : Nat, k = (i : Int) := ⟨k.toNat, by omega⟩
  have hi : i < fl := by omega
  have hi2 : (i : Int) < (fl : Int) := by omega
  obtain ⟨x1, x2, x3, x4, x5, x6, x7, h3⟩ := id HS.out
  cases x4
  obtain ⟨b, off, rfl, hlo, hbl, hr⟩ := h3 (by omega)
  obtain ⟨kp, cs, e0, e1, e2, e3⟩ := hr i hi
  obtain ⟨v1, v2, rfl, t1, t2⟩ := e3
  obtain ⟨xa1, xl1, xc1, rfl⟩ := t1.form
  obtain ⟨ya, yl, yc, rfl, yh, yc1, yc2, y3⟩ := id t2
  have my : yl ≤ 9223372036854775807 := by unfold maxLen at yc2; omega
  have q1 : w1.cell? ⟨b, off + i * 2, none⟩ = some (.slice xa1 xl1 xc1) := e2 0 _ rfl
  have q2 : w1.cell? ⟨b, off + i * 2 + 1, none⟩ = some (.slice ya yl yc) := e2 1 _ rfl
  have YH := Lib.hid yh
  have HKP := Lib.hid e0
  have HT1 := Lib.hid t1
  have HT2 := Lib.hid t2
  clear e0 e1 e2 hr t1 t2 yh yc1 yc2 h3 x7 x6 x5
  have u0 : w2.cell? ⟨w1.heap.size, 0, none⟩ = some (.slice (some ⟨b, off, none⟩) fl fc) := by go_simp
  have hB2 : Below w1.heap.size w1 w2 := bbel
  have p1 := keep_cell hB2 q1
  have p2 := keep_cell hB2 q2
  have hb2 : b < w2.heap.size := Nat.lt_of_lt_of_le hbl hB2.size
  have l1 : w1.heap.size < w2.heap.size := block_lt_of_cell u0
  clear h2pd h2pg h2px h2po h2pp h2py h2
  by_cases h4 : yl = 4
  · subst h4
    go_wp2_with (go_at_call 18; refine (L_loOk' _).mono ?_; rintro _ w9 ⟨rfl, h9⟩)
    all_goals (try go_returns)
    all_goals exact HR.out _ _ ⟨rfl, bbel⟩
  have h4' : ((yl : Int) == 4) = false := by simp; omega
  go_wp2_with fail
  go_loopw [6] (fun y wr => ∃ j : Nat, j ≤ yl ∧ y = .int .i64 j ∧ EachTo (nots fun c : DLodAsk => sameN c.fName nRing) kp.fAsks j = true ∧ Below w2.heap.size w2 wr) (fun z _ => yl - (intOf z).toNat)
  case atStart => exact ⟨0, Nat.zero_le _, rfl, rfl, Below.refl _ _⟩
  case round =>
    obtain ⟨j, hj, rfl, ha, hb⟩ := hrel
    have HA := Lib.hid ha
    clear ha
    have hbs := hb.size
    have r0 := keep_cell hb u0
    have q1r := keep_cell hb p1
    have q2r := keep_cell hb p2
    have hblr : b < wr.heap.size := by omega
    have l1r : w1.heap.size < wr.heap.size := by omega
    by_cases hlt : j < yl
    · have hlt2 : (j : Int) < (yl : Int) := by omega
      obtain ⟨b', off', rfl, _, hbl', hr'⟩ := y3 (by omega)
      obtain ⟨y, cs', g0, g1, g2, g3⟩ := hr' j hlt
      obtain ⟨rfl, bx⟩ := g3
      have z1 : wr.cell? ⟨b', off' + j * 2, none⟩ = some (.string y.fName) := keep_cell hb (keep_cell hB2 (g2 0 _ rfl))
      have hbl2 : b' < wr.heap.size := by have := hB2.size; omega
      have G0 := Lib.hid g0
      clear g0 g1 g2 hr'
      cases hx : sameN y.fName nRing
      · have HX := Lib.hid hx
        have hx2 : (y.fName.toList == [114, 105, 110, 103]) = false := by rw [← ring_list]; exact hx
        clear hx
        go_wp2
        go_roundw
        case measure => simp [intOf]; omega
        case rel => exact ⟨j + 1, by omega, by go_num, EachTo.step HA.out G0.out (by simp [nots, HX.out]), hb⟩
      · have hx2 : (y.fName.toList == [114, 105, 110, 103]) = true := by rw [← ring_list]; exact hx
        clear hx
        go_wp2_with (go_at_call 18; refine (L_loOk' _).mono ?_; rintro _ w9 ⟨rfl, h9⟩)
        all_goals (try go_returns)
        all_goals exact HR.out _ _ ⟨rfl, bbel⟩
    · obtain rfl : yl = j := by omega
      have HNEW : Hid (askAt kp.fAsks nRing < 0) := Lib.hid (by have := firstAt_none' HA.out YH.out; unfold askAt; omega)
      have hl3 := lodOk_len HOK.out
      rw [HFL.out] at hl3
      obtain ⟨css, hsrc, hraw, hcl, hrow⟩ := HS.out.css (by omega)
      have HS0 : Hid (∀ W, Below w1.heap.size w1 W → Src 2 W (.slice (some ⟨b, off, none⟩) fl fc) css) := Lib.hid fun W hW => hsrc.kept hW
      have HR0 : Hid (∀ lo W, Rows 2 rRaw lo W css css) := Lib.hid fun lo W => hraw.mono fun cs x h => h
      have HRW := Lib.hid hrow
      have HCL := Lib.hid hcl
      have HBW : Hid (Below w1.heap.size w1 wr) := Lib.hid (hB2.trans (hb.mono hB2.size))
      clear hsrc hraw hrow hcl
      go_wp2_with (at_builtin; refine wpList_append_copyC (B := wr.heap.size) (lo := wr.heap.size) (R := rRaw) (E := NoT) (ys := css) (css := css) (by rfl) (.tmp 71) (.tmp 73) 46 (by rfl) sty_Kpr rRaw_goodT rRaw_one (by rfl) (by rfl) (Empty0.new wr _ (Nat.le_refl _)) (HS0.out _ (HBW.out.alloc HBW.out.size _)) (HR0.out _ _) (by have := HCL.out; omega) (Nat.le_refl _) (by simp) ?_)
      intro vA wA htA hbA
      have hsA := hbA.size
      simp only [World.size_alloc] at hsA
      obtain ⟨ga, capA, rfl, hgA, hcA, hmA, hkA⟩ := KB.of_own htA HCL.out (by omega)
      have hBA : Below wr.heap.size wr wA := ((Below.refl wr.heap.size wr).alloc (Nat.le_refl _) _).trans (hbA.mono (by simp))
      have HBA1 : Hid (Below w1.heap.size w1 wA) := Lib.hid (HBW.out.trans (hBA.mono HBW.out.size))
      have a0 := keep_cell hBA r0
      have a1 := keep_cell hBA q1r
      have a2 := keep_cell hBA q2r
      have hgl := hkA.lt
      have HKA := Lib.hid hkA
      have hcA' : capA ≤ 9223372036854775807 := by unfold maxLen at hmA; omega
      have hyl4 : yl ≤ 4 := by
        have := (keeperOk_parts (lodOk_keeper HOK.out HKP.out)).2.1
        have := YH.out
        omega
      have HYL : Hid (kp.fAsks.length ≤ 4) := Lib.hid (by have := YH.out; omega)
      clear htA hbA hkA r0 q1r q2r
      go_wp2_with fail
      obtain ⟨W3, hW3⟩ : ∃ W, W = wA.alloc (.cells #[.slice (some ⟨ga, 0, none⟩) fl capA] 48) := ⟨_, rfl⟩
      have hz3 : W3.heap.size = wA.heap.size + 1 := by rw [hW3]; simp
      have hB3 : Below wA.heap.size wA W3 := by rw [hW3]; exact (Below.refl _ _).alloc (Nat.le_refl _) _
      have x0 : W3.cell? ⟨wA.heap.size, 0, none⟩ = some (.slice (some ⟨ga, 0, none⟩) fl capA) := by rw [hW3]; go_simp
      have y0 := keep_cell hB3 a0
      have z0 := keep_cell hB3 a2
      have HK3 : Hid (KB W3 ga css) := Lib.hid (by rw [hW3]; exact HKA.out.alloc _)
      have HB13 : Hid (Below w1.heap.size w1 W3) := Lib.hid (HBA1.out.trans (hB3.mono HBA1.out.size))
      have COPY : Hid (∀ (wx : World) (v : Value), Below W3.heap.size W3 wx → Empty0 56 W3.heap.size wx v → ∃ v' w', (Builtin.append_ #[51, 51] 51 #[v, .slice ya yl yc]).run Try.prog wx = .ok v' w' ∧ TOwn 2 rLodAsk 56 W3.heap.size W3.heap.size w' v' kp.fAsks ∧ Below wx.heap.size wx w') := Lib.hid fun wx v hC hv => by
        rcases (HT2.out.stays rLodAsk_good (Keeps.of_below' (HB13.out.trans (hC.mono HB13.out.size)) (Nat.le_refl _))).cssA with ⟨e1, e2⟩ | ⟨cs2, hs2, hr2⟩
        · obtain ⟨g, rfl, hg1, hg2⟩ := id hv
          subst e1
          have hy0 : yl = 0 := by have := YH.out; rw [e2] at this; simpa using this.symm
          subst hy0
          rw [e2]
          exact ⟨_, wx, run_append_nil sty_Ask wx g yc, hv.own (Nat.le_refl _), Below.refl _ _⟩
        · obtain ⟨v', w', h1, h2, h3⟩ := run_append_copy (ty := 51) sty_Ask rLodAsk_goodT rLodAsk_one hv hs2 (hr2 W3.heap.size wx) (by have := HYL.out; omega) (Nat.le_refl _) hC.size
          exact ⟨v', w', h1, h2, h3⟩
      rw [← hW3]
      clear hW3 a0 a1 a2
      refine wp_region_relyE 15 (Below W3.heap.size W3) (rG W3.heap.size) (fun _ => rF W3.heap.size wA.heap.size ga fl capA w1.heap.size b off fc i ya yl yc kp.fAsks) (fun _ _ => True) rDead (by kernel_rfl) (by decide) (by kernel_rfl) (Or.inr ⟨by kernel_rfl, by kernel_rfl⟩) (by kernel_rfl) ((Below.refl _ _).drew) (fun _ _ _ _ _ _ _ _ _ h => h) (dead_of (by kernel_rfl) (by kernel_rfl)) (fun _ => trivial) (fun _ _ _ _ _ _ _ _ => trivial) (fun g i j u w1 w2 hne hdd hC hg hF => rF_stays i j u w1 w2 hne hdd hg hF) (fun j w _ => rG_of j (Below.refl _ _)) ?_
      refine wpRelyE_cons2 (d := 76) rfl rfl (fun wx hC hI hd S0 hS => ?_) (fun v0 => ?_)
      · have HSS := Lib.hid hS; clear hS hd hI
        go_simp
        exact HSS.out _ _ hC (rG_of _ (Below.refl _ _)) (by simp [rF])
      simp only [Act.put, List.setIfInBounds_toArray, List.set_cons_zero, List.set_cons_succ]
      refine wpRelyE_cons2 (d := 77) rfl rfl (fun wx hC hI hd S0 hS => ?_) (fun v1 => ?_)
      · have d0 := hd ⟨0, .data⟩ (by simp) rfl v0 (by simp)
        simp only [rF] at d0
        subst d0
        have c0 := keep_cell hC x0
        have HSS := Lib.hid hS; clear hS hd hI
        go_simp
        exact HSS.out _ _ hC (rG_of _ (Below.refl _ _)) (by simp [rF])
      simp only [Act.put, List.setIfInBounds_toArray, List.set_cons_zero, List.set_cons_succ]
      refine wpRelyE_cons2 (d := 78) rfl rfl (fun wx hC hI hd S0 hS => ?_) (fun v2 => ?_)
      · have HSS := Lib.hid hS; clear hS hd hI
        go_simp
        exact HSS.out _ _ hC (rG_of _ (Below.refl _ _)) (by simp [rF])
      simp only [Act.put, List.setIfInBounds_toArray, List.set_cons_zero, List.set_cons_succ]
      refine wpRelyE_cons2 (d := 79) rfl rfl (fun wx hC hI hd S0 hS => ?_) (fun v3 => ?_)
      · have hzx := hC.size
        have HSS := Lib.hid hS; clear hS hd hI
        go_simp
        refine HSS.out _ _ (hC.trans (((Below.refl _ _).alloc (Nat.le_refl _) _).mono hC.size)) (rG_of _ ((Below.refl _ _).alloc (Nat.le_refl _) _)) ?_
        (simp only [List.nil_append, List.cons_append, List.length_cons, List.length_nil, Nat.reduceAdd, rF])
        exact Empty0.new wx _ hzx
      simp only [Act.put, List.setIfInBounds_toArray, List.set_cons_zero, List.set_cons_succ]
      refine wpRelyE_cons2 (d := 80) rfl rfl (fun wx hC hI hd S0 hS => ?_) (fun v4 => ?_)
      · have HSS := Lib.hid hS; clear hS hd hI
        go_simp
        exact HSS.out _ _ hC (rG_of _ (Below.refl _ _)) (by simp [rF])
      simp only [Act.put, List.setIfInBounds_toArray, List.set_cons_zero, List.set_cons_succ]
      refine wpRelyE_cons2 (d := 81) rfl rfl (fun wx hC hI hd S0 hS => ?_) (fun v5 => ?_)
      · have d4 := hd ⟨4, .data⟩ (by simp) rfl v4 (by simp)
        simp only [rF] at d4
        subst d4
        have c0 := keep_cell hC y0
        have HSS := Lib.hid hS; clear hS hd hI
        go_simp
        exact HSS.out _ _ hC (rG_of _ (Below.refl _ _)) (by simp [rF])
      simp only [Act.put, List.setIfInBounds_toArray, List.set_cons_zero, List.set_cons_succ]
      refine wpRelyE_cons2 (d := 82) rfl rfl (fun wx hC hI hd S0 hS => ?_) (fun v6 => ?_)
      · have HSS := Lib.hid hS; clear hS hd hI
        go_simp
        exact HSS.out _ _ hC (rG_of _ (Below.refl _ _)) (by simp [rF])
      simp only [Act.put, List.setIfInBounds_toArray, List.set_cons_zero, List.set_cons_succ]
      refine wpRelyE_cons2 (d := 83) rfl rfl (fun wx hC hI hd S0 hS => ?_) (fun v7 => ?_)
      · have d5 := hd ⟨5, .data⟩ (by simp) rfl v5 (by simp)
        simp only [rF] at d5
        subst d5
        have d6 := hd ⟨6, .data⟩ (by simp) rfl v6 (by simp)
        simp only [rF] at d6
        subst d6
        have HSS := Lib.hid hS; clear hS hd hI
        go_simp
        exact HSS.out _ _ hC (rG_of _ (Below.refl _ _)) (by simp [rF])
      simp only [Act.put, List.setIfInBounds_toArray, List.set_cons_zero, List.set_cons_succ]
      refine wpRelyE_cons2 (d := 84) rfl rfl (fun wx hC hI hd S0 hS => ?_) (fun v8 => ?_)
      · have d7 := hd ⟨7, .data⟩ (by simp) rfl v7 (by simp)
        simp only [rF] at d7
        subst d7
        have HSS := Lib.hid hS; clear hS hd hI
        go_simp
        exact HSS.out _ _ hC (rG_of _ (Below.refl _ _)) (by simp [rF])
      simp only [Act.put, List.setIfInBounds_toArray, List.set_cons_zero, List.set_cons_succ]
      refine wpRelyE_cons2 (d := 85) rfl rfl (fun wx hC hI hd S0 hS => ?_) (fun v9 => ?_)
      · have d8 := hd ⟨8, .data⟩ (by simp) rfl v8 (by simp)
        simp only [rF] at d8
        subst d8
        have c0 := keep_cell hC z0
        have HSS := Lib.hid hS; clear hS hd hI
        go_simp
        exact HSS.out _ _ hC (rG_of _ (Below.refl _ _)) (by simp [rF])
      simp only [Act.put, List.setIfInBounds_toArray, List.set_cons_zero, List.set_cons_succ]
      refine wpRelyE_cons2 (d := 86) rfl rfl (fun wx hC hI hd S0 hS => ?_) (fun v10 => ?_)
      · have d3 := hd ⟨3, .data⟩ (by simp) rfl v3 (by simp)
        simp only [rF] at d3
        have d9 := hd ⟨9, .data⟩ (by simp) rfl v9 (by simp)
        simp only [rF] at d9
        subst d9
        have hzx := hC.size
        have HSS := Lib.hid hS; clear hS hd hI
        obtain ⟨v', w', hr, h2, h3⟩ := COPY.out wx v3 hC d3
        refine wp_of_append (.tmp 79) (.tmp 85) 51 rfl rfl rfl hr ⟨put_defers' _ _ _, ?_⟩
        rw [eval_put_self (by simp)]
        refine HSS.out _ _ (hC.trans (h3.mono hC.size)) (rG_of _ h3) ?_
        (simp only [List.nil_append, List.cons_append, List.length_cons, List.length_nil, Nat.reduceAdd, rF])
        exact h2
      simp only [Act.put, List.setIfInBounds_toArray, List.set_cons_zero, List.set_cons_succ]
      refine wpRelyE_cons2 (d := 87) rfl rfl (fun wx hC hI hd S0 hS => ?_) (fun v11 => ?_)
      · have HSS := Lib.hid hS; clear hS hd hI
        go_simp
        exact HSS.out _ _ hC (rG_of _ (Below.refl _ _)) (by simp [rF])
      simp only [Act.put, List.setIfInBounds_toArray, List.set_cons_zero, List.set_cons_succ]
      refine wpRelyE_cons2 (d := 88) rfl rfl (fun wx hC hI hd S0 hS => ?_) (fun v12 => ?_)
      · have d11 := hd ⟨11, .data⟩ (by simp) rfl v11 (by simp)
        simp only [rF] at d11
        subst d11
        have HSS := Lib.hid hS; clear hS hd hI
        go_simp
        refine HSS.out _ _ hC (rG_of _ (Below.refl _ _)) ?_
        (simp only [List.nil_append, List.cons_append, List.length_cons, List.length_nil, Nat.reduceAdd, rF])
        rfl
      simp only [Act.put, List.setIfInBounds_toArray, List.set_cons_zero, List.set_cons_succ]
      refine wpRelyE_cons2 (d := 89) rfl rfl (fun wx hC hI hd S0 hS => ?_) (fun v13 => ?_)
      · have d12 := hd ⟨12, .data⟩ (by simp) rfl v12 (by simp)
        simp only [rF] at d12
        subst d12
        have HSS := Lib.hid hS; clear hS hd hI
        have h9 := run_one sty_Ask [.string nRing, .int .i64 (i : Int)] rfl (by decide) wx
        refine wp_buildOne rfl rfl h9 ⟨put_defers' _ _ _, ?_⟩
        rw [eval_put_self (by simp)]
        refine HSS.out _ _ (hC.trans (((Below.refl _ _).alloc (Nat.le_refl _) _).mono hC.size)) (rG_of _ ((Below.refl _ _).alloc (Nat.le_refl _) _)) ?_
        (simp only [List.nil_append, List.cons_append, List.length_cons, List.length_nil, Nat.reduceAdd, rF])
        exact Src.new (k := 2)
      simp only [Act.put, List.setIfInBounds_toArray, List.set_cons_zero, List.set_cons_succ]
      refine wpRelyE_cons2 (d := 90) rfl rfl (fun wx hC hI hd S0 hS => ?_) (fun v14 => ?_)
      · have d10 := hd ⟨10, .data⟩ (by simp) rfl v10 (by simp)
        simp only [rF] at d10
        have d13 := hd ⟨13, .data⟩ (by simp) rfl v13 (by simp)
        simp only [rF] at d13
        have hzx := hC.size
        have HSS := Lib.hid hS; clear hS hd hI
        obtain ⟨v', w', hr, h2, h3, h4, h5, h6⟩ := run_append_F (ty := 51) sty_Ask (E := NoT) (ys := [⟨nRing, (i : Int)⟩]) rLodAsk_goodT (fun h => h) rLodAsk_one d10 d13 (Rows.one rfl ⟨rfl, show nRing.size ≤ maxLen by decide⟩) (by have := HYL.out; simp; omega) (Nat.le_refl _) hzx
        refine wp_of_append (.tmp 86) (.tmp 89) 51 rfl rfl rfl hr ⟨put_defers' _ _ _, ?_⟩
        rw [eval_put_self (by simp)]
        refine HSS.out _ _ (hC.trans h3) (Or.inl ⟨by simp, h3⟩) ?_
        (simp only [List.nil_append, List.cons_append, List.length_cons, List.length_nil, Nat.reduceAdd, rF])
        exact h2
      simp only [Act.put, List.setIfInBounds_toArray, List.set_cons_zero, List.set_cons_succ]
      intro wF hC hF
      have f1 := hF 1 v1 (by simp) (fun j _ => by simp [rDead])
      have f2 := hF 2 v2 (by simp) (fun j _ => by simp [rDead])
      have f14 := hF 14 v14 (by simp) (fun j _ => by simp [rDead])
      simp only [rF] at f1 f2 f14
      subst f1
      subst f2
      have hsF := hC.size
      obtain ⟨g2, cap2, rfl, hg21, hg22⟩ : ∃ (g2 : Nat) (cap2 : Nat), v14 = .slice (some ⟨g2, 0, none⟩) (yl + 1) cap2 ∧ W3.heap.size ≤ g2 ∧ g2 < wF.heap.size := by
        obtain ⟨css2, _, ho⟩ := f14.sl
        obtain ⟨g, cp, e1, e2, e3, _⟩ := own_cell ho (by simp)
        have hn : (kp.fAsks ++ [(⟨nRing, (i : Int)⟩ : DLodAsk)]).length = yl + 1 := by rw [List.length_append, YH.out]; rfl
        rw [hn] at e1
        exact ⟨g, cp, e1, e2, e3⟩
      have HKF := Lib.hid (HK3.out.below hC HK3.out.lt)
      have fa1 := HKF.out.free (i * 2 + 1)
      obtain ⟨cs0, hci, hc2', hk0⟩ := HRW.out i kp HKP.out
      obtain ⟨p1, p2, rfl, t1', t2'⟩ := hk0
      have ka1 : wF.cell? ⟨ga, i * 2 + 1, none⟩ = some p2 := (HKF.out.row i _ hci).2 1 _ rfl
      have hgaF : ga < wF.heap.size := HKF.out.lt
      have x0F := keep_cell hC x0
      have y0F := keep_cell hC y0
      have hlX : wA.heap.size < wF.heap.size := by omega
      have hlP : w1.heap.size < wF.heap.size := by omega
      have hnX : wA.heap.size ≠ ga := by omega
      have hnP : w1.heap.size ≠ ga := by omega
      have HF14 := Lib.hid f14.sl
      have HB1F : Hid (Below w1.heap.size w1 wF) := Lib.hid (HB13.out.trans (hC.mono HB13.out.size))
      have HT1' := Lib.hid t1'
      have HCI := Lib.hid hci
      have HBWF : Hid (Below w.heap.size w wF) := Lib.hid (by have := HB1F.out; exact bbel)
      clear hF f14 x0 y0 z0 hci t1' t2' hc2'
      simp only [List.drop_succ_cons, List.drop_zero]
      go_wp2_with fail
      obtain ⟨W4, hW4⟩ : ∃ W, W = wF.setCell ⟨ga, i * 2 + 1, none⟩ (.slice (some ⟨g2, 0, none⟩) (yl + 1) cap2) := ⟨_, rfl⟩
      have hz4 : W4.heap.size = wF.heap.size := by rw [hW4]; simp [World.setCell]
      have hB14 : Below w1.heap.size w1 W4 := by rw [hW4]; exact HB1F.out.setCell (by show w1.heap.size ≤ ga; omega) _
      have HKW : Hid (KB W4 ga (css.set i [p1, .slice (some ⟨g2, 0, none⟩) (yl + 1) cap2])) := Lib.hid (by rw [hW4]; exact HKF.out.set (b := 1) HCI.out (by decide))
      have SA4 : Hid (Sl 2 rLodAsk 0 W4 (.slice (some ⟨g2, 0, none⟩) (yl + 1) cap2) (kp.fAsks ++ [⟨nRing, (i : Int)⟩])) := Lib.hid (by
        rw [hW4]
        refine ((HF14.out.kept (w' := wF.setCell ⟨ga, i * 2 + 1, none⟩ (.slice (some ⟨g2, 0, none⟩) (yl + 1) cap2)) (fun g cs fr hg _ _ => ?_) (fun _ _ h => h)).sl (R' := rLodAsk) fun _ _ h => h).low rLodAsk_good (Nat.zero_le _)
        cases hg
        exact Below.heap_setCell _ _ _ _ (by show g2 ≠ ga; omega))
      have SQ : Hid (Sl 2 rLodKeeper 0 W4 (.slice (some ⟨ga, 0, none⟩) fl capA) (withRing pl i kp).fKeepers) := Lib.hid (by
        refine HKW.out.sl (by simp [withRing, HFL.out]) hcA hmA fun j x hx => ?_
        rcases set_at hx with ⟨rfl, rfl⟩ | ⟨hj, hx'⟩
        · exact ⟨_, List.getElem?_set_self (by rw [HCL.out]; exact hi), _, _, rfl, HT1'.out.stays rClsClass_good (Keeps.of_below hB14), SA4.out⟩
        · obtain ⟨ds, h1, h2, h3⟩ := HRW.out j x hx'
          exact ⟨ds, by rw [List.getElem?_set_ne (by omega)]; exact h1, rLodKeeper_good.1 _ _ _ _ _ (Keeps.of_below hB14) h3⟩)
      have x4 : W4.cell? ⟨wA.heap.size, 0, none⟩ = some (.slice (some ⟨ga, 0, none⟩) fl capA) := by rw [hW4]; go_simp
      have y4 : W4.cell? ⟨w1.heap.size, 0, none⟩ = some (.slice (some ⟨b, off, none⟩) fl fc) := by rw [hW4]; go_simp
      have HBW4 : Hid (Below w.heap.size w W4) := Lib.hid (by rw [hW4]; exact HBWF.out.setCell (by show w.heap.size ≤ ga; omega) _)
      rw [← hW4]
      obtain ⟨PR1, PR2⟩ := plain_ring HOK.out HNR.out HKP.out (by have := YH.out; omega) HNEW.out
      obtain ⟨⟨rk1, rn1⟩, hj1⟩ : ∃ r : DLodRef, lodFind (withRing pl i kp) (i : Int) nRing = (r, 3) := ⟨_, by rw [← PR1]⟩
      have CX1 : Hid (∀ W, Below W4.heap.size W4 W → Calls Try.prog 29 #[.agg #[.slice (some ⟨ga, 0, none⟩) fl capA], .int .i64 (i : Int), .string nRing] W fun e w' => e = .returned (.tuple #[.agg #[.int .i64 rk1, .string rn1], .int .i64 3]) ∧ Below W.heap.size W w') := Lib.hid fun W hW => by
        have := I_LodFind (withRing pl i kp) _ (i : Int) nRing W (SQ.out.stays rLodKeeper_good (Keeps.of_below hW)) (by decide)
        rw [hj1] at this
        exact this
      have CX2 : nm ≠ nRing → Hid (∀ W, Below W4.heap.size W4 W → Calls Try.prog 29 #[.agg #[.slice (some ⟨ga, 0, none⟩) fl capA], .int .i64 (i : Int), .string nm] W fun e w' => e = .returned (.tuple #[.agg #[.int .i64 rk, .string rn], .int .i64 cd]) ∧ Below W.heap.size W w') := fun hne => Lib.hid fun W hW => by
        have := I_LodFind (withRing pl i kp) _ (i : Int) nm W (SQ.out.stays rLodKeeper_good (Keeps.of_below hW)) hn
        rw [PR2 nm hne, HJ.out] at this
        exact this
      have CY : Hid (∃ (rk2 : Int) (rn2 : ByteArray) (cd2 : Int), ∀ W, Below W4.heap.size W4 W → Calls Try.prog 29 #[.agg #[.slice (some ⟨ga, 0, none⟩) fl capA], .int .i64 (i : Int), .string nm] W fun e w' => e = .returned (.tuple #[.agg #[.int .i64 rk2, .string rn2], .int .i64 cd2]) ∧ Below W.heap.size W w') := Lib.hid (by
        obtain ⟨⟨⟨rk2, rn2⟩, cd2⟩, h2⟩ : ∃ j, lodFind (withRing pl i kp) (i : Int) nm = j := ⟨_, rfl⟩
        refine ⟨rk2, rn2, cd2, fun W hW => ?_⟩
        have := I_LodFind (withRing pl i kp) _ (i : Int) nm W (SQ.out.stays rLodKeeper_good (Keeps.of_below hW)) hn
        rw [h2] at this
        exact this)
      have HB14 := Lib.hid hB14
      have hlX4 : wA.heap.size < W4.heap.size := by omega
      have hlP4 : w1.heap.size < W4.heap.size := by omega
      have hrl : nRing = (⟨#[114, 105, 110, 103]⟩ : ByteArray) := rfl
      rw [hrl] at CX1
      clear hW4 PR1 PR2 hj1 hrl hB14 hB3 hBA hbs hb hC h1 hB2
      go_wp2_with fail
      refine (CX1.out _ (Below.refl _ _)).mono ?_
      rintro _ wG ⟨rfl, hG⟩
      have hGs := (hG).size; (try simp only [World.size_alloc, World.size_setCell, World.size_drew] at hGs)
      have hX5 : wA.heap.size < wG.heap.size := by omega
      have hP5 : w1.heap.size < wG.heap.size := by omega
      have x5 := keep_cell hG x4
      have y5 := keep_cell hG y4
      go_wp2_with fail
      refine (CI.out _ (by have hq := HB14.out; exact bbel)).mono ?_
      rintro _ wH ⟨rfl, hH⟩
      have hHs := (hH).size; (try simp only [World.size_alloc, World.size_setCell, World.size_drew] at hHs)
      have hgh : Below W4.heap.size W4 wH := bbel
      have x6 := keep_cell hgh x4
      have y6 := keep_cell hgh y4
      have hBH : Unit → Below w.heap.size w wH := fun _ => HBW4.out.trans (hgh.mono HBW4.out.size)
      have hzX6 : wA.heap.size < wH.heap.size := by omega
      have hzX7 : wA.heap.size < wH.heap.size + 1 := by omega
      clear hG hH x4 y4 x5 y5
      by_cases hnr : nm = nRing
      · have hq1 : (nm.toList == [114, 105, 110, 103]) = true := by rw [hnr, ring_list]; rfl
        obtain ⟨rk2, rn2, cd2, CYY⟩ := CY.out
        have CY2 := Lib.hid CYY
        clear CYY hnr CX2 CY
        go_wp2_with fail
        refine (CY2.out _ (bbel)).mono ?_
        rintro _ wI ⟨rfl, hI⟩
        have hIs := (hI).size; (try simp only [World.size_alloc, World.size_setCell, World.size_drew] at hIs)
        have hBI : Below w.heap.size w wI := by have hq := hBH (); clear hgh; exact bbel
        clear hI hgh
        go_wp2
        all_goals (try go_returns)
        all_goals exact HR.out _ _ ⟨rfl, bbel⟩
      · have hq1 : (nm.toList == [114, 105, 110, 103]) = false := by rw [← ring_list]; exact sameN_neR hnr
        have CX := CX2 hnr
        clear CX2 CY hnr
        go_wp2_with fail
        refine (CX.out _ (bbel)).mono ?_
        rintro _ wI ⟨rfl, hI⟩
        have hIs := (hI).size; (try simp only [World.size_alloc, World.size_setCell, World.size_drew] at hIs)
        have hBI : Below w.heap.size w wI := by have hq := hBH (); clear hgh; exact bbel
        obtain ⟨hIzd, hIzo, hIzg, hIzp, hIzx, hIzy⟩ := bf1 (n := wH.heap.size) hI
        clear hI hgh
        go_wp2
        all_goals (try go_returns)
        all_goals exact HR.out _ _ ⟨rfl, bbel⟩

end Go.Proofs.Ytcdmmnfdnmjnpaa
namespace Go.Proofs.Ytcdmmnfdnmjnpaa
open Go.ChangeShapes Go.WideShapes Go.ChangeAt Go.RowKit Go.Joins
theorem cells_u8 : Try.prog.cellsOf 5 = 1 := by kernel_rfl

set_option maxRecDepth 100000 in
theorem fnLodRing_lifted (os : Os) (started : os.Started) (H : Type) (enc : TypeId × Value → H) :
    ReturnsInHanded {} Try.checked os 7 .any (Rows.fnLodRingSpec.pre6 enc Try.prog Try.f7 Rows.fnLodRingRow.domain false) (Rows.fnLodRingSpec.post enc Try.prog Try.f7 false true false false) := by
  refine returnsInHanded_of_change (C := Try.checked) own started (by kernel_rfl) Try.func7
    (ChangeSpec.witness6 (enc := enc) (C := Try.checked) false ⟨#[], #[.slice none 0 0], []⟩ 8 (by kernel_rfl) (by kernel_rfl) (by kernel_rfl) (by kernel_rfl)) ?_
  intro W base args ds gs before hval0 hW hcnd _
  have hval : ∀ (j : Nat) t v, Try.f7.params[j]? = some t → args[j]? = some v → Value.okWide Try.prog W .any base t v := hval0
  have hW' := hW
  obtain ⟨p, q, hA0, hV, rfl, hfz, hnd⟩ := hW
  have hA : DataW.TrodAll enc Try.prog W 0 (fun _ => true) true Try.f7.params.toList args.toList ds p := hA0
  rw [Try.params7] at hA hval
  clear hA0 hval0
  obtain ⟨v0, d0, rfl, rfl, h0⟩ := trodAll_one hA
  obtain ⟨rfl, rfl⟩ := trodVars_none hV
  have b0 := open_bytes Try.underlying22 Try.underlying5 cells_u8 (hval 0 22 v0 rfl rfl) h0
  refine (L_FnLodRing v0 W b0).mono fun e W' h => ?_
  obtain ⟨rfl, hb⟩ := h
  exact ⟨_, rfl, law_post (s := Rows.fnLodRingSpec) hW' hb rfl rfl rfl Try.underlying4 (by rw [Try.params7]; kernel_rfl)⟩
theorem fnLodRing_holds : Rows.FnLodRingSaid :=
  OpenClaim.holds_of_wide 7 Try.f7 rfl rfl rfl rfl rfl rfl rfl ⟨rfl, rfl, rfl, rfl, rfl⟩ rfl rfl rfl rfl rfl (by kernel_rfl) Try.func7 (by kernel_rfl)
    (of_decide_eq_true (by kernel_rfl)) (by unfold Func.isWrapper; first | (rw [if_pos (by decide +kernel)]; kernel_rfl) | (rw [if_neg (by decide +kernel)]; exact ⟨rfl, rfl⟩))
    (fun os started H enc _ => fnLodRing_lifted os started H enc)

end Go.Proofs.Ytcdmmnfdnmjnpaa
