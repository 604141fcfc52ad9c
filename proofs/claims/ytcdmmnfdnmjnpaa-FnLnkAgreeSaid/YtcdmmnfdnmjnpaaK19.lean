/-
  Texts of mine, packed: AgreeT, PlainB, MayT. No condition beside those of the single theorems.
-/
import Derived.Test.YtcdmmnfdnmjnpaaK17
import Derived.Test.YtcdmmnfdnmjnpaaK18
set_option linter.unusedSimpArgs false
set_option linter.unusedVariables false
namespace Go.Proofs.Ytcdmmnfdnmjnpaa
open Go.RowKit
set_option maxRecDepth 100000 in
set_option maxHeartbeats 8000000 in
theorem S_LnkAgree (x : DLodPlan) (v1 : Value) (ki kj : Int) (kd : DKndKind) (w : World) (s1 : Sl 2 rLodKeeper 0 w v1 x.fKeepers) (hn : kd.fName.size ≤ maxLen) :
    Calls Try.prog 38 #[.agg #[v1], .int .i64 ki, .int .i64 kj, .agg #[.int .i64 kd.fKind, .string kd.fName]] w fun e w' => e = .returned (.bool (lnkAgree x ki kj kd)) ∧ Below w.heap.size w w' := by
  obtain ⟨a, len, cap, rfl⟩ := s1.form
  obtain ⟨hl, hcap, hm⟩ := s1.len
  have m1 : len ≤ 9223372036854775807 := by unfold maxLen at hm; omega
  have HL := Lib.hid hl
  clear hl hm hcap
  have HS := Lib.hid s1
  clear s1
  obtain ⟨z, hz⟩ : ∃ z, z = lnkAgree x ki kj kd := ⟨_, rfl⟩
  have HZ := Lib.hid hz
  rw [← hz]
  clear hz
  have LG : ∀ (k : Int) W, Calls Try.prog 57 #[.int .i64 k, .int .i64 0, .int .i64 ((len : Int) - 1)] W fun e w' => e = .returned (.bool (inPlan x k)) ∧ W = w' := fun k W => Calls.val2 (S_l1In _ _ _ W) (by
    unfold inPlan
    rw [HL.out]
    rw [show (decide (k ≤ (len : Int) - 1)) = decide (k < (len : Int)) from decide_eq_decide.2 (by omega)])
  refine calls_hide fun R HR => ?_
  go_enter Try.func38, Try.ntmps38
  go_wp2_with fail
  refine (S_LodOk x _ _ (HS.out.stays rLodKeeper_good (Keeps.of_below' (B := w.heap.size) (bbel) (Nat.le_refl _)))).mono ?_
  rintro _ wA ⟨rfl, hA⟩
  have hEA : Below w.heap.size w wA := bbel
  have hAs := (hA).size; (try simp only [World.size_alloc, World.size_setCell, World.size_drew] at hAs)
  obtain ⟨hAad, hAao, hAag, hAap, hAax, hAay, hAac1, hAaf1, hAaz1⟩ := bf2 (n := w.heap.size) hA
  cases h1 : lodOk x
  · have RV : Hid (z = false) := Lib.hid (HZ.out.trans (by unfold lnkAgree; rw [h1]; rfl))
    clear h1
    go_wp2
    all_goals (try go_returns)
    all_goals exact HR.out _ _ ⟨by rw [RV.out]; rfl, bbel⟩
  cases h2 : inPlan x ki
  · have RV : Hid (z = false) := Lib.hid (HZ.out.trans (by unfold lnkAgree; rw [h2]; simp))
    clear h1
    go_wp2_with (go_at_call 57; refine (LG _ _).mono ?_; rintro _ _ ⟨rfl, rfl⟩; try simp only [h2])
    all_goals (try go_returns)
    all_goals exact HR.out _ _ ⟨by rw [RV.out]; rfl, bbel⟩
  cases h3 : inPlan x kj
  · have RV : Hid (z = false) := Lib.hid (HZ.out.trans (by unfold lnkAgree; rw [h3]; simp))
    clear h1
    go_wp2_with (go_at_call 57; refine (LG _ _).mono ?_; rintro _ _ ⟨rfl, rfl⟩; try simp only [h2, h3])
    all_goals (try go_returns)
    all_goals exact HR.out _ _ ⟨by rw [RV.out]; rfl, bbel⟩
  have hq := h2
  unfold inPlan at hq
  simp only [Bool.and_eq_true, decide_eq_true_eq] at hq
  have hq' := h3
  unfold inPlan at hq'
  simp only [Bool.and_eq_true, decide_eq_true_eq] at hq'
  obtain ⟨i, rfl⟩ : ∃ i : Nat, ki = (i : Int) := ⟨ki.toNat, by omega⟩
  obtain ⟨j, rfl⟩ : ∃ j : Nat, kj = (j : Int) := ⟨kj.toNat, by omega⟩
  have hi : i < x.fKeepers.length := by omega
  have hj : j < x.fKeepers.length := by omega
  have HI := Lib.hid hi
  have HJ := Lib.hid hj
  have H1 := Lib.hid h1
  have HZ2 : Hid (z = (kndOk kd.fKind kd.fName && agreeP x i j kd)) := Lib.hid (HZ.out.trans (by unfold lnkAgree; rw [h1, h2, h3]; rfl))
  clear h1 hq hq' hi hj HZ
  go_wp2_with (go_at_call 57; refine (LG _ _).mono ?_; rintro _ _ ⟨rfl, rfl⟩; try simp only [h2, h3])
  clear h2 h3 LG
  refine (S_KndOk kd.fKind kd.fName _ hn).mono ?_
  rintro _ wB ⟨rfl, hB⟩
  have hEB : Below w.heap.size w wB := bbel
  have hBs := (hB).size; (try simp only [World.size_alloc, World.size_setCell, World.size_drew] at hBs)
  obtain ⟨hBbd, hBbo, hBbg, hBbp, hBbx, hBby, hBbc1, hBbf1, hBbz1⟩ := bf2 (n := w.heap.size) hB
  cases h4 : kndOk kd.fKind kd.fName
  · have RV : Hid (z = false) := Lib.hid (HZ2.out.trans (by rw [h4]; rfl))
    clear h4
    go_wp2
    all_goals (try go_returns)
    all_goals exact HR.out _ _ ⟨by rw [RV.out]; rfl, bbel⟩
  · have RV : Hid (z = agreeP x i j kd) := Lib.hid (HZ2.out.trans (by rw [h4]; rfl))
    clear h4
    go_wp2_with fail
    refine (S_l4Agree x _ i j kd _ (HS.out.stays rLodKeeper_good (Keeps.of_below hEB)) H1.out HI.out HJ.out hn).mono ?_
    rintro _ wC ⟨rfl, hC⟩
    have hCs := (hC).size; (try simp only [World.size_alloc, World.size_setCell, World.size_drew] at hCs)
    go_wp2
    all_goals (try go_returns)
    all_goals exact HR.out _ _ ⟨by rw [RV.out]; rfl, bbel⟩

set_option maxRecDepth 100000 in
set_option maxHeartbeats 8000000 in
theorem I_LnkAgree (x : DLodPlan) (v1 : Value) (ki kj : Int) (kd : DKndKind) (w : World) (s1 : Sl 2 rLodKeeper 0 w v1 x.fKeepers) (hn : kd.fName.size ≤ maxLen) :
    Calls Try.prog 37 #[.agg #[v1], .int .i64 ki, .int .i64 kj, .agg #[.int .i64 kd.fKind, .string kd.fName]] w fun e w' => e = .returned (.bool (lnkAgree x ki kj kd)) ∧ Below w.heap.size w w' := by
  obtain ⟨a, len, cap, rfl⟩ := s1.form
  have HS := Lib.hid s1
  clear s1
  obtain ⟨z, hz⟩ : ∃ z, z = lnkAgree x ki kj kd := ⟨_, rfl⟩
  have HZ := Lib.hid hz
  rw [← hz]
  clear hz
  refine calls_hide fun R HR => ?_
  go_enter Try.func37, Try.ntmps37
  go_wp2_with fail
  refine (I_newLodge x _ _ (HS.out.stays rLodKeeper_good (Keeps.of_below' (B := w.heap.size) (bbel) (Nat.le_refl _)))).mono ?_
  rintro _ wA ⟨hA, hq⟩
  have hEA : Below w.heap.size w wA := bbel
  have hAs := (hA).size; (try simp only [World.size_alloc, World.size_setCell, World.size_drew] at hAs)
  obtain ⟨hAad, hAao, hAag, hAap, hAax, hAay, hAac1, hAaf1, hAaz1⟩ := bf2 (n := w.heap.size) hA
  rcases hq with ⟨hno, rfl⟩ | ⟨hy, L, rfl, hL⟩
  · have RV : Hid (z = false) := Lib.hid (HZ.out.trans (by unfold lnkAgree; rw [hno]; rfl))
    clear hno
    go_wp2
    all_goals (try go_returns)
    all_goals exact HR.out _ _ ⟨by rw [RV.out]; rfl, bbel⟩
  obtain ⟨a2, len2, cap2, bo, ba, bl, n, c0, _, _, _, s2, _, _, _, _⟩ := id hL
  obtain ⟨hln, hcap, hm⟩ := s2.len
  have m2 : len2 ≤ 9223372036854775807 := by unfold maxLen at hm; omega
  have HLL := Lib.hid hL
  have HY := Lib.hid hy
  have LG : ∀ (k : Int), Calls Try.prog 77 #[.pointer (some ⟨L, 0, none⟩), .int .i64 k] wA fun e w' => e = .returned (.bool (inPlan x k)) ∧ wA = w' := fun k => by
    have h := I_has L k _ len2 cap2 wA c0 m2
    rw [← hln] at h
    exact h
  clear hL hy c0 s2 hln hcap hm
  cases h2 : inPlan x ki
  · have RV : Hid (z = false) := Lib.hid (HZ.out.trans (by unfold lnkAgree; rw [h2]; simp))
    go_wp2_with (go_at_call 77; refine (LG _).mono ?_; rintro _ _ ⟨rfl, rfl⟩; try simp only [h2])
    all_goals (try go_returns)
    all_goals exact HR.out _ _ ⟨by rw [RV.out]; rfl, bbel⟩
  cases h3 : inPlan x kj
  · have RV : Hid (z = false) := Lib.hid (HZ.out.trans (by unfold lnkAgree; rw [h3]; simp))
    go_wp2_with (go_at_call 77; refine (LG _).mono ?_; rintro _ _ ⟨rfl, rfl⟩; try simp only [h2, h3])
    all_goals (try go_returns)
    all_goals exact HR.out _ _ ⟨by rw [RV.out]; rfl, bbel⟩
  have hq := h2
  unfold inPlan at hq
  simp only [Bool.and_eq_true, decide_eq_true_eq] at hq
  have hq' := h3
  unfold inPlan at hq'
  simp only [Bool.and_eq_true, decide_eq_true_eq] at hq'
  obtain ⟨i, rfl⟩ : ∃ i : Nat, ki = (i : Int) := ⟨ki.toNat, by omega⟩
  obtain ⟨j, rfl⟩ : ∃ j : Nat, kj = (j : Int) := ⟨kj.toNat, by omega⟩
  have hi : i < x.fKeepers.length := by omega
  have hj : j < x.fKeepers.length := by omega
  have HI := Lib.hid hi
  have HJ := Lib.hid hj
  have HZ2 : Hid (z = (kndOk kd.fKind kd.fName && agreeP x i j kd)) := Lib.hid (HZ.out.trans (by unfold lnkAgree; rw [HY.out, h2, h3]; rfl))
  clear hq hq' hi hj HZ
  go_wp2_with (go_at_call 77; refine (LG _).mono ?_; rintro _ _ ⟨rfl, rfl⟩; try simp only [h2, h3])
  clear h2 h3 LG
  refine (I_KndOk kd.fKind kd.fName _ hn).mono ?_
  rintro _ wB ⟨rfl, hB⟩
  have hEB : Below w.heap.size w wB := bbel
  have hBs := (hB).size; (try simp only [World.size_alloc, World.size_setCell, World.size_drew] at hBs)
  obtain ⟨hBbd, hBbo, hBbg, hBbp, hBbx, hBby, hBbc1, hBbf1, hBbz1⟩ := bf2 (n := w.heap.size) hB
  cases h4 : kndOk kd.fKind kd.fName
  · have RV : Hid (z = false) := Lib.hid (HZ2.out.trans (by rw [h4]; rfl))
    clear h4
    go_wp2
    all_goals (try go_returns)
    all_goals exact HR.out _ _ ⟨by rw [RV.out]; rfl, bbel⟩
  · have RV : Hid (z = agreeP x i j kd) := Lib.hid (HZ2.out.trans (by rw [h4]; rfl))
    clear h4
    go_wp2_with fail
    refine (I_agree x L i j kd _ (HLL.out.below hB) HY.out HI.out HJ.out hn).mono ?_
    rintro _ wC ⟨rfl, hC⟩
    have hCs := (hC).size; (try simp only [World.size_alloc, World.size_setCell, World.size_drew] at hCs)
    go_wp2
    all_goals (try go_returns)
    all_goals exact HR.out _ _ ⟨by rw [RV.out]; rfl, bbel⟩

def nRing : ByteArray := tx tRing
theorem nRing_ok : namOk nRing = true := by decide
theorem by_ring {s : ByteArray} (h : s = nRing) : by' s = tRing := by rw [h]; exact by_tx _
def withRing (p : DLodPlan) (i : Nat) (k : DLodKeeper) : DLodPlan := ⟨p.fKeepers.set i ⟨k.fOwns, k.fAsks ++ [⟨nRing, (i : Int)⟩]⟩⟩
theorem withRing_len (p : DLodPlan) (i : Nat) (k : DLodKeeper) : (withRing p i k).fKeepers.length = p.fKeepers.length := by simp [withRing]
theorem withRing_at {p : DLodPlan} {i : Nat} {k : DLodKeeper} (hk : p.fKeepers[i]? = some k) (j : Nat) : (withRing p i k).fKeepers[j]? = if j = i then some ⟨k.fOwns, k.fAsks ++ [⟨nRing, (i : Int)⟩]⟩ else p.fKeepers[j]? := by
  unfold withRing
  simp only [List.getElem?_set]
  have hi := (List.getElem?_eq_some_iff.1 hk).1
  by_cases h : j = i
  · subst h; simp [hi]
  · rw [if_neg (fun e => h e.symm), if_neg h]
theorem each_imp {α : Type} {f g : Nat → α → Bool} {xs : List α} (h : each f xs = true) (hi : ∀ k x, xs[k]? = some x → f k x = true → g k x = true) : each g xs = true := each_iff.2 fun k x e => hi k x e (each_iff.1 h k x e)
theorem asks_snoc {many : Int} {xs : List DLodAsk} {a : DLodAsk} (h : each (askIn many xs) xs = true) (hn : namOk a.fName = true) (hk : 0 ≤ a.fKeeper ∧ a.fKeeper ≤ many - 1) (hnew : askAt xs a.fName < 0) : each (askIn many (xs ++ [a])) (xs ++ [a]) = true := each_iff.2 fun k x e => by
  by_cases hl : k < xs.length
  · rw [List.getElem?_append_left hl] at e
    have := each_iff.1 h k x e
    unfold askIn at this ⊢
    rwa [List.take_append_of_le_length (by omega)]
  · rw [List.getElem?_append_right (by omega)] at e
    have hk0 : k = xs.length := by
      cases hd : k - xs.length with
      | zero => omega
      | succ d => rw [hd] at e; simp at e
    subst hk0
    simp at e
    subst e
    unfold askIn
    rw [List.take_left]
    simp only [Bool.and_eq_true, decide_eq_true_eq]
    exact ⟨⟨hn, hk⟩, hnew⟩
theorem withRing_ok {p : DLodPlan} (hp : lodOk p = true) {i : Nat} {k : DLodKeeper} (hk : p.fKeepers[i]? = some k) (hl : k.fAsks.length ≠ 4) (hnew : askAt k.fAsks nRing < 0) : lodOk (withRing p i k) = true := by
  have hi := (List.getElem?_eq_some_iff.1 hk).1
  have hpl := lodOk_len hp
  refine lod_ok (K := (withRing p i k).fKeepers) (by rw [withRing_len]; exact hpl) fun x hx => ?_
  rw [withRing_len]
  obtain ⟨j, hj⟩ := List.mem_iff_getElem?.1 hx
  rw [withRing_at hk] at hj
  by_cases h : j = i
  · rw [if_pos h] at hj
    cases hj
    obtain ⟨h1, h2, h3, h4⟩ := keeperOk_parts (lodOk_keeper hp hk)
    simp only [keeperOk, Bool.and_eq_true, decide_eq_true_eq]
    refine ⟨⟨⟨h1, by rw [List.length_append]; simp; omega⟩, h3⟩, asks_snoc h4 nRing_ok ?_ hnew⟩
    show (0 : Int) ≤ (i : Int) ∧ (i : Int) ≤ (p.fKeepers.length : Int) - 1
    omega
  · rw [if_neg h] at hj
    exact lodOk_keeper hp hj
theorem asksOf_snoc (xs : List DLodAsk) (a : DLodAsk) (nm : ByteArray) : asksOf (xs ++ [a]) nm = if 0 ≤ askAt xs nm then asksOf xs nm else if sameN a.fName nm then a.fKeeper else -1 := by
  by_cases h : 0 ≤ askAt xs nm
  · rw [if_pos h]
    obtain ⟨b, h1, h2, h3, h4⟩ := asksOf_some h
    have : xs.find? (fun c => sameN c.fName nm) = some b := by rw [find_first]; show (if 0 ≤ askAt xs nm then _ else _) = _; rw [if_pos h]; exact h4
    unfold asksOf
    rw [List.find?_append, this]
    rfl
  · rw [if_neg h]
    have : xs.find? (fun c => sameN c.fName nm) = none := by rw [find_first]; show (if 0 ≤ askAt xs nm then _ else _) = _; rw [if_neg h]
    unfold asksOf
    rw [List.find?_append, this]
    cases hs : sameN a.fName nm <;> simp [hs]
theorem withRing_nxt {p : DLodPlan} {i : Nat} {k : DLodKeeper} (hk : p.fKeepers[i]? = some k) {nm : ByteArray} (hn : nm ≠ nRing) (j : Nat) : nxt (withRing p i k) nm j = nxt p nm j := by
  unfold nxt
  rw [withRing_at hk]
  by_cases h : j = i
  · subst h
    rw [if_pos rfl, hk]
    simp only
    rw [asksOf_snoc]
    by_cases ha : 0 ≤ askAt k.fAsks nm
    · rw [if_pos ha]
    · rw [if_neg ha, asksOf_none (by omega)]
      have : sameN nRing nm = false := sameN_false.2 fun e => hn e.symm
      rw [this]; rfl
  · rw [if_neg h]
theorem withRing_own {p : DLodPlan} {i : Nat} {k : DLodKeeper} (hk : p.fKeepers[i]? = some k) (nm : ByteArray) (j : Nat) : ownN (withRing p i k) nm j = ownN p nm j := by
  unfold ownN
  rw [withRing_at hk]
  by_cases h : j = i
  · subst h; rw [if_pos rfl, hk]
  · rw [if_neg h]
theorem whoseF_same {p q : DLodPlan} {nm : ByteArray} (h1 : ∀ j, nxt q nm j = nxt p nm j) (h2 : ∀ j, ownN q nm j = ownN p nm j) : ∀ f i, whoseF q nm f i = whoseF p nm f i
  | 0, _ => rfl
  | f + 1, i => by rw [whoseF, whoseF, h1, h2, whoseF_same h1 h2 f]
theorem withRing_whoseR {p : DLodPlan} {i : Nat} {k : DLodKeeper} (hk : p.fKeepers[i]? = some k) {nm : ByteArray} (hn : nm ≠ nRing) (j : Nat) : whoseR (withRing p i k) j nm = whoseR p j nm := by
  have : whose (withRing p i k) j nm = whose p j nm := whoseF_same (withRing_nxt hk hn) (withRing_own hk nm) 4 j
  unfold whoseR
  rw [this]
theorem withRing_cls {p : DLodPlan} {i : Nat} {k : DLodKeeper} (hk : p.fKeepers[i]? = some k) (r : DLodRef) : clsAt (withRing p i k) r = clsAt p r := by
  unfold clsAt
  rw [withRing_at hk]
  by_cases h : r.fKeeper.toNat = i
  · rw [if_pos h, h, hk]
  · rw [if_neg h]
theorem withRing_chain {p : DLodPlan} {i : Nat} {k : DLodKeeper} (hk : p.fKeepers[i]? = some k) (hr : NoRing p) : ∀ f r, chainF (withRing p i k) f r = chainF p f r
  | 0, _ => rfl
  | f + 1, r => by
    rw [chainF, chainF, withRing_cls hk]
    cases hc : clsAt p r with
    | none => rfl
    | some c =>
      simp only
      have hs : c.fSuper ≠ nRing := fun e => by
        obtain ⟨_, _, k', hk', hm⟩ := loOf_some hc
        exact hr k' hk' c hm (by_ring e)
      rw [withRing_whoseR hk hs, withRing_chain hk hr f]
theorem plain_ring {p : DLodPlan} (hp : lodOk p = true) (hr : NoRing p) {i : Nat} {k : DLodKeeper} (hk : p.fKeepers[i]? = some k) (hl : k.fAsks.length ≠ 4) (hnew : askAt k.fAsks nRing < 0) :
    (lodFind (withRing p i k) (i : Int) nRing).2 = 3 ∧ ∀ nm : ByteArray, nm ≠ nRing → lodFind (withRing p i k) (i : Int) nm = lodFind p (i : Int) nm := by
  have hi := (List.getElem?_eq_some_iff.1 hk).1
  have hx := withRing_ok hp hk hl hnew
  constructor
  · rw [lodFind_in hx (by rw [withRing_len]; exact hi) nRing_ok]
    have hn : nxt (withRing p i k) nRing i = (i : Int) := by
      unfold nxt
      rw [withRing_at hk, if_pos rfl]
      simp only
      rw [asksOf_snoc, if_neg (by omega), if_pos (sameN_self _)]
    have hw : whose (withRing p i k) i nRing = (3, 0) := ring_none (S := [i]) (fun s hs => by
      rw [List.mem_singleton] at hs
      subst hs
      rw [hn]
      exact ⟨by omega, by simp⟩) 4 i (by simp)
    unfold findR whoseR
    rw [hw]
    simp
  · intro nm hn
    unfold lodFind
    have hin : inPlan (withRing p i k) (i : Int) = inPlan p (i : Int) := by unfold inPlan; rw [withRing_len]
    rw [hx, hp, hin]
    split
    · unfold findR chainR
      rw [withRing_whoseR hk hn, withRing_chain hk hr]
    · rfl

theorem plain_self {owns : List DClsClass} (h0 : owns.length ≤ 5) (h : each (ownIn owns) owns = true) {j : Nat} {c : DClsClass} (hj : owns[j]? = some c) :
    lodOk ⟨[⟨owns, []⟩]⟩ = true ∧ ((lodFind ⟨[⟨owns, []⟩]⟩ 0 c.fName).2 = 1 ∧ (lodFind ⟨[⟨owns, []⟩]⟩ 0 c.fName).1 = ⟨0, c.fName⟩ ∨ (lodFind ⟨[⟨owns, []⟩]⟩ 0 c.fName).2 = 4) := by
  have hx : lodOk ⟨[⟨owns, []⟩]⟩ = true := lod_ok (by simp) fun k hk => by
    rw [List.mem_singleton] at hk
    subst hk
    simp only [keeperOk, Bool.and_eq_true, decide_eq_true_eq]
    exact ⟨⟨⟨h0, by simp⟩, h⟩, rfl⟩
  refine ⟨hx, ?_⟩
  have hok : clsOk c = true := by
    have := each_iff.1 h j c hj
    simp only [ownIn, Bool.and_eq_true] at this
    exact this.1
  have hn : namOk c.fName = true := by
    unfold clsOk at hok
    simp only [Bool.and_eq_true] at hok
    exact hok.1.1.1.1.1
  have ho : 0 ≤ ownN ⟨[⟨owns, []⟩]⟩ c.fName 0 := by
    unfold ownN
    simp only [List.getElem?_cons_zero]
    rcases firstAt_cases (fun d : DClsClass => sameN d.fName c.fName) owns with ⟨_, h2⟩ | ⟨k, x, h1, _⟩
    · have := h2 j c hj
      rw [sameN_self] at this
      cases this
    · unfold ownAt; rw [h1]; omega
  have hw : whose ⟨[⟨owns, []⟩]⟩ 0 c.fName = (1, 0) := by
    have hnx : nxt ⟨[⟨owns, []⟩]⟩ c.fName 0 < 0 := by
      unfold nxt
      simp [asksOf]
    unfold whose
    rw [whoseF, if_pos hnx, if_neg (by omega)]
  have e : lodFind ⟨[⟨owns, []⟩]⟩ 0 c.fName = findR ⟨[⟨owns, []⟩]⟩ 0 c.fName := lodFind_in hx (i := 0) (by simp) hn
  rw [e]
  unfold findR whoseR
  rw [hw]
  simp only [if_true]
  cases e : (chainR ⟨[⟨owns, []⟩]⟩ ⟨((0 : Nat) : Int), c.fName⟩).isSome
  · right; simp
  · left; simp

theorem any_ref {rs : List DLodRef} {b : DLodRef} : (rs.any fun x => refEq x b) = true ↔ b ∈ rs := by
  rw [List.any_eq_true]
  constructor
  · rintro ⟨x, hx, h⟩
    rw [refEq_iff.1 h] at hx; exact hx
  · exact fun h => ⟨b, h, refEq_self _⟩
theorem plain_under_self {p : DLodPlan} {a : DLodRef} (hn : a.fName.size ≤ maxLen) : lodUnder p a a = !(lodChain p a).isEmpty := by
  unfold lodUnder
  cases h : lodChain p a with
  | nil => rfl
  | cons x t =>
    obtain ⟨_, hr, _⟩ := plain_chain hn (by rw [h]; simp)
    obtain ⟨t', ht⟩ := chainF_head hr
    rw [h] at ht
    cases ht
    rw [any_ref.2 (by simp)]
    rfl
theorem plain_under {p : DLodPlan} {a b : DLodRef} (hn : a.fName.size ≤ maxLen) (h : lodUnder p a b = true) : ∃ k, (lodChain p a)[k]? = some b ∧ lodChain p b = (lodChain p a).drop k := by
  obtain ⟨k, hk⟩ := List.mem_iff_getElem?.1 (any_ref.1 h)
  exact ⟨k, hk, (plain_tail hn hk).2.2⟩
theorem plain_under_two {p : DLodPlan} {a b : DLodRef} (hn : a.fName.size ≤ maxLen) (hm : b.fName.size ≤ maxLen) (h : lodUnder p a b = true) (h2 : lodUnder p b a = true) : a = b := by
  obtain ⟨k, hk, ek⟩ := plain_under hn h
  obtain ⟨j, hj, ej⟩ := plain_under hm h2
  have e1 : (lodChain p b).length = (lodChain p a).length - k := by rw [ek, List.length_drop]
  have e2 : (lodChain p a).length = (lodChain p b).length - j := by rw [ej, List.length_drop]
  have h3 := (List.getElem?_eq_some_iff.1 hk).1
  have hk0 : k = 0 := by omega
  subst hk0
  have hne : lodChain p a ≠ [] := by intro e; rw [e] at hk; simp at hk
  obtain ⟨_, hr, _⟩ := plain_chain hn hne
  obtain ⟨t, ht⟩ := chainF_head hr
  rw [ht] at hk
  simpa using hk
theorem plain_under_three {p : DLodPlan} {a b : DLodRef} (hn : a.fName.size ≤ maxLen) (h : lodUnder p a b = true) : ∀ x ∈ lodChain p b, lodUnder p a x = true := by
  obtain ⟨k, hk, ek⟩ := plain_under hn h
  intro x hx
  rw [ek] at hx
  exact any_ref.2 (List.mem_of_mem_drop hx)
theorem plain_under_not {p : DLodPlan} {a b : DLodRef} (hn : a.fName.size ≤ maxLen) (h : lodUnder p a b = true) : lodChain p b ≠ [] := by
  obtain ⟨k, hk, ek⟩ := plain_under hn h
  have h3 := (List.getElem?_eq_some_iff.1 hk).1
  intro e
  have : (lodChain p b).length = (lodChain p a).length - k := by rw [ek, List.length_drop]
  rw [e] at this
  simp at this
  omega

theorem refEq_comm (a b : DLodRef) : refEq a b = refEq b a := by
  cases h : refEq b a
  · cases h2 : refEq a b
    · rfl
    · rw [refEq_iff.1 h2, refEq_self] at h; cases h
  · rw [refEq_iff.1 h, refEq_self]
theorem agreeV_comm (a b : DLodRef × Int) : agreeV a b = agreeV b a := by
  unfold agreeV
  by_cases h1 : a.2 = 1 <;> by_cases h2 : b.2 = 1 <;> simp [h1, h2, refEq_comm a.1 b.1]
theorem agreeV_trans {a b c : DLodRef × Int} (h1 : agreeV a b = true) (h2 : agreeV b c = true) : agreeV a c = true := by
  unfold agreeV at *
  by_cases ha : a.2 = 1 <;> by_cases hb : b.2 = 1 <;> by_cases hc : c.2 = 1 <;> simp [ha, hb, hc] at *
  rw [refEq_iff.1 h1, refEq_iff.1 h2, refEq_self]
theorem agreeP_comm (p : DLodPlan) (i j : Nat) (k : DKndKind) : agreeP p i j k = agreeP p j i k := by
  unfold agreeP
  by_cases h1 : k.fKind = 1
  · rw [if_pos h1, if_pos h1]
  · rw [if_neg h1, if_neg h1]
    by_cases h2 : i = j
    · rw [if_pos h2, if_pos h2.symm]
    · rw [if_neg h2, if_neg (fun e => h2 e.symm), agreeV_comm]
theorem agreeP_self (p : DLodPlan) (i : Nat) (k : DKndKind) : agreeP p i i k = true := by
  unfold agreeP
  by_cases h1 : k.fKind = 1
  · rw [if_pos h1]
  · rw [if_neg h1, if_pos rfl]
theorem agreeP_trans {p : DLodPlan} {i j l : Nat} {k : DKndKind} (h1 : agreeP p i j k = true) (h2 : agreeP p j l k = true) : agreeP p i l k = true := by
  unfold agreeP at *
  by_cases hk : k.fKind = 1
  · rw [if_pos hk]
  · rw [if_neg hk] at *
    by_cases hij : i = j
    · subst hij; exact h2
    · rw [if_neg hij] at h1
      by_cases hjl : j = l
      · subst hjl; rw [if_neg hij]; exact h1
      · rw [if_neg hjl] at h2
        by_cases hil : i = l
        · rw [if_pos hil]
        · rw [if_neg hil]; exact agreeV_trans h1 h2
theorem lnkAgree_comm (p : DLodPlan) (i j : Int) (k : DKndKind) : lnkAgree p i j k = lnkAgree p j i k := by
  unfold lnkAgree
  rw [agreeP_comm]
  cases lodOk p <;> cases inPlan p i <;> cases inPlan p j <;> simp
theorem lnkAgree_trans {p : DLodPlan} {i j l : Int} {k : DKndKind} (h1 : lnkAgree p i j k = true) (h2 : lnkAgree p j l k = true) : lnkAgree p i l k = true := by
  unfold lnkAgree at *
  simp only [Bool.and_eq_true] at *
  exact ⟨⟨⟨⟨h1.1.1.1.1, h1.1.1.1.2⟩, h2.1.1.2⟩, h1.1.2⟩, agreeP_trans h1.2 h2.2⟩
theorem lnkAgree_self {p : DLodPlan} {i : Int} {k : DKndKind} (hp : lodOk p = true) (hi : inPlan p i = true) (hk : kndOk k.fKind k.fName = true) : lnkAgree p i i k = true := by
  unfold lnkAgree
  rw [hp, hi, hk, agreeP_self]; rfl
theorem lnkAgree_num {p : DLodPlan} {i j : Int} {k : DKndKind} (hp : lodOk p = true) (hi : inPlan p i = true) (hj : inPlan p j = true) (hk : kndOk k.fKind k.fName = true) (h1 : k.fKind = 1) : lnkAgree p i j k = true := by
  unfold lnkAgree agreeP
  rw [hp, hi, hj, hk, if_pos h1]; rfl

theorem tagEq_iff {a b : DTagTag} : tagEq a b = true ↔ a = b := by
  obtain ⟨ak, an⟩ := a
  obtain ⟨bk, bn⟩ := b
  unfold tagEq
  simp only [Bool.and_eq_true, beq_iff_eq, DTagTag.mk.injEq]
  constructor
  · rintro ⟨h1, h2⟩; exact ⟨h1, sameN_iff.1 (by simpa [sameN] using h2)⟩
  · rintro ⟨h1, h2⟩; exact ⟨h1, by rw [h2]⟩
def noTag : DTagTag := ⟨0, ⟨#[]⟩⟩
def anyTag : DTagTag := ⟨3, ⟨#[]⟩⟩
theorem tagMay_self {p : DLodPlan} {k : Int} {a : DTagTag} (hp : lodOk p = true) (hi : inPlan p k = true) (ha : tagOk a.fKind a.fName = true) : tagMay p k a a = true := by
  unfold tagMay mayP
  rw [hp, hi, ha]
  simp only [Bool.and_self, Bool.true_and]
  split
  · rfl
  · rw [if_pos (tagEq_iff.2 rfl)]
theorem tagMay_none {p : DLodPlan} {k : Int} {a : DTagTag} (hp : lodOk p = true) (hi : inPlan p k = true) (ha : tagOk a.fKind a.fName = true) : tagMay p k a noTag = true := by
  have h0 : tagOk 0 ⟨#[]⟩ = true := by
    show tagOk 0 ByteArray.empty = true
    simp [tagOk]
  have h1 : tagOk noTag.fKind noTag.fName = true := h0
  unfold tagMay mayP
  rw [hp, hi, ha, h1]
  rfl
theorem tagMay_any {p : DLodPlan} {k : Int} {b : DTagTag} (hp : lodOk p = true) (hi : inPlan p k = true) (hb : tagOk b.fKind b.fName = true) (h2 : b.fKind = 2) : tagMay p k anyTag b = true := by
  have h0 : tagOk 3 ⟨#[]⟩ = true := by
    show tagOk 3 ByteArray.empty = true
    simp [tagOk]
  have h1 : tagOk anyTag.fKind anyTag.fName = true := h0
  unfold tagMay mayP
  rw [hp, hi, hb, h1, if_neg (by omega), if_pos h2]
  split
  · rfl
  · rfl
theorem mayF_trans {p : DLodPlan} {x y z : DLodRef × Int} (hn : x.1.fName.size ≤ maxLen) (hm : y.1.fName.size ≤ maxLen) (h1 : mayF p x y = true) (h2 : mayF p y z = true) : mayF p x z = true := by
  unfold mayF at *
  by_cases hx : x.2 = 1 <;> by_cases hy : y.2 = 1 <;> by_cases hz : z.2 = 1 <;> simp [hx, hy, hz] at *
  exact plain_under_three hn h1 _ (any_ref.1 h2)
theorem findR_name {p : DLodPlan} (i : Nat) (nm : ByteArray) (hn : nm.size ≤ maxLen) : (findR p i nm).1.fName.size ≤ maxLen := by
  unfold findR
  split
  · split
    · unfold whoseR
      split
      · exact hn
      · exact Nat.zero_le _
    · exact Nat.zero_le _
  · exact Nat.zero_le _
theorem tagMay_trans {p : DLodPlan} {k : Int} {a b c : DTagTag} (hn : a.fName.size ≤ maxLen) (hm : b.fName.size ≤ maxLen) (h1 : tagMay p k a b = true) (h2 : tagMay p k b c = true) : tagMay p k a c = true := by
  unfold tagMay at *
  simp only [Bool.and_eq_true] at *
  refine ⟨⟨⟨⟨h1.1.1.1.1, h1.1.1.1.2⟩, h1.1.1.2⟩, h2.1.2⟩, ?_⟩
  have m1 := h1.2
  have m2 := h2.2
  unfold mayP at *
  by_cases hc0 : c.fKind = 0
  · rw [if_pos hc0]
  rw [if_neg hc0] at *
  by_cases hb0 : b.fKind = 0
  · exfalso
    by_cases hbc : tagEq b c = true
    · have := tagEq_iff.1 hbc; rw [this] at hb0; exact hc0 hb0
    · rw [if_neg hbc] at m2
      by_cases hc2 : c.fKind = 2
      · rw [if_pos hc2, if_neg (by omega), if_neg (by omega)] at m2; cases m2
      · rw [if_neg hc2] at m2; cases m2
  rw [if_neg hb0] at m1
  by_cases hbc : tagEq b c = true
  · rw [← tagEq_iff.1 hbc]
    by_cases hab : tagEq a b = true
    · rw [if_pos hab]
    · rw [if_neg hab] at m1 ⊢
      exact m1
  rw [if_neg hbc] at m2
  by_cases hab : tagEq a b = true
  · rw [tagEq_iff.1 hab, if_neg hbc]; exact m2
  rw [if_neg hab] at m1
  by_cases hc2 : c.fKind = 2
  · rw [if_pos hc2] at m2 ⊢
    by_cases hb2 : b.fKind = 2
    · rw [if_pos hb2] at m1
      rw [if_neg (by omega), if_pos hb2] at m2
      split
      · rfl
      · by_cases ha3 : a.fKind = 3
        · rw [if_pos ha3]
        · rw [if_neg ha3] at m1 ⊢
          by_cases ha2 : a.fKind = 2
          · rw [if_pos ha2] at m1 ⊢
            exact mayF_trans (findR_name _ _ hn) (findR_name _ _ hm) m1 m2
          · rw [if_neg ha2] at m1; cases m1
    · rw [if_neg hb2] at m1; cases m1
  · rw [if_neg hc2] at m2; cases m2

set_option maxRecDepth 100000 in
set_option maxHeartbeats 8000000 in
theorem S_TagMay (x : DLodPlan) (v1 : Value) (ki : Int) (ta tb : DTagTag) (w : World) (s1 : Sl 2 rLodKeeper 0 w v1 x.fKeepers) (hna : ta.fName.size ≤ maxLen) (hnb : tb.fName.size ≤ maxLen) :
    Calls Try.prog 42 #[.agg #[v1], .int .i64 ki, .agg #[.int .i64 ta.fKind, .string ta.fName], .agg #[.int .i64 tb.fKind, .string tb.fName]] w fun e w' => e = .returned (.bool (tagMay x ki ta tb)) ∧ Below w.heap.size w w' := by
  obtain ⟨a, len, cap, rfl⟩ := s1.form
  obtain ⟨hl, hcap, hm⟩ := s1.len
  have m1 : len ≤ 9223372036854775807 := by unfold maxLen at hm; omega
  have HL := Lib.hid hl
  clear hl hm hcap
  have HS := Lib.hid s1
  clear s1
  obtain ⟨z, hz⟩ : ∃ z, z = tagMay x ki ta tb := ⟨_, rfl⟩
  have HZ := Lib.hid hz
  rw [← hz]
  clear hz
  have LG : ∀ (k : Int) W, Calls Try.prog 57 #[.int .i64 k, .int .i64 0, .int .i64 ((len : Int) - 1)] W fun e w' => e = .returned (.bool (inPlan x k)) ∧ W = w' := fun k W => Calls.val2 (S_l1In _ _ _ W) (by
    unfold inPlan
    rw [HL.out]
    rw [show (decide (k ≤ (len : Int) - 1)) = decide (k < (len : Int)) from decide_eq_decide.2 (by omega)])
  refine calls_hide fun R HR => ?_
  go_enter Try.func42, Try.ntmps42
  go_wp2_with fail
  refine (S_LodOk x _ _ (HS.out.stays rLodKeeper_good (Keeps.of_below' (B := w.heap.size) (bbel) (Nat.le_refl _)))).mono ?_
  rintro _ wA ⟨rfl, hA⟩
  have hEA : Below w.heap.size w wA := bbel
  have hAs := (hA).size; (try simp only [World.size_alloc, World.size_setCell, World.size_drew] at hAs)
  obtain ⟨hAad, hAao, hAag, hAap, hAax, hAay, hAac1, hAaf1, hAaz1, hAac2, hAaf2, hAaz2⟩ := bf3 (n := w.heap.size) hA
  cases h1 : lodOk x
  · have RV : Hid (z = false) := Lib.hid (HZ.out.trans (by unfold tagMay; rw [h1]; rfl))
    clear h1
    go_wp2
    all_goals (try go_returns)
    all_goals exact HR.out _ _ ⟨by rw [RV.out]; rfl, bbel⟩
  have H1 := Lib.hid h1
  clear h1
  cases h2 : inPlan x ki
  · have RV : Hid (z = false) := Lib.hid (HZ.out.trans (by unfold tagMay; rw [h2]; simp))
    go_wp2_with (go_at_call 57; refine (LG _ _).mono ?_; rintro _ _ ⟨rfl, rfl⟩; try simp only [h2])
    all_goals (try go_returns)
    all_goals exact HR.out _ _ ⟨by rw [RV.out]; rfl, bbel⟩
  have hq := h2
  unfold inPlan at hq
  simp only [Bool.and_eq_true, decide_eq_true_eq] at hq
  obtain ⟨i, rfl⟩ : ∃ i : Nat, ki = (i : Int) := ⟨ki.toNat, by omega⟩
  have hi : i < x.fKeepers.length := by omega
  have HI := Lib.hid hi
  have HZ2 : Hid (z = (tagOk ta.fKind ta.fName && tagOk tb.fKind tb.fName && mayP x i ta tb)) := Lib.hid (HZ.out.trans (by unfold tagMay; rw [H1.out, h2]; simp))
  clear hq hi HZ
  go_wp2_with (go_at_call 57; refine (LG _ _).mono ?_; rintro _ _ ⟨rfl, rfl⟩; try simp only [h2])
  clear h2 LG
  refine (S_TagOk ta.fKind ta.fName _ hna).mono ?_
  rintro _ wB ⟨rfl, hB⟩
  have hEB : Below w.heap.size w wB := bbel
  have hBs := (hB).size; (try simp only [World.size_alloc, World.size_setCell, World.size_drew] at hBs)
  obtain ⟨hBbd, hBbo, hBbg, hBbp, hBbx, hBby, hBbc1, hBbf1, hBbz1, hBbc2, hBbf2, hBbz2⟩ := bf3 (n := w.heap.size) hB
  cases h4 : tagOk ta.fKind ta.fName
  · have RV : Hid (z = false) := Lib.hid (HZ2.out.trans (by rw [h4]; rfl))
    clear h4
    go_wp2
    all_goals (try go_returns)
    all_goals exact HR.out _ _ ⟨by rw [RV.out]; rfl, bbel⟩
  have HZ3 : Hid (z = (tagOk tb.fKind tb.fName && mayP x i ta tb)) := Lib.hid (HZ2.out.trans (by rw [h4]; rfl))
  clear h4 HZ2
  go_wp2_with fail
  refine (S_TagOk tb.fKind tb.fName _ hnb).mono ?_
  rintro _ wC ⟨rfl, hC⟩
  have hEC : Below w.heap.size w wC := bbel
  have hCs := (hC).size; (try simp only [World.size_alloc, World.size_setCell, World.size_drew] at hCs)
  obtain ⟨hCcd, hCco, hCcg, hCcp, hCcx, hCcy, hCcc1, hCcf1, hCcz1, hCcc2, hCcf2, hCcz2⟩ := bf3 (n := w.heap.size) hC
  cases h5 : tagOk tb.fKind tb.fName
  · have RV : Hid (z = false) := Lib.hid (HZ3.out.trans (by rw [h5]; rfl))
    clear h5
    go_wp2
    all_goals (try go_returns)
    all_goals exact HR.out _ _ ⟨by rw [RV.out]; rfl, bbel⟩
  have RV : Hid (z = mayP x i ta tb) := Lib.hid (HZ3.out.trans (by rw [h5]; rfl))
  clear h5 HZ3
  go_wp2_with fail
  refine (S_l5May x _ i ta tb _ (HS.out.stays rLodKeeper_good (Keeps.of_below hEC)) H1.out HI.out hna hnb).mono ?_
  rintro _ wD ⟨rfl, hD⟩
  have hDs := (hD).size; (try simp only [World.size_alloc, World.size_setCell, World.size_drew] at hDs)
  go_wp2
  all_goals (try go_returns)
  all_goals exact HR.out _ _ ⟨by rw [RV.out]; rfl, bbel⟩

set_option maxRecDepth 100000 in
set_option maxHeartbeats 8000000 in
theorem I_TagMay (x : DLodPlan) (v1 : Value) (ki : Int) (ta tb : DTagTag) (w : World) (s1 : Sl 2 rLodKeeper 0 w v1 x.fKeepers) (hna : ta.fName.size ≤ maxLen) (hnb : tb.fName.size ≤ maxLen) :
    Calls Try.prog 41 #[.agg #[v1], .int .i64 ki, .agg #[.int .i64 ta.fKind, .string ta.fName], .agg #[.int .i64 tb.fKind, .string tb.fName]] w fun e w' => e = .returned (.bool (tagMay x ki ta tb)) ∧ Below w.heap.size w w' := by
  obtain ⟨a, len, cap, rfl⟩ := s1.form
  have HS := Lib.hid s1
  clear s1
  obtain ⟨z, hz⟩ : ∃ z, z = tagMay x ki ta tb := ⟨_, rfl⟩
  have HZ := Lib.hid hz
  rw [← hz]
  clear hz
  refine calls_hide fun R HR => ?_
  go_enter Try.func41, Try.ntmps41
  go_wp2_with fail
  refine (I_newLodge x _ _ (HS.out.stays rLodKeeper_good (Keeps.of_below' (B := w.heap.size) (bbel) (Nat.le_refl _)))).mono ?_
  rintro _ wA ⟨hA, hq⟩
  have hEA : Below w.heap.size w wA := bbel
  have hAs := (hA).size; (try simp only [World.size_alloc, World.size_setCell, World.size_drew] at hAs)
  obtain ⟨hAad, hAao, hAag, hAap, hAax, hAay, hAac1, hAaf1, hAaz1, hAac2, hAaf2, hAaz2⟩ := bf3 (n := w.heap.size) hA
  rcases hq with ⟨hno, rfl⟩ | ⟨hy, L, rfl, hL⟩
  · have RV : Hid (z = false) := Lib.hid (HZ.out.trans (by unfold tagMay; rw [hno]; rfl))
    clear hno
    go_wp2
    all_goals (try go_returns)
    all_goals exact HR.out _ _ ⟨by rw [RV.out]; rfl, bbel⟩
  obtain ⟨a2, len2, cap2, bo, ba, bl, n, c0, _, _, _, s2, _, _, _, _⟩ := id hL
  obtain ⟨hln, hcap, hm⟩ := s2.len
  have m2 : len2 ≤ 9223372036854775807 := by unfold maxLen at hm; omega
  have HLL := Lib.hid hL
  have H1 := Lib.hid hy
  have LG : ∀ (k : Int), Calls Try.prog 77 #[.pointer (some ⟨L, 0, none⟩), .int .i64 k] wA fun e w' => e = .returned (.bool (inPlan x k)) ∧ wA = w' := fun k => by
    have h := I_has L k _ len2 cap2 wA c0 m2
    rw [← hln] at h
    exact h
  clear hL hy c0 s2 hln hcap hm
  cases h2 : inPlan x ki
  · have RV : Hid (z = false) := Lib.hid (HZ.out.trans (by unfold tagMay; rw [h2]; simp))
    go_wp2_with (go_at_call 77; refine (LG _).mono ?_; rintro _ _ ⟨rfl, rfl⟩; try simp only [h2])
    all_goals (try go_returns)
    all_goals exact HR.out _ _ ⟨by rw [RV.out]; rfl, bbel⟩
  have hq := h2
  unfold inPlan at hq
  simp only [Bool.and_eq_true, decide_eq_true_eq] at hq
  obtain ⟨i, rfl⟩ : ∃ i : Nat, ki = (i : Int) := ⟨ki.toNat, by omega⟩
  have hi : i < x.fKeepers.length := by omega
  have HI := Lib.hid hi
  have HZ2 : Hid (z = (tagOk ta.fKind ta.fName && tagOk tb.fKind tb.fName && mayP x i ta tb)) := Lib.hid (HZ.out.trans (by unfold tagMay; rw [H1.out, h2]; simp))
  clear hq hi HZ
  go_wp2_with (go_at_call 77; refine (LG _).mono ?_; rintro _ _ ⟨rfl, rfl⟩; try simp only [h2])
  clear h2 LG
  refine (I_TagOk ta.fKind ta.fName _ hna).mono ?_
  rintro _ wB ⟨rfl, hB⟩
  have hEB : Below w.heap.size w wB := bbel
  have hBs := (hB).size; (try simp only [World.size_alloc, World.size_setCell, World.size_drew] at hBs)
  obtain ⟨hBbd, hBbo, hBbg, hBbp, hBbx, hBby, hBbc1, hBbf1, hBbz1, hBbc2, hBbf2, hBbz2⟩ := bf3 (n := w.heap.size) hB
  cases h4 : tagOk ta.fKind ta.fName
  · have RV : Hid (z = false) := Lib.hid (HZ2.out.trans (by rw [h4]; rfl))
    clear h4
    go_wp2
    all_goals (try go_returns)
    all_goals exact HR.out _ _ ⟨by rw [RV.out]; rfl, bbel⟩
  have HZ3 : Hid (z = (tagOk tb.fKind tb.fName && mayP x i ta tb)) := Lib.hid (HZ2.out.trans (by rw [h4]; rfl))
  clear h4 HZ2
  go_wp2_with fail
  refine (I_TagOk tb.fKind tb.fName _ hnb).mono ?_
  rintro _ wC ⟨rfl, hC⟩
  have hEC : Below w.heap.size w wC := bbel
  have hCs := (hC).size; (try simp only [World.size_alloc, World.size_setCell, World.size_drew] at hCs)
  obtain ⟨hCcd, hCco, hCcg, hCcp, hCcx, hCcy, hCcc1, hCcf1, hCcz1, hCcc2, hCcf2, hCcz2⟩ := bf3 (n := w.heap.size) hC
  cases h5 : tagOk tb.fKind tb.fName
  · have RV : Hid (z = false) := Lib.hid (HZ3.out.trans (by rw [h5]; rfl))
    clear h5
    go_wp2
    all_goals (try go_returns)
    all_goals exact HR.out _ _ ⟨by rw [RV.out]; rfl, bbel⟩
  have RV : Hid (z = mayP x i ta tb) := Lib.hid (HZ3.out.trans (by rw [h5]; rfl))
  clear h5 HZ3
  go_wp2_with fail
  refine (I_may x L i ta tb _ (HLL.out.below (hB.trans (hC.mono hB.size))) H1.out HI.out hna hnb).mono ?_
  rintro _ wD ⟨rfl, hD⟩
  have hDs := (hD).size; (try simp only [World.size_alloc, World.size_setCell, World.size_drew] at hDs)
  go_wp2
  all_goals (try go_returns)
  all_goals exact HR.out _ _ ⟨by rw [RV.out]; rfl, bbel⟩

end Go.Proofs.Ytcdmmnfdnmjnpaa
