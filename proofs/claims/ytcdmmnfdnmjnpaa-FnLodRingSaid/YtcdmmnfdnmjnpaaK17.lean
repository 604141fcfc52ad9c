/-
  Texts of mine, packed: AgreeS, Chain, Under, UnderS, MayS. No condition beside those of the single theorems.
-/
import Derived.Test.YtcdmmnfdnmjnpaaK16
import Derived.Test.YtcdmmnfdnmjnpaaK9
set_option linter.unusedSimpArgs false
set_option linter.unusedVariables false
namespace Go.Proofs.Ytcdmmnfdnmjnpaa
open Go.RowKit
@[go_sem] theorem eg_ref : Try.prog.eqGuardType Try.prog.depth 60 = false := by kernel_rfl
@[go_sem] theorem eq_ref (a c : Int) (b d : ByteArray) (w : World) : (Op.equalIn 10000 60 (.agg #[.int .i64 a, .string b]) (.agg #[.int .i64 c, .string d])).run Try.prog w = .ok (a == c && b.toList == d.toList) w := by
  have iu3 := Try.underlying3
  have ia3 := Try.isAgg3
  have iz3 := Try.sizeOf3
  have iu9 := Try.underlying9
  have ia9 := Try.isAgg9
  have iz9 := Try.sizeOf9
  have hS : Try.prog.underlying 60 = some (.struct (Try.prog.fieldsOf 60)) := by kernel_rfl
  have hp : Try.prog.stoodInHeld 60 = false := by kernel_rfl
  rw [show (10000 : Nat) = 9999 + 1 from rfl, run_equalIn_agg w 9999 60 _ _ hS hp]
  simp only [Program.fieldsOf, Try.underlying60]
  go_simp
  by_cases h1 : a = c <;> by_cases h2 : b.toList = d.toList <;> simp [h1, h2]

def refEq (a b : DLodRef) : Bool := a.fKeeper == b.fKeeper && a.fName.toList == b.fName.toList
theorem refEq_self (a : DLodRef) : refEq a a = true := by simp [refEq]
def agreeV (a b : DLodRef × Int) : Bool := if a.2 = 1 then (if b.2 = 1 then refEq a.1 b.1 else false) else (if b.2 = 1 then false else true)
theorem agreeV_self (a : DLodRef × Int) : agreeV a a = true := by
  unfold agreeV
  by_cases h : a.2 = 1
  · rw [if_pos h, if_pos h]; exact refEq_self _
  · rw [if_neg h, if_neg h]
def agreeP (p : DLodPlan) (i j : Nat) (kd : DKndKind) : Bool := if kd.fKind = 1 then true else if i = j then true else agreeV (findR p i kd.fName) (findR p j kd.fName)
def lnkAgree (p : DLodPlan) (i j : Int) (kd : DKndKind) : Bool := lodOk p && inPlan p i && inPlan p j && kndOk kd.fKind kd.fName && agreeP p i.toNat j.toNat kd

set_option maxRecDepth 100000 in
set_option maxHeartbeats 8000000 in
theorem S_l4Agree (p : DLodPlan) (v1 : Value) (i j : Nat) (kd : DKndKind) (w : World) (s1 : Sl 2 rLodKeeper 0 w v1 p.fKeepers) (hp : lodOk p = true) (hi : i < p.fKeepers.length) (hj : j < p.fKeepers.length) (hn : kd.fName.size ≤ maxLen) :
    Calls Try.prog 79 #[.agg #[v1], .int .i64 (i : Int), .int .i64 (j : Int), .agg #[.int .i64 kd.fKind, .string kd.fName]] w fun e w' => e = .returned (.bool (agreeP p i j kd)) ∧ Below w.heap.size w w' := by
  obtain ⟨a, len, cap, rfl⟩ := s1.form
  have HP := Lib.hid hp
  have HS := Lib.hid s1
  obtain ⟨z, hz⟩ : ∃ z, z = agreeP p i j kd := ⟨_, rfl⟩
  rw [← hz]
  by_cases hk : kd.fKind = 1
  · have RV : Hid (z = true) := Lib.hid (by rw [hz]; unfold agreeP; rw [if_pos hk])
    clear hz
    refine calls_hide fun R HR => ?_
    go_enter Try.func79, Try.ntmps79
    go_wp2
    all_goals (try go_returns)
    all_goals exact HR.out _ _ ⟨by rw [RV.out]; rfl, bbel⟩
  have hk2 : (kd.fKind == 1) = false := by simpa using hk
  by_cases hij : (i : Int) = (j : Int)
  · have RV : Hid (z = true) := Lib.hid (by rw [hz]; unfold agreeP; rw [if_neg hk, if_pos (by omega)])
    have hij2 : ((i : Int) == (j : Int)) = true := by simpa using hij
    clear hz
    refine calls_hide fun R HR => ?_
    go_enter Try.func79, Try.ntmps79
    go_wp2
    all_goals (try go_returns)
    all_goals exact HR.out _ _ ⟨by rw [RV.out]; rfl, bbel⟩
  have hij2 : ((i : Int) == (j : Int)) = false := by simpa using hij
  have RV : Hid (z = agreeV (findR p i kd.fName) (findR p j kd.fName)) := Lib.hid (by rw [hz]; unfold agreeP; rw [if_neg hk, if_neg (by omega)])
  clear hz
  have FA : ∀ W, Below w.heap.size w W → Calls Try.prog 76 #[.agg #[.slice a len cap], .int .i64 (i : Int), .string kd.fName] W fun e w' => e = .returned (refT (findR p i kd.fName)) ∧ Below W.heap.size W w' := fun W hW => S_l3Find p _ i kd.fName W (HS.out.stays rLodKeeper_good (Keeps.of_below hW)) HP.out hi hn
  have FB : ∀ W, Below w.heap.size w W → Calls Try.prog 76 #[.agg #[.slice a len cap], .int .i64 (j : Int), .string kd.fName] W fun e w' => e = .returned (refT (findR p j kd.fName)) ∧ Below W.heap.size W w' := fun W hW => S_l3Find p _ j kd.fName W (HS.out.stays rLodKeeper_good (Keeps.of_below hW)) HP.out hj hn
  obtain ⟨fa, hfa⟩ : ∃ fa, fa = findR p i kd.fName := ⟨_, rfl⟩
  obtain ⟨fb, hfb⟩ : ∃ fb, fb = findR p j kd.fName := ⟨_, rfl⟩
  rw [← hfa] at FA RV
  rw [← hfb] at FB RV
  clear hfa hfb
  obtain ⟨⟨ak, an⟩, ac⟩ := fa
  obtain ⟨⟨bk, bn⟩, bc⟩ := fb
  unfold refT at FA FB
  dsimp only at FA FB
  refine calls_hide fun R HR => ?_
  go_enter Try.func79, Try.ntmps79
  go_wp2_with fail
  refine (FA _ (bbel)).mono ?_
  rintro _ wA ⟨rfl, hA⟩
  have hEA : Below w.heap.size w wA := bbel
  have hAs := (hA).size; (try simp only [World.size_alloc, World.size_setCell, World.size_drew] at hAs)
  obtain ⟨hAad, hAao, hAag, hAap, hAax, hAay, hAac1, hAaf1, hAaz1⟩ := bf2 (n := w.heap.size) hA
  go_wp2_with fail
  refine (FB _ (hEA.trans (bbel))).mono ?_
  rintro _ wB ⟨rfl, hB⟩
  have hEB : Below w.heap.size w wB := bbel
  have hBs := (hB).size; (try simp only [World.size_alloc, World.size_setCell, World.size_drew] at hBs)
  obtain ⟨hBbd, hBbo, hBbg, hBbp, hBbx, hBby, hBbc1, hBbf1, hBbz1⟩ := bf2 (n := w.heap.size) hB
  obtain ⟨hBcd, hBco, hBcg, hBcp, hBcx, hBcy⟩ := bf1 (n := wA.heap.size) hB
  by_cases ha : ac = 1
  · by_cases hb : bc = 1
    · have RV2 : Hid (z = (ak == bk && an.toList == bn.toList)) := Lib.hid (by rw [RV.out]; unfold agreeV; rw [if_pos ha, if_pos hb]; rfl)
      subst ha hb
      clear RV
      go_wp2
      all_goals (try go_returns)
      all_goals exact HR.out _ _ ⟨by rw [RV2.out]; first | rfl | exact ret_bool (by simp_all), bbel⟩
    · have RV2 : Hid (z = false) := Lib.hid (by rw [RV.out]; unfold agreeV; rw [if_pos ha, if_neg hb])
      have hb2 : (bc == 1) = false := by simpa using hb
      have hb3 : (bc != 1) = true := by simpa using hb
      subst ha
      clear RV
      go_wp2
      all_goals (try go_returns)
      all_goals exact HR.out _ _ ⟨by rw [RV2.out]; rfl, bbel⟩
  · have ha2 : (ac == 1) = false := by simpa using ha
    have ha3 : (ac != 1) = true := by simpa using ha
    by_cases hb : bc = 1
    · have RV2 : Hid (z = false) := Lib.hid (by rw [RV.out]; unfold agreeV; rw [if_neg ha, if_pos hb])
      subst hb
      clear RV
      go_wp2
      all_goals (try go_returns)
      all_goals exact HR.out _ _ ⟨by rw [RV2.out]; rfl, bbel⟩
    · have RV2 : Hid (z = true) := Lib.hid (by rw [RV.out]; unfold agreeV; rw [if_neg ha, if_neg hb])
      have hb2 : (bc == 1) = false := by simpa using hb
      have hb3 : (bc != 1) = true := by simpa using hb
      clear RV
      go_wp2
      all_goals (try go_returns)
      all_goals exact HR.out _ _ ⟨by rw [RV2.out]; rfl, bbel⟩

set_option maxRecDepth 100000 in
set_option maxHeartbeats 8000000 in
theorem I_agree (p : DLodPlan) (L i j : Nat) (kd : DKndKind) (w : World) (hl : Lodge w L p) (hp : lodOk p = true) (hi : i < p.fKeepers.length) (hj : j < p.fKeepers.length) (hn : kd.fName.size ≤ maxLen) :
    Calls Try.prog 78 #[.pointer (some ⟨L, 0, none⟩), .int .i64 (i : Int), .int .i64 (j : Int), .agg #[.int .i64 kd.fKind, .string kd.fName]] w fun e w' => e = .returned (.bool (agreeP p i j kd)) ∧ Below w.heap.size w w' := by
  have HP := Lib.hid hp
  have HL := Lib.hid hl
  clear hl hp
  obtain ⟨z, hz⟩ : ∃ z, z = agreeP p i j kd := ⟨_, rfl⟩
  rw [← hz]
  by_cases hk : kd.fKind = 1
  · have RV : Hid (z = true) := Lib.hid (by rw [hz]; unfold agreeP; rw [if_pos hk])
    clear hz
    refine calls_hide fun R HR => ?_
    go_enter Try.func78, Try.ntmps78
    go_wp2
    all_goals (try go_returns)
    all_goals exact HR.out _ _ ⟨by rw [RV.out]; rfl, bbel⟩
  have hk2 : (kd.fKind == 1) = false := by simpa using hk
  have fk : ∀ q : Nat, q < p.fKeepers.length → findK p (q : Int) kd.fName = findR p q kd.fName := fun q hq => by
    unfold findK
    rw [show inPlan p (q : Int) = true by unfold inPlan; simp; omega, Int.toNat_natCast]; rfl
  have RV : Hid (z = agreeV (findR p i kd.fName) (findR p j kd.fName)) := Lib.hid (by
    rw [hz]; unfold agreeP; rw [if_neg hk]
    by_cases hij : i = j
    · rw [if_pos hij, hij, agreeV_self]
    · rw [if_neg hij])
  clear hz
  have FA : ∀ W, Below w.heap.size w W → Calls Try.prog 73 #[.pointer (some ⟨L, 0, none⟩), .int .i64 (i : Int), .string kd.fName] W fun e w' => e = .returned (refT (findR p i kd.fName)) ∧ Below W.heap.size W w' := fun W hW => by
    rw [← fk i hi]; exact I_find p L i kd.fName W (HL.out.below hW) HP.out hn
  have FB : ∀ W, Below w.heap.size w W → Calls Try.prog 73 #[.pointer (some ⟨L, 0, none⟩), .int .i64 (j : Int), .string kd.fName] W fun e w' => e = .returned (refT (findR p j kd.fName)) ∧ Below W.heap.size W w' := fun W hW => by
    rw [← fk j hj]; exact I_find p L j kd.fName W (HL.out.below hW) HP.out hn
  obtain ⟨fa, hfa⟩ : ∃ fa, fa = findR p i kd.fName := ⟨_, rfl⟩
  obtain ⟨fb, hfb⟩ : ∃ fb, fb = findR p j kd.fName := ⟨_, rfl⟩
  rw [← hfa] at FA RV
  rw [← hfb] at FB RV
  clear hfa hfb fk
  obtain ⟨⟨ak, an⟩, ac⟩ := fa
  obtain ⟨⟨bk, bn⟩, bc⟩ := fb
  unfold refT at FA FB
  dsimp only at FA FB
  refine calls_hide fun R HR => ?_
  go_enter Try.func78, Try.ntmps78
  go_wp2_with fail
  refine (FA _ (bbel)).mono ?_
  rintro _ wA ⟨rfl, hA⟩
  have hEA : Below w.heap.size w wA := bbel
  have hAs := (hA).size; (try simp only [World.size_alloc, World.size_setCell, World.size_drew] at hAs)
  obtain ⟨hAad, hAao, hAag, hAap, hAax, hAay⟩ := bf1 (n := w.heap.size) hA
  go_wp2_with fail
  refine (FB _ (hEA.trans (bbel))).mono ?_
  rintro _ wB ⟨rfl, hB⟩
  have hEB : Below w.heap.size w wB := bbel
  have hBs := (hB).size; (try simp only [World.size_alloc, World.size_setCell, World.size_drew] at hBs)
  obtain ⟨hBbd, hBbo, hBbg, hBbp, hBbx, hBby⟩ := bf1 (n := w.heap.size) hB
  obtain ⟨hBcd, hBco, hBcg, hBcp, hBcx, hBcy⟩ := bf1 (n := wA.heap.size) hB
  by_cases ha : ac = 1
  · by_cases hb : bc = 1
    · have RV2 : Hid (z = (ak == bk && an.toList == bn.toList)) := Lib.hid (by rw [RV.out]; unfold agreeV; rw [if_pos ha, if_pos hb]; rfl)
      subst ha hb
      clear RV
      go_wp2
      all_goals (try go_returns)
      all_goals exact HR.out _ _ ⟨by rw [RV2.out]; first | rfl | exact ret_bool (by simp_all), bbel⟩
    · have RV2 : Hid (z = false) := Lib.hid (by rw [RV.out]; unfold agreeV; rw [if_pos ha, if_neg hb])
      have hb2 : (bc == 1) = false := by simpa using hb
      have hb3 : (bc != 1) = true := by simpa using hb
      subst ha
      clear RV
      go_wp2
      all_goals (try go_returns)
      all_goals exact HR.out _ _ ⟨by rw [RV2.out]; rfl, bbel⟩
  · have ha2 : (ac == 1) = false := by simpa using ha
    have ha3 : (ac != 1) = true := by simpa using ha
    by_cases hb : bc = 1
    · have RV2 : Hid (z = false) := Lib.hid (by rw [RV.out]; unfold agreeV; rw [if_neg ha, if_pos hb])
      subst hb
      clear RV
      go_wp2
      all_goals (try go_returns)
      all_goals exact HR.out _ _ ⟨by rw [RV2.out]; rfl, bbel⟩
    · have RV2 : Hid (z = true) := Lib.hid (by rw [RV.out]; unfold agreeV; rw [if_neg ha, if_neg hb])
      have hb2 : (bc == 1) = false := by simpa using hb
      have hb3 : (bc != 1) = true := by simpa using hb
      clear RV
      go_wp2
      all_goals (try go_returns)
      all_goals exact HR.out _ _ ⟨by rw [RV2.out]; rfl, bbel⟩

def lodChain (p : DLodPlan) (r : DLodRef) : List DLodRef := if (lodFind p r.fKeeper r.fName).2 = 1 then (if refEq (lodFind p r.fKeeper r.fName).1 r then (chainR p r).getD [] else []) else []
def lodUnder (p : DLodPlan) (a b : DLodRef) : Bool := (lodChain p a).any fun x => refEq x b
theorem refEq_iff {a b : DLodRef} : refEq a b = true ↔ a = b := by
  obtain ⟨ak, an⟩ := a
  obtain ⟨bk, bn⟩ := b
  unfold refEq
  simp only [Bool.and_eq_true, beq_iff_eq, DLodRef.mk.injEq]
  constructor
  · rintro ⟨h1, h2⟩; exact ⟨h1, sameN_iff.1 (by simpa [sameN] using h2)⟩
  · rintro ⟨h1, h2⟩; exact ⟨h1, by rw [h2]⟩
theorem findR_there {p : DLodPlan} (h : lodOk p = true) {i : Nat} {nm : ByteArray} (hi : i < p.fKeepers.length) (hn : nm.size ≤ maxLen) (hc : (findR p i nm).2 = 1) : ∃ j : Nat, findR p i nm = (⟨(j : Int), nm⟩, 1) ∧ There p ⟨(j : Int), nm⟩ ∧ ∃ rs, chainR p ⟨(j : Int), nm⟩ = some rs := by
  unfold findR at hc ⊢
  by_cases h1 : (whoseR p i nm).2 = 1
  · obtain ⟨j, he, h2, h3⟩ := whoseR_there h hi h1
    rw [if_pos h1] at hc ⊢
    cases e : chainR p (whoseR p i nm).1 with
    | none => rw [e] at hc; simp at hc
    | some rs =>
      rw [he] at e
      exact ⟨j, by simp [he], ⟨j, rfl, h2, h3, hn⟩, rs, e⟩
  · rw [if_neg h1] at hc
    exact absurd hc h1
theorem lodFind_there {p : DLodPlan} {k : Int} {nm : ByteArray} (hn : nm.size ≤ maxLen) (hc : (lodFind p k nm).2 = 1) : lodOk p = true ∧ ∃ j : Nat, lodFind p k nm = (⟨(j : Int), nm⟩, 1) ∧ There p ⟨(j : Int), nm⟩ ∧ ∃ rs, chainR p ⟨(j : Int), nm⟩ = some rs := by
  unfold lodFind at hc ⊢
  by_cases h1 : (lodOk p && inPlan p k && namOk nm) = true
  · rw [if_pos h1] at hc ⊢
    simp only [Bool.and_eq_true] at h1
    have h2 := h1.1.2
    unfold inPlan at h2
    simp only [Bool.and_eq_true, decide_eq_true_eq] at h2
    exact ⟨h1.1.1, findR_there h1.1.1 (by omega) hn hc⟩
  · rw [if_neg h1] at hc; simp at hc
theorem lodChain_there {p : DLodPlan} {r : DLodRef} (hn : r.fName.size ≤ maxLen) (h1 : (lodFind p r.fKeeper r.fName).2 = 1) (h2 : refEq (lodFind p r.fKeeper r.fName).1 r = true) : There p r ∧ ∃ rs, chainR p r = some rs ∧ lodChain p r = rs := by
  obtain ⟨_, j, he, ht, rs, hr⟩ := lodFind_there hn h1
  have e : (⟨(j : Int), r.fName⟩ : DLodRef) = r := by
    have := refEq_iff.1 h2
    rw [he] at this
    exact this
  rw [e] at ht hr
  refine ⟨ht, rs, hr, ?_⟩
  unfold lodChain
  rw [if_pos h1, if_pos h2, hr]; rfl

set_option maxRecDepth 100000 in
set_option maxHeartbeats 8000000 in
theorem I_chain (p : DLodPlan) (L : Nat) (r : DLodRef) (w : World) (hl : Lodge w L p) (hp : lodOk p = true) (hn : r.fName.size ≤ maxLen) :
    Calls Try.prog 75 #[.pointer (some ⟨L, 0, none⟩), .agg #[.int .i64 r.fKeeper, .string r.fName]] w fun e w' => (∃ v, e = .returned v ∧ Refs w' w.heap.size v (lodChain p r)) ∧ Below w.heap.size w w' := by
  have HP := Lib.hid hp
  have HL := Lib.hid hl
  clear hl hp
  obtain ⟨jw, hjw⟩ : ∃ jw, jw = lodFind p r.fKeeper r.fName := ⟨_, rfl⟩
  have FA : ∀ W, Below w.heap.size w W → Calls Try.prog 73 #[.pointer (some ⟨L, 0, none⟩), .int .i64 r.fKeeper, .string r.fName] W fun e w' => e = .returned (refT jw) ∧ Below W.heap.size W w' := fun W hW => by
    rw [hjw, lodFind_findK HP.out]; exact I_find p L r.fKeeper r.fName W (HL.out.below hW) HP.out hn
  have HJ := Lib.hid hjw
  clear hjw
  obtain ⟨⟨ak, an⟩, ac⟩ := jw
  unfold refT at FA
  dsimp only at FA
  obtain ⟨rk, rn⟩ := r
  dsimp only at FA hn ⊢
  refine calls_hide fun R HR => ?_
  go_enter Try.func75, Try.ntmps75
  go_wp2_with fail
  refine (FA _ (bbel)).mono ?_
  rintro _ wA ⟨rfl, hA⟩
  have hEA : Below w.heap.size w wA := bbel
  have hAs := (hA).size; (try simp only [World.size_alloc, World.size_setCell, World.size_drew] at hAs)
  obtain ⟨hAad, hAao, hAag, hAap, hAax, hAay⟩ := bf1 (n := w.heap.size) hA
  by_cases ha : ac = 1
  · obtain ⟨q, hq⟩ : ∃ q, q = (ak == rk && an.toList == rn.toList) := ⟨_, rfl⟩
    cases q
    · have NO : Hid (lodChain p ⟨rk, rn⟩ = []) := Lib.hid (by
        unfold lodChain
        dsimp only
        rw [← HJ.out]
        rw [if_pos ha, if_neg (show ¬ refEq ⟨ak, an⟩ ⟨rk, rn⟩ = true by unfold refEq; dsimp only; rw [← hq]; simp)])
      have hq2 := hq.symm
      clear hq HJ
      subst ha
      go_wp2
      all_goals first
        | (exfalso; simp_all; done)
        | skip
      all_goals (try go_returns)
      all_goals exact HR.out _ _ ⟨⟨_, rfl, by rw [NO.out]; exact ⟨rfl, Or.inl ⟨rfl, rfl⟩⟩⟩, bbel⟩
    · obtain ⟨TH, rs, hrs, hcs⟩ := lodChain_there (p := p) (r := ⟨rk, rn⟩) hn (by rw [← HJ.out]; exact ha) (by rw [← HJ.out]; exact hq.symm)
      have hsame : (⟨ak, an⟩ : DLodRef) = ⟨rk, rn⟩ := refEq_iff.1 hq.symm
      obtain ⟨rfl, rfl⟩ : ak = rk ∧ an = rn := by cases hsame; exact ⟨rfl, rfl⟩
      have HTH := Lib.hid TH
      have HRS := Lib.hid hrs
      have HCS := Lib.hid hcs
      subst ha
      clear hq HJ TH hrs hcs hsame
      go_wp2_with fail
      refine (I_climb p L ⟨ak, an⟩ _ (HL.out.below (hEA.trans (bbel))) HP.out HTH.out).mono ?_
      rintro _ wB ⟨hB, v, rfl, hv⟩
      have hR := hv rs HRS.out
      have HRR : Hid (Refs wB w.heap.size v (lodChain p ⟨ak, an⟩)) := Lib.hid (by rw [HCS.out]; exact hR.low (by simp; omega))
      have hBs := hB.size
      simp only [World.size_alloc] at hBs
      have hEB : Below w.heap.size w wB := bbel
      clear hv hR hB
      rw [show (chainR p ⟨ak, an⟩).isSome = true by rw [HRS.out]; rfl]
      go_wp2
      all_goals (try go_returns)
      all_goals exact HR.out _ _ ⟨⟨_, rfl, HRR.out⟩, hEB⟩
  · have NO : Hid (lodChain p ⟨rk, rn⟩ = []) := Lib.hid (by
      unfold lodChain
      dsimp only
      rw [← HJ.out]
      rw [if_neg ha])
    have ha2 : (ac == 1) = false := by simpa using ha
    have ha3 : (ac != 1) = true := by simpa using ha
    clear HJ
    go_wp2
    all_goals (try go_returns)
    all_goals exact HR.out _ _ ⟨⟨_, rfl, by rw [NO.out]; exact ⟨rfl, Or.inl ⟨rfl, rfl⟩⟩⟩, bbel⟩

theorem flatR_at : ∀ {rs : List DLodRef} {k : Nat} {x : DLodRef}, rs[k]? = some x → (flatR rs)[k * 2]? = some (.int .i64 x.fKeeper) ∧ (flatR rs)[k * 2 + 1]? = some (.string x.fName)
  | [], k, x, h => by simp at h
  | y :: rs, 0, x, h => by simp at h; subst h; simp [flatR]
  | y :: rs, k + 1, x, h => by
    have h' : rs[k]? = some x := by simpa using h
    have := flatR_at h'
    rw [show (k + 1) * 2 = k * 2 + 2 by omega]
    simpa [flatR] using this
theorem Refs.cell2 {w : World} {base g n cap : Nat} {rs : List DLodRef} (h : Refs w base (.slice (some ⟨g, 0, none⟩) n cap) rs) {k : Nat} {x : DLodRef} (hk : rs[k]? = some x) : w.cell? ⟨g, k * 2, none⟩ = some (.int .i64 x.fKeeper) ∧ w.cell? ⟨g, k * 2 + 1, none⟩ = some (.string x.fName) := by
  obtain ⟨h1, h2⟩ := flatR_at hk
  have e1 := World.ownsRow.cells h (g := g) rfl _ _ h1
  have e2 := World.ownsRow.cells h (g := g) rfl _ _ h2
  rw [Addr.add_mid, Nat.zero_add] at e1 e2
  exact ⟨e1, e2⟩
theorem any_not {rs : List DLodRef} {b : DLodRef} {k : Nat} (h : EachTo (nots fun x => refEq x b) rs k = true) (hk : rs.length ≤ k) : rs.any (fun x => refEq x b) = false := by
  rw [Bool.eq_false_iff]
  intro hq
  obtain ⟨x, hx, hb⟩ := List.any_eq_true.1 hq
  obtain ⟨j, hj⟩ := List.mem_iff_getElem?.1 hx
  have := EachTo.mem h j x (by have := (List.getElem?_eq_some_iff.1 hj).1; omega) hj
  simp [nots, hb] at this

set_option maxRecDepth 100000 in
set_option maxHeartbeats 8000000 in
theorem I_under (p : DLodPlan) (L : Nat) (r b : DLodRef) (w : World) (hl : Lodge w L p) (hp : lodOk p = true) (hn : r.fName.size ≤ maxLen) :
    Calls Try.prog 85 #[.pointer (some ⟨L, 0, none⟩), .agg #[.int .i64 r.fKeeper, .string r.fName], .agg #[.int .i64 b.fKeeper, .string b.fName]] w fun e w' => e = .returned (.bool (lodUnder p r b)) ∧ Below w.heap.size w w' := by
  have HP := Lib.hid hp
  have HL := Lib.hid hl
  clear hl hp
  refine calls_hide fun R HR => ?_
  go_enter Try.func85, Try.ntmps85
  go_wp2_with fail
  refine (I_chain p L r _ (HL.out.below (bbel)) HP.out hn).mono ?_
  rintro _ wA ⟨⟨v, rfl, hR⟩, hA⟩
  have hEA : Below w.heap.size w wA := bbel
  have hAs := (hA).size; (try simp only [World.size_alloc, World.size_setCell, World.size_drew] at hAs)
  obtain ⟨hAad, hAao, hAag, hAap, hAax, hAay, hAac1, hAaf1, hAaz1⟩ := bf2 (n := w.heap.size) hA
  obtain ⟨rs, hrs⟩ : ∃ rs, rs = lodChain p r := ⟨_, rfl⟩
  have RV : Hid (lodUnder p r b = rs.any fun x => refEq x b) := Lib.hid (by rw [hrs]; rfl)
  rw [← hrs] at hR
  have u0 : wA.cell? ⟨w.heap.size + 1, 0, none⟩ = some (.int .i64 b.fKeeper) := by go_simp
  have u1 : wA.cell? ⟨w.heap.size + 1, 1, none⟩ = some (.string b.fName) := by go_simp
  obtain ⟨va, vc, rfl⟩ := hR.form0
  obtain ⟨n, hnl⟩ : ∃ n, n = rs.length := ⟨_, rfl⟩
  rw [← hnl]
  have HN := Lib.hid hnl
  have RR := Lib.hid hR
  have U0 := Lib.hid u0
  have U1 := Lib.hid u1
  clear hrs hR hnl u0 u1
  have hwA := block_lt_of_cell U0.out
  clear hAad hAag hAax hAay hAao hAap
  go_wp2_with fail
  go_loopw [13] (fun z wr => ∃ k : Nat, k ≤ n ∧ z = .int .i64 k ∧ EachTo (nots fun x => refEq x b) rs k = true ∧ Below wA.heap.size wA wr) (fun z _ => n - (intOf z).toNat)
  case atStart => exact ⟨0, Nat.zero_le _, rfl, rfl, Below.refl _ _⟩
  case round =>
    obtain ⟨k, hk, rfl, hqa, hb⟩ := hrel
    have HQ := Lib.hid hqa
    have hbs := hb.size
    clear hqa
    have y0 := keep_cell hb U0.out
    have y1 := keep_cell hb U1.out
    by_cases hlt : k < n
    · obtain ⟨⟨xk, xn⟩, hx⟩ : ∃ x, rs[k]? = some x := ⟨_, List.getElem?_eq_getElem (by rw [← HN.out]; exact hlt)⟩
      obtain ⟨g, rc, he, hgb, hgn, hgm, hgl⟩ := RR.out.form (by rw [← HN.out]; omega)
      rw [← HN.out] at he
      cases he
      obtain ⟨e0, e1⟩ := (RR.out.below hb).cell2 (by exact hx)
      have X := Lib.hid hx
      clear hx
      dsimp only at e0 e1
      obtain ⟨bk, bn⟩ := b
      dsimp only at y0 y1
      have hbl := block_lt_of_cell y0
      have hgr : g < wr.heap.size := block_lt_of_cell e0
      have hEr : Below w.heap.size w wr := hEA.trans (hb.mono hEA.size)
      have hErs := hEr.size
      have hn63 : k + 1 ≤ 9223372036854775807 := by have := HN.out; unfold maxLen at hgm; omega
      cases hq : refEq ⟨xk, xn⟩ ⟨bk, bn⟩
      · have HF := Lib.hid hq
        have hq2 : (xk == bk && xn.toList == bn.toList) = false := hq
        clear hq
        go_wp2
        all_goals first
          | (exfalso; simp_all; done)
          | skip
        all_goals
          go_roundw
          case measure => simp [intOf]; omega
          case rel => exact ⟨k + 1, by omega, by go_num, EachTo.step HQ.out X.out (by simp [nots, HF.out]), hb.alloc hbs _⟩
      · have heq := refEq_iff.1 hq
        obtain ⟨rfl, rfl⟩ : xk = bk ∧ xn = bn := by cases heq; exact ⟨rfl, rfl⟩
        have RV2 : Hid (lodUnder p r ⟨xk, xn⟩ = true) := Lib.hid (by rw [RV.out]; exact List.any_eq_true.2 ⟨_, List.mem_of_getElem? X.out, hq⟩)
        clear heq hq
        go_wp2
        all_goals (try go_returns)
        all_goals exact HR.out _ _ ⟨by first | (rw [RV2.out]; done) | (rw [RV2.out]; rfl), hEr.alloc hErs _⟩
    · obtain rfl : k = n := by omega
      have RV2 : Hid (lodUnder p r b = false) := Lib.hid (by rw [RV.out]; exact any_not HQ.out (by rw [← HN.out]; exact Nat.le_refl _))
      go_wp2
      all_goals (try go_returns)
      all_goals exact HR.out _ _ ⟨by rw [RV2.out]; rfl, hEA.trans (hb.mono hEA.size)⟩

theorem lodUnder_no {p : DLodPlan} (h : lodOk p = false) (r b : DLodRef) : lodUnder p r b = false := by
  unfold lodUnder lodChain
  rw [lodFind_no h]; rfl

set_option maxRecDepth 100000 in
set_option maxHeartbeats 8000000 in
theorem I_LodUnder (x : DLodPlan) (v1 : Value) (r b : DLodRef) (w : World) (s1 : Sl 2 rLodKeeper 0 w v1 x.fKeepers) (hn : r.fName.size ≤ maxLen) :
    Calls Try.prog 45 #[.agg #[v1], .agg #[.int .i64 r.fKeeper, .string r.fName], .agg #[.int .i64 b.fKeeper, .string b.fName]] w fun e w' => e = .returned (.bool (lodUnder x r b)) ∧ Below w.heap.size w w' := by
  obtain ⟨a, len, cap, rfl⟩ := s1.form
  obtain ⟨z, hz⟩ : ∃ z, z = lodUnder x r b := ⟨_, rfl⟩
  have HZ := Lib.hid hz
  rw [← hz]
  refine calls_hide fun R HR => ?_
  go_enter Try.func45, Try.ntmps45
  go_wp2_with fail
  refine (I_newLodge x _ _ (s1.stays rLodKeeper_good (Keeps.of_below' (B := w.heap.size) (bbel) (Nat.le_refl _)))).mono ?_
  rintro _ wA ⟨hA, hq⟩
  have hEA : Below w.heap.size w wA := bbel
  have hAs := (hA).size; (try simp only [World.size_alloc, World.size_setCell, World.size_drew] at hAs)
  obtain ⟨hAad, hAao, hAag, hAap, hAax, hAay, hAac1, hAaf1, hAaz1, hAac2, hAaf2, hAaz2⟩ := bf3 (n := w.heap.size) hA
  rcases hq with ⟨hno, rfl⟩ | ⟨hy, L, rfl, hL⟩
  · have RV : Hid (z = false) := Lib.hid (HZ.out.trans (lodUnder_no hno r b))
    clear hno hz
    go_wp2
    all_goals (try go_returns)
    all_goals exact HR.out _ _ ⟨by rw [RV.out]; rfl, bbel⟩
  · have HL := Lib.hid hL
    have HY := Lib.hid hy
    clear hL hy hz
    go_wp2_with fail
    refine (I_under x L r b _ HL.out HY.out hn).mono ?_
    rintro _ wB ⟨rfl, hB⟩
    have hBs := (hB).size; (try simp only [World.size_alloc, World.size_setCell, World.size_drew] at hBs)
    go_wp2
    all_goals (try go_returns)
    all_goals exact HR.out _ _ ⟨by rw [HZ.out]; rfl, bbel⟩

set_option maxRecDepth 100000 in
set_option maxHeartbeats 8000000 in
theorem S_LodChain (x : DLodPlan) (v1 : Value) (r : DLodRef) (w : World) (s1 : Sl 2 rLodKeeper 0 w v1 x.fKeepers) (hn : r.fName.size ≤ maxLen) :
    Calls Try.prog 49 #[.agg #[v1], .agg #[.int .i64 r.fKeeper, .string r.fName]] w fun e w' => (∃ v, e = .returned v ∧ Refs w' w.heap.size v (lodChain x r)) ∧ Below w.heap.size w w' := by
  obtain ⟨a, len, cap, rfl⟩ := s1.form
  have HS := Lib.hid s1
  clear s1
  obtain ⟨jw, hjw⟩ : ∃ jw, jw = lodFind x r.fKeeper r.fName := ⟨_, rfl⟩
  have FA : ∀ W, Below w.heap.size w W → Calls Try.prog 35 #[.agg #[.slice a len cap], .int .i64 r.fKeeper, .string r.fName] W fun e w' => e = .returned (refT jw) ∧ Below W.heap.size W w' := fun W hW => by
    rw [hjw]; exact S_LodFind x _ r.fKeeper r.fName W (HS.out.stays rLodKeeper_good (Keeps.of_below hW)) hn
  have HJ := Lib.hid hjw
  clear hjw
  obtain ⟨⟨ak, an⟩, ac⟩ := jw
  unfold refT at FA
  dsimp only at FA
  obtain ⟨rk, rn⟩ := r
  dsimp only at FA hn ⊢
  refine calls_hide fun R HR => ?_
  go_enter Try.func49, Try.ntmps49
  go_wp2_with fail
  refine (FA _ (bbel)).mono ?_
  rintro _ wA ⟨rfl, hA⟩
  have hEA : Below w.heap.size w wA := bbel
  have hAs := (hA).size; (try simp only [World.size_alloc, World.size_setCell, World.size_drew] at hAs)
  obtain ⟨hAad, hAao, hAag, hAap, hAax, hAay, hAac1, hAaf1, hAaz1⟩ := bf2 (n := w.heap.size) hA
  by_cases ha : ac = 1
  · obtain ⟨q, hq⟩ : ∃ q, q = (ak == rk && an.toList == rn.toList) := ⟨_, rfl⟩
    cases q
    · have NO : Hid (lodChain x ⟨rk, rn⟩ = []) := Lib.hid (by
        unfold lodChain
        dsimp only
        rw [← HJ.out]
        rw [if_pos ha, if_neg (show ¬ refEq ⟨ak, an⟩ ⟨rk, rn⟩ = true by unfold refEq; dsimp only; rw [← hq]; simp)])
      have hq2 := hq.symm
      clear hq HJ
      subst ha
      go_wp2
      all_goals first
        | (exfalso; simp_all; done)
        | skip
      all_goals (try go_returns)
      all_goals exact HR.out _ _ ⟨⟨_, rfl, by rw [NO.out]; exact ⟨rfl, Or.inr ⟨_, 0, #[], rfl, by omega, heap_top (by simp), Nat.le_refl _, by decide, rfl, rfl⟩⟩⟩, bbel⟩
    · obtain ⟨TH, rs, hrs, hcs⟩ := lodChain_there (p := x) (r := ⟨rk, rn⟩) hn (by rw [← HJ.out]; exact ha) (by rw [← HJ.out]; exact hq.symm)
      have hok := (lodFind_there (p := x) (k := rk) (nm := rn) hn (by have := HJ.out; rw [← this]; exact ha)).1
      have hsame : (⟨ak, an⟩ : DLodRef) = ⟨rk, rn⟩ := refEq_iff.1 hq.symm
      obtain ⟨rfl, rfl⟩ : ak = rk ∧ an = rn := by cases hsame; exact ⟨rfl, rfl⟩
      have HTH := Lib.hid TH
      have HRS := Lib.hid hrs
      have HCS := Lib.hid hcs
      have HOK := Lib.hid hok
      subst ha
      clear hq HJ TH hrs hcs hsame hok
      go_wp2_with fail
      refine (S_l3Chain x _ ⟨ak, an⟩ _ (HS.out.stays rLodKeeper_good (Keeps.of_below (hEA.trans (bbel)))) HOK.out HTH.out).mono ?_
      rintro _ wB ⟨hB, v, rfl, hv⟩
      have hR := hv rs HRS.out
      have HRR : Hid (Refs wB w.heap.size v (lodChain x ⟨ak, an⟩)) := Lib.hid (by rw [HCS.out]; exact hR.low (by simp; omega))
      have hBs := hB.size
      simp only [World.size_alloc] at hBs
      have hEB : Below w.heap.size w wB := bbel
      clear hv hR hB
      rw [show (chainR x ⟨ak, an⟩).isSome = true by rw [HRS.out]; rfl]
      go_wp2
      all_goals (try go_returns)
      all_goals exact HR.out _ _ ⟨⟨_, rfl, HRR.out⟩, hEB⟩
  · have NO : Hid (lodChain x ⟨rk, rn⟩ = []) := Lib.hid (by
      unfold lodChain
      dsimp only
      rw [← HJ.out]
      rw [if_neg ha])
    have ha2 : (ac == 1) = false := by simpa using ha
    have ha3 : (ac != 1) = true := by simpa using ha
    clear HJ
    go_wp2
    all_goals (try go_returns)
    all_goals exact HR.out _ _ ⟨⟨_, rfl, by rw [NO.out]; exact ⟨rfl, Or.inr ⟨_, 0, #[], rfl, by omega, heap_top (by simp), Nat.le_refl _, by decide, rfl, rfl⟩⟩⟩, bbel⟩

set_option maxRecDepth 100000 in
set_option maxHeartbeats 8000000 in
theorem S_l3Has (rs : List DLodRef) (v : Value) (base : Nat) (b : DLodRef) (w : World) (hR : Refs w base v rs) :
    Calls Try.prog 86 #[v, .agg #[.int .i64 b.fKeeper, .string b.fName]] w fun e w' => e = .returned (.bool (rs.any fun x => refEq x b)) ∧ Below w.heap.size w w' := by
  obtain ⟨va, vc, rfl⟩ := hR.form0
  obtain ⟨n, hnl⟩ : ∃ n, n = rs.length := ⟨_, rfl⟩
  rw [← hnl] at hR ⊢
  have HN := Lib.hid hnl
  have RR := Lib.hid hR
  obtain ⟨z, hz⟩ : ∃ z, z = rs.any fun x => refEq x b := ⟨_, rfl⟩
  have HZ := Lib.hid hz
  rw [← hz]
  clear hnl hR hz
  obtain ⟨bk, bn⟩ := b
  dsimp only
  refine calls_hide fun R HR => ?_
  go_enter Try.func86, Try.ntmps86
  go_wp2_with fail
  go_loopw [5] (fun z wr => ∃ k : Nat, k ≤ n ∧ z = .int .i64 k ∧ EachTo (nots fun x => refEq x ⟨bk, bn⟩) rs k = true ∧ Below w.heap.size w wr ∧ wr.cell? ⟨w.heap.size, 0, none⟩ = some (.int .i64 bk) ∧ wr.cell? ⟨w.heap.size, 1, none⟩ = some (.string bn)) (fun z _ => n - (intOf z).toNat)
  case atStart => exact ⟨0, Nat.zero_le _, rfl, rfl, bbel, by go_simp, by go_simp⟩
  case round =>
    obtain ⟨k, hk, rfl, hqa, hb, y0, y1⟩ := hrel
    have HQ := Lib.hid hqa
    have hbs := hb.size
    clear hqa
    by_cases hlt : k < n
    · obtain ⟨⟨xk, xn⟩, hx⟩ : ∃ x, rs[k]? = some x := ⟨_, List.getElem?_eq_getElem (by rw [← HN.out]; exact hlt)⟩
      have hR2 := RR.out
      rw [HN.out] at hR2
      obtain ⟨g, rc, he, hgb, hgn, hgm, hgl⟩ := hR2.form (by rw [← HN.out]; omega)
      rw [← HN.out] at he
      cases he
      obtain ⟨e0, e1⟩ := (RR.out.below hb).cell2 (by exact hx)
      have X := Lib.hid hx
      clear hx hR2
      dsimp only at e0 e1
      have hgr : g < wr.heap.size := block_lt_of_cell e0
      have hwr : w.heap.size < wr.heap.size := block_lt_of_cell y0
      have hn63 : k + 1 ≤ 9223372036854775807 := by have := HN.out; unfold maxLen at hgm; omega
      cases hq : refEq ⟨xk, xn⟩ ⟨bk, bn⟩
      · have HF := Lib.hid hq
        have hq2 : (xk == bk && xn.toList == bn.toList) = false := hq
        clear hq
        have bo : ∀ W, (binOp .eql 60 (.agg #[.int .i64 xk, .string xn]) (.agg #[.int .i64 bk, .string bn])).run Try.prog W = .ok (.bool false) W := fun W => by
          simp only [run_eql_struct, eq_ref, hq2]
          try simp [Result.andThen]
        clear hq2
        go_wp2_with fail
        go_region
        go_wp2
        go_roundw
        case measure => simp [intOf]; omega
        case rel => exact ⟨k + 1, by omega, by go_num, EachTo.step HQ.out X.out (by simp [nots, HF.out]), bbel, by first | exact y0 | simpa using y0, by first | exact y1 | simpa using y1⟩
      · have heq := refEq_iff.1 hq
        obtain ⟨rfl, rfl⟩ : xk = bk ∧ xn = bn := by cases heq; exact ⟨rfl, rfl⟩
        have RV2 : Hid (z = true) := Lib.hid (by rw [HZ.out]; exact List.any_eq_true.2 ⟨_, List.mem_of_getElem? X.out, hq⟩)
        clear heq hq
        have bo : ∀ W, (binOp .eql 60 (.agg #[.int .i64 xk, .string xn]) (.agg #[.int .i64 xk, .string xn])).run Try.prog W = .ok (.bool true) W := fun W => by
          simp only [run_eql_struct, eq_ref]
          try simp [Result.andThen]
        go_wp2_with fail
        go_region
        go_wp2
        all_goals (try go_returns)
        all_goals exact HR.out _ _ ⟨by first | (rw [RV2.out]; done) | (rw [RV2.out]; rfl), bbel⟩
    · obtain rfl : k = n := by omega
      have RV2 : Hid (z = false) := Lib.hid (by rw [HZ.out]; exact any_not HQ.out (by rw [← HN.out]; exact Nat.le_refl _))
      go_wp2
      all_goals (try go_returns)
      all_goals exact HR.out _ _ ⟨by rw [RV2.out]; rfl, hb⟩

set_option maxRecDepth 100000 in
set_option maxHeartbeats 8000000 in
theorem S_LodUnder (x : DLodPlan) (v1 : Value) (r b : DLodRef) (w : World) (s1 : Sl 2 rLodKeeper 0 w v1 x.fKeepers) (hn : r.fName.size ≤ maxLen) :
    Calls Try.prog 46 #[.agg #[v1], .agg #[.int .i64 r.fKeeper, .string r.fName], .agg #[.int .i64 b.fKeeper, .string b.fName]] w fun e w' => e = .returned (.bool (lodUnder x r b)) ∧ Below w.heap.size w w' := by
  obtain ⟨na1, nl1, nc1, rfl⟩ := s1.form
  have HS := Lib.hid s1
  clear s1
  obtain ⟨z, hz⟩ : ∃ z, z = lodUnder x r b := ⟨_, rfl⟩
  rw [← hz]
  have HA : ∀ (W : World) (v : Value) (base : Nat), Refs W base v (lodChain x r) → Calls Try.prog 86 #[v, .agg #[.int .i64 b.fKeeper, .string b.fName]] W fun e w' => e = .returned (.bool z) ∧ Below W.heap.size W w' := fun W v base h => by
    rw [hz]; exact S_l3Has _ v base b W h
  clear hz
  refine calls_hide fun R HR => ?_
  go_enter Try.func46, Try.ntmps46
  go_wp2_with fail
  obtain ⟨w2, hw2⟩ : ∃ w2, w2 = ((w.alloc (.cells #[.slice na1 nl1 nc1] 48)).alloc (.cells #[.int .i64 r.fKeeper, .string r.fName] 60)).alloc (.cells #[.int .i64 b.fKeeper, .string b.fName] 60) := ⟨_, rfl⟩
  rw [← hw2]
  have hE : Below w.heap.size w w2 := by rw [hw2]; exact bbel
  have hz := hE.size
  have hb2 : w.heap.size + 1 + 1 < w2.heap.size := by rw [hw2]; simp
  have q0' : w2.cell? ⟨w.heap.size, 0, none⟩ = some (.slice na1 nl1 nc1) := by rw [hw2]; go_simp
  have q1' : w2.cell? ⟨w.heap.size + 1, 0, none⟩ = some (.int .i64 r.fKeeper) := by rw [hw2]; go_simp
  have q2' : w2.cell? ⟨w.heap.size + 1, 1, none⟩ = some (.string r.fName) := by rw [hw2]; go_simp
  have q3' : w2.cell? ⟨w.heap.size + 1 + 1, 0, none⟩ = some (.int .i64 b.fKeeper) := by rw [hw2]; go_simp
  have q4' : w2.cell? ⟨w.heap.size + 1 + 1, 1, none⟩ = some (.string b.fName) := by rw [hw2]; go_simp
  have q0 : ∀ W, Below w2.heap.size w2 W → W.cell? ⟨w.heap.size, 0, none⟩ = some (.slice na1 nl1 nc1) := fun W hW => (hW.cell (p := ⟨w.heap.size, 0, none⟩) (by show w.heap.size < w2.heap.size; omega)).trans q0'
  have q1 : ∀ W, Below w2.heap.size w2 W → W.cell? ⟨w.heap.size + 1, 0, none⟩ = some (.int .i64 r.fKeeper) := fun W hW => (hW.cell (p := ⟨w.heap.size + 1, 0, none⟩) (by show w.heap.size + 1 < w2.heap.size; omega)).trans q1'
  have q2 : ∀ W, Below w2.heap.size w2 W → W.cell? ⟨w.heap.size + 1, 1, none⟩ = some (.string r.fName) := fun W hW => (hW.cell (p := ⟨w.heap.size + 1, 1, none⟩) (by show w.heap.size + 1 < w2.heap.size; omega)).trans q2'
  have q3 : ∀ W, Below w2.heap.size w2 W → W.cell? ⟨w.heap.size + 1 + 1, 0, none⟩ = some (.int .i64 b.fKeeper) := fun W hW => (hW.cell (p := ⟨w.heap.size + 1 + 1, 0, none⟩) (by show w.heap.size + 1 + 1 < w2.heap.size; omega)).trans q3'
  have q4 : ∀ W, Below w2.heap.size w2 W → W.cell? ⟨w.heap.size + 1 + 1, 1, none⟩ = some (.string b.fName) := fun W hW => (hW.cell (p := ⟨w.heap.size + 1 + 1, 1, none⟩) (by show w.heap.size + 1 + 1 < w2.heap.size; omega)).trans q4'
  have P1 : ∀ W, Below w2.heap.size w2 W → Sl 2 rLodKeeper 0 W (.slice na1 nl1 nc1) x.fKeepers := fun W hW => HS.out.stays rLodKeeper_good (Keeps.of_below (hE.trans (hW.mono hz)))
  clear hw2 q0' q1' q2' q3' q4'
  have keepA : ∀ x x' : World, Below x.heap.size x x' → Below w2.heap.size w2 x → Below w2.heap.size w2 x' := fun x x' hb e => keep_below hb e (Nat.le_refl _)
  go_region_held3 (fun x => Below w2.heap.size w2 x) (first | exact (Below.refl _ _).drew | exact keepA _ _ (by assumption) (by assumption)) (first | (go_at_call 49; refine (S_LodChain x _ r _ (P1 _ (by assumption)) hn).mono ?_; rintro _ _ ⟨⟨e1, rfl, u1⟩, _⟩) | (go_at_call 86; refine (HA _ _ _ u1).mono ?_; rintro _ _ ⟨rfl, _⟩))
  rename_i wA _ hA
  clear q0 q1 q2 q3 q4 keepA P1
  go_wp2
  all_goals (try go_returns)
  all_goals exact HR.out _ _ ⟨rfl, hE.trans (hA.mono hz)⟩

@[go_sem] theorem eg_tag : Try.prog.eqGuardType Try.prog.depth 72 = false := by kernel_rfl
@[go_sem] theorem eq_tag (a c : Int) (b d : ByteArray) (w : World) : (Op.equalIn 10000 72 (.agg #[.int .i64 a, .string b]) (.agg #[.int .i64 c, .string d])).run Try.prog w = .ok (a == c && b.toList == d.toList) w := by
  have iu3 := Try.underlying3
  have ia3 := Try.isAgg3
  have iz3 := Try.sizeOf3
  have iu9 := Try.underlying9
  have ia9 := Try.isAgg9
  have iz9 := Try.sizeOf9
  have hS : Try.prog.underlying 72 = some (.struct (Try.prog.fieldsOf 72)) := by kernel_rfl
  have hp : Try.prog.stoodInHeld 72 = false := by kernel_rfl
  rw [show (10000 : Nat) = 9999 + 1 from rfl, run_equalIn_agg w 9999 72 _ _ hS hp]
  simp only [Program.fieldsOf, Try.underlying72]
  go_simp
  by_cases h1 : a = c <;> by_cases h2 : b.toList = d.toList <;> simp [h1, h2]

def tagEq (a b : DTagTag) : Bool := a.fKind == b.fKind && a.fName.toList == b.fName.toList
def mayF (p : DLodPlan) (x y : DLodRef × Int) : Bool := if x.2 = 1 then (if y.2 = 1 then lodUnder p x.1 y.1 else false) else false
def mayP (p : DLodPlan) (i : Nat) (a b : DTagTag) : Bool :=
  if b.fKind = 0 then true else if tagEq a b = true then true else if b.fKind = 2 then (if a.fKind = 3 then true else if a.fKind = 2 then mayF p (findR p i a.fName) (findR p i b.fName) else false) else false
def tagMay (p : DLodPlan) (k : Int) (a b : DTagTag) : Bool := lodOk p && inPlan p k && tagOk a.fKind a.fName && tagOk b.fKind b.fName && mayP p k.toNat a b

theorem findR_again {p : DLodPlan} (h : lodOk p = true) {i : Nat} {nm : ByteArray} (hi : i < p.fKeepers.length) (hn : nm.size ≤ maxLen) (hc : (findR p i nm).2 = 1) :
    ∃ (j : Nat) (rs : List DLodRef), findR p i nm = (⟨(j : Int), nm⟩, 1) ∧ There p ⟨(j : Int), nm⟩ ∧ chainR p ⟨(j : Int), nm⟩ = some rs ∧ lodFind p (j : Int) nm = (⟨(j : Int), nm⟩, 1) ∧ lodChain p ⟨(j : Int), nm⟩ = rs := by
  obtain ⟨j, he, ht, rs, hr⟩ := findR_there h hi hn hc
  have hnm : namOk nm = true := by
    cases e : namOk nm with
    | true => rfl
    | false =>
      have := name_whose h e i
      unfold findR at hc
      rw [this] at hc
      simp at hc
  have hw : (whoseR p i nm) = (⟨(j : Int), nm⟩, 1) := by
    unfold findR at he
    by_cases h1 : (whoseR p i nm).2 = 1
    · rw [if_pos h1] at he
      split at he
      · exact he
      · simp at he
    · rw [if_neg h1] at he
      simp only [Prod.mk.injEq] at he
      exact absurd he.2 h1
  have hjn : j < p.fKeepers.length ∧ 0 ≤ ownN p nm j ∧ nxt p nm j < 0 := by
    unfold whoseR at hw
    by_cases h1 : (whose p i nm).1 = 1
    · rw [if_pos h1] at hw
      simp only [Prod.mk.injEq, DLodRef.mk.injEq] at hw
      have := whoseF_own h 4 i hi h1
      have e : (whoseF p nm 4 i).2 = j := by have := hw.1.1; unfold whose at this; omega
      rw [e] at this
      exact this
    · rw [if_neg h1] at hw
      simp only [Prod.mk.injEq] at hw
      exact absurd hw.2 h1
  obtain ⟨h1, h2, h3⟩ := hjn
  have hwj : whoseR p j nm = (⟨(j : Int), nm⟩, 1) := by
    have : whose p j nm = (1, j) := by
      unfold whose whoseF
      rw [if_pos h3, if_neg (by omega)]
    unfold whoseR
    rw [this]; rfl
  have hf : lodFind p (j : Int) nm = (⟨(j : Int), nm⟩, 1) := by
    unfold lodFind
    have hin : inPlan p (j : Int) = true := by unfold inPlan; simp; omega
    rw [h, hin, hnm]
    simp only [Bool.and_self, if_true, Int.toNat_natCast]
    unfold findR
    rw [hwj]
    simp [hr]
  refine ⟨j, rs, he, ht, hr, hf, ?_⟩
  unfold lodChain
  rw [hf]
  simp [refEq_self, hr]

set_option maxRecDepth 100000 in
set_option maxHeartbeats 8000000 in
theorem S_l3Under (p : DLodPlan) (v1 : Value) (r b : DLodRef) (rs : List DLodRef) (w : World) (s1 : Sl 2 rLodKeeper 0 w v1 p.fKeepers) (hp : lodOk p = true) (ht : There p r) (hr : chainR p r = some rs) :
    Calls Try.prog 106 #[.agg #[v1], .agg #[.int .i64 r.fKeeper, .string r.fName], .agg #[.int .i64 b.fKeeper, .string b.fName]] w fun e w' => e = .returned (.bool (rs.any fun x => refEq x b)) ∧ Below w.heap.size w w' := by
  obtain ⟨a, len, cap, rfl⟩ := s1.form
  have HS := Lib.hid s1
  have HP := Lib.hid hp
  have HT := Lib.hid ht
  have HRS := Lib.hid hr
  clear s1 hp ht hr
  obtain ⟨z, hz⟩ : ∃ z, z = rs.any fun x => refEq x b := ⟨_, rfl⟩
  rw [← hz]
  have HA : ∀ (W : World) (v : Value) (base : Nat), Refs W base v rs → Calls Try.prog 86 #[v, .agg #[.int .i64 b.fKeeper, .string b.fName]] W fun e w' => e = .returned (.bool z) ∧ Below W.heap.size W w' := fun W v base h => by
    rw [hz]; exact S_l3Has _ v base b W h
  clear hz
  refine calls_hide fun R HR => ?_
  go_enter Try.func106, Try.ntmps106
  go_wp2_with fail
  refine (S_l3Chain p _ r _ (HS.out.stays rLodKeeper_good (Keeps.of_below' (B := w.heap.size) (bbel) (Nat.le_refl _))) HP.out HT.out).mono ?_
  rintro _ wB ⟨hB, v, rfl, hv⟩
  have hR := Lib.hid (hv rs HRS.out)
  have hEB : Below w.heap.size w wB := bbel
  have hBs := (hB).size; (try simp only [World.size_alloc, World.size_setCell, World.size_drew] at hBs)
  obtain ⟨hBbd, hBbo, hBbg, hBbp, hBbx, hBby, hBbc1, hBbf1, hBbz1, hBbc2, hBbf2, hBbz2⟩ := bf3 (n := w.heap.size) hB
  clear hv
  go_wp2_with fail
  refine (HA _ _ _ hR.out).mono ?_
  rintro _ wC ⟨rfl, hC⟩
  have hCs := (hC).size; (try simp only [World.size_alloc, World.size_setCell, World.size_drew] at hCs)
  go_wp2
  all_goals (try go_returns)
  all_goals exact HR.out _ _ ⟨rfl, bbel⟩

set_option maxRecDepth 100000 in
set_option maxHeartbeats 8000000 in
theorem S_l5May (p : DLodPlan) (v1 : Value) (i : Nat) (a b : DTagTag) (w : World) (s1 : Sl 2 rLodKeeper 0 w v1 p.fKeepers) (hp : lodOk p = true) (hi : i < p.fKeepers.length) (ha : a.fName.size ≤ maxLen) (hb : b.fName.size ≤ maxLen) :
    Calls Try.prog 83 #[.agg #[v1], .int .i64 (i : Int), .agg #[.int .i64 a.fKind, .string a.fName], .agg #[.int .i64 b.fKind, .string b.fName]] w fun e w' => e = .returned (.bool (mayP p i a b)) ∧ Below w.heap.size w w' := by
  obtain ⟨sa, slen, scap, rfl⟩ := s1.form
  have HS := Lib.hid s1
  have HP := Lib.hid hp
  clear s1 hp
  obtain ⟨z, hz⟩ : ∃ z, z = mayP p i a b := ⟨_, rfl⟩
  rw [← hz]
  obtain ⟨ak, an⟩ := a
  obtain ⟨bk, bn⟩ := b
  dsimp only at ha hb ⊢
  have HNA := Lib.hid ha
  by_cases h0 : bk = 0
  · subst h0
    have RV : Hid (z = true) := Lib.hid (by rw [hz]; unfold mayP; dsimp only; rw [if_pos rfl])
    clear hz
    refine calls_hide fun R HR => ?_
    go_enter Try.func83, Try.ntmps83
    go_wp2
    all_goals (try go_returns)
    all_goals exact HR.out _ _ ⟨by rw [RV.out]; rfl, bbel⟩
  have h0b : (bk == 0) = false := by simpa using h0
  by_cases hq : (ak == bk && an.toList == bn.toList) = true
  · have RV : Hid (z = true) := Lib.hid (by rw [hz]; unfold mayP; dsimp only; rw [if_neg h0, if_pos (show tagEq ⟨ak, an⟩ ⟨bk, bn⟩ = true from hq)])
    clear hz
    refine calls_hide fun R HR => ?_
    go_enter Try.func83, Try.ntmps83
    go_wp2
    all_goals first
      | (exfalso; simp_all; done)
      | skip
    all_goals (try go_returns)
    all_goals exact HR.out _ _ ⟨by rw [RV.out]; rfl, bbel⟩
  have hqb : (ak == bk && an.toList == bn.toList) = false := by simpa using hq
  have hq' : ¬ tagEq ⟨ak, an⟩ ⟨bk, bn⟩ = true := hq
  clear hq
  by_cases h2 : bk = 2
  rotate_left
  · have h2b : (bk == 2) = false := by simpa using h2
    have h2c : (bk != 2) = true := by simpa using h2
    have RV : Hid (z = false) := Lib.hid (by rw [hz]; unfold mayP; dsimp only; rw [if_neg h0, if_neg hq', if_neg h2])
    clear hz hq' h0 h2
    refine calls_hide fun R HR => ?_
    go_enter Try.func83, Try.ntmps83
    go_wp2
    all_goals first
      | (exfalso; simp_all; done)
      | skip
    all_goals (try go_returns)
    all_goals exact HR.out _ _ ⟨by rw [RV.out]; rfl, bbel⟩
  subst h2
  by_cases h3 : ak = 3
  · subst h3
    have RV : Hid (z = true) := Lib.hid (by rw [hz]; unfold mayP; dsimp only; rw [if_neg h0, if_neg hq', if_pos rfl, if_pos rfl])
    clear hz hq' h0
    refine calls_hide fun R HR => ?_
    go_enter Try.func83, Try.ntmps83
    go_wp2
    all_goals first
      | (exfalso; simp_all; done)
      | skip
    all_goals (try go_returns)
    all_goals exact HR.out _ _ ⟨by rw [RV.out]; rfl, bbel⟩
  have h3b : (ak == 3) = false := by simpa using h3
  by_cases h4 : ak = 2
  rotate_left
  · have h4b : (ak == 2) = false := by simpa using h4
    have h4c : (ak != 2) = true := by simpa using h4
    have RV : Hid (z = false) := Lib.hid (by rw [hz]; unfold mayP; dsimp only; rw [if_neg h0, if_neg hq', if_pos rfl, if_neg h3, if_neg h4])
    clear hz hq' h0 h3 h4
    refine calls_hide fun R HR => ?_
    go_enter Try.func83, Try.ntmps83
    go_wp2
    all_goals first
      | (exfalso; simp_all; done)
      | skip
    all_goals (try go_returns)
    all_goals exact HR.out _ _ ⟨by rw [RV.out]; rfl, bbel⟩
  subst h4
  have RV : Hid (z = mayF p (findR p i an) (findR p i bn)) := Lib.hid (by rw [hz]; unfold mayP; dsimp only; rw [if_neg h0, if_neg hq', if_pos rfl, if_neg h3, if_pos rfl])
  clear hz hq' h0 h3
  have hqd : ¬ an.toList = bn.toList := by simpa using hqb
  have hqc : (an.toList == bn.toList) = false := by simpa using hqd
  have FA : ∀ W, Below w.heap.size w W → Calls Try.prog 76 #[.agg #[.slice sa slen scap], .int .i64 (i : Int), .string an] W fun e w' => e = .returned (refT (findR p i an)) ∧ Below W.heap.size W w' := fun W hW => S_l3Find p _ i an W (HS.out.stays rLodKeeper_good (Keeps.of_below hW)) HP.out hi ha
  have FB : ∀ W, Below w.heap.size w W → Calls Try.prog 76 #[.agg #[.slice sa slen scap], .int .i64 (i : Int), .string bn] W fun e w' => e = .returned (refT (findR p i bn)) ∧ Below W.heap.size W w' := fun W hW => S_l3Find p _ i bn W (HS.out.stays rLodKeeper_good (Keeps.of_below hW)) HP.out hi hb
  have GA : (findR p i an).2 = 1 → ∃ (j : Nat) (rs : List DLodRef), findR p i an = (⟨(j : Int), an⟩, 1) ∧ There p ⟨(j : Int), an⟩ ∧ chainR p ⟨(j : Int), an⟩ = some rs ∧ lodFind p (j : Int) an = (⟨(j : Int), an⟩, 1) ∧ lodChain p ⟨(j : Int), an⟩ = rs := findR_again HP.out hi ha
  have HGA := Lib.hid GA
  clear GA
  obtain ⟨fa, hfa⟩ : ∃ fa, fa = findR p i an := ⟨_, rfl⟩
  obtain ⟨fb, hfb⟩ : ∃ fb, fb = findR p i bn := ⟨_, rfl⟩
  rw [← hfa] at FA RV HGA
  rw [← hfb] at FB RV
  clear hfa hfb
  obtain ⟨⟨xk, xn⟩, xc⟩ := fa
  obtain ⟨⟨yk, yn⟩, yc⟩ := fb
  unfold refT at FA FB
  dsimp only at FA FB
  refine calls_hide fun R HR => ?_
  go_enter Try.func83, Try.ntmps83
  go_wp2_with fail
  refine (FA _ (bbel)).mono ?_
  rintro _ wA ⟨rfl, hA⟩
  have hEA : Below w.heap.size w wA := bbel
  have hAs := (hA).size; (try simp only [World.size_alloc, World.size_setCell, World.size_drew] at hAs)
  obtain ⟨hAad, hAao, hAag, hAap, hAax, hAay, hAac1, hAaf1, hAaz1, hAac2, hAaf2, hAaz2⟩ := bf3 (n := w.heap.size) hA
  go_wp2_with fail
  refine (FB _ (hEA.trans (bbel))).mono ?_
  rintro _ wB ⟨rfl, hB⟩
  have hEB : Below w.heap.size w wB := bbel
  have hBs := (hB).size; (try simp only [World.size_alloc, World.size_setCell, World.size_drew] at hBs)
  obtain ⟨hBbd, hBbo, hBbg, hBbp, hBbx, hBby, hBbc1, hBbf1, hBbz1, hBbc2, hBbf2, hBbz2⟩ := bf3 (n := w.heap.size) hB
  obtain ⟨hBcd, hBco, hBcg, hBcp, hBcx, hBcy⟩ := bf1 (n := wA.heap.size) hB
  by_cases ha : xc = 1
  rotate_left
  · have RV2 : Hid (z = false) := Lib.hid (by rw [RV.out]; unfold mayF; rw [if_neg ha])
    have ha2 : (xc == 1) = false := by simpa using ha
    have ha3 : (xc != 1) = true := by simpa using ha
    clear RV
    go_wp2
    all_goals (try go_returns)
    all_goals exact HR.out _ _ ⟨by rw [RV2.out]; rfl, bbel⟩
  by_cases hb : yc = 1
  rotate_left
  · have RV2 : Hid (z = false) := Lib.hid (by rw [RV.out]; unfold mayF; rw [if_pos ha, if_neg hb])
    have hb2 : (yc == 1) = false := by simpa using hb
    have hb3 : (yc != 1) = true := by simpa using hb
    subst ha
    clear RV
    go_wp2
    all_goals (try go_returns)
    all_goals exact HR.out _ _ ⟨by rw [RV2.out]; rfl, bbel⟩
  subst ha hb
  obtain ⟨j, rs, e1, ht, hrs, _, hc⟩ := HGA.out rfl
  obtain ⟨rfl, rfl⟩ : xk = (j : Int) ∧ xn = an := by simpa using e1
  have HT := Lib.hid ht
  have HRS := Lib.hid hrs
  have RV2 : Hid (z = rs.any fun x => refEq x ⟨yk, yn⟩) := Lib.hid (by rw [RV.out]; unfold mayF lodUnder; rw [if_pos rfl, if_pos rfl, hc])
  have RV3 : Hid (z = lodUnder p ⟨(j : Int), xn⟩ ⟨yk, yn⟩) := Lib.hid (by rw [RV.out]; unfold mayF; rw [if_pos rfl, if_pos rfl])
  clear RV HGA e1 ht hrs hc
  go_wp2_with fail
  refine (S_l3Under p _ ⟨(j : Int), xn⟩ ⟨yk, yn⟩ rs _ (HS.out.stays rLodKeeper_good (Keeps.of_below (bbel))) HP.out HT.out HRS.out).mono ?_
  rintro _ wC ⟨rfl, hC⟩
  have hCs := (hC).size; (try simp only [World.size_alloc, World.size_setCell, World.size_drew] at hCs)
  go_wp2
  all_goals (try go_returns)
  all_goals exact HR.out _ _ ⟨by rw [RV2.out]; rfl, bbel⟩

set_option maxRecDepth 100000 in
set_option maxHeartbeats 8000000 in
theorem I_may (p : DLodPlan) (L i : Nat) (a b : DTagTag) (w : World) (hl : Lodge w L p) (hp : lodOk p = true) (hi : i < p.fKeepers.length) (ha : a.fName.size ≤ maxLen) (hb : b.fName.size ≤ maxLen) :
    Calls Try.prog 82 #[.pointer (some ⟨L, 0, none⟩), .int .i64 (i : Int), .agg #[.int .i64 a.fKind, .string a.fName], .agg #[.int .i64 b.fKind, .string b.fName]] w fun e w' => e = .returned (.bool (mayP p i a b)) ∧ Below w.heap.size w w' := by
  have HL := Lib.hid hl
  have HP := Lib.hid hp
  clear hl hp
  have fk : ∀ (q : Nat) (nm : ByteArray), q < p.fKeepers.length → findK p (q : Int) nm = findR p q nm := fun q nm hq => by
    unfold findK
    rw [show inPlan p (q : Int) = true by unfold inPlan; simp; omega, Int.toNat_natCast]; rfl
  obtain ⟨z, hz⟩ : ∃ z, z = mayP p i a b := ⟨_, rfl⟩
  rw [← hz]
  obtain ⟨ak, an⟩ := a
  obtain ⟨bk, bn⟩ := b
  dsimp only at ha hb ⊢
  have HNA := Lib.hid ha
  by_cases h0 : bk = 0
  · subst h0
    have RV : Hid (z = true) := Lib.hid (by rw [hz]; unfold mayP; dsimp only; rw [if_pos rfl])
    clear hz
    refine calls_hide fun R HR => ?_
    go_enter Try.func82, Try.ntmps82
    go_wp2
    all_goals (try go_returns)
    all_goals exact HR.out _ _ ⟨by rw [RV.out]; rfl, bbel⟩
  have h0b : (bk == 0) = false := by simpa using h0
  by_cases hq : (ak == bk && an.toList == bn.toList) = true
  · have RV : Hid (z = true) := Lib.hid (by rw [hz]; unfold mayP; dsimp only; rw [if_neg h0, if_pos (show tagEq ⟨ak, an⟩ ⟨bk, bn⟩ = true from hq)])
    clear hz
    refine calls_hide fun R HR => ?_
    go_enter Try.func82, Try.ntmps82
    go_wp2
    all_goals first
      | (exfalso; simp_all; done)
      | skip
    all_goals (try go_returns)
    all_goals exact HR.out _ _ ⟨by rw [RV.out]; rfl, bbel⟩
  have hqb : (ak == bk && an.toList == bn.toList) = false := by simpa using hq
  have hq' : ¬ tagEq ⟨ak, an⟩ ⟨bk, bn⟩ = true := hq
  clear hq
  by_cases h2 : bk = 2
  rotate_left
  · have h2b : (bk == 2) = false := by simpa using h2
    have h2c : (bk != 2) = true := by simpa using h2
    have RV : Hid (z = false) := Lib.hid (by rw [hz]; unfold mayP; dsimp only; rw [if_neg h0, if_neg hq', if_neg h2])
    clear hz hq' h0 h2
    refine calls_hide fun R HR => ?_
    go_enter Try.func82, Try.ntmps82
    go_wp2
    all_goals first
      | (exfalso; simp_all; done)
      | skip
    all_goals (try go_returns)
    all_goals exact HR.out _ _ ⟨by rw [RV.out]; rfl, bbel⟩
  subst h2
  by_cases h3 : ak = 3
  · subst h3
    have RV : Hid (z = true) := Lib.hid (by rw [hz]; unfold mayP; dsimp only; rw [if_neg h0, if_neg hq', if_pos rfl, if_pos rfl])
    clear hz hq' h0
    refine calls_hide fun R HR => ?_
    go_enter Try.func82, Try.ntmps82
    go_wp2
    all_goals first
      | (exfalso; simp_all; done)
      | skip
    all_goals (try go_returns)
    all_goals exact HR.out _ _ ⟨by rw [RV.out]; rfl, bbel⟩
  have h3b : (ak == 3) = false := by simpa using h3
  by_cases h4 : ak = 2
  rotate_left
  · have h4b : (ak == 2) = false := by simpa using h4
    have h4c : (ak != 2) = true := by simpa using h4
    have RV : Hid (z = false) := Lib.hid (by rw [hz]; unfold mayP; dsimp only; rw [if_neg h0, if_neg hq', if_pos rfl, if_neg h3, if_neg h4])
    clear hz hq' h0 h3 h4
    refine calls_hide fun R HR => ?_
    go_enter Try.func82, Try.ntmps82
    go_wp2
    all_goals first
      | (exfalso; simp_all; done)
      | skip
    all_goals (try go_returns)
    all_goals exact HR.out _ _ ⟨by rw [RV.out]; rfl, bbel⟩
  subst h4
  have RV : Hid (z = mayF p (findR p i an) (findR p i bn)) := Lib.hid (by rw [hz]; unfold mayP; dsimp only; rw [if_neg h0, if_neg hq', if_pos rfl, if_neg h3, if_pos rfl])
  clear hz hq' h0 h3
  have hqd : ¬ an.toList = bn.toList := by simpa using hqb
  have hqc : (an.toList == bn.toList) = false := by simpa using hqd
  have FA : ∀ W, Below w.heap.size w W → Calls Try.prog 73 #[.pointer (some ⟨L, 0, none⟩), .int .i64 (i : Int), .string an] W fun e w' => e = .returned (refT (findR p i an)) ∧ Below W.heap.size W w' := fun W hW => by
    rw [← fk i an hi]; exact I_find p L i an W (HL.out.below hW) HP.out ha
  have FB : ∀ W, Below w.heap.size w W → Calls Try.prog 73 #[.pointer (some ⟨L, 0, none⟩), .int .i64 (i : Int), .string bn] W fun e w' => e = .returned (refT (findR p i bn)) ∧ Below W.heap.size W w' := fun W hW => by
    rw [← fk i bn hi]; exact I_find p L i bn W (HL.out.below hW) HP.out hb
  have GA : (findR p i an).2 = 1 → ∃ (j : Nat) (rs : List DLodRef), findR p i an = (⟨(j : Int), an⟩, 1) ∧ There p ⟨(j : Int), an⟩ ∧ chainR p ⟨(j : Int), an⟩ = some rs ∧ lodFind p (j : Int) an = (⟨(j : Int), an⟩, 1) ∧ lodChain p ⟨(j : Int), an⟩ = rs := findR_again HP.out hi ha
  have HGA := Lib.hid GA
  clear GA
  obtain ⟨fa, hfa⟩ : ∃ fa, fa = findR p i an := ⟨_, rfl⟩
  obtain ⟨fb, hfb⟩ : ∃ fb, fb = findR p i bn := ⟨_, rfl⟩
  rw [← hfa] at FA RV HGA
  rw [← hfb] at FB RV
  clear hfa hfb fk
  obtain ⟨⟨xk, xn⟩, xc⟩ := fa
  obtain ⟨⟨yk, yn⟩, yc⟩ := fb
  unfold refT at FA FB
  dsimp only at FA FB
  refine calls_hide fun R HR => ?_
  go_enter Try.func82, Try.ntmps82
  go_wp2_with fail
  refine (FA _ (bbel)).mono ?_
  rintro _ wA ⟨rfl, hA⟩
  have hEA : Below w.heap.size w wA := bbel
  have hAs := (hA).size; (try simp only [World.size_alloc, World.size_setCell, World.size_drew] at hAs)
  obtain ⟨hAad, hAao, hAag, hAap, hAax, hAay, hAac1, hAaf1, hAaz1⟩ := bf2 (n := w.heap.size) hA
  go_wp2_with fail
  refine (FB _ (hEA.trans (bbel))).mono ?_
  rintro _ wB ⟨rfl, hB⟩
  have hEB : Below w.heap.size w wB := bbel
  have hBs := (hB).size; (try simp only [World.size_alloc, World.size_setCell, World.size_drew] at hBs)
  obtain ⟨hBbd, hBbo, hBbg, hBbp, hBbx, hBby, hBbc1, hBbf1, hBbz1⟩ := bf2 (n := w.heap.size) hB
  obtain ⟨hBcd, hBco, hBcg, hBcp, hBcx, hBcy⟩ := bf1 (n := wA.heap.size) hB
  by_cases ha : xc = 1
  rotate_left
  · have RV2 : Hid (z = false) := Lib.hid (by rw [RV.out]; unfold mayF; rw [if_neg ha])
    have ha2 : (xc == 1) = false := by simpa using ha
    have ha3 : (xc != 1) = true := by simpa using ha
    clear RV
    go_wp2
    all_goals (try go_returns)
    all_goals exact HR.out _ _ ⟨by rw [RV2.out]; rfl, bbel⟩
  by_cases hb : yc = 1
  rotate_left
  · have RV2 : Hid (z = false) := Lib.hid (by rw [RV.out]; unfold mayF; rw [if_pos ha, if_neg hb])
    have hb2 : (yc == 1) = false := by simpa using hb
    have hb3 : (yc != 1) = true := by simpa using hb
    subst ha
    clear RV
    go_wp2
    all_goals (try go_returns)
    all_goals exact HR.out _ _ ⟨by rw [RV2.out]; rfl, bbel⟩
  subst ha hb
  obtain ⟨j, rs, e1, ht, hrs, _, hc⟩ := HGA.out rfl
  obtain ⟨rfl, rfl⟩ : xk = (j : Int) ∧ xn = an := by simpa using e1
  have HT := Lib.hid ht
  have HRS := Lib.hid hrs
  have RV2 : Hid (z = rs.any fun x => refEq x ⟨yk, yn⟩) := Lib.hid (by rw [RV.out]; unfold mayF lodUnder; rw [if_pos rfl, if_pos rfl, hc])
  have RV3 : Hid (z = lodUnder p ⟨(j : Int), xn⟩ ⟨yk, yn⟩) := Lib.hid (by rw [RV.out]; unfold mayF; rw [if_pos rfl, if_pos rfl])
  clear RV HGA e1 ht hrs hc
  go_wp2_with fail
  refine (I_under p L ⟨(j : Int), xn⟩ ⟨yk, yn⟩ _ (HL.out.below (bbel)) HP.out HNA.out).mono ?_
  rintro _ wC ⟨rfl, hC⟩
  have hCs := (hC).size; (try simp only [World.size_alloc, World.size_setCell, World.size_drew] at hCs)
  go_wp2
  all_goals (try go_returns)
  all_goals exact HR.out _ _ ⟨by rw [RV3.out]; rfl, bbel⟩

end Go.Proofs.Ytcdmmnfdnmjnpaa
