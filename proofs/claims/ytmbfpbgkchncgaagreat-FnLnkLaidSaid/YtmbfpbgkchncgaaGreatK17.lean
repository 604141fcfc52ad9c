/-
  Texts of mine, packed: AgreeS, Chain, Under, UnderS, MayS, Sig. No condition beside those of the single theorems.
-/
import Derived.Test.YtmbfpbgkchncgaaGreatK16
import Derived.Test.YtmbfpbgkchncgaaGreatK9
import Derived.Test.YtmbfpbgkchncgaaGreatK1
import Derived.Test.YtmbfpbgkchncgaaGreatK2
import Derived.Deep.LoopGhost
set_option linter.unusedSimpArgs false
set_option linter.unusedVariables false
set_option maxHeartbeats 16000000
set_option maxRecDepth 100000
namespace Go.Proofs.YtmbfpbgkchncgaaGreat
open Go.RowKit
@[go_sem] theorem eg_ref : Tryz.prog.eqGuardType Tryz.prog.depth 42 = false := by kernel_rfl
@[go_sem] theorem eq_ref (a c : Int) (b d : ByteArray) (w : World) : (Op.equalIn 10000 42 (.agg #[.int .i64 a, .string b]) (.agg #[.int .i64 c, .string d])).run Tryz.prog w = .ok (a == c && b.toList == d.toList) w := by
 have iu3 := Tryz.underlying3
 have ia3 := Tryz.isAgg3
 have iz3 := Tryz.sizeOf3
 have iu9 := Tryz.underlying9
 have ia9 := Tryz.isAgg9
 have iz9 := Tryz.sizeOf9
 have hS : Tryz.prog.underlying 42 = some (.struct (Tryz.prog.fieldsOf 42)) := by kernel_rfl
 have hp : Tryz.prog.stoodInHeld 42 = false := by kernel_rfl
 rw [show (10000 : Nat) = 9999 + 1 from rfl, run_equalIn_agg w 9999 42 _ _ hS hp]
 simp only [Program.fieldsOf, Tryz.underlying42]
 go_simp
 by_cases h1 : a = c <;> by_cases h2 : b.toList = d.toList <;> simp [h1, h2]

def refEq (a b : DLodRef) : Bool := a.fKeeper == b.fKeeper && a.fName.toList == b.fName.toList
theorem refEq_self (a : DLodRef) : refEq a a = true := by simp [refEq]
def agreeV (a b : DLodRef × Int) : Bool := if a.2 = 1 then (if b.2 = 1 then refEq a.1 b.1 else false) else (if b.2 = 1 then false else true)
theorem agreeV_self (a : DLodRef × Int) : agreeV a a = true := by
 unfold agreeV
 by_cases h : a.2 = 1
 ·rw [if_pos h, if_pos h]; exact refEq_self _
 ·rw [if_neg h, if_neg h]
def agreeP (p : DLodPlan) (i j : Nat) (kd : DKndKind) : Bool := if kd.fKind = 1 then true else if i = j then true else agreeV (findR p i kd.fName) (findR p j kd.fName)
theorem S_l4Agree (p : DLodPlan) (v1 : Value) (i j : Nat) (kd : DKndKind) (w : World) (s1 : Sl 2 rLodKeeper 0 w v1 p.fKeepers) (hp : lodOk p = true) (hi : i < p.fKeepers.length) (hj : j < p.fKeepers.length) (hn : kd.fName.size ≤ maxLen) :
  Calls Tryz.prog 145 #[.agg #[v1], .int .i64 (i : Int), .int .i64 (j : Int), .agg #[.int .i64 kd.fKind, .string kd.fName]] w fun e w' => e = .returned (.bool (agreeP p i j kd)) ∧ Below w.heap.size w w' := by
 obtain ⟨a, len, cap, rfl⟩ := s1.form
 have HP := qhd hp
 have HS := qhd s1
 obtain ⟨z, hz⟩ : ∃ z, z = agreeP p i j kd := ⟨_, rfl⟩
 rw [← hz]
 by_cases hk : kd.fKind = 1
 ·have RV : Hid (z = true) := qhd (by rw [hz]; unfold agreeP; rw [if_pos hk])
  clear hz
  refine qab fun R HR => ?_
  go_enter Tryz.func145, Tryz.ntmps145
  go_wp2
  all_goals (try go_returns)
  all_goals exact HR.out _ _ ⟨by rw [RV.out]; rfl, bbel⟩
 have hk2 : (kd.fKind == 1) = false := by simpa using hk
 by_cases hij : (i : Int) = (j : Int)
 ·have RV : Hid (z = true) := qhd (by rw [hz]; unfold agreeP; rw [if_neg hk, if_pos (by omega)])
  have hij2 : ((i : Int) == (j : Int)) = true := by simpa using hij
  clear hz
  refine qab fun R HR => ?_
  go_enter Tryz.func145, Tryz.ntmps145
  go_wp2
  all_goals (try go_returns)
  all_goals exact HR.out _ _ ⟨by rw [RV.out]; rfl, bbel⟩
 have hij2 : ((i : Int) == (j : Int)) = false := by simpa using hij
 have RV : Hid (z = agreeV (findR p i kd.fName) (findR p j kd.fName)) := qhd (by rw [hz]; unfold agreeP; rw [if_neg hk, if_neg (by omega)])
 clear hz
 have FA : ∀ W, Below w.heap.size w W → Calls Tryz.prog 114 #[.agg #[.slice a len cap], .int .i64 (i : Int), .string kd.fName] W fun e w' => e = .returned (refT (findR p i kd.fName)) ∧ Below W.heap.size W w' := fun W hW => S_l3Find p _ i kd.fName W (HS.out.stays rLodKeeper_good (Keeps.of_below hW)) HP.out hi hn
 have FB : ∀ W, Below w.heap.size w W → Calls Tryz.prog 114 #[.agg #[.slice a len cap], .int .i64 (j : Int), .string kd.fName] W fun e w' => e = .returned (refT (findR p j kd.fName)) ∧ Below W.heap.size W w' := fun W hW => S_l3Find p _ j kd.fName W (HS.out.stays rLodKeeper_good (Keeps.of_below hW)) HP.out hj hn
 obtain ⟨fa, hfa⟩ : ∃ fa, fa = findR p i kd.fName := ⟨_, rfl⟩
 obtain ⟨fb, hfb⟩ : ∃ fb, fb = findR p j kd.fName := ⟨_, rfl⟩
 rw [← hfa] at FA RV
 rw [← hfb] at FB RV
 clear hfa hfb
 obtain ⟨⟨ak, an⟩, ac⟩ := fa
 obtain ⟨⟨bk, bn⟩, bc⟩ := fb
 unfold refT at FA FB
 dsimp only at FA FB
 refine qab fun R HR => ?_
 go_enter Tryz.func145, Tryz.ntmps145
 go_wp2_with fail
 refine (FA _ (bbel)).mono ?_
 rintro _ wA ⟨rfl, hA⟩
 have hEA : Below w.heap.size w wA := bbel
 have hAs := (hA).size; (try simp only [qsz] at hAs)
 obtain ⟨hAad, hAao, hAag, hAap, hAax, hAay, hAac1, hAaf1, hAaz1⟩ := bf2 (n := w.heap.size) hA
 go_wp2_with fail
 refine (FB _ (hEA.trans (bbel))).mono ?_
 rintro _ wB ⟨rfl, hB⟩
 have hEB : Below w.heap.size w wB := bbel
 have hBs := (hB).size; (try simp only [qsz] at hBs)
 obtain ⟨hBbd, hBbo, hBbg, hBbp, hBbx, hBby, hBbc1, hBbf1, hBbz1⟩ := bf2 (n := w.heap.size) hB
 obtain ⟨hBcd, hBco, hBcg, hBcp, hBcx, hBcy⟩ := bf1 (n := wA.heap.size) hB
 by_cases ha : ac = 1
 ·by_cases hb : bc = 1
  ·have RV2 : Hid (z = (ak == bk && an.toList == bn.toList)) := qhd (by rw [RV.out]; unfold agreeV; rw [if_pos ha, if_pos hb]; rfl)
   subst ha hb
   clear RV
   go_wp2
   all_goals (try go_returns)
   all_goals exact HR.out _ _ ⟨by rw [RV2.out]; first | rfl | exact qah (by simp_all), bbel⟩
  ·have RV2 : Hid (z = false) := qhd (by rw [RV.out]; unfold agreeV; rw [if_pos ha, if_neg hb])
   have hb2 : (bc == 1) = false := by simpa using hb
   have hb3 : (bc != 1) = true := by simpa using hb
   subst ha
   clear RV
   go_wp2
   all_goals (try go_returns)
   all_goals exact HR.out _ _ ⟨by rw [RV2.out]; rfl, bbel⟩
 ·have ha2 : (ac == 1) = false := by simpa using ha
  have ha3 : (ac != 1) = true := by simpa using ha
  by_cases hb : bc = 1
  ·have RV2 : Hid (z = false) := qhd (by rw [RV.out]; unfold agreeV; rw [if_neg ha, if_pos hb])
   subst hb
   clear RV
   go_wp2
   all_goals (try go_returns)
   all_goals exact HR.out _ _ ⟨by rw [RV2.out]; rfl, bbel⟩
  ·have RV2 : Hid (z = true) := qhd (by rw [RV.out]; unfold agreeV; rw [if_neg ha, if_neg hb])
   have hb2 : (bc == 1) = false := by simpa using hb
   have hb3 : (bc != 1) = true := by simpa using hb
   clear RV
   go_wp2
   all_goals (try go_returns)
   all_goals exact HR.out _ _ ⟨by rw [RV2.out]; rfl, bbel⟩

theorem I_agree (p : DLodPlan) (L i j : Nat) (kd : DKndKind) (w : World) (hl : Lodge w L p) (hp : lodOk p = true) (hi : i < p.fKeepers.length) (hj : j < p.fKeepers.length) (hn : kd.fName.size ≤ maxLen) :
  Calls Tryz.prog 57 #[.pointer (some ⟨L, 0, none⟩), .int .i64 (i : Int), .int .i64 (j : Int), .agg #[.int .i64 kd.fKind, .string kd.fName]] w fun e w' => e = .returned (.bool (agreeP p i j kd)) ∧ Below w.heap.size w w' := by
 have HP := qhd hp
 have HL := qhd hl
 clear hl hp
 obtain ⟨z, hz⟩ : ∃ z, z = agreeP p i j kd := ⟨_, rfl⟩
 rw [← hz]
 by_cases hk : kd.fKind = 1
 ·have RV : Hid (z = true) := qhd (by rw [hz]; unfold agreeP; rw [if_pos hk])
  clear hz
  refine qab fun R HR => ?_
  go_enter Tryz.func57, Tryz.ntmps57
  go_wp2
  all_goals (try go_returns)
  all_goals exact HR.out _ _ ⟨by rw [RV.out]; rfl, bbel⟩
 have hk2 : (kd.fKind == 1) = false := by simpa using hk
 have fk : ∀ q : Nat, q < p.fKeepers.length → findK p (q : Int) kd.fName = findR p q kd.fName := fun q hq => by
  unfold findK
  rw [show inPlan p (q : Int) = true by unfold inPlan; simp; omega, Int.toNat_natCast]; rfl
 have RV : Hid (z = agreeV (findR p i kd.fName) (findR p j kd.fName)) := qhd (by
  rw [hz]; unfold agreeP; rw [if_neg hk]
  by_cases hij : i = j
  ·rw [if_pos hij, hij, agreeV_self]
  ·rw [if_neg hij])
 clear hz
 have FA : ∀ W, Below w.heap.size w W → Calls Tryz.prog 85 #[.pointer (some ⟨L, 0, none⟩), .int .i64 (i : Int), .string kd.fName] W fun e w' => e = .returned (refT (findR p i kd.fName)) ∧ Below W.heap.size W w' := fun W hW => by
  rw [← fk i hi]; exact I_find p L i kd.fName W (HL.out.below hW) HP.out hn
 have FB : ∀ W, Below w.heap.size w W → Calls Tryz.prog 85 #[.pointer (some ⟨L, 0, none⟩), .int .i64 (j : Int), .string kd.fName] W fun e w' => e = .returned (refT (findR p j kd.fName)) ∧ Below W.heap.size W w' := fun W hW => by
  rw [← fk j hj]; exact I_find p L j kd.fName W (HL.out.below hW) HP.out hn
 obtain ⟨fa, hfa⟩ : ∃ fa, fa = findR p i kd.fName := ⟨_, rfl⟩
 obtain ⟨fb, hfb⟩ : ∃ fb, fb = findR p j kd.fName := ⟨_, rfl⟩
 rw [← hfa] at FA RV
 rw [← hfb] at FB RV
 clear hfa hfb fk
 obtain ⟨⟨ak, an⟩, ac⟩ := fa
 obtain ⟨⟨bk, bn⟩, bc⟩ := fb
 unfold refT at FA FB
 dsimp only at FA FB
 refine qab fun R HR => ?_
 go_enter Tryz.func57, Tryz.ntmps57
 go_wp2_with fail
 refine (FA _ (bbel)).mono ?_
 rintro _ wA ⟨rfl, hA⟩
 have hEA : Below w.heap.size w wA := bbel
 have hAs := (hA).size; (try simp only [qsz] at hAs)
 obtain ⟨hAad, hAao, hAag, hAap, hAax, hAay⟩ := bf1 (n := w.heap.size) hA
 go_wp2_with fail
 refine (FB _ (hEA.trans (bbel))).mono ?_
 rintro _ wB ⟨rfl, hB⟩
 have hEB : Below w.heap.size w wB := bbel
 have hBs := (hB).size; (try simp only [qsz] at hBs)
 obtain ⟨hBbd, hBbo, hBbg, hBbp, hBbx, hBby⟩ := bf1 (n := w.heap.size) hB
 obtain ⟨hBcd, hBco, hBcg, hBcp, hBcx, hBcy⟩ := bf1 (n := wA.heap.size) hB
 by_cases ha : ac = 1
 ·by_cases hb : bc = 1
  ·have RV2 : Hid (z = (ak == bk && an.toList == bn.toList)) := qhd (by rw [RV.out]; unfold agreeV; rw [if_pos ha, if_pos hb]; rfl)
   subst ha hb
   clear RV
   go_wp2
   all_goals (try go_returns)
   all_goals exact HR.out _ _ ⟨by rw [RV2.out]; first | rfl | exact qah (by simp_all), bbel⟩
  ·have RV2 : Hid (z = false) := qhd (by rw [RV.out]; unfold agreeV; rw [if_pos ha, if_neg hb])
   have hb2 : (bc == 1) = false := by simpa using hb
   have hb3 : (bc != 1) = true := by simpa using hb
   subst ha
   clear RV
   go_wp2
   all_goals (try go_returns)
   all_goals exact HR.out _ _ ⟨by rw [RV2.out]; rfl, bbel⟩
 ·have ha2 : (ac == 1) = false := by simpa using ha
  have ha3 : (ac != 1) = true := by simpa using ha
  by_cases hb : bc = 1
  ·have RV2 : Hid (z = false) := qhd (by rw [RV.out]; unfold agreeV; rw [if_neg ha, if_pos hb])
   subst hb
   clear RV
   go_wp2
   all_goals (try go_returns)
   all_goals exact HR.out _ _ ⟨by rw [RV2.out]; rfl, bbel⟩
  ·have RV2 : Hid (z = true) := qhd (by rw [RV.out]; unfold agreeV; rw [if_neg ha, if_neg hb])
   have hb2 : (bc == 1) = false := by simpa using hb
   have hb3 : (bc != 1) = true := by simpa using hb
   clear RV
   go_wp2
   all_goals (try go_returns)
   all_goals exact HR.out _ _ ⟨by rw [RV2.out]; rfl, bbel⟩

def lodChain (p : DLodPlan) (r : DLodRef) : List DLodRef := if (lodFind p r.fKeeper r.fName).2 = 1 then (if refEq (lodFind p r.fKeeper r.fName).1 r then (chainR p r).getD [] else []) else []
theorem refEq_iff {a b : DLodRef} : refEq a b = true ↔ a = b := by
 obtain ⟨ak, an⟩ := a
 obtain ⟨bk, bn⟩ := b
 unfold refEq
 simp only [Bool.and_eq_true, beq_iff_eq, DLodRef.mk.injEq]
 constructor
 ·rintro ⟨h1, h2⟩; exact ⟨h1, sameN_iff.1 (by simpa [sameN] using h2)⟩
 ·rintro ⟨h1, h2⟩; exact ⟨h1, by rw [h2]⟩
theorem findR_there {p : DLodPlan} (h : lodOk p = true) {i : Nat} {nm : ByteArray} (hi : i < p.fKeepers.length) (hn : nm.size ≤ maxLen) (hc : (findR p i nm).2 = 1) : ∃ j : Nat, findR p i nm = (⟨(j : Int), nm⟩, 1) ∧ There p ⟨(j : Int), nm⟩ ∧ ∃ rs, chainR p ⟨(j : Int), nm⟩ = some rs := by
 unfold findR at hc ⊢
 by_cases h1 : (whoseR p i nm).2 = 1
 ·obtain ⟨j, he, h2, h3⟩ := whoseR_there h hi h1
  rw [if_pos h1] at hc ⊢
  cases e : chainR p (whoseR p i nm).1 with
  | none => rw [e] at hc; simp at hc
  | some rs =>
    rw [he] at e
    exact ⟨j, by simp [he], ⟨j, rfl, h2, h3, hn⟩, rs, e⟩
 ·rw [if_neg h1] at hc
  exact absurd hc h1
theorem lodFind_there {p : DLodPlan} {k : Int} {nm : ByteArray} (hn : nm.size ≤ maxLen) (hc : (lodFind p k nm).2 = 1) : lodOk p = true ∧ ∃ j : Nat, lodFind p k nm = (⟨(j : Int), nm⟩, 1) ∧ There p ⟨(j : Int), nm⟩ ∧ ∃ rs, chainR p ⟨(j : Int), nm⟩ = some rs := by
 unfold lodFind at hc ⊢
 by_cases h1 : (lodOk p && inPlan p k && namOk nm) = true
 ·rw [if_pos h1] at hc ⊢
  simp only [Bool.and_eq_true] at h1
  have h2 := h1.1.2
  unfold inPlan at h2
  simp only [Bool.and_eq_true, decide_eq_true_eq] at h2
  exact ⟨h1.1.1, findR_there h1.1.1 (by omega) hn hc⟩
 ·rw [if_neg h1] at hc; simp at hc
theorem lodChain_there {p : DLodPlan} {r : DLodRef} (hn : r.fName.size ≤ maxLen) (h1 : (lodFind p r.fKeeper r.fName).2 = 1) (h2 : refEq (lodFind p r.fKeeper r.fName).1 r = true) : There p r ∧ ∃ rs, chainR p r = some rs ∧ lodChain p r = rs := by
 obtain ⟨_, j, he, ht, rs, hr⟩ := lodFind_there hn h1
 have e : (⟨(j : Int), r.fName⟩ : DLodRef) = r := by
  have := refEq_iff.1 h2
  rw [he] at this
  exact this
 rw [e] at ht hr
 refine ⟨ht, rs, hr, ?_⟩
 unfold lodChain
 rw [if_pos h1, if_pos h2, hr]; rfl

theorem I_chain (p : DLodPlan) (L : Nat) (r : DLodRef) (w : World) (hl : Lodge w L p) (hp : lodOk p = true) (hn : r.fName.size ≤ maxLen) :
  Calls Tryz.prog 48 #[.pointer (some ⟨L, 0, none⟩), .agg #[.int .i64 r.fKeeper, .string r.fName]] w fun e w' => (∃ v, e = .returned v ∧ Refs w' w.heap.size v (lodChain p r)) ∧ Below w.heap.size w w' := by
 have HP := qhd hp
 have HL := qhd hl
 clear hl hp
 obtain ⟨jw, hjw⟩ : ∃ jw, jw = lodFind p r.fKeeper r.fName := ⟨_, rfl⟩
 have FA : ∀ W, Below w.heap.size w W → Calls Tryz.prog 85 #[.pointer (some ⟨L, 0, none⟩), .int .i64 r.fKeeper, .string r.fName] W fun e w' => e = .returned (refT jw) ∧ Below W.heap.size W w' := fun W hW => by
  rw [hjw, lodFind_findK HP.out]; exact I_find p L r.fKeeper r.fName W (HL.out.below hW) HP.out hn
 have HJ := qhd hjw
 clear hjw
 obtain ⟨⟨ak, an⟩, ac⟩ := jw
 unfold refT at FA
 dsimp only at FA
 obtain ⟨rk, rn⟩ := r
 dsimp only at FA hn ⊢
 refine qab fun R HR => ?_
 go_enter Tryz.func48, Tryz.ntmps48
 go_wp2_with fail
 refine (FA _ (bbel)).mono ?_
 rintro _ wA ⟨rfl, hA⟩
 have hEA : Below w.heap.size w wA := bbel
 have hAs := (hA).size; (try simp only [qsz] at hAs)
 obtain ⟨hAad, hAao, hAag, hAap, hAax, hAay⟩ := bf1 (n := w.heap.size) hA
 by_cases ha : ac = 1
 ·obtain ⟨q, hq⟩ : ∃ q, q = (ak == rk && an.toList == rn.toList) := ⟨_, rfl⟩
  cases q
  ·have NO : Hid (lodChain p ⟨rk, rn⟩ = []) := qhd (by
    unfold lodChain
    dsimp only
    rw [← HJ.out]
    rw [if_pos ha, if_neg (show ¬ refEq ⟨ak, an⟩ ⟨rk, rn⟩ = true by unfold refEq; dsimp only; rw [← hq]; simp)])
   have hq2 := hq.symm
   clear hq HJ
   subst ha
   go_wp2
   all_goals first
    | (exfalso; simp_all; done)
    | skip
   all_goals (try go_returns)
   all_goals exact HR.out _ _ ⟨⟨_, rfl, by rw [NO.out]; exact ⟨rfl, Or.inl ⟨rfl, rfl⟩⟩⟩, bbel⟩
  ·obtain ⟨TH, rs, hrs, hcs⟩ := lodChain_there (p := p) (r := ⟨rk, rn⟩) hn (by rw [← HJ.out]; exact ha) (by rw [← HJ.out]; exact hq.symm)
   have hsame : (⟨ak, an⟩ : DLodRef) = ⟨rk, rn⟩ := refEq_iff.1 hq.symm
   obtain ⟨rfl, rfl⟩ : ak = rk ∧ an = rn := by cases hsame; exact ⟨rfl, rfl⟩
   have HTH := qhd TH
   have HRS := qhd hrs
   have HCS := qhd hcs
   subst ha
   clear hq HJ TH hrs hcs hsame
   go_wp2_with fail
   refine (I_climb p L ⟨ak, an⟩ _ (HL.out.below (hEA.trans (bbel))) HP.out HTH.out).mono ?_
   rintro _ wB ⟨hB, v, rfl, hv⟩
   have hR := hv rs HRS.out
   have HRR : Hid (Refs wB w.heap.size v (lodChain p ⟨ak, an⟩)) := qhd (by rw [HCS.out]; exact hR.low (by simp; omega))
   have hBs := hB.size
   simp only [World.size_alloc] at hBs
   have hEB : Below w.heap.size w wB := bbel
   clear hv hR hB
   rw [show (chainR p ⟨ak, an⟩).isSome = true by rw [HRS.out]; rfl]
   go_wp2
   all_goals (try go_returns)
   all_goals exact HR.out _ _ ⟨⟨_, rfl, HRR.out⟩, hEB⟩
 ·have NO : Hid (lodChain p ⟨rk, rn⟩ = []) := qhd (by
   unfold lodChain
   dsimp only
   rw [← HJ.out]
   rw [if_neg ha])
  have ha2 : (ac == 1) = false := by simpa using ha
  have ha3 : (ac != 1) = true := by simpa using ha
  clear HJ
  go_wp2
  all_goals (try go_returns)
  all_goals exact HR.out _ _ ⟨⟨_, rfl, by rw [NO.out]; exact ⟨rfl, Or.inl ⟨rfl, rfl⟩⟩⟩, bbel⟩

theorem flatR_at : ∀ {rs : List DLodRef} {k : Nat} {x : DLodRef}, rs[k]? = some x → (flatR rs)[k * 2]? = some (.int .i64 x.fKeeper) ∧ (flatR rs)[k * 2 + 1]? = some (.string x.fName)
 | [], k, x, h => by simp at h
 | y :: rs, 0, x, h => by simp at h; subst h; simp [flatR]
 | y :: rs, k + 1, x, h => by
   have h' : rs[k]? = some x := by simpa using h
   have := flatR_at h'
   rw [show (k + 1) * 2 = k * 2 + 2 by omega]
   simpa [flatR] using this
theorem Refs.cell2 {w : World} {base g n cap : Nat} {rs : List DLodRef} (h : Refs w base (.slice (some ⟨g, 0, none⟩) n cap) rs) {k : Nat} {x : DLodRef} (hk : rs[k]? = some x) : w.cell? ⟨g, k * 2, none⟩ = some (.int .i64 x.fKeeper) ∧ w.cell? ⟨g, k * 2 + 1, none⟩ = some (.string x.fName) := by
 obtain ⟨h1, h2⟩ := flatR_at hk
 have e1 := World.ownsRow.cells h (g := g) rfl _ _ h1
 have e2 := World.ownsRow.cells h (g := g) rfl _ _ h2
 rw [Addr.add_mid, Nat.zero_add] at e1 e2
 exact ⟨e1, e2⟩
theorem S_LodChain (x : DLodPlan) (v1 : Value) (r : DLodRef) (w : World) (s1 : Sl 2 rLodKeeper 0 w v1 x.fKeepers) (hn : r.fName.size ≤ maxLen) :
  Calls Tryz.prog 45 #[.agg #[v1], .agg #[.int .i64 r.fKeeper, .string r.fName]] w fun e w' => (∃ v, e = .returned v ∧ Refs w' w.heap.size v (lodChain x r)) ∧ Below w.heap.size w w' := by
 obtain ⟨a, len, cap, rfl⟩ := s1.form
 have HS := qhd s1
 clear s1
 obtain ⟨jw, hjw⟩ : ∃ jw, jw = lodFind x r.fKeeper r.fName := ⟨_, rfl⟩
 have FA : ∀ W, Below w.heap.size w W → Calls Tryz.prog 80 #[.agg #[.slice a len cap], .int .i64 r.fKeeper, .string r.fName] W fun e w' => e = .returned (refT jw) ∧ Below W.heap.size W w' := fun W hW => by
  rw [hjw]; exact S_LodFind x _ r.fKeeper r.fName W (HS.out.stays rLodKeeper_good (Keeps.of_below hW)) hn
 have HJ := qhd hjw
 clear hjw
 obtain ⟨⟨ak, an⟩, ac⟩ := jw
 unfold refT at FA
 dsimp only at FA
 obtain ⟨rk, rn⟩ := r
 dsimp only at FA hn ⊢
 refine qab fun R HR => ?_
 go_enter Tryz.func45, Tryz.ntmps45
 go_wp2_with fail
 refine (FA _ (bbel)).mono ?_
 rintro _ wA ⟨rfl, hA⟩
 have hEA : Below w.heap.size w wA := bbel
 have hAs := (hA).size; (try simp only [qsz] at hAs)
 obtain ⟨hAad, hAao, hAag, hAap, hAax, hAay, hAac1, hAaf1, hAaz1⟩ := bf2 (n := w.heap.size) hA
 by_cases ha : ac = 1
 ·obtain ⟨q, hq⟩ : ∃ q, q = (ak == rk && an.toList == rn.toList) := ⟨_, rfl⟩
  cases q
  ·have NO : Hid (lodChain x ⟨rk, rn⟩ = []) := qhd (by
    unfold lodChain
    dsimp only
    rw [← HJ.out]
    rw [if_pos ha, if_neg (show ¬ refEq ⟨ak, an⟩ ⟨rk, rn⟩ = true by unfold refEq; dsimp only; rw [← hq]; simp)])
   have hq2 := hq.symm
   clear hq HJ
   subst ha
   go_wp2
   all_goals first
    | (exfalso; simp_all; done)
    | skip
   all_goals (try go_returns)
   all_goals exact HR.out _ _ ⟨⟨_, rfl, by rw [NO.out]; exact ⟨rfl, Or.inr ⟨_, 0, #[], rfl, by omega, heap_top (by simp), Nat.le_refl _, by decide, rfl, rfl⟩⟩⟩, bbel⟩
  ·obtain ⟨TH, rs, hrs, hcs⟩ := lodChain_there (p := x) (r := ⟨rk, rn⟩) hn (by rw [← HJ.out]; exact ha) (by rw [← HJ.out]; exact hq.symm)
   have hok := (lodFind_there (p := x) (k := rk) (nm := rn) hn (by have := HJ.out; rw [← this]; exact ha)).1
   have hsame : (⟨ak, an⟩ : DLodRef) = ⟨rk, rn⟩ := refEq_iff.1 hq.symm
   obtain ⟨rfl, rfl⟩ : ak = rk ∧ an = rn := by cases hsame; exact ⟨rfl, rfl⟩
   have HTH := qhd TH
   have HRS := qhd hrs
   have HCS := qhd hcs
   have HOK := qhd hok
   subst ha
   clear hq HJ TH hrs hcs hsame hok
   go_wp2_with fail
   refine (S_l3Chain x _ ⟨ak, an⟩ _ (HS.out.stays rLodKeeper_good (Keeps.of_below (hEA.trans (bbel)))) HOK.out HTH.out).mono ?_
   rintro _ wB ⟨hB, v, rfl, hv⟩
   have hR := hv rs HRS.out
   have HRR : Hid (Refs wB w.heap.size v (lodChain x ⟨ak, an⟩)) := qhd (by rw [HCS.out]; exact hR.low (by simp; omega))
   have hBs := hB.size
   simp only [World.size_alloc] at hBs
   have hEB : Below w.heap.size w wB := bbel
   clear hv hR hB
   rw [show (chainR x ⟨ak, an⟩).isSome = true by rw [HRS.out]; rfl]
   go_wp2
   all_goals (try go_returns)
   all_goals exact HR.out _ _ ⟨⟨_, rfl, HRR.out⟩, hEB⟩
 ·have NO : Hid (lodChain x ⟨rk, rn⟩ = []) := qhd (by
   unfold lodChain
   dsimp only
   rw [← HJ.out]
   rw [if_neg ha])
  have ha2 : (ac == 1) = false := by simpa using ha
  have ha3 : (ac != 1) = true := by simpa using ha
  clear HJ
  go_wp2
  all_goals (try go_returns)
  all_goals exact HR.out _ _ ⟨⟨_, rfl, by rw [NO.out]; exact ⟨rfl, Or.inr ⟨_, 0, #[], rfl, by omega, heap_top (by simp), Nat.le_refl _, by decide, rfl, rfl⟩⟩⟩, bbel⟩



@[go_sem] theorem eg_tag : Tryz.prog.eqGuardType Tryz.prog.depth 165 = false := by kernel_rfl
@[go_sem] theorem eq_tag (a c : Int) (b d : ByteArray) (w : World) : (Op.equalIn 10000 165 (.agg #[.int .i64 a, .string b]) (.agg #[.int .i64 c, .string d])).run Tryz.prog w = .ok (a == c && b.toList == d.toList) w := by
 have iu3 := Tryz.underlying3
 have ia3 := Tryz.isAgg3
 have iz3 := Tryz.sizeOf3
 have iu9 := Tryz.underlying9
 have ia9 := Tryz.isAgg9
 have iz9 := Tryz.sizeOf9
 have hS : Tryz.prog.underlying 165 = some (.struct (Tryz.prog.fieldsOf 165)) := by kernel_rfl
 have hp : Tryz.prog.stoodInHeld 165 = false := by kernel_rfl
 rw [show (10000 : Nat) = 9999 + 1 from rfl, run_equalIn_agg w 9999 165 _ _ hS hp]
 simp only [Program.fieldsOf, Tryz.underlying165]
 go_simp
 by_cases h1 : a = c <;> by_cases h2 : b.toList = d.toList <;> simp [h1, h2]

def kndEq (a b : DKndKind) : Bool := a.fKind == b.fKind && a.fName.toList == b.fName.toList
def argAt (ys : List DKndKind) (k : Nat) (x : DKndKind) : Bool := match ys[k]? with | some y => kndEq x y | none => true
def sameArgs (xs ys : List DKndKind) : Bool := decide (xs.length = ys.length) && each (argAt ys) xs
def sameSig (a b : DClsMethod) : Bool := kndEq a.fRet b.fRet && sameArgs a.fArgs b.fArgs

theorem kndEq_iff {a b : DKndKind} : kndEq a b = true ↔ a = b := by
 obtain ⟨ak, an⟩ := a
 obtain ⟨bk, bn⟩ := b
 unfold kndEq
 simp only [Bool.and_eq_true, beq_iff_eq, DKndKind.mk.injEq]
 constructor
 ·rintro ⟨h1, h2⟩; exact ⟨h1, sameN_iff.1 (by simpa [sameN] using h2)⟩
 ·rintro ⟨h1, h2⟩; exact ⟨h1, by rw [h2]⟩

@[go_sem] theorem eg_knd : Tryz.prog.eqGuardType Tryz.prog.depth 59 = false := by kernel_rfl
@[go_sem] theorem eq_knd (a c : Int) (b d : ByteArray) (w : World) : (Op.equalIn 10000 59 (.agg #[.int .i64 a, .string b]) (.agg #[.int .i64 c, .string d])).run Tryz.prog w = .ok (a == c && b.toList == d.toList) w := by
 have iu3 := Tryz.underlying3
 have ia3 := Tryz.isAgg3
 have iz3 := Tryz.sizeOf3
 have iu9 := Tryz.underlying9
 have ia9 := Tryz.isAgg9
 have iz9 := Tryz.sizeOf9
 have hS : Tryz.prog.underlying 59 = some (.struct (Tryz.prog.fieldsOf 59)) := by kernel_rfl
 have hp : Tryz.prog.stoodInHeld 59 = false := by kernel_rfl
 rw [show (10000 : Nat) = 9999 + 1 from rfl, run_equalIn_agg w 9999 59 _ _ hS hp]
 simp only [Program.fieldsOf, Tryz.underlying59]
 go_simp
 by_cases h1 : a = c <;> by_cases h2 : b.toList = d.toList <;> simp [h1, h2]

theorem sameSig_len {m n : DClsMethod} (h : m.fArgs.length ≠ n.fArgs.length) : sameSig m n = false := by simp [sameSig, sameArgs, h]
theorem sameSig_ret {m n : DClsMethod} (h : kndEq m.fRet n.fRet = false) : sameSig m n = false := by simp [sameSig, h]
theorem sameSig_stop {m n : DClsMethod} (h : each (argAt n.fArgs) m.fArgs = false) : sameSig m n = false := by simp [sameSig, sameArgs, h]
theorem sameSig_done {m n : DClsMethod} (h1 : m.fArgs.length = n.fArgs.length) (h2 : kndEq m.fRet n.fRet = true) (h : each (argAt n.fArgs) m.fArgs = true) : sameSig m n = true := by simp [sameSig, sameArgs, h, h1, h2]

theorem S_l4Same (m n : DClsMethod) (v1 u1 : Value) (a2 a3 c2 c3 : Option Addr) (l2 l3 k2 k3 d2 d3 e2 e3 : Nat) (w : World) (s1 : Sl 2 rKndKind 0 w v1 m.fArgs) (t1 : Sl 2 rKndKind 0 w u1 n.fArgs) :
  Calls Tryz.prog 115 #[.agg #[.string m.fName, v1, .int .i64 m.fRet.fKind, .string m.fRet.fName, .int .i64 m.fLocals, .int .i64 m.fStack, .slice a2 l2 k2, .slice a3 l3 k3], .agg #[.string n.fName, u1, .int .i64 n.fRet.fKind, .string n.fRet.fName, .int .i64 n.fLocals, .int .i64 n.fStack, .slice c2 d2 e2, .slice c3 d3 e3]] w fun e w' => e = .returned (.bool (sameSig m n)) ∧ Below w.heap.size w w' := by
 obtain ⟨a, len, cap, rfl, hl, h1, h2, h3⟩ := id s1
 obtain ⟨a', len', cap', rfl, hl', h1', h2', h3'⟩ := id t1
 have m1 : len ≤ 9223372036854775807 := by unfold maxLen at h2; omega
 have m1' : len' ≤ 9223372036854775807 := by unfold maxLen at h2'; omega
 have HL := qhd hl
 have HL' := qhd hl'
 clear h2 hl h2' hl' h1 h1'
 obtain ⟨z, hz⟩ : ∃ z, z = sameSig m n := ⟨_, rfl⟩
 have HZ := qhd hz
 rw [← hz]
 clear hz
 by_cases hlen : ¬ len = len'
 ·have RV : Hid (z = false) := qhd (by rw [HZ.out]; exact sameSig_len (by rw [HL.out, HL'.out]; exact hlen))
  have i1 : ((len : Int) != (len' : Int)) = true := by simp; omega
  have i2 : ¬ (len : Int) = (len' : Int) := by omega
  refine qab fun R HR => ?_
  go_enter Tryz.func115, Tryz.ntmps115
  go_wp2
  all_goals (try go_returns)
  all_goals exact HR.out _ _ ⟨by first | (rw [RV.out]; done) | (rw [RV.out]; rfl), bbel⟩
 obtain rfl : len = len' := Decidable.byContradiction hlen
 clear hlen
 cases hr : kndEq m.fRet n.fRet
 ·have RV : Hid (z = false) := qhd (by rw [HZ.out]; exact sameSig_ret hr)
  have hq2 : (m.fRet.fKind == n.fRet.fKind && m.fRet.fName.toList == n.fRet.fName.toList) = false := hr
  clear hr
  have bo : ∀ W, (binOp .neq 59 (.agg #[.int .i64 m.fRet.fKind, .string m.fRet.fName]) (.agg #[.int .i64 n.fRet.fKind, .string n.fRet.fName])).run Tryz.prog W = .ok (.bool true) W := fun W => by
   simp only [run_neq_struct, eq_knd, hq2]
   try simp [Result.andThen]
  clear hq2
  refine qab fun R HR => ?_
  go_enter Tryz.func115, Tryz.ntmps115
  go_wp2
  all_goals (try go_returns)
  all_goals exact HR.out _ _ ⟨by first | (rw [RV.out]; done) | (rw [RV.out]; rfl), bbel⟩
 have HRET := qhd hr
 have hreq := kndEq_iff.1 hr
 have bo : ∀ W, (binOp .neq 59 (.agg #[.int .i64 m.fRet.fKind, .string m.fRet.fName]) (.agg #[.int .i64 n.fRet.fKind, .string n.fRet.fName])).run Tryz.prog W = .ok (.bool false) W := fun W => by
  rw [hreq]
  simp only [run_neq_struct, eq_knd]
  try simp [Result.andThen]
 clear hr hreq
 refine qab fun R HR => ?_
 go_enter Tryz.func115, Tryz.ntmps115
 go_wp2_with fail
 clear bo
 go_loopw [5] (fun i wr => ∃ k : Nat, k ≤ len ∧ i = .int .i64 k ∧ EachTo (argAt n.fArgs) m.fArgs k = true ∧ Below w.heap.size w wr ∧ wr.cell? ⟨w.heap.size, 1, none⟩ = some (.slice a len cap) ∧ wr.cell? ⟨w.heap.size + 1, 1, none⟩ = some (.slice a' len cap')) (fun i _ => len - (intOf i).toNat)
 case atStart => exact ⟨0, Nat.zero_le _, rfl, rfl, bbel, by go_simp, by go_simp⟩
 case round =>
  obtain ⟨k, hk, rfl, ha, hb, c1, c2'⟩ := hrel
  have HA := qhd ha
  clear ha
  have hbl := block_lt_of_cell c1
  have hbl2 := block_lt_of_cell c2'
  by_cases hlt : k < len
  ·obtain ⟨b, off, rfl, _, _, hr⟩ := h3.stays qap (Keeps.of_below hb) (by omega)
   obtain ⟨b', off', rfl, _, _, hr'⟩ := h3'.stays qap (Keeps.of_below hb) (by omega)
   obtain ⟨⟨xk, xn⟩, cs, e0, _, e1, e4⟩ := hr k hlt
   obtain ⟨⟨yk, yn⟩, cs', f0, _, f1, f4⟩ := hr' k hlt
   obtain ⟨rfl, _⟩ := e4
   obtain ⟨rfl, _⟩ := f4
   have q1 : wr.cell? ⟨b, off + k * 2, none⟩ = some (.int .i64 xk) := e1 0 _ rfl
   have q2 : wr.cell? ⟨b, off + k * 2 + 1, none⟩ = some (.string xn) := e1 1 _ rfl
   have q3 : wr.cell? ⟨b', off' + k * 2, none⟩ = some (.int .i64 yk) := f1 0 _ rfl
   have q4 : wr.cell? ⟨b', off' + k * 2 + 1, none⟩ = some (.string yn) := f1 1 _ rfl
   have E0 := qhd e0
   have F0 := qhd f0
   clear e0 e1 f0 f1 hr hr'
   cases hx : kndEq ⟨xk, xn⟩ ⟨yk, yn⟩
   ·have RV : Hid (z = false) := qhd (by rw [HZ.out]; exact sameSig_stop (qan E0.out (by unfold argAt; rw [F0.out]; exact hx)))
    have hq2 : (xk == yk && xn.toList == yn.toList) = false := hx
    have bo : ∀ W, (binOp .neq 59 (.agg #[.int .i64 xk, .string xn]) (.agg #[.int .i64 yk, .string yn])).run Tryz.prog W = .ok (.bool true) W := fun W => by
     simp only [run_neq_struct, eq_knd, hq2]
     try simp [Result.andThen]
    clear hq2 hx
    go_wp2_with fail
    go_region
    go_wp2
    all_goals (try go_returns)
    all_goals exact HR.out _ _ ⟨by first | (rw [RV.out]; done) | (rw [RV.out]; rfl), bbel⟩
   ·have heq := kndEq_iff.1 hx
    have HX := qhd hx
    cases heq
    clear hx
    have bo : ∀ W, (binOp .neq 59 (.agg #[.int .i64 xk, .string xn]) (.agg #[.int .i64 xk, .string xn])).run Tryz.prog W = .ok (.bool false) W := fun W => by
     simp only [run_neq_struct, eq_knd]
     try simp [Result.andThen]
    go_wp2_with fail
    go_region
    go_wp2
    go_roundw
    case measure => simp [intOf]; omega
    case rel => exact ⟨k + 1, by omega, by go_num, EachTo.step HA.out E0.out (by unfold argAt; rw [F0.out]; exact HX.out), bbel, by first | exact c1 | simpa using c1, by first | exact c2' | simpa using c2'⟩
  ·obtain rfl : k = len := by omega
   have RV : Hid (z = true) := qhd (by rw [HZ.out]; exact sameSig_done (HL.out.trans HL'.out.symm) HRET.out (qat HA.out HL.out))
   go_wp2
   all_goals (try go_returns)
   all_goals exact HR.out _ _ ⟨by first | (rw [RV.out]; done) | (rw [RV.out]; rfl), bbel⟩

theorem I_eqKnds (xs ys : List DKndKind) (v1 u1 : Value) (w : World) (s1 : Sl 2 rKndKind 0 w v1 xs) (t1 : Sl 2 rKndKind 0 w u1 ys) :
  Calls Tryz.prog 132 #[v1, u1] w fun e w' => e = .returned (.bool (sameArgs xs ys)) ∧ Below w.heap.size w w' := by
 obtain ⟨a, len, cap, rfl, hl, h1, h2, h3⟩ := id s1
 obtain ⟨a', len', cap', rfl, hl', h1', h2', h3'⟩ := id t1
 have m1 : len ≤ 9223372036854775807 := by unfold maxLen at h2; omega
 have m1' : len' ≤ 9223372036854775807 := by unfold maxLen at h2'; omega
 have HL := qhd hl
 have HL' := qhd hl'
 clear h2 hl h2' hl' h1 h1'
 obtain ⟨z, hz⟩ : ∃ z, z = sameArgs xs ys := ⟨_, rfl⟩
 have HZ := qhd hz
 rw [← hz]
 clear hz
 by_cases hlen : ¬ len = len'
 ·have RV : Hid (z = false) := qhd (by rw [HZ.out]; unfold sameArgs; rw [HL.out, HL'.out]; simp [hlen])
  have i1 : ((len : Int) != (len' : Int)) = true := by simp; omega
  have i2 : ¬ (len : Int) = (len' : Int) := by omega
  refine qab fun R HR => ?_
  go_enter Tryz.func132, Tryz.ntmps132
  go_wp2
  all_goals (try go_returns)
  all_goals exact HR.out _ _ ⟨by rw [RV.out]; rfl, bbel⟩
 obtain rfl : len = len' := Decidable.byContradiction hlen
 clear hlen
 refine qab fun R HR => ?_
 go_enter Tryz.func132, Tryz.ntmps132
 go_wp2_with fail
 go_loopw [5, 13] (fun _ i wr => ∃ k : Nat, k ≤ len ∧ i = .int .i64 k ∧ EachTo (argAt ys) xs k = true ∧ Below w.heap.size w wr) (fun _ i _ => len - (intOf i).toNat)
 case atStart => exact ⟨0, Nat.zero_le _, rfl, rfl, bbel⟩
 case round =>
  obtain ⟨k, hk, rfl, ha, hb⟩ := hrel
  have HA := qhd ha
  clear ha
  by_cases hlt : k < len
  ·obtain ⟨b, off, rfl, _, _, hr⟩ := h3.stays qap (Keeps.of_below hb) (by omega)
   obtain ⟨b', off', rfl, _, _, hr'⟩ := h3'.stays qap (Keeps.of_below hb) (by omega)
   obtain ⟨⟨xk, xn⟩, cs, e0, _, e1, e4⟩ := hr k hlt
   obtain ⟨⟨yk, yn⟩, cs', f0, _, f1, f4⟩ := hr' k hlt
   obtain ⟨rfl, _⟩ := e4
   obtain ⟨rfl, _⟩ := f4
   have q1 : wr.cell? ⟨b, off + k * 2, none⟩ = some (.int .i64 xk) := e1 0 _ rfl
   have q2 : wr.cell? ⟨b, off + k * 2 + 1, none⟩ = some (.string xn) := e1 1 _ rfl
   have q3 : wr.cell? ⟨b', off' + k * 2, none⟩ = some (.int .i64 yk) := f1 0 _ rfl
   have q4 : wr.cell? ⟨b', off' + k * 2 + 1, none⟩ = some (.string yn) := f1 1 _ rfl
   have E0 := qhd e0
   have F0 := qhd f0
   clear e0 e1 f0 f1 hr hr'
   cases hx : kndEq ⟨xk, xn⟩ ⟨yk, yn⟩
   ·have RV : Hid (z = false) := qhd (by rw [HZ.out]; unfold sameArgs; rw [qan E0.out (by unfold argAt; rw [F0.out]; exact hx)]; simp)
    have hq2 : (xk == yk && xn.toList == yn.toList) = false := hx
    have bo : ∀ W, (binOp .neq 59 (.agg #[.int .i64 xk, .string xn]) (.agg #[.int .i64 yk, .string yn])).run Tryz.prog W = .ok (.bool true) W := fun W => by
     simp only [run_neq_struct, eq_knd, hq2]
     try simp [Result.andThen]
    clear hq2 hx
    go_wp2_with fail
    go_region
    go_wp2
    all_goals (try go_returns)
    all_goals exact HR.out _ _ ⟨by first | (rw [RV.out]; done) | (rw [RV.out]; rfl), bbel⟩
   ·have heq := kndEq_iff.1 hx
    have HX := qhd hx
    cases heq
    clear hx
    have bo : ∀ W, (binOp .neq 59 (.agg #[.int .i64 xk, .string xn]) (.agg #[.int .i64 xk, .string xn])).run Tryz.prog W = .ok (.bool false) W := fun W => by
     simp only [run_neq_struct, eq_knd]
     try simp [Result.andThen]
    go_wp2_with fail
    go_region
    go_wp2
    go_roundw
    case measure => simp [intOf]; omega
    case rel => exact ⟨k + 1, by omega, by go_num, EachTo.step HA.out E0.out (by unfold argAt; rw [F0.out]; exact HX.out), bbel⟩
  ·obtain rfl : k = len := by omega
   have RV : Hid (z = true) := qhd (by rw [HZ.out]; unfold sameArgs; rw [qat HA.out HL.out, HL.out, HL'.out]; simp)
   go_wp2
   all_goals (try go_returns)
   all_goals exact HR.out _ _ ⟨by rw [RV.out]; rfl, bbel⟩

end Go.Proofs.YtmbfpbgkchncgaaGreat
