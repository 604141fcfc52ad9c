

/-
  What is enough for what, in plain words; the walks of the reference's l3Under, l5May and of the program's may. Condition: the data can be read.
-/
import Derived.Test.YtejfecmmcghpmaaGreatUnderS
namespace Go.Proofs.YtejfecmmcghpmaaGreat
set_option linter.unusedSimpArgs false
set_option linter.unusedVariables false
open Go.RowKit

@[go_sem] theorem eg_tag : Tryz.prog.eqGuardType Tryz.prog.depth 60 = false := by kernel_rfl
@[go_sem] theorem eq_tag (a c : Int) (b d : ByteArray) (w : World) : (Op.equalIn 10000 60 (.agg #[.int .i64 a, .string b]) (.agg #[.int .i64 c, .string d])).run Tryz.prog w = .ok (a == c && b.toList == d.toList) w := by
  have iu3 := Tryz.underlying3
  have ia3 := Tryz.isAgg3
  have iz3 := Tryz.sizeOf3
  have iu9 := Tryz.underlying9
  have ia9 := Tryz.isAgg9
  have iz9 := Tryz.sizeOf9
  have hS : Tryz.prog.underlying 60 = some (.struct (Tryz.prog.fieldsOf 60)) := by kernel_rfl
  have hp : Tryz.prog.stoodInHeld 60 = false := by kernel_rfl
  rw [show (10000 : Nat) = 9999 + 1 from rfl, run_equalIn_agg w 9999 60 _ _ hS hp]
  simp only [Program.fieldsOf, Tryz.underlying60]
  go_simp
  by_cases h1 : a = c <;> by_cases h2 : b.toList = d.toList <;> simp [h1, h2]

def tagEq (a b : DTagTag) : Bool := a.fKind == b.fKind && a.fName.toList == b.fName.toList
def mayF (p : DLodPlan) (x y : DLodRef × Int) : Bool := if x.2 = 1 then (if y.2 = 1 then lodUnder p x.1 y.1 else false) else false
def mayP (p : DLodPlan) (i : Nat) (a b : DTagTag) : Bool :=
  if b.fKind = 0 then true else if tagEq a b = true then true else if b.fKind = 2 then (if a.fKind = 3 then true else if a.fKind = 2 then mayF p (findR p i a.fName) (findR p i b.fName) else false) else false
def tagMay (p : DLodPlan) (k : Int) (a b : DTagTag) : Bool := lodOk p && inPlan p k && tagOk a.fKind a.fName && tagOk b.fKind b.fName && mayP p k.toNat a b

/-- what is found is found again by its keeper -/
theorem findR_again {p : DLodPlan} (h : lodOk p = true) {i : Nat} {nm : ByteArray} (hi : i < p.fKeepers.length) (hn : nm.size ≤ maxLen) (hc : (findR p i nm).2 = 1) :
    ∃ (j : Nat) (rs : List DLodRef), findR p i nm = (⟨(j : Int), nm⟩, 1) ∧ There p ⟨(j : Int), nm⟩ ∧ chainR p ⟨(j : Int), nm⟩ = some rs ∧ lodFind p (j : Int) nm = (⟨(j : Int), nm⟩, 1) ∧ lodChain p ⟨(j : Int), nm⟩ = rs := by
  obtain ⟨j, he, ht, rs, hr⟩ := findR_there h hi hn hc
  have hnm : namOk nm = true := by
    cases e : namOk nm with
    | true => rfl
    | false =>
      have := name_whose h e i
      unfold findR at hc
      rw [this] at hc
      simp at hc
  have hw : (whoseR p i nm) = (⟨(j : Int), nm⟩, 1) := by
    unfold findR at he
    by_cases h1 : (whoseR p i nm).2 = 1
    · rw [if_pos h1] at he
      split at he
      · exact he
      · simp at he
    · rw [if_neg h1] at he
      simp only [Prod.mk.injEq] at he
      exact absurd he.2 h1
  have hjn : j < p.fKeepers.length ∧ 0 ≤ ownN p nm j ∧ nxt p nm j < 0 := by
    unfold whoseR at hw
    by_cases h1 : (whose p i nm).1 = 1
    · rw [if_pos h1] at hw
      simp only [Prod.mk.injEq, DLodRef.mk.injEq] at hw
      have := whoseF_own h 4 i hi h1
      have e : (whoseF p nm 4 i).2 = j := by have := hw.1.1; unfold whose at this; omega
      rw [e] at this
      exact this
    · rw [if_neg h1] at hw
      simp only [Prod.mk.injEq] at hw
      exact absurd hw.2 h1
  obtain ⟨h1, h2, h3⟩ := hjn
  have hwj : whoseR p j nm = (⟨(j : Int), nm⟩, 1) := by
    have : whose p j nm = (1, j) := by
      unfold whose whoseF
      rw [if_pos h3, if_neg (by omega)]
    unfold whoseR
    rw [this]; rfl
  have hf : lodFind p (j : Int) nm = (⟨(j : Int), nm⟩, 1) := by
    unfold lodFind
    have hin : inPlan p (j : Int) = true := by unfold inPlan; simp; omega
    rw [h, hin, hnm]
    simp only [Bool.and_self, if_true, Int.toNat_natCast]
    unfold findR
    rw [hwj]
    simp [hr]
  refine ⟨j, rs, he, ht, hr, hf, ?_⟩
  unfold lodChain
  rw [hf]
  simp [refEq_self, hr]

set_option maxRecDepth 100000 in
set_option maxHeartbeats 8000000 in
theorem S_l3Under (p : DLodPlan) (v1 : Value) (r b : DLodRef) (rs : List DLodRef) (w : World) (s1 : Sl 2 rLodKeeper 0 w v1 p.fKeepers) (hp : lodOk p = true) (ht : There p r) (hr : chainR p r = some rs) :
    Calls Tryz.prog 78 #[.agg #[v1], .agg #[.int .i64 r.fKeeper, .string r.fName], .agg #[.int .i64 b.fKeeper, .string b.fName]] w fun e w' => e = .returned (.bool (rs.any fun x => refEq x b)) ∧ Below w.heap.size w w' := by
  obtain ⟨a, len, cap, rfl⟩ := s1.form
  have HS := Lib.hid s1
  have HP := Lib.hid hp
  have HT := Lib.hid ht
  have HRS := Lib.hid hr
  clear s1 hp ht hr
  obtain ⟨z, hz⟩ : ∃ z, z = rs.any fun x => refEq x b := ⟨_, rfl⟩
  rw [← hz]
  have HA : ∀ (W : World) (v : Value) (base : Nat), Refs W base v rs → Calls Tryz.prog 58 #[v, .agg #[.int .i64 b.fKeeper, .string b.fName]] W fun e w' => e = .returned (.bool z) ∧ Below W.heap.size W w' := fun W v base h => by
    rw [hz]; exact S_l3Has _ v base b W h
  clear hz
  refine calls_hide fun R HR => ?_
  go_enter Tryz.func78, Tryz.ntmps78
  go_wp2_with fail
  refine (S_l3Chain p _ r _ (HS.out.stays rLodKeeper_good (Keeps.of_below' (B := w.heap.size) (by (repeat' (first | (with_reducible exact Below.refl _ _) | (with_reducible refine Below.alloc ?_ ?_ _) | (with_reducible refine Below.setCell ?_ ?_ _) | (with_reducible refine Below.drew ?_) | (refine below_hyp (by assumption) ?_ ?_) | go_size))) (Nat.le_refl _))) HP.out HT.out).mono ?_
  rintro _ wB ⟨hB, v, rfl, hv⟩
  have hR := Lib.hid (hv rs HRS.out)
  have hEB : Below w.heap.size w wB := by (repeat' (first | (with_reducible exact Below.refl _ _) | (with_reducible refine Below.alloc ?_ ?_ _) | (with_reducible refine Below.setCell ?_ ?_ _) | (with_reducible refine Below.drew ?_) | (refine below_hyp (by assumption) ?_ ?_) | go_size))
  have hBs := (hB).size; (try simp only [World.size_alloc, World.size_setCell, World.size_drew] at hBs)
  obtain ⟨hBbc, hBbd, hBbo, hBbf, hBbg, hBbp, hBbz, hBbx, hBby⟩ := bfacts (n := w.heap.size) (k := 3) hB (by go_size) (by go_size); replace hBbd := hBbd (by decide); replace hBbg := hBbg (by decide); replace hBbx := hBbx (by decide); have hBbc1 := fun o => hBbc 1 o (by decide); have hBbf1 := fun o => hBbf 1 o (by decide); have hBbz1 := hBbz 1 (by decide); have hBbc2 := fun o => hBbc 2 o (by decide); have hBbf2 := fun o => hBbf 2 o (by decide); have hBbz2 := hBbz 2 (by decide); clear hBbc hBbf hBbz
  clear hv
  go_wp2_with fail
  refine (HA _ _ _ hR.out).mono ?_
  rintro _ wC ⟨rfl, hC⟩
  have hCs := (hC).size; (try simp only [World.size_alloc, World.size_setCell, World.size_drew] at hCs)
  go_wp2
  all_goals (try go_returns)
  all_goals exact HR.out _ _ ⟨rfl, by (repeat' (first | (with_reducible exact Below.refl _ _) | (with_reducible refine Below.alloc ?_ ?_ _) | (with_reducible refine Below.setCell ?_ ?_ _) | (with_reducible refine Below.drew ?_) | (refine below_hyp (by assumption) ?_ ?_) | go_size))⟩

set_option maxRecDepth 100000 in
set_option maxHeartbeats 8000000 in
theorem S_l5May (p : DLodPlan) (v1 : Value) (i : Nat) (a b : DTagTag) (w : World) (s1 : Sl 2 rLodKeeper 0 w v1 p.fKeepers) (hp : lodOk p = true) (hi : i < p.fKeepers.length) (ha : a.fName.size ≤ maxLen) (hb : b.fName.size ≤ maxLen) :
    Calls Tryz.prog 61 #[.agg #[v1], .int .i64 (i : Int), .agg #[.int .i64 a.fKind, .string a.fName], .agg #[.int .i64 b.fKind, .string b.fName]] w fun e w' => e = .returned (.bool (mayP p i a b)) ∧ Below w.heap.size w w' := by
  obtain ⟨sa, slen, scap, rfl⟩ := s1.form
  have HS := Lib.hid s1
  have HP := Lib.hid hp
  clear s1 hp
  obtain ⟨z, hz⟩ : ∃ z, z = mayP p i a b := ⟨_, rfl⟩
  rw [← hz]
  obtain ⟨ak, an⟩ := a
  obtain ⟨bk, bn⟩ := b
  dsimp only at ha hb ⊢
  have HNA := Lib.hid ha
  by_cases h0 : bk = 0
  · subst h0
    have RV : Hid (z = true) := Lib.hid (by rw [hz]; unfold mayP; dsimp only; rw [if_pos rfl])
    clear hz
    refine calls_hide fun R HR => ?_
    go_enter Tryz.func61, Tryz.ntmps61
    go_wp2
    all_goals (try go_returns)
    all_goals exact HR.out _ _ ⟨by rw [RV.out]; rfl, by (repeat' (first | (with_reducible exact Below.refl _ _) | (with_reducible refine Below.alloc ?_ ?_ _) | (with_reducible refine Below.setCell ?_ ?_ _) | (with_reducible refine Below.drew ?_) | (refine below_hyp (by assumption) ?_ ?_) | go_size))⟩
  have h0b : (bk == 0) = false := by simpa using h0
  by_cases hq : (ak == bk && an.toList == bn.toList) = true
  · have RV : Hid (z = true) := Lib.hid (by rw [hz]; unfold mayP; dsimp only; rw [if_neg h0, if_pos (show tagEq ⟨ak, an⟩ ⟨bk, bn⟩ = true from hq)])
    clear hz
    refine calls_hide fun R HR => ?_
    go_enter Tryz.func61, Tryz.ntmps61
    go_wp2
    all_goals first
      | (exfalso; simp_all; done)
      | skip
    all_goals (try go_returns)
    all_goals exact HR.out _ _ ⟨by rw [RV.out]; rfl, by (repeat' (first | (with_reducible exact Below.refl _ _) | (with_reducible refine Below.alloc ?_ ?_ _) | (with_reducible refine Below.setCell ?_ ?_ _) | (with_reducible refine Below.drew ?_) | (refine below_hyp (by assumption) ?_ ?_) | go_size))⟩
  have hqb : (ak == bk && an.toList == bn.toList) = false := by simpa using hq
  have hq' : ¬ tagEq ⟨ak, an⟩ ⟨bk, bn⟩ = true := hq
  clear hq
  by_cases h2 : bk = 2
  rotate_left
  · have h2b : (bk == 2) = false := by simpa using h2
    have h2c : (bk != 2) = true := by simpa using h2
    have RV : Hid (z = false) := Lib.hid (by rw [hz]; unfold mayP; dsimp only; rw [if_neg h0, if_neg hq', if_neg h2])
    clear hz hq' h0 h2
    refine calls_hide fun R HR => ?_
    go_enter Tryz.func61, Tryz.ntmps61
    go_wp2
    all_goals first
      | (exfalso; simp_all; done)
      | skip
    all_goals (try go_returns)
    all_goals exact HR.out _ _ ⟨by rw [RV.out]; rfl, by (repeat' (first | (with_reducible exact Below.refl _ _) | (with_reducible refine Below.alloc ?_ ?_ _) | (with_reducible refine Below.setCell ?_ ?_ _) | (with_reducible refine Below.drew ?_) | (refine below_hyp (by assumption) ?_ ?_) | go_size))⟩
  subst h2
  by_cases h3 : ak = 3
  · subst h3
    have RV : Hid (z = true) := Lib.hid (by rw [hz]; unfold mayP; dsimp only; rw [if_neg h0, if_neg hq', if_pos rfl, if_pos rfl])
    clear hz hq' h0
    refine calls_hide fun R HR => ?_
    go_enter Tryz.func61, Tryz.ntmps61
    go_wp2
    all_goals first
      | (exfalso; simp_all; done)
      | skip
    all_goals (try go_returns)
    all_goals exact HR.out _ _ ⟨by rw [RV.out]; rfl, by (repeat' (first | (with_reducible exact Below.refl _ _) | (with_reducible refine Below.alloc ?_ ?_ _) | (with_reducible refine Below.setCell ?_ ?_ _) | (with_reducible refine Below.drew ?_) | (refine below_hyp (by assumption) ?_ ?_) | go_size))⟩
  have h3b : (ak == 3) = false := by simpa using h3
  by_cases h4 : ak = 2
  rotate_left
  · have h4b : (ak == 2) = false := by simpa using h4
    have h4c : (ak != 2) = true := by simpa using h4
    have RV : Hid (z = false) := Lib.hid (by rw [hz]; unfold mayP; dsimp only; rw [if_neg h0, if_neg hq', if_pos rfl, if_neg h3, if_neg h4])
    clear hz hq' h0 h3 h4
    refine calls_hide fun R HR => ?_
    go_enter Tryz.func61, Tryz.ntmps61
    go_wp2
    all_goals first
      | (exfalso; simp_all; done)
      | skip
    all_goals (try go_returns)
    all_goals exact HR.out _ _ ⟨by rw [RV.out]; rfl, by (repeat' (first | (with_reducible exact Below.refl _ _) | (with_reducible refine Below.alloc ?_ ?_ _) | (with_reducible refine Below.setCell ?_ ?_ _) | (with_reducible refine Below.drew ?_) | (refine below_hyp (by assumption) ?_ ?_) | go_size))⟩
  subst h4
  have RV : Hid (z = mayF p (findR p i an) (findR p i bn)) := Lib.hid (by rw [hz]; unfold mayP; dsimp only; rw [if_neg h0, if_neg hq', if_pos rfl, if_neg h3, if_pos rfl])
  clear hz hq' h0 h3
  have hqd : ¬ an.toList = bn.toList := by simpa using hqb
  have hqc : (an.toList == bn.toList) = false := by simpa using hqd
  have FA : ∀ W, Below w.heap.size w W → Calls Tryz.prog 51 #[.agg #[.slice sa slen scap], .int .i64 (i : Int), .string an] W fun e w' => e = .returned (refT (findR p i an)) ∧ Below W.heap.size W w' := fun W hW => S_l3Find p _ i an W (HS.out.stays rLodKeeper_good (Keeps.of_below hW)) HP.out hi ha
  have FB : ∀ W, Below w.heap.size w W → Calls Tryz.prog 51 #[.agg #[.slice sa slen scap], .int .i64 (i : Int), .string bn] W fun e w' => e = .returned (refT (findR p i bn)) ∧ Below W.heap.size W w' := fun W hW => S_l3Find p _ i bn W (HS.out.stays rLodKeeper_good (Keeps.of_below hW)) HP.out hi hb
  have GA : (findR p i an).2 = 1 → ∃ (j : Nat) (rs : List DLodRef), findR p i an = (⟨(j : Int), an⟩, 1) ∧ There p ⟨(j : Int), an⟩ ∧ chainR p ⟨(j : Int), an⟩ = some rs ∧ lodFind p (j : Int) an = (⟨(j : Int), an⟩, 1) ∧ lodChain p ⟨(j : Int), an⟩ = rs := findR_again HP.out hi ha
  have HGA := Lib.hid GA
  clear GA
  obtain ⟨fa, hfa⟩ : ∃ fa, fa = findR p i an := ⟨_, rfl⟩
  obtain ⟨fb, hfb⟩ : ∃ fb, fb = findR p i bn := ⟨_, rfl⟩
  rw [← hfa] at FA RV HGA
  rw [← hfb] at FB RV
  clear hfa hfb
  obtain ⟨⟨xk, xn⟩, xc⟩ := fa
  obtain ⟨⟨yk, yn⟩, yc⟩ := fb
  unfold refT at FA FB
  dsimp only at FA FB
  refine calls_hide fun R HR => ?_
  go_enter Tryz.func61, Tryz.ntmps61
  go_wp2_with fail
  refine (FA _ (by (repeat' (first | (with_reducible exact Below.refl _ _) | (with_reducible refine Below.alloc ?_ ?_ _) | (with_reducible refine Below.setCell ?_ ?_ _) | (with_reducible refine Below.drew ?_) | (refine below_hyp (by assumption) ?_ ?_) | go_size)))).mono ?_
  rintro _ wA ⟨rfl, hA⟩
  have hEA : Below w.heap.size w wA := by (repeat' (first | (with_reducible exact Below.refl _ _) | (with_reducible refine Below.alloc ?_ ?_ _) | (with_reducible refine Below.setCell ?_ ?_ _) | (with_reducible refine Below.drew ?_) | (refine below_hyp (by assumption) ?_ ?_) | go_size))
  have hAs := (hA).size; (try simp only [World.size_alloc, World.size_setCell, World.size_drew] at hAs)
  obtain ⟨hAac, hAad, hAao, hAaf, hAag, hAap, hAaz, hAax, hAay⟩ := bfacts (n := w.heap.size) (k := 3) hA (by go_size) (by go_size); replace hAad := hAad (by decide); replace hAag := hAag (by decide); replace hAax := hAax (by decide); have hAac1 := fun o => hAac 1 o (by decide); have hAaf1 := fun o => hAaf 1 o (by decide); have hAaz1 := hAaz 1 (by decide); have hAac2 := fun o => hAac 2 o (by decide); have hAaf2 := fun o => hAaf 2 o (by decide); have hAaz2 := hAaz 2 (by decide); clear hAac hAaf hAaz
  go_wp2_with fail
  refine (FB _ (hEA.trans (by (repeat' (first | (with_reducible exact Below.refl _ _) | (with_reducible refine Below.alloc ?_ ?_ _) | (with_reducible refine Below.setCell ?_ ?_ _) | (with_reducible refine Below.drew ?_) | (refine below_hyp (by assumption) ?_ ?_) | go_size))))).mono ?_
  rintro _ wB ⟨rfl, hB⟩
  have hEB : Below w.heap.size w wB := by (repeat' (first | (with_reducible exact Below.refl _ _) | (with_reducible refine Below.alloc ?_ ?_ _) | (with_reducible refine Below.setCell ?_ ?_ _) | (with_reducible refine Below.drew ?_) | (refine below_hyp (by assumption) ?_ ?_) | go_size))
  have hBs := (hB).size; (try simp only [World.size_alloc, World.size_setCell, World.size_drew] at hBs)
  obtain ⟨hBbc, hBbd, hBbo, hBbf, hBbg, hBbp, hBbz, hBbx, hBby⟩ := bfacts (n := w.heap.size) (k := 3) hB (by go_size) (by go_size); replace hBbd := hBbd (by decide); replace hBbg := hBbg (by decide); replace hBbx := hBbx (by decide); have hBbc1 := fun o => hBbc 1 o (by decide); have hBbf1 := fun o => hBbf 1 o (by decide); have hBbz1 := hBbz 1 (by decide); have hBbc2 := fun o => hBbc 2 o (by decide); have hBbf2 := fun o => hBbf 2 o (by decide); have hBbz2 := hBbz 2 (by decide); clear hBbc hBbf hBbz
  obtain ⟨hBcc, hBcd, hBco, hBcf, hBcg, hBcp, hBcz, hBcx, hBcy⟩ := bfacts (n := wA.heap.size) (k := 1) hB (by go_size) (by go_size); replace hBcd := hBcd (by decide); replace hBcg := hBcg (by decide); replace hBcx := hBcx (by decide); clear hBcc hBcf hBcz
  by_cases ha : xc = 1
  rotate_left
  · have RV2 : Hid (z = false) := Lib.hid (by rw [RV.out]; unfold mayF; rw [if_neg ha])
    have ha2 : (xc == 1) = false := by simpa using ha
    have ha3 : (xc != 1) = true := by simpa using ha
    clear RV
    go_wp2
    all_goals (try go_returns)
    all_goals exact HR.out _ _ ⟨by rw [RV2.out]; rfl, by (repeat' (first | (with_reducible exact Below.refl _ _) | (with_reducible refine Below.alloc ?_ ?_ _) | (with_reducible refine Below.setCell ?_ ?_ _) | (with_reducible refine Below.drew ?_) | (refine below_hyp (by assumption) ?_ ?_) | go_size))⟩
  by_cases hb : yc = 1
  rotate_left
  · have RV2 : Hid (z = false) := Lib.hid (by rw [RV.out]; unfold mayF; rw [if_pos ha, if_neg hb])
    have hb2 : (yc == 1) = false := by simpa using hb
    have hb3 : (yc != 1) = true := by simpa using hb
    subst ha
    clear RV
    go_wp2
    all_goals (try go_returns)
    all_goals exact HR.out _ _ ⟨by rw [RV2.out]; rfl, by (repeat' (first | (with_reducible exact Below.refl _ _) | (with_reducible refine Below.alloc ?_ ?_ _) | (with_reducible refine Below.setCell ?_ ?_ _) | (with_reducible refine Below.drew ?_) | (refine below_hyp (by assumption) ?_ ?_) | go_size))⟩
  subst ha hb
  obtain ⟨j, rs, e1, ht, hrs, _, hc⟩ := HGA.out rfl
  obtain ⟨rfl, rfl⟩ : xk = (j : Int) ∧ xn = an := by simpa using e1
  have HT := Lib.hid ht
  have HRS := Lib.hid hrs
  have RV2 : Hid (z = rs.any fun x => refEq x ⟨yk, yn⟩) := Lib.hid (by rw [RV.out]; unfold mayF lodUnder; rw [if_pos rfl, if_pos rfl, hc])
  have RV3 : Hid (z = lodUnder p ⟨(j : Int), xn⟩ ⟨yk, yn⟩) := Lib.hid (by rw [RV.out]; unfold mayF; rw [if_pos rfl, if_pos rfl])
  clear RV HGA e1 ht hrs hc
  go_wp2_with fail
  refine (S_l3Under p _ ⟨(j : Int), xn⟩ ⟨yk, yn⟩ rs _ (HS.out.stays rLodKeeper_good (Keeps.of_below (by (repeat' (first | (with_reducible exact Below.refl _ _) | (with_reducible refine Below.alloc ?_ ?_ _) | (with_reducible refine Below.setCell ?_ ?_ _) | (with_reducible refine Below.drew ?_) | (refine below_hyp (by assumption) ?_ ?_) | go_size))))) HP.out HT.out HRS.out).mono ?_
  rintro _ wC ⟨rfl, hC⟩
  have hCs := (hC).size; (try simp only [World.size_alloc, World.size_setCell, World.size_drew] at hCs)
  go_wp2
  all_goals (try go_returns)
  all_goals exact HR.out _ _ ⟨by rw [RV2.out]; rfl, by (repeat' (first | (with_reducible exact Below.refl _ _) | (with_reducible refine Below.alloc ?_ ?_ _) | (with_reducible refine Below.setCell ?_ ?_ _) | (with_reducible refine Below.drew ?_) | (refine below_hyp (by assumption) ?_ ?_) | go_size))⟩

set_option maxRecDepth 100000 in
set_option maxHeartbeats 8000000 in
theorem I_may (p : DLodPlan) (L i : Nat) (a b : DTagTag) (w : World) (hl : Lodge w L p) (hp : lodOk p = true) (hi : i < p.fKeepers.length) (ha : a.fName.size ≤ maxLen) (hb : b.fName.size ≤ maxLen) :
    Calls Tryz.prog 63 #[.pointer (some ⟨L, 0, none⟩), .int .i64 (i : Int), .agg #[.int .i64 a.fKind, .string a.fName], .agg #[.int .i64 b.fKind, .string b.fName]] w fun e w' => e = .returned (.bool (mayP p i a b)) ∧ Below w.heap.size w w' := by
  have HL := Lib.hid hl
  have HP := Lib.hid hp
  clear hl hp
  have fk : ∀ (q : Nat) (nm : ByteArray), q < p.fKeepers.length → findK p (q : Int) nm = findR p q nm := fun q nm hq => by
    unfold findK
    rw [show inPlan p (q : Int) = true by unfold inPlan; simp; omega, Int.toNat_natCast]; rfl
  obtain ⟨z, hz⟩ : ∃ z, z = mayP p i a b := ⟨_, rfl⟩
  rw [← hz]
  obtain ⟨ak, an⟩ := a
  obtain ⟨bk, bn⟩ := b
  dsimp only at ha hb ⊢
  have HNA := Lib.hid ha
  by_cases h0 : bk = 0
  · subst h0
    have RV : Hid (z = true) := Lib.hid (by rw [hz]; unfold mayP; dsimp only; rw [if_pos rfl])
    clear hz
    refine calls_hide fun R HR => ?_
    go_enter Tryz.func63, Tryz.ntmps63
    go_wp2
    all_goals (try go_returns)
    all_goals exact HR.out _ _ ⟨by rw [RV.out]; rfl, by (repeat' (first | (with_reducible exact Below.refl _ _) | (with_reducible refine Below.alloc ?_ ?_ _) | (with_reducible refine Below.setCell ?_ ?_ _) | (with_reducible refine Below.drew ?_) | (refine below_hyp (by assumption) ?_ ?_) | go_size))⟩
  have h0b : (bk == 0) = false := by simpa using h0
  by_cases hq : (ak == bk && an.toList == bn.toList) = true
  · have RV : Hid (z = true) := Lib.hid (by rw [hz]; unfold mayP; dsimp only; rw [if_neg h0, if_pos (show tagEq ⟨ak, an⟩ ⟨bk, bn⟩ = true from hq)])
    clear hz
    refine calls_hide fun R HR => ?_
    go_enter Tryz.func63, Tryz.ntmps63
    go_wp2
    all_goals first
      | (exfalso; simp_all; done)
      | skip
    all_goals (try go_returns)
    all_goals exact HR.out _ _ ⟨by rw [RV.out]; rfl, by (repeat' (first | (with_reducible exact Below.refl _ _) | (with_reducible refine Below.alloc ?_ ?_ _) | (with_reducible refine Below.setCell ?_ ?_ _) | (with_reducible refine Below.drew ?_) | (refine below_hyp (by assumption) ?_ ?_) | go_size))⟩
  have hqb : (ak == bk && an.toList == bn.toList) = false := by simpa using hq
  have hq' : ¬ tagEq ⟨ak, an⟩ ⟨bk, bn⟩ = true := hq
  clear hq
  by_cases h2 : bk = 2
  rotate_left
  · have h2b : (bk == 2) = false := by simpa using h2
    have h2c : (bk != 2) = true := by simpa using h2
    have RV : Hid (z = false) := Lib.hid (by rw [hz]; unfold mayP; dsimp only; rw [if_neg h0, if_neg hq', if_neg h2])
    clear hz hq' h0 h2
    refine calls_hide fun R HR => ?_
    go_enter Tryz.func63, Tryz.ntmps63
    go_wp2
    all_goals first
      | (exfalso; simp_all; done)
      | skip
    all_goals (try go_returns)
    all_goals exact HR.out _ _ ⟨by rw [RV.out]; rfl, by (repeat' (first | (with_reducible exact Below.refl _ _) | (with_reducible refine Below.alloc ?_ ?_ _) | (with_reducible refine Below.setCell ?_ ?_ _) | (with_reducible refine Below.drew ?_) | (refine below_hyp (by assumption) ?_ ?_) | go_size))⟩
  subst h2
  by_cases h3 : ak = 3
  · subst h3
    have RV : Hid (z = true) := Lib.hid (by rw [hz]; unfold mayP; dsimp only; rw [if_neg h0, if_neg hq', if_pos rfl, if_pos rfl])
    clear hz hq' h0
    refine calls_hide fun R HR => ?_
    go_enter Tryz.func63, Tryz.ntmps63
    go_wp2
    all_goals first
      | (exfalso; simp_all; done)
      | skip
    all_goals (try go_returns)
    all_goals exact HR.out _ _ ⟨by rw [RV.out]; rfl, by (repeat' (first | (with_reducible exact Below.refl _ _) | (with_reducible refine Below.alloc ?_ ?_ _) | (with_reducible refine Below.setCell ?_ ?_ _) | (with_reducible refine Below.drew ?_) | (refine below_hyp (by assumption) ?_ ?_) | go_size))⟩
  have h3b : (ak == 3) = false := by simpa using h3
  by_cases h4 : ak = 2
  rotate_left
  · have h4b : (ak == 2) = false := by simpa using h4
    have h4c : (ak != 2) = true := by simpa using h4
    have RV : Hid (z = false) := Lib.hid (by rw [hz]; unfold mayP; dsimp only; rw [if_neg h0, if_neg hq', if_pos rfl, if_neg h3, if_neg h4])
    clear hz hq' h0 h3 h4
    refine calls_hide fun R HR => ?_
    go_enter Tryz.func63, Tryz.ntmps63
    go_wp2
    all_goals first
      | (exfalso; simp_all; done)
      | skip
    all_goals (try go_returns)
    all_goals exact HR.out _ _ ⟨by rw [RV.out]; rfl, by (repeat' (first | (with_reducible exact Below.refl _ _) | (with_reducible refine Below.alloc ?_ ?_ _) | (with_reducible refine Below.setCell ?_ ?_ _) | (with_reducible refine Below.drew ?_) | (refine below_hyp (by assumption) ?_ ?_) | go_size))⟩
  subst h4
  have RV : Hid (z = mayF p (findR p i an) (findR p i bn)) := Lib.hid (by rw [hz]; unfold mayP; dsimp only; rw [if_neg h0, if_neg hq', if_pos rfl, if_neg h3, if_pos rfl])
  clear hz hq' h0 h3
  have hqd : ¬ an.toList = bn.toList := by simpa using hqb
  have hqc : (an.toList == bn.toList) = false := by simpa using hqd
  have FA : ∀ W, Below w.heap.size w W → Calls Tryz.prog 52 #[.pointer (some ⟨L, 0, none⟩), .int .i64 (i : Int), .string an] W fun e w' => e = .returned (refT (findR p i an)) ∧ Below W.heap.size W w' := fun W hW => by
    rw [← fk i an hi]; exact I_find p L i an W (HL.out.below hW) HP.out ha
  have FB : ∀ W, Below w.heap.size w W → Calls Tryz.prog 52 #[.pointer (some ⟨L, 0, none⟩), .int .i64 (i : Int), .string bn] W fun e w' => e = .returned (refT (findR p i bn)) ∧ Below W.heap.size W w' := fun W hW => by
    rw [← fk i bn hi]; exact I_find p L i bn W (HL.out.below hW) HP.out hb
  have GA : (findR p i an).2 = 1 → ∃ (j : Nat) (rs : List DLodRef), findR p i an = (⟨(j : Int), an⟩, 1) ∧ There p ⟨(j : Int), an⟩ ∧ chainR p ⟨(j : Int), an⟩ = some rs ∧ lodFind p (j : Int) an = (⟨(j : Int), an⟩, 1) ∧ lodChain p ⟨(j : Int), an⟩ = rs := findR_again HP.out hi ha
  have HGA := Lib.hid GA
  clear GA
  obtain ⟨fa, hfa⟩ : ∃ fa, fa = findR p i an := ⟨_, rfl⟩
  obtain ⟨fb, hfb⟩ : ∃ fb, fb = findR p i bn := ⟨_, rfl⟩
  rw [← hfa] at FA RV HGA
  rw [← hfb] at FB RV
  clear hfa hfb fk
  obtain ⟨⟨xk, xn⟩, xc⟩ := fa
  obtain ⟨⟨yk, yn⟩, yc⟩ := fb
  unfold refT at FA FB
  dsimp only at FA FB
  refine calls_hide fun R HR => ?_
  go_enter Tryz.func63, Tryz.ntmps63
  go_wp2_with fail
  refine (FA _ (by (repeat' (first | (with_reducible exact Below.refl _ _) | (with_reducible refine Below.alloc ?_ ?_ _) | (with_reducible refine Below.setCell ?_ ?_ _) | (with_reducible refine Below.drew ?_) | (refine below_hyp (by assumption) ?_ ?_) | go_size)))).mono ?_
  rintro _ wA ⟨rfl, hA⟩
  have hEA : Below w.heap.size w wA := by (repeat' (first | (with_reducible exact Below.refl _ _) | (with_reducible refine Below.alloc ?_ ?_ _) | (with_reducible refine Below.setCell ?_ ?_ _) | (with_reducible refine Below.drew ?_) | (refine below_hyp (by assumption) ?_ ?_) | go_size))
  have hAs := (hA).size; (try simp only [World.size_alloc, World.size_setCell, World.size_drew] at hAs)
  obtain ⟨hAac, hAad, hAao, hAaf, hAag, hAap, hAaz, hAax, hAay⟩ := bfacts (n := w.heap.size) (k := 2) hA (by go_size) (by go_size); replace hAad := hAad (by decide); replace hAag := hAag (by decide); replace hAax := hAax (by decide); have hAac1 := fun o => hAac 1 o (by decide); have hAaf1 := fun o => hAaf 1 o (by decide); have hAaz1 := hAaz 1 (by decide); clear hAac hAaf hAaz
  go_wp2_with fail
  refine (FB _ (hEA.trans (by (repeat' (first | (with_reducible exact Below.refl _ _) | (with_reducible refine Below.alloc ?_ ?_ _) | (with_reducible refine Below.setCell ?_ ?_ _) | (with_reducible refine Below.drew ?_) | (refine below_hyp (by assumption) ?_ ?_) | go_size))))).mono ?_
  rintro _ wB ⟨rfl, hB⟩
  have hEB : Below w.heap.size w wB := by (repeat' (first | (with_reducible exact Below.refl _ _) | (with_reducible refine Below.alloc ?_ ?_ _) | (with_reducible refine Below.setCell ?_ ?_ _) | (with_reducible refine Below.drew ?_) | (refine below_hyp (by assumption) ?_ ?_) | go_size))
  have hBs := (hB).size; (try simp only [World.size_alloc, World.size_setCell, World.size_drew] at hBs)
  obtain ⟨hBbc, hBbd, hBbo, hBbf, hBbg, hBbp, hBbz, hBbx, hBby⟩ := bfacts (n := w.heap.size) (k := 2) hB (by go_size) (by go_size); replace hBbd := hBbd (by decide); replace hBbg := hBbg (by decide); replace hBbx := hBbx (by decide); have hBbc1 := fun o => hBbc 1 o (by decide); have hBbf1 := fun o => hBbf 1 o (by decide); have hBbz1 := hBbz 1 (by decide); clear hBbc hBbf hBbz
  obtain ⟨hBcc, hBcd, hBco, hBcf, hBcg, hBcp, hBcz, hBcx, hBcy⟩ := bfacts (n := wA.heap.size) (k := 1) hB (by go_size) (by go_size); replace hBcd := hBcd (by decide); replace hBcg := hBcg (by decide); replace hBcx := hBcx (by decide); clear hBcc hBcf hBcz
  by_cases ha : xc = 1
  rotate_left
  · have RV2 : Hid (z = false) := Lib.hid (by rw [RV.out]; unfold mayF; rw [if_neg ha])
    have ha2 : (xc == 1) = false := by simpa using ha
    have ha3 : (xc != 1) = true := by simpa using ha
    clear RV
    go_wp2
    all_goals (try go_returns)
    all_goals exact HR.out _ _ ⟨by rw [RV2.out]; rfl, by (repeat' (first | (with_reducible exact Below.refl _ _) | (with_reducible refine Below.alloc ?_ ?_ _) | (with_reducible refine Below.setCell ?_ ?_ _) | (with_reducible refine Below.drew ?_) | (refine below_hyp (by assumption) ?_ ?_) | go_size))⟩
  by_cases hb : yc = 1
  rotate_left
  · have RV2 : Hid (z = false) := Lib.hid (by rw [RV.out]; unfold mayF; rw [if_pos ha, if_neg hb])
    have hb2 : (yc == 1) = false := by simpa using hb
    have hb3 : (yc != 1) = true := by simpa using hb
    subst ha
    clear RV
    go_wp2
    all_goals (try go_returns)
    all_goals exact HR.out _ _ ⟨by rw [RV2.out]; rfl, by (repeat' (first | (with_reducible exact Below.refl _ _) | (with_reducible refine Below.alloc ?_ ?_ _) | (with_reducible refine Below.setCell ?_ ?_ _) | (with_reducible refine Below.drew ?_) | (refine below_hyp (by assumption) ?_ ?_) | go_size))⟩
  subst ha hb
  obtain ⟨j, rs, e1, ht, hrs, _, hc⟩ := HGA.out rfl
  obtain ⟨rfl, rfl⟩ : xk = (j : Int) ∧ xn = an := by simpa using e1
  have HT := Lib.hid ht
  have HRS := Lib.hid hrs
  have RV2 : Hid (z = rs.any fun x => refEq x ⟨yk, yn⟩) := Lib.hid (by rw [RV.out]; unfold mayF lodUnder; rw [if_pos rfl, if_pos rfl, hc])
  have RV3 : Hid (z = lodUnder p ⟨(j : Int), xn⟩ ⟨yk, yn⟩) := Lib.hid (by rw [RV.out]; unfold mayF; rw [if_pos rfl, if_pos rfl])
  clear RV HGA e1 ht hrs hc
  go_wp2_with fail
  refine (I_under p L ⟨(j : Int), xn⟩ ⟨yk, yn⟩ _ (HL.out.below (by (repeat' (first | (with_reducible exact Below.refl _ _) | (with_reducible refine Below.alloc ?_ ?_ _) | (with_reducible refine Below.setCell ?_ ?_ _) | (with_reducible refine Below.drew ?_) | (refine below_hyp (by assumption) ?_ ?_) | go_size)))) HP.out HNA.out).mono ?_
  rintro _ wC ⟨rfl, hC⟩
  have hCs := (hC).size; (try simp only [World.size_alloc, World.size_setCell, World.size_drew] at hCs)
  go_wp2
  all_goals (try go_returns)
  all_goals exact HR.out _ _ ⟨by rw [RV3.out]; rfl, by (repeat' (first | (with_reducible exact Below.refl _ _) | (with_reducible refine Below.alloc ?_ ?_ _) | (with_reducible refine Below.setCell ?_ ?_ _) | (with_reducible refine Below.drew ?_) | (refine below_hyp (by assumption) ?_ ?_) | go_size))⟩

end Go.Proofs.YtejfecmmcghpmaaGreat
