

/-
  What keepers agree on, in plain words; the walks of LnkAgree, the reference's and the program's. Condition: the data can be read.
-/
import Derived.Test.YtejfecmmcghpmaaGreatFindK
import Derived.Test.YtejfecmmcghpmaaGreatKndA
namespace Go.Proofs.YtejfecmmcghpmaaGreat
set_option linter.unusedSimpArgs false
set_option linter.unusedVariables false
open Go.RowKit

@[go_sem] theorem eg_ref : Tryz.prog.eqGuardType Tryz.prog.depth 35 = false := by kernel_rfl
@[go_sem] theorem eq_ref (a c : Int) (b d : ByteArray) (w : World) : (Op.equalIn 10000 35 (.agg #[.int .i64 a, .string b]) (.agg #[.int .i64 c, .string d])).run Tryz.prog w = .ok (a == c && b.toList == d.toList) w := by
  have iu3 := Tryz.underlying3
  have ia3 := Tryz.isAgg3
  have iz3 := Tryz.sizeOf3
  have iu9 := Tryz.underlying9
  have ia9 := Tryz.isAgg9
  have iz9 := Tryz.sizeOf9
  have hS : Tryz.prog.underlying 35 = some (.struct (Tryz.prog.fieldsOf 35)) := by kernel_rfl
  have hp : Tryz.prog.stoodInHeld 35 = false := by kernel_rfl
  rw [show (10000 : Nat) = 9999 + 1 from rfl, run_equalIn_agg w 9999 35 _ _ hS hp]
  simp only [Program.fieldsOf, Tryz.underlying35]
  go_simp
  by_cases h1 : a = c <;> by_cases h2 : b.toList = d.toList <;> simp [h1, h2]

def refEq (a b : DLodRef) : Bool := a.fKeeper == b.fKeeper && a.fName.toList == b.fName.toList
theorem refEq_self (a : DLodRef) : refEq a a = true := by simp [refEq]
def agreeV (a b : DLodRef × Int) : Bool := if a.2 = 1 then (if b.2 = 1 then refEq a.1 b.1 else false) else (if b.2 = 1 then false else true)
theorem agreeV_self (a : DLodRef × Int) : agreeV a a = true := by
  unfold agreeV
  by_cases h : a.2 = 1
  · rw [if_pos h, if_pos h]; exact refEq_self _
  · rw [if_neg h, if_neg h]
def agreeP (p : DLodPlan) (i j : Nat) (kd : DKndKind) : Bool := if kd.fKind = 1 then true else if i = j then true else agreeV (findR p i kd.fName) (findR p j kd.fName)
def lnkAgree (p : DLodPlan) (i j : Int) (kd : DKndKind) : Bool := lodOk p && inPlan p i && inPlan p j && kndOk kd.fKind kd.fName && agreeP p i.toNat j.toNat kd

set_option maxRecDepth 100000 in
set_option maxHeartbeats 8000000 in
theorem S_l4Agree (p : DLodPlan) (v1 : Value) (i j : Nat) (kd : DKndKind) (w : World) (s1 : Sl 2 rLodKeeper 0 w v1 p.fKeepers) (hp : lodOk p = true) (hi : i < p.fKeepers.length) (hj : j < p.fKeepers.length) (hn : kd.fName.size ≤ maxLen) :
    Calls Tryz.prog 54 #[.agg #[v1], .int .i64 (i : Int), .int .i64 (j : Int), .agg #[.int .i64 kd.fKind, .string kd.fName]] w fun e w' => e = .returned (.bool (agreeP p i j kd)) ∧ Below w.heap.size w w' := by
  obtain ⟨a, len, cap, rfl⟩ := s1.form
  have HP := Lib.hid hp
  have HS := Lib.hid s1
  obtain ⟨z, hz⟩ : ∃ z, z = agreeP p i j kd := ⟨_, rfl⟩
  rw [← hz]
  by_cases hk : kd.fKind = 1
  · have RV : Hid (z = true) := Lib.hid (by rw [hz]; unfold agreeP; rw [if_pos hk])
    clear hz
    refine calls_hide fun R HR => ?_
    go_enter Tryz.func54, Tryz.ntmps54
    go_wp2
    all_goals (try go_returns)
    all_goals exact HR.out _ _ ⟨by rw [RV.out]; rfl, by (repeat' (first | (with_reducible exact Below.refl _ _) | (with_reducible refine Below.alloc ?_ ?_ _) | (with_reducible refine Below.setCell ?_ ?_ _) | (with_reducible refine Below.drew ?_) | (refine below_hyp (by assumption) ?_ ?_) | go_size))⟩
  have hk2 : (kd.fKind == 1) = false := by simpa using hk
  by_cases hij : (i : Int) = (j : Int)
  · have RV : Hid (z = true) := Lib.hid (by rw [hz]; unfold agreeP; rw [if_neg hk, if_pos (by omega)])
    have hij2 : ((i : Int) == (j : Int)) = true := by simpa using hij
    clear hz
    refine calls_hide fun R HR => ?_
    go_enter Tryz.func54, Tryz.ntmps54
    go_wp2
    all_goals (try go_returns)
    all_goals exact HR.out _ _ ⟨by rw [RV.out]; rfl, by (repeat' (first | (with_reducible exact Below.refl _ _) | (with_reducible refine Below.alloc ?_ ?_ _) | (with_reducible refine Below.setCell ?_ ?_ _) | (with_reducible refine Below.drew ?_) | (refine below_hyp (by assumption) ?_ ?_) | go_size))⟩
  have hij2 : ((i : Int) == (j : Int)) = false := by simpa using hij
  have RV : Hid (z = agreeV (findR p i kd.fName) (findR p j kd.fName)) := Lib.hid (by rw [hz]; unfold agreeP; rw [if_neg hk, if_neg (by omega)])
  clear hz
  have FA : ∀ W, Below w.heap.size w W → Calls Tryz.prog 51 #[.agg #[.slice a len cap], .int .i64 (i : Int), .string kd.fName] W fun e w' => e = .returned (refT (findR p i kd.fName)) ∧ Below W.heap.size W w' := fun W hW => S_l3Find p _ i kd.fName W (HS.out.stays rLodKeeper_good (Keeps.of_below hW)) HP.out hi hn
  have FB : ∀ W, Below w.heap.size w W → Calls Tryz.prog 51 #[.agg #[.slice a len cap], .int .i64 (j : Int), .string kd.fName] W fun e w' => e = .returned (refT (findR p j kd.fName)) ∧ Below W.heap.size W w' := fun W hW => S_l3Find p _ j kd.fName W (HS.out.stays rLodKeeper_good (Keeps.of_below hW)) HP.out hj hn
  obtain ⟨fa, hfa⟩ : ∃ fa, fa = findR p i kd.fName := ⟨_, rfl⟩
  obtain ⟨fb, hfb⟩ : ∃ fb, fb = findR p j kd.fName := ⟨_, rfl⟩
  rw [← hfa] at FA RV
  rw [← hfb] at FB RV
  clear hfa hfb
  obtain ⟨⟨ak, an⟩, ac⟩ := fa
  obtain ⟨⟨bk, bn⟩, bc⟩ := fb
  unfold refT at FA FB
  dsimp only at FA FB
  refine calls_hide fun R HR => ?_
  go_enter Tryz.func54, Tryz.ntmps54
  go_wp2_with fail
  refine (FA _ (by (repeat' (first | (with_reducible exact Below.refl _ _) | (with_reducible refine Below.alloc ?_ ?_ _) | (with_reducible refine Below.setCell ?_ ?_ _) | (with_reducible refine Below.drew ?_) | (refine below_hyp (by assumption) ?_ ?_) | go_size)))).mono ?_
  rintro _ wA ⟨rfl, hA⟩
  have hEA : Below w.heap.size w wA := by (repeat' (first | (with_reducible exact Below.refl _ _) | (with_reducible refine Below.alloc ?_ ?_ _) | (with_reducible refine Below.setCell ?_ ?_ _) | (with_reducible refine Below.drew ?_) | (refine below_hyp (by assumption) ?_ ?_) | go_size))
  have hAs := (hA).size; (try simp only [World.size_alloc, World.size_setCell, World.size_drew] at hAs)
  obtain ⟨hAac, hAad, hAao, hAaf, hAag, hAap, hAaz, hAax, hAay⟩ := bfacts (n := w.heap.size) (k := 2) hA (by go_size) (by go_size); replace hAad := hAad (by decide); replace hAag := hAag (by decide); replace hAax := hAax (by decide); have hAac1 := fun o => hAac 1 o (by decide); have hAaf1 := fun o => hAaf 1 o (by decide); have hAaz1 := hAaz 1 (by decide); clear hAac hAaf hAaz
  go_wp2_with fail
  refine (FB _ (hEA.trans (by (repeat' (first | (with_reducible exact Below.refl _ _) | (with_reducible refine Below.alloc ?_ ?_ _) | (with_reducible refine Below.setCell ?_ ?_ _) | (with_reducible refine Below.drew ?_) | (refine below_hyp (by assumption) ?_ ?_) | go_size))))).mono ?_
  rintro _ wB ⟨rfl, hB⟩
  have hEB : Below w.heap.size w wB := by (repeat' (first | (with_reducible exact Below.refl _ _) | (with_reducible refine Below.alloc ?_ ?_ _) | (with_reducible refine Below.setCell ?_ ?_ _) | (with_reducible refine Below.drew ?_) | (refine below_hyp (by assumption) ?_ ?_) | go_size))
  have hBs := (hB).size; (try simp only [World.size_alloc, World.size_setCell, World.size_drew] at hBs)
  obtain ⟨hBbc, hBbd, hBbo, hBbf, hBbg, hBbp, hBbz, hBbx, hBby⟩ := bfacts (n := w.heap.size) (k := 2) hB (by go_size) (by go_size); replace hBbd := hBbd (by decide); replace hBbg := hBbg (by decide); replace hBbx := hBbx (by decide); have hBbc1 := fun o => hBbc 1 o (by decide); have hBbf1 := fun o => hBbf 1 o (by decide); have hBbz1 := hBbz 1 (by decide); clear hBbc hBbf hBbz
  obtain ⟨hBcc, hBcd, hBco, hBcf, hBcg, hBcp, hBcz, hBcx, hBcy⟩ := bfacts (n := wA.heap.size) (k := 1) hB (by go_size) (by go_size); replace hBcd := hBcd (by decide); replace hBcg := hBcg (by decide); replace hBcx := hBcx (by decide); clear hBcc hBcf hBcz
  by_cases ha : ac = 1
  · by_cases hb : bc = 1
    · have RV2 : Hid (z = (ak == bk && an.toList == bn.toList)) := Lib.hid (by rw [RV.out]; unfold agreeV; rw [if_pos ha, if_pos hb]; rfl)
      subst ha hb
      clear RV
      go_wp2
      all_goals (try go_returns)
      all_goals exact HR.out _ _ ⟨by rw [RV2.out]; first | rfl | exact ret_bool (by simp_all), by (repeat' (first | (with_reducible exact Below.refl _ _) | (with_reducible refine Below.alloc ?_ ?_ _) | (with_reducible refine Below.setCell ?_ ?_ _) | (with_reducible refine Below.drew ?_) | (refine below_hyp (by assumption) ?_ ?_) | go_size))⟩
    · have RV2 : Hid (z = false) := Lib.hid (by rw [RV.out]; unfold agreeV; rw [if_pos ha, if_neg hb])
      have hb2 : (bc == 1) = false := by simpa using hb
      have hb3 : (bc != 1) = true := by simpa using hb
      subst ha
      clear RV
      go_wp2
      all_goals (try go_returns)
      all_goals exact HR.out _ _ ⟨by rw [RV2.out]; rfl, by (repeat' (first | (with_reducible exact Below.refl _ _) | (with_reducible refine Below.alloc ?_ ?_ _) | (with_reducible refine Below.setCell ?_ ?_ _) | (with_reducible refine Below.drew ?_) | (refine below_hyp (by assumption) ?_ ?_) | go_size))⟩
  · have ha2 : (ac == 1) = false := by simpa using ha
    have ha3 : (ac != 1) = true := by simpa using ha
    by_cases hb : bc = 1
    · have RV2 : Hid (z = false) := Lib.hid (by rw [RV.out]; unfold agreeV; rw [if_neg ha, if_pos hb])
      subst hb
      clear RV
      go_wp2
      all_goals (try go_returns)
      all_goals exact HR.out _ _ ⟨by rw [RV2.out]; rfl, by (repeat' (first | (with_reducible exact Below.refl _ _) | (with_reducible refine Below.alloc ?_ ?_ _) | (with_reducible refine Below.setCell ?_ ?_ _) | (with_reducible refine Below.drew ?_) | (refine below_hyp (by assumption) ?_ ?_) | go_size))⟩
    · have RV2 : Hid (z = true) := Lib.hid (by rw [RV.out]; unfold agreeV; rw [if_neg ha, if_neg hb])
      have hb2 : (bc == 1) = false := by simpa using hb
      have hb3 : (bc != 1) = true := by simpa using hb
      clear RV
      go_wp2
      all_goals (try go_returns)
      all_goals exact HR.out _ _ ⟨by rw [RV2.out]; rfl, by (repeat' (first | (with_reducible exact Below.refl _ _) | (with_reducible refine Below.alloc ?_ ?_ _) | (with_reducible refine Below.setCell ?_ ?_ _) | (with_reducible refine Below.drew ?_) | (refine below_hyp (by assumption) ?_ ?_) | go_size))⟩

set_option maxRecDepth 100000 in
set_option maxHeartbeats 8000000 in
theorem I_agree (p : DLodPlan) (L i j : Nat) (kd : DKndKind) (w : World) (hl : Lodge w L p) (hp : lodOk p = true) (hi : i < p.fKeepers.length) (hj : j < p.fKeepers.length) (hn : kd.fName.size ≤ maxLen) :
    Calls Tryz.prog 57 #[.pointer (some ⟨L, 0, none⟩), .int .i64 (i : Int), .int .i64 (j : Int), .agg #[.int .i64 kd.fKind, .string kd.fName]] w fun e w' => e = .returned (.bool (agreeP p i j kd)) ∧ Below w.heap.size w w' := by
  have HP := Lib.hid hp
  have HL := Lib.hid hl
  clear hl hp
  obtain ⟨z, hz⟩ : ∃ z, z = agreeP p i j kd := ⟨_, rfl⟩
  rw [← hz]
  by_cases hk : kd.fKind = 1
  · have RV : Hid (z = true) := Lib.hid (by rw [hz]; unfold agreeP; rw [if_pos hk])
    clear hz
    refine calls_hide fun R HR => ?_
    go_enter Tryz.func57, Tryz.ntmps57
    go_wp2
    all_goals (try go_returns)
    all_goals exact HR.out _ _ ⟨by rw [RV.out]; rfl, by (repeat' (first | (with_reducible exact Below.refl _ _) | (with_reducible refine Below.alloc ?_ ?_ _) | (with_reducible refine Below.setCell ?_ ?_ _) | (with_reducible refine Below.drew ?_) | (refine below_hyp (by assumption) ?_ ?_) | go_size))⟩
  have hk2 : (kd.fKind == 1) = false := by simpa using hk
  have fk : ∀ q : Nat, q < p.fKeepers.length → findK p (q : Int) kd.fName = findR p q kd.fName := fun q hq => by
    unfold findK
    rw [show inPlan p (q : Int) = true by unfold inPlan; simp; omega, Int.toNat_natCast]; rfl
  have RV : Hid (z = agreeV (findR p i kd.fName) (findR p j kd.fName)) := Lib.hid (by
    rw [hz]; unfold agreeP; rw [if_neg hk]
    by_cases hij : i = j
    · rw [if_pos hij, hij, agreeV_self]
    · rw [if_neg hij])
  clear hz
  have FA : ∀ W, Below w.heap.size w W → Calls Tryz.prog 52 #[.pointer (some ⟨L, 0, none⟩), .int .i64 (i : Int), .string kd.fName] W fun e w' => e = .returned (refT (findR p i kd.fName)) ∧ Below W.heap.size W w' := fun W hW => by
    rw [← fk i hi]; exact I_find p L i kd.fName W (HL.out.below hW) HP.out hn
  have FB : ∀ W, Below w.heap.size w W → Calls Tryz.prog 52 #[.pointer (some ⟨L, 0, none⟩), .int .i64 (j : Int), .string kd.fName] W fun e w' => e = .returned (refT (findR p j kd.fName)) ∧ Below W.heap.size W w' := fun W hW => by
    rw [← fk j hj]; exact I_find p L j kd.fName W (HL.out.below hW) HP.out hn
  obtain ⟨fa, hfa⟩ : ∃ fa, fa = findR p i kd.fName := ⟨_, rfl⟩
  obtain ⟨fb, hfb⟩ : ∃ fb, fb = findR p j kd.fName := ⟨_, rfl⟩
  rw [← hfa] at FA RV
  rw [← hfb] at FB RV
  clear hfa hfb fk
  obtain ⟨⟨ak, an⟩, ac⟩ := fa
  obtain ⟨⟨bk, bn⟩, bc⟩ := fb
  unfold refT at FA FB
  dsimp only at FA FB
  refine calls_hide fun R HR => ?_
  go_enter Tryz.func57, Tryz.ntmps57
  go_wp2_with fail
  refine (FA _ (by (repeat' (first | (with_reducible exact Below.refl _ _) | (with_reducible refine Below.alloc ?_ ?_ _) | (with_reducible refine Below.setCell ?_ ?_ _) | (with_reducible refine Below.drew ?_) | (refine below_hyp (by assumption) ?_ ?_) | go_size)))).mono ?_
  rintro _ wA ⟨rfl, hA⟩
  have hEA : Below w.heap.size w wA := by (repeat' (first | (with_reducible exact Below.refl _ _) | (with_reducible refine Below.alloc ?_ ?_ _) | (with_reducible refine Below.setCell ?_ ?_ _) | (with_reducible refine Below.drew ?_) | (refine below_hyp (by assumption) ?_ ?_) | go_size))
  have hAs := (hA).size; (try simp only [World.size_alloc, World.size_setCell, World.size_drew] at hAs)
  obtain ⟨hAac, hAad, hAao, hAaf, hAag, hAap, hAaz, hAax, hAay⟩ := bfacts (n := w.heap.size) (k := 1) hA (by go_size) (by go_size); replace hAad := hAad (by decide); replace hAag := hAag (by decide); replace hAax := hAax (by decide); clear hAac hAaf hAaz
  go_wp2_with fail
  refine (FB _ (hEA.trans (by (repeat' (first | (with_reducible exact Below.refl _ _) | (with_reducible refine Below.alloc ?_ ?_ _) | (with_reducible refine Below.setCell ?_ ?_ _) | (with_reducible refine Below.drew ?_) | (refine below_hyp (by assumption) ?_ ?_) | go_size))))).mono ?_
  rintro _ wB ⟨rfl, hB⟩
  have hEB : Below w.heap.size w wB := by (repeat' (first | (with_reducible exact Below.refl _ _) | (with_reducible refine Below.alloc ?_ ?_ _) | (with_reducible refine Below.setCell ?_ ?_ _) | (with_reducible refine Below.drew ?_) | (refine below_hyp (by assumption) ?_ ?_) | go_size))
  have hBs := (hB).size; (try simp only [World.size_alloc, World.size_setCell, World.size_drew] at hBs)
  obtain ⟨hBbc, hBbd, hBbo, hBbf, hBbg, hBbp, hBbz, hBbx, hBby⟩ := bfacts (n := w.heap.size) (k := 1) hB (by go_size) (by go_size); replace hBbd := hBbd (by decide); replace hBbg := hBbg (by decide); replace hBbx := hBbx (by decide); clear hBbc hBbf hBbz
  obtain ⟨hBcc, hBcd, hBco, hBcf, hBcg, hBcp, hBcz, hBcx, hBcy⟩ := bfacts (n := wA.heap.size) (k := 1) hB (by go_size) (by go_size); replace hBcd := hBcd (by decide); replace hBcg := hBcg (by decide); replace hBcx := hBcx (by decide); clear hBcc hBcf hBcz
  by_cases ha : ac = 1
  · by_cases hb : bc = 1
    · have RV2 : Hid (z = (ak == bk && an.toList == bn.toList)) := Lib.hid (by rw [RV.out]; unfold agreeV; rw [if_pos ha, if_pos hb]; rfl)
      subst ha hb
      clear RV
      go_wp2
      all_goals (try go_returns)
      all_goals exact HR.out _ _ ⟨by rw [RV2.out]; first | rfl | exact ret_bool (by simp_all), by (repeat' (first | (with_reducible exact Below.refl _ _) | (with_reducible refine Below.alloc ?_ ?_ _) | (with_reducible refine Below.setCell ?_ ?_ _) | (with_reducible refine Below.drew ?_) | (refine below_hyp (by assumption) ?_ ?_) | go_size))⟩
    · have RV2 : Hid (z = false) := Lib.hid (by rw [RV.out]; unfold agreeV; rw [if_pos ha, if_neg hb])
      have hb2 : (bc == 1) = false := by simpa using hb
      have hb3 : (bc != 1) = true := by simpa using hb
      subst ha
      clear RV
      go_wp2
      all_goals (try go_returns)
      all_goals exact HR.out _ _ ⟨by rw [RV2.out]; rfl, by (repeat' (first | (with_reducible exact Below.refl _ _) | (with_reducible refine Below.alloc ?_ ?_ _) | (with_reducible refine Below.setCell ?_ ?_ _) | (with_reducible refine Below.drew ?_) | (refine below_hyp (by assumption) ?_ ?_) | go_size))⟩
  · have ha2 : (ac == 1) = false := by simpa using ha
    have ha3 : (ac != 1) = true := by simpa using ha
    by_cases hb : bc = 1
    · have RV2 : Hid (z = false) := Lib.hid (by rw [RV.out]; unfold agreeV; rw [if_neg ha, if_pos hb])
      subst hb
      clear RV
      go_wp2
      all_goals (try go_returns)
      all_goals exact HR.out _ _ ⟨by rw [RV2.out]; rfl, by (repeat' (first | (with_reducible exact Below.refl _ _) | (with_reducible refine Below.alloc ?_ ?_ _) | (with_reducible refine Below.setCell ?_ ?_ _) | (with_reducible refine Below.drew ?_) | (refine below_hyp (by assumption) ?_ ?_) | go_size))⟩
    · have RV2 : Hid (z = true) := Lib.hid (by rw [RV.out]; unfold agreeV; rw [if_neg ha, if_neg hb])
      have hb2 : (bc == 1) = false := by simpa using hb
      have hb3 : (bc != 1) = true := by simpa using hb
      clear RV
      go_wp2
      all_goals (try go_returns)
      all_goals exact HR.out _ _ ⟨by rw [RV2.out]; rfl, by (repeat' (first | (with_reducible exact Below.refl _ _) | (with_reducible refine Below.alloc ?_ ?_ _) | (with_reducible refine Below.setCell ?_ ?_ _) | (with_reducible refine Below.drew ?_) | (refine below_hyp (by assumption) ?_ ?_) | go_size))⟩

end Go.Proofs.YtejfecmmcghpmaaGreat
