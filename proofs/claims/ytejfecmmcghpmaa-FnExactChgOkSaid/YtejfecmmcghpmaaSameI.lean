

/-
  The walks of the program's sameMap, sameMethod, ClsSame, and of slices.EqualFunc as they use it. Condition: the data can be read.
-/
import Derived.Test.YtejfecmmcghpmaaSame
namespace Go.Proofs.Ytejfecmmcghpmaa
set_option linter.unusedSimpArgs false
set_option linter.unusedVariables false
open Go.RowKit


set_option maxRecDepth 100000 in
set_option maxHeartbeats 4000000 in
theorem I_sameMap (x y : DClsMap) (v1 v2 u1 u2 : Value) (w : World) (s1 : Sl 2 rTagTag 0 w v1 x.fLocals) (s2 : Sl 2 rTagTag 0 w v2 x.fStack) (t1 : Sl 2 rTagTag 0 w u1 y.fLocals) (t2 : Sl 2 rTagTag 0 w u2 y.fStack) :
    Calls Try.prog 77 #[.agg #[.int .i64 x.fAt, v1, v2], .agg #[.int .i64 y.fAt, u1, u2]] w fun e w' => e = .returned (.bool (mapEq x y)) ∧ Below w.heap.size w w' := by
  obtain ⟨a1, l1, c1, rfl⟩ := s1.form
  obtain ⟨a2, l2, c2, rfl⟩ := s2.form
  obtain ⟨b1, m1, d1, rfl⟩ := t1.form
  obtain ⟨b2, m2, d2, rfl⟩ := t2.form
  obtain ⟨z, hz⟩ : ∃ z, z = mapEq x y := ⟨_, rfl⟩
  obtain ⟨qa, hqa⟩ : ∃ q, q = eqL tagEq x.fLocals y.fLocals := ⟨_, rfl⟩
  obtain ⟨qb, hqb⟩ : ∃ q, q = eqL tagEq x.fStack y.fStack := ⟨_, rfl⟩
  have CA : ∀ W, Below w.heap.size w W → Calls Try.prog 97 #[.slice a1 l1 c1, .slice b1 m1 d1] W fun e w' => e = .returned (.bool qa) ∧ Below W.heap.size W w' := fun W hW => by
    rw [hqa]; exact I_eqTagTagS _ _ _ _ W (s1.stays rTagTag_good (Keeps.of_below hW)) (t1.stays rTagTag_good (Keeps.of_below hW))
  have CB : ∀ W, Below w.heap.size w W → Calls Try.prog 97 #[.slice a2 l2 c2, .slice b2 m2 d2] W fun e w' => e = .returned (.bool qb) ∧ Below W.heap.size W w' := fun W hW => by
    rw [hqb]; exact I_eqTagTagS _ _ _ _ W (s2.stays rTagTag_good (Keeps.of_below hW)) (t2.stays rTagTag_good (Keeps.of_below hW))
  have HZ : Hid (z = (x.fAt == y.fAt && qa && qb)) := Lib.hid (by rw [hz, hqa, hqb]; rfl)
  rw [← hz]
  clear hz hqa hqb s1 s2 t1 t2
  refine calls_hide fun R HR => ?_
  go_enter Try.func77, Try.ntmps77
  by_cases hat : x.fAt = y.fAt
  rotate_left
  · have i1 : (x.fAt == y.fAt) = false := by simpa using hat
    have RV : Hid (z = false) := Lib.hid (by rw [HZ.out]; simp [i1])
    (go_wp2; (all_goals (try go_returns)); (all_goals exact HR.out _ _ ⟨by first | (rw [RV.out]; done) | (rw [RV.out]; rfl), by (repeat' (first | (with_reducible exact Below.refl _ _) | (with_reducible refine Below.alloc ?_ ?_ _) | (with_reducible refine Below.setCell ?_ ?_ _) | (with_reducible refine Below.drew ?_) | (refine below_hyp (by assumption) ?_ ?_) | go_size))⟩))
  have i1 : (x.fAt == y.fAt) = true := by simpa using hat
  rw [i1] at HZ
  clear hat
  go_wp2_with fail
  (with_reducible refine (CA _ (by (repeat' (first | (with_reducible exact Below.refl _ _) | (with_reducible refine Below.alloc ?_ ?_ _) | (with_reducible refine Below.setCell ?_ ?_ _) | (with_reducible refine Below.drew ?_) | (refine below_hyp (by assumption) ?_ ?_) | go_size)))).mono ?_)
  rintro _ w1 ⟨rfl, g1⟩
  have g1s := (g1).size; (try simp only [World.size_alloc, World.size_setCell, World.size_drew] at g1s)
  obtain ⟨g1ac, g1ad, g1ao, g1af, g1ag, g1ap, g1az, g1ax, g1ay⟩ := bfacts (n := w.heap.size) (k := 2) g1 (by go_size) (by go_size); replace g1ad := g1ad (by decide); replace g1ag := g1ag (by decide); replace g1ax := g1ax (by decide); have g1ac1 := fun o => g1ac 1 o (by decide); have g1af1 := fun o => g1af 1 o (by decide); have g1az1 := g1az 1 (by decide); clear g1ac g1af g1az
  clear g1ao g1ap
  cases qa
  · have RV : Hid (z = false) := Lib.hid (by rw [HZ.out]; rfl)
    (go_wp2; (all_goals (try go_returns)); (all_goals exact HR.out _ _ ⟨by first | (rw [RV.out]; done) | (rw [RV.out]; rfl), by (repeat' (first | (with_reducible exact Below.refl _ _) | (with_reducible refine Below.alloc ?_ ?_ _) | (with_reducible refine Below.setCell ?_ ?_ _) | (with_reducible refine Below.drew ?_) | (refine below_hyp (by assumption) ?_ ?_) | go_size))⟩))
  go_wp2_with fail
  (with_reducible refine (CB _ (by (repeat' (first | (with_reducible exact Below.refl _ _) | (with_reducible refine Below.alloc ?_ ?_ _) | (with_reducible refine Below.setCell ?_ ?_ _) | (with_reducible refine Below.drew ?_) | (refine below_hyp (by assumption) ?_ ?_) | go_size)))).mono ?_)
  rintro _ w2 ⟨rfl, g2⟩
  have g2s := (g2).size; (try simp only [World.size_alloc, World.size_setCell, World.size_drew] at g2s)
  obtain ⟨g2ac, g2ad, g2ao, g2af, g2ag, g2ap, g2az, g2ax, g2ay⟩ := bfacts (n := w.heap.size) (k := 2) g2 (by go_size) (by go_size); replace g2ad := g2ad (by decide); replace g2ag := g2ag (by decide); replace g2ax := g2ax (by decide); have g2ac1 := fun o => g2ac 1 o (by decide); have g2af1 := fun o => g2af 1 o (by decide); have g2az1 := g2az 1 (by decide); clear g2ac g2af g2az
  clear g2ao g2ap
  have RV : Hid (z = qb) := Lib.hid (by rw [HZ.out]; simp)
  go_wp2
  (all_goals (try go_returns)); (all_goals exact HR.out _ _ ⟨by first | (rw [RV.out]; done) | (rw [RV.out]; rfl), by (repeat' (first | (with_reducible exact Below.refl _ _) | (with_reducible refine Below.alloc ?_ ?_ _) | (with_reducible refine Below.setCell ?_ ?_ _) | (with_reducible refine Below.drew ?_) | (refine below_hyp (by assumption) ?_ ?_) | go_size))⟩)

set_option maxRecDepth 100000 in
set_option maxHeartbeats 8000000 in
theorem I_eqMaps (xs ys : List DClsMap) (v1 u1 : Value) (w : World) (s1 : Sl 3 rClsMap 0 w v1 xs) (t1 : Sl 3 rClsMap 0 w u1 ys) :
    Calls Try.prog 76 #[v1, u1, .func (.func 77) #[] #[]] w fun e w' => e = .returned (.bool (eqL mapEq xs ys)) ∧ Below w.heap.size w w' := by
  obtain ⟨a, len, cap, rfl, hl, h1, h2, h3⟩ := id s1
  obtain ⟨a', len', cap', rfl, hl', h1', h2', h3'⟩ := id t1
  have m1 : len ≤ 9223372036854775807 := by unfold maxLen at h2; omega
  have m1' : len' ≤ 9223372036854775807 := by unfold maxLen at h2'; omega
  have HL := Lib.hid hl
  have HL' := Lib.hid hl'
  clear h2 hl h2' hl' h1 h1'
  obtain ⟨z, hz⟩ : ∃ z, z = eqL mapEq xs ys := ⟨_, rfl⟩
  have HZ := Lib.hid hz
  rw [← hz]
  clear hz
  by_cases hlen : ¬ len = len'
  · have RV : Hid (z = false) := Lib.hid (by rw [HZ.out]; exact eqL_len (by rw [HL.out, HL'.out]; exact hlen))
    have i1 : ((len : Int) != (len' : Int)) = true := by simp; omega
    have i2 : ¬ (len : Int) = (len' : Int) := by omega
    refine calls_hide fun R HR => ?_
    go_enter Try.func76, Try.ntmps76
    go_wp2
    (all_goals (try go_returns)); (all_goals exact HR.out _ _ ⟨by first | (rw [RV.out]; done) | (rw [RV.out]; rfl), by (repeat' (first | (with_reducible exact Below.refl _ _) | (with_reducible refine Below.alloc ?_ ?_ _) | (with_reducible refine Below.setCell ?_ ?_ _) | (with_reducible refine Below.drew ?_) | (refine below_hyp (by assumption) ?_ ?_) | go_size))⟩)
  obtain rfl : len = len' := Decidable.byContradiction hlen
  clear hlen
  refine calls_hide fun R HR => ?_
  go_enter Try.func76, Try.ntmps76
  go_wp2_with fail
  go_loopw [17] (fun i wr => ∃ k : Nat, k ≤ len ∧ i = .int .i64 k ∧ EachTo (eqAt mapEq ys) xs k = true ∧ Below w.heap.size w wr) (fun i _ => len - (intOf i).toNat)
  case atStart => exact ⟨0, Nat.zero_le _, rfl, rfl, by (repeat' (first | (with_reducible exact Below.refl _ _) | (with_reducible refine Below.alloc ?_ ?_ _) | (with_reducible refine Below.setCell ?_ ?_ _) | (with_reducible refine Below.drew ?_) | (refine below_hyp (by assumption) ?_ ?_) | go_size))⟩
  case round =>
    obtain ⟨k, hk, rfl, ha, hb⟩ := hrel
    have HA := Lib.hid ha
    clear ha
    have hbx := hb.size
    by_cases hlt : k < len
    · obtain ⟨b, off, rfl, _, _, hr⟩ := h3.stays rClsMap_good (Keeps.of_below hb) (by omega)
      obtain ⟨b', off', rfl, _, _, hr'⟩ := h3'.stays rClsMap_good (Keeps.of_below hb) (by omega)
      obtain ⟨x, cs, e0, _, e1, e4⟩ := hr k hlt
      obtain ⟨y, cs', f0, _, f1, f4⟩ := hr' k hlt
      obtain ⟨x1, x2, rfl, p1, p2⟩ := e4
      obtain ⟨y1, y2, rfl, o1, o2⟩ := f4
      obtain ⟨a1, l1, c1, rfl⟩ := p1.form
      obtain ⟨a2, l2, c2, rfl⟩ := p2.form
      obtain ⟨b1, n1, d1, rfl⟩ := o1.form
      obtain ⟨b2, n2, d2, rfl⟩ := o2.form
      have q0 : wr.cell? ⟨b, off + k * 3, none⟩ = some (.int .i64 x.fAt) := e1 0 _ rfl
      have q1 : wr.cell? ⟨b, off + k * 3 + 1, none⟩ = some (.slice a1 l1 c1) := e1 1 _ rfl
      have q2 : wr.cell? ⟨b, off + k * 3 + 2, none⟩ = some (.slice a2 l2 c2) := e1 2 _ rfl
      have r0 : wr.cell? ⟨b', off' + k * 3, none⟩ = some (.int .i64 y.fAt) := f1 0 _ rfl
      have r1 : wr.cell? ⟨b', off' + k * 3 + 1, none⟩ = some (.slice b1 n1 d1) := f1 1 _ rfl
      have r2 : wr.cell? ⟨b', off' + k * 3 + 2, none⟩ = some (.slice b2 n2 d2) := f1 2 _ rfl
      have E0 := Lib.hid e0
      have F0 := Lib.hid f0
      obtain ⟨q, hq⟩ : ∃ q, q = mapEq x y := ⟨_, rfl⟩
      have CM : ∀ W, Below wr.heap.size wr W → Calls Try.prog 77 #[.agg #[.int .i64 x.fAt, .slice a1 l1 c1, .slice a2 l2 c2], .agg #[.int .i64 y.fAt, .slice b1 n1 d1, .slice b2 n2 d2]] W fun e w' => e = .returned (.bool q) ∧ Below W.heap.size W w' := fun W hW => by
        have hk := Keeps.of_below (lo := 0) hW
        rw [hq]; exact I_sameMap x y _ _ _ _ W (p1.stays rTagTag_good hk) (p2.stays rTagTag_good hk) (o1.stays rTagTag_good hk) (o2.stays rTagTag_good hk)
      have HQ := Lib.hid hq
      clear e0 e1 f0 f1 hr hr' hq p1 p2 o1 o2
      go_wp2_with fail
      refine (CM _ (by (repeat' (first | (with_reducible exact Below.refl _ _) | (with_reducible refine Below.alloc ?_ ?_ _) | (with_reducible refine Below.setCell ?_ ?_ _) | (with_reducible refine Below.drew ?_) | (refine below_hyp (by assumption) ?_ ?_) | go_size)))).mono ?_
      rintro _ wA ⟨rfl, hA⟩
      have hAs := (hA).size; (try simp only [World.size_alloc, World.size_setCell, World.size_drew] at hAs)
      have hE : Below w.heap.size w wA := by (repeat' (first | (with_reducible exact Below.refl _ _) | (with_reducible refine Below.alloc ?_ ?_ _) | (with_reducible refine Below.setCell ?_ ?_ _) | (with_reducible refine Below.drew ?_) | (refine below_hyp (by assumption) ?_ ?_) | go_size))
      clear q0 q1 q2 r0 r1 r2
      cases q
      · have RV : Hid (z = false) := Lib.hid (by rw [HZ.out]; exact eqL_stop (each_stop E0.out (by unfold eqAt; rw [F0.out]; exact HQ.out.symm)))
        go_wp2
        all_goals (try go_returns)
        all_goals exact HR.out _ _ ⟨by rw [RV.out]; rfl, hE⟩
      · go_wp2
        go_roundw
        case measure => simp [intOf]; omega
        case rel => exact ⟨k + 1, by omega, by go_num, EachTo.step HA.out E0.out (by unfold eqAt; rw [F0.out]; exact HQ.out.symm), hE⟩
    · obtain rfl : k = len := by omega
      have RV : Hid (z = true) := Lib.hid (by rw [HZ.out]; exact eqL_done (HL.out.trans HL'.out.symm) (each_done HA.out HL.out))
      go_wp2
      (all_goals (try go_returns)); (all_goals exact HR.out _ _ ⟨by first | (rw [RV.out]; done) | (rw [RV.out]; rfl), by (repeat' (first | (with_reducible exact Below.refl _ _) | (with_reducible refine Below.alloc ?_ ?_ _) | (with_reducible refine Below.setCell ?_ ?_ _) | (with_reducible refine Below.drew ?_) | (refine below_hyp (by assumption) ?_ ?_) | go_size))⟩)

set_option maxRecDepth 100000 in
set_option maxHeartbeats 8000000 in
theorem I_sameMethod (x y : DClsMethod) (v1 v2 v3 u1 u2 u3 : Value) (w : World) (s1 : Sl 2 rKndKind 0 w v1 x.fArgs) (s2 : Sl 4 rClsIns 0 w v2 x.fCode) (s3 : Sl 3 rClsMap 0 w v3 x.fMaps) (t1 : Sl 2 rKndKind 0 w u1 y.fArgs) (t2 : Sl 4 rClsIns 0 w u2 y.fCode) (t3 : Sl 3 rClsMap 0 w u3 y.fMaps) :
    Calls Try.prog 37 #[.agg #[.string x.fName, v1, .int .i64 x.fRet.fKind, .string x.fRet.fName, .int .i64 x.fLocals, .int .i64 x.fStack, v2, v3], .agg #[.string y.fName, u1, .int .i64 y.fRet.fKind, .string y.fRet.fName, .int .i64 y.fLocals, .int .i64 y.fStack, u2, u3]] w fun e w' => e = .returned (.bool (mthEq x y)) ∧ Below w.heap.size w w' := by
  obtain ⟨a1, l1, c1, rfl⟩ := s1.form
  obtain ⟨a2, l2, c2, rfl⟩ := s2.form
  obtain ⟨a3, l3, c3, rfl⟩ := s3.form
  obtain ⟨b1, m1, d1, rfl⟩ := t1.form
  obtain ⟨b2, m2, d2, rfl⟩ := t2.form
  obtain ⟨b3, m3, d3, rfl⟩ := t3.form
  obtain ⟨z, hz⟩ : ∃ z, z = mthEq x y := ⟨_, rfl⟩
  obtain ⟨qa, hqa⟩ : ∃ q, q = sameArgs x.fArgs y.fArgs := ⟨_, rfl⟩
  obtain ⟨qb, hqb⟩ : ∃ q, q = eqL insEq x.fCode y.fCode := ⟨_, rfl⟩
  obtain ⟨qc, hqc⟩ : ∃ q, q = eqL mapEq x.fMaps y.fMaps := ⟨_, rfl⟩
  obtain ⟨qn, hqn⟩ : ∃ q, q = (x.fName.toList == y.fName.toList) := ⟨_, rfl⟩
  obtain ⟨qr, hqr⟩ : ∃ q, q = kndEq x.fRet y.fRet := ⟨_, rfl⟩
  obtain ⟨ql, hql⟩ : ∃ q, q = (x.fLocals == y.fLocals) := ⟨_, rfl⟩
  obtain ⟨qs, hqs⟩ : ∃ q, q = (x.fStack == y.fStack) := ⟨_, rfl⟩
  have CA : ∀ W, Below w.heap.size w W → Calls Try.prog 74 #[.slice a1 l1 c1, .slice b1 m1 d1] W fun e w' => e = .returned (.bool qa) ∧ Below W.heap.size W w' := fun W hW => by
    rw [hqa]; exact I_eqKnds _ _ _ _ W (s1.stays rKndKind_good (Keeps.of_below hW)) (t1.stays rKndKind_good (Keeps.of_below hW))
  have CB : ∀ W, Below w.heap.size w W → Calls Try.prog 75 #[.slice a2 l2 c2, .slice b2 m2 d2] W fun e w' => e = .returned (.bool qb) ∧ Below W.heap.size W w' := fun W hW => by
    rw [hqb]; exact I_eqClsInsS _ _ _ _ W (s2.stays rClsIns_good (Keeps.of_below hW)) (t2.stays rClsIns_good (Keeps.of_below hW))
  have CC : ∀ W, Below w.heap.size w W → Calls Try.prog 76 #[.slice a3 l3 c3, .slice b3 m3 d3, .func (.func 77) #[] #[]] W fun e w' => e = .returned (.bool qc) ∧ Below W.heap.size W w' := fun W hW => by
    rw [hqc]; exact I_eqMaps _ _ _ _ W (s3.stays rClsMap_good (Keeps.of_below hW)) (t3.stays rClsMap_good (Keeps.of_below hW))
  have bo : ∀ W, (binOp .eql 44 (.agg #[.int .i64 x.fRet.fKind, .string x.fRet.fName]) (.agg #[.int .i64 y.fRet.fKind, .string y.fRet.fName])).run Try.prog W = .ok (.bool qr) W := fun W => by
    rw [hqr]
    simp only [run_eql_struct, eq_knd]
    try simp [kndEq]
  have HZ : Hid (z = (qn && (qr && qa) && ql && qs && qb && qc)) := Lib.hid (by rw [hz, hqa, hqb, hqc, hqn, hqr, hql, hqs]; rfl)
  rw [← hz]
  replace hqn := hqn.symm
  replace hql := hql.symm
  replace hqs := hqs.symm
  clear hz hqa hqb hqc hqr s1 s2 s3 t1 t2 t3
  refine calls_hide fun R HR => ?_
  go_enter Try.func37, Try.ntmps37
  cases qn
  · have RV : Hid (z = false) := Lib.hid (by rw [HZ.out]; rfl)
    (go_wp2; (all_goals (try go_returns)); (all_goals exact HR.out _ _ ⟨by first | (rw [RV.out]; done) | (rw [RV.out]; rfl), by (repeat' (first | (with_reducible exact Below.refl _ _) | (with_reducible refine Below.alloc ?_ ?_ _) | (with_reducible refine Below.setCell ?_ ?_ _) | (with_reducible refine Below.drew ?_) | (refine below_hyp (by assumption) ?_ ?_) | go_size))⟩))
  cases qr
  · have RV : Hid (z = false) := Lib.hid (by rw [HZ.out]; rfl)
    (go_wp2; (all_goals (try go_returns)); (all_goals exact HR.out _ _ ⟨by first | (rw [RV.out]; done) | (rw [RV.out]; rfl), by (repeat' (first | (with_reducible exact Below.refl _ _) | (with_reducible refine Below.alloc ?_ ?_ _) | (with_reducible refine Below.setCell ?_ ?_ _) | (with_reducible refine Below.drew ?_) | (refine below_hyp (by assumption) ?_ ?_) | go_size))⟩))
  cases ql
  · have RV : Hid (z = false) := Lib.hid (by rw [HZ.out]; simp)
    (go_wp2; (all_goals (try go_returns)); (all_goals exact HR.out _ _ ⟨by first | (rw [RV.out]; done) | (rw [RV.out]; rfl), by (repeat' (first | (with_reducible exact Below.refl _ _) | (with_reducible refine Below.alloc ?_ ?_ _) | (with_reducible refine Below.setCell ?_ ?_ _) | (with_reducible refine Below.drew ?_) | (refine below_hyp (by assumption) ?_ ?_) | go_size))⟩))
  cases qs
  · have RV : Hid (z = false) := Lib.hid (by rw [HZ.out]; simp)
    (go_wp2; (all_goals (try go_returns)); (all_goals exact HR.out _ _ ⟨by first | (rw [RV.out]; done) | (rw [RV.out]; rfl), by (repeat' (first | (with_reducible exact Below.refl _ _) | (with_reducible refine Below.alloc ?_ ?_ _) | (with_reducible refine Below.setCell ?_ ?_ _) | (with_reducible refine Below.drew ?_) | (refine below_hyp (by assumption) ?_ ?_) | go_size))⟩))
  go_wp2_with fail
  (with_reducible refine (CA _ (by (repeat' (first | (with_reducible exact Below.refl _ _) | (with_reducible refine Below.alloc ?_ ?_ _) | (with_reducible refine Below.setCell ?_ ?_ _) | (with_reducible refine Below.drew ?_) | (refine below_hyp (by assumption) ?_ ?_) | go_size)))).mono ?_)
  rintro _ w1 ⟨rfl, g1⟩
  have g1s := (g1).size; (try simp only [World.size_alloc, World.size_setCell, World.size_drew] at g1s)
  obtain ⟨g1ac, g1ad, g1ao, g1af, g1ag, g1ap, g1az, g1ax, g1ay⟩ := bfacts (n := w.heap.size) (k := 2) g1 (by go_size) (by go_size); replace g1ad := g1ad (by decide); replace g1ag := g1ag (by decide); replace g1ax := g1ax (by decide); have g1ac1 := fun o => g1ac 1 o (by decide); have g1af1 := fun o => g1af 1 o (by decide); have g1az1 := g1az 1 (by decide); clear g1ac g1af g1az
  clear g1ao g1ap
  cases qa
  · have RV : Hid (z = false) := Lib.hid (by rw [HZ.out]; simp)
    (go_wp2; (all_goals (try go_returns)); (all_goals exact HR.out _ _ ⟨by first | (rw [RV.out]; done) | (rw [RV.out]; rfl), by (repeat' (first | (with_reducible exact Below.refl _ _) | (with_reducible refine Below.alloc ?_ ?_ _) | (with_reducible refine Below.setCell ?_ ?_ _) | (with_reducible refine Below.drew ?_) | (refine below_hyp (by assumption) ?_ ?_) | go_size))⟩))
  go_wp2_with fail
  (with_reducible refine (CB _ (by (repeat' (first | (with_reducible exact Below.refl _ _) | (with_reducible refine Below.alloc ?_ ?_ _) | (with_reducible refine Below.setCell ?_ ?_ _) | (with_reducible refine Below.drew ?_) | (refine below_hyp (by assumption) ?_ ?_) | go_size)))).mono ?_)
  rintro _ w2 ⟨rfl, g2⟩
  have g2s := (g2).size; (try simp only [World.size_alloc, World.size_setCell, World.size_drew] at g2s)
  obtain ⟨g2ac, g2ad, g2ao, g2af, g2ag, g2ap, g2az, g2ax, g2ay⟩ := bfacts (n := w.heap.size) (k := 2) g2 (by go_size) (by go_size); replace g2ad := g2ad (by decide); replace g2ag := g2ag (by decide); replace g2ax := g2ax (by decide); have g2ac1 := fun o => g2ac 1 o (by decide); have g2af1 := fun o => g2af 1 o (by decide); have g2az1 := g2az 1 (by decide); clear g2ac g2af g2az
  clear g2ao g2ap
  cases qb
  · have RV : Hid (z = false) := Lib.hid (by rw [HZ.out]; simp)
    (go_wp2; (all_goals (try go_returns)); (all_goals exact HR.out _ _ ⟨by first | (rw [RV.out]; done) | (rw [RV.out]; rfl), by (repeat' (first | (with_reducible exact Below.refl _ _) | (with_reducible refine Below.alloc ?_ ?_ _) | (with_reducible refine Below.setCell ?_ ?_ _) | (with_reducible refine Below.drew ?_) | (refine below_hyp (by assumption) ?_ ?_) | go_size))⟩))
  go_wp2_with fail
  (with_reducible refine (CC _ (by (repeat' (first | (with_reducible exact Below.refl _ _) | (with_reducible refine Below.alloc ?_ ?_ _) | (with_reducible refine Below.setCell ?_ ?_ _) | (with_reducible refine Below.drew ?_) | (refine below_hyp (by assumption) ?_ ?_) | go_size)))).mono ?_)
  rintro _ w3 ⟨rfl, g3⟩
  have g3s := (g3).size; (try simp only [World.size_alloc, World.size_setCell, World.size_drew] at g3s)
  obtain ⟨g3ac, g3ad, g3ao, g3af, g3ag, g3ap, g3az, g3ax, g3ay⟩ := bfacts (n := w.heap.size) (k := 2) g3 (by go_size) (by go_size); replace g3ad := g3ad (by decide); replace g3ag := g3ag (by decide); replace g3ax := g3ax (by decide); have g3ac1 := fun o => g3ac 1 o (by decide); have g3af1 := fun o => g3af 1 o (by decide); have g3az1 := g3az 1 (by decide); clear g3ac g3af g3az
  clear g3ao g3ap
  have RV : Hid (z = qc) := Lib.hid (by rw [HZ.out]; simp)
  go_wp2
  (all_goals (try go_returns)); (all_goals exact HR.out _ _ ⟨by first | (rw [RV.out]; done) | (rw [RV.out]; rfl), by (repeat' (first | (with_reducible exact Below.refl _ _) | (with_reducible refine Below.alloc ?_ ?_ _) | (with_reducible refine Below.setCell ?_ ?_ _) | (with_reducible refine Below.drew ?_) | (refine below_hyp (by assumption) ?_ ?_) | go_size))⟩)

set_option maxRecDepth 100000 in
set_option maxHeartbeats 8000000 in
theorem I_eqMths (xs ys : List DClsMethod) (v1 u1 : Value) (w : World) (s1 : Sl 8 rClsMethod 0 w v1 xs) (t1 : Sl 8 rClsMethod 0 w u1 ys) :
    Calls Try.prog 36 #[v1, u1, .func (.func 37) #[] #[]] w fun e w' => e = .returned (.bool (eqL mthEq xs ys)) ∧ Below w.heap.size w w' := by
  obtain ⟨a, len, cap, rfl, hl, h1, h2, h3⟩ := id s1
  obtain ⟨a', len', cap', rfl, hl', h1', h2', h3'⟩ := id t1
  have m1 : len ≤ 9223372036854775807 := by unfold maxLen at h2; omega
  have m1' : len' ≤ 9223372036854775807 := by unfold maxLen at h2'; omega
  have HL := Lib.hid hl
  have HL' := Lib.hid hl'
  clear h2 hl h2' hl' h1 h1'
  obtain ⟨z, hz⟩ : ∃ z, z = eqL mthEq xs ys := ⟨_, rfl⟩
  have HZ := Lib.hid hz
  rw [← hz]
  clear hz
  by_cases hlen : ¬ len = len'
  · have RV : Hid (z = false) := Lib.hid (by rw [HZ.out]; exact eqL_len (by rw [HL.out, HL'.out]; exact hlen))
    have i1 : ((len : Int) != (len' : Int)) = true := by simp; omega
    have i2 : ¬ (len : Int) = (len' : Int) := by omega
    refine calls_hide fun R HR => ?_
    go_enter Try.func36, Try.ntmps36
    go_wp2
    (all_goals (try go_returns)); (all_goals exact HR.out _ _ ⟨by first | (rw [RV.out]; done) | (rw [RV.out]; rfl), by (repeat' (first | (with_reducible exact Below.refl _ _) | (with_reducible refine Below.alloc ?_ ?_ _) | (with_reducible refine Below.setCell ?_ ?_ _) | (with_reducible refine Below.drew ?_) | (refine below_hyp (by assumption) ?_ ?_) | go_size))⟩)
  obtain rfl : len = len' := Decidable.byContradiction hlen
  clear hlen
  refine calls_hide fun R HR => ?_
  go_enter Try.func36, Try.ntmps36
  go_wp2_with fail
  go_loopw [17] (fun i wr => ∃ k : Nat, k ≤ len ∧ i = .int .i64 k ∧ EachTo (eqAt mthEq ys) xs k = true ∧ Below w.heap.size w wr) (fun i _ => len - (intOf i).toNat)
  case atStart => exact ⟨0, Nat.zero_le _, rfl, rfl, by (repeat' (first | (with_reducible exact Below.refl _ _) | (with_reducible refine Below.alloc ?_ ?_ _) | (with_reducible refine Below.setCell ?_ ?_ _) | (with_reducible refine Below.drew ?_) | (refine below_hyp (by assumption) ?_ ?_) | go_size))⟩
  case round =>
    obtain ⟨k, hk, rfl, ha, hb⟩ := hrel
    have HA := Lib.hid ha
    clear ha
    have hbx := hb.size
    by_cases hlt : k < len
    · obtain ⟨b, off, rfl, _, _, hr⟩ := h3.stays rClsMethod_good (Keeps.of_below hb) (by omega)
      obtain ⟨b', off', rfl, _, _, hr'⟩ := h3'.stays rClsMethod_good (Keeps.of_below hb) (by omega)
      obtain ⟨x, cs, e0, _, e1, e4⟩ := hr k hlt
      obtain ⟨y, cs', f0, _, f1, f4⟩ := hr' k hlt
      obtain ⟨x1, x2, x3, rfl, p1, p2, p3, _, _⟩ := e4
      obtain ⟨y1, y2, y3, rfl, o1, o2, o3, _, _⟩ := f4
      obtain ⟨a1, l1, c1, rfl⟩ := p1.form
      obtain ⟨a2, l2, c2, rfl⟩ := p2.form
      obtain ⟨a3, l3, c3, rfl⟩ := p3.form
      obtain ⟨b1, n1, d1, rfl⟩ := o1.form
      obtain ⟨b2, n2, d2, rfl⟩ := o2.form
      obtain ⟨b3, n3, d3, rfl⟩ := o3.form
      have q0 : wr.cell? ⟨b, off + k * 8, none⟩ = some (.string x.fName) := e1 0 _ rfl
      have q1 : wr.cell? ⟨b, off + k * 8 + 1, none⟩ = some (.slice a1 l1 c1) := e1 1 _ rfl
      have q2 : wr.cell? ⟨b, off + k * 8 + 2, none⟩ = some (.int .i64 x.fRet.fKind) := e1 2 _ rfl
      have q3 : wr.cell? ⟨b, off + k * 8 + 3, none⟩ = some (.string x.fRet.fName) := e1 3 _ rfl
      have q4 : wr.cell? ⟨b, off + k * 8 + 4, none⟩ = some (.int .i64 x.fLocals) := e1 4 _ rfl
      have q5 : wr.cell? ⟨b, off + k * 8 + 5, none⟩ = some (.int .i64 x.fStack) := e1 5 _ rfl
      have q6 : wr.cell? ⟨b, off + k * 8 + 6, none⟩ = some (.slice a2 l2 c2) := e1 6 _ rfl
      have q7 : wr.cell? ⟨b, off + k * 8 + 7, none⟩ = some (.slice a3 l3 c3) := e1 7 _ rfl
      have r0 : wr.cell? ⟨b', off' + k * 8, none⟩ = some (.string y.fName) := f1 0 _ rfl
      have r1 : wr.cell? ⟨b', off' + k * 8 + 1, none⟩ = some (.slice b1 n1 d1) := f1 1 _ rfl
      have r2 : wr.cell? ⟨b', off' + k * 8 + 2, none⟩ = some (.int .i64 y.fRet.fKind) := f1 2 _ rfl
      have r3 : wr.cell? ⟨b', off' + k * 8 + 3, none⟩ = some (.string y.fRet.fName) := f1 3 _ rfl
      have r4 : wr.cell? ⟨b', off' + k * 8 + 4, none⟩ = some (.int .i64 y.fLocals) := f1 4 _ rfl
      have r5 : wr.cell? ⟨b', off' + k * 8 + 5, none⟩ = some (.int .i64 y.fStack) := f1 5 _ rfl
      have r6 : wr.cell? ⟨b', off' + k * 8 + 6, none⟩ = some (.slice b2 n2 d2) := f1 6 _ rfl
      have r7 : wr.cell? ⟨b', off' + k * 8 + 7, none⟩ = some (.slice b3 n3 d3) := f1 7 _ rfl
      have E0 := Lib.hid e0
      have F0 := Lib.hid f0
      obtain ⟨q, hq⟩ : ∃ q, q = mthEq x y := ⟨_, rfl⟩
      have CM : ∀ W, Below wr.heap.size wr W → Calls Try.prog 37 #[.agg #[.string x.fName, .slice a1 l1 c1, .int .i64 x.fRet.fKind, .string x.fRet.fName, .int .i64 x.fLocals, .int .i64 x.fStack, .slice a2 l2 c2, .slice a3 l3 c3], .agg #[.string y.fName, .slice b1 n1 d1, .int .i64 y.fRet.fKind, .string y.fRet.fName, .int .i64 y.fLocals, .int .i64 y.fStack, .slice b2 n2 d2, .slice b3 n3 d3]] W fun e w' => e = .returned (.bool q) ∧ Below W.heap.size W w' := fun W hW => by
        have hk := Keeps.of_below (lo := 0) hW
        rw [hq]; exact I_sameMethod x y _ _ _ _ _ _ W (p1.stays rKndKind_good hk) (p2.stays rClsIns_good hk) (p3.stays rClsMap_good hk) (o1.stays rKndKind_good hk) (o2.stays rClsIns_good hk) (o3.stays rClsMap_good hk)
      have HQ := Lib.hid hq
      clear e0 e1 f0 f1 hr hr' hq p1 p2 p3 o1 o2 o3
      go_wp2_with fail
      refine (CM _ (by (repeat' (first | (with_reducible exact Below.refl _ _) | (with_reducible refine Below.alloc ?_ ?_ _) | (with_reducible refine Below.setCell ?_ ?_ _) | (with_reducible refine Below.drew ?_) | (refine below_hyp (by assumption) ?_ ?_) | go_size)))).mono ?_
      rintro _ wA ⟨rfl, hA⟩
      have hAs := (hA).size; (try simp only [World.size_alloc, World.size_setCell, World.size_drew] at hAs)
      have hE : Below w.heap.size w wA := by (repeat' (first | (with_reducible exact Below.refl _ _) | (with_reducible refine Below.alloc ?_ ?_ _) | (with_reducible refine Below.setCell ?_ ?_ _) | (with_reducible refine Below.drew ?_) | (refine below_hyp (by assumption) ?_ ?_) | go_size))
      clear q0 q1 q2 q3 q4 q5 q6 q7 r0 r1 r2 r3 r4 r5 r6 r7
      cases q
      · have RV : Hid (z = false) := Lib.hid (by rw [HZ.out]; exact eqL_stop (each_stop E0.out (by unfold eqAt; rw [F0.out]; exact HQ.out.symm)))
        go_wp2
        all_goals (try go_returns)
        all_goals exact HR.out _ _ ⟨by rw [RV.out]; rfl, hE⟩
      · go_wp2
        go_roundw
        case measure => simp [intOf]; omega
        case rel => exact ⟨k + 1, by omega, by go_num, EachTo.step HA.out E0.out (by unfold eqAt; rw [F0.out]; exact HQ.out.symm), hE⟩
    · obtain rfl : k = len := by omega
      have RV : Hid (z = true) := Lib.hid (by rw [HZ.out]; exact eqL_done (HL.out.trans HL'.out.symm) (each_done HA.out HL.out))
      go_wp2
      (all_goals (try go_returns)); (all_goals exact HR.out _ _ ⟨by first | (rw [RV.out]; done) | (rw [RV.out]; rfl), by (repeat' (first | (with_reducible exact Below.refl _ _) | (with_reducible refine Below.alloc ?_ ?_ _) | (with_reducible refine Below.setCell ?_ ?_ _) | (with_reducible refine Below.drew ?_) | (refine below_hyp (by assumption) ?_ ?_) | go_size))⟩)

set_option maxRecDepth 100000 in
set_option maxHeartbeats 8000000 in
theorem I_ClsSame (x y : DClsClass) (v1 v2 u1 u2 : Value) (w : World) (s1 : Sl 3 rClsField 0 w v1 x.fFields) (s2 : Sl 8 rClsMethod 0 w v2 x.fMethods) (t1 : Sl 3 rClsField 0 w u1 y.fFields) (t2 : Sl 8 rClsMethod 0 w u2 y.fMethods) :
    Calls Try.prog 11 #[.agg #[.string x.fName, .string x.fSuper, v1, v2], .agg #[.string y.fName, .string y.fSuper, u1, u2]] w fun e w' => e = .returned (.bool (clsEq x y)) ∧ Below w.heap.size w w' := by
  obtain ⟨a1, l1, c1, rfl⟩ := s1.form
  obtain ⟨a2, l2, c2, rfl⟩ := s2.form
  obtain ⟨b1, m1, d1, rfl⟩ := t1.form
  obtain ⟨b2, m2, d2, rfl⟩ := t2.form
  obtain ⟨z, hz⟩ : ∃ z, z = clsEq x y := ⟨_, rfl⟩
  obtain ⟨qa, hqa⟩ : ∃ q, q = eqL fldEq x.fFields y.fFields := ⟨_, rfl⟩
  obtain ⟨qb, hqb⟩ : ∃ q, q = eqL mthEq x.fMethods y.fMethods := ⟨_, rfl⟩
  obtain ⟨qn, hqn⟩ : ∃ q, q = (x.fName.toList == y.fName.toList) := ⟨_, rfl⟩
  obtain ⟨qs, hqs⟩ : ∃ q, q = (x.fSuper.toList == y.fSuper.toList) := ⟨_, rfl⟩
  have CA : ∀ W, Below w.heap.size w W → Calls Try.prog 35 #[.slice a1 l1 c1, .slice b1 m1 d1] W fun e w' => e = .returned (.bool qa) ∧ Below W.heap.size W w' := fun W hW => by
    rw [hqa]; exact I_eqClsFieldS _ _ _ _ W (s1.stays rClsField_good (Keeps.of_below hW)) (t1.stays rClsField_good (Keeps.of_below hW))
  have CB : ∀ W, Below w.heap.size w W → Calls Try.prog 36 #[.slice a2 l2 c2, .slice b2 m2 d2, .func (.func 37) #[] #[]] W fun e w' => e = .returned (.bool qb) ∧ Below W.heap.size W w' := fun W hW => by
    rw [hqb]; exact I_eqMths _ _ _ _ W (s2.stays rClsMethod_good (Keeps.of_below hW)) (t2.stays rClsMethod_good (Keeps.of_below hW))
  have HZ : Hid (z = (qn && qs && qa && qb)) := Lib.hid (by rw [hz, hqa, hqb, hqn, hqs]; rfl)
  rw [← hz]
  replace hqn := hqn.symm
  replace hqs := hqs.symm
  clear hz hqa hqb s1 s2 t1 t2
  refine calls_hide fun R HR => ?_
  go_enter Try.func11, Try.ntmps11
  cases qn
  · have RV : Hid (z = false) := Lib.hid (by rw [HZ.out]; rfl)
    (go_wp2; (all_goals (try go_returns)); (all_goals exact HR.out _ _ ⟨by first | (rw [RV.out]; done) | (rw [RV.out]; rfl), by (repeat' (first | (with_reducible exact Below.refl _ _) | (with_reducible refine Below.alloc ?_ ?_ _) | (with_reducible refine Below.setCell ?_ ?_ _) | (with_reducible refine Below.drew ?_) | (refine below_hyp (by assumption) ?_ ?_) | go_size))⟩))
  cases qs
  · have RV : Hid (z = false) := Lib.hid (by rw [HZ.out]; rfl)
    (go_wp2; (all_goals (try go_returns)); (all_goals exact HR.out _ _ ⟨by first | (rw [RV.out]; done) | (rw [RV.out]; rfl), by (repeat' (first | (with_reducible exact Below.refl _ _) | (with_reducible refine Below.alloc ?_ ?_ _) | (with_reducible refine Below.setCell ?_ ?_ _) | (with_reducible refine Below.drew ?_) | (refine below_hyp (by assumption) ?_ ?_) | go_size))⟩))
  go_wp2_with fail
  (with_reducible refine (CA _ (by (repeat' (first | (with_reducible exact Below.refl _ _) | (with_reducible refine Below.alloc ?_ ?_ _) | (with_reducible refine Below.setCell ?_ ?_ _) | (with_reducible refine Below.drew ?_) | (refine below_hyp (by assumption) ?_ ?_) | go_size)))).mono ?_)
  rintro _ w1 ⟨rfl, g1⟩
  have g1s := (g1).size; (try simp only [World.size_alloc, World.size_setCell, World.size_drew] at g1s)
  obtain ⟨g1ac, g1ad, g1ao, g1af, g1ag, g1ap, g1az, g1ax, g1ay⟩ := bfacts (n := w.heap.size) (k := 2) g1 (by go_size) (by go_size); replace g1ad := g1ad (by decide); replace g1ag := g1ag (by decide); replace g1ax := g1ax (by decide); have g1ac1 := fun o => g1ac 1 o (by decide); have g1af1 := fun o => g1af 1 o (by decide); have g1az1 := g1az 1 (by decide); clear g1ac g1af g1az
  clear g1ao g1ap
  cases qa
  · have RV : Hid (z = false) := Lib.hid (by rw [HZ.out]; simp)
    (go_wp2; (all_goals (try go_returns)); (all_goals exact HR.out _ _ ⟨by first | (rw [RV.out]; done) | (rw [RV.out]; rfl), by (repeat' (first | (with_reducible exact Below.refl _ _) | (with_reducible refine Below.alloc ?_ ?_ _) | (with_reducible refine Below.setCell ?_ ?_ _) | (with_reducible refine Below.drew ?_) | (refine below_hyp (by assumption) ?_ ?_) | go_size))⟩))
  go_wp2_with fail
  (with_reducible refine (CB _ (by (repeat' (first | (with_reducible exact Below.refl _ _) | (with_reducible refine Below.alloc ?_ ?_ _) | (with_reducible refine Below.setCell ?_ ?_ _) | (with_reducible refine Below.drew ?_) | (refine below_hyp (by assumption) ?_ ?_) | go_size)))).mono ?_)
  rintro _ w2 ⟨rfl, g2⟩
  have g2s := (g2).size; (try simp only [World.size_alloc, World.size_setCell, World.size_drew] at g2s)
  obtain ⟨g2ac, g2ad, g2ao, g2af, g2ag, g2ap, g2az, g2ax, g2ay⟩ := bfacts (n := w.heap.size) (k := 2) g2 (by go_size) (by go_size); replace g2ad := g2ad (by decide); replace g2ag := g2ag (by decide); replace g2ax := g2ax (by decide); have g2ac1 := fun o => g2ac 1 o (by decide); have g2af1 := fun o => g2af 1 o (by decide); have g2az1 := g2az 1 (by decide); clear g2ac g2af g2az
  clear g2ao g2ap
  have RV : Hid (z = qb) := Lib.hid (by rw [HZ.out]; simp)
  go_wp2
  (all_goals (try go_returns)); (all_goals exact HR.out _ _ ⟨by first | (rw [RV.out]; done) | (rw [RV.out]; rfl), by (repeat' (first | (with_reducible exact Below.refl _ _) | (with_reducible refine Below.alloc ?_ ?_ _) | (with_reducible refine Below.setCell ?_ ?_ _) | (with_reducible refine Below.drew ?_) | (refine below_hyp (by assumption) ?_ ?_) | go_size))⟩)

end Go.Proofs.Ytejfecmmcghpmaa
