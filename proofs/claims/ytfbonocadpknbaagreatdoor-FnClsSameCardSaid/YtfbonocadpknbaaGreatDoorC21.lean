/-
  Texts of mine, packed: SameI, SameS. No condition beside those of the single theorems.
-/
import Derived.Test.YtfbonocadpknbaaGreatDoorC18
set_option linter.unusedSimpArgs false
set_option linter.unusedVariables false
set_option maxHeartbeats 16000000
set_option maxRecDepth 100000
namespace Go.Proofs.YtfbonocadpknbaaGreatDoor
open Go.RowKit
theorem I_sameMap (x y : DClsMap) (v1 v2 u1 u2 : Value) (w : World) (s1 : Sl 2 rTagTag 0 w v1 x.fLocals) (s2 : Sl 2 rTagTag 0 w v2 x.fStack) (t1 : Sl 2 rTagTag 0 w u1 y.fLocals) (t2 : Sl 2 rTagTag 0 w u2 y.fStack) :
  Calls Tryz.prog 60 #[.agg #[.int .i64 x.fAt, v1, v2], .agg #[.int .i64 y.fAt, u1, u2]] w fun e w' => e = .returned (.bool (mapEq x y)) ∧ Below w.heap.size w w' := by
 obtain ⟨a1, l1, c1, rfl⟩ := s1.form
 obtain ⟨a2, l2, c2, rfl⟩ := s2.form
 obtain ⟨b1, m1, d1, rfl⟩ := t1.form
 obtain ⟨b2, m2, d2, rfl⟩ := t2.form
 obtain ⟨z, hz⟩ : ∃ z, z = mapEq x y := ⟨_, rfl⟩
 obtain ⟨qa, hqa⟩ : ∃ q, q = eqL tagEq x.fLocals y.fLocals := ⟨_, rfl⟩
 obtain ⟨qb, hqb⟩ : ∃ q, q = eqL tagEq x.fStack y.fStack := ⟨_, rfl⟩
 have CA : ∀ W, Below w.heap.size w W → Calls Tryz.prog 77 #[.slice a1 l1 c1, .slice b1 m1 d1] W fun e w' => e = .returned (.bool qa) ∧ Below W.heap.size W w' := fun W hW => by
  rw [hqa]; exact I_eqTagTagS _ _ _ _ W (s1.stays qaq (Keeps.of_below hW)) (t1.stays qaq (Keeps.of_below hW))
 have CB : ∀ W, Below w.heap.size w W → Calls Tryz.prog 77 #[.slice a2 l2 c2, .slice b2 m2 d2] W fun e w' => e = .returned (.bool qb) ∧ Below W.heap.size W w' := fun W hW => by
  rw [hqb]; exact I_eqTagTagS _ _ _ _ W (s2.stays qaq (Keeps.of_below hW)) (t2.stays qaq (Keeps.of_below hW))
 have HZ : Hid (z = (x.fAt == y.fAt && qa && qb)) := qhd (by rw [hz, hqa, hqb]; rfl)
 rw [← hz]
 clear hz hqa hqb s1 s2 t1 t2
 refine qab fun R HR => ?_
 go_enter Tryz.func60, Tryz.ntmps60
 by_cases hat : x.fAt = y.fAt
 rotate_left
 ·have i1 : (x.fAt == y.fAt) = false := by simpa using hat
  have RV : Hid (z = false) := qhd (by rw [HZ.out]; simp [i1])
  (go_wp2; (all_goals (try go_returns)); (all_goals exact HR.out _ _ ⟨by first | (rw [RV.out]; done) | (rw [RV.out]; rfl), bbel⟩))
 have i1 : (x.fAt == y.fAt) = true := by simpa using hat
 rw [i1] at HZ
 clear hat
 go_wp2_with fail
 (with_reducible refine (CA _ (bbel)).mono ?_)
 rintro _ w1 ⟨rfl, g1⟩
 have g1s := (g1).size; (try simp only [qsz] at g1s)
 obtain ⟨g1ad, g1ao, g1ag, g1ap, g1ax, g1ay, g1ac1, g1af1, g1az1⟩ := bf2 (n := w.heap.size) g1
 clear g1ao g1ap
 cases qa
 ·have RV : Hid (z = false) := qhd (by rw [HZ.out]; rfl)
  (go_wp2; (all_goals (try go_returns)); (all_goals exact HR.out _ _ ⟨by first | (rw [RV.out]; done) | (rw [RV.out]; rfl), bbel⟩))
 go_wp2_with fail
 (with_reducible refine (CB _ (bbel)).mono ?_)
 rintro _ w2 ⟨rfl, g2⟩
 have g2s := (g2).size; (try simp only [qsz] at g2s)
 obtain ⟨g2ad, g2ao, g2ag, g2ap, g2ax, g2ay, g2ac1, g2af1, g2az1⟩ := bf2 (n := w.heap.size) g2
 clear g2ao g2ap
 have RV : Hid (z = qb) := qhd (by rw [HZ.out]; simp)
 go_wp2
 (all_goals (try go_returns)); (all_goals exact HR.out _ _ ⟨by first | (rw [RV.out]; done) | (rw [RV.out]; rfl), bbel⟩)

theorem I_eqMaps (xs ys : List DClsMap) (v1 u1 : Value) (w : World) (s1 : Sl 3 rClsMap 0 w v1 xs) (t1 : Sl 3 rClsMap 0 w u1 ys) :
  Calls Tryz.prog 59 #[v1, u1, .func (.func 60) #[] #[]] w fun e w' => e = .returned (.bool (eqL mapEq xs ys)) ∧ Below w.heap.size w w' := by
 obtain ⟨a, len, cap, rfl, hl, h1, h2, h3⟩ := id s1
 obtain ⟨a', len', cap', rfl, hl', h1', h2', h3'⟩ := id t1
 have m1 : len ≤ 9223372036854775807 := by unfold maxLen at h2; omega
 have m1' : len' ≤ 9223372036854775807 := by unfold maxLen at h2'; omega
 have HL := qhd hl
 have HL' := qhd hl'
 clear h2 hl h2' hl' h1 h1'
 obtain ⟨z, hz⟩ : ∃ z, z = eqL mapEq xs ys := ⟨_, rfl⟩
 have HZ := qhd hz
 rw [← hz]
 clear hz
 by_cases hlen : ¬ len = len'
 ·have RV : Hid (z = false) := qhd (by rw [HZ.out]; exact eqL_len (by rw [HL.out, HL'.out]; exact hlen))
  have i1 : ((len : Int) != (len' : Int)) = true := by simp; omega
  have i2 : ¬ (len : Int) = (len' : Int) := by omega
  refine qab fun R HR => ?_
  go_enter Tryz.func59, Tryz.ntmps59
  go_wp2
  (all_goals (try go_returns)); (all_goals exact HR.out _ _ ⟨by first | (rw [RV.out]; done) | (rw [RV.out]; rfl), bbel⟩)
 obtain rfl : len = len' := Decidable.byContradiction hlen
 clear hlen
 refine qab fun R HR => ?_
 go_enter Tryz.func59, Tryz.ntmps59
 go_wp2_with fail
 go_loopw [17] (fun i wr => ∃ k : Nat, k ≤ len ∧ i = .int .i64 k ∧ EachTo (eqAt mapEq ys) xs k = true ∧ Below w.heap.size w wr) (fun i _ => len - (intOf i).toNat)
 case atStart => exact ⟨0, Nat.zero_le _, rfl, rfl, bbel⟩
 case round =>
  obtain ⟨k, hk, rfl, ha, hb⟩ := hrel
  have HA := qhd ha
  clear ha
  have hbx := hb.size
  by_cases hlt : k < len
  ·obtain ⟨b, off, rfl, _, _, hr⟩ := h3.stays qas (Keeps.of_below hb) (by omega)
   obtain ⟨b', off', rfl, _, _, hr'⟩ := h3'.stays qas (Keeps.of_below hb) (by omega)
   obtain ⟨x, cs, e0, _, e1, e4⟩ := hr k hlt
   obtain ⟨y, cs', f0, _, f1, f4⟩ := hr' k hlt
   obtain ⟨x1, x2, rfl, p1, p2⟩ := e4
   obtain ⟨y1, y2, rfl, o1, o2⟩ := f4
   obtain ⟨a1, l1, c1, rfl⟩ := p1.form
   obtain ⟨a2, l2, c2, rfl⟩ := p2.form
   obtain ⟨b1, n1, d1, rfl⟩ := o1.form
   obtain ⟨b2, n2, d2, rfl⟩ := o2.form
   have q0 : wr.cell? ⟨b, off + k * 3, none⟩ = some (.int .i64 x.fAt) := e1 0 _ rfl
   have q1 : wr.cell? ⟨b, off + k * 3 + 1, none⟩ = some (.slice a1 l1 c1) := e1 1 _ rfl
   have q2 : wr.cell? ⟨b, off + k * 3 + 2, none⟩ = some (.slice a2 l2 c2) := e1 2 _ rfl
   have r0 : wr.cell? ⟨b', off' + k * 3, none⟩ = some (.int .i64 y.fAt) := f1 0 _ rfl
   have r1 : wr.cell? ⟨b', off' + k * 3 + 1, none⟩ = some (.slice b1 n1 d1) := f1 1 _ rfl
   have r2 : wr.cell? ⟨b', off' + k * 3 + 2, none⟩ = some (.slice b2 n2 d2) := f1 2 _ rfl
   have E0 := qhd e0
   have F0 := qhd f0
   obtain ⟨q, hq⟩ : ∃ q, q = mapEq x y := ⟨_, rfl⟩
   have CM : ∀ W, Below wr.heap.size wr W → Calls Tryz.prog 60 #[.agg #[.int .i64 x.fAt, .slice a1 l1 c1, .slice a2 l2 c2], .agg #[.int .i64 y.fAt, .slice b1 n1 d1, .slice b2 n2 d2]] W fun e w' => e = .returned (.bool q) ∧ Below W.heap.size W w' := fun W hW => by
    have hk := Keeps.of_below (lo := 0) hW
    rw [hq]; exact I_sameMap x y _ _ _ _ W (p1.stays qaq hk) (p2.stays qaq hk) (o1.stays qaq hk) (o2.stays qaq hk)
   have HQ := qhd hq
   clear e0 e1 f0 f1 hr hr' hq p1 p2 o1 o2
   go_wp2_with fail
   refine (CM _ (bbel)).mono ?_
   rintro _ wA ⟨rfl, hA⟩
   have hAs := (hA).size; (try simp only [qsz] at hAs)
   have hE : Below w.heap.size w wA := bbel
   clear q0 q1 q2 r0 r1 r2
   cases q
   ·have RV : Hid (z = false) := qhd (by rw [HZ.out]; exact eqL_stop (qal E0.out (by unfold eqAt; rw [F0.out]; exact HQ.out.symm)))
    go_wp2
    all_goals (try go_returns)
    all_goals exact HR.out _ _ ⟨by rw [RV.out]; rfl, hE⟩
   ·go_wp2
    go_roundw
    case measure => simp [intOf]; omega
    case rel => exact ⟨k + 1, by omega, by go_num, EachTo.step HA.out E0.out (by unfold eqAt; rw [F0.out]; exact HQ.out.symm), hE⟩
  ·obtain rfl : k = len := by omega
   have RV : Hid (z = true) := qhd (by rw [HZ.out]; exact eqL_done (HL.out.trans HL'.out.symm) (qav HA.out HL.out))
   go_wp2
   (all_goals (try go_returns)); (all_goals exact HR.out _ _ ⟨by first | (rw [RV.out]; done) | (rw [RV.out]; rfl), bbel⟩)

theorem I_sameMethod (x y : DClsMethod) (v1 v2 v3 u1 u2 u3 : Value) (w : World) (s1 : Sl 2 rKndKind 0 w v1 x.fArgs) (s2 : Sl 4 rClsIns 0 w v2 x.fCode) (s3 : Sl 3 rClsMap 0 w v3 x.fMaps) (t1 : Sl 2 rKndKind 0 w u1 y.fArgs) (t2 : Sl 4 rClsIns 0 w u2 y.fCode) (t3 : Sl 3 rClsMap 0 w u3 y.fMaps) :
  Calls Tryz.prog 33 #[.agg #[.string x.fName, v1, .int .i64 x.fRet.fKind, .string x.fRet.fName, .int .i64 x.fLocals, .int .i64 x.fStack, v2, v3], .agg #[.string y.fName, u1, .int .i64 y.fRet.fKind, .string y.fRet.fName, .int .i64 y.fLocals, .int .i64 y.fStack, u2, u3]] w fun e w' => e = .returned (.bool (mthEq x y)) ∧ Below w.heap.size w w' := by
 obtain ⟨a1, l1, c1, rfl⟩ := s1.form
 obtain ⟨a2, l2, c2, rfl⟩ := s2.form
 obtain ⟨a3, l3, c3, rfl⟩ := s3.form
 obtain ⟨b1, m1, d1, rfl⟩ := t1.form
 obtain ⟨b2, m2, d2, rfl⟩ := t2.form
 obtain ⟨b3, m3, d3, rfl⟩ := t3.form
 obtain ⟨z, hz⟩ : ∃ z, z = mthEq x y := ⟨_, rfl⟩
 obtain ⟨qa, hqa⟩ : ∃ q, q = sameArgs x.fArgs y.fArgs := ⟨_, rfl⟩
 obtain ⟨qb, hqb⟩ : ∃ q, q = eqL insEq x.fCode y.fCode := ⟨_, rfl⟩
 obtain ⟨qc, hqc⟩ : ∃ q, q = eqL mapEq x.fMaps y.fMaps := ⟨_, rfl⟩
 obtain ⟨qn, hqn⟩ : ∃ q, q = (x.fName.toList == y.fName.toList) := ⟨_, rfl⟩
 obtain ⟨qr, hqr⟩ : ∃ q, q = kndEq x.fRet y.fRet := ⟨_, rfl⟩
 obtain ⟨ql, hql⟩ : ∃ q, q = (x.fLocals == y.fLocals) := ⟨_, rfl⟩
 obtain ⟨qs, hqs⟩ : ∃ q, q = (x.fStack == y.fStack) := ⟨_, rfl⟩
 have CA : ∀ W, Below w.heap.size w W → Calls Tryz.prog 57 #[.slice a1 l1 c1, .slice b1 m1 d1] W fun e w' => e = .returned (.bool qa) ∧ Below W.heap.size W w' := fun W hW => by
  rw [hqa]; exact I_eqKnds _ _ _ _ W (s1.stays qar (Keeps.of_below hW)) (t1.stays qar (Keeps.of_below hW))
 have CB : ∀ W, Below w.heap.size w W → Calls Tryz.prog 58 #[.slice a2 l2 c2, .slice b2 m2 d2] W fun e w' => e = .returned (.bool qb) ∧ Below W.heap.size W w' := fun W hW => by
  rw [hqb]; exact I_eqClsInsS _ _ _ _ W (s2.stays qau (Keeps.of_below hW)) (t2.stays qau (Keeps.of_below hW))
 have CC : ∀ W, Below w.heap.size w W → Calls Tryz.prog 59 #[.slice a3 l3 c3, .slice b3 m3 d3, .func (.func 60) #[] #[]] W fun e w' => e = .returned (.bool qc) ∧ Below W.heap.size W w' := fun W hW => by
  rw [hqc]; exact I_eqMaps _ _ _ _ W (s3.stays qas (Keeps.of_below hW)) (t3.stays qas (Keeps.of_below hW))
 have bo : ∀ W, (binOp .eql 61 (.agg #[.int .i64 x.fRet.fKind, .string x.fRet.fName]) (.agg #[.int .i64 y.fRet.fKind, .string y.fRet.fName])).run Tryz.prog W = .ok (.bool qr) W := fun W => by
  rw [hqr]
  simp only [run_eql_struct, eq_knd]
  try simp [kndEq]
 have HZ : Hid (z = (qn && (qr && qa) && ql && qs && qb && qc)) := qhd (by rw [hz, hqa, hqb, hqc, hqn, hqr, hql, hqs]; rfl)
 rw [← hz]
 replace hqn := hqn.symm
 replace hql := hql.symm
 replace hqs := hqs.symm
 clear hz hqa hqb hqc hqr s1 s2 s3 t1 t2 t3
 refine qab fun R HR => ?_
 go_enter Tryz.func33, Tryz.ntmps33
 cases qn
 ·have RV : Hid (z = false) := qhd (by rw [HZ.out]; rfl)
  (go_wp2; (all_goals (try go_returns)); (all_goals exact HR.out _ _ ⟨by first | (rw [RV.out]; done) | (rw [RV.out]; rfl), bbel⟩))
 cases qr
 ·have RV : Hid (z = false) := qhd (by rw [HZ.out]; rfl)
  (go_wp2; (all_goals (try go_returns)); (all_goals exact HR.out _ _ ⟨by first | (rw [RV.out]; done) | (rw [RV.out]; rfl), bbel⟩))
 cases ql
 ·have RV : Hid (z = false) := qhd (by rw [HZ.out]; simp)
  (go_wp2; (all_goals (try go_returns)); (all_goals exact HR.out _ _ ⟨by first | (rw [RV.out]; done) | (rw [RV.out]; rfl), bbel⟩))
 cases qs
 ·have RV : Hid (z = false) := qhd (by rw [HZ.out]; simp)
  (go_wp2; (all_goals (try go_returns)); (all_goals exact HR.out _ _ ⟨by first | (rw [RV.out]; done) | (rw [RV.out]; rfl), bbel⟩))
 go_wp2_with fail
 (with_reducible refine (CA _ (bbel)).mono ?_)
 rintro _ w1 ⟨rfl, g1⟩
 have g1s := (g1).size; (try simp only [qsz] at g1s)
 obtain ⟨g1ad, g1ao, g1ag, g1ap, g1ax, g1ay, g1ac1, g1af1, g1az1⟩ := bf2 (n := w.heap.size) g1
 clear g1ao g1ap
 cases qa
 ·have RV : Hid (z = false) := qhd (by rw [HZ.out]; simp)
  (go_wp2; (all_goals (try go_returns)); (all_goals exact HR.out _ _ ⟨by first | (rw [RV.out]; done) | (rw [RV.out]; rfl), bbel⟩))
 go_wp2_with fail
 (with_reducible refine (CB _ (bbel)).mono ?_)
 rintro _ w2 ⟨rfl, g2⟩
 have g2s := (g2).size; (try simp only [qsz] at g2s)
 obtain ⟨g2ad, g2ao, g2ag, g2ap, g2ax, g2ay, g2ac1, g2af1, g2az1⟩ := bf2 (n := w.heap.size) g2
 clear g2ao g2ap
 cases qb
 ·have RV : Hid (z = false) := qhd (by rw [HZ.out]; simp)
  (go_wp2; (all_goals (try go_returns)); (all_goals exact HR.out _ _ ⟨by first | (rw [RV.out]; done) | (rw [RV.out]; rfl), bbel⟩))
 go_wp2_with fail
 (with_reducible refine (CC _ (bbel)).mono ?_)
 rintro _ w3 ⟨rfl, g3⟩
 have g3s := (g3).size; (try simp only [qsz] at g3s)
 obtain ⟨g3ad, g3ao, g3ag, g3ap, g3ax, g3ay, g3ac1, g3af1, g3az1⟩ := bf2 (n := w.heap.size) g3
 clear g3ao g3ap
 have RV : Hid (z = qc) := qhd (by rw [HZ.out]; simp)
 go_wp2
 (all_goals (try go_returns)); (all_goals exact HR.out _ _ ⟨by first | (rw [RV.out]; done) | (rw [RV.out]; rfl), bbel⟩)

theorem I_eqMths (xs ys : List DClsMethod) (v1 u1 : Value) (w : World) (s1 : Sl 8 rClsMethod 0 w v1 xs) (t1 : Sl 8 rClsMethod 0 w u1 ys) :
  Calls Tryz.prog 32 #[v1, u1, .func (.func 33) #[] #[]] w fun e w' => e = .returned (.bool (eqL mthEq xs ys)) ∧ Below w.heap.size w w' := by
 obtain ⟨a, len, cap, rfl, hl, h1, h2, h3⟩ := id s1
 obtain ⟨a', len', cap', rfl, hl', h1', h2', h3'⟩ := id t1
 have m1 : len ≤ 9223372036854775807 := by unfold maxLen at h2; omega
 have m1' : len' ≤ 9223372036854775807 := by unfold maxLen at h2'; omega
 have HL := qhd hl
 have HL' := qhd hl'
 clear h2 hl h2' hl' h1 h1'
 obtain ⟨z, hz⟩ : ∃ z, z = eqL mthEq xs ys := ⟨_, rfl⟩
 have HZ := qhd hz
 rw [← hz]
 clear hz
 by_cases hlen : ¬ len = len'
 ·have RV : Hid (z = false) := qhd (by rw [HZ.out]; exact eqL_len (by rw [HL.out, HL'.out]; exact hlen))
  have i1 : ((len : Int) != (len' : Int)) = true := by simp; omega
  have i2 : ¬ (len : Int) = (len' : Int) := by omega
  refine qab fun R HR => ?_
  go_enter Tryz.func32, Tryz.ntmps32
  go_wp2
  (all_goals (try go_returns)); (all_goals exact HR.out _ _ ⟨by first | (rw [RV.out]; done) | (rw [RV.out]; rfl), bbel⟩)
 obtain rfl : len = len' := Decidable.byContradiction hlen
 clear hlen
 refine qab fun R HR => ?_
 go_enter Tryz.func32, Tryz.ntmps32
 go_wp2_with fail
 go_loopw [17] (fun i wr => ∃ k : Nat, k ≤ len ∧ i = .int .i64 k ∧ EachTo (eqAt mthEq ys) xs k = true ∧ Below w.heap.size w wr) (fun i _ => len - (intOf i).toNat)
 case atStart => exact ⟨0, Nat.zero_le _, rfl, rfl, bbel⟩
 case round =>
  obtain ⟨k, hk, rfl, ha, hb⟩ := hrel
  have HA := qhd ha
  clear ha
  have hbx := hb.size
  by_cases hlt : k < len
  ·obtain ⟨b, off, rfl, _, _, hr⟩ := h3.stays rClsMethod_good (Keeps.of_below hb) (by omega)
   obtain ⟨b', off', rfl, _, _, hr'⟩ := h3'.stays rClsMethod_good (Keeps.of_below hb) (by omega)
   obtain ⟨x, cs, e0, _, e1, e4⟩ := hr k hlt
   obtain ⟨y, cs', f0, _, f1, f4⟩ := hr' k hlt
   obtain ⟨x1, x2, x3, rfl, p1, p2, p3, _, _⟩ := e4
   obtain ⟨y1, y2, y3, rfl, o1, o2, o3, _, _⟩ := f4
   obtain ⟨a1, l1, c1, rfl⟩ := p1.form
   obtain ⟨a2, l2, c2, rfl⟩ := p2.form
   obtain ⟨a3, l3, c3, rfl⟩ := p3.form
   obtain ⟨b1, n1, d1, rfl⟩ := o1.form
   obtain ⟨b2, n2, d2, rfl⟩ := o2.form
   obtain ⟨b3, n3, d3, rfl⟩ := o3.form
   have q0 : wr.cell? ⟨b, off + k * 8, none⟩ = some (.string x.fName) := e1 0 _ rfl
   have q1 : wr.cell? ⟨b, off + k * 8 + 1, none⟩ = some (.slice a1 l1 c1) := e1 1 _ rfl
   have q2 : wr.cell? ⟨b, off + k * 8 + 2, none⟩ = some (.int .i64 x.fRet.fKind) := e1 2 _ rfl
   have q3 : wr.cell? ⟨b, off + k * 8 + 3, none⟩ = some (.string x.fRet.fName) := e1 3 _ rfl
   have q4 : wr.cell? ⟨b, off + k * 8 + 4, none⟩ = some (.int .i64 x.fLocals) := e1 4 _ rfl
   have q5 : wr.cell? ⟨b, off + k * 8 + 5, none⟩ = some (.int .i64 x.fStack) := e1 5 _ rfl
   have q6 : wr.cell? ⟨b, off + k * 8 + 6, none⟩ = some (.slice a2 l2 c2) := e1 6 _ rfl
   have q7 : wr.cell? ⟨b, off + k * 8 + 7, none⟩ = some (.slice a3 l3 c3) := e1 7 _ rfl
   have r0 : wr.cell? ⟨b', off' + k * 8, none⟩ = some (.string y.fName) := f1 0 _ rfl
   have r1 : wr.cell? ⟨b', off' + k * 8 + 1, none⟩ = some (.slice b1 n1 d1) := f1 1 _ rfl
   have r2 : wr.cell? ⟨b', off' + k * 8 + 2, none⟩ = some (.int .i64 y.fRet.fKind) := f1 2 _ rfl
   have r3 : wr.cell? ⟨b', off' + k * 8 + 3, none⟩ = some (.string y.fRet.fName) := f1 3 _ rfl
   have r4 : wr.cell? ⟨b', off' + k * 8 + 4, none⟩ = some (.int .i64 y.fLocals) := f1 4 _ rfl
   have r5 : wr.cell? ⟨b', off' + k * 8 + 5, none⟩ = some (.int .i64 y.fStack) := f1 5 _ rfl
   have r6 : wr.cell? ⟨b', off' + k * 8 + 6, none⟩ = some (.slice b2 n2 d2) := f1 6 _ rfl
   have r7 : wr.cell? ⟨b', off' + k * 8 + 7, none⟩ = some (.slice b3 n3 d3) := f1 7 _ rfl
   have E0 := qhd e0
   have F0 := qhd f0
   obtain ⟨q, hq⟩ : ∃ q, q = mthEq x y := ⟨_, rfl⟩
   have CM : ∀ W, Below wr.heap.size wr W → Calls Tryz.prog 33 #[.agg #[.string x.fName, .slice a1 l1 c1, .int .i64 x.fRet.fKind, .string x.fRet.fName, .int .i64 x.fLocals, .int .i64 x.fStack, .slice a2 l2 c2, .slice a3 l3 c3], .agg #[.string y.fName, .slice b1 n1 d1, .int .i64 y.fRet.fKind, .string y.fRet.fName, .int .i64 y.fLocals, .int .i64 y.fStack, .slice b2 n2 d2, .slice b3 n3 d3]] W fun e w' => e = .returned (.bool q) ∧ Below W.heap.size W w' := fun W hW => by
    have hk := Keeps.of_below (lo := 0) hW
    rw [hq]; exact I_sameMethod x y _ _ _ _ _ _ W (p1.stays qar hk) (p2.stays qau hk) (p3.stays qas hk) (o1.stays qar hk) (o2.stays qau hk) (o3.stays qas hk)
   have HQ := qhd hq
   clear e0 e1 f0 f1 hr hr' hq p1 p2 p3 o1 o2 o3
   go_wp2_with fail
   refine (CM _ (bbel)).mono ?_
   rintro _ wA ⟨rfl, hA⟩
   have hAs := (hA).size; (try simp only [qsz] at hAs)
   have hE : Below w.heap.size w wA := bbel
   clear q0 q1 q2 q3 q4 q5 q6 q7 r0 r1 r2 r3 r4 r5 r6 r7
   cases q
   ·have RV : Hid (z = false) := qhd (by rw [HZ.out]; exact eqL_stop (qal E0.out (by unfold eqAt; rw [F0.out]; exact HQ.out.symm)))
    go_wp2
    all_goals (try go_returns)
    all_goals exact HR.out _ _ ⟨by rw [RV.out]; rfl, hE⟩
   ·go_wp2
    go_roundw
    case measure => simp [intOf]; omega
    case rel => exact ⟨k + 1, by omega, by go_num, EachTo.step HA.out E0.out (by unfold eqAt; rw [F0.out]; exact HQ.out.symm), hE⟩
  ·obtain rfl : k = len := by omega
   have RV : Hid (z = true) := qhd (by rw [HZ.out]; exact eqL_done (HL.out.trans HL'.out.symm) (qav HA.out HL.out))
   go_wp2
   (all_goals (try go_returns)); (all_goals exact HR.out _ _ ⟨by first | (rw [RV.out]; done) | (rw [RV.out]; rfl), bbel⟩)

theorem I_ClsSame (x y : DClsClass) (v1 v2 u1 u2 : Value) (w : World) (s1 : Sl 3 rClsField 0 w v1 x.fFields) (s2 : Sl 8 rClsMethod 0 w v2 x.fMethods) (t1 : Sl 3 rClsField 0 w u1 y.fFields) (t2 : Sl 8 rClsMethod 0 w u2 y.fMethods) :
  Calls Tryz.prog 13 #[.agg #[.string x.fName, .string x.fSuper, v1, v2], .agg #[.string y.fName, .string y.fSuper, u1, u2]] w fun e w' => e = .returned (.bool (clsEq x y)) ∧ Below w.heap.size w w' := by
 obtain ⟨a1, l1, c1, rfl⟩ := s1.form
 obtain ⟨a2, l2, c2, rfl⟩ := s2.form
 obtain ⟨b1, m1, d1, rfl⟩ := t1.form
 obtain ⟨b2, m2, d2, rfl⟩ := t2.form
 obtain ⟨z, hz⟩ : ∃ z, z = clsEq x y := ⟨_, rfl⟩
 obtain ⟨qa, hqa⟩ : ∃ q, q = eqL fldEq x.fFields y.fFields := ⟨_, rfl⟩
 obtain ⟨qb, hqb⟩ : ∃ q, q = eqL mthEq x.fMethods y.fMethods := ⟨_, rfl⟩
 obtain ⟨qn, hqn⟩ : ∃ q, q = (x.fName.toList == y.fName.toList) := ⟨_, rfl⟩
 obtain ⟨qs, hqs⟩ : ∃ q, q = (x.fSuper.toList == y.fSuper.toList) := ⟨_, rfl⟩
 have CA : ∀ W, Below w.heap.size w W → Calls Tryz.prog 31 #[.slice a1 l1 c1, .slice b1 m1 d1] W fun e w' => e = .returned (.bool qa) ∧ Below W.heap.size W w' := fun W hW => by
  rw [hqa]; exact I_eqClsFieldS _ _ _ _ W (s1.stays qap (Keeps.of_below hW)) (t1.stays qap (Keeps.of_below hW))
 have CB : ∀ W, Below w.heap.size w W → Calls Tryz.prog 32 #[.slice a2 l2 c2, .slice b2 m2 d2, .func (.func 33) #[] #[]] W fun e w' => e = .returned (.bool qb) ∧ Below W.heap.size W w' := fun W hW => by
  rw [hqb]; exact I_eqMths _ _ _ _ W (s2.stays rClsMethod_good (Keeps.of_below hW)) (t2.stays rClsMethod_good (Keeps.of_below hW))
 have HZ : Hid (z = (qn && qs && qa && qb)) := qhd (by rw [hz, hqa, hqb, hqn, hqs]; rfl)
 rw [← hz]
 replace hqn := hqn.symm
 replace hqs := hqs.symm
 clear hz hqa hqb s1 s2 t1 t2
 refine qab fun R HR => ?_
 go_enter Tryz.func13, Tryz.ntmps13
 cases qn
 ·have RV : Hid (z = false) := qhd (by rw [HZ.out]; rfl)
  (go_wp2; (all_goals (try go_returns)); (all_goals exact HR.out _ _ ⟨by first | (rw [RV.out]; done) | (rw [RV.out]; rfl), bbel⟩))
 cases qs
 ·have RV : Hid (z = false) := qhd (by rw [HZ.out]; rfl)
  (go_wp2; (all_goals (try go_returns)); (all_goals exact HR.out _ _ ⟨by first | (rw [RV.out]; done) | (rw [RV.out]; rfl), bbel⟩))
 go_wp2_with fail
 (with_reducible refine (CA _ (bbel)).mono ?_)
 rintro _ w1 ⟨rfl, g1⟩
 have g1s := (g1).size; (try simp only [qsz] at g1s)
 obtain ⟨g1ad, g1ao, g1ag, g1ap, g1ax, g1ay, g1ac1, g1af1, g1az1⟩ := bf2 (n := w.heap.size) g1
 clear g1ao g1ap
 cases qa
 ·have RV : Hid (z = false) := qhd (by rw [HZ.out]; simp)
  (go_wp2; (all_goals (try go_returns)); (all_goals exact HR.out _ _ ⟨by first | (rw [RV.out]; done) | (rw [RV.out]; rfl), bbel⟩))
 go_wp2_with fail
 (with_reducible refine (CB _ (bbel)).mono ?_)
 rintro _ w2 ⟨rfl, g2⟩
 have g2s := (g2).size; (try simp only [qsz] at g2s)
 obtain ⟨g2ad, g2ao, g2ag, g2ap, g2ax, g2ay, g2ac1, g2af1, g2az1⟩ := bf2 (n := w.heap.size) g2
 clear g2ao g2ap
 have RV : Hid (z = qb) := qhd (by rw [HZ.out]; simp)
 go_wp2
 (all_goals (try go_returns)); (all_goals exact HR.out _ _ ⟨by first | (rw [RV.out]; done) | (rw [RV.out]; rfl), bbel⟩)

theorem S_l9Tag (xs ys : List DTagTag) (v1 u1 : Value) (w : World) (s1 : Sl 2 rTagTag 0 w v1 xs) (t1 : Sl 2 rTagTag 0 w u1 ys) :
  Calls Tryz.prog 62 #[v1, u1] w fun e w' => e = .returned (.bool (eqL tagEq xs ys)) ∧ Below w.heap.size w w' := by
 obtain ⟨a, len, cap, rfl, hl, h1, h2, h3⟩ := id s1
 obtain ⟨a', len', cap', rfl, hl', h1', h2', h3'⟩ := id t1
 have m1 : len ≤ 9223372036854775807 := by unfold maxLen at h2; omega
 have m1' : len' ≤ 9223372036854775807 := by unfold maxLen at h2'; omega
 have HL := qhd hl
 have HL' := qhd hl'
 clear h2 hl h2' hl' h1 h1'
 obtain ⟨z, hz⟩ : ∃ z, z = eqL tagEq xs ys := ⟨_, rfl⟩
 have HZ := qhd hz
 rw [← hz]
 clear hz
 by_cases hlen : ¬ len = len'
 ·have RV : Hid (z = false) := qhd (by rw [HZ.out]; exact eqL_len (by rw [HL.out, HL'.out]; exact hlen))
  have i1 : ((len : Int) != (len' : Int)) = true := by simp; omega
  have i2 : ¬ (len : Int) = (len' : Int) := by omega
  refine qab fun R HR => ?_
  go_enter Tryz.func62, Tryz.ntmps62
  go_wp2
  (all_goals (try go_returns)); (all_goals exact HR.out _ _ ⟨by first | (rw [RV.out]; done) | (rw [RV.out]; rfl), bbel⟩)
 obtain rfl : len = len' := Decidable.byContradiction hlen
 clear hlen
 refine qab fun R HR => ?_
 go_enter Tryz.func62, Tryz.ntmps62
 go_wp2_with fail
 go_loopw [5] (fun i wr => ∃ k : Nat, k ≤ len ∧ i = .int .i64 k ∧ EachTo (eqAt tagEq ys) xs k = true ∧ Below w.heap.size w wr) (fun i _ => len - (intOf i).toNat)
 case atStart => exact ⟨0, Nat.zero_le _, rfl, rfl, bbel⟩
 case round =>
  obtain ⟨k, hk, rfl, ha, hb⟩ := hrel
  have HA := qhd ha
  clear ha
  by_cases hlt : k < len
  ·obtain ⟨b, off, rfl, _, _, hr⟩ := h3.stays qaq (Keeps.of_below hb) (by omega)
   obtain ⟨b', off', rfl, _, _, hr'⟩ := h3'.stays qaq (Keeps.of_below hb) (by omega)
   obtain ⟨x, cs, e0, _, e1, e4⟩ := hr k hlt
   obtain ⟨y, cs', f0, _, f1, f4⟩ := hr' k hlt
   obtain ⟨rfl, _⟩ := e4
   obtain ⟨rfl, _⟩ := f4
   have q0 : wr.cell? ⟨b, off + k * 2, none⟩ = some (.int .i64 x.fKind) := e1 0 _ rfl
   have p0 : wr.cell? ⟨b', off' + k * 2, none⟩ = some (.int .i64 y.fKind) := f1 0 _ rfl
   have q1 : wr.cell? ⟨b, off + k * 2 + 1, none⟩ = some (.string x.fName) := e1 1 _ rfl
   have p1 : wr.cell? ⟨b', off' + k * 2 + 1, none⟩ = some (.string y.fName) := f1 1 _ rfl
   have E0 := qhd e0
   have F0 := qhd f0
   clear e0 e1 f0 f1 hr hr'
   obtain ⟨q, hq⟩ : ∃ q, q = tagEq x y := ⟨_, rfl⟩
   have bo : ∀ W, (binOp .neq 94 (.agg #[.int .i64 x.fKind, .string x.fName]) (.agg #[.int .i64 y.fKind, .string y.fName])).run Tryz.prog W = .ok (.bool !q) W := fun W => by
    rw [hq]
    simp only [run_neq_struct, eq_tag]
    try simp [Result.andThen, tagEq]
   have HQ := qhd hq
   clear hq
   cases q
   ·have RV : Hid (z = false) := qhd (by rw [HZ.out]; exact eqL_stop (qal E0.out (by unfold eqAt; rw [F0.out]; exact HQ.out.symm)))
    go_wp2_with fail
    go_region
    go_wp2
    (all_goals (try go_returns)); (all_goals exact HR.out _ _ ⟨by first | (rw [RV.out]; done) | (rw [RV.out]; rfl), bbel⟩)
   ·go_wp2_with fail
    go_region
    go_wp2
    go_roundw
    case measure => simp [intOf]; omega
    case rel => exact ⟨k + 1, by omega, by go_num, EachTo.step HA.out E0.out (by unfold eqAt; rw [F0.out]; exact HQ.out.symm), bbel⟩
  ·obtain rfl : k = len := by omega
   have RV : Hid (z = true) := qhd (by rw [HZ.out]; exact eqL_done (HL.out.trans HL'.out.symm) (qav HA.out HL.out))
   go_wp2
   (all_goals (try go_returns)); (all_goals exact HR.out _ _ ⟨by first | (rw [RV.out]; done) | (rw [RV.out]; rfl), bbel⟩)

theorem S_l9Method (x y : DClsMethod) (v1 v2 v3 u1 u2 u3 : Value) (w : World) (s1 : Sl 2 rKndKind 0 w v1 x.fArgs) (s2 : Sl 4 rClsIns 0 w v2 x.fCode) (s3 : Sl 3 rClsMap 0 w v3 x.fMaps) (t1 : Sl 2 rKndKind 0 w u1 y.fArgs) (t2 : Sl 4 rClsIns 0 w u2 y.fCode) (t3 : Sl 3 rClsMap 0 w u3 y.fMaps) :
  Calls Tryz.prog 34 #[.agg #[.string x.fName, v1, .int .i64 x.fRet.fKind, .string x.fRet.fName, .int .i64 x.fLocals, .int .i64 x.fStack, v2, v3], .agg #[.string y.fName, u1, .int .i64 y.fRet.fKind, .string y.fRet.fName, .int .i64 y.fLocals, .int .i64 y.fStack, u2, u3]] w fun e w' => e = .returned (.bool (mthEq x y)) ∧ Below w.heap.size w w' := by
 obtain ⟨a1, l1, c1, rfl⟩ := s1.form
 obtain ⟨a2, l2, c2, rfl, hl2, g2, k2, h2⟩ := id s2
 obtain ⟨a3, l3, c3, rfl, hl3, g3, k3, h3⟩ := id s3
 obtain ⟨b1, m1, d1, rfl⟩ := t1.form
 obtain ⟨b2, m2, d2, rfl, hm2, i2, j2, o2⟩ := id t2
 obtain ⟨b3, m3, d3, rfl, hm3, i3, j3, o3⟩ := id t3
 have z1 : l2 ≤ 9223372036854775807 := by unfold maxLen at k2; omega
 have z2 : l3 ≤ 9223372036854775807 := by unfold maxLen at k3; omega
 have z3 : m2 ≤ 9223372036854775807 := by unfold maxLen at j2; omega
 have z4 : m3 ≤ 9223372036854775807 := by unfold maxLen at j3; omega
 obtain ⟨z, hz⟩ : ∃ z, z = mthEq x y := ⟨_, rfl⟩
 obtain ⟨qa, hqa⟩ : ∃ q, q = sameSig x y := ⟨_, rfl⟩
 obtain ⟨qn, hqn⟩ : ∃ q, q = (x.fName.toList == y.fName.toList) := ⟨_, rfl⟩
 obtain ⟨ql, hql⟩ : ∃ q, q = (x.fLocals == y.fLocals) := ⟨_, rfl⟩
 obtain ⟨qs, hqs⟩ : ∃ q, q = (x.fStack == y.fStack) := ⟨_, rfl⟩
 have CA : ∀ W, Below w.heap.size w W → Calls Tryz.prog 61 #[.agg #[.string x.fName, .slice a1 l1 c1, .int .i64 x.fRet.fKind, .string x.fRet.fName, .int .i64 x.fLocals, .int .i64 x.fStack, .slice a2 l2 c2, .slice a3 l3 c3], .agg #[.string y.fName, .slice b1 m1 d1, .int .i64 y.fRet.fKind, .string y.fRet.fName, .int .i64 y.fLocals, .int .i64 y.fStack, .slice b2 m2 d2, .slice b3 m3 d3]] W fun e w' => e = .returned (.bool qa) ∧ Below W.heap.size W w' := fun W hW => by
  rw [hqa]; exact S_l4Same x y _ _ _ _ _ _ _ _ _ _ _ _ _ _ W (s1.stays qar (Keeps.of_below hW)) (t1.stays qar (Keeps.of_below hW))
 have HZ : Hid (z = (qn && qa && ql && qs && eqL insEq x.fCode y.fCode && eqL mapEq x.fMaps y.fMaps)) := qhd (by rw [hz, hqa, hqn, hql, hqs]; rfl)
 rw [← hz]
 have n1 : (x.fName.toList == y.fName.toList) = qn := hqn.symm
 have n2 : (x.fLocals == y.fLocals) = ql := hql.symm
 have n3 : (x.fStack == y.fStack) = qs := hqs.symm
 have n4 : (x.fLocals != y.fLocals) = !ql := by rw [bne, n2]
 have n5 : (x.fStack != y.fStack) = !qs := by rw [bne, n3]
 have HL2 := qhd hl2
 have HL3 := qhd hl3
 have HM2 := qhd hm2
 have HM3 := qhd hm3
 clear hz hqa hqn hql hqs s1 s2 s3 t1 t2 t3 g2 g3 k2 k3 i2 i3 j2 j3 hl2 hl3 hm2 hm3
 refine qab fun R HR => ?_
 go_enter Tryz.func34, Tryz.ntmps34
 cases qn
 ·have RV : Hid (z = false) := qhd (by rw [HZ.out]; rfl)
  (go_wp2; (all_goals (try go_returns)); (all_goals exact HR.out _ _ ⟨by first | (rw [RV.out]; done) | (rw [RV.out]; rfl), bbel⟩))
 go_wp2_with fail
 (with_reducible refine (CA _ (bbel)).mono ?_)
 rintro _ w1 ⟨rfl, g1⟩
 have g1s := (g1).size; (try simp only [qsz] at g1s)
 obtain ⟨g1ad, g1ao, g1ag, g1ap, g1ax, g1ay, g1ac1, g1af1, g1az1⟩ := bf2 (n := w.heap.size) g1
 cases qa
 ·have RV : Hid (z = false) := qhd (by rw [HZ.out]; rfl)
  (go_wp2; (all_goals (try go_returns)); (all_goals exact HR.out _ _ ⟨by first | (rw [RV.out]; done) | (rw [RV.out]; rfl), bbel⟩))
 cases ql
 ·have RV : Hid (z = false) := qhd (by rw [HZ.out]; simp)
  (go_wp2; (all_goals (try go_returns)); (all_goals exact HR.out _ _ ⟨by first | (rw [RV.out]; done) | (rw [RV.out]; rfl), bbel⟩))
 cases qs
 ·have RV : Hid (z = false) := qhd (by rw [HZ.out]; simp)
  (go_wp2; (all_goals (try go_returns)); (all_goals exact HR.out _ _ ⟨by first | (rw [RV.out]; done) | (rw [RV.out]; rfl), bbel⟩))
 by_cases e2 : ¬ l2 = m2
 ·have i1 : ((l2 : Int) != (m2 : Int)) = true := by simp; omega
  have i2 : ¬ (l2 : Int) = (m2 : Int) := by omega
  have RV : Hid (z = false) := qhd (by rw [HZ.out]; (rw [eqL_len (f := insEq) (by rw [HL2.out, HM2.out]; exact e2)]; simp))
  (go_wp2; (all_goals (try go_returns)); (all_goals exact HR.out _ _ ⟨by first | (rw [RV.out]; done) | (rw [RV.out]; rfl), bbel⟩))
 obtain rfl : l2 = m2 := Decidable.byContradiction e2
 by_cases e3 : ¬ l3 = m3
 ·have i1 : ((l3 : Int) != (m3 : Int)) = true := by simp; omega
  have i2 : ¬ (l3 : Int) = (m3 : Int) := by omega
  have RV : Hid (z = false) := qhd (by rw [HZ.out]; (rw [eqL_len (f := mapEq) (by rw [HL3.out, HM3.out]; exact e3)]; simp))
  (go_wp2; (all_goals (try go_returns)); (all_goals exact HR.out _ _ ⟨by first | (rw [RV.out]; done) | (rw [RV.out]; rfl), bbel⟩))
 obtain rfl : l3 = m3 := Decidable.byContradiction e3
 have HZ2 : Hid (z = (eqL insEq x.fCode y.fCode && eqL mapEq x.fMaps y.fMaps)) := qhd (by rw [HZ.out]; simp)
 clear e2 e3 n1 HZ
 have hE : Below w.heap.size w w1 := bbel
 have A5 : w1.cell? ⟨w.heap.size, 6, none⟩ = some (.slice a2 l2 c2) := by go_simp
 have A6 : w1.cell? ⟨w.heap.size, 7, none⟩ = some (.slice a3 l3 c3) := by go_simp
 have B5 : w1.cell? ⟨w.heap.size + 1, 6, none⟩ = some (.slice b2 l2 d2) := by go_simp
 have B6 : w1.cell? ⟨w.heap.size + 1, 7, none⟩ = some (.slice b3 l3 d3) := by go_simp
 have HA5 := qhd A5
 have HA6 := qhd A6
 have HB5 := qhd B5
 have HB6 := qhd B6
 clear A5 A6 B5 B6
 go_wp2_with fail
 clear g1ad g1ag g1ax g1ay g1ao g1ap CA n2 n3 n4 n5
 go_loopw [5] (fun i wr => ∃ k : Nat, k ≤ l2 ∧ i = .int .i64 k ∧ EachTo (eqAt insEq y.fCode) x.fCode k = true ∧ Below w1.heap.size w1 wr) (fun i _ => l2 - (intOf i).toNat)
 case atStart => exact ⟨0, Nat.zero_le _, rfl, rfl, Below.refl _ _⟩
 case round =>
  obtain ⟨k, hk, rfl, ha, hb⟩ := hrel
  have HA := qhd ha
  clear ha
  have hbx := hb.size
  have c1 := qad hb HA5.out
  have c2 := qad hb HB5.out
  by_cases hlt : k < l2
  ·have hEb := hE.trans (hb.mono hE.size)
   obtain ⟨b, off, rfl, _, _, hr⟩ := h2.stays qau (Keeps.of_below hEb) (by omega)
   obtain ⟨b', off', rfl, _, _, hr'⟩ := o2.stays qau (Keeps.of_below hEb) (by omega)
   obtain ⟨i, cs, e0, _, e1, e4⟩ := hr k hlt
   obtain ⟨j, cs', f0, _, f1, f4⟩ := hr' k hlt
   obtain ⟨rfl, _⟩ := e4
   obtain ⟨rfl, _⟩ := f4
   have q0 : wr.cell? ⟨b, off + k * 4, none⟩ = some (.int .i64 i.fOp) := e1 0 _ rfl
   have q1 : wr.cell? ⟨b, off + k * 4 + 1, none⟩ = some (.int .i64 i.fA) := e1 1 _ rfl
   have q2 : wr.cell? ⟨b, off + k * 4 + 2, none⟩ = some (.string i.fName) := e1 2 _ rfl
   have q3 : wr.cell? ⟨b, off + k * 4 + 3, none⟩ = some (.string i.fMember) := e1 3 _ rfl
   have r0 : wr.cell? ⟨b', off' + k * 4, none⟩ = some (.int .i64 j.fOp) := f1 0 _ rfl
   have r1 : wr.cell? ⟨b', off' + k * 4 + 1, none⟩ = some (.int .i64 j.fA) := f1 1 _ rfl
   have r2 : wr.cell? ⟨b', off' + k * 4 + 2, none⟩ = some (.string j.fName) := f1 2 _ rfl
   have r3 : wr.cell? ⟨b', off' + k * 4 + 3, none⟩ = some (.string j.fMember) := f1 3 _ rfl
   have E0 := qhd e0
   have F0 := qhd f0
   clear e0 e1 f0 f1 hr hr'
   obtain ⟨q, hq⟩ : ∃ q, q = insEq i j := ⟨_, rfl⟩
   have bo : ∀ W, (binOp .neq 91 (.agg #[.int .i64 i.fOp, .int .i64 i.fA, .string i.fName, .string i.fMember]) (.agg #[.int .i64 j.fOp, .int .i64 j.fA, .string j.fName, .string j.fMember])).run Tryz.prog W = .ok (.bool !q) W := fun W => by
    rw [hq]
    simp only [run_neq_struct, eq_ins4]
    try simp [Result.andThen, insEq]
   have HQ := qhd hq
   clear hq
   cases q
   ·have RV : Hid (z = false) := qhd (by rw [HZ2.out, eqL_stop (qal E0.out (by unfold eqAt; rw [F0.out]; exact HQ.out.symm))]; rfl)
    go_wp2_with fail
    go_region
    go_wp2
    all_goals (try go_returns)
    all_goals exact HR.out _ _ ⟨by first | (rw [RV.out]; done) | (rw [RV.out]; rfl), hEb.drew⟩
   ·go_wp2_with fail
    go_region
    go_wp2
    go_roundw
    case measure => simp [intOf]; omega
    case rel => exact ⟨k + 1, by omega, by go_num, EachTo.step HA.out E0.out (by unfold eqAt; rw [F0.out]; exact HQ.out.symm), hb.drew⟩
  ·obtain rfl : k = l2 := by omega
   have CD : Hid (eqL insEq x.fCode y.fCode = true) := qhd (eqL_done (HL2.out.trans HM2.out.symm) (qav HA.out HL2.out))
   have HZ3 : Hid (z = eqL mapEq x.fMaps y.fMaps) := qhd (by rw [HZ2.out, CD.out]; rfl)
   clear HA HZ2
   obtain ⟨wq, hwq⟩ : ∃ x, x = wr := ⟨_, rfl⟩
   subst hwq
   have hEq := hE.trans (hb.mono hE.size)
   have C1 := qhd (qad hb HA6.out)
   have C2 := qhd (qad hb HB6.out)
   go_wp2_with fail
   clear c1 c2
   go_loopw [6] (fun i wr => ∃ j : Nat, j ≤ l3 ∧ i = .int .i64 j ∧ EachTo (eqAt mapEq y.fMaps) x.fMaps j = true ∧ Below wq.heap.size wq wr) (fun i _ => l3 - (intOf i).toNat)
   case atStart => exact ⟨0, Nat.zero_le _, rfl, rfl, Below.refl _ _⟩
   case round =>
    obtain ⟨j, hj, rfl, ha, hb2⟩ := hrel
    have HA := qhd ha
    clear ha
    have hb2x := hb2.size
    have c1 := qad hb2 C1.out
    have c2 := qad hb2 C2.out
    have hEb := hEq.trans (hb2.mono hEq.size)
    by_cases hlt : j < l3
    rotate_left
    ·obtain rfl : j = l3 := by omega
     have RV : Hid (z = true) := qhd (by rw [HZ3.out]; exact eqL_done (HL3.out.trans HM3.out.symm) (qav HA.out HL3.out))
     go_wp2
     all_goals (try go_returns)
     all_goals exact HR.out _ _ ⟨by first | (rw [RV.out]; done) | (rw [RV.out]; rfl), hEb⟩
    obtain ⟨b, off, rfl, _, _, hr⟩ := h3.stays qas (Keeps.of_below hEb) (by omega)
    obtain ⟨b', off', rfl, _, _, hr'⟩ := o3.stays qas (Keeps.of_below hEb) (by omega)
    obtain ⟨m, cs, e0, _, e1, e4⟩ := hr j hlt
    obtain ⟨n, cs', f0, _, f1, f4⟩ := hr' j hlt
    obtain ⟨x1, x2, rfl, p1, p2⟩ := e4
    obtain ⟨y1, y2, rfl, n1, n2⟩ := f4
    obtain ⟨pa1, pl1, pc1, rfl⟩ := p1.form
    obtain ⟨pa2, pl2, pc2, rfl⟩ := p2.form
    obtain ⟨na1, nl1, nc1, rfl⟩ := n1.form
    obtain ⟨na2, nl2, nc2, rfl⟩ := n2.form
    have q0 := In.cell (show wr.cell? ⟨b, off + j * 3, none⟩ = some (.int .i64 m.fAt) from e1 0 _ rfl)
    have q1 := In.cell (show wr.cell? ⟨b, off + j * 3 + 1, none⟩ = some (.slice pa1 pl1 pc1) from e1 1 _ rfl)
    have q2 := In.cell (show wr.cell? ⟨b, off + j * 3 + 2, none⟩ = some (.slice pa2 pl2 pc2) from e1 2 _ rfl)
    have r0 := In.cell (show wr.cell? ⟨b', off' + j * 3, none⟩ = some (.int .i64 n.fAt) from f1 0 _ rfl)
    have r1 := In.cell (show wr.cell? ⟨b', off' + j * 3 + 1, none⟩ = some (.slice na1 nl1 nc1) from f1 1 _ rfl)
    have r2 := In.cell (show wr.cell? ⟨b', off' + j * 3 + 2, none⟩ = some (.slice na2 nl2 nc2) from f1 2 _ rfl)
    have E0 := qhd e0
    have F0 := qhd f0
    go_wp2_with fail
    have d1 := In.cell c1
    have d2 := In.cell c2
    obtain ⟨t1, ht1⟩ : ∃ q, q = (m.fAt == n.fAt) := ⟨_, rfl⟩
    obtain ⟨t2, ht2⟩ : ∃ q, q = eqL tagEq m.fLocals n.fLocals := ⟨_, rfl⟩
    obtain ⟨t3, ht3⟩ : ∃ q, q = eqL tagEq m.fStack n.fStack := ⟨_, rfl⟩
    have MQ : Hid (mapEq m n = (t1 && t2 && t3)) := qhd (by rw [ht1, ht2, ht3]; rfl)
    have T2 : ∀ y : In wr, Calls Tryz.prog 62 #[.slice pa1 pl1 pc1, .slice na1 nl1 nc1] y.x fun e w' => e = .returned (.bool t2) ∧ Below y.x.heap.size y.x w' := fun y => by
     rw [ht2]; exact S_l9Tag _ _ _ _ y.x (p1.stays qaq (Keeps.of_below y.h)) (n1.stays qaq (Keeps.of_below y.h))
    have T3 : ∀ y : In wr, Calls Tryz.prog 62 #[.slice pa2 pl2 pc2, .slice na2 nl2 nc2] y.x fun e w' => e = .returned (.bool t3) ∧ Below y.x.heap.size y.x w' := fun y => by
     rw [ht3]; exact S_l9Tag _ _ _ _ y.x (p2.stays qaq (Keeps.of_below y.h)) (n2.stays qaq (Keeps.of_below y.h))
    have n3 : (m.fAt != n.fAt) = !t1 := by rw [bne, ← ht1]
    clear e0 e1 f0 f1 hr hr' ht2 ht3 c1 c2 p1 p2 n1 n2
    have fin : ∀ q, q = (t1 && t2 && t3) → q = false → z = false := fun q h1 h2 => by
     rw [HZ3.out]
     exact eqL_stop (qal E0.out (by unfold eqAt; rw [F0.out]; show mapEq m n = false; rw [MQ.out, ← h1, h2]))
    have FIN := qhd fin
    clear fin
    have g1 : (j : Int) < (l3 : Int) := by omega
    have g2 : (0 : Int) ≤ (j : Int) := by omega
    cases t1
    ·have hne : (m.fAt == n.fAt) = false := ht1.symm
     have hne2 : ¬ m.fAt = n.fAt := by simpa using hne
     clear ht1
     have RV : Hid (z = false) := qhd (FIN.out _ rfl (by simp))
     refine qaj (by kernel_rfl) (by kernel_rfl) ?_
     repeat (go_big_quiet_step (first | (go_at_call 62; first | (with_reducible exact Calls.ins (T2 _)) | (with_reducible exact Calls.ins (T3 _)))))
     refine wpQuiet_nil ?_
     rintro wZ ⟨⟨wE, hwE⟩, hq⟩
     obtain rfl : wE = wZ := hq.symm
     clear hq
     have hwEs := hwE.size
     (try dsimp only)
     go_wp2
     all_goals (try go_returns)
     all_goals exact HR.out _ _ ⟨by first | (rw [RV.out]; done) | (rw [RV.out]; rfl), hEb.trans (hwE.mono hEb.size)⟩
    have heq : m.fAt = n.fAt := by simpa using ht1.symm
    clear ht1
    cases t2
    ·have RV : Hid (z = false) := qhd (FIN.out _ rfl (by simp))
     refine qaj (by kernel_rfl) (by kernel_rfl) ?_
     repeat (go_big_quiet_step (first | (go_at_call 62; first | (with_reducible exact Calls.ins (T2 _)) | (with_reducible exact Calls.ins (T3 _)))))
     refine wpQuiet_nil ?_
     rintro wZ ⟨⟨wE, hwE⟩, hq⟩
     obtain rfl : wE = wZ := hq.symm
     clear hq
     have hwEs := hwE.size
     (try dsimp only)
     go_wp2
     all_goals (try go_returns)
     all_goals exact HR.out _ _ ⟨by first | (rw [RV.out]; done) | (rw [RV.out]; rfl), hEb.trans (hwE.mono hEb.size)⟩
    cases t3
    ·have RV : Hid (z = false) := qhd (FIN.out _ rfl (by simp))
     refine qaj (by kernel_rfl) (by kernel_rfl) ?_
     repeat (go_big_quiet_step (first | (go_at_call 62; first | (with_reducible exact Calls.ins (T2 _)) | (with_reducible exact Calls.ins (T3 _)))))
     refine wpQuiet_nil ?_
     rintro wZ ⟨⟨wE, hwE⟩, hq⟩
     obtain rfl : wE = wZ := hq.symm
     clear hq
     have hwEs := hwE.size
     (try dsimp only)
     go_wp2
     all_goals (try go_returns)
     all_goals exact HR.out _ _ ⟨by first | (rw [RV.out]; done) | (rw [RV.out]; rfl), hEb.trans (hwE.mono hEb.size)⟩
    refine qaj (by kernel_rfl) (by kernel_rfl) ?_
    repeat (go_big_quiet_step (first | (go_at_call 62; first | (with_reducible exact Calls.ins (T2 _)) | (with_reducible exact Calls.ins (T3 _)))))
    refine wpQuiet_nil ?_
    rintro wZ ⟨⟨wE, hwE⟩, hq⟩
    obtain rfl : wE = wZ := hq.symm
    clear hq
    have hwEs := hwE.size
    (try dsimp only)
    go_wp2
    go_roundw
    case measure => simp [intOf]; omega
    case rel => exact ⟨j + 1, by omega, by go_num, EachTo.step HA.out E0.out (by unfold eqAt; rw [F0.out]; exact MQ.out), hb2.trans (hwE.mono hb2x)⟩

theorem S_ClsSame (x y : DClsClass) (v1 v2 u1 u2 : Value) (w : World) (s1 : Sl 3 rClsField 0 w v1 x.fFields) (s2 : Sl 8 rClsMethod 0 w v2 x.fMethods) (t1 : Sl 3 rClsField 0 w u1 y.fFields) (t2 : Sl 8 rClsMethod 0 w u2 y.fMethods) :
  Calls Tryz.prog 14 #[.agg #[.string x.fName, .string x.fSuper, v1, v2], .agg #[.string y.fName, .string y.fSuper, u1, u2]] w fun e w' => e = .returned (.bool (clsEq x y)) ∧ Below w.heap.size w w' := by
 obtain ⟨a2, l2, c2, rfl, hl2, g2, k2, h2⟩ := id s1
 obtain ⟨a3, l3, c3, rfl, hl3, g3, k3, h3⟩ := id s2
 obtain ⟨b2, m2, d2, rfl, hm2, i2, j2, o2⟩ := id t1
 obtain ⟨b3, m3, d3, rfl, hm3, i3, j3, o3⟩ := id t2
 have z1 : l2 ≤ 9223372036854775807 := by unfold maxLen at k2; omega
 have z2 : l3 ≤ 9223372036854775807 := by unfold maxLen at k3; omega
 have z3 : m2 ≤ 9223372036854775807 := by unfold maxLen at j2; omega
 have z4 : m3 ≤ 9223372036854775807 := by unfold maxLen at j3; omega
 obtain ⟨z, hz⟩ : ∃ z, z = clsEq x y := ⟨_, rfl⟩
 obtain ⟨qn, hqn⟩ : ∃ q, q = (x.fName.toList == y.fName.toList) := ⟨_, rfl⟩
 obtain ⟨qs, hqs⟩ : ∃ q, q = (x.fSuper.toList == y.fSuper.toList) := ⟨_, rfl⟩
 have HZ : Hid (z = (qn && qs && eqL fldEq x.fFields y.fFields && eqL mthEq x.fMethods y.fMethods)) := qhd (by rw [hz, hqn, hqs]; rfl)
 rw [← hz]
 have n1 : (x.fName.toList == y.fName.toList) = qn := hqn.symm
 have n2 : (x.fSuper.toList == y.fSuper.toList) = qs := hqs.symm
 have HL2 := qhd hl2
 have HL3 := qhd hl3
 have HM2 := qhd hm2
 have HM3 := qhd hm3
 clear hz hqn hqs s1 s2 t1 t2 g2 g3 k2 k3 i2 i3 j2 j3 hl2 hl3 hm2 hm3
 refine qab fun R HR => ?_
 go_enter Tryz.func14, Tryz.ntmps14
 cases qn
 ·have RV : Hid (z = false) := qhd (by rw [HZ.out]; rfl)
  (go_wp2; (all_goals (try go_returns)); (all_goals exact HR.out _ _ ⟨by first | (rw [RV.out]; done) | (rw [RV.out]; rfl), bbel⟩))
 cases qs
 ·have RV : Hid (z = false) := qhd (by rw [HZ.out]; rfl)
  (go_wp2; (all_goals (try go_returns)); (all_goals exact HR.out _ _ ⟨by first | (rw [RV.out]; done) | (rw [RV.out]; rfl), bbel⟩))
 by_cases e2 : ¬ l2 = m2
 ·have i1 : ((l2 : Int) != (m2 : Int)) = true := by simp; omega
  have i2 : ¬ (l2 : Int) = (m2 : Int) := by omega
  have RV : Hid (z = false) := qhd (by rw [HZ.out]; (rw [eqL_len (f := fldEq) (by rw [HL2.out, HM2.out]; exact e2)]; simp))
  (go_wp2; (all_goals (try go_returns)); (all_goals exact HR.out _ _ ⟨by first | (rw [RV.out]; done) | (rw [RV.out]; rfl), bbel⟩))
 obtain rfl : l2 = m2 := Decidable.byContradiction e2
 by_cases e3 : ¬ l3 = m3
 ·have i1 : ((l3 : Int) != (m3 : Int)) = true := by simp; omega
  have i2 : ¬ (l3 : Int) = (m3 : Int) := by omega
  have RV : Hid (z = false) := qhd (by rw [HZ.out]; (rw [eqL_len (f := mthEq) (by rw [HL3.out, HM3.out]; exact e3)]; simp))
  (go_wp2; (all_goals (try go_returns)); (all_goals exact HR.out _ _ ⟨by first | (rw [RV.out]; done) | (rw [RV.out]; rfl), bbel⟩))
 obtain rfl : l3 = m3 := Decidable.byContradiction e3
 have HZ2 : Hid (z = (eqL fldEq x.fFields y.fFields && eqL mthEq x.fMethods y.fMethods)) := qhd (by rw [HZ.out]; simp)
 clear e2 e3 HZ
 go_wp2_with fail
 clear n1 n2
 obtain ⟨w1, hw1⟩ : ∃ w1, w1 = (w.alloc (.cells #[.string x.fName, .string x.fSuper, .slice a2 l2 c2, .slice a3 l3 c3] 37)).alloc (.cells #[.string y.fName, .string y.fSuper, .slice b2 l2 d2, .slice b3 l3 d3] 37) := ⟨_, rfl⟩
 rw [← hw1]
 have hE : Below w.heap.size w w1 := by rw [hw1]; exact bbel
 have HA5 : Hid (w1.cell? ⟨w.heap.size, 2, none⟩ = some (.slice a2 l2 c2)) := qhd (by rw [hw1]; go_simp)
 have HA6 : Hid (w1.cell? ⟨w.heap.size, 3, none⟩ = some (.slice a3 l3 c3)) := qhd (by rw [hw1]; go_simp)
 have HB5 : Hid (w1.cell? ⟨w.heap.size + 1, 2, none⟩ = some (.slice b2 l2 d2)) := qhd (by rw [hw1]; go_simp)
 have HB6 : Hid (w1.cell? ⟨w.heap.size + 1, 3, none⟩ = some (.slice b3 l3 d3)) := qhd (by rw [hw1]; go_simp)
 clear hw1
 go_loopw [5] (fun i wr => ∃ k : Nat, k ≤ l2 ∧ i = .int .i64 k ∧ EachTo (eqAt fldEq y.fFields) x.fFields k = true ∧ Below w1.heap.size w1 wr) (fun i _ => l2 - (intOf i).toNat)
 case atStart => exact ⟨0, Nat.zero_le _, rfl, rfl, Below.refl _ _⟩
 case round =>
  obtain ⟨k, hk, rfl, ha, hb⟩ := hrel
  have HA := qhd ha
  clear ha
  have hbx := hb.size
  have c1 := qad hb HA5.out
  have c2 := qad hb HB5.out
  by_cases hlt : k < l2
  ·have hEb := hE.trans (hb.mono hE.size)
   obtain ⟨b, off, rfl, _, _, hr⟩ := h2.stays qap (Keeps.of_below hEb) (by omega)
   obtain ⟨b', off', rfl, _, _, hr'⟩ := o2.stays qap (Keeps.of_below hEb) (by omega)
   obtain ⟨i, cs, e0, _, e1, e4⟩ := hr k hlt
   obtain ⟨j, cs', f0, _, f1, f4⟩ := hr' k hlt
   obtain ⟨rfl, _⟩ := e4
   obtain ⟨rfl, _⟩ := f4
   have q0 : wr.cell? ⟨b, off + k * 3, none⟩ = some (.string i.fName) := e1 0 _ rfl
   have q1 : wr.cell? ⟨b, off + k * 3 + 1, none⟩ = some (.int .i64 i.fKind.fKind) := e1 1 _ rfl
   have q2 : wr.cell? ⟨b, off + k * 3 + 2, none⟩ = some (.string i.fKind.fName) := e1 2 _ rfl
   have r0 : wr.cell? ⟨b', off' + k * 3, none⟩ = some (.string j.fName) := f1 0 _ rfl
   have r1 : wr.cell? ⟨b', off' + k * 3 + 1, none⟩ = some (.int .i64 j.fKind.fKind) := f1 1 _ rfl
   have r2 : wr.cell? ⟨b', off' + k * 3 + 2, none⟩ = some (.string j.fKind.fName) := f1 2 _ rfl
   have E0 := qhd e0
   have F0 := qhd f0
   clear e0 e1 f0 f1 hr hr'
   obtain ⟨q, hq⟩ : ∃ q, q = fldEq i j := ⟨_, rfl⟩
   have bo : ∀ W, (binOp .neq 69 (.agg #[.string i.fName, .int .i64 i.fKind.fKind, .string i.fKind.fName]) (.agg #[.string j.fName, .int .i64 j.fKind.fKind, .string j.fKind.fName])).run Tryz.prog W = .ok (.bool !q) W := fun W => by
    rw [hq]
    simp only [run_neq_struct, eq_fld]
    try simp [Result.andThen, fldEq, kndEq]
   have HQ := qhd hq
   clear hq
   cases q
   ·have RV : Hid (z = false) := qhd (by rw [HZ2.out, eqL_stop (qal E0.out (by unfold eqAt; rw [F0.out]; exact HQ.out.symm))]; rfl)
    go_wp2_with fail
    go_region
    go_wp2
    all_goals (try go_returns)
    all_goals exact HR.out _ _ ⟨by first | (rw [RV.out]; done) | (rw [RV.out]; rfl), hEb.drew⟩
   ·go_wp2_with fail
    go_region
    go_wp2
    go_roundw
    case measure => simp [intOf]; omega
    case rel => exact ⟨k + 1, by omega, by go_num, EachTo.step HA.out E0.out (by unfold eqAt; rw [F0.out]; exact HQ.out.symm), hb.drew⟩
  ·obtain rfl : k = l2 := by omega
   have CD : Hid (eqL fldEq x.fFields y.fFields = true) := qhd (eqL_done (HL2.out.trans HM2.out.symm) (qav HA.out HL2.out))
   have HZ3 : Hid (z = eqL mthEq x.fMethods y.fMethods) := qhd (by rw [HZ2.out, CD.out]; rfl)
   clear HA HZ2
   obtain ⟨wq, hwq⟩ : ∃ x, x = wr := ⟨_, rfl⟩
   subst hwq
   have hEq := hE.trans (hb.mono hE.size)
   have C1 := qhd (qad hb HA6.out)
   have C2 := qhd (qad hb HB6.out)
   go_wp2_with fail
   clear c1 c2
   go_loopw [6] (fun i wr => ∃ j : Nat, j ≤ l3 ∧ i = .int .i64 j ∧ EachTo (eqAt mthEq y.fMethods) x.fMethods j = true ∧ Below wq.heap.size wq wr) (fun i _ => l3 - (intOf i).toNat)
   case atStart => exact ⟨0, Nat.zero_le _, rfl, rfl, Below.refl _ _⟩
   case round =>
    obtain ⟨j, hj, rfl, ha, hb2⟩ := hrel
    have HA := qhd ha
    clear ha
    have hb2x := hb2.size
    have c1 := qad hb2 C1.out
    have c2 := qad hb2 C2.out
    have hEb := hEq.trans (hb2.mono hEq.size)
    by_cases hlt : j < l3
    rotate_left
    ·obtain rfl : j = l3 := by omega
     have RV : Hid (z = true) := qhd (by rw [HZ3.out]; exact eqL_done (HL3.out.trans HM3.out.symm) (qav HA.out HL3.out))
     go_wp2
     all_goals (try go_returns)
     all_goals exact HR.out _ _ ⟨by first | (rw [RV.out]; done) | (rw [RV.out]; rfl), hEb⟩
    obtain ⟨b, off, rfl, _, _, hr⟩ := h3.stays rClsMethod_good (Keeps.of_below hEb) (by omega)
    obtain ⟨b', off', rfl, _, _, hr'⟩ := o3.stays rClsMethod_good (Keeps.of_below hEb) (by omega)
    obtain ⟨m, cs, e0, _, e1, e4⟩ := hr j hlt
    obtain ⟨n, cs', f0, _, f1, f4⟩ := hr' j hlt
    obtain ⟨x1, x2, x3, rfl, p1, p2, p3, _, _⟩ := e4
    obtain ⟨y1, y2, y3, rfl, n1, n2, n3, _, _⟩ := f4
    obtain ⟨pa1, pl1, pc1, rfl⟩ := p1.form
    obtain ⟨pa2, pl2, pc2, rfl⟩ := p2.form
    obtain ⟨pa3, pl3, pc3, rfl⟩ := p3.form
    obtain ⟨na1, nl1, nc1, rfl⟩ := n1.form
    obtain ⟨na2, nl2, nc2, rfl⟩ := n2.form
    obtain ⟨na3, nl3, nc3, rfl⟩ := n3.form
    have q0 := In.cell (show wr.cell? ⟨b, off + j * 8, none⟩ = some (.string m.fName) from e1 0 _ rfl)
    have q1 := In.cell (show wr.cell? ⟨b, off + j * 8 + 1, none⟩ = some (.slice pa1 pl1 pc1) from e1 1 _ rfl)
    have q2 := In.cell (show wr.cell? ⟨b, off + j * 8 + 2, none⟩ = some (.int .i64 m.fRet.fKind) from e1 2 _ rfl)
    have q3 := In.cell (show wr.cell? ⟨b, off + j * 8 + 3, none⟩ = some (.string m.fRet.fName) from e1 3 _ rfl)
    have q4 := In.cell (show wr.cell? ⟨b, off + j * 8 + 4, none⟩ = some (.int .i64 m.fLocals) from e1 4 _ rfl)
    have q5 := In.cell (show wr.cell? ⟨b, off + j * 8 + 5, none⟩ = some (.int .i64 m.fStack) from e1 5 _ rfl)
    have q6 := In.cell (show wr.cell? ⟨b, off + j * 8 + 6, none⟩ = some (.slice pa2 pl2 pc2) from e1 6 _ rfl)
    have q7 := In.cell (show wr.cell? ⟨b, off + j * 8 + 7, none⟩ = some (.slice pa3 pl3 pc3) from e1 7 _ rfl)
    have r0 := In.cell (show wr.cell? ⟨b', off' + j * 8, none⟩ = some (.string n.fName) from f1 0 _ rfl)
    have r1 := In.cell (show wr.cell? ⟨b', off' + j * 8 + 1, none⟩ = some (.slice na1 nl1 nc1) from f1 1 _ rfl)
    have r2 := In.cell (show wr.cell? ⟨b', off' + j * 8 + 2, none⟩ = some (.int .i64 n.fRet.fKind) from f1 2 _ rfl)
    have r3 := In.cell (show wr.cell? ⟨b', off' + j * 8 + 3, none⟩ = some (.string n.fRet.fName) from f1 3 _ rfl)
    have r4 := In.cell (show wr.cell? ⟨b', off' + j * 8 + 4, none⟩ = some (.int .i64 n.fLocals) from f1 4 _ rfl)
    have r5 := In.cell (show wr.cell? ⟨b', off' + j * 8 + 5, none⟩ = some (.int .i64 n.fStack) from f1 5 _ rfl)
    have r6 := In.cell (show wr.cell? ⟨b', off' + j * 8 + 6, none⟩ = some (.slice na2 nl2 nc2) from f1 6 _ rfl)
    have r7 := In.cell (show wr.cell? ⟨b', off' + j * 8 + 7, none⟩ = some (.slice na3 nl3 nc3) from f1 7 _ rfl)
    have E0 := qhd e0
    have F0 := qhd f0
    go_wp2_with fail
    have d1 := In.cell c1
    have d2 := In.cell c2
    obtain ⟨q, hq⟩ : ∃ q, q = mthEq m n := ⟨_, rfl⟩
    have CM : ∀ y : In wr, Calls Tryz.prog 34 #[.agg #[.string m.fName, .slice pa1 pl1 pc1, .int .i64 m.fRet.fKind, .string m.fRet.fName, .int .i64 m.fLocals, .int .i64 m.fStack, .slice pa2 pl2 pc2, .slice pa3 pl3 pc3], .agg #[.string n.fName, .slice na1 nl1 nc1, .int .i64 n.fRet.fKind, .string n.fRet.fName, .int .i64 n.fLocals, .int .i64 n.fStack, .slice na2 nl2 nc2, .slice na3 nl3 nc3]] y.x fun e w' => e = .returned (.bool q) ∧ Below y.x.heap.size y.x w' := fun y => by
     have hk := Keeps.of_below (lo := 0) y.h
     rw [hq]; exact S_l9Method m n _ _ _ _ _ _ y.x (p1.stays qar hk) (p2.stays qau hk) (p3.stays qas hk) (n1.stays qar hk) (n2.stays qau hk) (n3.stays qas hk)
    have HQ := qhd hq
    clear e0 e1 f0 f1 hr hr' hq c1 c2 p1 p2 p3 n1 n2 n3
    have g1 : (j : Int) < (l3 : Int) := by omega
    have g2 : (0 : Int) ≤ (j : Int) := by omega
    cases q
    ·have RV : Hid (z = false) := qhd (by rw [HZ3.out]; exact eqL_stop (qal E0.out (by unfold eqAt; rw [F0.out]; exact HQ.out.symm)))
     refine qaj (by kernel_rfl) (by kernel_rfl) ?_
     repeat (go_big_quiet_step (first | (go_at_call 34; with_reducible exact Calls.ins (CM _))))
     refine wpQuiet_nil ?_
     rintro wZ ⟨⟨wE, hwE⟩, hq⟩
     obtain rfl : wE = wZ := hq.symm
     clear hq
     have hwEs := hwE.size
     (try dsimp only)
     go_wp2
     all_goals (try go_returns)
     all_goals exact HR.out _ _ ⟨by first | (rw [RV.out]; done) | (rw [RV.out]; rfl), hEb.trans (hwE.mono hEb.size)⟩
    refine qaj (by kernel_rfl) (by kernel_rfl) ?_
    repeat (go_big_quiet_step (first | (go_at_call 34; with_reducible exact Calls.ins (CM _))))
    refine wpQuiet_nil ?_
    rintro wZ ⟨⟨wE, hwE⟩, hq⟩
    obtain rfl : wE = wZ := hq.symm
    clear hq
    have hwEs := hwE.size
    (try dsimp only)
    go_wp2
    go_roundw
    case measure => simp [intOf]; omega
    case rel => exact ⟨j + 1, by omega, by go_num, EachTo.step HA.out E0.out (by unfold eqAt; rw [F0.out]; exact HQ.out.symm), hb2.trans (hwE.mono hb2x)⟩

end Go.Proofs.YtfbonocadpknbaaGreatDoor
