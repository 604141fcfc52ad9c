

/-
  The walks of the program's fieldAt, methodAt, of slices.IndexFunc and slices.Equal as they use them, agreeMethod. Condition: the data can be read.
  Then: The walk of the program's pairLaid. Condition: a lodge of keepers that are ok.
-/
import Derived.Test.YtejfecmmcghpmaaGreatLaidP
import Derived.Test.YtejfecmmcghpmaaGreatLaidT
namespace Go.Proofs.YtejfecmmcghpmaaGreat
set_option linter.unusedSimpArgs false
set_option linter.unusedVariables false
open Go.RowKit

set_option maxHeartbeats 2000000 in
theorem I_fieldAt_one (x : DClsField) (nm : ByteArray) (B : Nat) (w : World) (hc : w.cell? ⟨B, 0, none⟩ = some (.string nm)) :
    Calls Tryz.prog 131 #[.agg #[.string x.fName, .int .i64 x.fKind.fKind, .string x.fKind.fName], .pointer (some ⟨B, 0, none⟩)] w fun e w' => e = .returned (.bool (sameN x.fName nm)) ∧ Below w.heap.size w w' := by
  have hB := block_lt_of_cell hc
  refine calls_hide fun R HR => ?_
  go_enter Tryz.func131, Tryz.ntmps131
  go_wp2
  all_goals (try go_returns)
  all_goals exact HR.out _ _ ⟨ret_bool (by first | rfl | (simp [sameN]; done)), by (repeat' (first | (with_reducible exact Below.refl _ _) | (with_reducible refine Below.alloc ?_ ?_ _) | (with_reducible refine Below.setCell ?_ ?_ _) | (with_reducible refine Below.drew ?_) | (refine below_hyp (by assumption) ?_ ?_) | go_size))⟩

set_option maxRecDepth 100000 in
set_option maxHeartbeats 4000000 in
theorem I_fieldAt_index (xs : List DClsField) (v : Value) (nm : ByteArray) (B : Nat) (w : World) (hv : Sl 3 rClsField 0 w v xs) (hc : w.cell? ⟨B, 0, none⟩ = some (.string nm)) :
    Calls Tryz.prog 130 #[v, .func (.func 131) #[] #[.pointer (some ⟨B, 0, none⟩)]] w fun e w' => e = .returned (.int .i64 (fieldAt xs nm)) ∧ Below w.heap.size w w' := by
  obtain ⟨a, len, cap, rfl, hl, h1, h2, h3⟩ := id hv
  have m1 : len ≤ 9223372036854775807 := by unfold maxLen at h2; omega
  have HL := Lib.hid hl
  have H3 := Lib.hid h3
  clear h2 hl h1 h3
  refine calls_hide fun R HR => ?_
  go_enter Tryz.func130, Tryz.ntmps130
  go_wp2_with fail
  go_loopw [5, 8] (fun _ zi wr => ∃ k : Nat, k ≤ len ∧ zi = .int .i64 k ∧ EachTo (nots fun f => sameN f.fName nm) xs k = true ∧ Below w.heap.size w wr) (fun _ zi _ => len - (intOf zi).toNat)
  case atStart => exact ⟨0, Nat.zero_le _, rfl, rfl, by (repeat' (first | (with_reducible exact Below.refl _ _) | (with_reducible refine Below.alloc ?_ ?_ _) | (with_reducible refine Below.setCell ?_ ?_ _) | (with_reducible refine Below.drew ?_) | (refine below_hyp (by assumption) ?_ ?_) | go_size))⟩
  case round =>
    obtain ⟨k, hk, rfl, ha, hb⟩ := hrel
    have HA := Lib.hid ha
    clear ha
    have hbx := hb.size
    by_cases hlt : k < len
    · obtain ⟨b, off, rfl, _, _, hr⟩ := (H3.out.stays rClsField_good (Keeps.of_below hb)) (by omega)
      obtain ⟨x, cs, e0, e1, e2, e3⟩ := hr k hlt
      obtain ⟨rfl, bx1, bx2⟩ := e3
      have q0 : wr.cell? ⟨b, off + k * 3, none⟩ = some (.string x.fName) := e2 0 _ rfl
      have q1 : wr.cell? ⟨b, off + k * 3 + 1, none⟩ = some (.int .i64 x.fKind.fKind) := e2 1 _ rfl
      have q2 : wr.cell? ⟨b, off + k * 3 + 2, none⟩ = some (.string x.fKind.fName) := e2 2 _ rfl
      have E0 := Lib.hid e0
      have hcw := keep_cell hb hc
      have CO := I_fieldAt_one x nm B wr hcw
      clear e0 e1 e2 hr
      cases hx : sameN x.fName nm
      · have HX := Lib.hid hx
        rw [hx] at CO
        clear hx
        go_wp2_with fail
        refine CO.mono ?_
        rintro _ w2 ⟨rfl, hb2⟩
        go_wp2
        go_roundw
        case rel => exact ⟨k + 1, by omega, by go_num, EachTo.step HA.out E0.out (by simp [nots, HX.out]), hb.trans (hb2.mono hbx)⟩
        case measure => simp [intOf]; omega
      · have HX := Lib.hid hx
        rw [hx] at CO
        clear hx
        go_wp2_with fail
        refine CO.mono ?_
        rintro _ w2 ⟨rfl, hb2⟩
        go_wp2
        all_goals (try go_returns)
        all_goals exact HR.out _ _ ⟨ret_int (firstAt_hit' HA.out E0.out HX.out).symm, hb.trans (hb2.mono hbx)⟩
    · obtain rfl : k = len := by omega
      go_wp2
      all_goals (try go_returns)
      all_goals exact HR.out _ _ ⟨ret_int (firstAt_none' HA.out HL.out).symm, hb⟩

set_option maxHeartbeats 2000000 in
theorem I_fieldAt (c : DClsClass) (v1 v2 : Value) (nm : ByteArray) (w : World) (s1 : Sl 3 rClsField 0 w v1 c.fFields) (s2 : Sl 8 rClsMethod 0 w v2 c.fMethods) :
    Calls Tryz.prog 115 #[.agg #[.string c.fName, .string c.fSuper, v1, v2], .string nm] w fun e w' => e = .returned (.int .i64 (fieldAt c.fFields nm)) ∧ Below w.heap.size w w' := by
  obtain ⟨a, len, cap, rfl⟩ := s1.form
  obtain ⟨a', len', cap', rfl⟩ := s2.form
  have HS := Lib.hid s1
  refine calls_hide fun R HR => ?_
  go_enter Tryz.func115, Tryz.ntmps115
  go_wp2_with fail
  refine (I_fieldAt_index c.fFields _ nm (w.heap.size + 1) _ (HS.out.stays rClsField_good (Keeps.of_below' (B := w.heap.size) (by (repeat' (first | (with_reducible exact Below.refl _ _) | (with_reducible refine Below.alloc ?_ ?_ _) | (with_reducible refine Below.setCell ?_ ?_ _) | (with_reducible refine Below.drew ?_) | (refine below_hyp (by assumption) ?_ ?_) | go_size))) (Nat.le_refl _))) (by go_simp)).mono ?_
  rintro _ w2 ⟨rfl, hb2⟩
  have hb2s := (hb2).size; (try simp only [World.size_alloc, World.size_setCell, World.size_drew] at hb2s)
  go_wp2
  all_goals (try go_returns)
  all_goals exact HR.out _ _ ⟨rfl, by (repeat' (first | (with_reducible exact Below.refl _ _) | (with_reducible refine Below.alloc ?_ ?_ _) | (with_reducible refine Below.setCell ?_ ?_ _) | (with_reducible refine Below.drew ?_) | (refine below_hyp (by assumption) ?_ ?_) | go_size))⟩

set_option maxHeartbeats 2000000 in
theorem I_methodAt_one (x : DClsMethod) (nm : ByteArray) (na1 na2 na3 : Option Addr) (nl1 nl2 nl3 nc1 nc2 nc3 : Nat) (B : Nat) (w : World) (hc : w.cell? ⟨B, 0, none⟩ = some (.string nm)) :
    Calls Tryz.prog 133 #[.agg #[.string x.fName, .slice na1 nl1 nc1, .int .i64 x.fRet.fKind, .string x.fRet.fName, .int .i64 x.fLocals, .int .i64 x.fStack, .slice na2 nl2 nc2, .slice na3 nl3 nc3], .pointer (some ⟨B, 0, none⟩)] w fun e w' => e = .returned (.bool (sameN x.fName nm)) ∧ Below w.heap.size w w' := by
  have hB := block_lt_of_cell hc
  refine calls_hide fun R HR => ?_
  go_enter Tryz.func133, Tryz.ntmps133
  go_wp2
  all_goals (try go_returns)
  all_goals exact HR.out _ _ ⟨ret_bool (by first | rfl | (simp [sameN]; done)), by (repeat' (first | (with_reducible exact Below.refl _ _) | (with_reducible refine Below.alloc ?_ ?_ _) | (with_reducible refine Below.setCell ?_ ?_ _) | (with_reducible refine Below.drew ?_) | (refine below_hyp (by assumption) ?_ ?_) | go_size))⟩

set_option maxRecDepth 100000 in
set_option maxHeartbeats 4000000 in
theorem I_methodAt_index (xs : List DClsMethod) (v : Value) (nm : ByteArray) (B : Nat) (w : World) (hv : Sl 8 rClsMethod 0 w v xs) (hc : w.cell? ⟨B, 0, none⟩ = some (.string nm)) :
    Calls Tryz.prog 132 #[v, .func (.func 133) #[] #[.pointer (some ⟨B, 0, none⟩)]] w fun e w' => e = .returned (.int .i64 (methodAt xs nm)) ∧ Below w.heap.size w w' := by
  obtain ⟨a, len, cap, rfl, hl, h1, h2, h3⟩ := id hv
  have m1 : len ≤ 9223372036854775807 := by unfold maxLen at h2; omega
  have HL := Lib.hid hl
  have H3 := Lib.hid h3
  clear h2 hl h1 h3
  refine calls_hide fun R HR => ?_
  go_enter Tryz.func132, Tryz.ntmps132
  go_wp2_with fail
  go_loopw [5, 8] (fun _ zi wr => ∃ k : Nat, k ≤ len ∧ zi = .int .i64 k ∧ EachTo (nots fun f => sameN f.fName nm) xs k = true ∧ Below w.heap.size w wr) (fun _ zi _ => len - (intOf zi).toNat)
  case atStart => exact ⟨0, Nat.zero_le _, rfl, rfl, by (repeat' (first | (with_reducible exact Below.refl _ _) | (with_reducible refine Below.alloc ?_ ?_ _) | (with_reducible refine Below.setCell ?_ ?_ _) | (with_reducible refine Below.drew ?_) | (refine below_hyp (by assumption) ?_ ?_) | go_size))⟩
  case round =>
    obtain ⟨k, hk, rfl, ha, hb⟩ := hrel
    have HA := Lib.hid ha
    clear ha
    have hbx := hb.size
    by_cases hlt : k < len
    · obtain ⟨b, off, rfl, _, _, hr⟩ := (H3.out.stays rClsMethod_good (Keeps.of_below hb)) (by omega)
      obtain ⟨x, cs, e0, e1, e2, e3⟩ := hr k hlt
      obtain ⟨v1, v2, v3, rfl, s1, s2, s3, b1, b2⟩ := e3
      obtain ⟨na1, nl1, nc1, rfl⟩ := s1.form
      obtain ⟨na2, nl2, nc2, rfl⟩ := s2.form
      obtain ⟨na3, nl3, nc3, rfl⟩ := s3.form
      have q0 : wr.cell? ⟨b, off + k * 8, none⟩ = some (.string x.fName) := e2 0 _ rfl
      have q1 : wr.cell? ⟨b, off + k * 8 + 1, none⟩ = some (.slice na1 nl1 nc1) := e2 1 _ rfl
      have q2 : wr.cell? ⟨b, off + k * 8 + 2, none⟩ = some (.int .i64 x.fRet.fKind) := e2 2 _ rfl
      have q3 : wr.cell? ⟨b, off + k * 8 + 3, none⟩ = some (.string x.fRet.fName) := e2 3 _ rfl
      have q4 : wr.cell? ⟨b, off + k * 8 + 4, none⟩ = some (.int .i64 x.fLocals) := e2 4 _ rfl
      have q5 : wr.cell? ⟨b, off + k * 8 + 5, none⟩ = some (.int .i64 x.fStack) := e2 5 _ rfl
      have q6 : wr.cell? ⟨b, off + k * 8 + 6, none⟩ = some (.slice na2 nl2 nc2) := e2 6 _ rfl
      have q7 : wr.cell? ⟨b, off + k * 8 + 7, none⟩ = some (.slice na3 nl3 nc3) := e2 7 _ rfl
      have E0 := Lib.hid e0
      have hcw := keep_cell hb hc
      have CO := I_methodAt_one x nm na1 na2 na3 nl1 nl2 nl3 nc1 nc2 nc3 B wr hcw
      clear e0 e1 e2 hr
      cases hx : sameN x.fName nm
      · have HX := Lib.hid hx
        rw [hx] at CO
        clear hx
        go_wp2_with fail
        refine CO.mono ?_
        rintro _ w2 ⟨rfl, hb2⟩
        go_wp2
        go_roundw
        case rel => exact ⟨k + 1, by omega, by go_num, EachTo.step HA.out E0.out (by simp [nots, HX.out]), hb.trans (hb2.mono hbx)⟩
        case measure => simp [intOf]; omega
      · have HX := Lib.hid hx
        rw [hx] at CO
        clear hx
        go_wp2_with fail
        refine CO.mono ?_
        rintro _ w2 ⟨rfl, hb2⟩
        go_wp2
        all_goals (try go_returns)
        all_goals exact HR.out _ _ ⟨ret_int (firstAt_hit' HA.out E0.out HX.out).symm, hb.trans (hb2.mono hbx)⟩
    · obtain rfl : k = len := by omega
      go_wp2
      all_goals (try go_returns)
      all_goals exact HR.out _ _ ⟨ret_int (firstAt_none' HA.out HL.out).symm, hb⟩

set_option maxHeartbeats 2000000 in
theorem I_methodAt (c : DClsClass) (v1 v2 : Value) (nm : ByteArray) (w : World) (s1 : Sl 3 rClsField 0 w v1 c.fFields) (s2 : Sl 8 rClsMethod 0 w v2 c.fMethods) :
    Calls Tryz.prog 116 #[.agg #[.string c.fName, .string c.fSuper, v1, v2], .string nm] w fun e w' => e = .returned (.int .i64 (methodAt c.fMethods nm)) ∧ Below w.heap.size w w' := by
  obtain ⟨a, len, cap, rfl⟩ := s1.form
  obtain ⟨a', len', cap', rfl⟩ := s2.form
  have HS := Lib.hid s2
  refine calls_hide fun R HR => ?_
  go_enter Tryz.func116, Tryz.ntmps116
  go_wp2_with fail
  refine (I_methodAt_index c.fMethods _ nm (w.heap.size + 1) _ (HS.out.stays rClsMethod_good (Keeps.of_below' (B := w.heap.size) (by (repeat' (first | (with_reducible exact Below.refl _ _) | (with_reducible refine Below.alloc ?_ ?_ _) | (with_reducible refine Below.setCell ?_ ?_ _) | (with_reducible refine Below.drew ?_) | (refine below_hyp (by assumption) ?_ ?_) | go_size))) (Nat.le_refl _))) (by go_simp)).mono ?_
  rintro _ w2 ⟨rfl, hb2⟩
  have hb2s := (hb2).size; (try simp only [World.size_alloc, World.size_setCell, World.size_drew] at hb2s)
  go_wp2
  all_goals (try go_returns)
  all_goals exact HR.out _ _ ⟨rfl, by (repeat' (first | (with_reducible exact Below.refl _ _) | (with_reducible refine Below.alloc ?_ ?_ _) | (with_reducible refine Below.setCell ?_ ?_ _) | (with_reducible refine Below.drew ?_) | (refine below_hyp (by assumption) ?_ ?_) | go_size))⟩

set_option maxRecDepth 100000 in
set_option maxHeartbeats 8000000 in
theorem I_agreeMethod (p : DLodPlan) (L i j : Nat) (m : DClsMethod) (v1 : Value) (a2 a3 : Option Addr) (l2 l3 k2 k3 : Nat) (w : World) (hl : Lodge w L p) (hp : lodOk p = true) (hi : i < p.fKeepers.length) (hj : j < p.fKeepers.length) (s1 : Sl 2 rKndKind 0 w v1 m.fArgs) (hn : m.fRet.fName.size ≤ maxLen) :
    Calls Tryz.prog 118 #[.pointer (some ⟨L, 0, none⟩), .int .i64 (i : Int), .int .i64 (j : Int), .agg #[.string m.fName, v1, .int .i64 m.fRet.fKind, .string m.fRet.fName, .int .i64 m.fLocals, .int .i64 m.fStack, .slice a2 l2 k2, .slice a3 l3 k3]] w fun e w' => e = .returned (.bool (shapeP p i j m)) ∧ Below w.heap.size w w' := by
  obtain ⟨a, len, cap, rfl, hlen, h1, h2, h3⟩ := id s1
  have m1 : len ≤ 9223372036854775807 := by unfold maxLen at h2; omega
  have HLN := Lib.hid hlen
  have HL := Lib.hid hl
  have HP := Lib.hid hp
  clear h2 hlen h1 hl hp
  obtain ⟨z, hz⟩ : ∃ z, z = shapeP p i j m := ⟨_, rfl⟩
  have HZ := Lib.hid hz
  rw [← hz]
  clear hz
  have AG : ∀ (W : World) (kd : DKndKind), kd.fName.size ≤ maxLen → Below w.heap.size w W → Calls Tryz.prog 57 #[.pointer (some ⟨L, 0, none⟩), .int .i64 (i : Int), .int .i64 (j : Int), .agg #[.int .i64 kd.fKind, .string kd.fName]] W fun e w' => e = .returned (.bool (agreeP p i j kd)) ∧ Below W.heap.size W w' := fun W kd hk hW => I_agree p L i j kd W (HL.out.below hW) HP.out hi hj hk
  refine calls_hide fun R HR => ?_
  go_enter Tryz.func118, Tryz.ntmps118
  go_wp2_with fail
  obtain ⟨wS, hwS⟩ : ∃ wS, wS = w.alloc (.cells #[.string m.fName, .slice a len cap, .int .i64 m.fRet.fKind, .string m.fRet.fName, .int .i64 m.fLocals, .int .i64 m.fStack, .slice a2 l2 k2, .slice a3 l3 k3] 145) := ⟨_, rfl⟩
  rw [← hwS]
  have hES : Below w.heap.size w wS := by rw [hwS]; (repeat' (first | (with_reducible exact Below.refl _ _) | (with_reducible refine Below.alloc ?_ ?_ _) | (with_reducible refine Below.setCell ?_ ?_ _) | (with_reducible refine Below.drew ?_) | (refine below_hyp (by assumption) ?_ ?_) | go_size))
  have hzS := hES.size
  have c2 : wS.cell? ⟨w.heap.size, 2, none⟩ = some (.int .i64 m.fRet.fKind) := by rw [hwS]; go_simp
  have c3 : wS.cell? ⟨w.heap.size, 3, none⟩ = some (.string m.fRet.fName) := by rw [hwS]; go_simp
  have C2 := Lib.hid c2
  have C3 := Lib.hid c3
  clear hwS c2 c3
  go_loopw [14] (fun zi wr => ∃ k : Nat, k ≤ len ∧ zi = .int .i64 k ∧ EachTo (fun _ k => agreeP p i j k) m.fArgs k = true ∧ Below wS.heap.size wS wr) (fun zi _ => len - (intOf zi).toNat)
  case atStart => exact ⟨0, Nat.zero_le _, rfl, rfl, Below.refl _ _⟩
  case round =>
    obtain ⟨k, hk, rfl, ha, hb⟩ := hrel
    have HA := Lib.hid ha
    clear ha
    have hbx := hb.size
    have hEr := hES.trans (hb.mono hzS)
    have hErs := hEr.size
    by_cases hlt : k < len
    · obtain ⟨b, off, rfl, _, _, hr⟩ := h3.stays rKndKind_good (Keeps.of_below hEr) (by omega)
      obtain ⟨⟨xk, xn⟩, cs, e0, _, e1, e4⟩ := hr k hlt
      obtain ⟨rfl, bx⟩ := e4
      have q1 : wr.cell? ⟨b, off + k * 2, none⟩ = some (.int .i64 xk) := e1 0 _ rfl
      have q2 : wr.cell? ⟨b, off + k * 2 + 1, none⟩ = some (.string xn) := e1 1 _ rfl
      have E0 := Lib.hid e0
      clear e0 e1 hr
      go_wp2_with fail
      refine (AG _ ⟨xk, xn⟩ bx (by (repeat' (first | (with_reducible exact Below.refl _ _) | (with_reducible refine Below.alloc ?_ ?_ _) | (with_reducible refine Below.setCell ?_ ?_ _) | (with_reducible refine Below.drew ?_) | (refine below_hyp (by assumption) ?_ ?_) | go_size)))).mono ?_
      rintro _ wE ⟨rfl, hE⟩
      have hEs := (hE).size; (try simp only [World.size_alloc, World.size_setCell, World.size_drew] at hEs)
      have hE2 : Below wS.heap.size wS wE := (hb.alloc hbx _).trans (hE.mono (by simp; omega))
      cases hq : agreeP p i j ⟨xk, xn⟩
      · have RV : Hid (z = false) := Lib.hid (by rw [HZ.out]; exact shapeP_stop (each_stop E0.out hq))
        clear hq
        go_wp2
        all_goals (try go_returns)
        all_goals exact HR.out _ _ ⟨by rw [RV.out]; rfl, hES.trans (hE2.mono hzS)⟩
      · have HQ := Lib.hid hq
        clear hq
        go_wp2
        go_roundw
        case measure => simp [intOf]; omega
        case rel => exact ⟨k + 1, by omega, by go_num, EachTo.step HA.out E0.out HQ.out, hE2⟩
    · obtain rfl : k = len := by omega
      have RV : Hid (z = agreeP p i j m.fRet) := Lib.hid (by rw [HZ.out]; unfold shapeP; rw [each_done HA.out HLN.out]; rfl)
      have c2 := keep_cell hb C2.out
      have c3 := keep_cell hb C3.out
      go_wp2_with fail
      refine (AG _ m.fRet hn hEr).mono ?_
      rintro _ wE ⟨rfl, hE⟩
      go_wp2
      all_goals (try go_returns)
      all_goals exact HR.out _ _ ⟨by rw [RV.out]; rfl, hEr.trans (hE.mono hErs)⟩

theorem unal {w w' : World} {o : Obj} (h : Below (w.alloc o).heap.size (w.alloc o) w') : Below w.heap.size w w' := ((Below.refl _ _).alloc (Nat.le_refl _) o).trans (h.mono (by simp))
theorem fresh4x {w w' : World} {t : TypeId} {u0 u1 u2 u3 : Value} (h : Below ((w.alloc (.cells #[u0, u1, u2, u3] t)).alloc (.cells #[u0, u1, u2, u3] t)).drew.heap.size ((w.alloc (.cells #[u0, u1, u2, u3] t)).alloc (.cells #[u0, u1, u2, u3] t)).drew w') : w'.cell? ⟨w.heap.size, 0, none⟩ = some u0 ∧ w'.cell? ⟨w.heap.size, 1, none⟩ = some u1 ∧ w'.cell? ⟨w.heap.size, 2, none⟩ = some u2 ∧ w'.cell? ⟨w.heap.size, 3, none⟩ = some u3 ∧ w'.frozen? ⟨w.heap.size, 0, none⟩ = false ∧ w'.frozen? ⟨w.heap.size, 1, none⟩ = false ∧ w'.frozen? ⟨w.heap.size, 2, none⟩ = false ∧ w'.frozen? ⟨w.heap.size, 3, none⟩ = false ∧ w'.cell? ⟨w.heap.size + 1, 0, none⟩ = some u0 ∧ w'.cell? ⟨w.heap.size + 1, 1, none⟩ = some u1 ∧ w'.cell? ⟨w.heap.size + 1, 2, none⟩ = some u2 ∧ w'.cell? ⟨w.heap.size + 1, 3, none⟩ = some u3 ∧ w'.frozen? ⟨w.heap.size + 1, 0, none⟩ = false ∧ w'.frozen? ⟨w.heap.size + 1, 1, none⟩ = false ∧ w'.frozen? ⟨w.heap.size + 1, 2, none⟩ = false ∧ w'.frozen? ⟨w.heap.size + 1, 3, none⟩ = false ∧ w.heap.size + 1 < w'.heap.size := by
  have hz := h.size
  simp only [World.size_alloc, World.size_drew] at hz
  refine ⟨?_, ?_, ?_, ?_, ?_, ?_, ?_, ?_, ?_, ?_, ?_, ?_, ?_, ?_, ?_, ?_, by omega⟩
  all_goals first
    | (refine (h.cell ?_).trans ?_ <;> first | (simp only [World.size_alloc, World.size_drew]; omega) | go_simp)
    | (refine (h.frozen ?_).trans ?_ <;> first | (simp only [World.size_alloc, World.size_drew]; omega) | go_simp)
theorem fresh4d {w w' : World} {t : TypeId} {u0 u1 u2 u3 : Value} (h : Below (w.alloc (.cells #[u0, u1, u2, u3] t)).drew.heap.size (w.alloc (.cells #[u0, u1, u2, u3] t)).drew w') :
    w'.cell? ⟨w.heap.size, 0, none⟩ = some u0 ∧ w'.cell? ⟨w.heap.size, 1, none⟩ = some u1 ∧ w'.cell? ⟨w.heap.size, 2, none⟩ = some u2 ∧ w'.cell? ⟨w.heap.size, 3, none⟩ = some u3 ∧ w'.frozen? ⟨w.heap.size, 0, none⟩ = false ∧ w'.frozen? ⟨w.heap.size, 1, none⟩ = false ∧ w'.frozen? ⟨w.heap.size, 2, none⟩ = false ∧ w'.frozen? ⟨w.heap.size, 3, none⟩ = false ∧ w.heap.size < w'.heap.size := fresh4 h
theorem fresh4y {w w' : World} {t : TypeId} {u0 u1 u2 u3 : Value} (h : Below (w.alloc (.cells #[u0, u1, u2, u3] t)).heap.size (w.alloc (.cells #[u0, u1, u2, u3] t)) w') : w'.cell? ⟨w.heap.size, 0, none⟩ = some u0 ∧ w'.cell? ⟨w.heap.size, 1, none⟩ = some u1 ∧ w'.cell? ⟨w.heap.size, 2, none⟩ = some u2 ∧ w'.cell? ⟨w.heap.size, 3, none⟩ = some u3 ∧ w'.frozen? ⟨w.heap.size, 0, none⟩ = false ∧ w'.frozen? ⟨w.heap.size, 1, none⟩ = false ∧ w'.frozen? ⟨w.heap.size, 2, none⟩ = false ∧ w'.frozen? ⟨w.heap.size, 3, none⟩ = false ∧ w.heap.size < w'.heap.size := by
  have hz := h.size
  simp only [World.size_alloc, World.size_drew] at hz
  refine ⟨?_, ?_, ?_, ?_, ?_, ?_, ?_, ?_, by omega⟩
  all_goals first
    | (refine (h.cell ?_).trans ?_ <;> first | (simp only [World.size_alloc, World.size_drew]; omega) | go_simp)
    | (refine (h.frozen ?_).trans ?_ <;> first | (simp only [World.size_alloc, World.size_drew]; omega) | go_simp)
theorem fresh4z {w w' : World} {t : TypeId} {u0 u1 u2 u3 : Value} (h : Below ((w.alloc (.cells #[u0, u1, u2, u3] t)).alloc (.cells #[u0, u1, u2, u3] t)).heap.size ((w.alloc (.cells #[u0, u1, u2, u3] t)).alloc (.cells #[u0, u1, u2, u3] t)) w') : w'.cell? ⟨w.heap.size, 0, none⟩ = some u0 ∧ w'.cell? ⟨w.heap.size, 1, none⟩ = some u1 ∧ w'.cell? ⟨w.heap.size, 2, none⟩ = some u2 ∧ w'.cell? ⟨w.heap.size, 3, none⟩ = some u3 ∧ w'.frozen? ⟨w.heap.size, 0, none⟩ = false ∧ w'.frozen? ⟨w.heap.size, 1, none⟩ = false ∧ w'.frozen? ⟨w.heap.size, 2, none⟩ = false ∧ w'.frozen? ⟨w.heap.size, 3, none⟩ = false ∧ w'.cell? ⟨w.heap.size + 1, 0, none⟩ = some u0 ∧ w'.cell? ⟨w.heap.size + 1, 1, none⟩ = some u1 ∧ w'.cell? ⟨w.heap.size + 1, 2, none⟩ = some u2 ∧ w'.cell? ⟨w.heap.size + 1, 3, none⟩ = some u3 ∧ w'.frozen? ⟨w.heap.size + 1, 0, none⟩ = false ∧ w'.frozen? ⟨w.heap.size + 1, 1, none⟩ = false ∧ w'.frozen? ⟨w.heap.size + 1, 2, none⟩ = false ∧ w'.frozen? ⟨w.heap.size + 1, 3, none⟩ = false ∧ w.heap.size + 1 < w'.heap.size := by
  have hz := h.size
  simp only [World.size_alloc, World.size_drew] at hz
  refine ⟨?_, ?_, ?_, ?_, ?_, ?_, ?_, ?_, ?_, ?_, ?_, ?_, ?_, ?_, ?_, ?_, by omega⟩
  all_goals first
    | (refine (h.cell ?_).trans ?_ <;> first | (simp only [World.size_alloc, World.size_drew]; omega) | go_simp)
    | (refine (h.frozen ?_).trans ?_ <;> first | (simp only [World.size_alloc, World.size_drew]; omega) | go_simp)

set_option maxRecDepth 100000 in
set_option maxHeartbeats 40000000 in
theorem I_pairLaid (p : DLodPlan) (L : Nat) (ra rb : DLodRef) (w : World) (hl : Lodge w L p) (hp : lodOk p = true) (ta : There p ra) (tb : There p rb) :
    Calls Tryz.prog 101 #[.pointer (some ⟨L, 0, none⟩), .agg #[.int .i64 ra.fKeeper, .string ra.fName], .agg #[.int .i64 rb.fKeeper, .string rb.fName]] w fun e w' => e = .returned (.bool (pairOk p ra rb)) ∧ Below w.heap.size w w' := by
  obtain ⟨c, hc⟩ := ta.cls
  obtain ⟨u, hu⟩ := tb.cls
  obtain ⟨ak, an⟩ := ra
  obtain ⟨bk, bn⟩ := rb
  obtain ⟨xi, h1, hxi, _, hna⟩ := ta
  obtain ⟨yi, h2, hyi, _, hnb⟩ := tb
  dsimp only at h1 h2 hna hnb
  subst h1 h2
  have HL := Lib.hid hl
  have HP := Lib.hid hp
  have HC := Lib.hid hc
  have HU := Lib.hid hu
  obtain ⟨z, hz⟩ : ∃ z, z = pairFits p xi yi c u := ⟨_, rfl⟩
  have HZ := Lib.hid hz
  rw [pairOk_cls hc hu, ← hz]
  dsimp only
  clear hz hl hp hc hu
  refine calls_hide fun R HR => ?_
  go_enter Tryz.func101, Tryz.ntmps101
  go_upto_region 1 with fail
  go_cut [7, 8] from 15 to 20 (fun v7 v8 wx => ∃ (B D : Nat), v7 = .pointer (some ⟨B, 0, none⟩) ∧ v8 = .pointer (some ⟨D, 0, none⟩) ∧ Below w.heap.size w wx ∧ wx.cell? ⟨w.heap.size, 0, none⟩ = some (.int .i64 (xi : Int)) ∧ wx.cell? ⟨w.heap.size + 1, 0, none⟩ = some (.int .i64 (yi : Int)) ∧ ClsAt wx B c ∧ ClsAt wx D u)
  case first =>
    obtain ⟨wS, hwS⟩ : ∃ wS, wS = (w.alloc (.cells #[.int .i64 (xi : Int), .string an] 35)).alloc (.cells #[.int .i64 (yi : Int), .string bn] 35) := ⟨_, rfl⟩
    rw [← hwS]
    have hES : Below w.heap.size w wS := by rw [hwS]; (repeat' (first | (with_reducible exact Below.refl _ _) | (with_reducible refine Below.alloc ?_ ?_ _) | (with_reducible refine Below.setCell ?_ ?_ _) | (with_reducible refine Below.drew ?_) | (refine below_hyp (by assumption) ?_ ?_) | go_size))
    have hzS := hES.size
    have hzS2 : w.heap.size + 1 < wS.heap.size := by rw [hwS]; simp
    have j0 : wS.cell? ⟨w.heap.size, 0, none⟩ = some (.int .i64 (xi : Int)) := by rw [hwS]; go_simp
    have j1 : wS.cell? ⟨w.heap.size, 1, none⟩ = some (.string an) := by rw [hwS]; go_simp
    have j2 : wS.cell? ⟨w.heap.size + 1, 0, none⟩ = some (.int .i64 (yi : Int)) := by rw [hwS]; go_simp
    have j3 : wS.cell? ⟨w.heap.size + 1, 1, none⟩ = some (.string bn) := by rw [hwS]; go_simp
    have k0 : ∀ W, Below wS.heap.size wS W → W.cell? ⟨w.heap.size, 0, none⟩ = some (.int .i64 (xi : Int)) := fun W hW => keep_cell hW j0
    have k1 : ∀ W, Below wS.heap.size wS W → W.cell? ⟨w.heap.size, 1, none⟩ = some (.string an) := fun W hW => keep_cell hW j1
    have k2 : ∀ W, Below wS.heap.size wS W → W.cell? ⟨w.heap.size + 1, 0, none⟩ = some (.int .i64 (yi : Int)) := fun W hW => keep_cell hW j2
    have k3 : ∀ W, Below wS.heap.size wS W → W.cell? ⟨w.heap.size + 1, 1, none⟩ = some (.string bn) := fun W hW => keep_cell hW j3
    have K0 := Lib.hid k0
    have K2 := Lib.hid k2
    have SS := Lib.hid (HL.out.below hES)
    obtain ⟨v1, hv1, IC1⟩ := I_classV p L ⟨(xi : Int), an⟩ c wS SS.out HC.out hna HP.out
    obtain ⟨v2, hv2, IC2⟩ := I_classV p L ⟨(yi : Int), bn⟩ u wS SS.out HU.out hnb HP.out
    obtain ⟨a1, l1, c1, a2, l2, c2, rfl, hs1, hs2, hn1, hn2⟩ := hv1
    obtain ⟨b1, m1, d1, b2, m2, d2, rfl, ht1, ht2, hu1, hu2⟩ := hv2
    clear hwS j0 j1 j2 j3
    have keepA : ∀ x x' : World, Below x.heap.size x x' → Below wS.heap.size wS x → Below wS.heap.size wS x' := fun x x' hb e => keep_below hb e (Nat.le_refl _)
    go_region_held3 (fun x => Below wS.heap.size wS x) ((first | (with_reducible exact (Below.refl _ _).drew) | (with_reducible assumption) | (with_reducible exact keepA _ _ (by with_reducible assumption) (by with_reducible assumption)) | (with_reducible exact al0 (by with_reducible assumption)) | ((repeat (first | (with_reducible refine Below.drew ?_) | (with_reducible refine Below.setCell ?_ ?_ _) | (with_reducible refine Below.alloc ?_ ?_ _))); all_goals (first | (with_reducible assumption) | (with_reducible exact Below.refl _ _) | ((try simp only [World.size_alloc, World.size_setCell, World.size_drew]); (try dsimp only); omega))))) (first | (go_at_call 108; (with_reducible refine (IC1 _ (by assumption)).mono ?_); rintro _ wp ⟨rfl, hcallp⟩; have hSp := keepA _ _ hcallp (by assumption); have hSps := hSp.size; have hcsp := hcallp.size; (try simp only [World.size_alloc, World.size_drew, World.size_setCell] at hcsp); (first | ((with_reducible have hfr := fresh4x hcallp); obtain ⟨z0p, z1p, z2p, z3p, f0p, f1p, f2p, f3p, y0p, y1p, y2p, y3p, g0p, g1p, g2p, g3p, zlp⟩ := hfr) | ((with_reducible have hfr := fresh4d hcallp); obtain ⟨z0p, z1p, z2p, z3p, f0p, f1p, f2p, f3p, zlp⟩ := hfr) | skip)) | (go_at_call 108; (with_reducible refine (IC2 _ (by assumption)).mono ?_); rintro _ wq ⟨rfl, hcallq⟩; have hSq := keepA _ _ hcallq (by assumption); have hSqs := hSq.size; have hcsq := hcallq.size; (try simp only [World.size_alloc, World.size_drew, World.size_setCell] at hcsq); (first | ((with_reducible have hfr := fresh4z hcallq); obtain ⟨z0q, z1q, z2q, z3q, f0q, f1q, f2q, f3q, y0q, y1q, y2q, y3q, g0q, g1q, g2q, g3q, zlq⟩ := hfr) | ((with_reducible have hfr := fresh4y hcallq); obtain ⟨z0q, z1q, z2q, z3q, f0q, f1q, f2q, f3q, zlq⟩ := hfr) | skip); (have hpq : Below wp.heap.size wp wq := by first | (with_reducible exact hcallq) | (with_reducible exact unal hcallq) | (with_reducible exact unal (unal hcallq))); (try (replace f0p := keep_frozen hpq z0p f0p; replace f1p := keep_frozen hpq z1p f1p; replace f2p := keep_frozen hpq z2p f2p; replace f3p := keep_frozen hpq z3p f3p; replace z0p := keep_cell hpq z0p; replace z1p := keep_cell hpq z1p; replace z2p := keep_cell hpq z2p; replace z3p := keep_cell hpq z3p; have zlp2 := Nat.lt_of_lt_of_le zlp hpq.size)); (try (replace g0p := keep_frozen hpq y0p g0p; replace g1p := keep_frozen hpq y1p g1p; replace g2p := keep_frozen hpq y2p g2p; replace g3p := keep_frozen hpq y3p g3p; replace y0p := keep_cell hpq y0p; replace y1p := keep_cell hpq y1p; replace y2p := keep_cell hpq y2p; replace y3p := keep_cell hpq y3p))))
    all_goals
      clear k0 k1 k2 k3 keepA IC1 IC2
      rename_i hF
      go_wp2_with fail
      go_meet
      case rel =>
        exact ⟨_, _, rfl, rfl, hES.trans (hF.mono hzS), K0.out _ hF, K2.out _ hF, ⟨a1, l1, c1, a2, l2, c2, by go_simp, by go_simp, by go_simp, by go_simp, hs1.stays rClsField_good (Keeps.of_below hF), hs2.stays rClsMethod_good (Keeps.of_below hF)⟩, ⟨b1, m1, d1, b2, m2, d2, by go_simp, by go_simp, by go_simp, by go_simp, ht1.stays rClsField_good (Keeps.of_below hF), ht2.stays rClsMethod_good (Keeps.of_below hF)⟩⟩
  case rest =>
    obtain ⟨B, D, rfl, rfl, hE, c0, d0, hB, hD⟩ := hcut
    obtain ⟨wx, hwx⟩ : ∃ x, x = wc := ⟨_, rfl⟩
    subst hwx
    have HE := Lib.hid hE
    have HB := Lib.hid hB
    have HD := Lib.hid hD
    have C0 := Lib.hid c0
    have D0 := Lib.hid d0
    have hEs := hE.size
    have LX := Lib.hid (HL.out.below hE)
    obtain ⟨ca1, cl1, cc1, ca2, cl2, cc2, n0, n1, n2, n3, sf, sm⟩ := hB
    have hfl := sf.len.1
    have hfc := sf.len.2
    have hfm : cl1 ≤ 9223372036854775807 := by unfold maxLen at hfc; omega
    have SF := Lib.hid sf
    clear hE hD c0 d0 n0 n1 n3 sf sm
    go_wp2_with fail
    clear n2
    go_loopw [24] (fun zi wr => ∃ k : Nat, k ≤ cl1 ∧ zi = .int .i64 k ∧ EachTo (fun _ f => fieldFits u f) c.fFields k = true ∧ Below wx.heap.size wx wr) (fun zi _ => cl1 - (intOf zi).toNat)
    case atStart => exact ⟨0, Nat.zero_le _, rfl, rfl, Below.refl _ _⟩
    case round =>
      obtain ⟨k, hk, rfl, ha, hb⟩ := hrel
      have HA := Lib.hid ha
      clear ha
      have hbx := hb.size
      by_cases hlt : k < cl1
      · obtain ⟨a', len', cap', e', _, _, _, hsl⟩ := SF.out
        cases e'
        obtain ⟨b, off, rfl, _, hbl, hr⟩ := hsl (by omega)
        obtain ⟨x, cs, e0, _, e1, e4⟩ := hr k hlt
        obtain ⟨rfl, bx1, bx2⟩ := e4
        have q0 : wr.cell? ⟨b, off + k * 3, none⟩ = some (.string x.fName) := keep_cell hb (show wx.cell? ⟨b, off + k * 3, none⟩ = some (.string x.fName) from e1 0 _ rfl)
        have q1 : wr.cell? ⟨b, off + k * 3 + 1, none⟩ = some (.int .i64 x.fKind.fKind) := keep_cell hb (show wx.cell? ⟨b, off + k * 3 + 1, none⟩ = some (.int .i64 x.fKind.fKind) from e1 1 _ rfl)
        have q2 : wr.cell? ⟨b, off + k * 3 + 2, none⟩ = some (.string x.fKind.fName) := keep_cell hb (show wx.cell? ⟨b, off + k * 3 + 2, none⟩ = some (.string x.fKind.fName) from e1 2 _ rfl)
        obtain ⟨da1, dl1, dc1, da2, dl2, dc2, o0, o1, o2, o3, tf, tm⟩ := HD.out.below hb
        obtain ⟨y, hy⟩ : ∃ y, y = fieldAt u.fFields x.fName := ⟨_, rfl⟩
        have CO : ∀ W, Below wr.heap.size wr W → Calls Tryz.prog 115 #[.agg #[.string u.fName, .string u.fSuper, .slice da1 dl1 dc1, .slice da2 dl2 dc2], .string x.fName] W fun e w' => e = .returned (.int .i64 y) ∧ Below W.heap.size W w' := fun W hW => by
          rw [hy]; exact I_fieldAt u _ _ x.fName W (tf.stays rClsField_good (Keeps.of_below hW)) (tm.stays rClsMethod_good (Keeps.of_below hW))
        have HY := Lib.hid hy
        have E0 := Lib.hid e0
        clear e0 e1 hr hy tf tm
        have l0 := block_lt_of_cell o0
        go_wp2_with fail
        refine (CO _ (by (repeat' (first | (with_reducible exact Below.refl _ _) | (with_reducible refine Below.alloc ?_ ?_ _) | (with_reducible refine Below.setCell ?_ ?_ _) | (with_reducible refine Below.drew ?_) | (refine below_hyp (by assumption) ?_ ?_) | go_size)))).mono ?_
        rintro _ w3 ⟨rfl, h3⟩
        have h3s := (h3).size; (try simp only [World.size_alloc, World.size_setCell, World.size_drew] at h3s)
        have hE3 : Below wx.heap.size wx w3 := by (repeat' (first | (with_reducible exact Below.refl _ _) | (with_reducible refine Below.alloc ?_ ?_ _) | (with_reducible refine Below.setCell ?_ ?_ _) | (with_reducible refine Below.drew ?_) | (refine below_hyp (by assumption) ?_ ?_) | go_size))
        clear q0 q1 q2 o0 o1 o2 o3 CO
        by_cases h : y < 0
        · have h4 : ¬ 0 ≤ y := by omega
          go_wp2
          go_roundw
          case measure => simp [intOf]; omega
          case rel => exact ⟨k + 1, by omega, by go_num, EachTo.step HA.out E0.out (by unfold fieldFits; rw [← HY.out]; simpa using h), hE3⟩
        · have h4 : 0 ≤ y := by omega
          have RV : Hid (z = false) := Lib.hid (by rw [HZ.out]; exact pairFits_f (each_stop E0.out (by unfold fieldFits; rw [← HY.out]; simpa using h4)))
          go_wp2
          all_goals (try go_returns)
          all_goals exact HR.out _ _ ⟨by rw [RV.out]; rfl, HE.out.trans (hE3.mono hEs)⟩
      · obtain rfl : k = cl1 := by omega
        have HFD : Hid (each (fun _ f => fieldFits u f) c.fFields = true) := Lib.hid (each_done HA.out hfl)
        clear HA
        obtain ⟨wq, hwq⟩ : ∃ x, x = wr := ⟨_, rfl⟩
        subst hwq
        obtain ⟨ca1, cl1, cc1, ca2, cl2, cc2, n0, n1, n2, n3, sf, sm⟩ := HB.out.below hb
        have hml := sm.len.1
        have hmc := sm.len.2
        have hmm : cl2 ≤ 9223372036854775807 := by unfold maxLen at hmc; omega
        have SM := Lib.hid sm
        clear n0 n1 n2 sf sm
        go_wp2_with fail
        clear n3
        go_loopw [37] (fun zj ws => ∃ j : Nat, j ≤ cl2 ∧ zj = .int .i64 j ∧ EachTo (fun _ m => methodFits p xi yi u m) c.fMethods j = true ∧ Below wq.heap.size wq ws) (fun zj _ => cl2 - (intOf zj).toNat)
        case atStart => exact ⟨0, Nat.zero_le _, rfl, rfl, Below.refl _ _⟩
        case round =>
          obtain ⟨j, hj, rfl, ha2, hb2⟩ := hrel
          obtain ⟨ws, hws⟩ : ∃ x, x = wr := ⟨_, rfl⟩
          subst hws
          have HA2 := Lib.hid ha2
          clear ha2
          have hbx2 := hb2.size
          have hbs := hb.trans (hb2.mono hbx)
          have hEW := HE.out.trans (hbs.mono hEs)
          by_cases hlt2 : j < cl2
          rotate_left
          · obtain rfl : j = cl2 := by omega
            have RV : Hid (z = true) := Lib.hid (by rw [HZ.out]; exact pairFits_ok (each_done HA2.out hml) HFD.out)
            go_wp2
            all_goals (try go_returns)
            all_goals exact HR.out _ _ ⟨by rw [RV.out]; rfl, hEW⟩
          obtain ⟨a', len', cap', e', _, _, _, hsl⟩ := SM.out
          cases e'
          obtain ⟨b, off, rfl, _, hbl, hr⟩ := hsl (by omega)
          obtain ⟨m, cs, e0, _, e1, e4⟩ := hr j hlt2
          obtain ⟨x1, x2, x3, rfl, t1, t2, t3, bm1, bm2⟩ := e4
          obtain ⟨xa1, xl1, xc1, rfl⟩ := t1.form
          obtain ⟨xa2, xl2, xc2, rfl⟩ := t2.form
          obtain ⟨xa3, xl3, xc3, rfl⟩ := t3.form
          have q0 := keep_cell hb2 (show wq.cell? ⟨b, off + j * 8, none⟩ = some (.string m.fName) from e1 0 _ rfl)
          have q1 := keep_cell hb2 (show wq.cell? ⟨b, off + j * 8 + 1, none⟩ = some (.slice xa1 xl1 xc1) from e1 1 _ rfl)
          have q2 := keep_cell hb2 (show wq.cell? ⟨b, off + j * 8 + 2, none⟩ = some (.int .i64 m.fRet.fKind) from e1 2 _ rfl)
          have q3 := keep_cell hb2 (show wq.cell? ⟨b, off + j * 8 + 3, none⟩ = some (.string m.fRet.fName) from e1 3 _ rfl)
          have q4 := keep_cell hb2 (show wq.cell? ⟨b, off + j * 8 + 4, none⟩ = some (.int .i64 m.fLocals) from e1 4 _ rfl)
          have q5 := keep_cell hb2 (show wq.cell? ⟨b, off + j * 8 + 5, none⟩ = some (.int .i64 m.fStack) from e1 5 _ rfl)
          have q6 := keep_cell hb2 (show wq.cell? ⟨b, off + j * 8 + 6, none⟩ = some (.slice xa2 xl2 xc2) from e1 6 _ rfl)
          have q7 := keep_cell hb2 (show wq.cell? ⟨b, off + j * 8 + 7, none⟩ = some (.slice xa3 xl3 xc3) from e1 7 _ rfl)
          obtain ⟨da1, dl1, dc1, da2, dl2, dc2, o0, o1, o2, o3, tf, tm⟩ := HD.out.below hbs
          have l0 := block_lt_of_cell o0
          have dlm := tm.len.2
          have dlx : dl2 ≤ 9223372036854775807 := by unfold maxLen at dlm; omega
          have dll := tm.len.1
          obtain ⟨y, hy⟩ : ∃ y, y = methodAt u.fMethods m.fName := ⟨_, rfl⟩
          have CO : ∀ W, Below ws.heap.size ws W → Calls Tryz.prog 116 #[.agg #[.string u.fName, .string u.fSuper, .slice da1 dl1 dc1, .slice da2 dl2 dc2], .string m.fName] W fun e w' => e = .returned (.int .i64 y) ∧ Below W.heap.size W w' := fun W hW => by
            rw [hy]; exact I_methodAt u _ _ m.fName W (tf.stays rClsField_good (Keeps.of_below hW)) (tm.stays rClsMethod_good (Keeps.of_below hW))
          have HY := Lib.hid hy
          have E0 := Lib.hid e0
          have T1 := Lib.hid t1
          have TM := Lib.hid tm
          clear e0 e1 hr hy tf tm t1 t2 t3
          go_wp2_with fail
          refine (CO _ (by (repeat' (first | (with_reducible exact Below.refl _ _) | (with_reducible refine Below.alloc ?_ ?_ _) | (with_reducible refine Below.setCell ?_ ?_ _) | (with_reducible refine Below.drew ?_) | (refine below_hyp (by assumption) ?_ ?_) | go_size)))).mono ?_
          rintro _ w3 ⟨rfl, h3⟩
          have h3s := (h3).size; (try simp only [World.size_alloc, World.size_setCell, World.size_drew] at h3s)
          obtain ⟨h3ec, h3ed, h3eo, h3ef, h3eg, h3ep, h3ez, h3ex, h3ey⟩ := bfacts (n := ws.heap.size) (k := 1) h3 (by go_size) (by go_size); replace h3ed := h3ed (by decide); replace h3eg := h3eg (by decide); replace h3ex := h3ex (by decide); clear h3ec h3ef h3ez
          clear h3eo h3ep
          have hW3 : Below ws.heap.size ws w3 := by (repeat' (first | (with_reducible exact Below.refl _ _) | (with_reducible refine Below.alloc ?_ ?_ _) | (with_reducible refine Below.setCell ?_ ?_ _) | (with_reducible refine Below.drew ?_) | (refine below_hyp (by assumption) ?_ ?_) | go_size))
          have hW3s := hW3.size
          clear q0 q1 q2 q3 q4 q5 q6 q7 CO
          by_cases h : y < 0
          · have STEP : Hid (methodFits p xi yi u m = true) := Lib.hid (methodFits_none (by rw [← HY.out]; exact h))
            go_wp2
            go_roundw
            case measure => simp [intOf]; omega
            case rel => exact ⟨j + 1, by omega, by go_num, EachTo.step HA2.out E0.out STEP.out, hb2.trans (hW3.mono hbx2)⟩
          obtain ⟨n, rfl⟩ : ∃ n : Nat, y = (n : Int) := ⟨y.toNat, by omega⟩
          obtain ⟨x, hx⟩ := methodAt_row HY.out.symm
          have hnl : n < dl2 := by rw [← dll]; exact (List.getElem?_eq_some_iff.1 hx).1
          obtain ⟨a'', len'', cap'', e'', _, _, _, hsl2⟩ := TM.out
          cases e''
          obtain ⟨b3, off3, rfl, _, hbl3, hr3⟩ := hsl2 (by omega)
          obtain ⟨x', cs', g0, _, g1, g4⟩ := hr3 n hnl
          obtain rfl : x = x' := Option.some.inj (hx.symm.trans g0)
          obtain ⟨z1, z2, z3, rfl, s1, s2, s3, bx1, bx2⟩ := g4
          obtain ⟨za1, zl1, zc1, rfl⟩ := s1.form
          obtain ⟨za2, zl2, zc2, rfl⟩ := s2.form
          obtain ⟨za3, zl3, zc3, rfl⟩ := s3.form
          have r0 := keep_cell hW3 (show ws.cell? ⟨b3, off3 + n * 8, none⟩ = some (.string x.fName) from g1 0 _ rfl)
          have r1 := keep_cell hW3 (show ws.cell? ⟨b3, off3 + n * 8 + 1, none⟩ = some (.slice za1 zl1 zc1) from g1 1 _ rfl)
          have r2 := keep_cell hW3 (show ws.cell? ⟨b3, off3 + n * 8 + 2, none⟩ = some (.int .i64 x.fRet.fKind) from g1 2 _ rfl)
          have r3 := keep_cell hW3 (show ws.cell? ⟨b3, off3 + n * 8 + 3, none⟩ = some (.string x.fRet.fName) from g1 3 _ rfl)
          have r4 := keep_cell hW3 (show ws.cell? ⟨b3, off3 + n * 8 + 4, none⟩ = some (.int .i64 x.fLocals) from g1 4 _ rfl)
          have r5 := keep_cell hW3 (show ws.cell? ⟨b3, off3 + n * 8 + 5, none⟩ = some (.int .i64 x.fStack) from g1 5 _ rfl)
          have r6 := keep_cell hW3 (show ws.cell? ⟨b3, off3 + n * 8 + 6, none⟩ = some (.slice za2 zl2 zc2) from g1 6 _ rfl)
          have r7 := keep_cell hW3 (show ws.cell? ⟨b3, off3 + n * 8 + 7, none⟩ = some (.slice za3 zl3 zc3) from g1 7 _ rfl)
          have u3 := keep_cell hW3 o3
          have v0 := keep_cell hW3 (keep_cell hbs C0.out)
          have v1 := keep_cell hW3 (keep_cell hbs D0.out)
          obtain ⟨qr, hqr⟩ : ∃ q, q = kndEq m.fRet x.fRet := ⟨_, rfl⟩
          obtain ⟨qa, hqa⟩ : ∃ q, q = sameArgs m.fArgs x.fArgs := ⟨_, rfl⟩
          obtain ⟨qs, hqs⟩ : ∃ q, q = shapeP p xi yi m := ⟨_, rfl⟩
          have MF : Hid (methodFits p xi yi u m = (qr && qa && qs)) := Lib.hid (by rw [methodFits_some HY.out.symm hx, hqr, hqa, hqs]; rfl)
          have bo : ∀ W, (binOp .neq 52 (.agg #[.int .i64 m.fRet.fKind, .string m.fRet.fName]) (.agg #[.int .i64 x.fRet.fKind, .string x.fRet.fName])).run Tryz.prog W = .ok (.bool !qr) W := fun W => by
            rw [hqr]
            simp only [run_neq_struct, eq_knd]
            try simp [Result.andThen, kndEq]
          have CEQ : ∀ W, Below ws.heap.size ws W → Calls Tryz.prog 117 #[.slice xa1 xl1 xc1, .slice za1 zl1 zc1] W fun e w' => e = .returned (.bool qa) ∧ Below W.heap.size W w' := fun W hW => by
            rw [hqa]; exact I_eqKnds _ _ _ _ W ((T1.out.stays rKndKind_good (Keeps.of_below hb2)).stays rKndKind_good (Keeps.of_below hW)) (s1.stays rKndKind_good (Keeps.of_below hW))
          have AM : ∀ W, Below ws.heap.size ws W → Calls Tryz.prog 118 #[.pointer (some ⟨L, 0, none⟩), .int .i64 (xi : Int), .int .i64 (yi : Int), .agg #[.string m.fName, .slice xa1 xl1 xc1, .int .i64 m.fRet.fKind, .string m.fRet.fName, .int .i64 m.fLocals, .int .i64 m.fStack, .slice xa2 xl2 xc2, .slice xa3 xl3 xc3]] W fun e w' => e = .returned (.bool qs) ∧ Below W.heap.size W w' := fun W hW => by
            rw [hqs]; exact I_agreeMethod p L xi yi m _ _ _ _ _ _ _ W (LX.out.below (hbs.trans (hW.mono hbs.size))) HP.out hxi hyi ((T1.out.stays rKndKind_good (Keeps.of_below hb2)).stays rKndKind_good (Keeps.of_below hW)) bm2
          have hn0 : ¬ ((n : Int) < 0) := by omega
          have gk1 : (n : Int) < (dl2 : Int) := by omega
          have gk2 : (0 : Int) ≤ (n : Int) := by omega
          have lD := block_lt_of_cell u3
          have lC := block_lt_of_cell v0
          have lC2 := block_lt_of_cell v1
          clear g0 g1 hr3 hx hqr hqa hqs o0 o1 o2 o3 s1 s2 s3 h
          cases qr
          · have STOP : Hid (methodFits p xi yi u m = false) := Lib.hid (by rw [MF.out]; rfl)
            have RV : Hid (z = false) := Lib.hid (by rw [HZ.out]; exact pairFits_m (each_stop E0.out STOP.out))
            go_wp2
            all_goals (try go_returns)
            all_goals exact HR.out _ _ ⟨by rw [RV.out]; rfl, by (repeat' (first | (with_reducible exact Below.refl _ _) | (with_reducible refine Below.alloc ?_ ?_ _) | (with_reducible refine Below.setCell ?_ ?_ _) | (with_reducible refine Below.drew ?_) | (refine below_hyp (by assumption) ?_ ?_) | go_size))⟩
          go_wp2_with fail
          refine (CEQ _ (by (repeat' (first | (with_reducible exact Below.refl _ _) | (with_reducible refine Below.alloc ?_ ?_ _) | (with_reducible refine Below.setCell ?_ ?_ _) | (with_reducible refine Below.drew ?_) | (refine below_hyp (by assumption) ?_ ?_) | go_size)))).mono ?_
          rintro _ w4 ⟨rfl, h4⟩
          have h4s := (h4).size; (try simp only [World.size_alloc, World.size_setCell, World.size_drew] at h4s)
          obtain ⟨h4fc, h4fd, h4fo, h4ff, h4fg, h4fp, h4fz, h4fx, h4fy⟩ := bfacts (n := ws.heap.size) (k := 1) h4 (by go_size) (by go_size); replace h4fd := h4fd (by decide); replace h4fg := h4fg (by decide); replace h4fx := h4fx (by decide); clear h4fc h4ff h4fz
          clear h4fo h4fp
          have hW4 : Below ws.heap.size ws w4 := by (repeat' (first | (with_reducible exact Below.refl _ _) | (with_reducible refine Below.alloc ?_ ?_ _) | (with_reducible refine Below.setCell ?_ ?_ _) | (with_reducible refine Below.drew ?_) | (refine below_hyp (by assumption) ?_ ?_) | go_size))
          replace v0 := keep_cell hW4 (keep_cell hbs C0.out)
          replace v1 := keep_cell hW4 (keep_cell hbs D0.out)
          cases qa
          · have STOP : Hid (methodFits p xi yi u m = false) := Lib.hid (by rw [MF.out]; rfl)
            have RV : Hid (z = false) := Lib.hid (by rw [HZ.out]; exact pairFits_m (each_stop E0.out STOP.out))
            go_wp2
            all_goals (try go_returns)
            all_goals exact HR.out _ _ ⟨by rw [RV.out]; rfl, by (repeat' (first | (with_reducible exact Below.refl _ _) | (with_reducible refine Below.alloc ?_ ?_ _) | (with_reducible refine Below.setCell ?_ ?_ _) | (with_reducible refine Below.drew ?_) | (refine below_hyp (by assumption) ?_ ?_) | go_size))⟩
          clear r0 r1 r2 r3 r4 r5 r6 r7 u3 bo CEQ
          go_wp2_with fail
          refine (AM _ (by (repeat' (first | (with_reducible exact Below.refl _ _) | (with_reducible refine Below.alloc ?_ ?_ _) | (with_reducible refine Below.setCell ?_ ?_ _) | (with_reducible refine Below.drew ?_) | (refine below_hyp (by assumption) ?_ ?_) | go_size)))).mono ?_
          rintro _ w5 ⟨rfl, h5⟩
          have h5s := (h5).size; (try simp only [World.size_alloc, World.size_setCell, World.size_drew] at h5s)
          have hW5 : Below ws.heap.size ws w5 := by (repeat' (first | (with_reducible exact Below.refl _ _) | (with_reducible refine Below.alloc ?_ ?_ _) | (with_reducible refine Below.setCell ?_ ?_ _) | (with_reducible refine Below.drew ?_) | (refine below_hyp (by assumption) ?_ ?_) | go_size))
          clear AM
          cases qs
          · have STOP : Hid (methodFits p xi yi u m = false) := Lib.hid (by rw [MF.out]; rfl)
            have RV : Hid (z = false) := Lib.hid (by rw [HZ.out]; exact pairFits_m (each_stop E0.out STOP.out))
            go_wp2
            all_goals (try go_returns)
            all_goals exact HR.out _ _ ⟨by rw [RV.out]; rfl, hEW.trans (hW5.mono hEW.size)⟩
          have STEP : Hid (methodFits p xi yi u m = true) := Lib.hid (by rw [MF.out]; rfl)
          go_wp2
          go_roundw
          case measure => simp [intOf]; omega
          case rel => exact ⟨j + 1, by omega, by go_num, EachTo.step HA2.out E0.out STEP.out, hb2.trans (hW5.mono hbx2)⟩

end Go.Proofs.YtejfecmmcghpmaaGreat
