

/-
  The walks of the program's mapsOk. Condition: the data can be read.
-/
import Derived.Test.YtmmlhnjmjmbfpaaGreatMthI
namespace Go.Proofs.YtmmlhnjmjmbfpaaGreat
set_option linter.unusedSimpArgs false
set_option linter.unusedVariables false
open Go.RowKit

set_option maxRecDepth 100000 in
set_option maxHeartbeats 8000000 in
theorem I_mapsOk (m : DClsMethod) (v1 v2 v3 : Value) (w : World) (s1 : Sl 2 rKndKind 0 w v1 m.fArgs) (s2 : Sl 4 rClsIns 0 w v2 m.fCode) (s3 : Sl 3 rClsMap 0 w v3 m.fMaps) :
    Calls Tryz.prog 86 #[.agg #[.string m.fName, v1, .int .i64 m.fRet.fKind, .string m.fRet.fName, .int .i64 m.fLocals, .int .i64 m.fStack, v2, v3]] w fun e w' => e = .returned (.bool (mapsOk m)) ∧ Below w.heap.size w w' := by
  obtain ⟨na1, nl1, nc1, rfl⟩ := s1.form
  obtain ⟨na2, nl2, nc2, rfl⟩ := s2.form
  obtain ⟨hl2, _, hm2⟩ := s2.len
  have m2 : nl2 ≤ 9223372036854775807 := by unfold maxLen at hm2; omega
  obtain ⟨a, len, cap, rfl, hl, h1, h2, h3⟩ := id s3
  have m1 : len ≤ 9223372036854775807 := by unfold maxLen at h2; omega
  have HL := Lib.hid hl
  have HL2 := Lib.hid hl2
  have H1 := Lib.hid h1
  clear h2 hl h1 hl2 hm2
  refine calls_hide fun R HR => ?_
  go_enter Tryz.func86, Tryz.ntmps86
  go_wp2_with fail
  all_goals first
    | (try go_returns
       exact HR.out _ _ ⟨ret_bool (by unfold mapsOk; rw [HL.out]; simp; intros; omega), by (repeat' (first | (with_reducible exact Below.refl _ _) | (with_reducible refine Below.alloc ?_ ?_ _) | (with_reducible refine Below.setCell ?_ ?_ _) | (with_reducible refine Below.drew ?_) | (refine below_hyp (by assumption) ?_ ?_) | go_size))⟩)
    | skip
  have hlen : len ≤ 5 := by omega
  go_loopw [3, 13] (fun z i wr => ∃ k : Nat, k ≤ len ∧ i = .int .i64 k ∧ z = .int .i64 (lastAt m.fMaps k) ∧ EachTo (mapIn m) m.fMaps k = true ∧ Below w.heap.size w wr ∧ wr.cell? ⟨w.heap.size, 4, none⟩ = some (.int .i64 m.fLocals) ∧ wr.cell? ⟨w.heap.size, 5, none⟩ = some (.int .i64 m.fStack) ∧ wr.cell? ⟨w.heap.size, 6, none⟩ = some (.slice na2 nl2 nc2) ∧ wr.cell? ⟨w.heap.size, 7, none⟩ = some (.slice a len cap)) (fun _ i _ => len - (intOf i).toNat)
  case atStart => exact ⟨0, Nat.zero_le _, rfl, rfl, rfl, by (repeat' (first | (with_reducible exact Below.refl _ _) | (with_reducible refine Below.alloc ?_ ?_ _) | (with_reducible refine Below.setCell ?_ ?_ _) | (with_reducible refine Below.drew ?_) | (refine below_hyp (by assumption) ?_ ?_) | go_size)), by go_simp, by go_simp, by go_simp, by go_simp⟩
  case round =>
    obtain ⟨k, hk, rfl, rfl, ha, hb, c4, c5, c6, c7⟩ := hrel
    have HA := Lib.hid ha
    clear ha
    have hbx := hb.size
    have hbw := block_lt_of_cell c4
    by_cases hlt : k < len
    · obtain ⟨b, off, rfl, hlo, hbl, hr⟩ := h3.stays rClsMap_good (Keeps.of_below hb) (by omega)
      obtain ⟨⟨xat, xl, xs⟩, cs, e0, e1, e2, e3⟩ := hr k hlt
      obtain ⟨u1, u2, rfl, t1, t2⟩ := e3
      obtain ⟨ua1, ul1, uc1, rfl⟩ := t1.form
      obtain ⟨ua2, ul2, uc2, rfl⟩ := t2.form
      obtain ⟨tl1, _, tm1⟩ := t1.len
      obtain ⟨tl2, _, tm2⟩ := t2.len
      have TL1 := Lib.hid tl1
      have TL2 := Lib.hid tl2
      have tm1' : ul1 ≤ 9223372036854775807 := by unfold maxLen at tm1; omega
      have tm2' : ul2 ≤ 9223372036854775807 := by unfold maxLen at tm2; omega
      have q1 : wr.cell? ⟨b, off + k * 3, none⟩ = some (.int .i64 xat) := e2 0 _ rfl
      have q2 : wr.cell? ⟨b, off + k * 3 + 1, none⟩ = some (.slice ua1 ul1 uc1) := e2 1 _ rfl
      have q3 : wr.cell? ⟨b, off + k * 3 + 2, none⟩ = some (.slice ua2 ul2 uc2) := e2 2 _ rfl
      have E0 := Lib.hid e0
      have LZ : Hid (lastAt m.fMaps (k + 1) = xat) := Lib.hid (by simp only [lastAt, e0])
      clear e0 e1 e2 hr tl1 tl2 tm1 tm2
      obtain ⟨z, hz⟩ : ∃ z, z = lastAt m.fMaps k := ⟨_, rfl⟩
      rw [← hz]
      have HZ := Lib.hid hz
      clear hz
      go_wp2_with fail
      all_goals first
        | (try go_returns
           exact HR.out _ _ ⟨ret_bool (by unfold mapsOk; rw [each_stop E0.out (by have h2 := HL2.out; have h3 := TL1.out; have h4 := TL2.out; have h5 := HZ.out; unfold mapIn; simp only [h2, h3, h4, ← h5]; simp; intros; omega)]; simp), by (repeat' (first | (with_reducible exact Below.refl _ _) | (with_reducible refine Below.alloc ?_ ?_ _) | (with_reducible refine Below.setCell ?_ ?_ _) | (with_reducible refine Below.drew ?_) | (refine below_hyp (by assumption) ?_ ?_) | go_size))⟩)
        | skip
      have hzx : z < xat := by assumption
      have hzc : z < xat ∧ xat < (nl2 : Int) := by assumption
      have hlc : (ul1 : Int) = m.fLocals := by assumption
      have hst : (ul2 : Int) ≤ m.fStack := by assumption
      have LM : Hid (tagsOk xl = true → tagsOk xs = true → mapIn m k ⟨xat, xl, xs⟩ = true) := Lib.hid (by
        intro i1 i2
        have h2 := HL2.out; have h3 := TL1.out; have h4 := TL2.out; have h5 := HZ.out
        unfold mapIn
        simp only [h2, h3, h4, ← h5, i1, i2]
        simp; omega)
      have hlc' := Lib.hid hlc
      clear hlc
      refine (I_tagsOk xl _ _ (t1.stays rTagTag_good (Keeps.of_below' (B := wr.heap.size) (by (repeat' (first | (with_reducible exact Below.refl _ _) | (with_reducible refine Below.alloc ?_ ?_ _) | (with_reducible refine Below.setCell ?_ ?_ _) | (with_reducible refine Below.drew ?_) | (refine below_hyp (by assumption) ?_ ?_) | go_size))) (Nat.le_refl _)))).mono ?_
      rintro _ wA ⟨rfl, hA⟩
      have hz := hA.size
      have hz' : wr.heap.size < wA.heap.size := by simp at hz; omega
      have d4 : wA.cell? ⟨w.heap.size, 4, none⟩ = some (.int .i64 m.fLocals) := (hA.cell (by simp; omega)).trans (by go_simp)
      have d5 : wA.cell? ⟨w.heap.size, 5, none⟩ = some (.int .i64 m.fStack) := (hA.cell (by simp; omega)).trans (by go_simp)
      have d6 : wA.cell? ⟨w.heap.size, 6, none⟩ = some (.slice na2 nl2 nc2) := (hA.cell (by simp; omega)).trans (by go_simp)
      have d7 : wA.cell? ⟨w.heap.size, 7, none⟩ = some (.slice (some ⟨b, off, none⟩) len cap) := (hA.cell (by simp; omega)).trans (by go_simp)
      have p3 : wA.cell? ⟨wr.heap.size, 2, none⟩ = some (.slice ua2 ul2 uc2) := (hA.cell (by simp)).trans (by go_simp)
      have hRA : Below wr.heap.size wr wA := by (repeat' (first | (with_reducible exact Below.refl _ _) | (with_reducible refine Below.alloc ?_ ?_ _) | (with_reducible refine Below.setCell ?_ ?_ _) | (with_reducible refine Below.drew ?_) | (refine below_hyp (by assumption) ?_ ?_) | go_size))
      have hE : Below w.heap.size w wA := hb.trans (hRA.mono hb.size)
      clear q1 q2 q3 c4 c5 c6 c7 hA
      cases hx : tagsOk xl
      · have HX := Lib.hid hx
        clear hx
        go_wp2
        all_goals (try go_returns)
        all_goals exact HR.out _ _ ⟨ret_bool (by unfold mapsOk; rw [each_stop E0.out (by unfold mapIn; simp [HX.out])]; simp), hE⟩
      have HX := Lib.hid hx
      clear hx
      go_wp2_with fail
      refine (I_tagsOk xs _ _ (t2.stays rTagTag_good (Keeps.of_below hRA))).mono ?_
      rintro _ wB ⟨rfl, hB⟩
      have hzB := hB.size
      have c4 := keep_cell hB d4
      have c5 := keep_cell hB d5
      have c6 := keep_cell hB d6
      have c7 := keep_cell hB d7
      have hEB : Below w.heap.size w wB := hE.trans (hB.mono hE.size)
      clear d4 d5 d6 d7 p3 hB hE
      cases hx : tagsOk xs
      · have HY := Lib.hid hx
        clear hx
        go_wp2
        all_goals (try go_returns)
        all_goals exact HR.out _ _ ⟨ret_bool (by unfold mapsOk; rw [each_stop E0.out (by unfold mapIn; simp [HY.out])]; simp), hEB⟩
      have HY := Lib.hid hx
      clear hx
      go_wp2
      go_roundw
      case measure => simp [intOf]; omega
      case rel => exact ⟨k + 1, by omega, by go_num, by rw [LZ.out], EachTo.step HA.out E0.out (LM.out HX.out HY.out), hEB, c4, c5, c6, c7⟩
    · obtain rfl : k = len := by omega
      go_wp2
      all_goals (try go_returns)
      all_goals exact HR.out _ _ ⟨ret_bool (by unfold mapsOk; rw [each_done HA.out HL.out, HL.out]; simp; omega), by (repeat' (first | (with_reducible exact Below.refl _ _) | (with_reducible refine Below.alloc ?_ ?_ _) | (with_reducible refine Below.setCell ?_ ?_ _) | (with_reducible refine Below.drew ?_) | (refine below_hyp (by assumption) ?_ ?_) | go_size))⟩

end Go.Proofs.YtmmlhnjmjmbfpaaGreat
