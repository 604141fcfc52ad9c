/-
  Texts of mine, packed: LawCSm, RowCSm. No condition beside those of the single theorems.
-/
import Derived.Test.YtfbonocadpknbaaGreatDoorC50
import Derived.Test.YtfbonocadpknbaaGreatDoorC21
import Derived.Test.YtfbonocadpknbaaGreatDoorC51
import Derived.Test.YtfbonocadpknbaaGreatDoorC10
import Derived.Test.YtfbonocadpknbaaGreatDoorC15
import Derived.Test.YtfbonocadpknbaaGreatDoorCards
import Derived.Test.YtfbonocadpknbaaGreatDoorTie
import Derived.ProofKit
import Derived.LaidMore
import Derived.Stop.LaidErr
import Derived.Lib.LaidTab
import Derived.OpenShut
import Derived.Stop.Joined
import Derived.SevenTiedAt
set_option linter.unusedSimpArgs false
set_option linter.unusedVariables false
set_option maxHeartbeats 16000000
set_option maxRecDepth 100000
namespace Go.Proofs.YtfbonocadpknbaaGreatDoor
open Go.RowKit
theorem Sl.oneRow {α : Type} {k : Nat} {R : RowRel α} {lo b : Nat} {w : World} {cs : List Value} {x : α} (hk : cs.length = k) (hlo : lo ≤ b) (hb : b < w.heap.size) (hr : w.rangeAt b 0 cs) (hR : R lo w cs x) : Sl k R lo w (.slice (some ⟨b, 0, none⟩) 1 1) [x] := by
 refine ⟨_, _, _, rfl, rfl, Nat.le_refl _, by decide, fun _ => ⟨b, 0, rfl, hlo, hb, fun i hi => ?_⟩⟩
 obtain rfl : i = 0 := by omega
 exact ⟨x, cs, rfl, hk, by simpa using hr, hR⟩
theorem one_rows {w : World} {x : DClsClass} {u1 u2 : Value} (hx : rClsClass 0 w [.string x.fName, .string x.fSuper, u1, u2] x) :
  Sl 2 rLodKeeper 0 ((w.alloc (.cells #[.string x.fName, .string x.fSuper, u1, u2] 37)).alloc (.cells #[.slice (some ⟨w.heap.size, 0, none⟩) 1 1, .slice none 0 0] 45)) (.slice (some ⟨w.heap.size + 1, 0, none⟩) 1 1) (oneOf x).fKeepers := by
 obtain ⟨W, hW⟩ : ∃ W, W = (w.alloc (.cells #[.string x.fName, .string x.fSuper, u1, u2] 37)).alloc (.cells #[.slice (some ⟨w.heap.size, 0, none⟩) 1 1, .slice none 0 0] 45) := ⟨_, rfl⟩
 have hB : Below w.heap.size w W := by rw [hW]; exact bbel
 have hs : W.heap.size = w.heap.size + 1 + 1 := by rw [hW]; simp
 have r0 : W.rangeAt w.heap.size 0 [.string x.fName, .string x.fSuper, u1, u2] := fun j u hu => by
  rw [hW]
  match j, hu with
  | 0, hu => cases hu; go_simp
  | 1, hu => cases hu; go_simp
  | 2, hu => cases hu; go_simp
  | 3, hu => cases hu; go_simp
  | j + 4, hu => simp at hu
 have r1 : W.rangeAt (w.heap.size + 1) 0 [.slice (some ⟨w.heap.size, 0, none⟩) 1 1, .slice none 0 0] := fun j u hu => by
  rw [hW]
  match j, hu with
  | 0, hu => cases hu; go_simp
  | 1, hu => cases hu; go_simp
  | j + 2, hu => simp at hu
 rw [← hW]
 refine Sl.oneRow rfl (Nat.zero_le _) (by omega) r1 ⟨_, _, rfl, ?_, ?_⟩
 ·exact Sl.oneRow rfl (Nat.zero_le _) (by omega) r0 (rClsClass_good.stays _ _ _ _ _ (Keeps.of_below hB) hx)
 ·exact ⟨none, 0, 0, rfl, rfl, Nat.le_refl _, by decide, fun h => absurd h (by omega)⟩

theorem L_FnClsSame (v : Value) (w : World) (hv : Bytes w v) (htab : Tab w) :
  Calls Tryz.prog 4 #[v] w fun e w' => e = .returned (.bool true) ∧ Below w.heap.size w w' := by
 obtain ⟨c, len, cap, rfl, g1, g2, g3⟩ := id hv
 have m1 : len ≤ 9223372036854775807 := by unfold maxLen at g2; omega
 have TB := qhd htab
 clear g2 g3 htab
 refine qab fun R HR => ?_
 go_enter Tryz.func4, Tryz.ntmps4
 go_wp2_with fail
 all_goals first
  | (try go_returns
     exact HR.out _ _ ⟨rfl, bbel⟩)
  | skip
 refine (S_DrawClsSame _ _ hv).mono ?_
 rintro _ w1 ⟨⟨x, y, x2, x3, y2, y3, rfl, hx, hy⟩, h1⟩
 have h1s := (h1).size; (try simp only [qsz] at h1s)
 obtain ⟨_, _, e9, s1, s2, bx1, bx2⟩ := id hx
 cases e9
 obtain ⟨_, _, e9, t1, t2, by1, by2⟩ := id hy
 cases e9
 obtain ⟨fa, fl, fc, rfl⟩ := s1.form
 obtain ⟨ga, gl, gc, rfl⟩ := s2.form
 obtain ⟨ha, hl, hc, rfl⟩ := t1.form
 obtain ⟨ka, kl, kc, rfl⟩ := t2.form
 obtain ⟨z, hz⟩ : ∃ z, clsEq x y = z := ⟨_, rfl⟩
 have hz2 : clsEq y x = z := by rw [← hz, Bool.eq_iff_iff, clsEq_iff, clsEq_iff]; exact eq_comm
 have hz3 : clsEq x x = true := (clsEq_iff _ _).2 rfl
 have HX : Hid (∀ W, Below w1.heap.size w1 W → rClsClass 0 W [.string x.fName, .string x.fSuper, .slice fa fl fc, .slice ga gl gc] x) := qhd fun W hW => rClsClass_good.stays _ _ _ _ _ (Keeps.of_below hW) hx
 have HY : Hid (∀ W, Below w1.heap.size w1 W → rClsClass 0 W [.string y.fName, .string y.fSuper, .slice ha hl hc, .slice ka kl kc] y) := qhd fun W hW => rClsClass_good.stays _ _ _ _ _ (Keeps.of_below hW) hy
 have CS : Hid (∀ W, Below w1.heap.size w1 W → Calls Tryz.prog 14 #[.agg #[.string x.fName, .string x.fSuper, .slice fa fl fc, .slice ga gl gc], .agg #[.string y.fName, .string y.fSuper, .slice ha hl hc, .slice ka kl kc]] W fun e w' => e = .returned (.bool z) ∧ Below W.heap.size W w') := qhd fun W hW => by
  rw [← hz]; exact S_ClsSame x y _ _ _ _ W (s1.stays qap (Keeps.of_below hW)) (s2.stays rClsMethod_good (Keeps.of_below hW)) (t1.stays qap (Keeps.of_below hW)) (t2.stays rClsMethod_good (Keeps.of_below hW))
 have CI : Hid (∀ W, Below w1.heap.size w1 W → Calls Tryz.prog 13 #[.agg #[.string x.fName, .string x.fSuper, .slice fa fl fc, .slice ga gl gc], .agg #[.string y.fName, .string y.fSuper, .slice ha hl hc, .slice ka kl kc]] W fun e w' => e = .returned (.bool z) ∧ Below W.heap.size W w') := qhd fun W hW => by
  rw [← hz]; exact I_ClsSame x y _ _ _ _ W (s1.stays qap (Keeps.of_below hW)) (s2.stays rClsMethod_good (Keeps.of_below hW)) (t1.stays qap (Keeps.of_below hW)) (t2.stays rClsMethod_good (Keeps.of_below hW))
 have CJ : Hid (∀ W, Below w1.heap.size w1 W → Calls Tryz.prog 13 #[.agg #[.string y.fName, .string y.fSuper, .slice ha hl hc, .slice ka kl kc], .agg #[.string x.fName, .string x.fSuper, .slice fa fl fc, .slice ga gl gc]] W fun e w' => e = .returned (.bool z) ∧ Below W.heap.size W w') := qhd fun W hW => by
  rw [← hz2]; exact I_ClsSame y x _ _ _ _ W (t1.stays qap (Keeps.of_below hW)) (t2.stays rClsMethod_good (Keeps.of_below hW)) (s1.stays qap (Keeps.of_below hW)) (s2.stays rClsMethod_good (Keeps.of_below hW))
 have CA : Hid (∀ W, Below w1.heap.size w1 W → Calls Tryz.prog 13 #[.agg #[.string x.fName, .string x.fSuper, .slice fa fl fc, .slice ga gl gc], .agg #[.string x.fName, .string x.fSuper, .slice fa fl fc, .slice ga gl gc]] W fun e w' => e = .returned (.bool true) ∧ Below W.heap.size W w') := qhd fun W hW => by
  rw [← hz3]; exact I_ClsSame x x _ _ _ _ W (s1.stays qap (Keeps.of_below hW)) (s2.stays rClsMethod_good (Keeps.of_below hW)) (s1.stays qap (Keeps.of_below hW)) (s2.stays rClsMethod_good (Keeps.of_below hW))
 have KX : Hid (∀ W, Below w1.heap.size w1 W → Calls Tryz.prog 15 #[.agg #[.string x.fName, .string x.fSuper, .slice fa fl fc, .slice ga gl gc]] W fun e w' => e = .returned (.bool (clsOk x)) ∧ Below W.heap.size W w') := qhd fun W hW => S_ClsOk x _ _ W (s1.stays qap (Keeps.of_below hW)) (s2.stays rClsMethod_good (Keeps.of_below hW)) bx1 bx2
 have KY : Hid (∀ W, Below w1.heap.size w1 W → Calls Tryz.prog 15 #[.agg #[.string y.fName, .string y.fSuper, .slice ha hl hc, .slice ka kl kc]] W fun e w' => e = .returned (.bool (clsOk y)) ∧ Below W.heap.size W w') := qhd fun W hW => S_ClsOk y _ _ W (t1.stays qap (Keeps.of_below hW)) (t2.stays rClsMethod_good (Keeps.of_below hW)) by1 by2
 have HZ := qhd hz
 have zz : (z != z) = false := by simp
 clear s1 s2 t1 t2 hx hy bx1 bx2 by1 by2 hz hz2 hz3
 go_wp2_with fail
 refine nameV (P := fun W => Calls Tryz.prog 13 #[_, _] W _) _ (fun w2 hw2 => ?_)
 have h2 : Below w1.heap.size w1 w2 := by rw [hw2]; exact bbel
 have FA2 : Hid (Four w2 w1.heap.size (.string x.fName) (.string x.fSuper) (.slice fa fl fc) (.slice ga gl gc)) := qhd (by rw [hw2]; refine ⟨by simp <;> omega, ?_, ?_, ?_, ?_, ?_, ?_, ?_, ?_⟩ <;> go_simp)
 have FB2 : Hid (Four w2 (w1.heap.size + 1) (.string y.fName) (.string y.fSuper) (.slice ha hl hc) (.slice ka kl kc)) := qhd (by rw [hw2]; refine ⟨by simp, ?_, ?_, ?_, ?_, ?_, ?_, ?_, ?_⟩ <;> go_simp)
 clear hw2
 obtain ⟨al, a0, a1, a2, a3, af0, af1, af2, af3⟩ := FA2.out
 obtain ⟨bl, b0, b1, b2, b3, bf0, bf1, bf2, bf3⟩ := FB2.out
 refine (CI.out _ h2).mono ?_
 rintro _ w3 ⟨rfl, g3⟩
 have h3 : Below w1.heap.size w1 w3 := h2.trans (g3.mono h2.size)
 have FA3 := qhd (FA2.out.keep g3)
 have FB3 := qhd (FB2.out.keep g3)
 clear a0 a1 a2 a3 af0 af1 af2 af3 b0 b1 b2 b3 bf0 bf1 bf2 bf3 al bl g3 h2 FA2 FB2
 obtain ⟨al, a0, a1, a2, a3, af0, af1, af2, af3⟩ := FA3.out
 obtain ⟨bl, b0, b1, b2, b3, bf0, bf1, bf2, bf3⟩ := FB3.out
 go_wp2_with fail
 refine (CS.out _ h3).mono ?_
 rintro _ w4 ⟨rfl, g4⟩
 have h4 : Below w1.heap.size w1 w4 := h3.trans (g4.mono h3.size)
 have FA4 := qhd (FA3.out.keep g4)
 have FB4 := qhd (FB3.out.keep g4)
 clear a0 a1 a2 a3 af0 af1 af2 af3 b0 b1 b2 b3 bf0 bf1 bf2 bf3 al bl g4 h3 FA3 FB3
 obtain ⟨al, a0, a1, a2, a3, af0, af1, af2, af3⟩ := FA4.out
 obtain ⟨bl, b0, b1, b2, b3, bf0, bf1, bf2, bf3⟩ := FB4.out
 go_wp2_with fail
 refine (CJ.out _ h4).mono ?_
 rintro _ w5 ⟨rfl, g5⟩
 have h5 : Below w1.heap.size w1 w5 := h4.trans (g5.mono h4.size)
 have FA5 := qhd (FA4.out.keep g5)
 have FB5 := qhd (FB4.out.keep g5)
 clear a0 a1 a2 a3 af0 af1 af2 af3 b0 b1 b2 b3 bf0 bf1 bf2 bf3 al bl g5 h4 FA4 FB4
 obtain ⟨al, a0, a1, a2, a3, af0, af1, af2, af3⟩ := FA5.out
 obtain ⟨bl, b0, b1, b2, b3, bf0, bf1, bf2, bf3⟩ := FB5.out
 go_wp2_with fail
 refine (CA.out _ h5).mono ?_
 rintro _ w6 ⟨rfl, g6⟩
 have h6 : Below w1.heap.size w1 w6 := h5.trans (g6.mono h5.size)
 have FA6 := qhd (FA5.out.keep g6)
 have FB6 := qhd (FB5.out.keep g6)
 clear a0 a1 a2 a3 af0 af1 af2 af3 b0 b1 b2 b3 bf0 bf1 bf2 bf3 al bl g6 h5 FA5 FB5
 obtain ⟨al, a0, a1, a2, a3, af0, af1, af2, af3⟩ := FA6.out
 obtain ⟨bl, b0, b1, b2, b3, bf0, bf1, bf2, bf3⟩ := FB6.out
 go_wp2_with fail
 cases hox : clsOk x
 ·rw [hox] at KX
  refine (KX.out _ h6).mono ?_
  rintro _ w9 ⟨rfl, g9⟩
  have h9 : Below w.heap.size w w9 := h1.trans ((h6.trans (g9.mono h6.size)).mono h1.size)
  clear h1 h6 g9
  go_wp2_with (go_at_call 10; refine (L_loOkT _).mono ?_; rintro _ w7 ⟨rfl, h7⟩)
  all_goals (try go_returns)
  all_goals exact HR.out _ _ ⟨rfl, h9.trans (h7.mono h9.size)⟩
 rw [hox] at KX
 refine (KX.out _ h6).mono ?_
 rintro _ w7 ⟨rfl, g7⟩
 have h7 : Below w1.heap.size w1 w7 := h6.trans (g7.mono h6.size)
 have FA7 := qhd (FA6.out.keep g7)
 have FB7 := qhd (FB6.out.keep g7)
 clear a0 a1 a2 a3 af0 af1 af2 af3 b0 b1 b2 b3 bf0 bf1 bf2 bf3 al bl g7 h6 FA6 FB6
 obtain ⟨al, a0, a1, a2, a3, af0, af1, af2, af3⟩ := FA7.out
 obtain ⟨bl, b0, b1, b2, b3, bf0, bf1, bf2, bf3⟩ := FB7.out
 go_wp2_with fail
 cases hoy : clsOk y
 ·rw [hoy] at KY
  refine (KY.out _ h7).mono ?_
  rintro _ w9 ⟨rfl, g9⟩
  have h9 : Below w.heap.size w w9 := h1.trans ((h7.trans (g9.mono h7.size)).mono h1.size)
  clear h1 h7 g9
  go_wp2_with (go_at_call 10; refine (L_loOkT _).mono ?_; rintro _ w8 ⟨rfl, h8⟩)
  all_goals (try go_returns)
  all_goals exact HR.out _ _ ⟨rfl, h9.trans (h8.mono h9.size)⟩
 rw [hoy] at KY
 refine (KY.out _ h7).mono ?_
 rintro _ w8 ⟨rfl, g8⟩
 have h8 : Below w1.heap.size w1 w8 := h7.trans (g8.mono h7.size)
 have FA8 := qhd (FA7.out.keep g8)
 have FB8 := qhd (FB7.out.keep g8)
 clear a0 a1 a2 a3 af0 af1 af2 af3 b0 b1 b2 b3 bf0 bf1 bf2 bf3 al bl g8 h7 FA7 FB7
 obtain ⟨al, a0, a1, a2, a3, af0, af1, af2, af3⟩ := FA8.out
 obtain ⟨bl, b0, b1, b2, b3, bf0, bf1, bf2, bf3⟩ := FB8.out
 go_wp2_with fail
 have HQE : Hid (eqL sameN (planLines (oneOf x)) (planLines (oneOf y)) = z) := qhd (by rw [← HZ.out, Bool.eq_iff_iff, eqT_iff, plain_one hox hoy, clsEq_iff])
 have HM : Hid (1 < (planLines (oneOf x)).length) := qhd (one_many hox)
 clear hox hoy CS CI CJ CA KX KY
 refine nameV (P := fun W => Calls Tryz.prog 7 #[_] W _) _ (fun w9 hw9 => ?_)
 have g9 : Below w8.heap.size w8 w9 := by rw [hw9]; exact bbel
 have P9 : Sl 2 rLodKeeper 0 w9 (.slice (some ⟨w8.heap.size + 1, 0, none⟩) 1 1) (oneOf x).fKeepers := by rw [hw9]; exact one_rows (HX.out _ h8)
 have h9 : Below w1.heap.size w1 w9 := h8.trans (g9.mono h8.size)
 have FB9 := qhd (FB8.out.keep g9)
 clear hw9 g9
 refine (I_LodPrint (oneOf x) _ w9 P9 (TB.out.below (h1.trans (h9.mono h1.size)))).mono ?_
 rintro _ w10 ⟨⟨o1, rfl, ho1⟩, g10⟩
 have h10 : Below w1.heap.size w1 w10 := h9.trans (g10.mono h9.size)
 have O10 := qhd ho1.str0
 have FB10 := qhd (FB9.out.keep g10)
 clear P9 ho1 g10 FB9 a0 a1 a2 a3 af0 af1 af2 af3 b0 b1 b2 b3 bf0 bf1 bf2 bf3 al bl
 obtain ⟨bl, b0, b1, b2, b3, bf0, bf1, bf2, bf3⟩ := FB10.out
 obtain ⟨oa, ol, oc, rfl⟩ := O10.out.form
 have hol : (planLines (oneOf x)).length = ol := O10.out.len.1
 go_wp2_with fail
 refine nameV (P := fun W => Calls Tryz.prog 7 #[_] W _) _ (fun w11 hw11 => ?_)
 have g11 : Below w10.heap.size w10 w11 := by rw [hw11]; exact bbel
 have P11 : Sl 2 rLodKeeper 0 w11 (.slice (some ⟨w10.heap.size + 1, 0, none⟩) 1 1) (oneOf y).fKeepers := by rw [hw11]; exact one_rows (HY.out _ h10)
 have h11 : Below w1.heap.size w1 w11 := h10.trans (g11.mono h10.size)
 clear hw11
 refine (I_LodPrint (oneOf y) _ w11 P11 (TB.out.below (h1.trans (h11.mono h1.size)))).mono ?_
 rintro _ w12 ⟨⟨o2, rfl, ho2⟩, g12⟩
 have h12 : Below w1.heap.size w1 w12 := h11.trans (g12.mono h11.size)
 have O12 := qhd ((O10.out.stays rStr_good (Keeps.of_below g11)).stays rStr_good (Keeps.of_below g12))
 have Q12 := qhd ho2.str0
 clear P11 ho2 g12 g11
 obtain ⟨pa, pl, pc, rfl⟩ := Q12.out.form
 have hm9 : decide ((1 : Int) < (ol : Int)) = true := by have := HM.out; simp; omega
 go_wp2_with fail
 refine (L_loTexts (planLines (oneOf x)) (planLines (oneOf y)) _ _ w12 O12.out Q12.out).mono ?_
 rintro _ w13 ⟨rfl, g13⟩
 have h13 : Below w.heap.size w w13 := h1.trans ((h12.trans (g13.mono h12.size)).mono h1.size)
 rw [HQE.out]
 have zz2 : (z == z) = true := by simp
 go_wp2
 all_goals (try go_returns)
 all_goals exact HR.out _ _ ⟨rfl, h13⟩

end Go.Proofs.YtfbonocadpknbaaGreatDoor
namespace Go.Proofs.YtfbonocadpknbaaGreatDoor
open Go.ChangeShapes Go.WideShapes Go.ChangeAt Go.RowKit Go.Joins
open Go.ChangeMaps (open_string shut_string)
theorem door_met (os : Os) (args : Array Value) : laidMetH Tryz.prog Rows.fnClsSameRow.laid ((World.doorLaid Tryz.prog 400 os).forCall (fun _ _ => 0) ⟨#[], args, []⟩).memory :=
 laidMetH_of_parts3 (fuel := 8) (laidMet_of_run' 8 (by kernel_rfl) (by kernel_rfl)) (by kernel_rfl) (by kernel_rfl)

theorem tab_of_laid {W : World} (h : laidMetH Tryz.prog Rows.fnClsSameRow.laid W) : Tab W := by
 rw [MakeChecks.laidMetH_plain _ _ _ (by kernel_rfl)] at h
 have h3 : laidMet Tryz.prog [("internal/strconv.uint64pow10", Lib.tabData .u64 Lib.pow10Tab)] W := laidMet.tail (laidMet.tail h)
 exact Lib.tabIs_of_head (g := 0) (t := 151) (e := 126) (n := 20) (by kernel_rfl) (by kernel_rfl) (by kernel_rfl) (by kernel_rfl) (by kernel_rfl) (by kernel_rfl) h3

theorem cells_u8 : Tryz.prog.cellsOf 5 = 1 := by kernel_rfl

theorem lifted (os : Os) (started : os.Started) (H : Type) (enc : TypeId × Value → H) :
  ReturnsInHanded {} Tryz.checked os 4 .any (fun w args => (Rows.fnClsSameSpec.pre enc Tryz.prog Tryz.f4 [] false w args ∧ laidMetH Tryz.prog Rows.fnClsSameRow.laid w) ∧ sizedMet enc Tryz.prog Tryz.f4 (OpenSpec.ofChange Rows.fnClsSameSpec) false w args)
   (Rows.fnClsSameSpec.post enc Tryz.prog Tryz.f4 false true false false) := by
 refine returnsInHanded_of_change_and (C := Tryz.checked) (X := fun w _ => laidMetH Tryz.prog Rows.fnClsSameRow.laid w) (fun _ _ _ hh h => h.of_heap hh) own started (by kernel_rfl) Tryz.func4
  (ChangeSpec.witness_shaped (enc := enc) (C := Tryz.checked) (os := os) (X := fun w _ => laidMetH Tryz.prog Rows.fnClsSameRow.laid w) false (World.doorLaid Tryz.prog 400 os) #[.slice none 0 0] 8 rfl (World.shaped_of_RefB (by kernel_rfl) (by kernel_rfl)) (by kernel_rfl) (by kernel_rfl) (by kernel_rfl) (door_met os _)) ?_
 intro W base args ds gs before hval0 hW _ _ hL _
 have hval : ∀ (j : Nat) t v, Tryz.f4.params[j]? = some t → args[j]? = some v → Value.okWide Tryz.prog W .any base t v := hval0
 have hW' := hW
 obtain ⟨p, q, hA0, hV, rfl, hfz, hnd⟩ := hW
 have hA : DataW.TrodAll enc Tryz.prog W 0 (fun _ => true) true Tryz.f4.params.toList args.toList ds p := hA0
 rw [Tryz.params4] at hA hval
 clear hA0 hval0
 obtain ⟨v0, d0, rfl, rfl, h0⟩ := trodAll_one hA
 obtain ⟨rfl, rfl⟩ := trodVars_none hV
 have b0 := open_bytes Tryz.underlying22 Tryz.underlying5 cells_u8 (hval 0 22 v0 rfl rfl) h0
 refine (L_FnClsSame v0 W b0 (tab_of_laid hL)).mono fun e W' h => ?_
 obtain ⟨rfl, hb⟩ := h
 exact ⟨_, rfl, law_post (s := Rows.fnClsSameSpec) hW' hb rfl rfl rfl Tryz.underlying4 (by rw [Tryz.params4]; kernel_rfl)⟩

theorem fnClsSame_row : Rows.FnClsSameSaid :=
 OpenClaim.holds_of_wide 4 Tryz.f4 rfl rfl rfl rfl rfl rfl rfl ⟨rfl, rfl, rfl, rfl, rfl⟩ rfl rfl rfl rfl rfl (by kernel_rfl) Tryz.func4 (by kernel_rfl)
  (of_decide_eq_true (by kernel_rfl)) (by unfold Func.isWrapper; first | (rw [if_pos (by decide +kernel)]; kernel_rfl) | (rw [if_neg (by decide +kernel)]; exact ⟨rfl, rfl⟩))
  (fun os started H enc _ => lifted os started H enc)

theorem fnClsSameCard_holds : Rows.FnClsSameCardSaid :=
 Claim7.holds_tied_plain_at .later [] [.data, .data, .data] true (true, "dbd43149c1f0945c13ac54857c2fac3026f3765a31ac738095234ea220416025") true
  fnClsSame_row (fun _ h => by cases h) (by kernel_rfl) (fun _ h => by cases h) fnClsSame_row_tie rfl ⟨rfl, rfl⟩ (by kernel_rfl) rfl
  (fun f fn hf hfn => by
   obtain rfl : f = 4 := Option.some.inj ((show Tryz.prog.funcNamed "loop.example/lodgekeeper/laws.FnClsSame" = some 4 by kernel_rfl).symm.trans hf) |>.symm
   obtain rfl : fn = Tryz.f4 := (Option.some.inj (Tryz.func4.symm.trans hfn)).symm
   exact ⟨by kernel_rfl, fun j t ht => by
    rw [Tryz.params4] at ht
    have hm : t ∈ [22] := by simpa using Array.mem_of_getElem? ht
    have hall : ([22].all fun u => !Tryz.prog.wantsStandIn u) = true := by kernel_rfl
    exact (show Tryz.prog.wantsStandIn t = false by simpa using List.all_eq_true.1 hall t hm)⟩)
  (by kernel_rfl)

end Go.Proofs.YtfbonocadpknbaaGreatDoor
