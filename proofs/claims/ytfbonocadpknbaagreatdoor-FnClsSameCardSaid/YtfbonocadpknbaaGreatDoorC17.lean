/-
  Texts of mine, packed: NumI, PrnJ, PrnK. No condition beside those of the single theorems.
-/
import Derived.Test.YtfbonocadpknbaaGreatDoorC1
import Derived.Test.YtfbonocadpknbaaGreatDoorC15
import Derived.Test.YtfbonocadpknbaaGreatDoorShelf
import Derived.Lib.LaidTab
import Derived.Test.YtfbonocadpknbaaGreatDoorC12
import Derived.Test.YtfbonocadpknbaaGreatDoorC16
import Derived.Deep.CutBlock
import Derived.Deep.CutRange
set_option linter.unusedSimpArgs false
set_option linter.unusedVariables false
set_option maxHeartbeats 16000000
set_option maxRecDepth 100000
namespace Go.Proofs.YtfbonocadpknbaaGreatDoor
open Go.RowKit
def Tab (w : World) : Prop := Lib.TabIs Tryz.prog w "internal/strconv.uint64pow10" .u64 Lib.pow10Tab
theorem Tab.below {w w' : World} (h : Tab w) (hb : Below w.heap.size w w') : Tab w' := by
 unfold Tab Lib.TabIs World.var? at h ⊢
 cases hg : Tryz.prog.globalNamed "internal/strconv.uint64pow10" with
 | none => rw [hg] at h; cases h
 | some g =>
   rw [hg] at h
   simp only [Option.bind_some] at h ⊢
   cases ho : w.heap[g]? with
   | none => rw [ho] at h; cases h
   | some o =>
     rw [hb.block g (Array.getElem?_eq_some_iff.1 ho).1]
     exact h
theorem below_grow (w : World) (k : Nat) (os : Array Obj) : Below w.heap.size w (Go.Sort.grow (w.drewN k) os) :=
 ⟨rfl, rfl, rfl, by simp [Go.Sort.grow, World.drewN], fun i hi => by
  show (w.heap ++ os)[i]? = w.heap[i]?
  rw [Array.getElem?_append_left hi]⟩
theorem I_Itoa (n : Int) (w : World) (hn : -9999 ≤ n ∧ n ≤ 9999) (ht : Tab w) :
  Calls Tryz.prog 19 #[.int .i64 n] w fun e w' => e = .returned (.string (tx (Lib.itoa n))) ∧ Below w.heap.size w w' :=
 (Tryz.strconv_Itoa n (by omega) (by omega) w ht).mono fun e w' ⟨he, k, os, hw⟩ => ⟨he, by rw [hw]; exact below_grow w k os⟩

theorem I_opWord (op : Int) (w : World) (hk : 0 ≤ op ∧ op ≤ 15) :
  Calls Tryz.prog 88 #[.int .i64 op] w fun e w' => e = .returned (.string (tx (opText op))) ∧ Below w.heap.size w w' := by
 obtain ⟨k, rfl⟩ : ∃ k : Nat, op = (k : Int) := ⟨op.toNat, by omega⟩
 have hk' : k ≤ 15 := by omega
 have hc : (w.alloc (.cells #[.string ⟨#[]⟩, .string ⟨#[110, 117, 109]⟩, .string ⟨#[116, 97, 107, 101]⟩, .string ⟨#[112, 117, 116]⟩, .string ⟨#[97, 100, 100]⟩, .string ⟨#[110, 117, 108, 108]⟩, .string ⟨#[110, 101, 119]⟩, .string ⟨#[103, 101, 116]⟩, .string ⟨#[115, 101, 116]⟩, .string ⟨#[99, 97, 108, 108]⟩, .string ⟨#[114, 101, 116]⟩, .string ⟨#[122, 101, 114, 111]⟩, .string ⟨#[110, 105, 108]⟩, .string ⟨#[103, 111]⟩, .string ⟨#[111, 117, 116]⟩, .string ⟨#[99, 97, 115, 116]⟩] 158)).cell? ⟨w.heap.size, k, none⟩ = some (.string (tx (opText (k : Int)))) := by
  rw [World.cell?_alloc_at (hn := rfl)]
  rcases sixteen hk' with rfl | rfl | rfl | rfl | rfl | rfl | rfl | rfl | rfl | rfl | rfl | rfl | rfl | rfl | rfl | rfl
  all_goals rfl
 have h1 : (k : Int) < 16 := by omega
 have h2 : ¬ (k : Int) < 0 := by omega
 have h3 : ¬ (16 : Int) ≤ (k : Int) := by omega
 refine qab fun R HR => ?_
 go_enter Tryz.func88, Tryz.ntmps88
 go_wp2
 all_goals (try go_returns)
 all_goals exact HR.out _ _ ⟨rfl, bbel⟩

theorem insTxt_num' {op a : Int} {n m : ByteArray} (ok : insOk op a n m = true) (h : isNumOp op = true) : tx (opText op) ++ (⟨#[32]⟩ ++ tx (Lib.itoa a)) = tx (insTxt op a n m) := by
 rw [← insTxt_num ok h, ByteArray.append_assoc]
theorem insTxt_cls' {op a : Int} {n m : ByteArray} (ok : insOk op a n m = true) (h0 : isNumOp op = false) (h : isClsOp op = true) : tx (opText op) ++ (⟨#[32]⟩ ++ n) = tx (insTxt op a n m) := by
 rw [← insTxt_cls ok h0 h, ByteArray.append_assoc]
theorem insTxt_mem' {op a : Int} {n m : ByteArray} (ok : insOk op a n m = true) (h0 : isNumOp op = false) (h1 : isClsOp op = false) (h : isMemOp op = true) : tx (opText op) ++ (⟨#[32]⟩ ++ n ++ ⟨#[32]⟩ ++ m) = tx (insTxt op a n m) := by
 rw [← insTxt_mem ok h0 h1 h]
 simp only [ByteArray.append_assoc]

theorem app1 (x : ByteArray) : ((⟨#[32]⟩ : ByteArray) ++ x).size = 1 + x.size := by rw [ByteArray.size_append]; rfl

theorem I_InsText (op a : Int) (n m : ByteArray) (w : World) (hn : n.size ≤ maxLen) (hm : m.size ≤ maxLen) (ht : Tab w) :
  Calls Tryz.prog 69 #[.agg #[.int .i64 op, .int .i64 a, .string n, .string m]] w fun e w' => e = .returned (.string (tx (insTxt op a n m))) ∧ Below w.heap.size w w' := by
 have CI : ∀ W, Calls Tryz.prog 87 #[.agg #[.int .i64 op, .int .i64 a, .string n, .string m]] W fun e w' => e = .returned (.bool (insOk op a n m)) ∧ Below W.heap.size W w' := fun W => I_InsOk op a n m W hn hm
 cases hok : insOk op a n m
 ·rw [hok] at CI
  have RV : Hid (tx (insTxt op a n m) = ⟨#[]⟩) := qhd (by unfold insTxt; rw [hok]; rfl)
  clear ht
  refine qab fun R HR => ?_
  go_enter Tryz.func69, Tryz.ntmps69
  go_wp2_with fail
  refine (CI _).mono ?_
  rintro _ w1 ⟨rfl, h1⟩
  go_wp2
  all_goals (try go_returns)
  all_goals exact HR.out _ _ ⟨by first | (rw [RV.out]; done) | (rw [RV.out]; rfl), bbel⟩
 rw [hok] at CI
 obtain ⟨hk, hn6, hm6, ha⟩ := insOk_parts hok
 have OK := qhd hok
 have HA := qhd ha
 have HT := qhd ht
 have e1 : (⟨#[32]⟩ : ByteArray).size = 1 := rfl
 have e2 : (tx (opText op)).size ≤ 4 := by rw [tx_size]; exact opText_len _
 have e7 := app1 n
 have CF : ∀ W, Calls Tryz.prog 89 #[.agg #[.int .i64 op, .int .i64 a, .string n, .string m]] W fun e w' => e = .returned (formV op a n m) ∧ Below W.heap.size W w' := fun W => I_formOf op a n m W
 clear hok ha hn hm ht
 refine qab fun R HR => ?_
 go_enter Tryz.func69, Tryz.ntmps69
 go_wp2_with fail
 refine (CI _).mono ?_
 rintro _ w1 ⟨rfl, h1⟩
 have h1s := (h1).size; (try simp only [qsz] at h1s)
 obtain ⟨h1ad, h1ao, h1ag, h1ap, h1ax, h1ay⟩ := bf1 (n := w.heap.size) h1
 go_wp2_with fail
 refine (I_opWord op _ (by omega)).mono ?_
 rintro _ w2 ⟨rfl, h2⟩
 have h2s := (h2).size; (try simp only [qsz] at h2s)
 obtain ⟨h2ad, h2ao, h2ag, h2ap, h2ax, h2ay⟩ := bf1 (n := w.heap.size) h2
 go_wp2_with fail
 refine (CF _).mono ?_
 rintro _ w3 ⟨rfl, h3⟩
 have h3s := (h3).size; (try simp only [qsz] at h3s)
 have hE : Below w.heap.size w w3 := bbel
 clear CI CF h1ad h1ag h1ao h1ap h2ad h2ag h2ao h2ap
 rcases fifteen hk with rfl | rfl | rfl | rfl | rfl | rfl | rfl | rfl | rfl | rfl | rfl | rfl | rfl | rfl | rfl
 all_goals simp only [formV, opNum, opCls, opMem, opPln, Int.reduceBEq, Bool.or_true, Bool.true_or, Bool.or_false, Bool.false_or, if_true, Bool.false_eq_true, if_false]
 all_goals
  go_wp2_with (go_at_call 19; refine (I_Itoa a _ (HA.out rfl) (HT.out.below (bbel))).mono ?_; rintro _ w4 ⟨rfl, h4⟩; have h4s := h4.size; have e5 := itoa_len (HA.out rfl); have e6 := app1 (tx (Lib.itoa a)))
  all_goals (try go_returns)
  all_goals first
   | exact HR.out _ _ ⟨ret_str (insTxt_num' OK.out rfl), bbel⟩
   | exact HR.out _ _ ⟨ret_str (insTxt_cls' OK.out rfl rfl), bbel⟩
   | exact HR.out _ _ ⟨ret_str (insTxt_mem' OK.out rfl rfl rfl), bbel⟩
   | exact HR.out _ _ ⟨ret_str (insTxt_pln OK.out rfl rfl rfl), bbel⟩

theorem P_Itoa (n : Int) (w : World) (hn : 0 ≤ n ∧ n ≤ 9999) (ht : Tab w) :
  Calls Tryz.prog 19 #[.int .i64 n] w fun e w' => e = .returned (.string (tx (numText n))) ∧ Below w.heap.size w w' := by
 rw [numText_itoa ⟨by omega, by omega⟩]
 exact I_Itoa n w ⟨by omega, by omega⟩ ht
theorem app_none (a : ByteArray) : a ++ tx [] = a := by
 apply by'_inj
 simp [by'_app, byTx]
theorem tgs_step (a : ByteArray) {ts : List DTagTag} {k : Nat} {x : DTagTag} (h : ts[k]? = some x) : a ++ tx (tgsB (ts.take k)) ++ (⟨#[32]⟩ ++ tagText x.fKind x.fName) = a ++ tx (tgsB (ts.take (k + 1))) := by
 rw [tgsB_next h]
 apply by'_inj
 simp [by'_app, byTx, by'_mk, tgW]
theorem cat1 (x : ByteArray) : ((⟨#[32]⟩ : ByteArray) ++ x).size = 1 + x.size := by rw [ByteArray.size_append]; rfl

theorem I_printMethod (m : DClsMethod) (v1 v2 v3 : Value) (w : World) (s1 : Sl 2 rKndKind 0 w v1 m.fArgs) (s2 : Sl 4 rClsIns 0 w v2 m.fCode) (s3 : Sl 3 rClsMap 0 w v3 m.fMaps) (b1 : m.fName.size ≤ maxLen) (b2 : m.fRet.fName.size ≤ maxLen) (hm : MthP m) (htab : Tab w) :
  Calls Tryz.prog 43 #[.agg #[.string m.fName, v1, .int .i64 m.fRet.fKind, .string m.fRet.fName, .int .i64 m.fLocals, .int .i64 m.fStack, v2, v3]] w fun e w' => (∃ v, e = .returned v ∧ TOwn 1 rStr 9 (w.heap.size + 1) (w.heap.size + 1) w' v ((mthWs m).map lineT)) ∧ Below w.heap.size w w' := by
 obtain ⟨a, len, cap, rfl, hl, h1, h2, h3⟩ := id s1
 obtain ⟨ka, kl, kc, rfl, hkl, hk1, hk2, hk3⟩ := id s2
 obtain ⟨ma, ml, mc, rfl, hml, hm1, hm2, hm3⟩ := id s3
 have m1 : len ≤ 9223372036854775807 := by unfold maxLen at h2; omega
 have m2 : kl ≤ 9223372036854775807 := by unfold maxLen at hk2; omega
 have m3 : ml ≤ 9223372036854775807 := by unfold maxLen at hm2; omega
 have hl3 : len ≤ 3 := by have := hm.alen; omega
 have hl16 : kl ≤ 16 := by have := hm.clen; omega
 have hl5 : ml ≤ 5 := by have := hm.mlen; omega
 have HL := qhd hl
 have HKL := qhd hkl
 have HML := qhd hml
 have HM := qhd hm
 have TB := qhd htab
 have nl := hm.loc
 have ns := hm.stk
 have e6 := namOk_six hm.nm
 have e5 := num_size (n := m.fLocals) (by omega)
 have e4 := num_size (n := m.fStack) (by omega)
 have e3 := kt_len hm.ret
 have e2 : (⟨#[32]⟩ : ByteArray).size = 1 := rfl
 have e1 : (⟨#[109, 101, 116, 104, 111, 100, 32]⟩ : ByteArray).size = 7 := rfl
 have H0 := qhd (mthH_text m)
 clear h2 hl h1 hk2 hkl hk1 hm2 hml hm1 hm htab
 refine qab fun R HR => ?_
 go_enter Tryz.func43, Tryz.ntmps43
 go_wp2_with fail
 obtain ⟨wE, hwE⟩ : ∃ wE, wE = w.alloc (.cells #[.string m.fName, .slice a len cap, .int .i64 m.fRet.fKind, .string m.fRet.fName, .int .i64 m.fLocals, .int .i64 m.fStack, .slice ka kl kc, .slice ma ml mc] 65) := ⟨_, rfl⟩
 rw [← hwE]
 have hBE : Below w.heap.size w wE := by rw [hwE]; exact bbel
 have hsE : wE.heap.size = w.heap.size + 1 := by rw [hwE]; simp
 have c0 : wE.cell? ⟨w.heap.size, 0, none⟩ = some (.string m.fName) := by rw [hwE]; go_simp
 have c1 : wE.cell? ⟨w.heap.size, 1, none⟩ = some (.slice a len cap) := by rw [hwE]; go_simp
 have c2 : wE.cell? ⟨w.heap.size, 2, none⟩ = some (.int .i64 m.fRet.fKind) := by rw [hwE]; go_simp
 have c3 : wE.cell? ⟨w.heap.size, 3, none⟩ = some (.string m.fRet.fName) := by rw [hwE]; go_simp
 have c4 : wE.cell? ⟨w.heap.size, 4, none⟩ = some (.int .i64 m.fLocals) := by rw [hwE]; go_simp
 have c5 : wE.cell? ⟨w.heap.size, 5, none⟩ = some (.int .i64 m.fStack) := by rw [hwE]; go_simp
 have c6 : wE.cell? ⟨w.heap.size, 6, none⟩ = some (.slice ka kl kc) := by rw [hwE]; go_simp
 have c7 : wE.cell? ⟨w.heap.size, 7, none⟩ = some (.slice ma ml mc) := by rw [hwE]; go_simp
 clear hwE
 have hEw : Hid (∀ (g o : Nat) (u : Value), g < w.heap.size → w.cell? ⟨g, o, none⟩ = some u → ∀ W, Below (w.heap.size + 1) wE W → W.cell? ⟨g, o, none⟩ = some u) := qhd fun g o u hg hu W hW => qat hW (by omega) (qat hBE hg hu)
 have hEb : Hid (∀ W, Below (w.heap.size + 1) wE W → Below w.heap.size w W) := qhd fun W hW => hBE.trans (hW.mono (by omega))
 have TBE : Hid (Tab wE) := qhd (TB.out.below hBE)
 have P0 := In.cell c0
 have P2 := In.cell c2
 have P3 := In.cell c3
 have P4 := In.cell c4
 have P5 := In.cell c5
 have CL : ∀ y : In wE, Calls Tryz.prog 19 #[.int .i64 m.fLocals] y.x fun e w' => e = .returned (.string (tx (numText m.fLocals))) ∧ Below y.x.heap.size y.x w' := fun y => P_Itoa _ _ (by omega) (TBE.out.below y.h)
 have CS : ∀ y : In wE, Calls Tryz.prog 19 #[.int .i64 m.fStack] y.x fun e w' => e = .returned (.string (tx (numText m.fStack))) ∧ Below y.x.heap.size y.x w' := fun y => P_Itoa _ _ (by omega) (TBE.out.below y.h)
 have CK : ∀ y : In wE, Calls Tryz.prog 42 #[.agg #[.int .i64 m.fRet.fKind, .string m.fRet.fName]] y.x fun e w' => e = .returned (.string (kndText m.fRet.fKind m.fRet.fName)) ∧ Below y.x.heap.size y.x w' := fun y => I_KndText _ _ _ b2
 go_wp2_with fail
 refine qaj (by kernel_rfl) (by kernel_rfl) ?_
 repeat (go_big_quiet_step (first | (go_at_call 19; first | (with_reducible exact Calls.ins (CL _)) | (with_reducible exact Calls.ins (CS _))) | (go_at_call 42; exact Calls.ins (CK _))))
 refine wpQuiet_nil ?_
 rintro wZ ⟨⟨wA, hwA⟩, hq⟩
 obtain rfl : wA = wZ := hq.symm
 clear hq
 have hwAs := hwA.size
 (try dsimp only)
 have hbA : Below (w.heap.size + 1) wE wA := hwA.mono (by omega)
 have rA1 : wA.cell? ⟨w.heap.size, 1, none⟩ = some (.slice a len cap) := qat hbA (by omega) c1
 have lA : w.heap.size < wA.heap.size := block_lt_of_cell rA1
 clear P0 P2 P3 P4 P5 CL CS CK c0 c2 c3 c4 c5
 go_wp2_with fail
 go_loopw [3, 37] (fun sv zi wr => ∃ k : Nat, k ≤ len ∧ sv = .string (tx (joinW (mthH m ++ ktsW (m.fArgs.take k)))) ∧ zi = .int .i64 k ∧ Below (w.heap.size + 1) wE wr) (fun _ zi _ => len - (intOf zi).toNat)
 case atStart => exact ⟨0, Nat.zero_le _, by rw [H0.out]; simp [ktsW], rfl, hbA⟩
 case round =>
  clear hbA hwA hwAs rA1 lA
  obtain ⟨k, hk, rfl, rfl, hb⟩ := hrel
  have hbs := hb.size
  by_cases hlt : k < len
  ·have hlt2 : (k : Int) < (len : Int) := by omega
   obtain ⟨b, off, rfl, hlo, hbl, hr⟩ := h3 (by omega)
   obtain ⟨x, cs, g0, g1, g2, g3⟩ := hr k hlt
   obtain ⟨rfl, bx⟩ := g3
   have q1 : wr.cell? ⟨b, off + k * 2, none⟩ = some (.int .i64 x.fKind) := hEw.out _ _ _ hbl (g2 0 _ rfl) wr hb
   have q2 : wr.cell? ⟨b, off + k * 2 + 1, none⟩ = some (.string x.fName) := hEw.out _ _ _ hbl (g2 1 _ rfl) wr hb
   have z1 := kt_len (HM.out.args x (List.mem_of_getElem? g0))
   have z2 := mthW_len HM.out k
   have z3 := cat1 (kndText x.fKind x.fName)
   have NX : Hid (tx (joinW (mthH m ++ ktsW (m.fArgs.take k))) ++ (⟨#[32]⟩ ++ kndText x.fKind x.fName) = tx (joinW (mthH m ++ ktsW (m.fArgs.take (k + 1))))) := qhd (by rw [ktsW_next g0, mthW_step'])
   have CK : ∀ W, Calls Tryz.prog 42 #[.agg #[.int .i64 x.fKind, .string x.fName]] W fun e w' => e = .returned (.string (kndText x.fKind x.fName)) ∧ Below W.heap.size W w' := fun W => I_KndText _ _ _ bx
   clear g0 g1 g2 hr
   go_wp2_with fail
   refine (CK _).mono ?_
   rintro _ w1 ⟨rfl, d1⟩
   have d1s := (d1).size; (try simp only [qsz] at d1s)
   have hb1 : Below (w.heap.size + 1) wE w1 := (hb.trans ((Below.refl _ _).alloc (by omega) _)).trans (d1.mono (by simp; omega))
   go_wp2
   go_roundw
   case measure => simp [intOf]; omega
   case rel => exact ⟨k + 1, by omega, by rw [NX.out], by go_num, hb1⟩
  ·obtain rfl : k = len := by omega
   have RV : Hid (mthH m ++ ktsW (m.fArgs.take k) = mthW m) := qhd (by rw [List.take_of_length_le (by rw [HL.out]; exact Nat.le_refl _), mthW_eq])
   have z2 := mthW_len HM.out k
   rw [RV.out] at z2
   have z2' : (lineT (mthW m)).size ≤ 60 := z2
   rw [show tx (joinW (mthH m ++ ktsW (m.fArgs.take k))) = lineT (mthW m) by rw [RV.out]; rfl]
   have r7 : wr.cell? ⟨w.heap.size, 7, none⟩ = some (.slice ma ml mc) := qat hb (by omega) c7
   have l0 : w.heap.size < wr.heap.size := block_lt_of_cell r7
   clear z2 RV
   go_wp2_with fail
   obtain ⟨wB, hwB⟩ : ∃ wB, wB = wr.alloc (.cells #[.string (lineT (mthW m))] 9) := ⟨_, rfl⟩
   first | rw [← hwB] | skip
   have hbB : Below (w.heap.size + 1) wE wB := by rw [hwB]; exact hb.trans ((Below.refl _ _).alloc (by omega) _)
   have hTB : TOwn 1 rStr 9 (w.heap.size + 1) (w.heap.size + 1) wB (.slice (some ⟨wr.heap.size, 0, none⟩) 1 1) [lineT (mthW m)] := by
    rw [hwB]; exact TOwn.one (w.heap.size + 1) wr [.string (lineT (mthW m))] _ (by omega) rfl ⟨rfl, by unfold maxLen; omega⟩
   have hwrB : wr.heap.size < wB.heap.size := by rw [hwB]; simp
   clear hwB
   go_loopw [6, 52] (fun ov zi wr => ∃ (i : Nat) (v : Value), i ≤ ml ∧ ov = v ∧ zi = .int .i64 i ∧ TOwn 1 rStr 9 (w.heap.size + 1) (w.heap.size + 1) wr v (lineT (mthW m) :: (m.fMaps.take i).map (fun f => lineT (mapW f))) ∧ Below (w.heap.size + 1) wE wr) (fun _ zi _ => ml - (intOf zi).toNat)
   case atStart => exact ⟨0, _, Nat.zero_le _, rfl, rfl, hTB, hbB⟩
   case round =>
    clear hTB hbB hb hbs r7 l0 hwrB
    obtain ⟨i, v, hi, rfl, rfl, ht, hb⟩ := hrel
    obtain ⟨va, vn, vc, rfl⟩ := ht.sl.form3
    have HT := qhd ht
    clear ht
    have hbs := hb.size
    by_cases hlt : i < ml
    ·have hlt2 : (i : Int) < (ml : Int) := by omega
     obtain ⟨b, off, rfl, hlo, hbl, hr⟩ := hm3 (by omega)
     obtain ⟨f, cs, g0, g1, g2, g3⟩ := hr i hlt
     obtain ⟨u1, u2, rfl, t1, t2⟩ := g3
     obtain ⟨fa, fn, fc, rfl, hfn, _, hfm0, hf3⟩ := id t1
     obtain ⟨ua, un, uc, rfl, hun, _, hum0, hu3⟩ := id t2
     have mf : fn ≤ 9223372036854775807 := by unfold maxLen at hfm0; omega
     have mu : un ≤ 9223372036854775807 := by unfold maxLen at hum0; omega
     have q1 : wr.cell? ⟨b, off + i * 3, none⟩ = some (.int .i64 f.fAt) := hEw.out _ _ _ hbl (g2 0 _ rfl) wr hb
     have q2 : wr.cell? ⟨b, off + i * 3 + 1, none⟩ = some (.slice fa fn fc) := hEw.out _ _ _ hbl (g2 1 _ rfl) wr hb
     have q3 : wr.cell? ⟨b, off + i * 3 + 2, none⟩ = some (.slice ua un uc) := hEw.out _ _ _ hbl (g2 2 _ rfl) wr hb
     have hfm := List.mem_of_getElem? g0
     obtain ⟨hat0, hft, hfu, hfl, hfl2⟩ := HM.out.maps f hfm
     have hat : 0 ≤ f.fAt ∧ f.fAt ≤ 9999 := by omega
     have z1 := num_size (n := f.fAt) (by omega)
     have z4 : (⟨#[102, 114, 97, 109, 101, 32]⟩ : ByteArray).size = 6 := rfl
     have z5 : (⟨#[32, 47]⟩ : ByteArray).size = 2 := rfl
     have z6 := map_size HM.out hfm
     have NX : Hid ((m.fMaps.take (i + 1)).map (fun f => lineT (mapW f)) = (m.fMaps.take i).map (fun f => lineT (mapW f)) ++ [lineT (mapW f)]) := qhd (map_next (fun f => lineT (mapW f)) g0)
     have HFT := qhd hft
     have HFU := qhd hfu
     have HFN := qhd hfn
     have HUN := qhd hun
     have hfn6 : fn ≤ 6 := by omega
     have hun5 : un ≤ 5 := by omega
     have CI : ∀ W, Below (w.heap.size + 1) wE W → Calls Tryz.prog 19 #[.int .i64 f.fAt] W fun e w' => e = .returned (.string (tx (numText f.fAt))) ∧ Below W.heap.size W w' := fun W hW => P_Itoa _ _ hat (TBE.out.below (hW.mono (by omega)))
     have hlr : b < wr.heap.size := by omega
     clear g0 g1 g2 hr t1 t2 hfm hft hfu hfn hun
     go_wp2_with fail
     refine (CI _ (hb.trans ((Below.refl _ _).alloc (by omega) _))).mono ?_
     rintro _ w1 ⟨rfl, d1⟩
     have d1s := (d1).size; (try simp only [qsz] at d1s)
     have hB1 : Below (w.heap.size + 1) wE w1 := (hb.trans ((Below.refl _ _).alloc (by omega) _)).trans (d1.mono (by simp; omega))
     have HT1 : Hid (TOwn 1 rStr 9 (w.heap.size + 1) (w.heap.size + 1) w1 (.slice va vn vc) (lineT (mthW m) :: (m.fMaps.take i).map (fun f => lineT (mapW f)))) := qhd ((HT.out.below qak ((Below.refl _ _).alloc (Nat.le_refl _) _)).below qak d1)
     have x1 : w1.cell? ⟨wr.heap.size, 1, none⟩ = some (.slice fa fn fc) := qad d1 (by go_simp)
     have x2 : w1.cell? ⟨wr.heap.size, 2, none⟩ = some (.slice ua un uc) := qad d1 (by go_simp)
     have hzw : wr.heap.size < w1.heap.size := block_lt_of_cell x1
     obtain ⟨A, hA⟩ : ∃ A, A = (⟨#[102, 114, 97, 109, 101, 32]⟩ : ByteArray) ++ tx (numText f.fAt) := ⟨_, rfl⟩
     have hAs : A.size ≤ 11 := by rw [hA, ByteArray.size_append]; omega
     have HA := qhd hA
     clear CI d1 q1 q2 q3
     go_wp2_with fail
     rw [← hA]
     clear hA
     obtain ⟨wo, rfl⟩ : ∃ wo, wo = wr := ⟨_, rfl⟩
     go_loopw [9, 63] (fun sv zj ws => ∃ k : Nat, k ≤ fn ∧ sv = .string (A ++ tx (tgsB (f.fLocals.take k))) ∧ zj = .int .i64 k ∧ Below w1.heap.size w1 ws) (fun _ zj _ => fn - (intOf zj).toNat)
     case atStart => exact ⟨0, Nat.zero_le _, by rw [List.take_zero]; exact congrArg Value.string (app_none A).symm, rfl, Below.refl _ _⟩
     case round =>
      clear hb hlr
      obtain ⟨ws, rfl⟩ : ∃ ws, ws = wr := ⟨_, rfl⟩
      obtain ⟨k, hk, rfl, rfl, hk0⟩ := hrel
      have hks := hk0.size
      have y2 := qad hk0 x2
      by_cases hlk : k < fn
      ·have hlk2 : (k : Int) < (fn : Int) := by omega
       obtain ⟨tb, tz, rfl, _, htb, htr⟩ := hf3 (by omega)
       obtain ⟨x, cs, g0, g1, g2, g3⟩ := htr k hlk
       obtain ⟨rfl, bx⟩ := g3
       have q1 : ws.cell? ⟨tb, tz + k * 2, none⟩ = some (.int .i64 x.fKind) := qad hk0 (hEw.out _ _ _ htb (g2 0 _ rfl) w1 hB1)
       have q2 : ws.cell? ⟨tb, tz + k * 2 + 1, none⟩ = some (.string x.fName) := qad hk0 (hEw.out _ _ _ htb (g2 1 _ rfl) w1 hB1)
       have hxk : tagOkD x = true := HFT.out x (List.mem_of_getElem? g0)
       have w1z := tgT_len hxk
       have w2z := cat1 (tagText x.fKind x.fName)
       have w3z : (A ++ tx (tgsB (f.fLocals.take k))).size ≤ 60 := by
        rw [ByteArray.size_append, tx_size]
        have h8 := tgsB_len (ts := f.fLocals.take k) fun t ht => HFT.out t (List.mem_of_mem_take ht)
        have h9 : (f.fLocals.take k).length ≤ 6 := by rw [List.length_take]; omega
        omega
       have NT := qhd (tgs_step A g0)
       have CT : ∀ W, Calls Tryz.prog 68 #[.agg #[.int .i64 x.fKind, .string x.fName]] W fun e w' => e = .returned (.string (tagText x.fKind x.fName)) ∧ Below W.heap.size W w' := fun W => I_TagText _ _ _ bx
       clear g0 g1 g2 htr
       go_wp2_with fail
       refine (CT _).mono ?_
       rintro _ w2 ⟨rfl, d2⟩
       have d2s := (d2).size; (try simp only [qsz] at d2s)
       have hk1 : Below w1.heap.size w1 w2 := (hk0.trans ((Below.refl _ _).alloc hks _)).trans (d2.mono (by simp; omega))
       go_wp2
       go_roundw
       case measure => simp [intOf]; omega
       case rel => exact ⟨k + 1, by omega, by rw [NT.out], by go_num, hk1⟩
      ·obtain rfl : k = fn := by omega
       have RV : Hid (f.fLocals.take k = f.fLocals) := qhd (List.take_of_length_le (by rw [HFN.out]; exact Nat.le_refl _))
       have w3z : (A ++ tx (tgsB f.fLocals)).size ≤ 60 := by
        rw [ByteArray.size_append, tx_size]
        have h8 := tgsB_len HFT.out
        have h9 : f.fLocals.length ≤ 6 := by rw [HFN.out]; omega
        omega
       rw [RV.out]
       obtain ⟨A2, hA2⟩ : ∃ A2, A2 = A ++ tx (tgsB f.fLocals) ++ (⟨#[32, 47]⟩ : ByteArray) := ⟨_, rfl⟩
       have hA2s : A2.size ≤ 62 := by rw [hA2, ByteArray.size_append]; omega
       have HA2 := qhd hA2
       have hzs : wo.heap.size < ws.heap.size := block_lt_of_cell y2
       go_wp2_with fail
       rw [← hA2]
       clear hA2
       go_loopw [9, 78] (fun sv zj wt => ∃ q : Nat, q ≤ un ∧ sv = .string (A2 ++ tx (tgsB (f.fStack.take q))) ∧ zj = .int .i64 q ∧ Below ws.heap.size ws wt) (fun _ zj _ => un - (intOf zj).toNat)
       case atStart => exact ⟨0, Nat.zero_le _, by rw [List.take_zero]; exact congrArg Value.string (app_none A2).symm, rfl, Below.refl _ _⟩
       case round =>
        obtain ⟨wt, rfl⟩ : ∃ wt, wt = wr := ⟨_, rfl⟩
        obtain ⟨q, hq, rfl, rfl, hq0⟩ := hrel
        have hqs := hq0.size
        by_cases hlq : q < un
        ·have hlq2 : (q : Int) < (un : Int) := by omega
         obtain ⟨tb, tz, rfl, _, htb, htr⟩ := hu3 (by omega)
         obtain ⟨x, cs, g0, g1, g2, g3⟩ := htr q hlq
         obtain ⟨rfl, bx⟩ := g3
         have q1 : wt.cell? ⟨tb, tz + q * 2, none⟩ = some (.int .i64 x.fKind) := qad hq0 (qad hk0 (hEw.out _ _ _ htb (g2 0 _ rfl) w1 hB1))
         have q2 : wt.cell? ⟨tb, tz + q * 2 + 1, none⟩ = some (.string x.fName) := qad hq0 (qad hk0 (hEw.out _ _ _ htb (g2 1 _ rfl) w1 hB1))
         have hxk : tagOkD x = true := HFU.out x (List.mem_of_getElem? g0)
         have w1z := tgT_len hxk
         have w2z := cat1 (tagText x.fKind x.fName)
         have w4z : (A2 ++ tx (tgsB (f.fStack.take q))).size ≤ 110 := by
          rw [ByteArray.size_append, tx_size]
          have h8 := tgsB_len (ts := f.fStack.take q) fun t ht => HFU.out t (List.mem_of_mem_take ht)
          have h9 : (f.fStack.take q).length ≤ 5 := by rw [List.length_take]; omega
          omega
         have NT := qhd (tgs_step A2 g0)
         have CT : ∀ W, Calls Tryz.prog 68 #[.agg #[.int .i64 x.fKind, .string x.fName]] W fun e w' => e = .returned (.string (tagText x.fKind x.fName)) ∧ Below W.heap.size W w' := fun W => I_TagText _ _ _ bx
         clear g0 g1 g2 htr
         go_wp2_with fail
         refine (CT _).mono ?_
         rintro _ w2 ⟨rfl, d2⟩
         have d2s := (d2).size; (try simp only [qsz] at d2s)
         have hk1 : Below ws.heap.size ws w2 := (hq0.trans ((Below.refl _ _).alloc hqs _)).trans (d2.mono (by simp; omega))
         go_wp2
         go_roundw
         case measure => simp [intOf]; omega
         case rel => exact ⟨q + 1, by omega, by rw [NT.out], by go_num, hk1⟩
        ·obtain rfl : q = un := by omega
         have LT : A2 ++ tx (tgsB (f.fStack.take q)) = lineT (mapW f) := by
          rw [List.take_of_length_le (by rw [HUN.out]; exact Nat.le_refl _), HA2.out, HA.out]
          exact map_text f
         rw [LT]
         have HTT : Hid (TOwn 1 rStr 9 (w.heap.size + 1) (w.heap.size + 1) wt (.slice va vn vc) (lineT (mthW m) :: (m.fMaps.take i).map (fun f => lineT (mapW f)))) := qhd ((HT1.out.below qak hk0).below qak hq0)
         have hBT : Below (w.heap.size + 1) wE wt := (hB1.trans (hk0.mono (by omega))).trans (hq0.mono (by omega))
         clear LT hk0 hq0 y2 x1 x2
         go_wp2_with (at_builtin; refine qam (B := w.heap.size + 1) (lo := w.heap.size + 1) (R := rStr) (E := NoT) (xs := lineT (mthW m) :: (m.fMaps.take i).map (fun f => lineT (mapW f))) (ys := [lineT (mapW f)]) (css := [[.string (lineT (mapW f))]]) (by rfl) (.tmp 88) (.tmp 90) 28 (by rfl) sty_Str qak (fun h => h) rStr_one (by rfl) (by rfl) (HTT.out.below qak ((Below.refl _ _).alloc (Nat.le_refl _) _)) (Src.new (k := 1) (cs := [.string (lineT (mapW f))])) (Rows.one rfl ⟨rfl, by unfold maxLen; omega⟩) (by simp only [List.length_cons, List.length_map, List.length_take, List.length_nil]; omega) (Nat.le_refl _) (by simp; omega) ?_)
         intro v9 wG htG hbG hgG hkG hatG
         have hBG : Below (w.heap.size + 1) wE wG := (hBT.trans ((Below.refl _ _).alloc (by omega) _)).trans hbG
         have HTG : Hid (TOwn 1 rStr 9 (w.heap.size + 1) (w.heap.size + 1) wG v9 (lineT (mthW m) :: (m.fMaps.take (i + 1)).map (fun f => lineT (mapW f)))) := qhd (by rw [NX.out]; simpa using htG)
         clear hbG hgG hkG hatG htG
         go_wp2
         go_roundw
         case measure => simp [intOf]; omega
         case rel => exact ⟨i + 1, _, by omega, rfl, by go_num, HTG.out, hBG⟩
    ·obtain rfl : i = ml := by omega
     have RV : Hid (m.fMaps.take i = m.fMaps) := qhd (List.take_of_length_le (by rw [HML.out]; exact Nat.le_refl _))
     have HT2 := HT.out
     rw [RV.out] at HT2
     have r6 : wr.cell? ⟨w.heap.size, 6, none⟩ = some (.slice ka kl kc) := qat hb (by omega) c6
     have l0 : w.heap.size < wr.heap.size := block_lt_of_cell r6
     clear HT RV
     go_wp2_with fail
     go_loopw [6, 96] (fun ov zi wr => ∃ (j : Nat) (v : Value), j ≤ kl ∧ ov = v ∧ zi = .int .i64 j ∧ TOwn 1 rStr 9 (w.heap.size + 1) (w.heap.size + 1) wr v ((lineT (mthW m) :: m.fMaps.map (fun f => lineT (mapW f))) ++ (m.fCode.take j).map (fun x => lineT (insW x))) ∧ Below (w.heap.size + 1) wE wr) (fun _ zi _ => kl - (intOf zi).toNat)
     case atStart => exact ⟨0, _, Nat.zero_le _, rfl, rfl, by simpa using HT2, hb⟩
     case round =>
      clear HT2 hb hbs r6 l0
      obtain ⟨j, v, hj, rfl, rfl, ht, hb⟩ := hrel
      obtain ⟨va, vn, vc, rfl⟩ := ht.sl.form3
      have HT := qhd ht
      clear ht
      have hbs := hb.size
      by_cases hlt : j < kl
      ·have hlt2 : (j : Int) < (kl : Int) := by omega
       obtain ⟨b, off, rfl, hlo, hbl, hr⟩ := hk3 (by omega)
       obtain ⟨x, cs, g0, g1, g2, g3⟩ := hr j hlt
       obtain ⟨rfl, bx1, bx2⟩ := g3
       have q1 : wr.cell? ⟨b, off + j * 4, none⟩ = some (.int .i64 x.fOp) := hEw.out _ _ _ hbl (g2 0 _ rfl) wr hb
       have q2 : wr.cell? ⟨b, off + j * 4 + 1, none⟩ = some (.int .i64 x.fA) := hEw.out _ _ _ hbl (g2 1 _ rfl) wr hb
       have q3 : wr.cell? ⟨b, off + j * 4 + 2, none⟩ = some (.string x.fName) := hEw.out _ _ _ hbl (g2 2 _ rfl) wr hb
       have q4 : wr.cell? ⟨b, off + j * 4 + 3, none⟩ = some (.string x.fMember) := hEw.out _ _ _ hbl (g2 3 _ rfl) wr hb
       have hok := HM.out.code x (List.mem_of_getElem? g0)
       have IT : Hid (tx (insTxt x.fOp x.fA x.fName x.fMember) = lineT (insW x)) := qhd (ins_text2 hok)
       have z1 : (lineT (insW x)).size ≤ 18 := by rw [← IT.out, ← insText_txt, tx_size]; exact insText_lenR
       have NX : Hid ((m.fCode.take (j + 1)).map (fun x => lineT (insW x)) = (m.fCode.take j).map (fun x => lineT (insW x)) ++ [lineT (insW x)]) := qhd (map_next (fun x => lineT (insW x)) g0)
       have CI : ∀ W, Below (w.heap.size + 1) wE W → Calls Tryz.prog 69 #[.agg #[.int .i64 x.fOp, .int .i64 x.fA, .string x.fName, .string x.fMember]] W fun e w' => e = .returned (.string (lineT (insW x))) ∧ Below W.heap.size W w' := fun W hW => by
        rw [← IT.out]; exact I_InsText _ _ _ _ W bx1 bx2 (TBE.out.below (hW.mono (by omega)))
       have hlr : b < wr.heap.size := by omega
       clear g0 g1 g2 hr hok
       go_wp2_with fail
       refine (CI _ (hb.trans ((Below.refl _ _).alloc (by omega) _))).mono ?_
       rintro _ w1 ⟨rfl, d1⟩
       have d1s := (d1).size; (try simp only [qsz] at d1s)
       have hb1 : Below (w.heap.size + 1) wE w1 := (hb.trans ((Below.refl _ _).alloc (by omega) _)).trans (d1.mono (by simp; omega))
       have HT1 : Hid (TOwn 1 rStr 9 (w.heap.size + 1) (w.heap.size + 1) w1 (.slice va vn vc) ((lineT (mthW m) :: m.fMaps.map (fun f => lineT (mapW f))) ++ (m.fCode.take j).map (fun x => lineT (insW x)))) := qhd ((HT.out.below qak ((Below.refl _ _).alloc (Nat.le_refl _) _)).below qak d1)
       clear CI d1 q1 q2 q3 q4
       go_wp2_with (at_builtin; refine qam (B := w.heap.size + 1) (lo := w.heap.size + 1) (R := rStr) (E := NoT) (xs := (lineT (mthW m) :: m.fMaps.map (fun f => lineT (mapW f))) ++ (m.fCode.take j).map (fun x => lineT (insW x))) (ys := [lineT (insW x)]) (css := [[.string (lineT (insW x))]]) (by rfl) (.tmp 100) (.tmp 103) 28 (by rfl) sty_Str qak (fun h => h) rStr_one (by rfl) (by rfl) (HT1.out.below qak ((Below.refl _ _).alloc (Nat.le_refl _) _)) (Src.new (k := 1) (cs := [.string (lineT (insW x))])) (Rows.one rfl ⟨rfl, by unfold maxLen; omega⟩) (by simp only [List.length_append, List.length_cons, List.length_map, List.length_take, List.length_nil]; have := HML.out; omega) (Nat.le_refl _) (by simp; omega) ?_)
       intro v9 wG htG hbG hgG hkG hatG
       have hBG : Below (w.heap.size + 1) wE wG := (hb1.trans ((Below.refl _ _).alloc (by omega) _)).trans hbG
       have HTG : Hid (TOwn 1 rStr 9 (w.heap.size + 1) (w.heap.size + 1) wG v9 ((lineT (mthW m) :: m.fMaps.map (fun f => lineT (mapW f))) ++ (m.fCode.take (j + 1)).map (fun x => lineT (insW x)))) := qhd (by rw [NX.out]; simpa using htG)
       clear hbG hgG hkG hatG htG
       go_wp2
       go_roundw
       case measure => simp [intOf]; omega
       case rel => exact ⟨j + 1, _, by omega, rfl, by go_num, HTG.out, hBG⟩
      ·obtain rfl : j = kl := by omega
       have RV : Hid ((lineT (mthW m) :: m.fMaps.map (fun f => lineT (mapW f))) ++ (m.fCode.take j).map (fun x => lineT (insW x)) = (mthWs m).map lineT) := qhd (by
        rw [List.take_of_length_le (by rw [HKL.out]; exact Nat.le_refl _)]
        simp [mthWs, List.map_map, Function.comp_def])
       have HT2 := HT.out
       rw [RV.out] at HT2
       have HE := qhd (hEb.out _ hb)
       go_wp2
       all_goals (try go_returns)
       all_goals exact HR.out _ _ ⟨⟨_, rfl, HT2⟩, HE.out⟩

theorem SrcL {k : Nat} {e : TypeId} {css : List (List Value)} (w : World) (cs : Array Value) (hc : cs = css.flatten.toArray) (n : Nat) (hn : n = css.length) (b : Nat) (hb : b = w.heap.size) : Src k (w.alloc (.cells cs e)) (.slice (some ⟨b, 0, none⟩) n n) css := by
 subst hn; subst hb
 refine Or.inr ⟨⟨w.heap.size, 0, none⟩, _, rfl, fun j u hj => ?_⟩
 rw [Addr.add_mid, Nat.zero_add, World.cell?_alloc_at (hn := rfl), hc]
 simpa using hj
def qfF (ov : Value) (E : Nat) (f : DClsField)  : Nat → Value → World → Prop
 | 0, v, w => v = ov
 | 1, v, w => v = .pointer (some ⟨E, 0, none⟩)
 | 2, v, w => v = .string f.fName
 | 3, v, w => v = .string (⟨#[102, 105, 101, 108, 100, 32]⟩ ++ f.fName)
 | 4, v, w => v = .string (⟨#[102, 105, 101, 108, 100, 32]⟩ ++ f.fName ++ ⟨#[32]⟩)
 | 5, v, w => v = .pointer (some ⟨E, 1, none⟩)
 | 6, v, w => v = .agg #[.int .i64 f.fKind.fKind, .string f.fKind.fName]
 | 7, v, w => v = .string (kndText f.fKind.fKind f.fKind.fName)
 | 8, v, w => v = .string (lineT (fldW f))
 | 9, v, w => Src 1 w v [[.string (lineT (fldW f))]]
 | _, _, _ => True
theorem qfF_stays {ov : Value} {E : Nat} {f : DClsField}  : ∀ i j u w w', i ≠ j → Below w.heap.size w w' → qfF ov E f i u w → qfF ov E f i u w' := by
 intro i j u w w' hne hg h
 match i with
 | 0 | 1 | 2 | 3 | 4 | 5 | 6 | 7 | 8 => exact h
 | 9 =>
   exact Src.kept (k := 1) h hg
 | n + 10 => trivial
def qaF (ov : Value) (E : Nat) (f : DLodAsk)  : Nat → Value → World → Prop
 | 0, v, w => v = ov
 | 1, v, w => v = .pointer (some ⟨E, 0, none⟩)
 | 2, v, w => v = .string f.fName
 | 3, v, w => v = .string (⟨#[97, 115, 107, 115, 32]⟩ ++ f.fName)
 | 4, v, w => v = .string (⟨#[97, 115, 107, 115, 32]⟩ ++ f.fName ++ ⟨#[32]⟩)
 | 5, v, w => v = .pointer (some ⟨E, 1, none⟩)
 | 6, v, w => v = .int .i64 f.fKeeper
 | 7, v, w => v = .string (tx (numText f.fKeeper))
 | 8, v, w => v = .string (lineT (askW f))
 | 9, v, w => Src 1 w v [[.string (lineT (askW f))]]
 | _, _, _ => True
theorem qaF_stays {ov : Value} {E : Nat} {f : DLodAsk}  : ∀ i j u w w', i ≠ j → Below w.heap.size w w' → qaF ov E f i u w → qaF ov E f i u w' := by
 intro i j u w w' hne hg h
 match i with
 | 0 | 1 | 2 | 3 | 4 | 5 | 6 | 7 | 8 => exact h
 | 9 =>
   exact Src.kept (k := 1) h hg
 | n + 10 => trivial

theorem I_printClass (x : DClsClass) (v1 v2 : Value) (w : World) (s1 : Sl 3 rClsField 0 w v1 x.fFields) (s2 : Sl 8 rClsMethod 0 w v2 x.fMethods) (b1 : x.fName.size ≤ maxLen) (b2 : x.fSuper.size ≤ maxLen) (hx : ClsP x) (htab : Tab w) :
  Calls Tryz.prog 20 #[.agg #[.string x.fName, .string x.fSuper, v1, v2]] w fun e w' => (∃ v, e = .returned v ∧ TOwn 1 rStr 9 (w.heap.size + 1) (w.heap.size + 1) w' v ((clsWs x).map lineT)) ∧ Below w.heap.size w w' := by
 obtain ⟨fa, fl, fc, rfl, hl, h1, h2, h3⟩ := id s1
 obtain ⟨ma, ml, mc, rfl, hml, hm1, hm2, hm3⟩ := id s2
 have m1 : fl ≤ 9223372036854775807 := by unfold maxLen at h2; omega
 have m2 : ml ≤ 9223372036854775807 := by unfold maxLen at hm2; omega
 have hl3 : fl ≤ 3 := by have := hx.flen; omega
 have hl4 : ml ≤ 4 := by have := hx.mlen; omega
 have HL := qhd hl
 have HML := qhd hml
 have HX := qhd hx
 have TB := qhd htab
 have e6 := namOk_six hx.nm
 have e5 := sup_len hx.sup
 have e4 := cls_size hx
 have e2 : (⟨#[32]⟩ : ByteArray).size = 1 := rfl
 have e1 : (⟨#[99, 108, 97, 115, 115, 32]⟩ : ByteArray).size = 6 := rfl
 have e0 : (⟨#[102, 105, 101, 108, 100, 32]⟩ : ByteArray).size = 6 := rfl
 have CT := qhd (cls_text x)
 clear h2 hl h1 hm2 hml hm1 hx htab
 refine qab fun R HR => ?_
 go_enter Tryz.func20, Tryz.ntmps20
 go_upto_if 12 with fail
 obtain ⟨wE, hwE⟩ : ∃ wE, wE = w.alloc (.cells #[.string x.fName, .string x.fSuper, .slice fa fl fc, .slice ma ml mc] 37) := ⟨_, rfl⟩
 rw [← hwE]
 have hBE : Below w.heap.size w wE := by rw [hwE]; exact bbel
 have hsE : wE.heap.size = w.heap.size + 1 := by rw [hwE]; simp
 have c0 : wE.cell? ⟨w.heap.size, 0, none⟩ = some (.string x.fName) := by rw [hwE]; go_simp
 have c2 : wE.cell? ⟨w.heap.size, 2, none⟩ = some (.slice fa fl fc) := by rw [hwE]; go_simp
 have c3 : wE.cell? ⟨w.heap.size, 3, none⟩ = some (.slice ma ml mc) := by rw [hwE]; go_simp
 clear hwE
 have hEw : Hid (∀ (g o : Nat) (u : Value), g < w.heap.size → w.cell? ⟨g, o, none⟩ = some u → ∀ W, Below (w.heap.size + 1) wE W → W.cell? ⟨g, o, none⟩ = some u) := qhd fun g o u hg hu W hW => qat hW (by omega) (qat hBE hg hu)
 have hEb : Hid (∀ W, Below (w.heap.size + 1) wE W → Below w.heap.size w W) := qhd fun W hW => hBE.trans (hW.mono (by omega))
 have TBE : Hid (Tab wE) := qhd (TB.out.below hBE)
 have l00 : w.heap.size < wE.heap.size := by omega
 go_cut [3] from 9 to 12 (fun sv wx => sv = .string (tx (supW x.fSuper)) ∧ wx = wE)
 case first =>
  cases he : x.fSuper.toList.isEmpty
  ·have RV : Hid (tx (supW x.fSuper) = x.fSuper) := qhd (by unfold supW; rw [he]; exact txBy _)
   go_wp2_with fail
   all_goals first
    | (go_meet
       case rel => exact ⟨by rw [RV.out], rfl⟩)
    | (exfalso; simp_all; done)
  ·have RV : Hid (tx (supW x.fSuper) = ⟨#[45]⟩) := qhd (by unfold supW; rw [he]; rfl)
   go_wp2_with fail
   all_goals first
    | (go_meet
       case rel => exact ⟨by rw [RV.out], rfl⟩)
    | (exfalso; simp_all; done)
 case rest =>
  obtain ⟨rfl, rfl⟩ := hcut
  obtain ⟨wE, rfl⟩ : ∃ W, W = wc := ⟨_, rfl⟩
  go_wp2_with fail
  rw [CT.out]
  obtain ⟨wA, hwA⟩ : ∃ wA, wA = wE.alloc (.cells #[.string (lineT (clsW x))] 9) := ⟨_, rfl⟩
  first | rw [← hwA] | skip
  have hbA : Below (w.heap.size + 1) wE wA := by rw [hwA]; exact (Below.refl _ _).alloc (by omega) _
  have hTA : TOwn 1 rStr 9 (w.heap.size + 1) (w.heap.size + 1) wA (.slice (some ⟨wE.heap.size, 0, none⟩) 1 1) [lineT (clsW x)] := by
   rw [hwA]; exact TOwn.one (w.heap.size + 1) wE [.string (lineT (clsW x))] _ (by omega) rfl ⟨rfl, by unfold maxLen; omega⟩
  try rw [hsE] at hTA
  clear hwA
  go_loopw [4, 23] (fun ov zi wr => ∃ (i : Nat) (v : Value), i ≤ fl ∧ ov = v ∧ zi = .int .i64 i ∧ TOwn 1 rStr 9 (w.heap.size + 1) (w.heap.size + 1) wr v (lineT (clsW x) :: (x.fFields.take i).map (fun f => lineT (fldW f))) ∧ Below (w.heap.size + 1) wE wr) (fun _ zi _ => fl - (intOf zi).toNat)
  case atStart => exact ⟨0, _, Nat.zero_le _, rfl, rfl, hTA, hbA⟩
  case round =>
   clear hTA hbA
   obtain ⟨i, v, hi, rfl, rfl, ht, hb⟩ := hrel
   obtain ⟨va, vn, vc, rfl⟩ := ht.sl.form3
   have HT := qhd ht
   clear ht
   have hbs := hb.size
   by_cases hlt : i < fl
   ·have hlt2 : (i : Int) < (fl : Int) := by omega
    obtain ⟨b, off, rfl, hlo, hbl, hr⟩ := h3 (by omega)
    obtain ⟨f, cs, g0, g1, g2, g3⟩ := hr i hlt
    obtain ⟨rfl, by1, bk⟩ := g3
    have q1 : wr.cell? ⟨b, off + i * 3, none⟩ = some (.string f.fName) := hEw.out _ _ _ hbl (g2 0 _ rfl) wr hb
    have q2 : wr.cell? ⟨b, off + i * 3 + 1, none⟩ = some (.int .i64 f.fKind.fKind) := hEw.out _ _ _ hbl (g2 1 _ rfl) wr hb
    have q3 : wr.cell? ⟨b, off + i * 3 + 2, none⟩ = some (.string f.fKind.fName) := hEw.out _ _ _ hbl (g2 2 _ rfl) wr hb
    have hfo := HX.out.flds f (List.mem_of_getElem? g0)
    have z1 := namOk_six hfo.1
    have z2 := kt_len hfo.2
    have z3 := fld_size hfo
    have NX := qhd (map_next (fun f => lineT (fldW f)) g0)
    have hlr : b < wr.heap.size := by omega
    clear g0 g1 g2 hr hfo
    go_wp2_with fail
    obtain ⟨wF0, hwF⟩ : ∃ W, W = wr.alloc (.cells #[.string f.fName, .int .i64 f.fKind.fKind, .string f.fKind.fName] 69) := ⟨_, rfl⟩
    rw [← hwF]
    have hbF : Below (w.heap.size + 1) wE wF0 := by rw [hwF]; exact hb.trans ((Below.refl _ _).alloc (by omega) _)
    have HTF := qhd (HT.out.below qak (w' := wF0) (by rw [hwF]; exact (Below.refl _ _).alloc (Nat.le_refl _) _))
    obtain ⟨E, hE⟩ : ∃ E, E = wr.heap.size := ⟨_, rfl⟩
    have x0 : wF0.cell? ⟨E, 0, none⟩ = some (.string f.fName) := by rw [hwF, hE]; go_simp
    have x1 : wF0.cell? ⟨E, 1, none⟩ = some (.int .i64 f.fKind.fKind) := by rw [hwF, hE]; go_simp
    have x2 : wF0.cell? ⟨E, 2, none⟩ = some (.string f.fKind.fName) := by rw [hwF, hE]; go_simp
    have lE : E < wF0.heap.size := block_lt_of_cell x0
    have hsz0 := hbF.size
    rw [← hE]
    clear hwF q1 q2 q3 hE
    refine wp_region_relyE 10 (Below wF0.heap.size wF0) (fun _ w1 w2 => Below w1.heap.size w1 w2) (fun _ => qfF (.slice va vn vc) E f) (fun _ _ => True) noDeadP (by kernel_rfl) (by decide) (by kernel_rfl) (Or.inr ⟨by kernel_rfl, by kernel_rfl⟩) (by kernel_rfl) ((Below.refl _ _).drew) (fun _ _ _ _ _ _ _ _ _ h => h) noDeadP_dead (fun _ => trivial) (fun _ _ _ _ _ _ _ _ => trivial) (fun _ i j u w1 w2 hne _ _ hg hF => qfF_stays i j u w1 w2 hne hg hF) (fun _ _ _ => Below.refl _ _) ?_
    refine qac (d := 27) rfl rfl (fun wx hC hI hd S0 hS => ?_) (fun v0 => ?_)
    ·have HSS := qhd hS; clear hS hd hI
     go_simp
     exact HSS.out _ _ hC (Below.refl _ _) (by simp [qfF])
    simp only [qnr]
    refine qac (d := 28) rfl rfl (fun wx hC hI hd S0 hS => ?_) (fun v1 => ?_)
    ·have HSS := qhd hS; clear hS hd hI
     go_simp
     exact HSS.out _ _ hC (Below.refl _ _) (by simp [qfF])
    simp only [qnr]
    refine qac (d := 29) rfl rfl (fun wx hC hI hd S0 hS => ?_) (fun v2 => ?_)
    ·have d1 := hd ⟨1, .data⟩ (by simp) rfl v1 (by simp)
     simp only [qfF] at d1
     subst d1
     have c1 := qad hC x0
     have HSS := qhd hS; clear hS hd hI
     go_simp
     exact HSS.out _ _ hC (Below.refl _ _) (by simp [qfF])
    simp only [qnr]
    refine qac (d := 30) rfl rfl (fun wx hC hI hd S0 hS => ?_) (fun v3 => ?_)
    ·have d2 := hd ⟨2, .data⟩ (by simp) rfl v2 (by simp)
     simp only [qfF] at d2
     subst d2
     have HSS := qhd hS; clear hS hd hI
     have h9 := addS (⟨#[102, 105, 101, 108, 100, 32]⟩) (f.fName) (by (try simp only [ByteArray.size_append]); omega) wx
     refine wp_binS rfl (by rfl) (by rfl) (by rfl) h9 ⟨put_defers' _ _ _, ?_⟩
     rw [qae (by simp)]
     exact HSS.out _ _ hC (Below.refl _ _) (by (simp only [qls, Nat.reduceAdd, qfF]))
    simp only [qnr]
    refine qac (d := 31) rfl rfl (fun wx hC hI hd S0 hS => ?_) (fun v4 => ?_)
    ·have d3 := hd ⟨3, .data⟩ (by simp) rfl v3 (by simp)
     simp only [qfF] at d3
     subst d3
     have HSS := qhd hS; clear hS hd hI
     have h9 := addS (⟨#[102, 105, 101, 108, 100, 32]⟩ ++ f.fName) (⟨#[32]⟩) (by (try simp only [ByteArray.size_append]); omega) wx
     refine wp_binS rfl (by rfl) (by rfl) (by rfl) h9 ⟨put_defers' _ _ _, ?_⟩
     rw [qae (by simp)]
     exact HSS.out _ _ hC (Below.refl _ _) (by (simp only [qls, Nat.reduceAdd, qfF]))
    simp only [qnr]
    refine qac (d := 32) rfl rfl (fun wx hC hI hd S0 hS => ?_) (fun v5 => ?_)
    ·have HSS := qhd hS; clear hS hd hI
     go_simp
     exact HSS.out _ _ hC (Below.refl _ _) (by simp [qfF])
    simp only [qnr]
    refine qac (d := 33) rfl rfl (fun wx hC hI hd S0 hS => ?_) (fun v6 => ?_)
    ·have d5 := hd ⟨5, .data⟩ (by simp) rfl v5 (by simp)
     simp only [qfF] at d5
     subst d5
     have c1 := qad hC x1; have c2 := qad hC x2
     have HSS := qhd hS; clear hS hd hI
     go_simp
     exact HSS.out _ _ hC (Below.refl _ _) (by simp [qfF])
    simp only [qnr]
    refine qac (d := 34) rfl rfl (fun wx hC hI hd S0 hS => ?_) (fun v7 => ?_)
    ·have d6 := hd ⟨6, .data⟩ (by simp) rfl v6 (by simp)
     simp only [qfF] at d6
     subst d6
     have HSS := qhd hS; clear hS hd hI
     go_simp
     refine (I_KndText _ _ _ bk).mono ?_
     rintro _ w' ⟨rfl, hX⟩
     exact HSS.out _ _ (hC.trans (hX.mono hC.size)) hX (by simp [qfF])
    simp only [qnr]
    refine qac (d := 35) rfl rfl (fun wx hC hI hd S0 hS => ?_) (fun v8 => ?_)
    ·have d4 := hd ⟨4, .data⟩ (by simp) rfl v4 (by simp)
     simp only [qfF] at d4
     subst d4
     have d7 := hd ⟨7, .data⟩ (by simp) rfl v7 (by simp)
     simp only [qfF] at d7
     subst d7
     have HSS := qhd hS; clear hS hd hI
     have h9 := addS (⟨#[102, 105, 101, 108, 100, 32]⟩ ++ f.fName ++ ⟨#[32]⟩) (kndText f.fKind.fKind f.fKind.fName) (by (try simp only [ByteArray.size_append]); omega) wx
     refine wp_binS rfl (by rfl) (by rfl) (by rfl) h9 ⟨put_defers' _ _ _, ?_⟩
     rw [qae (by simp)]
     exact HSS.out _ _ hC (Below.refl _ _) (by (simp only [qls, Nat.reduceAdd, qfF]); exact congrArg Value.string (fld_text f))
    simp only [qnr]
    refine qac (d := 36) rfl rfl (fun wx hC hI hd S0 hS => ?_) (fun v9 => ?_)
    ·have d8 := hd ⟨8, .data⟩ (by simp) rfl v8 (by simp)
     simp only [qfF] at d8
     subst d8
     have HSS := qhd hS; clear hS hd hI
     have h9 := run_one1 sty_Str (.string (lineT (fldW f))) rfl wx
     refine wp_buildOne rfl rfl h9 ⟨put_defers' _ _ _, ?_⟩
     rw [qae (by simp)]
     refine HSS.out _ _ (hC.trans (((Below.refl _ _).alloc (Nat.le_refl _) _).mono hC.size)) ((Below.refl _ _).alloc (Nat.le_refl _) _) ?_
     (simp only [qls, Nat.reduceAdd, qfF])
     exact Src.new (k := 1) (cs := [.string (lineT (fldW f))])
    simp only [qnr]
    intro wF hC hF
    have g0 := hF 0 v0 (by simp) (fun _ _ => rfl)
    have g9 := hF 9 v9 (by simp) (fun _ _ => rfl)
    simp only [qfF] at g0 g9
    subst g0
    have hsF := hC.size
    have hwz : w.heap.size + 1 ≤ wF.heap.size := by omega
    have hvv := HTF.out.below qak hC
    clear hF
    simp only [List.drop_succ_cons, List.drop_zero]
    refine qam (B := w.heap.size + 1) (lo := w.heap.size + 1) (R := rStr) (E := NoT) (xs := lineT (clsW x) :: (x.fFields.take i).map (fun f => lineT (fldW f))) (ys := [lineT (fldW f)]) (css := [[.string (lineT (fldW f))]]) (by rfl) (.tmp 27) (.tmp 36) 28 (by rfl) sty_Str qak (fun h => h) rStr_one (by rfl) (by rfl) (hvv) (g9) (Rows.one rfl ⟨rfl, by unfold maxLen; omega⟩) (by have := hlt; simp only [List.length_append, List.length_cons, List.length_map, List.length_take, List.length_nil]; omega) (Nat.le_refl _) (hwz) ?_
    intro v9 wG htG hbG hgG hkG hatG
    have hBG : Below (w.heap.size + 1) wE wG := (hbF.trans (hC.mono (by omega))).trans hbG
    rw [List.cons_append, ← NX.out] at htG
    clear hC hbG hgG hkG hatG hvv g9 x0 x1 x2
    go_wp2
    go_roundw
    case measure => simp [intOf]; omega
    case rel => exact ⟨i + 1, _, by omega, rfl, by go_num, htG, hBG⟩
   ·obtain rfl : i = fl := by omega
    have RV : Hid (x.fFields.take i = x.fFields) := qhd (List.take_of_length_le (by rw [HL.out]; exact Nat.le_refl _))
    have HT2 := HT.out
    rw [RV.out] at HT2
    have r3 : wr.cell? ⟨w.heap.size, 3, none⟩ = some (.slice ma ml mc) := qat hb (by omega) c3
    have l0 : w.heap.size < wr.heap.size := block_lt_of_cell r3
    clear HT RV
    go_wp2_with fail
    go_loopw [4, 42] (fun ov zi wr => ∃ (j : Nat) (v : Value) (xs : List ByteArray), j ≤ ml ∧ ov = v ∧ zi = .int .i64 j ∧ TOwn 1 rStr 9 (w.heap.size + 1) (w.heap.size + 1) wr v xs ∧ Hid (xs = (lineT (clsW x) :: x.fFields.map (fun f => lineT (fldW f))) ++ ((x.fMethods.take j).flatMap mthWs).map lineT) ∧ xs.length ≤ 4 + 22 * j ∧ Below (w.heap.size + 1) wE wr) (fun _ zi _ => ml - (intOf zi).toNat)
    case atStart => exact ⟨0, _, _, Nat.zero_le _, rfl, rfl, HT2, qhd (by simp), by have := HL.out; simp; omega, hb⟩
    case round =>
     clear HT2 hb hbs r3 l0
     obtain ⟨j, v, xs, hj, rfl, rfl, ht, hxs, hxl, hb⟩ := hrel
     obtain ⟨va, vn, vc, rfl⟩ := ht.sl.form3
     have HT := qhd ht
     clear ht
     have hbs := hb.size
     by_cases hlt : j < ml
     ·have hlt2 : (j : Int) < (ml : Int) := by omega
      obtain ⟨b, off, rfl, hlo, hbl, hr⟩ := hm3 (by omega)
      obtain ⟨m, cs, g0, g1, g2, g3⟩ := hr j hlt
      obtain ⟨u1, u2, u3, rfl, t1, t2, t3, bx1, bx2⟩ := g3
      obtain ⟨a1, n1, k1, rfl⟩ := t1.form
      obtain ⟨a2, n2, k2, rfl⟩ := t2.form
      obtain ⟨a3, n3, k3, rfl⟩ := t3.form
      have q0 : wr.cell? ⟨b, off + j * 8, none⟩ = some (.string m.fName) := hEw.out _ _ _ hbl (g2 0 _ rfl) wr hb
      have q1 : wr.cell? ⟨b, off + j * 8 + 1, none⟩ = some (.slice a1 n1 k1) := hEw.out _ _ _ hbl (g2 1 _ rfl) wr hb
      have q2 : wr.cell? ⟨b, off + j * 8 + 2, none⟩ = some (.int .i64 m.fRet.fKind) := hEw.out _ _ _ hbl (g2 2 _ rfl) wr hb
      have q3 : wr.cell? ⟨b, off + j * 8 + 3, none⟩ = some (.string m.fRet.fName) := hEw.out _ _ _ hbl (g2 3 _ rfl) wr hb
      have q4 : wr.cell? ⟨b, off + j * 8 + 4, none⟩ = some (.int .i64 m.fLocals) := hEw.out _ _ _ hbl (g2 4 _ rfl) wr hb
      have q5 : wr.cell? ⟨b, off + j * 8 + 5, none⟩ = some (.int .i64 m.fStack) := hEw.out _ _ _ hbl (g2 5 _ rfl) wr hb
      have q6 : wr.cell? ⟨b, off + j * 8 + 6, none⟩ = some (.slice a2 n2 k2) := hEw.out _ _ _ hbl (g2 6 _ rfl) wr hb
      have q7 : wr.cell? ⟨b, off + j * 8 + 7, none⟩ = some (.slice a3 n3 k3) := hEw.out _ _ _ hbl (g2 7 _ rfl) wr hb
      have hmp := mth_parts (HX.out.mths m (List.mem_of_getElem? g0))
      have hml22 := mthWs_len hmp
      have CM : ∀ W, Below (w.heap.size + 1) wE W → Calls Tryz.prog 43 #[.agg #[.string m.fName, .slice a1 n1 k1, .int .i64 m.fRet.fKind, .string m.fRet.fName, .int .i64 m.fLocals, .int .i64 m.fStack, .slice a2 n2 k2, .slice a3 n3 k3]] W fun e w' => (∃ v, e = .returned v ∧ TOwn 1 rStr 9 (W.heap.size + 1) (W.heap.size + 1) w' v ((mthWs m).map lineT)) ∧ Below W.heap.size W w' := fun W hW =>
       I_printMethod m _ _ _ W (t1.stays qar (Keeps.of_below (hEb.out _ hW))) (t2.stays qau (Keeps.of_below (hEb.out _ hW))) (t3.stays qas (Keeps.of_below (hEb.out _ hW))) bx1 bx2 hmp (TBE.out.below (hW.mono (by omega)))
      have NX : Hid (((x.fMethods.take (j + 1)).flatMap mthWs).map lineT = ((x.fMethods.take j).flatMap mthWs).map lineT ++ (mthWs m).map lineT) := qhd (by rw [flat_next mthWs g0, List.map_append])
      have hlr : b < wr.heap.size := by omega
      clear g0 g1 g2 hr hmp t1 t2 t3
      go_wp2_with fail
      refine (CM _ (hb.trans ((Below.refl _ _).alloc (by omega) _))).mono ?_
      rintro _ w1 ⟨⟨v8, rfl, h8⟩, d1⟩
      obtain ⟨css, hsrc, hrows⟩ := h8.sl.src
      have d1s := (d1).size; (try simp only [qsz] at d1s)
      have hb1 : Below (w.heap.size + 1) wE w1 := (hb.trans ((Below.refl _ _).alloc (by omega) _)).trans (d1.mono (by simp; omega))
      have HT1 := qhd ((HT.out.below qak ((Below.refl _ _).alloc (Nat.le_refl _) (.cells #[.string m.fName, .slice a1 n1 k1, .int .i64 m.fRet.fKind, .string m.fRet.fName, .int .i64 m.fLocals, .int .i64 m.fStack, .slice a2 n2 k2, .slice a3 n3 k3] 65))).below qak d1)
      have HSRC := qhd hsrc
      have HROWS := qhd hrows
      clear CM d1 h8 hsrc hrows q0 q1 q2 q3 q4 q5 q6 q7
      go_wp2_with (at_builtin; refine qam (B := w.heap.size + 1) (lo := w.heap.size + 1) (R := rStr) (E := NoT) (xs := xs) (ys := (mthWs m).map lineT) (css := css) (by rfl) (.tmp 46) (.tmp 48) 28 (by rfl) sty_Str qak (fun h => h) rStr_one (by rfl) (by rfl) (HT1.out) (HSRC.out) (HROWS.out.mono fun cs x h => h) (by rw [List.length_map]; omega) (Nat.le_refl _) (by omega) ?_)
      intro v9 wG htG hbG hgG hkG hatG
      have hBG : Below (w.heap.size + 1) wE wG := hb1.trans hbG
      have HXS : Hid (xs ++ (mthWs m).map lineT = (lineT (clsW x) :: x.fFields.map (fun f => lineT (fldW f))) ++ ((x.fMethods.take (j + 1)).flatMap mthWs).map lineT) := qhd (by rw [NX.out, hxs.out, List.append_assoc])
      have hxl2 : (xs ++ (mthWs m).map lineT).length ≤ 4 + 22 * (j + 1) := by rw [List.length_append, List.length_map]; omega
      have HTG := qhd htG
      clear hbG hgG hkG hatG htG
      go_wp2
      go_roundw
      case measure => simp [intOf]; omega
      case rel => exact ⟨j + 1, _, _, by omega, rfl, by go_num, HTG.out, HXS, hxl2, hBG⟩
     ·obtain rfl : j = ml := by omega
      have RV : Hid (xs = (clsWs x).map lineT) := qhd (by
       rw [hxs.out, List.take_of_length_le (by rw [HML.out]; exact Nat.le_refl _)]
       simp [clsWs, List.map_map, Function.comp_def])
      have HT2 := HT.out
      rw [RV.out] at HT2
      have HE := qhd (hEb.out _ hb)
      go_wp2
      all_goals (try go_returns)
      all_goals exact HR.out _ _ ⟨⟨_, rfl, HT2⟩, HE.out⟩


theorem I_LodPrint (p : DLodPlan) (v1 : Value) (w : World) (s1 : Sl 2 rLodKeeper 0 w v1 p.fKeepers) (htab : Tab w) :
  Calls Tryz.prog 7 #[.agg #[v1]] w fun e w' => (∃ v, e = .returned v ∧ TOwn 1 rStr 9 (w.heap.size + 1) (w.heap.size + 1) w' v (planLines p)) ∧ Below w.heap.size w w' := by
 obtain ⟨a, len, cap, rfl, hl, h1, h2, h3⟩ := id s1
 have m1 : len ≤ 9223372036854775807 := by unfold maxLen at h2; omega
 have HL := qhd hl
 have HS := qhd s1
 have TB := qhd htab
 clear h2 hl h1 htab
 refine qab fun R HR => ?_
 go_enter Tryz.func7, Tryz.ntmps7
 go_wp2_with fail
 obtain ⟨wE, hwE⟩ : ∃ wE, wE = w.alloc (.cells #[.slice a len cap] 25) := ⟨_, rfl⟩
 rw [← hwE]
 have hBE : Below w.heap.size w wE := by rw [hwE]; exact bbel
 have hsE : wE.heap.size = w.heap.size + 1 := by rw [hwE]; simp
 have c0 : wE.cell? ⟨w.heap.size, 0, none⟩ = some (.slice a len cap) := by rw [hwE]; go_simp
 clear hwE
 refine (I_LodOk p _ _ (HS.out.stays rLodKeeper_good (Keeps.of_below hBE))).mono ?_
 rintro _ w1 ⟨rfl, hb1⟩
 have hs1 := hb1.size
 have c1 := qad hb1 c0
 have hB1 : Below w.heap.size w w1 := hBE.trans (hb1.mono hBE.size)
 have hlw1 : w.heap.size < w1.heap.size := by omega
 clear c0 hb1
 cases hok : lodOk p
 ·have RV : Hid (planLines p = []) := qhd (by unfold planLines; rw [hok]; rfl)
  clear hok
  go_wp2
  all_goals (try go_returns)
  all_goals exact HR.out _ _ ⟨⟨_, rfl, by rw [RV.out]; exact TOwn.nil⟩, hB1⟩
 have RVL : Hid (planLines p = (planWs p).map lineT) := qhd (by unfold planLines; rw [hok]; rfl)
 obtain ⟨hn3, hks⟩ := plan_len hok
 have hlen3 : len ≤ 3 := by have := HL.out; omega
 have HKS := qhd hks
 have HN3 := qhd hn3
 have hEw : Hid (∀ (g o : Nat) (u : Value), g < w.heap.size → w.cell? ⟨g, o, none⟩ = some u → ∀ W, Below (w.heap.size + 1) w1 W → W.cell? ⟨g, o, none⟩ = some u) := qhd fun g o u hg hu W hW => qat hW (by omega) (qat hB1 hg hu)
 have hEb : Hid (∀ W, Below (w.heap.size + 1) w1 W → Below w.heap.size w W) := qhd fun W hW => hB1.trans (hW.mono (by omega))
 clear hok hks hn3
 go_wp2_with fail
 go_loopw [3, 16] (fun ov zi wr => ∃ (i : Nat) (v : Value) (xs : List ByteArray), i ≤ len ∧ ov = v ∧ zi = .int .i64 i ∧ TOwn 1 rStr 9 (w.heap.size + 1) (w.heap.size + 1) wr v xs ∧ Hid (xs = ((p.fKeepers.take i).flatMap kprWs).map lineT) ∧ xs.length ≤ 500 * i ∧ Below (w.heap.size + 1) w1 wr) (fun _ zi _ => len - (intOf zi).toNat)
 case atStart => exact ⟨0, _, [], Nat.zero_le _, rfl, rfl, TOwn.nil, qhd rfl, by simp, Below.refl _ _⟩
 case round =>
  obtain ⟨i, v, xs, hi, rfl, rfl, ht, hxs, hxl, hb⟩ := hrel
  obtain ⟨va, vn, vc, rfl⟩ := ht.sl.form3
  have HT := qhd ht
  clear ht
  have hbs := hb.size
  by_cases hlt : i < len
  ·have hlt2 : (i : Int) < (len : Int) := by omega
   obtain ⟨b, off, rfl, hlo, hbl, hr⟩ := h3 (by omega)
   obtain ⟨k, cs, e0, e1, e2, e3⟩ := hr i hlt
   obtain ⟨x1, x2, rfl, t1, t2⟩ := e3
   have HKP : Hid (KprP p.fKeepers.length k) := qhd (HKS.out k (List.mem_of_getElem? e0))
   obtain ⟨oa, ol, oc, rfl, hol, ho1, ho2, ho3⟩ := id t1
   obtain ⟨aa, al, ac, rfl, hal, ha1, ha2, ha3⟩ := id t2
   have mo : ol ≤ 9223372036854775807 := by unfold maxLen at ho2; omega
   have ma : al ≤ 9223372036854775807 := by unfold maxLen at ha2; omega
   have ho5 : ol ≤ 5 := by have := HKP.out.olen; omega
   have ha4 : al ≤ 4 := by have := HKP.out.alen; omega
   have HOL := qhd hol
   have HAL := qhd hal
   have q0 : wr.cell? ⟨b, off + i * 2, none⟩ = some (.slice oa ol oc) := hEw.out _ _ _ hbl (e2 0 _ rfl) wr hb
   have q1 : wr.cell? ⟨b, off + i * 2 + 1, none⟩ = some (.slice aa al ac) := hEw.out _ _ _ hbl (e2 1 _ rfl) wr hb
   have hlr : b < wr.heap.size := by omega
   have NXK : Hid (((p.fKeepers.take (i + 1)).flatMap kprWs).map lineT = xs ++ (kprWs k).map lineT) := qhd (by rw [flat_next kprWs e0, List.map_append, hxs.out])
   clear e0 e1 e2 hr t1 t2 hol hal ho1 ho2 ha1 ha2
   obtain ⟨E, hE⟩ : ∃ E, E = wr.heap.size := ⟨_, rfl⟩
   have hap : ∀ g, (Value.slice va vn vc).ownBlock = some g → g ≠ E := fun g hg => by
    have h8 := HT.out.lt g hg
    omega
   have hwE' : w.heap.size + 1 ≤ E := by omega
   have HAP := qhd hap
   clear hap
   go_wp2_with (at_builtin; refine qam (B := w.heap.size + 1) (lo := w.heap.size + 1) (R := rStr) (E := NoT) (xs := xs) (ys := [lineT [wKeeper]]) (css := [[.string (lineT [wKeeper])]]) (by rfl) (.tmp 20) (.tmp 21) 28 (by rfl) sty_Str qak (fun h => h) rStr_one (by rfl) (by rfl) ((HT.out.below qak ((Below.refl _ _).alloc (Nat.le_refl _) _)).below qak ((Below.refl _ _).alloc (Nat.le_refl _) _)) (SrcL (k := 1) (e := 9) (css := [[.string (lineT [wKeeper])]]) (wr.alloc (.cells #[.slice oa ol oc, .slice aa al ac] 45)) #[.string (lineT [wKeeper])] rfl 1 rfl (wr.heap.size + 1) (by simp)) (Rows.one rfl ⟨rfl, by decide⟩) (by simp only [List.length_cons, List.length_nil]; omega) (Nat.le_refl _) (by simp; omega) ?_)
   intro v9 wG htG hbG hgG hkG hatG
   have hsG := hgG.size
   simp only [World.size_alloc] at hsG
   have hBG : Below (w.heap.size + 1) w1 wG := (hb.trans (((Below.refl _ _).alloc (by omega) _).alloc (by simp; omega) _)).trans hbG
   have k0 : wG.cell? ⟨E, 0, none⟩ = some (.slice oa ol oc) := by
    rw [qag (hgG.block E (by rw [hE]; simp; omega) (fun e => HAP.out E e.symm rfl)), hE]; go_simp
   have k1 : wG.cell? ⟨E, 1, none⟩ = some (.slice aa al ac) := by
    rw [qag (hgG.block E (by rw [hE]; simp; omega) (fun e => HAP.out E e.symm rfl)), hE]; go_simp
   have lEE : Hid (E + 1 ≤ wr.heap.size + 1) := qhd (by omega)
   have hap2 : ∀ g, v9.ownBlock = some g → g ≠ E := fun g hg => by
    rcases hatG g hg with h8 | h8
    ·exact HAP.out g h8
    ·(try simp only [World.size_alloc] at h8)
     intro e9
     subst e9
     have := lEE.out
     omega
   have HTG := qhd htG
   have lE : E < wG.heap.size := block_lt_of_cell k0
   rw [← hE]
   have HAP2 := qhd hap2
   clear hbG hgG hkG hatG htG HT hE q0 q1 HAP hap2
   go_wp2_with fail
   go_loopw [3, 26] (fun ov zj wr => ∃ (j : Nat) (v : Value), j ≤ al ∧ ov = v ∧ zj = .int .i64 j ∧ TOwn 1 rStr 9 (w.heap.size + 1) (w.heap.size + 1) wr v ((xs ++ [lineT [wKeeper]]) ++ (k.fAsks.take j).map (fun f => lineT (askW f))) ∧ (∀ g, v.ownBlock = some g → g ≠ E) ∧ wr.cell? ⟨E, 0, none⟩ = some (.slice oa ol oc) ∧ Below (w.heap.size + 1) w1 wr) (fun _ zj _ => al - (intOf zj).toNat)
   case atStart => exact ⟨0, _, Nat.zero_le _, rfl, rfl, by simpa using HTG.out, HAP2.out, k0, hBG⟩
   case round =>
    clear HTG hBG hb hbs k0 k1 lE HAP2 hlr
    obtain ⟨j, v, hj, rfl, rfl, ht, hap, k0, hb⟩ := hrel
    obtain ⟨va, vn, vc, rfl⟩ := ht.sl.form3
    have HT := qhd ht
    have HAP := qhd hap
    clear ht hap
    have hbs := hb.size
    have lE : E < wr.heap.size := block_lt_of_cell k0
    by_cases hlj : j < al
    ·have hlj2 : (j : Int) < (al : Int) := by omega
     obtain ⟨ab, ao, rfl, _, habl, har⟩ := ha3 (by omega)
     obtain ⟨f, cs, g0, g1, g2, g3⟩ := har j hlj
     obtain ⟨rfl, bf⟩ := g3
     have p1 : wr.cell? ⟨ab, ao + j * 2, none⟩ = some (.string f.fName) := hEw.out _ _ _ habl (g2 0 _ rfl) wr hb
     have p2 : wr.cell? ⟨ab, ao + j * 2 + 1, none⟩ = some (.int .i64 f.fKeeper) := hEw.out _ _ _ habl (g2 1 _ rfl) wr hb
     have hfo := HKP.out.asks f (List.mem_of_getElem? g0)
     have hak : 0 ≤ f.fKeeper ∧ f.fKeeper ≤ 9999 := by have := HN3.out; omega
     have z1 := namOk_six hfo.1
     have z2 := num_size (n := f.fKeeper) (by omega)
     have z3 := ask_size HN3.out hfo
     have z4 : (⟨#[97, 115, 107, 115, 32]⟩ : ByteArray).size = 5 := rfl
     have z5 : (⟨#[32]⟩ : ByteArray).size = 1 := rfl
     have NX := qhd (map_next (fun f => lineT (askW f)) g0)
     have hlb : ab < wr.heap.size := by omega
     clear g0 g1 g2 har hfo
     have K0 := qhd k0
     clear k0
     go_wp2_with fail
     obtain ⟨wF0, hwF⟩ : ∃ W, W = wr.alloc (.cells #[.string f.fName, .int .i64 f.fKeeper] 51) := ⟨_, rfl⟩
     rw [← hwF]
     have hab : Below wr.heap.size wr wF0 := by rw [hwF]; exact (Below.refl _ _).alloc (Nat.le_refl _) _
     have hbF : Below (w.heap.size + 1) w1 wF0 := hb.trans (hab.mono (by omega))
     have HTF := qhd (HT.out.below qak hab)
     have KF := qhd (qad hab K0.out)
     obtain ⟨E, hE⟩ : ∃ E, E = wr.heap.size := ⟨_, rfl⟩
     have x0 : wF0.cell? ⟨E, 0, none⟩ = some (.string f.fName) := by rw [hwF, hE]; go_simp
     have x1 : wF0.cell? ⟨E, 1, none⟩ = some (.int .i64 f.fKeeper) := by rw [hwF, hE]; go_simp
     have lE2 : E < wF0.heap.size := block_lt_of_cell x0
     have hsz0 := hbF.size
     have CIT : ∀ W, Below wF0.heap.size wF0 W → Calls Tryz.prog 19 #[.int .i64 f.fKeeper] W fun e w' => e = .returned (.string (tx (numText f.fKeeper))) ∧ Below W.heap.size W w' := fun W hW => P_Itoa _ _ hak ((TB.out.below (hEb.out _ hbF)).below hW)
     rw [← hE]
     clear hwF p1 p2 hE
     refine wp_region_relyE 10 (Below wF0.heap.size wF0) (fun _ w1 w2 => Below w1.heap.size w1 w2) (fun _ => qaF (.slice va vn vc) E f) (fun _ _ => True) noDeadP (by kernel_rfl) (by decide) (by kernel_rfl) (Or.inr ⟨by kernel_rfl, by kernel_rfl⟩) (by kernel_rfl) ((Below.refl _ _).drew) (fun _ _ _ _ _ _ _ _ _ h => h) noDeadP_dead (fun _ => trivial) (fun _ _ _ _ _ _ _ _ => trivial) (fun _ i j u w1 w2 hne _ _ hg hF => qaF_stays i j u w1 w2 hne hg hF) (fun _ _ _ => Below.refl _ _) ?_
     refine qac (d := 30) rfl rfl (fun wx hC hI hd S0 hS => ?_) (fun v0 => ?_)
     ·have HSS := qhd hS; clear hS hd hI
      go_simp
      exact HSS.out _ _ hC (Below.refl _ _) (by simp [qaF])
     simp only [qnr]
     refine qac (d := 31) rfl rfl (fun wx hC hI hd S0 hS => ?_) (fun v1 => ?_)
     ·have HSS := qhd hS; clear hS hd hI
      go_simp
      exact HSS.out _ _ hC (Below.refl _ _) (by simp [qaF])
     simp only [qnr]
     refine qac (d := 32) rfl rfl (fun wx hC hI hd S0 hS => ?_) (fun v2 => ?_)
     ·have d1 := hd ⟨1, .data⟩ (by simp) rfl v1 (by simp)
      simp only [qaF] at d1
      subst d1
      have c1 := qad hC x0
      have HSS := qhd hS; clear hS hd hI
      go_simp
      exact HSS.out _ _ hC (Below.refl _ _) (by simp [qaF])
     simp only [qnr]
     refine qac (d := 33) rfl rfl (fun wx hC hI hd S0 hS => ?_) (fun v3 => ?_)
     ·have d2 := hd ⟨2, .data⟩ (by simp) rfl v2 (by simp)
      simp only [qaF] at d2
      subst d2
      have HSS := qhd hS; clear hS hd hI
      have h9 := addS (⟨#[97, 115, 107, 115, 32]⟩) (f.fName) (by (try simp only [ByteArray.size_append]); omega) wx
      refine wp_binS rfl (by rfl) (by rfl) (by rfl) h9 ⟨put_defers' _ _ _, ?_⟩
      rw [qae (by simp)]
      exact HSS.out _ _ hC (Below.refl _ _) (by (simp only [qls, Nat.reduceAdd, qaF]))
     simp only [qnr]
     refine qac (d := 34) rfl rfl (fun wx hC hI hd S0 hS => ?_) (fun v4 => ?_)
     ·have d3 := hd ⟨3, .data⟩ (by simp) rfl v3 (by simp)
      simp only [qaF] at d3
      subst d3
      have HSS := qhd hS; clear hS hd hI
      have h9 := addS (⟨#[97, 115, 107, 115, 32]⟩ ++ f.fName) (⟨#[32]⟩) (by (try simp only [ByteArray.size_append]); omega) wx
      refine wp_binS rfl (by rfl) (by rfl) (by rfl) h9 ⟨put_defers' _ _ _, ?_⟩
      rw [qae (by simp)]
      exact HSS.out _ _ hC (Below.refl _ _) (by (simp only [qls, Nat.reduceAdd, qaF]))
     simp only [qnr]
     refine qac (d := 35) rfl rfl (fun wx hC hI hd S0 hS => ?_) (fun v5 => ?_)
     ·have HSS := qhd hS; clear hS hd hI
      go_simp
      exact HSS.out _ _ hC (Below.refl _ _) (by simp [qaF])
     simp only [qnr]
     refine qac (d := 36) rfl rfl (fun wx hC hI hd S0 hS => ?_) (fun v6 => ?_)
     ·have d5 := hd ⟨5, .data⟩ (by simp) rfl v5 (by simp)
      simp only [qaF] at d5
      subst d5
      have c1 := qad hC x1
      have HSS := qhd hS; clear hS hd hI
      go_simp
      exact HSS.out _ _ hC (Below.refl _ _) (by simp [qaF])
     simp only [qnr]
     refine qac (d := 37) rfl rfl (fun wx hC hI hd S0 hS => ?_) (fun v7 => ?_)
     ·have d6 := hd ⟨6, .data⟩ (by simp) rfl v6 (by simp)
      simp only [qaF] at d6
      subst d6
      have HSS := qhd hS; clear hS hd hI
      go_simp
      refine (CIT _ hC).mono ?_
      rintro _ w' ⟨rfl, hX⟩
      exact HSS.out _ _ (hC.trans (hX.mono hC.size)) hX (by simp [qaF])
     simp only [qnr]
     refine qac (d := 38) rfl rfl (fun wx hC hI hd S0 hS => ?_) (fun v8 => ?_)
     ·have d4 := hd ⟨4, .data⟩ (by simp) rfl v4 (by simp)
      simp only [qaF] at d4
      subst d4
      have d7 := hd ⟨7, .data⟩ (by simp) rfl v7 (by simp)
      simp only [qaF] at d7
      subst d7
      have HSS := qhd hS; clear hS hd hI
      have h9 := addS (⟨#[97, 115, 107, 115, 32]⟩ ++ f.fName ++ ⟨#[32]⟩) (tx (numText f.fKeeper)) (by (try simp only [ByteArray.size_append]); omega) wx
      refine wp_binS rfl (by rfl) (by rfl) (by rfl) h9 ⟨put_defers' _ _ _, ?_⟩
      rw [qae (by simp)]
      exact HSS.out _ _ hC (Below.refl _ _) (by (simp only [qls, Nat.reduceAdd, qaF]); exact congrArg Value.string (ask_text f))
     simp only [qnr]
     refine qac (d := 39) rfl rfl (fun wx hC hI hd S0 hS => ?_) (fun v9 => ?_)
     ·have d8 := hd ⟨8, .data⟩ (by simp) rfl v8 (by simp)
      simp only [qaF] at d8
      subst d8
      have HSS := qhd hS; clear hS hd hI
      have h9 := run_one1 sty_Str (.string (lineT (askW f))) rfl wx
      refine wp_buildOne rfl rfl h9 ⟨put_defers' _ _ _, ?_⟩
      rw [qae (by simp)]
      refine HSS.out _ _ (hC.trans (((Below.refl _ _).alloc (Nat.le_refl _) _).mono hC.size)) ((Below.refl _ _).alloc (Nat.le_refl _) _) ?_
      (simp only [qls, Nat.reduceAdd, qaF])
      exact Src.new (k := 1) (cs := [.string (lineT (askW f))])
     simp only [qnr]
     intro wF hC hF
     have g0 := hF 0 v0 (by simp) (fun _ _ => rfl)
     have g9 := hF 9 v9 (by simp) (fun _ _ => rfl)
     simp only [qaF] at g0 g9
     subst g0
     have hsF := hC.size
     have hwz : w.heap.size + 1 ≤ wF.heap.size := by omega
     have hvv := HTF.out.below qak hC
     have KG := qhd (qad hC KF.out)
     clear hF
     simp only [List.drop_succ_cons, List.drop_zero]
     refine qam (B := w.heap.size + 1) (lo := w.heap.size + 1) (R := rStr) (E := NoT) (xs := (xs ++ [lineT [wKeeper]]) ++ (k.fAsks.take j).map (fun f => lineT (askW f))) (ys := [lineT (askW f)]) (css := [[.string (lineT (askW f))]]) (by rfl) (.tmp 30) (.tmp 39) 28 (by rfl) sty_Str qak (fun h => h) rStr_one (by rfl) (by rfl) (hvv) (g9) (Rows.one rfl ⟨rfl, by unfold maxLen; omega⟩) (by have := hxl; simp only [List.length_append, List.length_cons, List.length_map, List.length_take, List.length_nil]; omega) (Nat.le_refl _) (hwz) ?_
     intro v9 wG htG hbG hgG hkG hatG
     have hBG : Below (w.heap.size + 1) w1 wG := (hbF.trans (hC.mono (by omega))).trans hbG
     have kG := qag (o := 0) (hgG.block _ (block_lt_of_cell KG.out) (fun e => HAP.out _ e.symm rfl))
     rw [KG.out] at kG
     have HAP2 : Hid (∀ g, v9.ownBlock = some g → g ≠ _) := qhd (fun g hg => by
      rcases hatG g hg with h8 | h8
      ·exact HAP.out g h8
      ·have := block_lt_of_cell KG.out
       exact fun e => absurd h8 (by rw [e]; exact Nat.not_le.2 this))
     have KGG := qhd kG
     have HTG : Hid (TOwn 1 rStr 9 (w.heap.size + 1) (w.heap.size + 1) wG v9 ((xs ++ [lineT [wKeeper]]) ++ (k.fAsks.take (j + 1)).map (fun f => lineT (askW f)))) := qhd (by rw [NX.out]; simpa using htG)
     clear hC hbG hgG hkG hatG hvv g9 htG CIT x0 x1 kG
     go_wp2
     go_roundw
     case measure => simp [intOf]; omega
     case rel => exact ⟨j + 1, _, by omega, rfl, by go_num, HTG.out, HAP2.out, KGG.out, hBG⟩
    ·obtain rfl : j = al := by omega
     have RV : Hid (k.fAsks.take j = k.fAsks) := qhd (List.take_of_length_le (by rw [HAL.out]; exact Nat.le_refl _))
     have HT2 := HT.out
     rw [RV.out] at HT2
     have hal9 : k.fAsks.length ≤ 4 := by have := HAL.out; omega
     clear HT RV
     go_wp2_with fail
     go_loopw [3, 45] (fun ov zj wr => ∃ (q : Nat) (v : Value) (ys : List ByteArray), q ≤ ol ∧ ov = v ∧ zj = .int .i64 q ∧ TOwn 1 rStr 9 (w.heap.size + 1) (w.heap.size + 1) wr v ys ∧ Hid (ys = (xs ++ [lineT [wKeeper]]) ++ k.fAsks.map (fun f => lineT (askW f)) ++ ((k.fOwns.take q).flatMap clsWs).map lineT) ∧ ys.length ≤ 500 * i + 5 + 92 * q ∧ Below (w.heap.size + 1) w1 wr) (fun _ zj _ => ol - (intOf zj).toNat)
     case atStart => exact ⟨0, _, _, Nat.zero_le _, rfl, rfl, HT2, qhd (by simp), by simp; omega, hb⟩
     case round =>
      clear HT2 hb hbs k0 lE HAP
      obtain ⟨q, v, ys, hq, rfl, rfl, ht, hys, hyl, hb⟩ := hrel
      obtain ⟨va, vn, vc, rfl⟩ := ht.sl.form3
      have HT := qhd ht
      clear ht
      have hbs := hb.size
      by_cases hlq : q < ol
      ·have hlq2 : (q : Int) < (ol : Int) := by omega
       obtain ⟨ob, oo, rfl, _, hobl, hor⟩ := ho3 (by omega)
       obtain ⟨y, cs, g0, g1, g2, g3⟩ := hor q hlq
       obtain ⟨u1, u2, rfl, d1, d2, bx1, bx2⟩ := g3
       obtain ⟨a1, n1, k1, rfl⟩ := d1.form
       obtain ⟨a2, n2, k2, rfl⟩ := d2.form
       have p1 : wr.cell? ⟨ob, oo + q * 4, none⟩ = some (.string y.fName) := hEw.out _ _ _ hobl (g2 0 _ rfl) wr hb
       have p2 : wr.cell? ⟨ob, oo + q * 4 + 1, none⟩ = some (.string y.fSuper) := hEw.out _ _ _ hobl (g2 1 _ rfl) wr hb
       have p3 : wr.cell? ⟨ob, oo + q * 4 + 2, none⟩ = some (.slice a1 n1 k1) := hEw.out _ _ _ hobl (g2 2 _ rfl) wr hb
       have p4 : wr.cell? ⟨ob, oo + q * 4 + 3, none⟩ = some (.slice a2 n2 k2) := hEw.out _ _ _ hobl (g2 3 _ rfl) wr hb
       have hcp := cls_parts (HKP.out.owns y (List.mem_of_getElem? g0))
       have hcl := clsWs_len hcp
       have CC : ∀ W, Below (w.heap.size + 1) w1 W → Calls Tryz.prog 20 #[.agg #[.string y.fName, .string y.fSuper, .slice a1 n1 k1, .slice a2 n2 k2]] W fun e w' => (∃ v, e = .returned v ∧ TOwn 1 rStr 9 (W.heap.size + 1) (W.heap.size + 1) w' v ((clsWs y).map lineT)) ∧ Below W.heap.size W w' := fun W hW =>
        I_printClass y _ _ W (d1.stays qap (Keeps.of_below (hEb.out _ hW))) (d2.stays rClsMethod_good (Keeps.of_below (hEb.out _ hW))) bx1 bx2 hcp (TB.out.below (hEb.out _ hW))
       have NX : Hid (((k.fOwns.take (q + 1)).flatMap clsWs).map lineT = ((k.fOwns.take q).flatMap clsWs).map lineT ++ (clsWs y).map lineT) := qhd (by rw [flat_next clsWs g0, List.map_append])
       have hlb : ob < wr.heap.size := by omega
       clear g0 g1 g2 hor hcp d1 d2
       go_wp2_with fail
       refine (CC _ (hb.trans ((Below.refl _ _).alloc (by omega) _))).mono ?_
       rintro _ wc ⟨⟨v8, rfl, h8⟩, d1⟩
       obtain ⟨css, hsrc, hrows⟩ := h8.sl.src
       have d1s := (d1).size; (try simp only [qsz] at d1s)
       have hbc : Below (w.heap.size + 1) w1 wc := (hb.trans ((Below.refl _ _).alloc (by omega) _)).trans (d1.mono (by simp; omega))
       have HT1 := qhd ((HT.out.below qak ((Below.refl _ _).alloc (Nat.le_refl _) (.cells #[.string y.fName, .string y.fSuper, .slice a1 n1 k1, .slice a2 n2 k2] 37))).below qak d1)
       have HSRC := qhd hsrc
       have HROWS := qhd hrows
       clear CC d1 h8 hsrc hrows p1 p2 p3 p4
       go_wp2_with (at_builtin; refine qam (B := w.heap.size + 1) (lo := w.heap.size + 1) (R := rStr) (E := NoT) (xs := ys) (ys := (clsWs y).map lineT) (css := css) (by rfl) (.tmp 49) (.tmp 51) 28 (by rfl) sty_Str qak (fun h => h) rStr_one (by rfl) (by rfl) (HT1.out) (HSRC.out) (HROWS.out.mono fun cs x h => h) (by rw [List.length_map]; omega) (Nat.le_refl _) (by omega) ?_)
       intro v9 wG htG hbG hgG hkG hatG
       have hBG : Below (w.heap.size + 1) w1 wG := hbc.trans hbG
       have HXS : Hid (ys ++ (clsWs y).map lineT = (xs ++ [lineT [wKeeper]]) ++ k.fAsks.map (fun f => lineT (askW f)) ++ ((k.fOwns.take (q + 1)).flatMap clsWs).map lineT) := qhd (by rw [NX.out, hys.out]; simp only [List.append_assoc])
       have hxl2 : (ys ++ (clsWs y).map lineT).length ≤ 500 * i + 5 + 92 * (q + 1) := by rw [List.length_append, List.length_map]; omega
       have HTG := qhd htG
       clear hbG hgG hkG hatG htG
       go_wp2
       go_roundw
       case measure => simp [intOf]; omega
       case rel => exact ⟨q + 1, _, _, by omega, rfl, by go_num, HTG.out, HXS, hxl2, hBG⟩
      ·obtain rfl : q = ol := by omega
       have RV : Hid (ys = ((p.fKeepers.take (i + 1)).flatMap kprWs).map lineT) := qhd (by
        rw [hys.out, NXK.out, List.take_of_length_le (by rw [HOL.out]; exact Nat.le_refl _)]
        simp [kprWs, List.map_map, Function.comp_def])
       go_wp2
       go_roundw
       case measure => simp [intOf]; omega
       case rel => exact ⟨i + 1, _, ys, by omega, rfl, by go_num, HT.out, RV, by omega, hb⟩
  ·obtain rfl : i = len := by omega
   have RV : Hid (xs = planLines p) := qhd (by
    rw [hxs.out, RVL.out, List.take_of_length_le (by rw [HL.out]; exact Nat.le_refl _)]
    rfl)
   have HT2 := HT.out
   rw [RV.out] at HT2
   have HE := qhd (hEb.out _ hb)
   go_wp2
   all_goals (try go_returns)
   all_goals exact HR.out _ _ ⟨⟨_, rfl, HT2⟩, HE.out⟩

end Go.Proofs.YtfbonocadpknbaaGreatDoor
