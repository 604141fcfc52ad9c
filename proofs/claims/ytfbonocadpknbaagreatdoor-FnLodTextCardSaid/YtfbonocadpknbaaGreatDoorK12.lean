/-
  Texts of mine, packed: PrnW, PrnS, PrnT. No condition beside those of the single theorems.
-/
import Derived.Test.YtfbonocadpknbaaGreatDoorK3
import Derived.Test.YtfbonocadpknbaaGreatDoorK5
import Derived.Test.YtfbonocadpknbaaGreatDoorK8
import Derived.Test.YtfbonocadpknbaaGreatDoorK2
import Derived.Test.YtfbonocadpknbaaGreatDoorK10
import Derived.Test.YtfbonocadpknbaaGreatDoorK11
set_option linter.unusedSimpArgs false
set_option linter.unusedVariables false
set_option maxHeartbeats 16000000
set_option maxRecDepth 100000
namespace Go.Proofs.YtfbonocadpknbaaGreatDoor
open Go.RowKit
theorem wp_binS {P : Program} {o : Oper} {a : Act} {w : World} {K : Act → World → Prop} {Q : Exit → Act → World → Prop} {b : BinOp} {T T' : TypeId} {x y : Operand} {s t u : Value} (ho : o.op = .binOp b T x y T') (hx : a.eval x = s) (hy : a.eval y = t) (hg : (eqGuard b T x y s t).run P w = .ok () w) (hr : (binOp b T s t).run P w = .ok u w) (h : K (a.put o.dst u) w) : o.wp P a w K Q := by
 unfold Oper.wp execOp
 simp only [ho, hx, hy, Sem.run_bind, Sem.run_pure, Result.andThen_ok, hg, hr]
 exact h
theorem addS (a b : ByteArray) (h : a.size + b.size ≤ 4000000) (w : World) : (binOp .add 9 (.string a) (.string b)).run Tryz.prog w = .ok (.string (a ++ b)) w :=
 run_string_add_sum w a b (by omega)
theorem by'_app (a b : ByteArray) : by' (a ++ b) = by' a ++ by' b := by unfold by'; rw [ByteArray.data_append]; simp
theorem by'_mk (a : Array UInt8) : by' ⟨a⟩ = a.toList := rfl
def tgsB (ts : List DTagTag) : List UInt8 := (ts.map (fun t => 32 :: tgW t)).flatten
theorem tgsB_next {ts : List DTagTag} {j : Nat} {t : DTagTag} (h : ts[j]? = some t) : tgsB (ts.take (j + 1)) = tgsB (ts.take j) ++ 32 :: tgW t := by
 obtain ⟨hj, he⟩ := List.getElem?_eq_some_iff.1 h
 unfold tgsB
 rw [List.take_succ_eq_append_getElem hj, he]; simp
theorem tg_len {t : DTagTag} (h : tagOkD t = true) : (tgW t).length ≤ 6 := by
 rcases tg_cases h with ⟨_, ⟨_, h1⟩ | ⟨_, h1⟩ | ⟨_, h1⟩⟩ | ⟨_, h2, h1⟩ <;> rw [h1]
 ·simp
 ·simp
 ·simp
 ·rw [bySize]; exact namOk_six h2
theorem tgsB_len : ∀ {ts : List DTagTag}, (∀ t ∈ ts, tagOkD t = true) → (tgsB ts).length ≤ 7 * ts.length
 | [], _ => by simp [tgsB]
 | t :: r, h => by
   have h1 := tg_len (h t (by simp))
   have h2 := tgsB_len (ts := r) (fun x hx => h x (List.mem_cons_of_mem _ hx))
   unfold tgsB at h2 ⊢
   simp only [List.map_cons, List.flatten_cons, List.length_append, List.length_cons] at h2 ⊢
   omega
theorem kt_len {k : DKndKind} (h : kndOkD k = true) : (kndText k.fKind k.fName).size ≤ 6 := by
 rw [← bySize]
 rcases kt_cases h with ⟨_, h1⟩ | ⟨_, h2, h1⟩
 ·unfold ktW at h1; rw [h1]; simp
 ·unfold ktW at h1; rw [h1, bySize]; exact namOk_six h2
theorem tgT_len {t : DTagTag} (h : tagOkD t = true) : (tagText t.fKind t.fName).size ≤ 6 := by
 rw [← bySize]; exact tg_len h
theorem num_size {n : Int} (h : -9999 ≤ n ∧ n ≤ 9999) : (tx (numText n)).size ≤ 5 := by rw [tx_size]; exact (num_len h).2
def ktsW (ks : List DKndKind) : List (List UInt8) := ks.map ktW
theorem ktsW_next {ks : List DKndKind} {j : Nat} {k : DKndKind} (h : ks[j]? = some k) : ktsW (ks.take (j + 1)) = ktsW (ks.take j) ++ [ktW k] := by
 obtain ⟨hj, he⟩ := List.getElem?_eq_some_iff.1 h
 unfold ktsW
 rw [List.take_succ_eq_append_getElem hj, he]; simp
theorem ktsW_len {ks : List DKndKind} (h : ∀ k ∈ ks, kndOkD k = true) : ((ktsW ks).map (32 :: ·)).flatten.length ≤ 7 * ks.length := by
 induction ks with
 | nil => simp [ktsW]
 | cons k r ih =>
   have h1 := kt_len (h k (by simp))
   have h2 := ih fun x hx => h x (List.mem_cons_of_mem _ hx)
   have h3 : (ktW k).length ≤ 6 := by unfold ktW; rw [bySize]; exact h1
   unfold ktsW at h2 ⊢
   simp only [List.map_cons, List.flatten_cons, List.length_append, List.length_cons] at h2 ⊢
   omega
def mthH (m : DClsMethod) : List (List UInt8) := [wMethod, by' m.fName, numText m.fLocals, numText m.fStack, ktW m.fRet]
theorem mthW_eq (m : DClsMethod) : mthW m = mthH m ++ ktsW m.fArgs := rfl
theorem mthH_ne (m : DClsMethod) (r : List (List UInt8)) : mthH m ++ r ≠ [] := by simp [mthH]
theorem mthH_text (m : DClsMethod) : (⟨#[109, 101, 116, 104, 111, 100, 32]⟩ : ByteArray) ++ m.fName ++ ⟨#[32]⟩ ++ tx (numText m.fLocals) ++ ⟨#[32]⟩ ++ tx (numText m.fStack) ++ ⟨#[32]⟩ ++ kndText m.fRet.fKind m.fRet.fName = tx (joinW (mthH m)) := by
 apply by'_inj
 simp [by'_app, byTx, by'_mk, joinW, mthH, wMethod, ktW]
theorem mthW_step (m : DClsMethod) {ks : List (List UInt8)} (k : DKndKind) : tx (joinW (mthH m ++ ks)) ++ ⟨#[32]⟩ ++ kndText k.fKind k.fName = tx (joinW (mthH m ++ (ks ++ [ktW k]))) := by
 apply by'_inj
 rw [← List.append_assoc, joinW_snoc (mthH_ne m ks)]
 simp [by'_app, byTx, by'_mk, ktW]
theorem mthW_step' (m : DClsMethod) {ks : List (List UInt8)} (k : DKndKind) : tx (joinW (mthH m ++ ks)) ++ (⟨#[32]⟩ ++ kndText k.fKind k.fName) = tx (joinW (mthH m ++ (ks ++ [ktW k]))) := by
 rw [← mthW_step, ByteArray.append_assoc]
theorem mthW_len {m : DClsMethod} (h : MthP m) (j : Nat) : (tx (joinW (mthH m ++ ktsW (m.fArgs.take j)))).size ≤ 60 := by
 rw [tx_size, joinW_app (by simp [mthH]), List.length_append]
 have h1 := ktsW_len (ks := m.fArgs.take j) fun k hk => h.args k (List.mem_of_mem_take hk)
 have h2 : (m.fArgs.take j).length ≤ 3 := by rw [List.length_take]; have := h.alen; omega
 have h3 := namOk_six h.nm
 have hl := h.loc
 have hs := h.stk
 have h4 := (num_len (n := m.fLocals) (by omega)).2
 have h5 := (num_len (n := m.fStack) (by omega)).2
 have h6 := kt_len h.ret
 rw [← bySize] at h3 h6
 simp only [mthH, joinW, List.length_append, List.length_cons, wMethod, List.length_nil, ktW]
 omega
theorem map_text (f : DClsMap) : (⟨#[102, 114, 97, 109, 101, 32]⟩ : ByteArray) ++ tx (numText f.fAt) ++ tx (tgsB f.fLocals) ++ ⟨#[32, 47]⟩ ++ tx (tgsB f.fStack) = lineT (mapW f) := by
 apply by'_inj
 have e1 : mapW f = [wFrame, numText f.fAt] ++ (f.fLocals.map tgW ++ ([47] :: f.fStack.map tgW)) := by unfold mapW; rw [List.append_assoc]
 unfold lineT
 rw [e1, byTx, joinW_app (by simp)]
 simp [by'_app, byTx, by'_mk, joinW, wFrame, tgsB, List.map_map, Function.comp_def]
theorem ask_text (a : DLodAsk) : (⟨#[97, 115, 107, 115, 32]⟩ : ByteArray) ++ a.fName ++ ⟨#[32]⟩ ++ tx (numText a.fKeeper) = lineT (askW a) := by
 apply by'_inj
 simp [by'_app, byTx, by'_mk, joinW, lineT, askW, wAsks]
theorem fld_text (f : DClsField) : (⟨#[102, 105, 101, 108, 100, 32]⟩ : ByteArray) ++ f.fName ++ ⟨#[32]⟩ ++ kndText f.fKind.fKind f.fKind.fName = lineT (fldW f) := by
 apply by'_inj
 simp [by'_app, byTx, by'_mk, joinW, lineT, fldW, wField, ktW]
theorem cls_text (c : DClsClass) : (⟨#[99, 108, 97, 115, 115, 32]⟩ : ByteArray) ++ c.fName ++ ⟨#[32]⟩ ++ tx (supW c.fSuper) = lineT (clsW c) := by
 apply by'_inj
 simp [by'_app, byTx, by'_mk, joinW, lineT, clsW, wClass]
theorem ins_text2 {i : DClsIns} (ok : insOkD i = true) : tx (insTxt i.fOp i.fA i.fName i.fMember) = lineT (insW i) := by
 unfold lineT; rw [← ins_text ok, insText_txt]
theorem sup_len {s : ByteArray} (h : (s.toList.isEmpty || namOk s) = true) : (tx (supW s)).size ≤ 6 := by
 rw [tx_size]
 unfold supW
 split
 ·simp
 ·rename_i h1
  rw [bySize]; exact namOk_six (by simpa [h1] using h)
theorem map_size {m : DClsMethod} (h : MthP m) {f : DClsMap} (hf : f ∈ m.fMaps) : (lineT (mapW f)).size ≤ 120 := by
 obtain ⟨h1, h2, h3, h4, h5⟩ := h.maps f hf
 rw [← map_text]
 have g1 := num_size (n := f.fAt) (by omega)
 have g2 := tgsB_len h2
 have g3 := tgsB_len h3
 have e1 : (⟨#[102, 114, 97, 109, 101, 32]⟩ : ByteArray).size = 6 := rfl
 have e2 : (⟨#[32, 47]⟩ : ByteArray).size = 2 := rfl
 simp only [ByteArray.size_append, tx_size] at g1 ⊢
 omega
theorem TOwn.one {α : Type} {k : Nat} {R : RowRel α} {e : TypeId} (lo : Nat) (w : World) (cs : List Value) (x : α) (hl : lo ≤ w.heap.size) (hc : cs.length = k) (h : R lo (w.alloc (.cells cs.toArray e)) cs x) : TOwn k R e lo lo (w.alloc (.cells cs.toArray e)) (.slice (some ⟨w.heap.size, 0, none⟩) 1 1) [x] := by
 refine ⟨⟨[cs], Rows.one hc h, by simp [hc], Or.inr ⟨w.heap.size, 1, cs.toArray, rfl, hl, (MapKept.heap_alloc w _).1, Nat.le_refl _, by decide, by simp [hc], by simp; rw [← hc]; exact List.take_length⟩⟩, fun b hb => ?_⟩
 simp [Value.ownBlock] at hb; omega

def noDeadP (i j : Nat) : Bool := false
theorem noDeadP_dead {l : List Oper} {n : Nat} : DeadF noDeadP l n := fun _ _ _ _ h => by cases h
theorem P_l1Plain (n : Int) (w : World) (hn : 0 ≤ n ∧ n ≤ 9999) :
  Calls Tryz.prog 21 #[.int .i64 n] w fun e w' => e = .returned (.string (tx (numText n))) ∧ Below w.heap.size w w' := by
 obtain ⟨k, rfl⟩ : ∃ k : Nat, n = (k : Int) := ⟨n.toNat, by omega⟩
 have h1 : numText (k : Int) = Lib.decDigits k := by
  rw [numText_itoa ⟨by omega, by omega⟩, Lib.itoa, if_neg (by omega), Int.toNat_natCast]
 rw [h1]
 exact S_l1Plain k w (by omega)

theorem S_l8Super (s : ByteArray) (w : World) (hs : s.size ≤ maxLen) :
  Calls Tryz.prog 44 #[.string s] w fun e w' => e = .returned (.string (tx (supW s))) ∧ Below w.heap.size w w' := by
 cases h : s.toList.isEmpty
 ·have RV : Hid (tx (supW s) = s) := qhd (by unfold supW; rw [h]; exact txBy s)
  refine qac fun R HR => ?_
  go_enter Tryz.func44, Tryz.ntmps44
  go_wp2
  all_goals (try go_returns)
  all_goals first
   | exact HR.out _ _ ⟨ret_str RV.out.symm, bbel⟩
   | (exfalso; simp_all)
 ·have RV : Hid (tx (supW s) = ⟨#[45]⟩) := qhd (by unfold supW; rw [h]; rfl)
  refine qac fun R HR => ?_
  go_enter Tryz.func44, Tryz.ntmps44
  go_wp2
  all_goals (try go_returns)
  all_goals first
   | exact HR.out _ _ ⟨ret_str RV.out.symm, bbel⟩
   | (exfalso; simp_all)

theorem S_l8Tags (ts : List DTagTag) (v : Value) (w : World) (s1 : Sl 2 rTagTag 0 w v ts) (hl6 : ts.length ≤ 6) (hok : ∀ t ∈ ts, tagOkD t = true) :
  Calls Tryz.prog 70 #[v] w fun e w' => e = .returned (.string (tx (tgsB ts))) ∧ Below w.heap.size w w' := by
 obtain ⟨a, len, cap, rfl, hl, h1, h2, h3⟩ := id s1
 have m1 : len ≤ 9223372036854775807 := by unfold maxLen at h2; omega
 have HL := qhd hl
 have hlen6 : len ≤ 6 := by omega
 clear h2 hl h1
 refine qac fun R HR => ?_
 go_enter Tryz.func70, Tryz.ntmps70
 go_wp2_with fail
 go_loopw [3, 4] (fun ov zi wr => ∃ k : Nat, k ≤ len ∧ ov = .string (tx (tgsB (ts.take k))) ∧ zi = .int .i64 k ∧ Below w.heap.size w wr) (fun _ zi _ => len - (intOf zi).toNat)
 case atStart => exact ⟨0, Nat.zero_le _, rfl, rfl, bbel⟩
 case round =>
  obtain ⟨k, hk, rfl, rfl, hb⟩ := hrel
  have hbs := hb.size
  by_cases hlt : k < len
  ·obtain ⟨b, off, rfl, hlo, hbl, hr⟩ := h3.stays qar (Keeps.of_below hb) (by omega)
   obtain ⟨x, cs, e0, e1, e2, e3⟩ := hr k hlt
   obtain ⟨rfl, b1⟩ := e3
   have q1 : wr.cell? ⟨b, off + k * 2, none⟩ = some (.int .i64 x.fKind) := e2 0 _ rfl
   have q2 : wr.cell? ⟨b, off + k * 2 + 1, none⟩ = some (.string x.fName) := e2 1 _ rfl
   have hx : tagOkD x = true := hok x (List.mem_of_getElem? e0)
   have z1 := tgT_len hx
   have z2 : (tx (tgsB (ts.take k))).size ≤ 42 := by
    rw [tx_size]
    have h8 := tgsB_len (ts := ts.take k) fun t ht => hok t (List.mem_of_mem_take ht)
    have h9 : (ts.take k).length ≤ 6 := by rw [List.length_take]; omega
    omega
   have z3 : (⟨#[32]⟩ : ByteArray).size = 1 := rfl
   have NX : Hid (tx (tgsB (ts.take k)) ++ ⟨#[32]⟩ ++ tagText x.fKind x.fName = tx (tgsB (ts.take (k + 1)))) := qhd (by
    rw [tgsB_next e0]
    apply by'_inj
    simp [by'_app, byTx, by'_mk, tgW])
   clear e0 e1 e2 hr h3
   go_wp2_with fail
   refine (S_TagText _ _ _ b1).mono ?_
   rintro _ w1 ⟨rfl, g1⟩
   have g1s := (g1).size; (try simp only [qsz] at g1s)
   go_wp2
   go_roundw
   case measure => simp [intOf]; omega
   case rel => exact ⟨k + 1, by omega, by rw [NX.out], by go_num, bbel⟩
  ·obtain rfl : k = len := by omega
   have RV : Hid (ts.take k = ts) := qhd (List.take_of_length_le (by rw [HL.out]; exact Nat.le_refl _))
   go_wp2
   all_goals (try go_returns)
   all_goals exact HR.out _ _ ⟨ret_str (by rw [RV.out]), bbel⟩

def pmF (ov : Value) (B g o n c k : Nat) (f : DClsMap) (fa : Option Addr) (fn fc : Nat) (ua : Option Addr) (un uc : Nat)  : Nat → Value → World → Prop
 | 0, v, w => v = ov
 | 1, v, w => v = .pointer (some ⟨B, 7, none⟩)
 | 2, v, w => v = .slice (some ⟨g, o, none⟩) n c
 | 3, v, w => v = .int .i64 (k : Int)
 | 4, v, w => v = .pointer (some ⟨g, o + k * 3, none⟩)
 | 5, v, w => v = .pointer (some ⟨g, o + k * 3, none⟩)
 | 6, v, w => v = .int .i64 f.fAt
 | 7, v, w => v = .string (tx (numText f.fAt))
 | 8, v, w => v = .string (⟨#[102, 114, 97, 109, 101, 32]⟩ ++ tx (numText f.fAt))
 | 9, v, w => v = .pointer (some ⟨B, 7, none⟩)
 | 10, v, w => v = .slice (some ⟨g, o, none⟩) n c
 | 11, v, w => v = .int .i64 (k : Int)
 | 12, v, w => v = .pointer (some ⟨g, o + k * 3, none⟩)
 | 13, v, w => v = .pointer (some ⟨g, o + k * 3 + 1, none⟩)
 | 14, v, w => v = .slice fa fn fc
 | 15, v, w => v = .string (tx (tgsB f.fLocals))
 | 16, v, w => v = .string (⟨#[102, 114, 97, 109, 101, 32]⟩ ++ tx (numText f.fAt) ++ tx (tgsB f.fLocals))
 | 17, v, w => v = .string (⟨#[102, 114, 97, 109, 101, 32]⟩ ++ tx (numText f.fAt) ++ tx (tgsB f.fLocals) ++ ⟨#[32, 47]⟩)
 | 18, v, w => v = .pointer (some ⟨B, 7, none⟩)
 | 19, v, w => v = .slice (some ⟨g, o, none⟩) n c
 | 20, v, w => v = .int .i64 (k : Int)
 | 21, v, w => v = .pointer (some ⟨g, o + k * 3, none⟩)
 | 22, v, w => v = .pointer (some ⟨g, o + k * 3 + 2, none⟩)
 | 23, v, w => v = .slice ua un uc
 | 24, v, w => v = .string (tx (tgsB f.fStack))
 | 25, v, w => v = .string (lineT (mapW f))
 | 26, v, w => Src 1 w v [[.string (lineT (mapW f))]]
 | _, _, _ => True
theorem pmF_stays {ov : Value} {B g o n c k : Nat} {f : DClsMap} {fa : Option Addr} {fn fc : Nat} {ua : Option Addr} {un uc : Nat}  : ∀ i j u w w', i ≠ j → Below w.heap.size w w' → pmF ov B g o n c k f fa fn fc ua un uc i u w → pmF ov B g o n c k f fa fn fc ua un uc i u w' := by
 intro i j u w w' hne hg h
 match i with
 | 0 | 1 | 2 | 3 | 4 | 5 | 6 | 7 | 8 | 9 | 10 | 11 | 12 | 13 | 14 | 15 | 16 | 17 | 18 | 19 | 20 | 21 | 22 | 23 | 24 | 25 => exact h
 | 26 =>
   exact Src.kept (k := 1) h hg
 | n + 27 => trivial

theorem S_l8Method (m : DClsMethod) (v1 v2 v3 : Value) (w : World) (s1 : Sl 2 rKndKind 0 w v1 m.fArgs) (s2 : Sl 4 rClsIns 0 w v2 m.fCode) (s3 : Sl 3 rClsMap 0 w v3 m.fMaps) (b1 : m.fName.size ≤ maxLen) (b2 : m.fRet.fName.size ≤ maxLen) (hm : MthP m) :
  Calls Tryz.prog 46 #[.agg #[.string m.fName, v1, .int .i64 m.fRet.fKind, .string m.fRet.fName, .int .i64 m.fLocals, .int .i64 m.fStack, v2, v3]] w fun e w' => (∃ v, e = .returned v ∧ TOwn 1 rStr 9 (w.heap.size + 1) (w.heap.size + 1) w' v ((mthWs m).map lineT)) ∧ Below w.heap.size w w' := by
 obtain ⟨a, len, cap, rfl, hl, h1, h2, h3⟩ := id s1
 obtain ⟨ka, kl, kc, rfl, hkl, hk1, hk2, hk3⟩ := id s2
 obtain ⟨ma, ml, mc, rfl, hml, hm1, hm2, hm3⟩ := id s3
 have m1 : len ≤ 9223372036854775807 := by unfold maxLen at h2; omega
 have m2 : kl ≤ 9223372036854775807 := by unfold maxLen at hk2; omega
 have m3 : ml ≤ 9223372036854775807 := by unfold maxLen at hm2; omega
 have hl3 : len ≤ 3 := by have := hm.alen; omega
 have hl16 : kl ≤ 16 := by have := hm.clen; omega
 have hl5 : ml ≤ 5 := by have := hm.mlen; omega
 have HL := qhd hl
 have HKL := qhd hkl
 have HML := qhd hml
 have HM := qhd hm
 have nl := hm.loc
 have ns := hm.stk
 have e6 := namOk_six hm.nm
 have e5 := num_size (n := m.fLocals) (by omega)
 have e4 := num_size (n := m.fStack) (by omega)
 have e3 := kt_len hm.ret
 have e2 : (⟨#[32]⟩ : ByteArray).size = 1 := rfl
 have e1 : (⟨#[109, 101, 116, 104, 111, 100, 32]⟩ : ByteArray).size = 7 := rfl
 have H0 := qhd (mthH_text m)
 clear h2 hl h1 hk2 hkl hk1 hm2 hml hm1 hm
 refine qac fun R HR => ?_
 go_enter Tryz.func46, Tryz.ntmps46
 go_wp2_with fail
 obtain ⟨wE, hwE⟩ : ∃ wE, wE = w.alloc (.cells #[.string m.fName, .slice a len cap, .int .i64 m.fRet.fKind, .string m.fRet.fName, .int .i64 m.fLocals, .int .i64 m.fStack, .slice ka kl kc, .slice ma ml mc] 65) := ⟨_, rfl⟩
 rw [← hwE]
 have hBE : Below w.heap.size w wE := by rw [hwE]; exact bbel
 have hsE : wE.heap.size = w.heap.size + 1 := by rw [hwE]; simp
 have c0 : wE.cell? ⟨w.heap.size, 0, none⟩ = some (.string m.fName) := by rw [hwE]; go_simp
 have c1 : wE.cell? ⟨w.heap.size, 1, none⟩ = some (.slice a len cap) := by rw [hwE]; go_simp
 have c2 : wE.cell? ⟨w.heap.size, 2, none⟩ = some (.int .i64 m.fRet.fKind) := by rw [hwE]; go_simp
 have c3 : wE.cell? ⟨w.heap.size, 3, none⟩ = some (.string m.fRet.fName) := by rw [hwE]; go_simp
 have c4 : wE.cell? ⟨w.heap.size, 4, none⟩ = some (.int .i64 m.fLocals) := by rw [hwE]; go_simp
 have c5 : wE.cell? ⟨w.heap.size, 5, none⟩ = some (.int .i64 m.fStack) := by rw [hwE]; go_simp
 have c6 : wE.cell? ⟨w.heap.size, 6, none⟩ = some (.slice ka kl kc) := by rw [hwE]; go_simp
 have c7 : wE.cell? ⟨w.heap.size, 7, none⟩ = some (.slice ma ml mc) := by rw [hwE]; go_simp
 clear hwE
 have hEw : Hid (∀ (g o : Nat) (u : Value), g < w.heap.size → w.cell? ⟨g, o, none⟩ = some u → ∀ W, Below (w.heap.size + 1) wE W → W.cell? ⟨g, o, none⟩ = some u) := qhd fun g o u hg hu W hW => qap hW (by omega) (qap hBE hg hu)
 have hEb : Hid (∀ W, Below (w.heap.size + 1) wE W → Below w.heap.size w W) := qhd fun W hW => hBE.trans (hW.mono (by omega))
 have P0 := In.cell c0
 have P2 := In.cell c2
 have P3 := In.cell c3
 have P4 := In.cell c4
 have P5 := In.cell c5
 have CL : ∀ y : In wE, Calls Tryz.prog 21 #[.int .i64 m.fLocals] y.x fun e w' => e = .returned (.string (tx (numText m.fLocals))) ∧ Below y.x.heap.size y.x w' := fun y => P_l1Plain _ _ (by omega)
 have CS : ∀ y : In wE, Calls Tryz.prog 21 #[.int .i64 m.fStack] y.x fun e w' => e = .returned (.string (tx (numText m.fStack))) ∧ Below y.x.heap.size y.x w' := fun y => P_l1Plain _ _ (by omega)
 have CK : ∀ y : In wE, Calls Tryz.prog 45 #[.agg #[.int .i64 m.fRet.fKind, .string m.fRet.fName]] y.x fun e w' => e = .returned (.string (kndText m.fRet.fKind m.fRet.fName)) ∧ Below y.x.heap.size y.x w' := fun y => S_KndText _ _ _ b2
 go_wp2_with fail
 refine qal (by kernel_rfl) (by kernel_rfl) ?_
 repeat (go_big_quiet_step (first | (go_at_call 21; first | (with_reducible exact Calls.ins (CL _)) | (with_reducible exact Calls.ins (CS _))) | (go_at_call 45; exact Calls.ins (CK _))))
 refine wpQuiet_nil ?_
 rintro wZ ⟨⟨wA, hwA⟩, hq⟩
 obtain rfl : wA = wZ := hq.symm
 clear hq
 have hwAs := hwA.size
 (try dsimp only)
 have hbA : Below (w.heap.size + 1) wE wA := hwA.mono (by omega)
 clear P0 P2 P3 P4 P5 CL CS CK c0 c2 c3 c4 c5
 go_wp2_with fail
 go_loopw [3, 4] (fun sv zi wr => ∃ k : Nat, k ≤ len ∧ sv = .string (tx (joinW (mthH m ++ ktsW (m.fArgs.take k)))) ∧ zi = .int .i64 k ∧ Below (w.heap.size + 1) wE wr) (fun _ zi _ => len - (intOf zi).toNat)
 case atStart => exact ⟨0, Nat.zero_le _, by rw [H0.out]; simp [ktsW], rfl, hbA⟩
 case round =>
  clear hbA hwA hwAs
  obtain ⟨k, hk, rfl, rfl, hb⟩ := hrel
  have hbs := hb.size
  have r1 : wr.cell? ⟨w.heap.size, 1, none⟩ = some (.slice a len cap) := qap hb (by omega) c1
  have l0 : w.heap.size < wr.heap.size := block_lt_of_cell r1
  by_cases hlt : k < len
  ·have hlt2 : (k : Int) < (len : Int) := by omega
   obtain ⟨b, off, rfl, hlo, hbl, hr⟩ := h3 (by omega)
   obtain ⟨x, cs, g0, g1, g2, g3⟩ := hr k hlt
   obtain ⟨rfl, bx⟩ := g3
   have q1 : wr.cell? ⟨b, off + k * 2, none⟩ = some (.int .i64 x.fKind) := hEw.out _ _ _ hbl (g2 0 _ rfl) wr hb
   have q2 : wr.cell? ⟨b, off + k * 2 + 1, none⟩ = some (.string x.fName) := hEw.out _ _ _ hbl (g2 1 _ rfl) wr hb
   have z1 := kt_len (HM.out.args x (List.mem_of_getElem? g0))
   have z2 := mthW_len HM.out k
   have NX : Hid (tx (joinW (mthH m ++ ktsW (m.fArgs.take k))) ++ ⟨#[32]⟩ ++ kndText x.fKind x.fName = tx (joinW (mthH m ++ ktsW (m.fArgs.take (k + 1))))) := qhd (by rw [ktsW_next g0, mthW_step])
   clear g0 g1 g2 hr
   go_wp2_with fail
   refine (S_KndText _ _ _ bx).mono ?_
   rintro _ w1 ⟨rfl, d1⟩
   have d1s := (d1).size; (try simp only [qsz] at d1s)
   have hb1 : Below (w.heap.size + 1) wE w1 := hb.trans (d1.mono (by omega))
   go_wp2
   go_roundw
   case measure => simp [intOf]; omega
   case rel => exact ⟨k + 1, by omega, by rw [NX.out], by go_num, hb1⟩
  ·obtain rfl : k = len := by omega
   have RV : Hid (mthH m ++ ktsW (m.fArgs.take k) = mthW m) := qhd (by rw [List.take_of_length_le (by rw [HL.out]; exact Nat.le_refl _), mthW_eq])
   have z2 := mthW_len HM.out k
   rw [RV.out] at z2
   have z2' : (lineT (mthW m)).size ≤ 60 := z2
   rw [show tx (joinW (mthH m ++ ktsW (m.fArgs.take k))) = lineT (mthW m) by rw [RV.out]; rfl]
   clear z2 RV
   go_wp2_with fail
   obtain ⟨wB, hwB⟩ : ∃ wB, wB = wr.alloc (.cells #[.string (lineT (mthW m))] 9) := ⟨_, rfl⟩
   first | rw [← hwB] | skip
   have hbB : Below (w.heap.size + 1) wE wB := by rw [hwB]; exact hb.trans ((Below.refl _ _).alloc (by omega) _)
   have hTB : TOwn 1 rStr 9 (w.heap.size + 1) (w.heap.size + 1) wB (.slice (some ⟨wr.heap.size, 0, none⟩) 1 1) [lineT (mthW m)] := by
    rw [hwB]; exact TOwn.one (w.heap.size + 1) wr [.string (lineT (mthW m))] _ (by omega) rfl ⟨rfl, by unfold maxLen; omega⟩
   have hwrB : wr.heap.size < wB.heap.size := by rw [hwB]; simp
   clear hwB
   go_loopw [5, 6] (fun ov zi wr => ∃ (i : Nat) (v : Value), i ≤ ml ∧ ov = v ∧ zi = .int .i64 i ∧ TOwn 1 rStr 9 (w.heap.size + 1) (w.heap.size + 1) wr v (lineT (mthW m) :: (m.fMaps.take i).map (fun f => lineT (mapW f))) ∧ Below (w.heap.size + 1) wE wr) (fun _ zi _ => ml - (intOf zi).toNat)
   case atStart => exact ⟨0, _, Nat.zero_le _, rfl, rfl, hTB, hbB⟩
   case round =>
    clear hTB hbB hb hbs r1 l0 hwrB
    obtain ⟨i, v, hi, rfl, rfl, ht, hb⟩ := hrel
    obtain ⟨va, vn, vc, rfl⟩ := ht.sl.form3
    have HT := qhd ht
    clear ht
    have hbs := hb.size
    have r7 : wr.cell? ⟨w.heap.size, 7, none⟩ = some (.slice ma ml mc) := qap hb (by omega) c7
    have l0 : w.heap.size < wr.heap.size := block_lt_of_cell r7
    by_cases hlt : i < ml
    ·have hlt2 : (i : Int) < (ml : Int) := by omega
     obtain ⟨b, off, rfl, hlo, hbl, hr⟩ := hm3 (by omega)
     obtain ⟨f, cs, g0, g1, g2, g3⟩ := hr i hlt
     obtain ⟨u1, u2, rfl, t1, t2⟩ := g3
     obtain ⟨fa, fn, fc, rfl⟩ := t1.form
     obtain ⟨ua, un, uc, rfl⟩ := t2.form
     have q1 : wr.cell? ⟨b, off + i * 3, none⟩ = some (.int .i64 f.fAt) := hEw.out _ _ _ hbl (g2 0 _ rfl) wr hb
     have q2 : wr.cell? ⟨b, off + i * 3 + 1, none⟩ = some (.slice fa fn fc) := hEw.out _ _ _ hbl (g2 1 _ rfl) wr hb
     have q3 : wr.cell? ⟨b, off + i * 3 + 2, none⟩ = some (.slice ua un uc) := hEw.out _ _ _ hbl (g2 2 _ rfl) wr hb
     have hfm := List.mem_of_getElem? g0
     obtain ⟨hat0, hft, hfu, hfl, hfl2⟩ := HM.out.maps f hfm
     have hat : 0 ≤ f.fAt ∧ f.fAt ≤ 9999 := by omega
     have z1 := num_size (n := f.fAt) (by omega)
     have z2 : (tx (tgsB f.fLocals)).size ≤ 42 := by rw [tx_size]; have := tgsB_len hft; omega
     have z3 : (tx (tgsB f.fStack)).size ≤ 42 := by rw [tx_size]; have := tgsB_len hfu; omega
     have z4 : (⟨#[102, 114, 97, 109, 101, 32]⟩ : ByteArray).size = 6 := rfl
     have z5 : (⟨#[32, 47]⟩ : ByteArray).size = 2 := rfl
     have z6 := map_size HM.out hfm
     have SA : Sl 2 rTagTag 0 wr (.slice fa fn fc) f.fLocals := t1.stays qar (Keeps.of_below (hEb.out _ hb))
     have SB : Sl 2 rTagTag 0 wr (.slice ua un uc) f.fStack := t2.stays qar (Keeps.of_below (hEb.out _ hb))
     have NX : Hid ((m.fMaps.take (i + 1)).map (fun f => lineT (mapW f)) = (m.fMaps.take i).map (fun f => lineT (mapW f)) ++ [lineT (mapW f)]) := qhd (by
      obtain ⟨hj, he⟩ := List.getElem?_eq_some_iff.1 g0
      rw [List.take_succ_eq_append_getElem hj, he]; simp)
     have hlr : b < wr.heap.size := by omega
     clear g0 g1 g2 hr t1 t2 hfm
     go_wp2_with fail
     refine qaq 27 (Below wr.heap.size wr) (fun _ w1 w2 => Below w1.heap.size w1 w2) (fun _ => pmF (.slice va vn vc) w.heap.size b off ml mc i f fa fn fc ua un uc) (fun _ _ => True) noDeadP (by kernel_rfl) (by decide) (by kernel_rfl) (Or.inr ⟨by kernel_rfl, by kernel_rfl⟩) (by kernel_rfl) ((Below.refl _ _).drew) (fun _ _ _ _ _ _ _ _ _ h => h) noDeadP_dead (fun _ => trivial) (fun _ _ _ _ _ _ _ _ => trivial) (fun _ i j u w1 w2 hne _ _ hg hF => pmF_stays i j u w1 w2 hne hg hF) (fun _ _ _ => Below.refl _ _) ?_
     refine qaa (d := 51) rfl rfl (fun wx hC hI hd S0 hS => ?_) (fun v0 => ?_)
     ·have HSS := qhd hS; clear hS hd hI
      go_simp
      exact HSS.out _ _ hC (Below.refl _ _) (by simp [pmF])
     simp only [qnr]
     refine qaa (d := 52) rfl rfl (fun wx hC hI hd S0 hS => ?_) (fun v1 => ?_)
     ·have HSS := qhd hS; clear hS hd hI
      go_simp
      exact HSS.out _ _ hC (Below.refl _ _) (by simp [pmF])
     simp only [qnr]
     refine qaa (d := 53) rfl rfl (fun wx hC hI hd S0 hS => ?_) (fun v2 => ?_)
     ·have d1 := hd ⟨1, .data⟩ (by simp) rfl v1 (by simp)
      simp only [pmF] at d1
      subst d1
      have c1 := qad hC r7
      have HSS := qhd hS; clear hS hd hI
      go_simp
      exact HSS.out _ _ hC (Below.refl _ _) (by simp [pmF])
     simp only [qnr]
     refine qaa (d := 54) rfl rfl (fun wx hC hI hd S0 hS => ?_) (fun v3 => ?_)
     ·have HSS := qhd hS; clear hS hd hI
      go_simp
      exact HSS.out _ _ hC (Below.refl _ _) (by simp [pmF])
     simp only [qnr]
     refine qaa (d := 55) rfl rfl (fun wx hC hI hd S0 hS => ?_) (fun v4 => ?_)
     ·have d2 := hd ⟨2, .data⟩ (by simp) rfl v2 (by simp)
      simp only [pmF] at d2
      subst d2
      have d3 := hd ⟨3, .data⟩ (by simp) rfl v3 (by simp)
      simp only [pmF] at d3
      subst d3
      have HSS := qhd hS; clear hS hd hI
      go_simp
      exact HSS.out _ _ hC (Below.refl _ _) (by simp [pmF])
     simp only [qnr]
     refine qaa (d := 56) rfl rfl (fun wx hC hI hd S0 hS => ?_) (fun v5 => ?_)
     ·have d4 := hd ⟨4, .data⟩ (by simp) rfl v4 (by simp)
      simp only [pmF] at d4
      subst d4
      have HSS := qhd hS; clear hS hd hI
      go_simp
      exact HSS.out _ _ hC (Below.refl _ _) (by simp [pmF])
     simp only [qnr]
     refine qaa (d := 57) rfl rfl (fun wx hC hI hd S0 hS => ?_) (fun v6 => ?_)
     ·have d5 := hd ⟨5, .data⟩ (by simp) rfl v5 (by simp)
      simp only [pmF] at d5
      subst d5
      have c1 := qad hC q1
      have HSS := qhd hS; clear hS hd hI
      go_simp
      exact HSS.out _ _ hC (Below.refl _ _) (by simp [pmF])
     simp only [qnr]
     refine qaa (d := 58) rfl rfl (fun wx hC hI hd S0 hS => ?_) (fun v7 => ?_)
     ·have d6 := hd ⟨6, .data⟩ (by simp) rfl v6 (by simp)
      simp only [pmF] at d6
      subst d6
      have HSS := qhd hS; clear hS hd hI
      go_simp
      refine (P_l1Plain f.fAt _ hat).mono ?_
      rintro _ w' ⟨rfl, hX⟩
      exact HSS.out _ _ (hC.trans (hX.mono hC.size)) hX (by simp [pmF])
     simp only [qnr]
     refine qaa (d := 59) rfl rfl (fun wx hC hI hd S0 hS => ?_) (fun v8 => ?_)
     ·have d7 := hd ⟨7, .data⟩ (by simp) rfl v7 (by simp)
      simp only [pmF] at d7
      subst d7
      have HSS := qhd hS; clear hS hd hI
      have h9 := addS (⟨#[102, 114, 97, 109, 101, 32]⟩) (tx (numText f.fAt)) (by (try simp only [ByteArray.size_append]); omega) wx
      refine wp_binS rfl (by rfl) (by rfl) (by rfl) h9 ⟨put_defers' _ _ _, ?_⟩
      rw [qae (by simp)]
      exact HSS.out _ _ hC (Below.refl _ _) (by (simp only [qls, Nat.reduceAdd, pmF]))
     simp only [qnr]
     refine qaa (d := 60) rfl rfl (fun wx hC hI hd S0 hS => ?_) (fun v9 => ?_)
     ·have HSS := qhd hS; clear hS hd hI
      go_simp
      exact HSS.out _ _ hC (Below.refl _ _) (by simp [pmF])
     simp only [qnr]
     refine qaa (d := 61) rfl rfl (fun wx hC hI hd S0 hS => ?_) (fun v10 => ?_)
     ·have d9 := hd ⟨9, .data⟩ (by simp) rfl v9 (by simp)
      simp only [pmF] at d9
      subst d9
      have c1 := qad hC r7
      have HSS := qhd hS; clear hS hd hI
      go_simp
      exact HSS.out _ _ hC (Below.refl _ _) (by simp [pmF])
     simp only [qnr]
     refine qaa (d := 62) rfl rfl (fun wx hC hI hd S0 hS => ?_) (fun v11 => ?_)
     ·have HSS := qhd hS; clear hS hd hI
      go_simp
      exact HSS.out _ _ hC (Below.refl _ _) (by simp [pmF])
     simp only [qnr]
     refine qaa (d := 63) rfl rfl (fun wx hC hI hd S0 hS => ?_) (fun v12 => ?_)
     ·have d10 := hd ⟨10, .data⟩ (by simp) rfl v10 (by simp)
      simp only [pmF] at d10
      subst d10
      have d11 := hd ⟨11, .data⟩ (by simp) rfl v11 (by simp)
      simp only [pmF] at d11
      subst d11
      have HSS := qhd hS; clear hS hd hI
      go_simp
      exact HSS.out _ _ hC (Below.refl _ _) (by simp [pmF])
     simp only [qnr]
     refine qaa (d := 64) rfl rfl (fun wx hC hI hd S0 hS => ?_) (fun v13 => ?_)
     ·have d12 := hd ⟨12, .data⟩ (by simp) rfl v12 (by simp)
      simp only [pmF] at d12
      subst d12
      have HSS := qhd hS; clear hS hd hI
      go_simp
      exact HSS.out _ _ hC (Below.refl _ _) (by simp [pmF])
     simp only [qnr]
     refine qaa (d := 65) rfl rfl (fun wx hC hI hd S0 hS => ?_) (fun v14 => ?_)
     ·have d13 := hd ⟨13, .data⟩ (by simp) rfl v13 (by simp)
      simp only [pmF] at d13
      subst d13
      have c1 := qad hC q2
      have HSS := qhd hS; clear hS hd hI
      go_simp
      exact HSS.out _ _ hC (Below.refl _ _) (by simp [pmF])
     simp only [qnr]
     refine qaa (d := 66) rfl rfl (fun wx hC hI hd S0 hS => ?_) (fun v15 => ?_)
     ·have d14 := hd ⟨14, .data⟩ (by simp) rfl v14 (by simp)
      simp only [pmF] at d14
      subst d14
      have HSS := qhd hS; clear hS hd hI
      go_simp
      refine (S_l8Tags f.fLocals _ _ (SA.stays qar (Keeps.of_below hC)) hfl hft).mono ?_
      rintro _ w' ⟨rfl, hX⟩
      exact HSS.out _ _ (hC.trans (hX.mono hC.size)) hX (by simp [pmF])
     simp only [qnr]
     refine qaa (d := 67) rfl rfl (fun wx hC hI hd S0 hS => ?_) (fun v16 => ?_)
     ·have d8 := hd ⟨8, .data⟩ (by simp) rfl v8 (by simp)
      simp only [pmF] at d8
      subst d8
      have d15 := hd ⟨15, .data⟩ (by simp) rfl v15 (by simp)
      simp only [pmF] at d15
      subst d15
      have HSS := qhd hS; clear hS hd hI
      have h9 := addS (⟨#[102, 114, 97, 109, 101, 32]⟩ ++ tx (numText f.fAt)) (tx (tgsB f.fLocals)) (by (try simp only [ByteArray.size_append]); omega) wx
      refine wp_binS rfl (by rfl) (by rfl) (by rfl) h9 ⟨put_defers' _ _ _, ?_⟩
      rw [qae (by simp)]
      exact HSS.out _ _ hC (Below.refl _ _) (by (simp only [qls, Nat.reduceAdd, pmF]))
     simp only [qnr]
     refine qaa (d := 68) rfl rfl (fun wx hC hI hd S0 hS => ?_) (fun v17 => ?_)
     ·have d16 := hd ⟨16, .data⟩ (by simp) rfl v16 (by simp)
      simp only [pmF] at d16
      subst d16
      have HSS := qhd hS; clear hS hd hI
      have h9 := addS (⟨#[102, 114, 97, 109, 101, 32]⟩ ++ tx (numText f.fAt) ++ tx (tgsB f.fLocals)) (⟨#[32, 47]⟩) (by (try simp only [ByteArray.size_append]); omega) wx
      refine wp_binS rfl (by rfl) (by rfl) (by rfl) h9 ⟨put_defers' _ _ _, ?_⟩
      rw [qae (by simp)]
      exact HSS.out _ _ hC (Below.refl _ _) (by (simp only [qls, Nat.reduceAdd, pmF]))
     simp only [qnr]
     refine qaa (d := 69) rfl rfl (fun wx hC hI hd S0 hS => ?_) (fun v18 => ?_)
     ·have HSS := qhd hS; clear hS hd hI
      go_simp
      exact HSS.out _ _ hC (Below.refl _ _) (by simp [pmF])
     simp only [qnr]
     refine qaa (d := 70) rfl rfl (fun wx hC hI hd S0 hS => ?_) (fun v19 => ?_)
     ·have d18 := hd ⟨18, .data⟩ (by simp) rfl v18 (by simp)
      simp only [pmF] at d18
      subst d18
      have c1 := qad hC r7
      have HSS := qhd hS; clear hS hd hI
      go_simp
      exact HSS.out _ _ hC (Below.refl _ _) (by simp [pmF])
     simp only [qnr]
     refine qaa (d := 71) rfl rfl (fun wx hC hI hd S0 hS => ?_) (fun v20 => ?_)
     ·have HSS := qhd hS; clear hS hd hI
      go_simp
      exact HSS.out _ _ hC (Below.refl _ _) (by simp [pmF])
     simp only [qnr]
     refine qaa (d := 72) rfl rfl (fun wx hC hI hd S0 hS => ?_) (fun v21 => ?_)
     ·have d19 := hd ⟨19, .data⟩ (by simp) rfl v19 (by simp)
      simp only [pmF] at d19
      subst d19
      have d20 := hd ⟨20, .data⟩ (by simp) rfl v20 (by simp)
      simp only [pmF] at d20
      subst d20
      have HSS := qhd hS; clear hS hd hI
      go_simp
      exact HSS.out _ _ hC (Below.refl _ _) (by simp [pmF])
     simp only [qnr]
     refine qaa (d := 73) rfl rfl (fun wx hC hI hd S0 hS => ?_) (fun v22 => ?_)
     ·have d21 := hd ⟨21, .data⟩ (by simp) rfl v21 (by simp)
      simp only [pmF] at d21
      subst d21
      have HSS := qhd hS; clear hS hd hI
      go_simp
      exact HSS.out _ _ hC (Below.refl _ _) (by simp [pmF])
     simp only [qnr]
     refine qaa (d := 74) rfl rfl (fun wx hC hI hd S0 hS => ?_) (fun v23 => ?_)
     ·have d22 := hd ⟨22, .data⟩ (by simp) rfl v22 (by simp)
      simp only [pmF] at d22
      subst d22
      have c1 := qad hC q3
      have HSS := qhd hS; clear hS hd hI
      go_simp
      exact HSS.out _ _ hC (Below.refl _ _) (by simp [pmF])
     simp only [qnr]
     refine qaa (d := 75) rfl rfl (fun wx hC hI hd S0 hS => ?_) (fun v24 => ?_)
     ·have d23 := hd ⟨23, .data⟩ (by simp) rfl v23 (by simp)
      simp only [pmF] at d23
      subst d23
      have HSS := qhd hS; clear hS hd hI
      go_simp
      refine (S_l8Tags f.fStack _ _ (SB.stays qar (Keeps.of_below hC)) (by omega) hfu).mono ?_
      rintro _ w' ⟨rfl, hX⟩
      exact HSS.out _ _ (hC.trans (hX.mono hC.size)) hX (by simp [pmF])
     simp only [qnr]
     refine qaa (d := 76) rfl rfl (fun wx hC hI hd S0 hS => ?_) (fun v25 => ?_)
     ·have d17 := hd ⟨17, .data⟩ (by simp) rfl v17 (by simp)
      simp only [pmF] at d17
      subst d17
      have d24 := hd ⟨24, .data⟩ (by simp) rfl v24 (by simp)
      simp only [pmF] at d24
      subst d24
      have HSS := qhd hS; clear hS hd hI
      have h9 := addS (⟨#[102, 114, 97, 109, 101, 32]⟩ ++ tx (numText f.fAt) ++ tx (tgsB f.fLocals) ++ ⟨#[32, 47]⟩) (tx (tgsB f.fStack)) (by (try simp only [ByteArray.size_append]); omega) wx
      refine wp_binS rfl (by rfl) (by rfl) (by rfl) h9 ⟨put_defers' _ _ _, ?_⟩
      rw [qae (by simp)]
      exact HSS.out _ _ hC (Below.refl _ _) (by (simp only [qls, Nat.reduceAdd, pmF]); exact congrArg Value.string (map_text f))
     simp only [qnr]
     refine qaa (d := 77) rfl rfl (fun wx hC hI hd S0 hS => ?_) (fun v26 => ?_)
     ·have d25 := hd ⟨25, .data⟩ (by simp) rfl v25 (by simp)
      simp only [pmF] at d25
      subst d25
      have HSS := qhd hS; clear hS hd hI
      have h9 := run_one1 sty_Str (.string (lineT (mapW f))) rfl wx
      refine wp_buildOne rfl rfl h9 ⟨put_defers' _ _ _, ?_⟩
      rw [qae (by simp)]
      refine HSS.out _ _ (hC.trans (((Below.refl _ _).alloc (Nat.le_refl _) _).mono hC.size)) ((Below.refl _ _).alloc (Nat.le_refl _) _) ?_
      (simp only [qls, Nat.reduceAdd, pmF])
      exact Src.new (k := 1) (cs := [.string (lineT (mapW f))])
     simp only [qnr]
     intro wF hC hF
     have g0 := hF 0 v0 (by simp) (fun _ _ => rfl)
     have g26 := hF 26 v26 (by simp) (fun _ _ => rfl)
     simp only [pmF] at g0 g26
     subst g0
     have hsF := hC.size
     have hwz : w.heap.size + 1 ≤ wF.heap.size := by omega
     have hvv := HT.out.below qaj hC
     clear hF
     simp only [List.drop_succ_cons, List.drop_zero]
     refine qai (B := w.heap.size + 1) (lo := w.heap.size + 1) (R := rStr) (E := NoT) (xs := lineT (mthW m) :: (m.fMaps.take i).map (fun f => lineT (mapW f))) (ys := [lineT (mapW f)]) (css := [[.string (lineT (mapW f))]]) (by rfl) (.tmp 51) (.tmp 77) 28 (by rfl) sty_Str qaj (fun h => h) rStr_one (by rfl) (by rfl) (hvv) (g26) (Rows.one rfl ⟨rfl, by unfold maxLen; omega⟩) (by simp only [List.length_cons, List.length_map, List.length_take, List.length_nil]; omega) (Nat.le_refl _) (hwz) ?_
     intro v9 wG htG hbG hgG hkG hatG
     have hBG : Below (w.heap.size + 1) wE wG := (hb.trans (hC.mono (by omega))).trans hbG
     rw [List.cons_append, ← NX.out] at htG
     clear hC hbG hgG hkG hatG hvv g26
     go_wp2
     go_roundw
     case measure => simp [intOf]; omega
     case rel => exact ⟨i + 1, _, by omega, rfl, by go_num, htG, hBG⟩
    ·obtain rfl : i = ml := by omega
     have RV : Hid (m.fMaps.take i = m.fMaps) := qhd (List.take_of_length_le (by rw [HML.out]; exact Nat.le_refl _))
     have HT2 := HT.out
     rw [RV.out] at HT2
     clear HT RV
     go_wp2_with fail
     go_loopw [5, 7] (fun ov zi wr => ∃ (j : Nat) (v : Value), j ≤ kl ∧ ov = v ∧ zi = .int .i64 j ∧ TOwn 1 rStr 9 (w.heap.size + 1) (w.heap.size + 1) wr v ((lineT (mthW m) :: m.fMaps.map (fun f => lineT (mapW f))) ++ (m.fCode.take j).map (fun x => lineT (insW x))) ∧ Below (w.heap.size + 1) wE wr) (fun _ zi _ => kl - (intOf zi).toNat)
     case atStart => exact ⟨0, _, Nat.zero_le _, rfl, rfl, by simpa using HT2, hb⟩
     case round =>
      clear HT2 hb hbs r7 l0
      obtain ⟨j, v, hj, rfl, rfl, ht, hb⟩ := hrel
      obtain ⟨va, vn, vc, rfl⟩ := ht.sl.form3
      have HT := qhd ht
      clear ht
      have hbs := hb.size
      have r6 : wr.cell? ⟨w.heap.size, 6, none⟩ = some (.slice ka kl kc) := qap hb (by omega) c6
      have l0 : w.heap.size < wr.heap.size := block_lt_of_cell r6
      by_cases hlt : j < kl
      ·have hlt2 : (j : Int) < (kl : Int) := by omega
       obtain ⟨b, off, rfl, hlo, hbl, hr⟩ := hk3 (by omega)
       obtain ⟨x, cs, g0, g1, g2, g3⟩ := hr j hlt
       obtain ⟨rfl, bx1, bx2⟩ := g3
       have q1 : wr.cell? ⟨b, off + j * 4, none⟩ = some (.int .i64 x.fOp) := hEw.out _ _ _ hbl (g2 0 _ rfl) wr hb
       have q2 : wr.cell? ⟨b, off + j * 4 + 1, none⟩ = some (.int .i64 x.fA) := hEw.out _ _ _ hbl (g2 1 _ rfl) wr hb
       have q3 : wr.cell? ⟨b, off + j * 4 + 2, none⟩ = some (.string x.fName) := hEw.out _ _ _ hbl (g2 2 _ rfl) wr hb
       have q4 : wr.cell? ⟨b, off + j * 4 + 3, none⟩ = some (.string x.fMember) := hEw.out _ _ _ hbl (g2 3 _ rfl) wr hb
       have hok := HM.out.code x (List.mem_of_getElem? g0)
       have IT : Hid (tx (insTxt x.fOp x.fA x.fName x.fMember) = lineT (insW x)) := qhd (ins_text2 hok)
       have z1 : (lineT (insW x)).size ≤ 18 := by rw [← IT.out, ← insText_txt, tx_size]; exact insText_lenR
       have NX : Hid ((m.fCode.take (j + 1)).map (fun x => lineT (insW x)) = (m.fCode.take j).map (fun x => lineT (insW x)) ++ [lineT (insW x)]) := qhd (by
        obtain ⟨hj, he⟩ := List.getElem?_eq_some_iff.1 g0
        rw [List.take_succ_eq_append_getElem hj, he]; simp)
       have CI : ∀ W, Calls Tryz.prog 71 #[.agg #[.int .i64 x.fOp, .int .i64 x.fA, .string x.fName, .string x.fMember]] W fun e w' => e = .returned (.string (lineT (insW x))) ∧ Below W.heap.size W w' := fun W => by
        rw [← IT.out]; exact S_InsText _ _ _ _ W bx1 bx2
       have hlr : b < wr.heap.size := by omega
       clear g0 g1 g2 hr hok
       go_wp2_with fail
       refine (CI _).mono ?_
       rintro _ w1 ⟨rfl, d1⟩
       have d1s := (d1).size; (try simp only [qsz] at d1s)
       have hb1 : Below (w.heap.size + 1) wE w1 := hb.trans (d1.mono (by omega))
       have HT1 := qhd (HT.out.below qaj d1)
       clear CI d1
       go_wp2_with (at_builtin; refine qai (B := w.heap.size + 1) (lo := w.heap.size + 1) (R := rStr) (E := NoT) (xs := (lineT (mthW m) :: m.fMaps.map (fun f => lineT (mapW f))) ++ (m.fCode.take j).map (fun x => lineT (insW x))) (ys := [lineT (insW x)]) (css := [[.string (lineT (insW x))]]) (by rfl) (.tmp 86) (.tmp 93) 28 (by rfl) sty_Str qaj (fun h => h) rStr_one (by rfl) (by rfl) (HT1.out.below qaj ((Below.refl _ _).alloc (Nat.le_refl _) _)) (Src.new (k := 1) (cs := [.string (lineT (insW x))])) (Rows.one rfl ⟨rfl, by unfold maxLen; omega⟩) (by simp only [List.length_append, List.length_cons, List.length_map, List.length_take, List.length_nil]; have := HML.out; omega) (Nat.le_refl _) (by simp; omega) ?_)
       intro v9 wG htG hbG hgG hkG hatG
       have hBG : Below (w.heap.size + 1) wE wG := (hb1.trans ((Below.refl _ _).alloc (by omega) _)).trans hbG
       have HTG : Hid (TOwn 1 rStr 9 (w.heap.size + 1) (w.heap.size + 1) wG v9 ((lineT (mthW m) :: m.fMaps.map (fun f => lineT (mapW f))) ++ (m.fCode.take (j + 1)).map (fun x => lineT (insW x)))) := qhd (by rw [NX.out]; simpa using htG)
       clear hbG hgG hkG hatG htG
       go_wp2
       go_roundw
       case measure => simp [intOf]; omega
       case rel => exact ⟨j + 1, _, by omega, rfl, by go_num, HTG.out, hBG⟩
      ·obtain rfl : j = kl := by omega
       have RV : Hid ((lineT (mthW m) :: m.fMaps.map (fun f => lineT (mapW f))) ++ (m.fCode.take j).map (fun x => lineT (insW x)) = (mthWs m).map lineT) := qhd (by
        rw [List.take_of_length_le (by rw [HKL.out]; exact Nat.le_refl _)]
        simp [mthWs, List.map_map, Function.comp_def])
       have HT2 := HT.out
       rw [RV.out] at HT2
       have HE := qhd (hEb.out _ hb)
       go_wp2
       all_goals (try go_returns)
       all_goals exact HR.out _ _ ⟨⟨_, rfl, HT2⟩, HE.out⟩

theorem TOwn.at1 {lo g : Nat} {w : World} {s : ByteArray} {e : TypeId} (h : w.heap[g]? = some (.cells #[.string s] e (0, 0))) (hl : lo ≤ g) (hs : s.size ≤ maxLen) : TOwn 1 rStr e lo lo w (.slice (some ⟨g, 0, none⟩) 1 1) [s] :=
 ⟨⟨[[.string s]], Rows.one rfl ⟨rfl, hs⟩, by simp, Or.inr ⟨g, 1, #[.string s], rfl, hl, h, Nat.le_refl _, by decide, rfl, rfl⟩⟩, fun b hb => by simp [Value.ownBlock] at hb; omega⟩
theorem map_next {α β : Type} (f : α → β) {xs : List α} {j : Nat} {x : α} (h : xs[j]? = some x) : (xs.take (j + 1)).map f = (xs.take j).map f ++ [f x] := by
 obtain ⟨hj, he⟩ := List.getElem?_eq_some_iff.1 h
 rw [List.take_succ_eq_append_getElem hj, he]; simp
theorem flat_next {α β : Type} (f : α → List β) {xs : List α} {j : Nat} {x : α} (h : xs[j]? = some x) : (xs.take (j + 1)).flatMap f = (xs.take j).flatMap f ++ f x := by
 obtain ⟨hj, he⟩ := List.getElem?_eq_some_iff.1 h
 rw [List.take_succ_eq_append_getElem hj, he]; simp [List.flatMap_append]
theorem flat_lenB {α β : Type} {f : α → List β} {n : Nat} : ∀ {xs : List α}, (∀ x ∈ xs, (f x).length ≤ n) → (xs.flatMap f).length ≤ n * xs.length
 | [], _ => by simp
 | x :: r, h => by
   have h1 := h x (by simp)
   have h2 := flat_lenB (xs := r) fun y hy => h y (List.mem_cons_of_mem _ hy)
   rw [List.flatMap_cons, List.length_append, List.length_cons, Nat.mul_succ]; omega
theorem mthWs_len {m : DClsMethod} (h : MthP m) : (mthWs m).length ≤ 22 := by
 have h1 := h.clen
 have h2 := h.mlen
 simp only [mthWs, List.length_cons, List.length_append, List.length_map]; omega
theorem clsWs_len {c : DClsClass} (h : ClsP c) : (clsWs c).length ≤ 92 := by
 have h1 := h.flen
 have h2 := h.mlen
 have h3 := flat_lenB (f := mthWs) (n := 22) (xs := c.fMethods) fun m hm => mthWs_len (mth_parts (h.mths m hm))
 simp only [clsWs, List.length_cons, List.length_append, List.length_map]; omega
theorem fld_size {f : DClsField} (h : namOk f.fName = true ∧ kndOkD f.fKind = true) : (lineT (fldW f)).size ≤ 30 := by
 rw [← fld_text]
 have h1 := namOk_six h.1
 have h2 := kt_len h.2
 have e1 : (⟨#[102, 105, 101, 108, 100, 32]⟩ : ByteArray).size = 6 := rfl
 have e2 : (⟨#[32]⟩ : ByteArray).size = 1 := rfl
 simp only [ByteArray.size_append]; omega
theorem cls_size {c : DClsClass} (h : ClsP c) : (lineT (clsW c)).size ≤ 30 := by
 rw [← cls_text]
 have h1 := namOk_six h.nm
 have h2 := sup_len h.sup
 have e1 : (⟨#[99, 108, 97, 115, 115, 32]⟩ : ByteArray).size = 6 := rfl
 have e2 : (⟨#[32]⟩ : ByteArray).size = 1 := rfl
 simp only [ByteArray.size_append]; omega
theorem ask_size {n : Int} (hn : n ≤ 3) {a : DLodAsk} (h : namOk a.fName = true ∧ 0 ≤ a.fKeeper ∧ a.fKeeper ≤ n - 1) : (lineT (askW a)).size ≤ 30 := by
 rw [← ask_text]
 have h1 := namOk_six h.1
 have h2 := num_size (n := a.fKeeper) (by omega)
 have e1 : (⟨#[97, 115, 107, 115, 32]⟩ : ByteArray).size = 5 := rfl
 have e2 : (⟨#[32]⟩ : ByteArray).size = 1 := rfl
 simp only [ByteArray.size_append]; omega

def pfF (ov : Value) (B g o n c k : Nat) (f : DClsField)  : Nat → Value → World → Prop
 | 0, v, w => v = ov
 | 1, v, w => v = .pointer (some ⟨B, 2, none⟩)
 | 2, v, w => v = .slice (some ⟨g, o, none⟩) n c
 | 3, v, w => v = .int .i64 (k : Int)
 | 4, v, w => v = .pointer (some ⟨g, o + k * 3, none⟩)
 | 5, v, w => v = .pointer (some ⟨g, o + k * 3, none⟩)
 | 6, v, w => v = .string f.fName
 | 7, v, w => v = .string (⟨#[102, 105, 101, 108, 100, 32]⟩ ++ f.fName)
 | 8, v, w => v = .string (⟨#[102, 105, 101, 108, 100, 32]⟩ ++ f.fName ++ ⟨#[32]⟩)
 | 9, v, w => v = .pointer (some ⟨B, 2, none⟩)
 | 10, v, w => v = .slice (some ⟨g, o, none⟩) n c
 | 11, v, w => v = .int .i64 (k : Int)
 | 12, v, w => v = .pointer (some ⟨g, o + k * 3, none⟩)
 | 13, v, w => v = .pointer (some ⟨g, o + k * 3 + 1, none⟩)
 | 14, v, w => v = .agg #[.int .i64 f.fKind.fKind, .string f.fKind.fName]
 | 15, v, w => v = .string (kndText f.fKind.fKind f.fKind.fName)
 | 16, v, w => v = .string (lineT (fldW f))
 | 17, v, w => Src 1 w v [[.string (lineT (fldW f))]]
 | _, _, _ => True
theorem pfF_stays {ov : Value} {B g o n c k : Nat} {f : DClsField}  : ∀ i j u w w', i ≠ j → Below w.heap.size w w' → pfF ov B g o n c k f i u w → pfF ov B g o n c k f i u w' := by
 intro i j u w w' hne hg h
 match i with
 | 0 | 1 | 2 | 3 | 4 | 5 | 6 | 7 | 8 | 9 | 10 | 11 | 12 | 13 | 14 | 15 | 16 => exact h
 | 17 =>
   exact Src.kept (k := 1) h hg
 | n + 18 => trivial
def phF (B : Nat) (x : DClsClass)  : Nat → Value → World → Prop
 | 0, v, w => v = .pointer (some ⟨B, 0, none⟩)
 | 1, v, w => v = .string x.fName
 | 2, v, w => v = .string (⟨#[99, 108, 97, 115, 115, 32]⟩ ++ x.fName)
 | 3, v, w => v = .string (⟨#[99, 108, 97, 115, 115, 32]⟩ ++ x.fName ++ ⟨#[32]⟩)
 | 4, v, w => v = .pointer (some ⟨B, 1, none⟩)
 | 5, v, w => v = .string x.fSuper
 | 6, v, w => v = .string (tx (supW x.fSuper))
 | 7, v, w => v = .string (lineT (clsW x))
 | 8, v, w => ∃ g, v = .slice (some ⟨g, 0, none⟩) 1 1 ∧ B < g ∧ w.heap[g]? = some (.cells #[.string (lineT (clsW x))] 9 (0, 0))
 | 9, v, w => ∃ g, v = .slice (some ⟨g, 0, none⟩) 1 1 ∧ B < g ∧ w.heap[g]? = some (.cells #[.string (lineT (clsW x))] 9 (0, 0))
 | _, _, _ => True
theorem phF_stays {B : Nat} {x : DClsClass}  : ∀ i j u w w', i ≠ j → Below w.heap.size w w' → phF B x i u w → phF B x i u w' := by
 intro i j u w w' hne hg h
 match i with
 | 0 | 1 | 2 | 3 | 4 | 5 | 6 | 7 => exact h
 | 8 =>
   obtain ⟨g, h1, h2, h3⟩ := h
   exact ⟨g, h1, h2, (hg.block g (Array.getElem?_eq_some_iff.1 h3).1).trans h3⟩
 | 9 =>
   obtain ⟨g, h1, h2, h3⟩ := h
   exact ⟨g, h1, h2, (hg.block g (Array.getElem?_eq_some_iff.1 h3).1).trans h3⟩
 | n + 10 => trivial
def paF (ov : Value) (B g o n c k ag ao an ac jj : Nat) (f : DLodAsk)  : Nat → Value → World → Prop
 | 0, v, w => v = ov
 | 1, v, w => v = .pointer (some ⟨B, 0, none⟩)
 | 2, v, w => v = .slice (some ⟨g, o, none⟩) n c
 | 3, v, w => v = .int .i64 (k : Int)
 | 4, v, w => v = .pointer (some ⟨g, o + k * 2, none⟩)
 | 5, v, w => v = .pointer (some ⟨g, o + k * 2 + 1, none⟩)
 | 6, v, w => v = .slice (some ⟨ag, ao, none⟩) an ac
 | 7, v, w => v = .int .i64 (jj : Int)
 | 8, v, w => v = .pointer (some ⟨ag, ao + jj * 2, none⟩)
 | 9, v, w => v = .pointer (some ⟨ag, ao + jj * 2, none⟩)
 | 10, v, w => v = .string f.fName
 | 11, v, w => v = .string (⟨#[97, 115, 107, 115, 32]⟩ ++ f.fName)
 | 12, v, w => v = .string (⟨#[97, 115, 107, 115, 32]⟩ ++ f.fName ++ ⟨#[32]⟩)
 | 13, v, w => v = .pointer (some ⟨B, 0, none⟩)
 | 14, v, w => v = .slice (some ⟨g, o, none⟩) n c
 | 15, v, w => v = .int .i64 (k : Int)
 | 16, v, w => v = .pointer (some ⟨g, o + k * 2, none⟩)
 | 17, v, w => v = .pointer (some ⟨g, o + k * 2 + 1, none⟩)
 | 18, v, w => v = .slice (some ⟨ag, ao, none⟩) an ac
 | 19, v, w => v = .int .i64 (jj : Int)
 | 20, v, w => v = .pointer (some ⟨ag, ao + jj * 2, none⟩)
 | 21, v, w => v = .pointer (some ⟨ag, ao + jj * 2 + 1, none⟩)
 | 22, v, w => v = .int .i64 f.fKeeper
 | 23, v, w => v = .string (tx (numText f.fKeeper))
 | 24, v, w => v = .string (lineT (askW f))
 | 25, v, w => Src 1 w v [[.string (lineT (askW f))]]
 | _, _, _ => True
theorem paF_stays {ov : Value} {B g o n c k ag ao an ac jj : Nat} {f : DLodAsk}  : ∀ i j u w w', i ≠ j → Below w.heap.size w w' → paF ov B g o n c k ag ao an ac jj f i u w → paF ov B g o n c k ag ao an ac jj f i u w' := by
 intro i j u w w' hne hg h
 match i with
 | 0 | 1 | 2 | 3 | 4 | 5 | 6 | 7 | 8 | 9 | 10 | 11 | 12 | 13 | 14 | 15 | 16 | 17 | 18 | 19 | 20 | 21 | 22 | 23 | 24 => exact h
 | 25 =>
   exact Src.kept (k := 1) h hg
 | n + 26 => trivial

theorem S_l8Class (x : DClsClass) (v1 v2 : Value) (w : World) (s1 : Sl 3 rClsField 0 w v1 x.fFields) (s2 : Sl 8 rClsMethod 0 w v2 x.fMethods) (b1 : x.fName.size ≤ maxLen) (b2 : x.fSuper.size ≤ maxLen) (hx : ClsP x) :
  Calls Tryz.prog 22 #[.agg #[.string x.fName, .string x.fSuper, v1, v2]] w fun e w' => (∃ v, e = .returned v ∧ TOwn 1 rStr 9 (w.heap.size + 1) (w.heap.size + 1) w' v ((clsWs x).map lineT)) ∧ Below w.heap.size w w' := by
 obtain ⟨fa, fl, fc, rfl, hl, h1, h2, h3⟩ := id s1
 obtain ⟨ma, ml, mc, rfl, hml, hm1, hm2, hm3⟩ := id s2
 have m1 : fl ≤ 9223372036854775807 := by unfold maxLen at h2; omega
 have m2 : ml ≤ 9223372036854775807 := by unfold maxLen at hm2; omega
 have hl3 : fl ≤ 3 := by have := hx.flen; omega
 have hl4 : ml ≤ 4 := by have := hx.mlen; omega
 have HL := qhd hl
 have HML := qhd hml
 have HX := qhd hx
 have e6 := namOk_six hx.nm
 have e5 := sup_len hx.sup
 have e4 := cls_size hx
 have e2 : (⟨#[32]⟩ : ByteArray).size = 1 := rfl
 have e1 : (⟨#[99, 108, 97, 115, 115, 32]⟩ : ByteArray).size = 6 := rfl
 have e0 : (⟨#[102, 105, 101, 108, 100, 32]⟩ : ByteArray).size = 6 := rfl
 clear h2 hl h1 hm2 hml hm1 hx
 refine qac fun R HR => ?_
 go_enter Tryz.func22, Tryz.ntmps22
 go_wp2_with fail
 obtain ⟨wE, hwE⟩ : ∃ wE, wE = w.alloc (.cells #[.string x.fName, .string x.fSuper, .slice fa fl fc, .slice ma ml mc] 37) := ⟨_, rfl⟩
 rw [← hwE]
 have hBE : Below w.heap.size w wE := by rw [hwE]; exact bbel
 have hsE : wE.heap.size = w.heap.size + 1 := by rw [hwE]; simp
 have c0 : wE.cell? ⟨w.heap.size, 0, none⟩ = some (.string x.fName) := by rw [hwE]; go_simp
 have c1 : wE.cell? ⟨w.heap.size, 1, none⟩ = some (.string x.fSuper) := by rw [hwE]; go_simp
 have c2 : wE.cell? ⟨w.heap.size, 2, none⟩ = some (.slice fa fl fc) := by rw [hwE]; go_simp
 have c3 : wE.cell? ⟨w.heap.size, 3, none⟩ = some (.slice ma ml mc) := by rw [hwE]; go_simp
 clear hwE
 have hEw : Hid (∀ (g o : Nat) (u : Value), g < w.heap.size → w.cell? ⟨g, o, none⟩ = some u → ∀ W, Below (w.heap.size + 1) wE W → W.cell? ⟨g, o, none⟩ = some u) := qhd fun g o u hg hu W hW => qap hW (by omega) (qap hBE hg hu)
 have hEb : Hid (∀ W, Below (w.heap.size + 1) wE W → Below w.heap.size w W) := qhd fun W hW => hBE.trans (hW.mono (by omega))
 have hBE0 : w.heap.size < wE.heap.size := by omega
 refine qaq 10 (Below wE.heap.size wE) (fun _ w1 w2 => Below w1.heap.size w1 w2) (fun _ => phF w.heap.size x) (fun _ _ => True) noDeadP (by kernel_rfl) (by decide) (by kernel_rfl) (Or.inl rfl) (by kernel_rfl) ((Below.refl _ _).drew) (fun _ _ _ _ _ _ _ _ _ h => h) noDeadP_dead (fun _ => trivial) (fun _ _ _ _ _ _ _ _ => trivial) (fun _ i j u w1 w2 hne _ _ hg hF => phF_stays i j u w1 w2 hne hg hF) (fun _ _ _ => Below.refl _ _) ?_
 refine qaa (d := 6) rfl rfl (fun wx hC hI hd S0 hS => ?_) (fun v0 => ?_)
 ·have HSS := qhd hS; clear hS hd hI
  go_simp
  exact HSS.out _ _ hC (Below.refl _ _) (by simp [phF])
 simp only [qnr]
 refine qaa (d := 7) rfl rfl (fun wx hC hI hd S0 hS => ?_) (fun v1 => ?_)
 ·have d0 := hd ⟨0, .data⟩ (by simp) rfl v0 (by simp)
  simp only [phF] at d0
  subst d0
  have c1 := qad hC c0
  have HSS := qhd hS; clear hS hd hI
  go_simp
  exact HSS.out _ _ hC (Below.refl _ _) (by simp [phF])
 simp only [qnr]
 refine qaa (d := 8) rfl rfl (fun wx hC hI hd S0 hS => ?_) (fun v2 => ?_)
 ·have d1 := hd ⟨1, .data⟩ (by simp) rfl v1 (by simp)
  simp only [phF] at d1
  subst d1
  have HSS := qhd hS; clear hS hd hI
  have h9 := addS (⟨#[99, 108, 97, 115, 115, 32]⟩) (x.fName) (by (try simp only [ByteArray.size_append]); omega) wx
  refine wp_binS rfl (by rfl) (by rfl) (by rfl) h9 ⟨put_defers' _ _ _, ?_⟩
  rw [qae (by simp)]
  exact HSS.out _ _ hC (Below.refl _ _) (by (simp only [qls, Nat.reduceAdd, phF]))
 simp only [qnr]
 refine qaa (d := 9) rfl rfl (fun wx hC hI hd S0 hS => ?_) (fun v3 => ?_)
 ·have d2 := hd ⟨2, .data⟩ (by simp) rfl v2 (by simp)
  simp only [phF] at d2
  subst d2
  have HSS := qhd hS; clear hS hd hI
  have h9 := addS (⟨#[99, 108, 97, 115, 115, 32]⟩ ++ x.fName) (⟨#[32]⟩) (by (try simp only [ByteArray.size_append]); omega) wx
  refine wp_binS rfl (by rfl) (by rfl) (by rfl) h9 ⟨put_defers' _ _ _, ?_⟩
  rw [qae (by simp)]
  exact HSS.out _ _ hC (Below.refl _ _) (by (simp only [qls, Nat.reduceAdd, phF]))
 simp only [qnr]
 refine qaa (d := 10) rfl rfl (fun wx hC hI hd S0 hS => ?_) (fun v4 => ?_)
 ·have HSS := qhd hS; clear hS hd hI
  go_simp
  exact HSS.out _ _ hC (Below.refl _ _) (by simp [phF])
 simp only [qnr]
 refine qaa (d := 11) rfl rfl (fun wx hC hI hd S0 hS => ?_) (fun v5 => ?_)
 ·have d4 := hd ⟨4, .data⟩ (by simp) rfl v4 (by simp)
  simp only [phF] at d4
  subst d4
  have c2 := qad hC c1
  have HSS := qhd hS; clear hS hd hI
  go_simp
  exact HSS.out _ _ hC (Below.refl _ _) (by simp [phF])
 simp only [qnr]
 refine qaa (d := 12) rfl rfl (fun wx hC hI hd S0 hS => ?_) (fun v6 => ?_)
 ·have d5 := hd ⟨5, .data⟩ (by simp) rfl v5 (by simp)
  simp only [phF] at d5
  subst d5
  have HSS := qhd hS; clear hS hd hI
  go_simp
  refine (S_l8Super _ _ b2).mono ?_
  rintro _ w' ⟨rfl, hX⟩
  exact HSS.out _ _ (hC.trans (hX.mono hC.size)) hX (by simp [phF])
 simp only [qnr]
 refine qaa (d := 13) rfl rfl (fun wx hC hI hd S0 hS => ?_) (fun v7 => ?_)
 ·have d3 := hd ⟨3, .data⟩ (by simp) rfl v3 (by simp)
  simp only [phF] at d3
  subst d3
  have d6 := hd ⟨6, .data⟩ (by simp) rfl v6 (by simp)
  simp only [phF] at d6
  subst d6
  have HSS := qhd hS; clear hS hd hI
  have h9 := addS (⟨#[99, 108, 97, 115, 115, 32]⟩ ++ x.fName ++ ⟨#[32]⟩) (tx (supW x.fSuper)) (by (try simp only [ByteArray.size_append]); omega) wx
  refine wp_binS rfl (by rfl) (by rfl) (by rfl) h9 ⟨put_defers' _ _ _, ?_⟩
  rw [qae (by simp)]
  exact HSS.out _ _ hC (Below.refl _ _) (by (simp only [qls, Nat.reduceAdd, phF]); exact congrArg Value.string (cls_text x))
 simp only [qnr]
 refine qaa (d := 14) rfl rfl (fun wx hC hI hd S0 hS => ?_) (fun v8 => ?_)
 ·have d7 := hd ⟨7, .data⟩ (by simp) rfl v7 (by simp)
  simp only [phF] at d7
  subst d7
  have HSS := qhd hS; clear hS hd hI
  have hzx := hC.size
  have h9 := run_one1 sty_Str (.string (lineT (clsW x))) rfl wx
  refine wp_buildOne rfl rfl h9 ⟨put_defers' _ _ _, ?_⟩
  rw [qae (by simp)]
  refine HSS.out _ _ (hC.trans (((Below.refl _ _).alloc (Nat.le_refl _) _).mono hC.size)) ((Below.refl _ _).alloc (Nat.le_refl _) _) ?_
  (simp only [qls, Nat.reduceAdd, phF])
  exact ⟨_, rfl, by omega, heap_alloc_new wx _⟩
 simp only [qnr]
 refine qaa (d := 3) rfl rfl (fun wx hC hI hd S0 hS => ?_) (fun v9 => ?_)
 ·have d8 := hd ⟨8, .data⟩ (by simp) rfl v8 (by simp)
  simp only [phF] at d8
  obtain ⟨g, d8, hg1, hg2⟩ := d8
  subst d8
  have HSS := qhd hS; clear hS hd hI
  go_simp
  refine HSS.out _ _ hC (Below.refl _ _) ?_
  (simp only [qls, Nat.reduceAdd, phF])
  exact ⟨g, rfl, hg1, hg2⟩
 simp only [qnr]
 intro wA hC hF
 have g9 := hF 9 v9 (by simp) (fun _ _ => rfl)
 simp only [phF] at g9
 obtain ⟨g, rfl, hg1, hg2⟩ := g9
 have hbA : Below (w.heap.size + 1) wE wA := hC.mono (by omega)
 have hTA : TOwn 1 rStr 9 (w.heap.size + 1) (w.heap.size + 1) wA (.slice (some ⟨g, 0, none⟩) 1 1) [lineT (clsW x)] := TOwn.at1 hg2 (by omega) (by unfold maxLen; omega)
 clear hF hC hg2
 simp only [List.drop_succ_cons, List.drop_zero, List.drop_nil]
 go_wp2_with fail
 go_loopw [3, 4] (fun ov zi wr => ∃ (i : Nat) (v : Value), i ≤ fl ∧ ov = v ∧ zi = .int .i64 i ∧ TOwn 1 rStr 9 (w.heap.size + 1) (w.heap.size + 1) wr v (lineT (clsW x) :: (x.fFields.take i).map (fun f => lineT (fldW f))) ∧ Below (w.heap.size + 1) wE wr) (fun _ zi _ => fl - (intOf zi).toNat)
 case atStart => exact ⟨0, _, Nat.zero_le _, rfl, rfl, hTA, hbA⟩
 case round =>
  clear hTA hbA
  obtain ⟨i, v, hi, rfl, rfl, ht, hb⟩ := hrel
  obtain ⟨va, vn, vc, rfl⟩ := ht.sl.form3
  have HT := qhd ht
  clear ht
  have hbs := hb.size
  have r2 : wr.cell? ⟨w.heap.size, 2, none⟩ = some (.slice fa fl fc) := qap hb (by omega) c2
  have l0 : w.heap.size < wr.heap.size := block_lt_of_cell r2
  by_cases hlt : i < fl
  ·have hlt2 : (i : Int) < (fl : Int) := by omega
   obtain ⟨b, off, rfl, hlo, hbl, hr⟩ := h3 (by omega)
   obtain ⟨f, cs, g0, g1, g2, g3⟩ := hr i hlt
   obtain ⟨rfl, by1, bk⟩ := g3
   have q1 : wr.cell? ⟨b, off + i * 3, none⟩ = some (.string f.fName) := hEw.out _ _ _ hbl (g2 0 _ rfl) wr hb
   have q2 : wr.cell? ⟨b, off + i * 3 + 1, none⟩ = some (.int .i64 f.fKind.fKind) := hEw.out _ _ _ hbl (g2 1 _ rfl) wr hb
   have q3 : wr.cell? ⟨b, off + i * 3 + 2, none⟩ = some (.string f.fKind.fName) := hEw.out _ _ _ hbl (g2 2 _ rfl) wr hb
   have hfo := HX.out.flds f (List.mem_of_getElem? g0)
   have z1 := namOk_six hfo.1
   have z2 := kt_len hfo.2
   have z3 := fld_size hfo
   have NX := qhd (map_next (fun f => lineT (fldW f)) g0)
   have hlr : b < wr.heap.size := by omega
   clear g0 g1 g2 hr hfo
   go_wp2_with fail
   refine qaq 18 (Below wr.heap.size wr) (fun _ w1 w2 => Below w1.heap.size w1 w2) (fun _ => pfF (.slice va vn vc) w.heap.size b off fl fc i f) (fun _ _ => True) noDeadP (by kernel_rfl) (by decide) (by kernel_rfl) (Or.inr ⟨by kernel_rfl, by kernel_rfl⟩) (by kernel_rfl) ((Below.refl _ _).drew) (fun _ _ _ _ _ _ _ _ _ h => h) noDeadP_dead (fun _ => trivial) (fun _ _ _ _ _ _ _ _ => trivial) (fun _ i j u w1 w2 hne _ _ hg hF => pfF_stays i j u w1 w2 hne hg hF) (fun _ _ _ => Below.refl _ _) ?_
   refine qaa (d := 22) rfl rfl (fun wx hC hI hd S0 hS => ?_) (fun v0 => ?_)
   ·have HSS := qhd hS; clear hS hd hI
    go_simp
    exact HSS.out _ _ hC (Below.refl _ _) (by simp [pfF])
   simp only [qnr]
   refine qaa (d := 23) rfl rfl (fun wx hC hI hd S0 hS => ?_) (fun v1 => ?_)
   ·have HSS := qhd hS; clear hS hd hI
    go_simp
    exact HSS.out _ _ hC (Below.refl _ _) (by simp [pfF])
   simp only [qnr]
   refine qaa (d := 24) rfl rfl (fun wx hC hI hd S0 hS => ?_) (fun v2 => ?_)
   ·have d1 := hd ⟨1, .data⟩ (by simp) rfl v1 (by simp)
    simp only [pfF] at d1
    subst d1
    have c1 := qad hC r2
    have HSS := qhd hS; clear hS hd hI
    go_simp
    exact HSS.out _ _ hC (Below.refl _ _) (by simp [pfF])
   simp only [qnr]
   refine qaa (d := 25) rfl rfl (fun wx hC hI hd S0 hS => ?_) (fun v3 => ?_)
   ·have HSS := qhd hS; clear hS hd hI
    go_simp
    exact HSS.out _ _ hC (Below.refl _ _) (by simp [pfF])
   simp only [qnr]
   refine qaa (d := 26) rfl rfl (fun wx hC hI hd S0 hS => ?_) (fun v4 => ?_)
   ·have d2 := hd ⟨2, .data⟩ (by simp) rfl v2 (by simp)
    simp only [pfF] at d2
    subst d2
    have d3 := hd ⟨3, .data⟩ (by simp) rfl v3 (by simp)
    simp only [pfF] at d3
    subst d3
    have HSS := qhd hS; clear hS hd hI
    go_simp
    exact HSS.out _ _ hC (Below.refl _ _) (by simp [pfF])
   simp only [qnr]
   refine qaa (d := 27) rfl rfl (fun wx hC hI hd S0 hS => ?_) (fun v5 => ?_)
   ·have d4 := hd ⟨4, .data⟩ (by simp) rfl v4 (by simp)
    simp only [pfF] at d4
    subst d4
    have HSS := qhd hS; clear hS hd hI
    go_simp
    exact HSS.out _ _ hC (Below.refl _ _) (by simp [pfF])
   simp only [qnr]
   refine qaa (d := 28) rfl rfl (fun wx hC hI hd S0 hS => ?_) (fun v6 => ?_)
   ·have d5 := hd ⟨5, .data⟩ (by simp) rfl v5 (by simp)
    simp only [pfF] at d5
    subst d5
    have c1 := qad hC q1
    have HSS := qhd hS; clear hS hd hI
    go_simp
    exact HSS.out _ _ hC (Below.refl _ _) (by simp [pfF])
   simp only [qnr]
   refine qaa (d := 29) rfl rfl (fun wx hC hI hd S0 hS => ?_) (fun v7 => ?_)
   ·have d6 := hd ⟨6, .data⟩ (by simp) rfl v6 (by simp)
    simp only [pfF] at d6
    subst d6
    have HSS := qhd hS; clear hS hd hI
    have h9 := addS (⟨#[102, 105, 101, 108, 100, 32]⟩) (f.fName) (by (try simp only [ByteArray.size_append]); omega) wx
    refine wp_binS rfl (by rfl) (by rfl) (by rfl) h9 ⟨put_defers' _ _ _, ?_⟩
    rw [qae (by simp)]
    exact HSS.out _ _ hC (Below.refl _ _) (by (simp only [qls, Nat.reduceAdd, pfF]))
   simp only [qnr]
   refine qaa (d := 30) rfl rfl (fun wx hC hI hd S0 hS => ?_) (fun v8 => ?_)
   ·have d7 := hd ⟨7, .data⟩ (by simp) rfl v7 (by simp)
    simp only [pfF] at d7
    subst d7
    have HSS := qhd hS; clear hS hd hI
    have h9 := addS (⟨#[102, 105, 101, 108, 100, 32]⟩ ++ f.fName) (⟨#[32]⟩) (by (try simp only [ByteArray.size_append]); omega) wx
    refine wp_binS rfl (by rfl) (by rfl) (by rfl) h9 ⟨put_defers' _ _ _, ?_⟩
    rw [qae (by simp)]
    exact HSS.out _ _ hC (Below.refl _ _) (by (simp only [qls, Nat.reduceAdd, pfF]))
   simp only [qnr]
   refine qaa (d := 31) rfl rfl (fun wx hC hI hd S0 hS => ?_) (fun v9 => ?_)
   ·have HSS := qhd hS; clear hS hd hI
    go_simp
    exact HSS.out _ _ hC (Below.refl _ _) (by simp [pfF])
   simp only [qnr]
   refine qaa (d := 32) rfl rfl (fun wx hC hI hd S0 hS => ?_) (fun v10 => ?_)
   ·have d9 := hd ⟨9, .data⟩ (by simp) rfl v9 (by simp)
    simp only [pfF] at d9
    subst d9
    have c1 := qad hC r2
    have HSS := qhd hS; clear hS hd hI
    go_simp
    exact HSS.out _ _ hC (Below.refl _ _) (by simp [pfF])
   simp only [qnr]
   refine qaa (d := 33) rfl rfl (fun wx hC hI hd S0 hS => ?_) (fun v11 => ?_)
   ·have HSS := qhd hS; clear hS hd hI
    go_simp
    exact HSS.out _ _ hC (Below.refl _ _) (by simp [pfF])
   simp only [qnr]
   refine qaa (d := 34) rfl rfl (fun wx hC hI hd S0 hS => ?_) (fun v12 => ?_)
   ·have d10 := hd ⟨10, .data⟩ (by simp) rfl v10 (by simp)
    simp only [pfF] at d10
    subst d10
    have d11 := hd ⟨11, .data⟩ (by simp) rfl v11 (by simp)
    simp only [pfF] at d11
    subst d11
    have HSS := qhd hS; clear hS hd hI
    go_simp
    exact HSS.out _ _ hC (Below.refl _ _) (by simp [pfF])
   simp only [qnr]
   refine qaa (d := 35) rfl rfl (fun wx hC hI hd S0 hS => ?_) (fun v13 => ?_)
   ·have d12 := hd ⟨12, .data⟩ (by simp) rfl v12 (by simp)
    simp only [pfF] at d12
    subst d12
    have HSS := qhd hS; clear hS hd hI
    go_simp
    exact HSS.out _ _ hC (Below.refl _ _) (by simp [pfF])
   simp only [qnr]
   refine qaa (d := 36) rfl rfl (fun wx hC hI hd S0 hS => ?_) (fun v14 => ?_)
   ·have d13 := hd ⟨13, .data⟩ (by simp) rfl v13 (by simp)
    simp only [pfF] at d13
    subst d13
    have c1 := qad hC q2; have c2 := qad hC q3
    have HSS := qhd hS; clear hS hd hI
    go_simp
    exact HSS.out _ _ hC (Below.refl _ _) (by simp [pfF])
   simp only [qnr]
   refine qaa (d := 37) rfl rfl (fun wx hC hI hd S0 hS => ?_) (fun v15 => ?_)
   ·have d14 := hd ⟨14, .data⟩ (by simp) rfl v14 (by simp)
    simp only [pfF] at d14
    subst d14
    have HSS := qhd hS; clear hS hd hI
    go_simp
    refine (S_KndText _ _ _ bk).mono ?_
    rintro _ w' ⟨rfl, hX⟩
    exact HSS.out _ _ (hC.trans (hX.mono hC.size)) hX (by simp [pfF])
   simp only [qnr]
   refine qaa (d := 38) rfl rfl (fun wx hC hI hd S0 hS => ?_) (fun v16 => ?_)
   ·have d8 := hd ⟨8, .data⟩ (by simp) rfl v8 (by simp)
    simp only [pfF] at d8
    subst d8
    have d15 := hd ⟨15, .data⟩ (by simp) rfl v15 (by simp)
    simp only [pfF] at d15
    subst d15
    have HSS := qhd hS; clear hS hd hI
    have h9 := addS (⟨#[102, 105, 101, 108, 100, 32]⟩ ++ f.fName ++ ⟨#[32]⟩) (kndText f.fKind.fKind f.fKind.fName) (by (try simp only [ByteArray.size_append]); omega) wx
    refine wp_binS rfl (by rfl) (by rfl) (by rfl) h9 ⟨put_defers' _ _ _, ?_⟩
    rw [qae (by simp)]
    exact HSS.out _ _ hC (Below.refl _ _) (by (simp only [qls, Nat.reduceAdd, pfF]); exact congrArg Value.string (fld_text f))
   simp only [qnr]
   refine qaa (d := 39) rfl rfl (fun wx hC hI hd S0 hS => ?_) (fun v17 => ?_)
   ·have d16 := hd ⟨16, .data⟩ (by simp) rfl v16 (by simp)
    simp only [pfF] at d16
    subst d16
    have HSS := qhd hS; clear hS hd hI
    have h9 := run_one1 sty_Str (.string (lineT (fldW f))) rfl wx
    refine wp_buildOne rfl rfl h9 ⟨put_defers' _ _ _, ?_⟩
    rw [qae (by simp)]
    refine HSS.out _ _ (hC.trans (((Below.refl _ _).alloc (Nat.le_refl _) _).mono hC.size)) ((Below.refl _ _).alloc (Nat.le_refl _) _) ?_
    (simp only [qls, Nat.reduceAdd, pfF])
    exact Src.new (k := 1) (cs := [.string (lineT (fldW f))])
   simp only [qnr]
   intro wF hC hF
   have g0 := hF 0 v0 (by simp) (fun _ _ => rfl)
   have g17 := hF 17 v17 (by simp) (fun _ _ => rfl)
   simp only [pfF] at g0 g17
   subst g0
   have hsF := hC.size
   have hwz : w.heap.size + 1 ≤ wF.heap.size := by omega
   have hvv := HT.out.below qaj hC
   clear hF
   simp only [List.drop_succ_cons, List.drop_zero]
   refine qai (B := w.heap.size + 1) (lo := w.heap.size + 1) (R := rStr) (E := NoT) (xs := lineT (clsW x) :: (x.fFields.take i).map (fun f => lineT (fldW f))) (ys := [lineT (fldW f)]) (css := [[.string (lineT (fldW f))]]) (by rfl) (.tmp 22) (.tmp 39) 28 (by rfl) sty_Str qaj (fun h => h) rStr_one (by rfl) (by rfl) (hvv) (g17) (Rows.one rfl ⟨rfl, by unfold maxLen; omega⟩) (by have := hlt; simp only [List.length_append, List.length_cons, List.length_map, List.length_take, List.length_nil]; omega) (Nat.le_refl _) (hwz) ?_
   intro v9 wG htG hbG hgG hkG hatG
   have hBG : Below (w.heap.size + 1) wE wG := (hb.trans (hC.mono (by omega))).trans hbG
   rw [List.cons_append, ← NX.out] at htG
   clear hC hbG hgG hkG hatG hvv g17
   go_wp2
   go_roundw
   case measure => simp [intOf]; omega
   case rel => exact ⟨i + 1, _, by omega, rfl, by go_num, htG, hBG⟩
  ·obtain rfl : i = fl := by omega
   have RV : Hid (x.fFields.take i = x.fFields) := qhd (List.take_of_length_le (by rw [HL.out]; exact Nat.le_refl _))
   have HT2 := HT.out
   rw [RV.out] at HT2
   clear HT RV
   go_wp2_with fail
   go_loopw [3, 5] (fun ov zi wr => ∃ (j : Nat) (v : Value) (xs : List ByteArray), j ≤ ml ∧ ov = v ∧ zi = .int .i64 j ∧ TOwn 1 rStr 9 (w.heap.size + 1) (w.heap.size + 1) wr v xs ∧ Hid (xs = (lineT (clsW x) :: x.fFields.map (fun f => lineT (fldW f))) ++ ((x.fMethods.take j).flatMap mthWs).map lineT) ∧ xs.length ≤ 4 + 22 * j ∧ Below (w.heap.size + 1) wE wr) (fun _ zi _ => ml - (intOf zi).toNat)
   case atStart => exact ⟨0, _, _, Nat.zero_le _, rfl, rfl, HT2, qhd (by simp), by have := HL.out; simp; omega, hb⟩
   case round =>
    clear HT2 hb hbs r2 l0
    obtain ⟨j, v, xs, hj, rfl, rfl, ht, hxs, hxl, hb⟩ := hrel
    obtain ⟨va, vn, vc, rfl⟩ := ht.sl.form3
    have HT := qhd ht
    clear ht
    have hbs := hb.size
    have r3 : wr.cell? ⟨w.heap.size, 3, none⟩ = some (.slice ma ml mc) := qap hb (by omega) c3
    have l0 : w.heap.size < wr.heap.size := block_lt_of_cell r3
    by_cases hlt : j < ml
    ·have hlt2 : (j : Int) < (ml : Int) := by omega
     obtain ⟨b, off, rfl, hlo, hbl, hr⟩ := hm3 (by omega)
     obtain ⟨m, cs, g0, g1, g2, g3⟩ := hr j hlt
     obtain ⟨u1, u2, u3, rfl, t1, t2, t3, bx1, bx2⟩ := g3
     obtain ⟨a1, n1, k1, rfl⟩ := t1.form
     obtain ⟨a2, n2, k2, rfl⟩ := t2.form
     obtain ⟨a3, n3, k3, rfl⟩ := t3.form
     have q0 : wr.cell? ⟨b, off + j * 8, none⟩ = some (.string m.fName) := hEw.out _ _ _ hbl (g2 0 _ rfl) wr hb
     have q1 : wr.cell? ⟨b, off + j * 8 + 1, none⟩ = some (.slice a1 n1 k1) := hEw.out _ _ _ hbl (g2 1 _ rfl) wr hb
     have q2 : wr.cell? ⟨b, off + j * 8 + 2, none⟩ = some (.int .i64 m.fRet.fKind) := hEw.out _ _ _ hbl (g2 2 _ rfl) wr hb
     have q3 : wr.cell? ⟨b, off + j * 8 + 3, none⟩ = some (.string m.fRet.fName) := hEw.out _ _ _ hbl (g2 3 _ rfl) wr hb
     have q4 : wr.cell? ⟨b, off + j * 8 + 4, none⟩ = some (.int .i64 m.fLocals) := hEw.out _ _ _ hbl (g2 4 _ rfl) wr hb
     have q5 : wr.cell? ⟨b, off + j * 8 + 5, none⟩ = some (.int .i64 m.fStack) := hEw.out _ _ _ hbl (g2 5 _ rfl) wr hb
     have q6 : wr.cell? ⟨b, off + j * 8 + 6, none⟩ = some (.slice a2 n2 k2) := hEw.out _ _ _ hbl (g2 6 _ rfl) wr hb
     have q7 : wr.cell? ⟨b, off + j * 8 + 7, none⟩ = some (.slice a3 n3 k3) := hEw.out _ _ _ hbl (g2 7 _ rfl) wr hb
     have hmp := mth_parts (HX.out.mths m (List.mem_of_getElem? g0))
     have hml22 := mthWs_len hmp
     have CM : ∀ W, Below w.heap.size w W → Calls Tryz.prog 46 #[.agg #[.string m.fName, .slice a1 n1 k1, .int .i64 m.fRet.fKind, .string m.fRet.fName, .int .i64 m.fLocals, .int .i64 m.fStack, .slice a2 n2 k2, .slice a3 n3 k3]] W fun e w' => (∃ v, e = .returned v ∧ TOwn 1 rStr 9 (W.heap.size + 1) (W.heap.size + 1) w' v ((mthWs m).map lineT)) ∧ Below W.heap.size W w' := fun W hW =>
      S_l8Method m _ _ _ W (t1.stays qas (Keeps.of_below hW)) (t2.stays qba (Keeps.of_below hW)) (t3.stays qaz (Keeps.of_below hW)) bx1 bx2 hmp
     have NX : Hid (((x.fMethods.take (j + 1)).flatMap mthWs).map lineT = ((x.fMethods.take j).flatMap mthWs).map lineT ++ (mthWs m).map lineT) := qhd (by rw [flat_next mthWs g0, List.map_append])
     have hlr : b < wr.heap.size := by omega
     clear g0 g1 g2 hr hmp t1 t2 t3
     go_wp2_with fail
     refine (CM _ (hEb.out _ hb)).mono ?_
     rintro _ w1 ⟨⟨v8, rfl, h8⟩, d1⟩
     obtain ⟨css, hsrc, hrows⟩ := h8.sl.src
     have d1s := (d1).size; (try simp only [qsz] at d1s)
     have hb1 : Below (w.heap.size + 1) wE w1 := hb.trans (d1.mono (by omega))
     have HT1 := qhd (HT.out.below qaj d1)
     have HSRC := qhd hsrc
     have HROWS := qhd hrows
     clear CM d1 h8 hsrc hrows
     go_wp2_with (at_builtin; refine qai (B := w.heap.size + 1) (lo := w.heap.size + 1) (R := rStr) (E := NoT) (xs := xs) (ys := (mthWs m).map lineT) (css := css) (by rfl) (.tmp 48) (.tmp 54) 28 (by rfl) sty_Str qaj (fun h => h) rStr_one (by rfl) (by rfl) (HT1.out) (HSRC.out) (HROWS.out.mono fun cs x h => h) (by rw [List.length_map]; omega) (Nat.le_refl _) (by omega) ?_)
     intro v9 wG htG hbG hgG hkG hatG
     have hBG : Below (w.heap.size + 1) wE wG := hb1.trans hbG
     have HXS : Hid (xs ++ (mthWs m).map lineT = (lineT (clsW x) :: x.fFields.map (fun f => lineT (fldW f))) ++ ((x.fMethods.take (j + 1)).flatMap mthWs).map lineT) := qhd (by rw [NX.out, hxs.out, List.append_assoc])
     have hxl2 : (xs ++ (mthWs m).map lineT).length ≤ 4 + 22 * (j + 1) := by rw [List.length_append, List.length_map]; omega
     have HTG := qhd htG
     clear hbG hgG hkG hatG htG
     go_wp2
     go_roundw
     case measure => simp [intOf]; omega
     case rel => exact ⟨j + 1, _, _, by omega, rfl, by go_num, HTG.out, HXS, hxl2, hBG⟩
    ·obtain rfl : j = ml := by omega
     have RV : Hid (xs = (clsWs x).map lineT) := qhd (by
      rw [hxs.out, List.take_of_length_le (by rw [HML.out]; exact Nat.le_refl _)]
      simp [clsWs, List.map_map, Function.comp_def])
     have HT2 := HT.out
     rw [RV.out] at HT2
     have HE := qhd (hEb.out _ hb)
     go_wp2
     all_goals (try go_returns)
     all_goals exact HR.out _ _ ⟨⟨_, rfl, HT2⟩, HE.out⟩


theorem S_LodPrint (p : DLodPlan) (v1 : Value) (w : World) (s1 : Sl 2 rLodKeeper 0 w v1 p.fKeepers) :
  Calls Tryz.prog 8 #[.agg #[v1]] w fun e w' => (∃ v, e = .returned v ∧ TOwn 1 rStr 9 (w.heap.size + 1) (w.heap.size + 1) w' v (planLines p)) ∧ Below w.heap.size w w' := by
 obtain ⟨a, len, cap, rfl, hl, h1, h2, h3⟩ := id s1
 have m1 : len ≤ 9223372036854775807 := by unfold maxLen at h2; omega
 have HL := qhd hl
 have HS := qhd s1
 clear h2 hl h1
 refine qac fun R HR => ?_
 go_enter Tryz.func8, Tryz.ntmps8
 go_wp2_with fail
 obtain ⟨wE, hwE⟩ : ∃ wE, wE = (w.alloc (.cells #[.slice a len cap] 25)).alloc (.cells #[] 9) := ⟨_, rfl⟩
 rw [← hwE]
 have hBE : Below w.heap.size w wE := by rw [hwE]; exact bbel
 have hsE : wE.heap.size = w.heap.size + 1 + 1 := by rw [hwE]; simp
 have c0 : wE.cell? ⟨w.heap.size, 0, none⟩ = some (.slice a len cap) := by rw [hwE]; go_simp
 have hT : TOwn 1 rStr 9 (w.heap.size + 1) (w.heap.size + 1) wE (.slice (some ⟨w.heap.size + 1, 0, none⟩) 0 0) ([] : List ByteArray) := by
  rw [hwE]
  have := (Empty0.new (w.alloc (.cells #[.slice a len cap] 25)) 9 (B := w.heap.size + 1) (by simp)).own (α := ByteArray) (k := 1) (R := rStr) (lo := w.heap.size + 1) (Nat.le_refl _)
  simpa using this
 clear hwE
 refine (S_LodOk p _ _ (HS.out.stays rLodKeeper_good (Keeps.of_below hBE))).mono ?_
 rintro _ w1 ⟨rfl, hb1⟩
 have hs1 := hb1.size
 have c1 := qad hb1 c0
 have hB1 : Below w.heap.size w w1 := hBE.trans (hb1.mono hBE.size)
 have hT1 := hT.below qaj hb1
 clear c0 hT hb1
 cases hok : lodOk p
 ·have RV : Hid (planLines p = []) := qhd (by unfold planLines; rw [hok]; rfl)
  clear hok
  go_wp2
  all_goals (try go_returns)
  all_goals exact HR.out _ _ ⟨⟨_, rfl, by rw [RV.out]; exact hT1⟩, hB1⟩
 have RVL : Hid (planLines p = (planWs p).map lineT) := qhd (by unfold planLines; rw [hok]; rfl)
 obtain ⟨hn3, hks⟩ := plan_len hok
 have hlen3 : len ≤ 3 := by have := HL.out; omega
 have HKS := qhd hks
 have HN3 := qhd hn3
 have hEw : Hid (∀ (g o : Nat) (u : Value), g < w.heap.size → w.cell? ⟨g, o, none⟩ = some u → ∀ W, Below (w.heap.size + 1) w1 W → W.cell? ⟨g, o, none⟩ = some u) := qhd fun g o u hg hu W hW => qap hW (by omega) (qap hB1 hg hu)
 have hEb : Hid (∀ W, Below (w.heap.size + 1) w1 W → Below w.heap.size w W) := qhd fun W hW => hB1.trans (hW.mono (by omega))
 clear hok hks hn3
 go_wp2_with fail
 go_loopw [3, 4] (fun ov zi wr => ∃ (i : Nat) (v : Value) (xs : List ByteArray), i ≤ len ∧ ov = v ∧ zi = .int .i64 i ∧ TOwn 1 rStr 9 (w.heap.size + 1) (w.heap.size + 1) wr v xs ∧ Hid (xs = ((p.fKeepers.take i).flatMap kprWs).map lineT) ∧ xs.length ≤ 500 * i ∧ Below (w.heap.size + 1) w1 wr) (fun _ zi _ => len - (intOf zi).toNat)
 case atStart => exact ⟨0, _, [], Nat.zero_le _, rfl, rfl, hT1, qhd rfl, by simp, Below.refl _ _⟩
 case round =>
  clear hT1
  obtain ⟨i, v, xs, hi, rfl, rfl, ht, hxs, hxl, hb⟩ := hrel
  obtain ⟨va, vn, vc, rfl⟩ := ht.sl.form3
  have HT := qhd ht
  clear ht
  have hbs := hb.size
  have r0 : wr.cell? ⟨w.heap.size, 0, none⟩ = some (.slice a len cap) := qap hb (by omega) c1
  have l0 : w.heap.size < wr.heap.size := block_lt_of_cell r0
  by_cases hlt : i < len
  ·have hlt2 : (i : Int) < (len : Int) := by omega
   obtain ⟨b, off, rfl, hlo, hbl, hr⟩ := h3 (by omega)
   obtain ⟨k, cs, e0, e1, e2, e3⟩ := hr i hlt
   obtain ⟨x1, x2, rfl, t1, t2⟩ := e3
   have HKP : Hid (KprP p.fKeepers.length k) := qhd (HKS.out k (List.mem_of_getElem? e0))
   obtain ⟨oa, ol, oc, rfl, hol, ho1, ho2, ho3⟩ := id t1
   obtain ⟨aa, al, ac, rfl, hal, ha1, ha2, ha3⟩ := id t2
   have mo : ol ≤ 9223372036854775807 := by unfold maxLen at ho2; omega
   have ma : al ≤ 9223372036854775807 := by unfold maxLen at ha2; omega
   have ho5 : ol ≤ 5 := by have := HKP.out.olen; omega
   have ha4 : al ≤ 4 := by have := HKP.out.alen; omega
   have HOL := qhd hol
   have HAL := qhd hal
   have Q0 := qhd (e2 0 _ rfl)
   have Q1 := qhd (e2 1 _ rfl)
   have NXK : Hid (((p.fKeepers.take (i + 1)).flatMap kprWs).map lineT = xs ++ (kprWs k).map lineT) := qhd (by rw [flat_next kprWs e0, List.map_append, hxs.out])
   clear e0 e1 e2 hr t1 t2 hol hal ho1 ho2 ha1 ha2
   go_wp2_with (at_builtin; refine qai (B := w.heap.size + 1) (lo := w.heap.size + 1) (R := rStr) (E := NoT) (xs := xs) (ys := [lineT [wKeeper]]) (css := [[.string (lineT [wKeeper])]]) (by rfl) (.tmp 19) (.tmp 20) 28 (by rfl) sty_Str qaj (fun h => h) rStr_one (by rfl) (by rfl) (HT.out.below qaj ((Below.refl _ _).alloc (Nat.le_refl _) _)) (Src.new (k := 1) (cs := [.string (lineT [wKeeper])])) (Rows.one rfl ⟨rfl, by decide⟩) (by simp only [List.length_cons, List.length_nil]; omega) (Nat.le_refl _) (by simp; omega) ?_)
   intro v9 wG htG hbG hgG hkG hatG
   have hBG : Below (w.heap.size + 1) w1 wG := (hb.trans ((Below.refl _ _).alloc (by omega) _)).trans hbG
   have HTG := qhd htG
   clear hbG hgG hkG hatG htG HT
   go_wp2_with fail
   go_loopw [3, 5] (fun ov zj wr => ∃ (j : Nat) (v : Value), j ≤ al ∧ ov = v ∧ zj = .int .i64 j ∧ TOwn 1 rStr 9 (w.heap.size + 1) (w.heap.size + 1) wr v ((xs ++ [lineT [wKeeper]]) ++ (k.fAsks.take j).map (fun f => lineT (askW f))) ∧ Below (w.heap.size + 1) w1 wr) (fun _ zj _ => al - (intOf zj).toNat)
   case atStart => exact ⟨0, _, Nat.zero_le _, rfl, rfl, by simpa using HTG.out, hBG⟩
   case round =>
    clear HTG hBG hb hbs r0 l0
    obtain ⟨j, v, hj, rfl, rfl, ht, hb⟩ := hrel
    obtain ⟨va, vn, vc, rfl⟩ := ht.sl.form3
    have HT := qhd ht
    clear ht
    have hbs := hb.size
    have r0 : wr.cell? ⟨w.heap.size, 0, none⟩ = some (.slice (some ⟨b, off, none⟩) len cap) := qap hb (by omega) c1
    have l0 : w.heap.size < wr.heap.size := block_lt_of_cell r0
    have q0 : wr.cell? ⟨b, off + i * 2, none⟩ = some (.slice oa ol oc) := hEw.out _ _ _ hbl Q0.out wr hb
    have q1 : wr.cell? ⟨b, off + i * 2 + 1, none⟩ = some (.slice aa al ac) := hEw.out _ _ _ hbl Q1.out wr hb
    have hlr : b < wr.heap.size := by omega
    by_cases hlj : j < al
    ·have hlj2 : (j : Int) < (al : Int) := by omega
     obtain ⟨ab, ao, rfl, _, habl, har⟩ := ha3 (by omega)
     obtain ⟨f, cs, g0, g1, g2, g3⟩ := har j hlj
     obtain ⟨rfl, bf⟩ := g3
     have p1 : wr.cell? ⟨ab, ao + j * 2, none⟩ = some (.string f.fName) := hEw.out _ _ _ habl (g2 0 _ rfl) wr hb
     have p2 : wr.cell? ⟨ab, ao + j * 2 + 1, none⟩ = some (.int .i64 f.fKeeper) := hEw.out _ _ _ habl (g2 1 _ rfl) wr hb
     have hfo := HKP.out.asks f (List.mem_of_getElem? g0)
     have hak : 0 ≤ f.fKeeper ∧ f.fKeeper ≤ 9999 := by have := HN3.out; omega
     have z1 := namOk_six hfo.1
     have z2 := num_size (n := f.fKeeper) (by omega)
     have z3 := ask_size HN3.out hfo
     have z4 : (⟨#[97, 115, 107, 115, 32]⟩ : ByteArray).size = 5 := rfl
     have z5 : (⟨#[32]⟩ : ByteArray).size = 1 := rfl
     have NX := qhd (map_next (fun f => lineT (askW f)) g0)
     have hlb : ab < wr.heap.size := by omega
     clear g0 g1 g2 har hfo
     go_wp2_with fail
     refine qaq 26 (Below wr.heap.size wr) (fun _ w1 w2 => Below w1.heap.size w1 w2) (fun _ => paF (.slice va vn vc) w.heap.size b off len cap i ab ao al ac j f) (fun _ _ => True) noDeadP (by kernel_rfl) (by decide) (by kernel_rfl) (Or.inr ⟨by kernel_rfl, by kernel_rfl⟩) (by kernel_rfl) ((Below.refl _ _).drew) (fun _ _ _ _ _ _ _ _ _ h => h) noDeadP_dead (fun _ => trivial) (fun _ _ _ _ _ _ _ _ => trivial) (fun _ i j u w1 w2 hne _ _ hg hF => paF_stays i j u w1 w2 hne hg hF) (fun _ _ _ => Below.refl _ _) ?_
     refine qaa (d := 33) rfl rfl (fun wx hC hI hd S0 hS => ?_) (fun v0 => ?_)
     ·have HSS := qhd hS; clear hS hd hI
      go_simp
      exact HSS.out _ _ hC (Below.refl _ _) (by simp [paF])
     simp only [qnr]
     refine qaa (d := 34) rfl rfl (fun wx hC hI hd S0 hS => ?_) (fun v1 => ?_)
     ·have HSS := qhd hS; clear hS hd hI
      go_simp
      exact HSS.out _ _ hC (Below.refl _ _) (by simp [paF])
     simp only [qnr]
     refine qaa (d := 35) rfl rfl (fun wx hC hI hd S0 hS => ?_) (fun v2 => ?_)
     ·have d1 := hd ⟨1, .data⟩ (by simp) rfl v1 (by simp)
      simp only [paF] at d1
      subst d1
      have c1 := qad hC r0
      have HSS := qhd hS; clear hS hd hI
      go_simp
      exact HSS.out _ _ hC (Below.refl _ _) (by simp [paF])
     simp only [qnr]
     refine qaa (d := 36) rfl rfl (fun wx hC hI hd S0 hS => ?_) (fun v3 => ?_)
     ·have HSS := qhd hS; clear hS hd hI
      go_simp
      exact HSS.out _ _ hC (Below.refl _ _) (by simp [paF])
     simp only [qnr]
     refine qaa (d := 37) rfl rfl (fun wx hC hI hd S0 hS => ?_) (fun v4 => ?_)
     ·have d2 := hd ⟨2, .data⟩ (by simp) rfl v2 (by simp)
      simp only [paF] at d2
      subst d2
      have d3 := hd ⟨3, .data⟩ (by simp) rfl v3 (by simp)
      simp only [paF] at d3
      subst d3
      have HSS := qhd hS; clear hS hd hI
      go_simp
      exact HSS.out _ _ hC (Below.refl _ _) (by simp [paF])
     simp only [qnr]
     refine qaa (d := 38) rfl rfl (fun wx hC hI hd S0 hS => ?_) (fun v5 => ?_)
     ·have d4 := hd ⟨4, .data⟩ (by simp) rfl v4 (by simp)
      simp only [paF] at d4
      subst d4
      have HSS := qhd hS; clear hS hd hI
      go_simp
      exact HSS.out _ _ hC (Below.refl _ _) (by simp [paF])
     simp only [qnr]
     refine qaa (d := 39) rfl rfl (fun wx hC hI hd S0 hS => ?_) (fun v6 => ?_)
     ·have d5 := hd ⟨5, .data⟩ (by simp) rfl v5 (by simp)
      simp only [paF] at d5
      subst d5
      have c1 := qad hC q1
      have HSS := qhd hS; clear hS hd hI
      go_simp
      exact HSS.out _ _ hC (Below.refl _ _) (by simp [paF])
     simp only [qnr]
     refine qaa (d := 40) rfl rfl (fun wx hC hI hd S0 hS => ?_) (fun v7 => ?_)
     ·have HSS := qhd hS; clear hS hd hI
      go_simp
      exact HSS.out _ _ hC (Below.refl _ _) (by simp [paF])
     simp only [qnr]
     refine qaa (d := 41) rfl rfl (fun wx hC hI hd S0 hS => ?_) (fun v8 => ?_)
     ·have d6 := hd ⟨6, .data⟩ (by simp) rfl v6 (by simp)
      simp only [paF] at d6
      subst d6
      have d7 := hd ⟨7, .data⟩ (by simp) rfl v7 (by simp)
      simp only [paF] at d7
      subst d7
      have HSS := qhd hS; clear hS hd hI
      go_simp
      exact HSS.out _ _ hC (Below.refl _ _) (by simp [paF])
     simp only [qnr]
     refine qaa (d := 42) rfl rfl (fun wx hC hI hd S0 hS => ?_) (fun v9 => ?_)
     ·have d8 := hd ⟨8, .data⟩ (by simp) rfl v8 (by simp)
      simp only [paF] at d8
      subst d8
      have HSS := qhd hS; clear hS hd hI
      go_simp
      exact HSS.out _ _ hC (Below.refl _ _) (by simp [paF])
     simp only [qnr]
     refine qaa (d := 43) rfl rfl (fun wx hC hI hd S0 hS => ?_) (fun v10 => ?_)
     ·have d9 := hd ⟨9, .data⟩ (by simp) rfl v9 (by simp)
      simp only [paF] at d9
      subst d9
      have c1 := qad hC p1
      have HSS := qhd hS; clear hS hd hI
      go_simp
      exact HSS.out _ _ hC (Below.refl _ _) (by simp [paF])
     simp only [qnr]
     refine qaa (d := 44) rfl rfl (fun wx hC hI hd S0 hS => ?_) (fun v11 => ?_)
     ·have d10 := hd ⟨10, .data⟩ (by simp) rfl v10 (by simp)
      simp only [paF] at d10
      subst d10
      have HSS := qhd hS; clear hS hd hI
      have h9 := addS (⟨#[97, 115, 107, 115, 32]⟩) (f.fName) (by (try simp only [ByteArray.size_append]); omega) wx
      refine wp_binS rfl (by rfl) (by rfl) (by rfl) h9 ⟨put_defers' _ _ _, ?_⟩
      rw [qae (by simp)]
      exact HSS.out _ _ hC (Below.refl _ _) (by (simp only [qls, Nat.reduceAdd, paF]))
     simp only [qnr]
     refine qaa (d := 45) rfl rfl (fun wx hC hI hd S0 hS => ?_) (fun v12 => ?_)
     ·have d11 := hd ⟨11, .data⟩ (by simp) rfl v11 (by simp)
      simp only [paF] at d11
      subst d11
      have HSS := qhd hS; clear hS hd hI
      have h9 := addS (⟨#[97, 115, 107, 115, 32]⟩ ++ f.fName) (⟨#[32]⟩) (by (try simp only [ByteArray.size_append]); omega) wx
      refine wp_binS rfl (by rfl) (by rfl) (by rfl) h9 ⟨put_defers' _ _ _, ?_⟩
      rw [qae (by simp)]
      exact HSS.out _ _ hC (Below.refl _ _) (by (simp only [qls, Nat.reduceAdd, paF]))
     simp only [qnr]
     refine qaa (d := 46) rfl rfl (fun wx hC hI hd S0 hS => ?_) (fun v13 => ?_)
     ·have HSS := qhd hS; clear hS hd hI
      go_simp
      exact HSS.out _ _ hC (Below.refl _ _) (by simp [paF])
     simp only [qnr]
     refine qaa (d := 47) rfl rfl (fun wx hC hI hd S0 hS => ?_) (fun v14 => ?_)
     ·have d13 := hd ⟨13, .data⟩ (by simp) rfl v13 (by simp)
      simp only [paF] at d13
      subst d13
      have c1 := qad hC r0
      have HSS := qhd hS; clear hS hd hI
      go_simp
      exact HSS.out _ _ hC (Below.refl _ _) (by simp [paF])
     simp only [qnr]
     refine qaa (d := 48) rfl rfl (fun wx hC hI hd S0 hS => ?_) (fun v15 => ?_)
     ·have HSS := qhd hS; clear hS hd hI
      go_simp
      exact HSS.out _ _ hC (Below.refl _ _) (by simp [paF])
     simp only [qnr]
     refine qaa (d := 49) rfl rfl (fun wx hC hI hd S0 hS => ?_) (fun v16 => ?_)
     ·have d14 := hd ⟨14, .data⟩ (by simp) rfl v14 (by simp)
      simp only [paF] at d14
      subst d14
      have d15 := hd ⟨15, .data⟩ (by simp) rfl v15 (by simp)
      simp only [paF] at d15
      subst d15
      have HSS := qhd hS; clear hS hd hI
      go_simp
      exact HSS.out _ _ hC (Below.refl _ _) (by simp [paF])
     simp only [qnr]
     refine qaa (d := 50) rfl rfl (fun wx hC hI hd S0 hS => ?_) (fun v17 => ?_)
     ·have d16 := hd ⟨16, .data⟩ (by simp) rfl v16 (by simp)
      simp only [paF] at d16
      subst d16
      have HSS := qhd hS; clear hS hd hI
      go_simp
      exact HSS.out _ _ hC (Below.refl _ _) (by simp [paF])
     simp only [qnr]
     refine qaa (d := 51) rfl rfl (fun wx hC hI hd S0 hS => ?_) (fun v18 => ?_)
     ·have d17 := hd ⟨17, .data⟩ (by simp) rfl v17 (by simp)
      simp only [paF] at d17
      subst d17
      have c1 := qad hC q1
      have HSS := qhd hS; clear hS hd hI
      go_simp
      exact HSS.out _ _ hC (Below.refl _ _) (by simp [paF])
     simp only [qnr]
     refine qaa (d := 52) rfl rfl (fun wx hC hI hd S0 hS => ?_) (fun v19 => ?_)
     ·have HSS := qhd hS; clear hS hd hI
      go_simp
      exact HSS.out _ _ hC (Below.refl _ _) (by simp [paF])
     simp only [qnr]
     refine qaa (d := 53) rfl rfl (fun wx hC hI hd S0 hS => ?_) (fun v20 => ?_)
     ·have d18 := hd ⟨18, .data⟩ (by simp) rfl v18 (by simp)
      simp only [paF] at d18
      subst d18
      have d19 := hd ⟨19, .data⟩ (by simp) rfl v19 (by simp)
      simp only [paF] at d19
      subst d19
      have HSS := qhd hS; clear hS hd hI
      go_simp
      exact HSS.out _ _ hC (Below.refl _ _) (by simp [paF])
     simp only [qnr]
     refine qaa (d := 54) rfl rfl (fun wx hC hI hd S0 hS => ?_) (fun v21 => ?_)
     ·have d20 := hd ⟨20, .data⟩ (by simp) rfl v20 (by simp)
      simp only [paF] at d20
      subst d20
      have HSS := qhd hS; clear hS hd hI
      go_simp
      exact HSS.out _ _ hC (Below.refl _ _) (by simp [paF])
     simp only [qnr]
     refine qaa (d := 55) rfl rfl (fun wx hC hI hd S0 hS => ?_) (fun v22 => ?_)
     ·have d21 := hd ⟨21, .data⟩ (by simp) rfl v21 (by simp)
      simp only [paF] at d21
      subst d21
      have c1 := qad hC p2
      have HSS := qhd hS; clear hS hd hI
      go_simp
      exact HSS.out _ _ hC (Below.refl _ _) (by simp [paF])
     simp only [qnr]
     refine qaa (d := 56) rfl rfl (fun wx hC hI hd S0 hS => ?_) (fun v23 => ?_)
     ·have d22 := hd ⟨22, .data⟩ (by simp) rfl v22 (by simp)
      simp only [paF] at d22
      subst d22
      have HSS := qhd hS; clear hS hd hI
      go_simp
      refine (P_l1Plain f.fKeeper _ hak).mono ?_
      rintro _ w' ⟨rfl, hX⟩
      exact HSS.out _ _ (hC.trans (hX.mono hC.size)) hX (by simp [paF])
     simp only [qnr]
     refine qaa (d := 57) rfl rfl (fun wx hC hI hd S0 hS => ?_) (fun v24 => ?_)
     ·have d12 := hd ⟨12, .data⟩ (by simp) rfl v12 (by simp)
      simp only [paF] at d12
      subst d12
      have d23 := hd ⟨23, .data⟩ (by simp) rfl v23 (by simp)
      simp only [paF] at d23
      subst d23
      have HSS := qhd hS; clear hS hd hI
      have h9 := addS (⟨#[97, 115, 107, 115, 32]⟩ ++ f.fName ++ ⟨#[32]⟩) (tx (numText f.fKeeper)) (by (try simp only [ByteArray.size_append]); omega) wx
      refine wp_binS rfl (by rfl) (by rfl) (by rfl) h9 ⟨put_defers' _ _ _, ?_⟩
      rw [qae (by simp)]
      exact HSS.out _ _ hC (Below.refl _ _) (by (simp only [qls, Nat.reduceAdd, paF]); exact congrArg Value.string (ask_text f))
     simp only [qnr]
     refine qaa (d := 58) rfl rfl (fun wx hC hI hd S0 hS => ?_) (fun v25 => ?_)
     ·have d24 := hd ⟨24, .data⟩ (by simp) rfl v24 (by simp)
      simp only [paF] at d24
      subst d24
      have HSS := qhd hS; clear hS hd hI
      have h9 := run_one1 sty_Str (.string (lineT (askW f))) rfl wx
      refine wp_buildOne rfl rfl h9 ⟨put_defers' _ _ _, ?_⟩
      rw [qae (by simp)]
      refine HSS.out _ _ (hC.trans (((Below.refl _ _).alloc (Nat.le_refl _) _).mono hC.size)) ((Below.refl _ _).alloc (Nat.le_refl _) _) ?_
      (simp only [qls, Nat.reduceAdd, paF])
      exact Src.new (k := 1) (cs := [.string (lineT (askW f))])
     simp only [qnr]
     intro wF hC hF
     have g0 := hF 0 v0 (by simp) (fun _ _ => rfl)
     have g25 := hF 25 v25 (by simp) (fun _ _ => rfl)
     simp only [paF] at g0 g25
     subst g0
     have hsF := hC.size
     have hwz : w.heap.size + 1 ≤ wF.heap.size := by omega
     have hvv := HT.out.below qaj hC
     clear hF
     simp only [List.drop_succ_cons, List.drop_zero]
     refine qai (B := w.heap.size + 1) (lo := w.heap.size + 1) (R := rStr) (E := NoT) (xs := (xs ++ [lineT [wKeeper]]) ++ (k.fAsks.take j).map (fun f => lineT (askW f))) (ys := [lineT (askW f)]) (css := [[.string (lineT (askW f))]]) (by rfl) (.tmp 33) (.tmp 58) 28 (by rfl) sty_Str qaj (fun h => h) rStr_one (by rfl) (by rfl) (hvv) (g25) (Rows.one rfl ⟨rfl, by unfold maxLen; omega⟩) (by have := hxl; simp only [List.length_append, List.length_cons, List.length_map, List.length_take, List.length_nil]; omega) (Nat.le_refl _) (hwz) ?_
     intro v9 wG htG hbG hgG hkG hatG
     have hBG : Below (w.heap.size + 1) w1 wG := (hb.trans (hC.mono (by omega))).trans hbG
     have HTG : Hid (TOwn 1 rStr 9 (w.heap.size + 1) (w.heap.size + 1) wG v9 ((xs ++ [lineT [wKeeper]]) ++ (k.fAsks.take (j + 1)).map (fun f => lineT (askW f)))) := qhd (by rw [NX.out]; simpa using htG)
     clear hC hbG hgG hkG hatG hvv g25 htG
     go_wp2
     go_roundw
     case measure => simp [intOf]; omega
     case rel => exact ⟨j + 1, _, by omega, rfl, by go_num, HTG.out, hBG⟩
    ·obtain rfl : j = al := by omega
     have RV : Hid (k.fAsks.take j = k.fAsks) := qhd (List.take_of_length_le (by rw [HAL.out]; exact Nat.le_refl _))
     have HT2 := HT.out
     rw [RV.out] at HT2
     have hal9 : k.fAsks.length ≤ 4 := by have := HAL.out; omega
     clear HT RV
     go_wp2_with fail
     go_loopw [3, 6] (fun ov zj wr => ∃ (q : Nat) (v : Value) (ys : List ByteArray), q ≤ ol ∧ ov = v ∧ zj = .int .i64 q ∧ TOwn 1 rStr 9 (w.heap.size + 1) (w.heap.size + 1) wr v ys ∧ Hid (ys = (xs ++ [lineT [wKeeper]]) ++ k.fAsks.map (fun f => lineT (askW f)) ++ ((k.fOwns.take q).flatMap clsWs).map lineT) ∧ ys.length ≤ 500 * i + 5 + 92 * q ∧ Below (w.heap.size + 1) w1 wr) (fun _ zj _ => ol - (intOf zj).toNat)
     case atStart => exact ⟨0, _, _, Nat.zero_le _, rfl, rfl, HT2, qhd (by simp), by simp; omega, hb⟩
     case round =>
      clear HT2 hb hbs r0 l0 q0 q1
      obtain ⟨q, v, ys, hq, rfl, rfl, ht, hys, hyl, hb⟩ := hrel
      obtain ⟨va, vn, vc, rfl⟩ := ht.sl.form3
      have HT := qhd ht
      clear ht
      have hbs := hb.size
      have r0 : wr.cell? ⟨w.heap.size, 0, none⟩ = some (.slice (some ⟨b, off, none⟩) len cap) := qap hb (by omega) c1
      have l0 : w.heap.size < wr.heap.size := block_lt_of_cell r0
      have q0 : wr.cell? ⟨b, off + i * 2, none⟩ = some (.slice oa ol oc) := hEw.out _ _ _ hbl Q0.out wr hb
      have hlr2 : b < wr.heap.size := by omega
      by_cases hlq : q < ol
      ·have hlq2 : (q : Int) < (ol : Int) := by omega
       obtain ⟨ob, oo, rfl, _, hobl, hor⟩ := ho3 (by omega)
       obtain ⟨y, cs, g0, g1, g2, g3⟩ := hor q hlq
       obtain ⟨u1, u2, rfl, d1, d2, bx1, bx2⟩ := g3
       obtain ⟨a1, n1, k1, rfl⟩ := d1.form
       obtain ⟨a2, n2, k2, rfl⟩ := d2.form
       have p1 : wr.cell? ⟨ob, oo + q * 4, none⟩ = some (.string y.fName) := hEw.out _ _ _ hobl (g2 0 _ rfl) wr hb
       have p2 : wr.cell? ⟨ob, oo + q * 4 + 1, none⟩ = some (.string y.fSuper) := hEw.out _ _ _ hobl (g2 1 _ rfl) wr hb
       have p3 : wr.cell? ⟨ob, oo + q * 4 + 2, none⟩ = some (.slice a1 n1 k1) := hEw.out _ _ _ hobl (g2 2 _ rfl) wr hb
       have p4 : wr.cell? ⟨ob, oo + q * 4 + 3, none⟩ = some (.slice a2 n2 k2) := hEw.out _ _ _ hobl (g2 3 _ rfl) wr hb
       have hcp := cls_parts (HKP.out.owns y (List.mem_of_getElem? g0))
       have hcl := clsWs_len hcp
       have CC : ∀ W, Below w.heap.size w W → Calls Tryz.prog 22 #[.agg #[.string y.fName, .string y.fSuper, .slice a1 n1 k1, .slice a2 n2 k2]] W fun e w' => (∃ v, e = .returned v ∧ TOwn 1 rStr 9 (W.heap.size + 1) (W.heap.size + 1) w' v ((clsWs y).map lineT)) ∧ Below W.heap.size W w' := fun W hW =>
        S_l8Class y _ _ W (d1.stays qay (Keeps.of_below hW)) (d2.stays qat (Keeps.of_below hW)) bx1 bx2 hcp
       have NX : Hid (((k.fOwns.take (q + 1)).flatMap clsWs).map lineT = ((k.fOwns.take q).flatMap clsWs).map lineT ++ (clsWs y).map lineT) := qhd (by rw [flat_next clsWs g0, List.map_append])
       have hlb : ob < wr.heap.size := by omega
       clear g0 g1 g2 hor hcp d1 d2
       go_wp2_with fail
       refine (CC _ (hEb.out _ hb)).mono ?_
       rintro _ wc ⟨⟨v8, rfl, h8⟩, d1⟩
       obtain ⟨css, hsrc, hrows⟩ := h8.sl.src
       have d1s := (d1).size; (try simp only [qsz] at d1s)
       have hbc : Below (w.heap.size + 1) w1 wc := hb.trans (d1.mono (by omega))
       have HT1 := qhd (HT.out.below qaj d1)
       have HSRC := qhd hsrc
       have HROWS := qhd hrows
       clear CC d1 h8 hsrc hrows
       go_wp2_with (at_builtin; refine qai (B := w.heap.size + 1) (lo := w.heap.size + 1) (R := rStr) (E := NoT) (xs := ys) (ys := (clsWs y).map lineT) (css := css) (by rfl) (.tmp 71) (.tmp 81) 28 (by rfl) sty_Str qaj (fun h => h) rStr_one (by rfl) (by rfl) (HT1.out) (HSRC.out) (HROWS.out.mono fun cs x h => h) (by rw [List.length_map]; omega) (Nat.le_refl _) (by omega) ?_)
       intro v9 wG htG hbG hgG hkG hatG
       have hBG : Below (w.heap.size + 1) w1 wG := hbc.trans hbG
       have HXS : Hid (ys ++ (clsWs y).map lineT = (xs ++ [lineT [wKeeper]]) ++ k.fAsks.map (fun f => lineT (askW f)) ++ ((k.fOwns.take (q + 1)).flatMap clsWs).map lineT) := qhd (by rw [NX.out, hys.out]; simp only [List.append_assoc])
       have hxl2 : (ys ++ (clsWs y).map lineT).length ≤ 500 * i + 5 + 92 * (q + 1) := by rw [List.length_append, List.length_map]; omega
       have HTG := qhd htG
       clear hbG hgG hkG hatG htG
       go_wp2
       go_roundw
       case measure => simp [intOf]; omega
       case rel => exact ⟨q + 1, _, _, by omega, rfl, by go_num, HTG.out, HXS, hxl2, hBG⟩
      ·obtain rfl : q = ol := by omega
       have RV : Hid (ys = ((p.fKeepers.take (i + 1)).flatMap kprWs).map lineT) := qhd (by
        rw [hys.out, NXK.out, List.take_of_length_le (by rw [HOL.out]; exact Nat.le_refl _)]
        simp [kprWs, List.map_map, Function.comp_def])
       go_wp2
       go_roundw
       case measure => simp [intOf]; omega
       case rel => exact ⟨i + 1, _, ys, by omega, rfl, by go_num, HT.out, RV, by omega, hb⟩
  ·obtain rfl : i = len := by omega
   have RV : Hid (xs = planLines p) := qhd (by
    rw [hxs.out, RVL.out, List.take_of_length_le (by rw [HL.out]; exact Nat.le_refl _)]
    rfl)
   have HT2 := HT.out
   rw [RV.out] at HT2
   have HE := qhd (hEb.out _ hb)
   go_wp2
   all_goals (try go_returns)
   all_goals exact HR.out _ _ ⟨⟨_, rfl, HT2⟩, HE.out⟩

end Go.Proofs.YtfbonocadpknbaaGreatDoor
