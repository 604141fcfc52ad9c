/-
  Texts of mine, packed: PrnW, PrnS, PrnT. No condition beside those of the single theorems.
-/
import Derived.Test.YtfbonocadpknbaaGreatDoorC3
import Derived.Test.YtfbonocadpknbaaGreatDoorC5
import Derived.Test.YtfbonocadpknbaaGreatDoorC8
import Derived.Test.YtfbonocadpknbaaGreatDoorC2
import Derived.Test.YtfbonocadpknbaaGreatDoorC10
import Derived.Test.YtfbonocadpknbaaGreatDoorC11
set_option linter.unusedSimpArgs false
set_option linter.unusedVariables false
set_option maxHeartbeats 16000000
set_option maxRecDepth 100000
namespace Go.Proofs.YtfbonocadpknbaaGreatDoor
open Go.RowKit
theorem wp_binS {P : Program} {o : Oper} {a : Act} {w : World} {K : Act → World → Prop} {Q : Exit → Act → World → Prop} {b : BinOp} {T T' : TypeId} {x y : Operand} {s t u : Value} (ho : o.op = .binOp b T x y T') (hx : a.eval x = s) (hy : a.eval y = t) (hg : (eqGuard b T x y s t).run P w = .ok () w) (hr : (binOp b T s t).run P w = .ok u w) (h : K (a.put o.dst u) w) : o.wp P a w K Q := by
 unfold Oper.wp execOp
 simp only [ho, hx, hy, Sem.run_bind, Sem.run_pure, Result.andThen_ok, hg, hr]
 exact h
theorem addS (a b : ByteArray) (h : a.size + b.size ≤ 4000000) (w : World) : (binOp .add 9 (.string a) (.string b)).run Tryz.prog w = .ok (.string (a ++ b)) w :=
 run_string_add_sum w a b (by omega)
theorem by'_app (a b : ByteArray) : by' (a ++ b) = by' a ++ by' b := by unfold by'; rw [ByteArray.data_append]; simp
theorem by'_mk (a : Array UInt8) : by' ⟨a⟩ = a.toList := rfl
def tgsB (ts : List DTagTag) : List UInt8 := (ts.map (fun t => 32 :: tgW t)).flatten
theorem tgsB_next {ts : List DTagTag} {j : Nat} {t : DTagTag} (h : ts[j]? = some t) : tgsB (ts.take (j + 1)) = tgsB (ts.take j) ++ 32 :: tgW t := by
 obtain ⟨hj, he⟩ := List.getElem?_eq_some_iff.1 h
 unfold tgsB
 rw [List.take_succ_eq_append_getElem hj, he]; simp
theorem tg_len {t : DTagTag} (h : tagOkD t = true) : (tgW t).length ≤ 6 := by
 rcases tg_cases h with ⟨_, ⟨_, h1⟩ | ⟨_, h1⟩ | ⟨_, h1⟩⟩ | ⟨_, h2, h1⟩ <;> rw [h1]
 ·simp
 ·simp
 ·simp
 ·rw [bySize]; exact namOk_six h2
theorem tgsB_len : ∀ {ts : List DTagTag}, (∀ t ∈ ts, tagOkD t = true) → (tgsB ts).length ≤ 7 * ts.length
 | [], _ => by simp [tgsB]
 | t :: r, h => by
   have h1 := tg_len (h t (by simp))
   have h2 := tgsB_len (ts := r) (fun x hx => h x (List.mem_cons_of_mem _ hx))
   unfold tgsB at h2 ⊢
   simp only [List.map_cons, List.flatten_cons, List.length_append, List.length_cons] at h2 ⊢
   omega
theorem kt_len {k : DKndKind} (h : kndOkD k = true) : (kndText k.fKind k.fName).size ≤ 6 := by
 rw [← bySize]
 rcases kt_cases h with ⟨_, h1⟩ | ⟨_, h2, h1⟩
 ·unfold ktW at h1; rw [h1]; simp
 ·unfold ktW at h1; rw [h1, bySize]; exact namOk_six h2
theorem tgT_len {t : DTagTag} (h : tagOkD t = true) : (tagText t.fKind t.fName).size ≤ 6 := by
 rw [← bySize]; exact tg_len h
theorem num_size {n : Int} (h : -9999 ≤ n ∧ n ≤ 9999) : (tx (numText n)).size ≤ 5 := by rw [tx_size]; exact (num_len h).2
def ktsW (ks : List DKndKind) : List (List UInt8) := ks.map ktW
theorem ktsW_next {ks : List DKndKind} {j : Nat} {k : DKndKind} (h : ks[j]? = some k) : ktsW (ks.take (j + 1)) = ktsW (ks.take j) ++ [ktW k] := by
 obtain ⟨hj, he⟩ := List.getElem?_eq_some_iff.1 h
 unfold ktsW
 rw [List.take_succ_eq_append_getElem hj, he]; simp
theorem ktsW_len {ks : List DKndKind} (h : ∀ k ∈ ks, kndOkD k = true) : ((ktsW ks).map (32 :: ·)).flatten.length ≤ 7 * ks.length := by
 induction ks with
 | nil => simp [ktsW]
 | cons k r ih =>
   have h1 := kt_len (h k (by simp))
   have h2 := ih fun x hx => h x (List.mem_cons_of_mem _ hx)
   have h3 : (ktW k).length ≤ 6 := by unfold ktW; rw [bySize]; exact h1
   unfold ktsW at h2 ⊢
   simp only [List.map_cons, List.flatten_cons, List.length_append, List.length_cons] at h2 ⊢
   omega
def mthH (m : DClsMethod) : List (List UInt8) := [wMethod, by' m.fName, numText m.fLocals, numText m.fStack, ktW m.fRet]
theorem mthW_eq (m : DClsMethod) : mthW m = mthH m ++ ktsW m.fArgs := rfl
theorem mthH_ne (m : DClsMethod) (r : List (List UInt8)) : mthH m ++ r ≠ [] := by simp [mthH]
theorem mthH_text (m : DClsMethod) : (⟨#[109, 101, 116, 104, 111, 100, 32]⟩ : ByteArray) ++ m.fName ++ ⟨#[32]⟩ ++ tx (numText m.fLocals) ++ ⟨#[32]⟩ ++ tx (numText m.fStack) ++ ⟨#[32]⟩ ++ kndText m.fRet.fKind m.fRet.fName = tx (joinW (mthH m)) := by
 apply by'_inj
 simp [by'_app, byTx, by'_mk, joinW, mthH, wMethod, ktW]
theorem mthW_step (m : DClsMethod) {ks : List (List UInt8)} (k : DKndKind) : tx (joinW (mthH m ++ ks)) ++ ⟨#[32]⟩ ++ kndText k.fKind k.fName = tx (joinW (mthH m ++ (ks ++ [ktW k]))) := by
 apply by'_inj
 rw [← List.append_assoc, joinW_snoc (mthH_ne m ks)]
 simp [by'_app, byTx, by'_mk, ktW]
theorem mthW_step' (m : DClsMethod) {ks : List (List UInt8)} (k : DKndKind) : tx (joinW (mthH m ++ ks)) ++ (⟨#[32]⟩ ++ kndText k.fKind k.fName) = tx (joinW (mthH m ++ (ks ++ [ktW k]))) := by
 rw [← mthW_step, ByteArray.append_assoc]
theorem mthW_len {m : DClsMethod} (h : MthP m) (j : Nat) : (tx (joinW (mthH m ++ ktsW (m.fArgs.take j)))).size ≤ 60 := by
 rw [tx_size, joinW_app (by simp [mthH]), List.length_append]
 have h1 := ktsW_len (ks := m.fArgs.take j) fun k hk => h.args k (List.mem_of_mem_take hk)
 have h2 : (m.fArgs.take j).length ≤ 3 := by rw [List.length_take]; have := h.alen; omega
 have h3 := namOk_six h.nm
 have hl := h.loc
 have hs := h.stk
 have h4 := (num_len (n := m.fLocals) (by omega)).2
 have h5 := (num_len (n := m.fStack) (by omega)).2
 have h6 := kt_len h.ret
 rw [← bySize] at h3 h6
 simp only [mthH, joinW, List.length_append, List.length_cons, wMethod, List.length_nil, ktW]
 omega
theorem map_text (f : DClsMap) : (⟨#[102, 114, 97, 109, 101, 32]⟩ : ByteArray) ++ tx (numText f.fAt) ++ tx (tgsB f.fLocals) ++ ⟨#[32, 47]⟩ ++ tx (tgsB f.fStack) = lineT (mapW f) := by
 apply by'_inj
 have e1 : mapW f = [wFrame, numText f.fAt] ++ (f.fLocals.map tgW ++ ([47] :: f.fStack.map tgW)) := by unfold mapW; rw [List.append_assoc]
 unfold lineT
 rw [e1, byTx, joinW_app (by simp)]
 simp [by'_app, byTx, by'_mk, joinW, wFrame, tgsB, List.map_map, Function.comp_def]
theorem ask_text (a : DLodAsk) : (⟨#[97, 115, 107, 115, 32]⟩ : ByteArray) ++ a.fName ++ ⟨#[32]⟩ ++ tx (numText a.fKeeper) = lineT (askW a) := by
 apply by'_inj
 simp [by'_app, byTx, by'_mk, joinW, lineT, askW, wAsks]
theorem fld_text (f : DClsField) : (⟨#[102, 105, 101, 108, 100, 32]⟩ : ByteArray) ++ f.fName ++ ⟨#[32]⟩ ++ kndText f.fKind.fKind f.fKind.fName = lineT (fldW f) := by
 apply by'_inj
 simp [by'_app, byTx, by'_mk, joinW, lineT, fldW, wField, ktW]
theorem cls_text (c : DClsClass) : (⟨#[99, 108, 97, 115, 115, 32]⟩ : ByteArray) ++ c.fName ++ ⟨#[32]⟩ ++ tx (supW c.fSuper) = lineT (clsW c) := by
 apply by'_inj
 simp [by'_app, byTx, by'_mk, joinW, lineT, clsW, wClass]
theorem ins_text2 {i : DClsIns} (ok : insOkD i = true) : tx (insTxt i.fOp i.fA i.fName i.fMember) = lineT (insW i) := by
 unfold lineT; rw [← ins_text ok, insText_txt]
theorem sup_len {s : ByteArray} (h : (s.toList.isEmpty || namOk s) = true) : (tx (supW s)).size ≤ 6 := by
 rw [tx_size]
 unfold supW
 split
 ·simp
 ·rename_i h1
  rw [bySize]; exact namOk_six (by simpa [h1] using h)
theorem map_size {m : DClsMethod} (h : MthP m) {f : DClsMap} (hf : f ∈ m.fMaps) : (lineT (mapW f)).size ≤ 120 := by
 obtain ⟨h1, h2, h3, h4, h5⟩ := h.maps f hf
 rw [← map_text]
 have g1 := num_size (n := f.fAt) (by omega)
 have g2 := tgsB_len h2
 have g3 := tgsB_len h3
 have e1 : (⟨#[102, 114, 97, 109, 101, 32]⟩ : ByteArray).size = 6 := rfl
 have e2 : (⟨#[32, 47]⟩ : ByteArray).size = 2 := rfl
 simp only [ByteArray.size_append, tx_size] at g1 ⊢
 omega
theorem TOwn.one {α : Type} {k : Nat} {R : RowRel α} {e : TypeId} (lo : Nat) (w : World) (cs : List Value) (x : α) (hl : lo ≤ w.heap.size) (hc : cs.length = k) (h : R lo (w.alloc (.cells cs.toArray e)) cs x) : TOwn k R e lo lo (w.alloc (.cells cs.toArray e)) (.slice (some ⟨w.heap.size, 0, none⟩) 1 1) [x] := by
 refine ⟨⟨[cs], Rows.one hc h, by simp [hc], Or.inr ⟨w.heap.size, 1, cs.toArray, rfl, hl, (MapKept.heap_alloc w _).1, Nat.le_refl _, by decide, by simp [hc], by simp; rw [← hc]; exact List.take_length⟩⟩, fun b hb => ?_⟩
 simp [Value.ownBlock] at hb; omega

def noDeadP (i j : Nat) : Bool := false
theorem noDeadP_dead {l : List Oper} {n : Nat} : DeadF noDeadP l n := fun _ _ _ _ h => by cases h
theorem map_next {α β : Type} (f : α → β) {xs : List α} {j : Nat} {x : α} (h : xs[j]? = some x) : (xs.take (j + 1)).map f = (xs.take j).map f ++ [f x] := by
 obtain ⟨hj, he⟩ := List.getElem?_eq_some_iff.1 h
 rw [List.take_succ_eq_append_getElem hj, he]; simp
theorem flat_next {α β : Type} (f : α → List β) {xs : List α} {j : Nat} {x : α} (h : xs[j]? = some x) : (xs.take (j + 1)).flatMap f = (xs.take j).flatMap f ++ f x := by
 obtain ⟨hj, he⟩ := List.getElem?_eq_some_iff.1 h
 rw [List.take_succ_eq_append_getElem hj, he]; simp [List.flatMap_append]
theorem flat_lenB {α β : Type} {f : α → List β} {n : Nat} : ∀ {xs : List α}, (∀ x ∈ xs, (f x).length ≤ n) → (xs.flatMap f).length ≤ n * xs.length
 | [], _ => by simp
 | x :: r, h => by
   have h1 := h x (by simp)
   have h2 := flat_lenB (xs := r) fun y hy => h y (List.mem_cons_of_mem _ hy)
   rw [List.flatMap_cons, List.length_append, List.length_cons, Nat.mul_succ]; omega
theorem mthWs_len {m : DClsMethod} (h : MthP m) : (mthWs m).length ≤ 22 := by
 have h1 := h.clen
 have h2 := h.mlen
 simp only [mthWs, List.length_cons, List.length_append, List.length_map]; omega
theorem clsWs_len {c : DClsClass} (h : ClsP c) : (clsWs c).length ≤ 92 := by
 have h1 := h.flen
 have h2 := h.mlen
 have h3 := flat_lenB (f := mthWs) (n := 22) (xs := c.fMethods) fun m hm => mthWs_len (mth_parts (h.mths m hm))
 simp only [clsWs, List.length_cons, List.length_append, List.length_map]; omega
theorem fld_size {f : DClsField} (h : namOk f.fName = true ∧ kndOkD f.fKind = true) : (lineT (fldW f)).size ≤ 30 := by
 rw [← fld_text]
 have h1 := namOk_six h.1
 have h2 := kt_len h.2
 have e1 : (⟨#[102, 105, 101, 108, 100, 32]⟩ : ByteArray).size = 6 := rfl
 have e2 : (⟨#[32]⟩ : ByteArray).size = 1 := rfl
 simp only [ByteArray.size_append]; omega
theorem cls_size {c : DClsClass} (h : ClsP c) : (lineT (clsW c)).size ≤ 30 := by
 rw [← cls_text]
 have h1 := namOk_six h.nm
 have h2 := sup_len h.sup
 have e1 : (⟨#[99, 108, 97, 115, 115, 32]⟩ : ByteArray).size = 6 := rfl
 have e2 : (⟨#[32]⟩ : ByteArray).size = 1 := rfl
 simp only [ByteArray.size_append]; omega
theorem ask_size {n : Int} (hn : n ≤ 3) {a : DLodAsk} (h : namOk a.fName = true ∧ 0 ≤ a.fKeeper ∧ a.fKeeper ≤ n - 1) : (lineT (askW a)).size ≤ 30 := by
 rw [← ask_text]
 have h1 := namOk_six h.1
 have h2 := num_size (n := a.fKeeper) (by omega)
 have e1 : (⟨#[97, 115, 107, 115, 32]⟩ : ByteArray).size = 5 := rfl
 have e2 : (⟨#[32]⟩ : ByteArray).size = 1 := rfl
 simp only [ByteArray.size_append]; omega

end Go.Proofs.YtfbonocadpknbaaGreatDoor
