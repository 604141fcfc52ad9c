/-
  Texts of mine, packed: Map, ClsI, LodI, LodN, LodO. No condition beside those of the single theorems.
-/
import Derived.Test.YtfbonocadpknbaaGreatDoorC15
import Derived.Test.YtfbonocadpknbaaGreatDoorC1
import Derived.Test.YtfbonocadpknbaaGreatDoorC2
import Derived.Maps.OwnSet
import Derived.DeepKeys5
import Derived.WideKeyPair
import Derived.Test.YtfbonocadpknbaaGreatDoorC10
import Derived.Deep.LoopGhost
import Derived.StillTailTactics
set_option linter.unusedSimpArgs false
set_option linter.unusedVariables false
set_option maxHeartbeats 16000000
set_option maxRecDepth 100000
namespace Go.Proofs.YtfbonocadpknbaaGreatDoor
open Go.RowKit Go.Maps Go.WideElems Go.ChangeShapes
theorem refKeyed : Keyed Tryz.prog 123 := Keyed.of_law (deep_law_gate laidOut (of_decide_eq_true (by kernel_rfl)) (of_decide_eq_true (by kernel_rfl)) (by kernel_rfl) (by kernel_rfl))

def refV (k : Int) (n : ByteArray) : Value := .agg #[.int .i64 k, .string n]
def KeyFit (k : Int) (n : ByteArray) : Prop := (Lit.int .i64 k).wf = true ∧ n.size ≤ maxLen
def refL (k : Int) (n : ByteArray) : Lit := .string (keyBytes [.int .i64 k, .string n.data.toList])

theorem keyOf_ref {k : Int} {n : ByteArray} (h : KeyFit k n) : keyOf Tryz.prog 123 (refV k n) = some (refL k n) := by
 obtain ⟨h1, h2⟩ := h
 have hu := Tryz.underlying123
 have hkt : Tryz.prog.keyType 123 = true := by kernel_rfl
 obtain ⟨m, hm⟩ : ∃ m, Tryz.prog.types.size = m + 1 := ⟨Tryz.prog.types.size - 1, by kernel_rfl⟩
 have hc : Tryz.prog.cellsOf 123 = 2 := by kernel_rfl
 have hc3 : Tryz.prog.cellsOf 3 = 1 := by kernel_rfl
 have hc9 : Tryz.prog.cellsOf 9 = 1 := by kernel_rfl
 have iu3 := Tryz.underlying3
 have iu9 := Tryz.underlying9
 unfold keyOf refV
 simp only [hu]
 rw [if_pos (by simp [hkt, Value.formed, hu, hc]), hm]
 unfold Program.keyLits
 simp only [hu, Value.cells]
 rw [if_pos (by rw [hc]; exact ⟨rfl, by simp⟩)]
 simp [List.mapM_cons, List.mapM_nil, hc3, hc9, Program.keyLits, iu3, iu9, h1, h2, refL]

theorem refL_inj {k k' : Int} {n n' : ByteArray} (h : KeyFit k n) (h' : KeyFit k' n') (e : refL k n = refL k' n') : k = k' ∧ n = n' := by
 have a := keyOf_ref h
 have b := keyOf_ref h'
 rw [e] at a
 have := refKeyed.inj a b
 unfold refV at this
 simpa using this

theorem refL_isKey {k : Int} {n : ByteArray} (h : KeyFit k n) : WideAt.IsKeyLit (refL k n) := refKeyed.key (keyOf_ref h)

def MapF (w : World) (b n : Nat) (f : Int → ByteArray → Option Int) : Prop :=
 ∃ D : DataW Unit, w.ownsMap Tryz.prog 123 (plainElem Tryz.prog 3) b n D ∧
  ∀ k s, KeyFit k s → Maps.has D (refL k s) = (f k s).isSome ∧ ∀ v, f k s = some v → D.atKey (refL k s) (.lit (.int .i64 0)) = .lit (.int .i64 v)

theorem MapF.made (w : World) : MapF (w.alloc (.map #[] 0)) w.heap.size 0 (fun _ _ => none) :=
 ⟨.map [], World.ownsMap_made _ _ _ _, fun k s _ => ⟨rfl, fun v h => by cases h⟩⟩
theorem MapF.lt {w : World} {b n : Nat} {f : Int → ByteArray → Option Int} (h : MapF w b n f) : b < w.heap.size := by
 obtain ⟨D, h, _⟩ := h; exact h.lt
theorem MapF.kept {w w' : World} {b n : Nat} {f : Int → ByteArray → Option Int} (h : MapF w b n f) (hb : w'.heap[b]? = w.heap[b]?) : MapF w' b n f := by
 obtain ⟨D, ⟨es, clock, h1, h2⟩, h3⟩ := h
 exact ⟨D, ⟨es, clock, hb.trans h1, h2⟩, h3⟩
theorem MapF.below {w w' : World} {b n : Nat} {f : Int → ByteArray → Option Int} (h : MapF w b n f) (hb : Below w.heap.size w w') : MapF w' b n f := h.kept (hb.block b h.lt)
theorem MapF.congr {w : World} {b n : Nat} {f g : Int → ByteArray → Option Int} (h : MapF w b n f) (e : ∀ k s, KeyFit k s → f k s = g k s) : MapF w b n g := by
 obtain ⟨D, h1, h2⟩ := h
 exact ⟨D, h1, fun k s hk => by rw [← e k s hk]; exact h2 k s hk⟩
theorem MapF.mono {w : World} {b n n' : Nat} {f : Int → ByteArray → Option Int} (h : MapF w b n f) (hn : n ≤ n') : MapF w b n' f := by
 obtain ⟨D, h1, h2⟩ := h
 exact ⟨D, h1.mono hn, h2⟩

theorem zeroInt (w : World) : (zeroValue 3).run Tryz.prog w = .ok (.int .i64 0) w := by kernel_rfl

theorem MapF.look_ok {w : World} {b n : Nat} {f : Int → ByteArray → Option Int} (h : MapF w b n f) {k : Int} {s : ByteArray} (hk : KeyFit k s) :
  (Instr.lookup 104 (.map (some b)) (.agg #[.int .i64 k, .string s]) true).run Tryz.prog w = .ok (.tuple #[.int .i64 ((f k s).getD 0), .bool (f k s).isSome]) w := by
 obtain ⟨D, h1, h2⟩ := h
 obtain ⟨h3, h4⟩ := h2 k s hk
 obtain ⟨v, ps, hrun, hv⟩ := h1.look_ok refKeyed Tryz.underlying104 (zeroInt w) (plainElem_int Tryz.underlying3 (by decide)) (keyOf_ref hk)
 obtain ⟨a, rfl, hz, _⟩ := plainElem_int_inv Tryz.underlying3 hv
 rw [h3] at hrun
 have : a = (f k s).getD 0 := by
  simp only [Prod.mk.injEq] at hz
  cases hf : f k s with
  | none =>
    rw [hf] at h3
    have := Maps.atKey_of_not_has h3 (.lit (.int .i64 0))
    rw [this] at hz
    simpa using hz.1.symm
  | some x =>
    rw [h4 x hf] at hz
    simpa using hz.1.symm
 rw [← this]
 exact hrun
theorem MapF.store {w : World} {b n : Nat} {f : Int → ByteArray → Option Int} (h : MapF w b n f) {k : Int} {s : ByteArray} (hk : KeyFit k s) {v : Int} (hv : (Lit.int .i64 v).wf = true) (hn : n < maxLen) :
  ∃ w', (Instr.mapUpdate 104 (.map (some b)) (.agg #[.int .i64 k, .string s]) (.int .i64 v)).run Tryz.prog w = .ok () w' ∧ MapF w' b (n + 1) (upd f k s v) ∧ w.grownBy w' (some b) := by
 obtain ⟨D, h1, h2⟩ := h
 obtain ⟨w', hrun, ho, ht⟩ := h1.store refKeyed Tryz.underlying104 hn (keyOf_ref hk) (plainElem_int (H := Unit) Tryz.underlying3 hv)
 refine ⟨w', hrun, ⟨_, ho, fun k' s' hk' => ?_⟩, ht.grown⟩
 ·by_cases he : k' = k ∧ s' = s
  ·obtain ⟨rfl, rfl⟩ := he
   refine ⟨?_, fun x hx => ?_⟩
   ·rw [Maps.has_put_same h1.isMap (refL_isKey hk)]; simp [upd]
   ·rw [Maps.atKey_put_same h1.isMap (refL_isKey hk)]
    simp [upd] at hx
    rw [hx]
  ·have hne : refL k' s' ≠ refL k s := fun e => he (refL_inj hk' hk e)
   have hu : upd f k s v k' s' = f k' s' := by unfold upd; rw [if_neg he]
   rw [hu, Maps.has_put_other hne]
   exact ⟨(h2 k' s' hk').1, fun x hx => by rw [Maps.atKey_put_other hne]; exact (h2 k' s' hk').2 x hx⟩

theorem wpList_storeF {w : World} {ops : Array Oper} {rest : List Oper} {o : Oper} {a : Act} {Q : Exit → Act → World → Prop}
  (hg : o.guard = none) (m x v : Operand) (hop : o.op = Op.mapUpdate 104 m x v) {b n : Nat} {f : Int → ByteArray → Option Int} {k : Int} {s : ByteArray} {i : Int}
  (hm : a.eval m = .map (some b)) (hx : a.eval x = .agg #[.int .i64 k, .string s]) (hv : a.eval v = .int .i64 i) (hown : MapF w b n f) (hk : KeyFit k s) (hi : (Lit.int .i64 i).wf = true) (hn : n < maxLen)
  (hK : ∀ w', MapF w' b (n + 1) (upd f k s i) → w.grownBy w' (some b) → wpList Tryz.prog ops Q rest (a.put o.dst undef) w') :
  wpList Tryz.prog ops Q (o :: rest) a w := by
 refine wpList_plain hg fun K' hK' => ?_
 obtain ⟨w', hrun, r1, r2⟩ := hown.store hk hi hn
 unfold Oper.wp
 simp [execOp, hop, hm, hx, hv, hrun, Result.andThen]
 exact hK' _ _ (hK w' r1 r2)

def Frame2 (bo ba : Nat) (w w' : World) : Prop := w.heap.size ≤ w'.heap.size ∧ ∀ k, k < w.heap.size → k ≠ bo → k ≠ ba → w'.heap[k]? = w.heap[k]?
theorem Frame2.refl (bo ba : Nat) (w : World) : Frame2 bo ba w w := ⟨Nat.le_refl _, fun _ _ _ _ => rfl⟩
theorem Frame2.trans {bo ba : Nat} {a b c : World} (h : Frame2 bo ba a b) (k : Frame2 bo ba b c) : Frame2 bo ba a c :=
 ⟨Nat.le_trans h.1 k.1, fun i hi h1 h2 => (k.2 i (Nat.lt_of_lt_of_le hi h.1) h1 h2).trans (h.2 i hi h1 h2)⟩
theorem Frame2.of_below {bo ba : Nat} {w w' : World} (h : Below w.heap.size w w') : Frame2 bo ba w w' := ⟨h.size, fun k hk _ _ => h.block k hk⟩
theorem Frame2.of_grown {bo ba b : Nat} {w w' : World} (h : w.grownBy w' (some b)) (hb : b = bo ∨ b = ba) : Frame2 bo ba w w' :=
 ⟨h.size, fun k hk h1 h2 => h.block k hk (fun e => by cases e; rcases hb with rfl | rfl <;> contradiction)⟩
theorem Frame2.cell {bo ba : Nat} {w w' : World} (h : Frame2 bo ba w w') {b o : Nat} {v : Value} (hc : w.cell? ⟨b, o, none⟩ = some v) (h1 : b ≠ bo) (h2 : b ≠ ba) : w'.cell? ⟨b, o, none⟩ = some v := by
 rw [qag (h.2 b (block_lt_of_cell hc) h1 h2)]; exact hc

end Go.Proofs.YtfbonocadpknbaaGreatDoor
namespace Go.Proofs.YtfbonocadpknbaaGreatDoor
open Go.RowKit
theorem I_ClsOk (c : DClsClass) (v1 v2 : Value) (w : World) (s1 : Sl 3 rClsField 0 w v1 c.fFields) (s2 : Sl 8 rClsMethod 0 w v2 c.fMethods) (b1 : c.fName.size ≤ maxLen) (b2 : c.fSuper.size ≤ maxLen) :
  Calls Tryz.prog 80 #[.agg #[.string c.fName, .string c.fSuper, v1, v2]] w fun e w' => e = .returned (.bool (clsOk c)) ∧ Below w.heap.size w w' := by
 obtain ⟨a, len, cap, rfl, hl, h1, h2, h3⟩ := id s1
 obtain ⟨a', len', cap', rfl, hl', h1', h2', h3'⟩ := id s2
 have m1 : len ≤ 9223372036854775807 := by unfold maxLen at h2; omega
 have m1' : len' ≤ 9223372036854775807 := by unfold maxLen at h2'; omega
 have HL := qhd hl
 have HL' := qhd hl'
 have H1 := h1
 have H1' := h1'
 clear h2 hl h2' hl' h1 h1'
 by_cases hsu : c.fSuper.toList.isEmpty = false ∧ namOk c.fSuper = false
 ·obtain ⟨i1, i2⟩ := hsu
  have HS := qhd i1
  have HS2 := qhd i2
  have i3 : (!c.fSuper.toList.isEmpty) = true := by simp [i1]
  have i4 : ¬ c.fSuper.toList = [] := by simpa using i1
  have CS : ∀ W, Calls Tryz.prog 25 #[.string c.fSuper] W fun e w' => e = .returned (.bool false) ∧ W = w' := fun W => Calls.val2 (I_NamOk c.fSuper W b2) i2
  clear i2
  refine qab fun R HR => ?_
  go_enter Tryz.func80, Tryz.ntmps80
  go_wp2_with fail
  refine (I_NamOk _ _ b1).mono ?_
  rintro _ _ ⟨rfl, rfl⟩
  go_wp2_with (first | (go_at_call 25; refine (CS _).mono ?_; rintro _ _ ⟨rfl, rfl⟩))
  all_goals (try go_returns)
  all_goals exact HR.out _ _ ⟨qah (by simp [clsOk, HS.out, HS2.out]), bbel⟩
 have SO : Hid ((c.fSuper.toList.isEmpty || namOk c.fSuper) = true) := qhd (by
  cases h5 : c.fSuper.toList.isEmpty <;> cases h6 : namOk c.fSuper <;> simp_all)
 have SP : (∃ bb : Bool, c.fSuper.toList = [] ∧ c.fSuper.toList.isEmpty = true ∧ (!c.fSuper.toList.isEmpty) = false ∧ ∀ W, Calls Tryz.prog 25 #[.string c.fSuper] W fun e w' => e = .returned (.bool bb) ∧ W = w') ∨ (∃ bb : Bool, ¬ c.fSuper.toList = [] ∧ c.fSuper.toList.isEmpty = false ∧ (!c.fSuper.toList.isEmpty) = true ∧ bb = true ∧ ∀ W, Calls Tryz.prog 25 #[.string c.fSuper] W fun e w' => e = .returned (.bool bb) ∧ W = w') := by
  have h7 := SO.out
  cases h5 : c.fSuper.toList.isEmpty
  ·exact Or.inr ⟨namOk c.fSuper, by simpa using h5, rfl, rfl, by simpa [h5] using h7, fun W => I_NamOk c.fSuper W b2⟩
  ·exact Or.inl ⟨namOk c.fSuper, by simpa using h5, rfl, rfl, fun W => I_NamOk c.fSuper W b2⟩
 clear hsu
 cases hx : namOk c.fName
 ·have HX := qhd hx
  have CN : ∀ W, Calls Tryz.prog 25 #[.string c.fName] W fun e w' => e = .returned (.bool false) ∧ W = w' := fun W => Calls.val2 (I_NamOk c.fName W b1) hx
  clear hx SP
  refine qab fun R HR => ?_
  go_enter Tryz.func80, Tryz.ntmps80
  go_wp2_with (first | (go_at_call 25; refine (CN _).mono ?_; rintro _ _ ⟨rfl, rfl⟩))
  all_goals (try go_returns)
  all_goals exact HR.out _ _ ⟨qah (by simp [clsOk, HX.out]), bbel⟩
 have HX := qhd hx
 have CN : ∀ W, Calls Tryz.prog 25 #[.string c.fName] W fun e w' => e = .returned (.bool true) ∧ W = w' := fun W => Calls.val2 (I_NamOk c.fName W b1) hx
 clear hx
 by_cases hlen : ¬ (len ≤ 3 ∧ len' ≤ 4)
 ·have HN : Hid (¬ (len ≤ 3 ∧ len' ≤ 4)) := qhd hlen
  have hlen' : 3 < len ∨ len ≤ 3 ∧ 4 < len' := by omega
  clear hlen
  rcases SP with ⟨bb, p1, p2, p3, CS⟩ | ⟨bb, p1, p2, p3, rfl, CS⟩
  all_goals
   rcases hlen' with hl1 | ⟨hl1, hl2⟩
  all_goals
   refine qab fun R HR => ?_
   go_enter Tryz.func80, Tryz.ntmps80
   go_wp2_with fail
   refine (CN _).mono ?_
   rintro _ _ ⟨rfl, rfl⟩
   go_wp2_with (first | (go_at_call 25; refine (CS _).mono ?_; rintro _ _ ⟨rfl, rfl⟩))
  all_goals (try go_returns)
  all_goals exact HR.out _ _ ⟨qah (by
   have h5 := HL.out; have h6 := HL'.out; have h7 := HN.out
   by_cases h8 : len ≤ 3
   ·have h9 : ¬ len' ≤ 4 := by omega
    simp [clsOk, h6, h9]
   ·simp [clsOk, h5, h8]), bbel⟩
 have hlen' : len ≤ 3 ∧ len' ≤ 4 := Decidable.byContradiction hlen
 obtain ⟨hn1, hn2⟩ := hlen'
 clear hlen
 rcases SP with ⟨bb, p1, p2, p3, CS⟩ | ⟨bb, p1, p2, p3, rfl, CS⟩
 all_goals
  refine qab fun R HR => ?_
  go_enter Tryz.func80, Tryz.ntmps80
  go_wp2_with fail
  refine (CN _).mono ?_
  rintro _ _ ⟨rfl, rfl⟩
  clear CN
  go_wp2_with (first | (go_at_call 25; refine (CS _).mono ?_; rintro _ _ ⟨rfl, rfl⟩))
  clear p1 p2 p3 CS
  go_loopw [39] (fun i wr => ∃ k : Nat, k ≤ len ∧ i = .int .i64 k ∧ EachTo (fieldIn c.fFields) c.fFields k = true ∧ Below w.heap.size w wr ∧ wr.cell? ⟨w.heap.size, 2, none⟩ = some (.slice a len cap) ∧ wr.cell? ⟨w.heap.size, 3, none⟩ = some (.slice a' len' cap')) (fun i _ => len - (intOf i).toNat)
  case atStart => exact ⟨0, Nat.zero_le _, rfl, rfl, bbel, by go_simp, by go_simp⟩
  case round =>
   obtain ⟨k, hk, rfl, ha, hb, c2, c3⟩ := hrel
   have HA := qhd ha
   clear ha
   have hbx := hb.size
   have hbw := block_lt_of_cell c2
   by_cases hlt : k < len
   ·obtain ⟨b, off, rfl, hlo, hbl, hr⟩ := h3.stays qap (Keeps.of_below hb) (by omega)
    obtain ⟨⟨fn, fk, fkn⟩, cs, e0, e1, e2, e3⟩ := hr k hlt
    obtain ⟨rfl, bx1, bx2⟩ := e3
    have q1 : wr.cell? ⟨b, off + k * 3, none⟩ = some (.string fn) := e2 0 _ rfl
    have q2 : wr.cell? ⟨b, off + k * 3 + 1, none⟩ = some (.int .i64 fk) := e2 1 _ rfl
    have q3 : wr.cell? ⟨b, off + k * 3 + 2, none⟩ = some (.string fkn) := e2 2 _ rfl
    have E0 := qhd e0
    have g1 : (k : Int) ≤ (cap : Int) := by have := H1; omega
    clear e0 e1 e2 hr
    go_wp2_with fail
    refine (I_NamOk _ _ bx1).mono ?_
    rintro _ _ ⟨rfl, rfl⟩
    cases hx : namOk fn
    ·have H5 := qhd hx
     clear hx
     go_wp2
     all_goals (try go_returns)
     all_goals exact HR.out _ _ ⟨qah (cls_stop_f (qal E0.out (by simp [fieldIn, H5.out]))), bbel⟩
    have H5 := qhd hx
    clear hx
    go_wp2_with fail
    refine (I_KndOk _ _ _ bx2).mono ?_
    rintro _ w1 ⟨rfl, g⟩
    have hR1 : Below wr.heap.size wr w1 := bbel
    have hE1 : Below w.heap.size w w1 := hb.trans (hR1.mono hbx)
    have hz1 := hR1.size
    have gz := g.size
    simp only [World.size_alloc] at gz
    have d2 := qad hR1 c2
    have d3 := qad hR1 c3
    have dn : w1.cell? ⟨wr.heap.size, 0, none⟩ = some (.string fn) := (g.cell (by simp)).trans (by go_simp)
    clear c2 c3 q1 q2 q3 g
    cases hx : kndOk fk fkn
    ·have H6 := qhd hx
     clear hx
     go_wp2
     all_goals (try go_returns)
     all_goals exact HR.out _ _ ⟨qah (cls_stop_f (qal E0.out (by simp [fieldIn, kndOkD, H6.out]))), hE1⟩
    have H6 := qhd hx
    clear hx
    obtain ⟨wB, hwB⟩ : ∃ wB, wB = wr.heap.size := ⟨_, rfl⟩
    rw [← hwB] at dn
    obtain ⟨wo, rfl⟩ : ∃ wo : World, wo = wr := ⟨_, rfl⟩
    go_wp2_with fail
    rw [← hwB]
    clear hwB
    go_loopw [59] (fun i wr => ∃ q : Nat, q ≤ k ∧ i = .int .i64 q ∧ EachTo (nots fun f => sameN f.fName fn) (c.fFields.take k) q = true ∧ Below w.heap.size w wr ∧ wr.cell? ⟨w.heap.size, 2, none⟩ = some (.slice (some ⟨b, off, none⟩) len cap) ∧ wr.cell? ⟨w.heap.size, 3, none⟩ = some (.slice a' len' cap') ∧ wr.cell? ⟨wB, 0, none⟩ = some (.string fn)) (fun i _ => k - (intOf i).toNat)
    case atStart => exact ⟨0, Nat.zero_le _, rfl, rfl, hE1, d2, d3, dn⟩
    case round =>
     clear hE1 hR1 hz1 gz d2 d3 dn
     obtain ⟨q, hq, rfl, hqa, hb', c2, c3, dn⟩ := hrel
     have HQ := qhd hqa
     clear hqa
     have hbx' := hb'.size
     have hbn := block_lt_of_cell dn
     by_cases hlq : q < k
     ·obtain ⟨b', off', e', _, hbl', hr'⟩ := h3.stays qap (Keeps.of_below hb') (by omega)
      cases e'
      obtain ⟨gx, cs', f0, f1, f2, f3⟩ := hr' q (by omega)
      obtain ⟨rfl, by1, by2⟩ := f3
      have p1 : wr.cell? ⟨b, off + q * 3, none⟩ = some (.string gx.fName) := f2 0 _ rfl
      have p2 : wr.cell? ⟨b, off + q * 3 + 1, none⟩ = some (.int .i64 gx.fKind.fKind) := f2 1 _ rfl
      have p3 : wr.cell? ⟨b, off + q * 3 + 2, none⟩ = some (.string gx.fKind.fName) := f2 2 _ rfl
      have E1 : Hid ((c.fFields.take k)[q]? = some gx) := qhd (by rw [List.getElem?_take, if_pos hlq]; exact f0)
      clear f0 f1 f2 hr'
      cases hx : sameN gx.fName fn
      ·have hx2 : (gx.fName.toList == fn.toList) = false := hx
       have HX2 := qhd hx
       clear hx
       go_wp2
       go_roundw
       case measure => simp [intOf]; omega
       case rel => exact ⟨q + 1, by omega, by go_num, EachTo.step HQ.out E1.out (by simp [nots, HX2.out]), bbel, qad ((Below.refl _ _).alloc (Nat.le_refl _) _) c2, qad ((Below.refl _ _).alloc (Nat.le_refl _) _) c3, qad ((Below.refl _ _).alloc (Nat.le_refl _) _) dn⟩
      ·have hx2 : (gx.fName.toList == fn.toList) = true := hx
       have HX2 := qhd hx
       clear hx
       go_wp2
       all_goals (try go_returns)
       all_goals exact HR.out _ _ ⟨qah (cls_stop_f (qal E0.out (by have h9 : fieldAt (c.fFields.take k) fn = (q : Int) := firstAt_hit' HQ.out E1.out HX2.out; have h10 : ¬ fieldAt (c.fFields.take k) fn < 0 := (by omega); simp [fieldIn, h10]))), bbel⟩
     ·obtain rfl : q = k := by omega
      have HN : Hid (fieldAt (c.fFields.take q) fn < 0) := qhd (by unfold fieldAt; rw [firstAt_none' HQ.out (by rw [List.length_take, HL.out]; omega)]; omega)
      go_wp2
      go_roundw
      case measure => simp [intOf]; omega
      case rel => exact ⟨q + 1, by omega, by go_num, EachTo.step HA.out E0.out (by have h10 := HN.out; simp [fieldIn, kndOkD, H5.out, H6.out, h10]), hb', c2, c3⟩
   ·obtain rfl : k = len := by omega
    have HF : Hid (each (fieldIn c.fFields) c.fFields = true) := qhd (qav HA.out HL.out)
    clear HA
    obtain ⟨wo, rfl⟩ : ∃ wo : World, wo = wr := ⟨_, rfl⟩
    go_wp2_with fail
    go_loopw [73] (fun i wr => ∃ k : Nat, k ≤ len' ∧ i = .int .i64 k ∧ EachTo (methodIn c.fMethods) c.fMethods k = true ∧ Below w.heap.size w wr ∧ wr.cell? ⟨w.heap.size, 3, none⟩ = some (.slice a' len' cap')) (fun i _ => len' - (intOf i).toNat)
    case atStart => exact ⟨0, Nat.zero_le _, rfl, rfl, hb, c3⟩
    case round =>
     clear hb c2 c3 hbx hbw
     obtain ⟨j, hj, rfl, ha, hb, c3⟩ := hrel
     have HA := qhd ha
     clear ha
     have hbx := hb.size
     have hbw := block_lt_of_cell c3
     by_cases hlt' : j < len'
     ·obtain ⟨b, off, rfl, hlo, hbl, hr⟩ := h3'.stays rClsMethod_good (Keeps.of_below hb) (by omega)
      obtain ⟨⟨mn, ma, mr, ml, ms, mc, mm⟩, cs, e0, e1, e2, e3⟩ := hr j hlt'
      obtain ⟨x1, x2, x3, rfl, t1, t2, t3, bx1, bx2⟩ := e3
      obtain ⟨xa1, xl1, xc1, rfl⟩ := t1.form
      obtain ⟨xa2, xl2, xc2, rfl⟩ := t2.form
      obtain ⟨xa3, xl3, xc3, rfl⟩ := t3.form
      have q1 : wr.cell? ⟨b, off + j * 8, none⟩ = some (.string mn) := e2 0 _ rfl
      have q2 : wr.cell? ⟨b, off + j * 8 + 1, none⟩ = some (.slice xa1 xl1 xc1) := e2 1 _ rfl
      have q3 : wr.cell? ⟨b, off + j * 8 + 2, none⟩ = some (.int .i64 mr.fKind) := e2 2 _ rfl
      have q4 : wr.cell? ⟨b, off + j * 8 + 3, none⟩ = some (.string mr.fName) := e2 3 _ rfl
      have q5 : wr.cell? ⟨b, off + j * 8 + 4, none⟩ = some (.int .i64 ml) := e2 4 _ rfl
      have q6 : wr.cell? ⟨b, off + j * 8 + 5, none⟩ = some (.int .i64 ms) := e2 5 _ rfl
      have q7 : wr.cell? ⟨b, off + j * 8 + 6, none⟩ = some (.slice xa2 xl2 xc2) := e2 6 _ rfl
      have q8 : wr.cell? ⟨b, off + j * 8 + 7, none⟩ = some (.slice xa3 xl3 xc3) := e2 7 _ rfl
      have E0 := qhd e0
      have g1 : (j : Int) ≤ (cap' : Int) := by have := H1'; omega
      clear e0 e1 e2 hr
      go_wp2_with fail
      refine (I_MthOk ⟨mn, ma, mr, ml, ms, mc, mm⟩ _ _ _ _ (t1.stays qar (Keeps.of_below' (B := wr.heap.size) (bbel) (Nat.le_refl _))) (t2.stays qau (Keeps.of_below' (B := wr.heap.size) (bbel) (Nat.le_refl _))) (t3.stays qas (Keeps.of_below' (B := wr.heap.size) (bbel) (Nat.le_refl _))) bx1 bx2).mono ?_
      rintro _ w1 ⟨rfl, g⟩
      have hR1 : Below wr.heap.size wr w1 := bbel
      have hE1 : Below w.heap.size w w1 := hb.trans (hR1.mono hbx)
      have hz1 := hR1.size
      have gz := g.size
      simp only [World.size_alloc] at gz
      have d3 := qad hR1 c3
      have dn : w1.cell? ⟨wr.heap.size, 0, none⟩ = some (.string mn) := (g.cell (by simp)).trans (by go_simp)
      clear c3 q1 q2 q3 q4 q5 q6 q7 q8 g
      cases hx : mthOk ⟨mn, ma, mr, ml, ms, mc, mm⟩
      ·have H6 := qhd hx
       clear hx
       go_wp2
       all_goals (try go_returns)
       all_goals exact HR.out _ _ ⟨qah (cls_stop_m (qal E0.out (by simp [methodIn, H6.out]))), hE1⟩
      have H6 := qhd hx
      clear hx
      obtain ⟨wB, hwB⟩ : ∃ wB, wB = wr.heap.size := ⟨_, rfl⟩
      rw [← hwB] at dn
      obtain ⟨wo, rfl⟩ : ∃ wo : World, wo = wr := ⟨_, rfl⟩
      go_wp2_with fail
      rw [← hwB]
      clear hwB
      go_loopw [86] (fun i wr => ∃ q : Nat, q ≤ j ∧ i = .int .i64 q ∧ EachTo (nots fun f => sameN f.fName mn) (c.fMethods.take j) q = true ∧ Below w.heap.size w wr ∧ wr.cell? ⟨w.heap.size, 3, none⟩ = some (.slice (some ⟨b, off, none⟩) len' cap') ∧ wr.cell? ⟨wB, 0, none⟩ = some (.string mn)) (fun i _ => j - (intOf i).toNat)
      case atStart => exact ⟨0, Nat.zero_le _, rfl, rfl, hE1, d3, dn⟩
      case round =>
       clear hE1 hR1 hz1 gz d3 dn
       obtain ⟨q, hq, rfl, hqa, hb', c3, dn⟩ := hrel
       have HQ := qhd hqa
       clear hqa
       have hbx' := hb'.size
       have hbn := block_lt_of_cell dn
       by_cases hlq : q < j
       ·obtain ⟨b', off', e', _, hbl', hr'⟩ := h3'.stays rClsMethod_good (Keeps.of_below hb') (by omega)
        cases e'
        obtain ⟨gx, cs', f0, f1, f2, f3⟩ := hr' q (by omega)
        obtain ⟨x1, x2, x3, rfl, r1, r2, r3, by1, by2⟩ := f3
        obtain ⟨xa1, xl1, xc1, rfl⟩ := r1.form
        obtain ⟨xa2, xl2, xc2, rfl⟩ := r2.form
        obtain ⟨xa3, xl3, xc3, rfl⟩ := r3.form
        have p1 : wr.cell? ⟨b, off + q * 8, none⟩ = some (.string gx.fName) := f2 0 _ rfl
        have p2 : wr.cell? ⟨b, off + q * 8 + 1, none⟩ = some (.slice xa1 xl1 xc1) := f2 1 _ rfl
        have p3 : wr.cell? ⟨b, off + q * 8 + 2, none⟩ = some (.int .i64 gx.fRet.fKind) := f2 2 _ rfl
        have p4 : wr.cell? ⟨b, off + q * 8 + 3, none⟩ = some (.string gx.fRet.fName) := f2 3 _ rfl
        have p5 : wr.cell? ⟨b, off + q * 8 + 4, none⟩ = some (.int .i64 gx.fLocals) := f2 4 _ rfl
        have p6 : wr.cell? ⟨b, off + q * 8 + 5, none⟩ = some (.int .i64 gx.fStack) := f2 5 _ rfl
        have p7 : wr.cell? ⟨b, off + q * 8 + 6, none⟩ = some (.slice xa2 xl2 xc2) := f2 6 _ rfl
        have p8 : wr.cell? ⟨b, off + q * 8 + 7, none⟩ = some (.slice xa3 xl3 xc3) := f2 7 _ rfl
        have E1 : Hid ((c.fMethods.take j)[q]? = some gx) := qhd (by rw [List.getElem?_take, if_pos hlq]; exact f0)
        clear f0 f1 f2 hr'
        cases hx : sameN gx.fName mn
        ·have hx2 : (gx.fName.toList == mn.toList) = false := hx
         have HX2 := qhd hx
         clear hx
         go_wp2
         go_roundw
         case measure => simp [intOf]; omega
         case rel => exact ⟨q + 1, by omega, by go_num, EachTo.step HQ.out E1.out (by simp [nots, HX2.out]), bbel, qad ((Below.refl _ _).alloc (Nat.le_refl _) _) c3, qad ((Below.refl _ _).alloc (Nat.le_refl _) _) dn⟩
        ·have hx2 : (gx.fName.toList == mn.toList) = true := hx
         have HX2 := qhd hx
         clear hx
         go_wp2
         all_goals (try go_returns)
         all_goals exact HR.out _ _ ⟨qah (cls_stop_m (qal E0.out (by have h9 : methodAt (c.fMethods.take j) mn = (q : Int) := firstAt_hit' HQ.out E1.out HX2.out; have h10 : ¬ methodAt (c.fMethods.take j) mn < 0 := (by omega); simp [methodIn, h10]))), bbel⟩
       ·obtain rfl : q = j := by omega
        have HN : Hid (methodAt (c.fMethods.take q) mn < 0) := qhd (by unfold methodAt; rw [firstAt_none' HQ.out (by rw [List.length_take, HL'.out]; omega)]; omega)
        go_wp2
        go_roundw
        case measure => simp [intOf]; omega
        case rel => exact ⟨q + 1, by omega, by go_num, EachTo.step HA.out E0.out (by have h10 := HN.out; simp [methodIn, H6.out, h10]), hb', c3⟩
     ·obtain rfl : j = len' := by omega
      go_wp2
      all_goals (try go_returns)
      all_goals exact HR.out _ _ ⟨qah (by
       have h5 : each (methodIn c.fMethods) c.fMethods = true := qav HA.out HL'.out
       have h6 := HL.out
       have h7 := HL'.out
       simp only [clsOk, HX.out, SO.out, HF.out, h5, h6, h7]
       simp; omega), hb⟩

theorem I_has (L : Nat) (k : Int) (a : Option Addr) (len cap : Nat) (w : World) (c0 : w.cell? ⟨L, 0, none⟩ = some (.slice a len cap)) (hm : len ≤ 9223372036854775807) :
  Calls Tryz.prog 81 #[.pointer (some ⟨L, 0, none⟩), .int .i64 k] w fun e w' => e = .returned (.bool (decide (0 ≤ k) && decide (k < (len : Int)))) ∧ w = w' := by
 by_cases h : 0 ≤ k
 ·have h1 : decide (0 ≤ k) = true := by simpa using h
  refine qab fun R HR => ?_
  go_enter Tryz.func81, Tryz.ntmps81
  go_wp2
  all_goals (try go_returns)
  all_goals exact HR.out _ _ ⟨qah (by simp [h]), rfl⟩
 ·have h1 : decide (0 ≤ k) = false := by simpa using h
  refine qab fun R HR => ?_
  go_enter Tryz.func81, Tryz.ntmps81
  go_wp2
  all_goals (try go_returns)
  all_goals exact HR.out _ _ ⟨qah (by rw [h1]; simp), rfl⟩

def plus (f : Int → ByteArray → Option Int) (kn : Int) (g : ByteArray → Option Int) : Int → ByteArray → Option Int := fun k s => if k = kn then g s else f k s

theorem I_enter (p : DLodPlan) (x : DLodKeeper) (w0 w : World) (L bo ba kn n : Nat) (a : Option Addr) (len cap : Nat) (fo fa : Int → ByteArray → Option Int)
  (s0 : Sl 2 rLodKeeper 0 w0 (.slice a len cap) p.fKeepers) (hx : p.fKeepers[kn]? = some x) (hW : Below w0.heap.size w0 w) (hlen : len ≤ 3)
  (c0 : w.cell? ⟨L, 0, none⟩ = some (.slice a len cap)) (c1 : w.cell? ⟨L, 1, none⟩ = some (.map (some bo))) (c2 : w.cell? ⟨L, 2, none⟩ = some (.map (some ba)))
  (ho : MapF w bo n fo) (ha : MapF w ba n fa) (hn : n ≤ 1000) (ho0 : w0.heap.size ≤ bo) (ha0 : w0.heap.size ≤ ba) (hne : bo ≠ ba) (hLo : L ≠ bo) (hLa : L ≠ ba)
  (fo0 : ∀ s, fo kn s = none) (fa0 : ∀ s, fa kn s = none) :
  Calls Tryz.prog 65 #[.pointer (some ⟨L, 0, none⟩), .int .i64 (kn : Int)] w fun e w' => e = .returned (.bool (keeperOk len x)) ∧ Below w0.heap.size w0 w' ∧ Frame2 bo ba w w' ∧
   (keeperOk len x = true → MapF w' bo (n + 10) (plus fo kn (ownK x)) ∧ MapF w' ba (n + 10) (plus fa kn (askK x))) := by
 obtain ⟨hl, hcap, hmc⟩ := s0.len
 have m1 : len ≤ 9223372036854775807 := by omega
 have HL := qhd hl
 have hkn : kn < len := by rw [← hl]; exact (List.getElem?_eq_some_iff.1 hx).1
 have HX := qhd hx
 clear hl
 obtain ⟨a', len', cap', e, _, _, _, h3⟩ := id s0
 cases e
 obtain ⟨b, off, rfl, _, hbl, hr⟩ := h3 (by omega)
 obtain ⟨x', cs, e0, e1, e2, e3⟩ := hr kn hkn
 obtain rfl : x = x' := Option.some.inj (hx.symm.trans e0)
 obtain ⟨v1, v2, rfl, t1, t2⟩ := e3
 obtain ⟨la, ll, lc, rfl⟩ := t1.form
 obtain ⟨ka, kl, kc, rfl⟩ := t2.form
 obtain ⟨tl1, tc1, tm1⟩ := t1.len
 obtain ⟨tl2, tc2, tm2⟩ := t2.len
 have TL1 := qhd tl1
 have TL2 := qhd tl2
 have q1 : w.cell? ⟨b, off + kn * 2, none⟩ = some (.slice la ll lc) := (hW.cell hbl).trans (e2 0 _ rfl)
 have q2 : w.cell? ⟨b, off + kn * 2 + 1, none⟩ = some (.slice ka kl kc) := (hW.cell hbl).trans (e2 1 _ rfl)
 have mm1 : ll ≤ 9223372036854775807 := by unfold maxLen at tm1; omega
 have mm2 : kl ≤ 9223372036854775807 := by unfold maxLen at tm2; omega
 clear e0 e1 e2 hr h3 hx tl1 tl2 tm1 tm2
 have HO := qhd ho
 have HAA := qhd ha
 have FO0 := qhd fo0
 have FA0 := qhd fa0
 have hWs := hW.size
 clear fo0 fa0 ho ha
 refine qab fun R HR => ?_
 go_enter Tryz.func65, Tryz.ntmps65
 go_wp2_with fail
 all_goals first
  | (try go_returns
     have hk0 : keeperOk len x = false := by
      unfold keeperOk; rw [TL1.out, TL2.out]
      by_cases h8 : ll ≤ 5
      ·have h9 : ¬ kl ≤ 4 := by omega
       simp [h9]
      ·simp [h8]
     exact HR.out _ _ ⟨qah hk0.symm, hW.trans ((show Below w.heap.size w _ from bbel).mono hWs), Frame2.of_below (bbel), fun h => by rw [hk0] at h; cases h⟩)
  | skip
 have hl5 : ll ≤ 5 := by omega
 have hl4 : kl ≤ 4 := by omega
 have C1 := qhd c1
 have C2 := qhd c2
 have C0 := qhd c0
 have hboL : bo < w.heap.size := HO.out.lt
 have hbaL : ba < w.heap.size := HAA.out.lt
 go_loopw [36] (fun z wr => ∃ i : Nat, i ≤ ll ∧ z = .int .i64 i ∧ EachTo (ownIn x.fOwns) x.fOwns i = true ∧ Below w0.heap.size w0 wr ∧ Frame2 bo ba w wr ∧ wr.cell? ⟨w.heap.size, 1, none⟩ = some (.slice ka kl kc) ∧ MapF wr bo (n + i) (plus fo kn fun s => optI (ownAt (x.fOwns.take i) s)) ∧ MapF wr ba n fa) (fun z _ => ll - (intOf z).toNat)
 case atStart =>
  exact ⟨0, Nat.zero_le _, rfl, rfl, hW.trans ((show Below w.heap.size w _ from bbel).mono hWs), Frame2.of_below (bbel), by go_simp,
   ((HO.out.below (bbel)).congr fun k s _ => by
    unfold plus
    by_cases h : k = (kn : Int)
    ·rw [if_pos h, h, FO0.out]; simp [ownAt, firstAt, optI]
    ·rw [if_neg h]), HAA.out.below (bbel)⟩
 case round =>
  clear c0 c1 c2 q1 q2
  obtain ⟨i, hi, rfl, ha, hb, hf, ck, hmo, hma⟩ := hrel
  have HA := qhd ha
  have HMO := qhd hmo
  have HMA := qhd hma
  clear ha hmo hma
  have hbx := hb.size
  have hfs := hf.1
  have hkb := block_lt_of_cell ck
  by_cases hlt : i < ll
  ·obtain ⟨_, _, _, e', _, _, _, h3⟩ := t1.stays rClsClass_good (Keeps.of_below hb)
   cases e'
   obtain ⟨b', off', rfl, _, hbl', hr⟩ := h3 (by omega)
   obtain ⟨c, cs, e0, e1, e2, e3⟩ := hr i hlt
   obtain ⟨x1, x2, rfl, r1, r2, by1, by2⟩ := e3
   obtain ⟨xa1, xl1, xc1, rfl⟩ := r1.form
   obtain ⟨xa2, xl2, xc2, rfl⟩ := r2.form
   have p1 : wr.cell? ⟨b', off' + i * 4, none⟩ = some (.string c.fName) := e2 0 _ rfl
   have p2 : wr.cell? ⟨b', off' + i * 4 + 1, none⟩ = some (.string c.fSuper) := e2 1 _ rfl
   have p3 : wr.cell? ⟨b', off' + i * 4 + 2, none⟩ = some (.slice xa1 xl1 xc1) := e2 2 _ rfl
   have p4 : wr.cell? ⟨b', off' + i * 4 + 3, none⟩ = some (.slice xa2 xl2 xc2) := e2 3 _ rfl
   have E0 := qhd e0
   have KF : Hid (KeyFit (kn : Int) c.fName) := qhd ⟨WalkArith.wf_i64 (by omega), by1⟩
   clear e0 e1 e2 hr h3
   go_wp2_with fail
   obtain ⟨wK, hwK⟩ : ∃ wK, wK = (wr.alloc (.cells #[.string c.fName, .string c.fSuper, .slice xa1 xl1 xc1, .slice xa2 xl2 xc2] 37)).alloc (.cells #[.int .i64 (kn : Int), .string c.fName] 123) := ⟨_, rfl⟩
   rw [← hwK]
   have hRK : Below wr.heap.size wr wK := by rw [hwK]; exact bbel
   have hzK : wr.heap.size + 1 < wK.heap.size := by rw [hwK]; simp
   have n1 := In.cell (show wK.cell? ⟨wr.heap.size, 0, none⟩ = some (.string c.fName) by rw [hwK]; go_simp)
   have n2 := In.cell (show wK.cell? ⟨wr.heap.size, 1, none⟩ = some (.string c.fSuper) by rw [hwK]; go_simp)
   have n3 := In.cell (show wK.cell? ⟨wr.heap.size, 2, none⟩ = some (.slice xa1 xl1 xc1) by rw [hwK]; go_simp)
   have n4 := In.cell (show wK.cell? ⟨wr.heap.size, 3, none⟩ = some (.slice xa2 xl2 xc2) by rw [hwK]; go_simp)
   have n5 := In.cell (show wK.cell? ⟨wr.heap.size + 1, 0, none⟩ = some (.int .i64 (kn : Int)) by rw [hwK]; go_simp)
   have n6 := In.cell (show wK.cell? ⟨wr.heap.size + 1, 1, none⟩ = some (.string c.fName) by rw [hwK]; go_simp)
   have n7 := In.cell (qad hRK (hf.cell C1.out hLo hLa))
   have N1 := qhd n1
   have N2 := qhd n2
   have N3 := qhd n3
   have N4 := qhd n4
   have N5 := qhd n5
   have N6 := qhd n6
   have N7 := qhd n7
   clear hwK p1 p2 p3 p4
   obtain ⟨z, hz⟩ : ∃ z, z = ownAt (x.fOwns.take i) c.fName := ⟨_, rfl⟩
   have HZ := qhd hz
   have LK : ∀ y : In wK, (Instr.lookup 104 (.map (some bo)) (.agg #[.int .i64 (kn : Int), .string c.fName]) true).run Tryz.prog y.x = .ok (.tuple #[.int .i64 ((optI z).getD 0), .bool (optI z).isSome]) y.x := fun y => by
    have := ((HMO.out.below hRK).below y.h).look_ok KF.out
    unfold plus at this
    rw [if_pos rfl] at this
    dsimp only at this
    rw [← hz] at this
    exact this
   clear hz
   by_cases hzz : ¬ z < 0
   ·have hq : (optI z).isSome = true := by unfold optI; rw [if_neg hzz]; rfl
    have hq2 : (optI z).getD 0 = z := by unfold optI; rw [if_neg hzz]; rfl
    rw [hq, hq2] at LK
    have HQ := qhd hzz
    clear hq hq2 hzz
    refine qaj (by kernel_rfl) (by kernel_rfl) ?_
    repeat (go_big_quiet_step (first | fail))
    refine wpQuiet_nil ?_
    rintro wZ ⟨⟨wE, hwE⟩, hq⟩
    obtain rfl : wE = wZ := hq.symm
    clear hq
    have hwEs := hwE.size
    (try dsimp only)
    have hEE := hb.trans ((hRK.trans (hwE.mono hRK.size)).mono hbx)
    have hFE : Frame2 bo ba w wE := hf.trans (Frame2.of_below (hRK.trans (hwE.mono hRK.size)))
    clear LK n1 n2 n3 n4 n5 n6 n7
    go_wp2
    all_goals (try go_returns)
    have hk0 : keeperOk len x = false := by
     have h8 := HZ.out
     have h9 := HQ.out
     have : each (ownIn x.fOwns) x.fOwns = false := qal E0.out (by rw [h8] at h9; simp [ownIn, h9])
     simp [keeperOk, this]
    all_goals exact HR.out _ _ ⟨qah hk0.symm, hEE, hFE, fun h => by rw [hk0] at h; cases h⟩
   have hzz' : z < 0 := Decidable.byContradiction hzz
   have hq : (optI z).isSome = false := by unfold optI; rw [if_pos hzz']; rfl
   have hq2 : (optI z).getD 0 = 0 := by unfold optI; rw [if_pos hzz']; rfl
   rw [hq, hq2] at LK
   have HQ := qhd hzz'
   clear hq hq2 hzz hzz'
   refine qaj (by kernel_rfl) (by kernel_rfl) ?_
   repeat (go_big_quiet_step (first | fail))
   refine wpQuiet_nil ?_
   rintro wZ ⟨⟨wE, hwE⟩, hq⟩
   obtain rfl : wE = wZ := hq.symm
   clear hq
   have hwEs := hwE.size
   (try dsimp only)
   have hRE := hRK.trans (hwE.mono hRK.size)
   have hEE := hb.trans (hRE.mono hbx)
   clear LK n1 n2 n3 n4 n5 n6 n7
   have n1 := N1.out ⟨wE, hwE⟩
   have n2 := N2.out ⟨wE, hwE⟩
   have n3 := N3.out ⟨wE, hwE⟩
   have n4 := N4.out ⟨wE, hwE⟩
   dsimp only at n1 n2 n3 n4
   go_wp2_with fail
   refine (I_ClsOk c _ _ _ (r1.stays qap (Keeps.of_below hRE)) (r2.stays rClsMethod_good (Keeps.of_below hRE)) by1 by2).mono ?_
   rintro _ w1 ⟨rfl, g⟩
   have hR1 := hRE.trans (g.mono hRE.size)
   have hE1 := hb.trans (hR1.mono hbx)
   have hF1 : Frame2 bo ba w w1 := hf.trans (Frame2.of_below hR1)
   have hK1 := hwE.trans (g.mono hwE.size)
   clear n1 n2 n3 n4
   cases hx : clsOk c
   ·have H5 := qhd hx
    clear hx
    go_wp2
    all_goals (try go_returns)
    have hk0 : keeperOk len x = false := by
     have : each (ownIn x.fOwns) x.fOwns = false := qal E0.out (by simp [ownIn, H5.out])
     simp [keeperOk, this]
    all_goals exact HR.out _ _ ⟨qah hk0.symm, hE1, hF1, fun h => by rw [hk0] at h; cases h⟩
   have H5 := qhd hx
   clear hx
   have n5 := N5.out ⟨w1, hK1⟩
   have n6 := N6.out ⟨w1, hK1⟩
   have n7 := N7.out ⟨w1, hK1⟩
   dsimp only at n5 n6 n7
   go_wp2_with fail
   go_still_tail 6, (by kernel_rfl)
   refine wpList_storeF rfl _ _ _ rfl (b := bo) (n := n + i) (k := (kn : Int)) (s := c.fName) (i := (i : Int)) rfl rfl rfl ((HMO.out.below hR1).kept rfl) KF.out (WalkArith.wf_i64 (by omega)) (by unfold maxLen; omega) ?_
   intro w2 hm2 hg2
   have hz2 := hg2.size
   have hE2 : Below w0.heap.size w0 w2 := hE1.drew.grown hg2 (by show _ ≤ w1.heap.size; exact hE1.size) (fun k h => by cases h; exact ho0)
   have hF2 : Frame2 bo ba w w2 := hF1.trans ((Frame2.of_below (w' := w1.drew) (Below.refl _ _).drew).trans (Frame2.of_grown hg2 (Or.inl rfl)))
   have ck2 : w2.cell? ⟨w.heap.size, 1, none⟩ = some (.slice ka kl kc) := by
    have h1 : w1.cell? ⟨w.heap.size, 1, none⟩ = some (.slice ka kl kc) := qad hR1 ck
    have h2 := hg2.block w.heap.size (by have := block_lt_of_cell h1; exact this) (by simp; omega)
    rw [qag h2]; exact h1
   have hma2 : MapF w2 ba n fa := ((HMA.out.below hR1).kept (w' := w1.drew) rfl).kept (hg2.block ba (by have := (HMA.out.below hR1).lt; exact this) (by simp; omega))
   have HM2 := qhd hm2
   have HMA2 := qhd hma2
   clear n5 n6 n7 hm2 hma2
   go_wp2
   go_roundw
   case measure => simp [intOf]; omega
   case rel =>
    refine ⟨i + 1, by omega, by go_num, EachTo.step HA.out E0.out (by have h8 := HZ.out; have h9 := HQ.out; rw [h8] at h9; simp [ownIn, H5.out, h9]), hE2, hF2, ck2, ?_, HMA2.out⟩
    refine (HM2.out.congr fun k s _ => ?_)
    have h8 := HZ.out
    have h9 := HQ.out
    rw [h8] at h9
    unfold upd plus
    by_cases hk : k = (kn : Int)
    ·subst hk
     simp only [true_and, if_true]
     rw [own_step E0.out h9]
    ·simp only [hk, false_and, if_false]
  ·obtain rfl : i = ll := by omega
   have HFO : Hid (each (ownIn x.fOwns) x.fOwns = true) := qhd (qav HA.out TL1.out)
   have HMF : Hid (MapF wr bo (n + i) (plus fo kn (ownK x))) := qhd (by
    have := HMO.out
    rw [List.take_of_length_le (by rw [TL1.out]; exact Nat.le_refl _)] at this
    exact this)
   clear HA HMO
   obtain ⟨wo, rfl⟩ : ∃ wo : World, wo = wr := ⟨_, rfl⟩
   go_wp2_with fail
   go_loopw [70] (fun z wr => ∃ j : Nat, j ≤ kl ∧ z = .int .i64 j ∧ EachTo (askIn len x.fAsks) x.fAsks j = true ∧ Below w0.heap.size w0 wr ∧ Frame2 bo ba w wr ∧ MapF wr bo (n + i) (plus fo kn (ownK x)) ∧ MapF wr ba (n + j) (plus fa kn fun s => optI (asksOf (x.fAsks.take j) s))) (fun z _ => kl - (intOf z).toNat)
   case atStart =>
    exact ⟨0, Nat.zero_le _, rfl, rfl, hb, hf, HMF.out, HMA.out.congr fun k s _ => by
     unfold plus
     by_cases h : k = (kn : Int)
     ·subst h
      rw [FA0.out]; simp [asksOf, optI]
     ·simp [h]⟩
   case round =>
    clear hb hf ck hbx hfs hkb HMA HMF
    obtain ⟨j, hj, rfl, ha, hb, hf, hmo, hma⟩ := hrel
    have HA := qhd ha
    have HMO := qhd hmo
    have HMA := qhd hma
    clear ha hmo hma
    have hbx := hb.size
    have hfs := hf.1
    by_cases hlt : j < kl
    ·obtain ⟨_, _, _, e', _, _, _, h3⟩ := t2.stays rLodAsk_good (Keeps.of_below hb)
     cases e'
     obtain ⟨b', off', rfl, _, hbl', hr⟩ := h3 (by omega)
     obtain ⟨⟨an, ak⟩, cs, e0, e1, e2, e3⟩ := hr j hlt
     obtain ⟨rfl, by1⟩ := e3
     have p1 : wr.cell? ⟨b', off' + j * 2, none⟩ = some (.string an) := e2 0 _ rfl
     have p2 : wr.cell? ⟨b', off' + j * 2 + 1, none⟩ = some (.int .i64 ak) := e2 1 _ rfl
     have E0 := qhd e0
     have KF : Hid (KeyFit (kn : Int) an) := qhd ⟨WalkArith.wf_i64 (by omega), by1⟩
     clear e0 e1 e2 hr h3
     go_wp2_with fail
     obtain ⟨wK, hwK⟩ : ∃ wK, wK = (wr.alloc (.cells #[.string an, .int .i64 ak] 51)).alloc (.cells #[.int .i64 (kn : Int), .string an] 123) := ⟨_, rfl⟩
     rw [← hwK]
     have hRK : Below wr.heap.size wr wK := by rw [hwK]; exact bbel
     have hzK : wr.heap.size + 1 < wK.heap.size := by rw [hwK]; simp
     have n1 := In.cell (show wK.cell? ⟨wr.heap.size, 0, none⟩ = some (.string an) by rw [hwK]; go_simp)
     have n2 := In.cell (show wK.cell? ⟨wr.heap.size, 1, none⟩ = some (.int .i64 ak) by rw [hwK]; go_simp)
     have n5 := In.cell (show wK.cell? ⟨wr.heap.size + 1, 0, none⟩ = some (.int .i64 (kn : Int)) by rw [hwK]; go_simp)
     have n6 := In.cell (show wK.cell? ⟨wr.heap.size + 1, 1, none⟩ = some (.string an) by rw [hwK]; go_simp)
     have n7 := In.cell (qad hRK (hf.cell C2.out hLo hLa))
     have n0 := In.cell (qad hRK (hf.cell C0.out hLo hLa))
     have N0 := qhd n0
     have N1 := qhd n1
     have N2 := qhd n2
     have N5 := qhd n5
     have N6 := qhd n6
     have N7 := qhd n7
     clear hwK p1 p2 n0
     obtain ⟨z, hz⟩ : ∃ z, z = asksOf (x.fAsks.take j) an := ⟨_, rfl⟩
     have HZ : Hid (z < 0 ↔ askAt (x.fAsks.take j) an < 0) := qhd (by rw [hz]; exact asksOf_sign HA.out an)
     have LK : ∀ y : In wK, (Instr.lookup 104 (.map (some ba)) (.agg #[.int .i64 (kn : Int), .string an]) true).run Tryz.prog y.x = .ok (.tuple #[.int .i64 ((optI z).getD 0), .bool (optI z).isSome]) y.x := fun y => by
      have := ((HMA.out.below hRK).below y.h).look_ok KF.out
      unfold plus at this
      rw [if_pos rfl] at this
      dsimp only at this
      rw [← hz] at this
      exact this
     clear hz
     by_cases hzz : ¬ z < 0
     ·have hq : (optI z).isSome = true := by unfold optI; rw [if_neg hzz]; rfl
      have hq2 : (optI z).getD 0 = z := by unfold optI; rw [if_neg hzz]; rfl
      rw [hq, hq2] at LK
      have HQ := qhd hzz
      clear hq hq2 hzz
      refine qaj (by kernel_rfl) (by kernel_rfl) ?_
      repeat (go_big_quiet_step (first | fail))
      refine wpQuiet_nil ?_
      rintro wZ ⟨⟨wE, hwE⟩, hq⟩
      obtain rfl : wE = wZ := hq.symm
      clear hq
      have hwEs := hwE.size
      (try dsimp only)
      have hEE := hb.trans ((hRK.trans (hwE.mono hRK.size)).mono hbx)
      have hFE : Frame2 bo ba w wE := hf.trans (Frame2.of_below (hRK.trans (hwE.mono hRK.size)))
      clear LK n1 n2 n5 n6 n7
      go_wp2
      all_goals (try go_returns)
      have hk0 : keeperOk len x = false := by
       have h9 : ¬ askAt (x.fAsks.take j) an < 0 := fun h => absurd (HZ.out.2 h) (by have := HQ.out; omega)
       have : each (askIn len x.fAsks) x.fAsks = false := qal E0.out (by simp [askIn, h9])
       simp [keeperOk, this]
      all_goals exact HR.out _ _ ⟨qah hk0.symm, hEE, hFE, fun h => by rw [hk0] at h; cases h⟩
     have hzz' : z < 0 := Decidable.byContradiction hzz
     have hq : (optI z).isSome = false := by unfold optI; rw [if_pos hzz']; rfl
     have hq2 : (optI z).getD 0 = 0 := by unfold optI; rw [if_pos hzz']; rfl
     rw [hq, hq2] at LK
     have HQ : Hid (askAt (x.fAsks.take j) an < 0) := qhd (HZ.out.1 hzz')
     clear hq hq2 hzz hzz'
     refine qaj (by kernel_rfl) (by kernel_rfl) ?_
     repeat (go_big_quiet_step (first | fail))
     refine wpQuiet_nil ?_
     rintro wZ ⟨⟨wE, hwE⟩, hq⟩
     obtain rfl : wE = wZ := hq.symm
     clear hq
     have hwEs := hwE.size
     (try dsimp only)
     have hRE := hRK.trans (hwE.mono hRK.size)
     have hEE := hb.trans (hRE.mono hbx)
     have hFE : Frame2 bo ba w wE := hf.trans (Frame2.of_below hRE)
     clear LK n1 n2 n5 n6 n7
     have n1 := N1.out ⟨wE, hwE⟩
     have n2 := N2.out ⟨wE, hwE⟩
     have n0 := N0.out ⟨wE, hwE⟩
     have n5 := N5.out ⟨wE, hwE⟩
     have n6 := N6.out ⟨wE, hwE⟩
     have n7 := N7.out ⟨wE, hwE⟩
     dsimp only at n0 n1 n2 n5 n6 n7
     go_wp2_with fail
     refine (I_NamOk an _ by1).mono ?_
     rintro _ _ ⟨rfl, rfl⟩
     cases hx : namOk an
     ·have H5 := qhd hx
      clear hx
      go_wp2
      all_goals (try go_returns)
      have hk0 : keeperOk len x = false := by
       have : each (askIn len x.fAsks) x.fAsks = false := qal E0.out (by simp [askIn, H5.out])
       simp [keeperOk, this]
      all_goals exact HR.out _ _ ⟨qah hk0.symm, hEE, hFE, fun h => by rw [hk0] at h; cases h⟩
     have H5 := qhd hx
     clear hx
     go_wp2_with fail
     refine (I_has L ak _ len cap _ n0 (by omega)).mono ?_
     rintro _ _ ⟨rfl, rfl⟩
     by_cases hin : ¬ (0 ≤ ak ∧ ak < (len : Int))
     ·have HIN := qhd hin
      have hq : (decide (0 ≤ ak) && decide (ak < (len : Int))) = false := by simp; omega
      rw [hq]
      clear hq hin
      go_wp2
      all_goals (try go_returns)
      have hk0 : keeperOk len x = false := by
       have h9 := HIN.out
       have : each (askIn len x.fAsks) x.fAsks = false := qal E0.out (by
        have h10 : (decide (0 ≤ ak) && decide (ak ≤ (len : Int) - 1)) = false := by simp; omega
        simp only [askIn, h10]; simp)
       simp [keeperOk, this]
      all_goals exact HR.out _ _ ⟨qah hk0.symm, hEE, hFE, fun h => by rw [hk0] at h; cases h⟩
     obtain ⟨hi1, hi2⟩ : 0 ≤ ak ∧ ak < (len : Int) := Decidable.byContradiction hin
     have hq : (decide (0 ≤ ak) && decide (ak < (len : Int))) = true := by simp; omega
     rw [hq]
     clear hq hin
     go_wp2_with fail
     go_still_tail 7, (by kernel_rfl)
     refine wpList_storeF rfl _ _ _ rfl (b := ba) (n := n + j) (k := (kn : Int)) (s := an) (i := ak) rfl rfl rfl ((HMA.out.below hRE).kept rfl) KF.out (WalkArith.wf_i64 (by omega)) (by unfold maxLen; omega) ?_
     intro w2 hm2 hg2
     have hz2 := hg2.size
     have hE2 : Below w0.heap.size w0 w2 := hEE.drew.grown hg2 (by show _ ≤ wE.heap.size; exact hEE.size) (fun k h => by cases h; exact ha0)
     have hF2 : Frame2 bo ba w w2 := hFE.trans ((Frame2.of_below (w' := wE.drew) (Below.refl _ _).drew).trans (Frame2.of_grown hg2 (Or.inr rfl)))
     have hmo2 : MapF w2 bo (n + i) (plus fo kn (ownK x)) := ((HMO.out.below hRE).kept (w' := wE.drew) rfl).kept (hg2.block bo (by have := (HMO.out.below hRE).lt; exact this) (by simp; omega))
     have HM2 := qhd hm2
     have HMO2 := qhd hmo2
     clear n0 n1 n2 n5 n6 n7 hm2 hmo2
     go_wp2
     go_roundw
     case measure => simp [intOf]; omega
     case rel =>
      refine ⟨j + 1, by omega, by go_num, EachTo.step HA.out E0.out (by
       have h9 := HQ.out
       have h10 : (decide (0 ≤ ak) && decide (ak ≤ (len : Int) - 1)) = true := by simp; omega
       simp only [askIn, h10, H5.out]; simp [h9]), hE2, hF2, HMO2.out, ?_⟩
      refine (HM2.out.congr fun k s _ => ?_)
      unfold upd plus
      by_cases hk : k = (kn : Int)
      ·subst hk
       simp only [true_and, if_true]
       rw [ask_step HA.out E0.out HQ.out hi1]
      ·simp only [hk, false_and, if_false]
    ·obtain rfl : j = kl := by omega
     have hk1 : keeperOk len x = true := by
      have h5 : each (askIn len x.fAsks) x.fAsks = true := qav HA.out TL2.out
      unfold keeperOk
      rw [TL1.out, TL2.out, HFO.out, h5, decide_eq_true hl5, decide_eq_true hl4]; rfl
     have HMF : MapF wr ba (n + 10) (plus fa kn (askK x)) := by
      have := HMA.out
      rw [List.take_of_length_le (by rw [TL2.out]; exact Nat.le_refl _)] at this
      exact this.mono (by omega)
     have HMG := qhd HMF
     have HK1 := qhd hk1
     clear HMF hk1
     go_wp2
     all_goals (try go_returns)
     all_goals exact HR.out _ _ ⟨qah HK1.out.symm, hb, hf, fun _ => ⟨HMO.out.mono (by omega), HMG.out⟩⟩

def planF (p : DLodPlan) (g : DLodKeeper → ByteArray → Option Int) : Int → ByteArray → Option Int := fun k s => if 0 ≤ k then (match p.fKeepers[k.toNat]? with | some x => g x s | none => none) else none
def planTo (p : DLodPlan) (g : DLodKeeper → ByteArray → Option Int) (j : Nat) : Int → ByteArray → Option Int := fun k s => if k < (j : Int) then planF p g k s else none
theorem planTo_zero (p : DLodPlan) (g : DLodKeeper → ByteArray → Option Int) (k : Int) (s : ByteArray) : planTo p g 0 k s = none := by
 unfold planTo planF
 by_cases h : k < 0
 ·have : ¬ 0 ≤ k := by omega
  simp [h, this]
 ·have : ¬ k < ((0 : Nat) : Int) := by omega
  rw [if_neg this]
theorem planTo_self (p : DLodPlan) (g : DLodKeeper → ByteArray → Option Int) (j : Nat) (s : ByteArray) : planTo p g j (j : Int) s = none := by simp [planTo]
theorem planTo_step {p : DLodPlan} {g : DLodKeeper → ByteArray → Option Int} {j : Nat} {x : DLodKeeper} (e : p.fKeepers[j]? = some x) (k : Int) (s : ByteArray) : plus (planTo p g j) (j : Int) (g x) k s = planTo p g (j + 1) k s := by
 unfold plus planTo
 by_cases hk : k = (j : Int)
 ·subst hk
  have h1 : (j : Int) < ((j + 1 : Nat) : Int) := by omega
  simp only [if_true, h1]
  unfold planF
  rw [if_pos (by omega), Int.toNat_natCast, e]
 ·rw [if_neg hk]
  by_cases h : k < (j : Int)
  ·rw [if_pos h, if_pos (by omega)]
  ·rw [if_neg h, if_neg (by omega)]
theorem planTo_all (p : DLodPlan) (g : DLodKeeper → ByteArray → Option Int) (k : Int) (s : ByteArray) : planTo p g p.fKeepers.length k s = planF p g k s := by
 unfold planTo
 by_cases h : k < (p.fKeepers.length : Int)
 ·rw [if_pos h]
 ·rw [if_neg h]
  unfold planF
  by_cases h0 : 0 ≤ k
  ·rw [if_pos h0, List.getElem?_eq_none (by omega)]
  ·rw [if_neg h0]

def Lodge (w : World) (L : Nat) (p : DLodPlan) : Prop :=
 ∃ (a : Option Addr) (len cap bo ba bl n : Nat), w.cell? ⟨L, 0, none⟩ = some (.slice a len cap) ∧ w.cell? ⟨L, 1, none⟩ = some (.map (some bo)) ∧ w.cell? ⟨L, 2, none⟩ = some (.map (some ba)) ∧ w.cell? ⟨L, 3, none⟩ = some (.map (some bl)) ∧
  Sl 2 rLodKeeper 0 w (.slice a len cap) p.fKeepers ∧ MapF w bo n (planF p ownK) ∧ MapF w ba n (planF p askK) ∧ (∃ g, MapF w bl n g) ∧ n ≤ 2000
theorem Lodge.below {w w' : World} {L : Nat} {p : DLodPlan} (h : Lodge w L p) (hb : Below w.heap.size w w') : Lodge w' L p := by
 obtain ⟨a, len, cap, bo, ba, bl, n, c0, c1, c2, c3, s, m1, m2, ⟨g, m3⟩, hn⟩ := h
 exact ⟨a, len, cap, bo, ba, bl, n, qad hb c0, qad hb c1, qad hb c2, qad hb c3, s.stays rLodKeeper_good (Keeps.of_below hb), m1.below hb, m2.below hb, ⟨g, m3.below hb⟩, hn⟩
def LodgeF (w0 w : World) (L : Nat) (p : DLodPlan) : Prop :=
 ∃ (a : Option Addr) (len cap bo ba bl n : Nat), w.cell? ⟨L, 0, none⟩ = some (.slice a len cap) ∧ w.cell? ⟨L, 1, none⟩ = some (.map (some bo)) ∧ w.cell? ⟨L, 2, none⟩ = some (.map (some ba)) ∧ w.cell? ⟨L, 3, none⟩ = some (.map (some bl)) ∧
  Sl 2 rLodKeeper 0 w0 (.slice a len cap) p.fKeepers ∧ MapF w bo n (planF p ownK) ∧ MapF w ba n (planF p askK) ∧ MapF w bl n (fun _ _ => none) ∧ n ≤ 1000 ∧ Below w0.heap.size w0 w ∧ w0.heap.size ≤ bl ∧ bo ≠ bl ∧ ba ≠ bl ∧ L ≠ bl ∧ w0.heap.size ≤ L
theorem LodgeF.lodge {w0 w : World} {L : Nat} {p : DLodPlan} (h : LodgeF w0 w L p) : Lodge w L p := by
 obtain ⟨a, len, cap, bo, ba, bl, n, c0, c1, c2, c3, s, m1, m2, m3, hn, hb, _⟩ := h
 exact ⟨a, len, cap, bo, ba, bl, n, c0, c1, c2, c3, s.stays rLodKeeper_good (Keeps.of_below hb), m1, m2, ⟨_, m3⟩, by omega⟩
theorem LodgeF.below {w0 w w' : World} {L : Nat} {p : DLodPlan} (h : LodgeF w0 w L p) (hb : Below w.heap.size w w') : LodgeF w0 w' L p := by
 obtain ⟨a, len, cap, bo, ba, bl, n, c0, c1, c2, c3, s, m1, m2, m3, hn, hw, h1, h2, h3, h4, h5⟩ := h
 exact ⟨a, len, cap, bo, ba, bl, n, qad hb c0, qad hb c1, qad hb c2, qad hb c3, s, m1.below hb, m2.below hb, m3.below hb, hn, hw.trans (hb.mono hw.size), h1, h2, h3, h4, h5⟩

def NewLodge (w : World) (p : DLodPlan) (e : Ending) (w' : World) : Prop :=
 Below w.heap.size w w' ∧ ((lodOk p = false ∧ e = .returned (.pointer none)) ∨ (lodOk p = true ∧ ∃ L, e = .returned (.pointer (some ⟨L, 0, none⟩)) ∧ Lodge w' L p))

def NewLodgeF (w : World) (p : DLodPlan) (e : Ending) (w' : World) : Prop :=
 Below w.heap.size w w' ∧ ((lodOk p = false ∧ e = .returned (.pointer none)) ∨ (lodOk p = true ∧ ∃ L, e = .returned (.pointer (some ⟨L, 0, none⟩)) ∧ LodgeF w w' L p))

theorem I_newLodgeF (x : DLodPlan) (v1 : Value) (w : World) (s1 : Sl 2 rLodKeeper 0 w v1 x.fKeepers) :
  Calls Tryz.prog 40 #[.agg #[v1]] w (NewLodgeF w x) := by
 obtain ⟨a, len, cap, rfl⟩ := s1.form
 obtain ⟨hl, hcap, hm⟩ := s1.len
 have m1 : len ≤ 9223372036854775807 := by unfold maxLen at hm; omega
 have HL := qhd hl
 clear hl hm hcap
 have hmm := @run_makeMap Tryz.prog
 refine qab fun R HR => ?_
 go_enter Tryz.func40, Tryz.ntmps40
 go_wp2_with fail
 all_goals first
  | (try go_returns
     exact HR.out _ _ ⟨bbel, Or.inl ⟨by
      unfold lodOk; rw [HL.out]
      by_cases h8 : len ≤ 3
      ·have h9 : ¬ 1 ≤ len := by omega
       rw [decide_eq_false h9]; simp
      ·rw [decide_eq_false h8]; simp, rfl⟩⟩)
  | skip
 have hn1 : 1 ≤ len := by omega
 have hn3 : len ≤ 3 := by omega
 obtain ⟨wS, hwS⟩ : ∃ wS, wS = ((((w.alloc (.cells #[.slice a len cap] 25)).alloc (.map #[] 0)).alloc (.map #[] 0)).alloc (.map #[] 0)).alloc (.cells #[.slice a len cap, .map (some (w.heap.size + 1)), .map (some (w.heap.size + 1 + 1)), .map (some (w.heap.size + 1 + 1 + 1))] 106) := ⟨_, rfl⟩
 rw [← hwS]
 have hES : Below w.heap.size w wS := by rw [hwS]; exact bbel
 have k0 : wS.cell? ⟨w.heap.size + 1 + 1 + 1 + 1, 0, none⟩ = some (.slice a len cap) := by rw [hwS]; go_simp
 have k1 : wS.cell? ⟨w.heap.size + 1 + 1 + 1 + 1, 1, none⟩ = some (.map (some (w.heap.size + 1))) := by rw [hwS]; go_simp
 have k2 : wS.cell? ⟨w.heap.size + 1 + 1 + 1 + 1, 2, none⟩ = some (.map (some (w.heap.size + 1 + 1))) := by rw [hwS]; go_simp
 have k3 : wS.cell? ⟨w.heap.size + 1 + 1 + 1 + 1, 3, none⟩ = some (.map (some (w.heap.size + 1 + 1 + 1))) := by rw [hwS]; go_simp
 have M1 : MapF wS (w.heap.size + 1) 0 (fun _ _ => none) := by
  have h := MapF.made (w.alloc (.cells #[.slice a len cap] 25))
  rw [World.size_alloc] at h
  rw [hwS]
  exact h.below (bbel)
 have M2 : MapF wS (w.heap.size + 1 + 1) 0 (fun _ _ => none) := by
  have h := MapF.made ((w.alloc (.cells #[.slice a len cap] 25)).alloc (.map #[] 0))
  simp only [World.size_alloc] at h
  rw [hwS]
  exact h.below (bbel)
 have M3 : MapF wS (w.heap.size + 1 + 1 + 1) 0 (fun _ _ => none) := by
  have h := MapF.made (((w.alloc (.cells #[.slice a len cap] 25)).alloc (.map #[] 0)).alloc (.map #[] 0))
  simp only [World.size_alloc] at h
  rw [hwS]
  exact h.below (bbel)
 have MM1 := qhd M1
 have MM2 := qhd M2
 have MM3 := qhd M3
 have K0 := qhd k0
 have K1 := qhd k1
 have K2 := qhd k2
 have K3 := qhd k3
 have hzS : w.heap.size + 1 + 1 + 1 + 1 < wS.heap.size := by rw [hwS]; simp
 clear hwS k0 k1 k2 k3 M1 M2 M3
 obtain ⟨L, hLd⟩ : ∃ L, L = w.heap.size + 1 + 1 + 1 + 1 := ⟨_, rfl⟩
 have hL1 : L ≠ w.heap.size + 1 := by omega
 have hL2 : L ≠ w.heap.size + 1 + 1 := by omega
 have HL3 : Hid (L = w.heap.size + 1 + 1 + 1 + 1) := qhd hLd
 rw [← hLd] at K0 K1 K2 K3 hzS
 rw [← hLd]
 clear hLd
 go_loopw [25] (fun z wr => ∃ j : Nat, j ≤ len ∧ z = .int .i64 j ∧ EachTo (fun _ k => keeperOk x.fKeepers.length k) x.fKeepers j = true ∧ Below w.heap.size w wr ∧ Frame2 (w.heap.size + 1) (w.heap.size + 1 + 1) wS wr ∧ MapF wr (w.heap.size + 1) (10 * j) (planTo x ownK j) ∧ MapF wr (w.heap.size + 1 + 1) (10 * j) (planTo x askK j)) (fun z _ => len - (intOf z).toNat)
 case atStart => exact ⟨0, Nat.zero_le _, rfl, rfl, hES, Frame2.refl _ _ _, MM1.out.congr fun k s _ => (planTo_zero _ _ k s).symm, MM2.out.congr fun k s _ => (planTo_zero _ _ k s).symm⟩
 case round =>
  clear hmm
  obtain ⟨j, hj, rfl, ha, hb, hf, hmo, hma⟩ := hrel
  have HA := qhd ha
  have HMO := qhd hmo
  have HMA := qhd hma
  clear ha hmo hma
  have hbx := hb.size
  have hfs := hf.1
  have k0 := hf.cell K0.out hL1 hL2
  have k1 := hf.cell K1.out hL1 hL2
  have k2 := hf.cell K2.out hL1 hL2
  have k3 := hf.cell K3.out hL1 hL2
  by_cases hlt : j < len
  ·obtain ⟨y, hy⟩ : ∃ y, x.fKeepers[j]? = some y := ⟨_, List.getElem?_eq_getElem (by rw [HL.out]; exact hlt)⟩
   have E0 := qhd hy
   clear hy
   go_wp2_with fail
   refine (I_enter x y w _ L (w.heap.size + 1) (w.heap.size + 1 + 1) j (10 * j) a len cap _ _ s1 E0.out hb hn3 k0 k1 k2 HMO.out HMA.out (by omega) (by omega) (by omega) (by omega) hL1 hL2 (planTo_self _ _ _) (planTo_self _ _ _)).mono ?_
   rintro _ w1 ⟨rfl, g, gf, gm⟩
   have hF1 := hf.trans gf
   have GM := qhd gm
   clear gm k0 k1 k2 k3 gf hf
   cases hx : keeperOk len y
   ·have H5 := qhd hx
    clear hx
    go_wp2
    all_goals (try go_returns)
    all_goals exact HR.out _ _ ⟨g, Or.inl ⟨by
     have h5 : each (fun _ k => keeperOk x.fKeepers.length k) x.fKeepers = false := qal E0.out (by rw [HL.out]; exact H5.out)
     unfold lodOk; rw [h5]; simp, rfl⟩⟩
   have H5 := qhd hx
   clear hx
   go_wp2
   go_roundw
   case measure => simp [intOf]; omega
   case rel =>
    obtain ⟨q1, q2⟩ := GM.out H5.out
    exact ⟨j + 1, by omega, by go_num, EachTo.step HA.out E0.out (by rw [HL.out]; exact H5.out), g, hF1, (q1.congr fun k s _ => planTo_step E0.out k s).mono (by omega), (q2.congr fun k s _ => planTo_step E0.out k s).mono (by omega)⟩
  ·obtain rfl : j = len := by omega
   have hm3 : MapF wr (w.heap.size + 1 + 1 + 1) 0 (fun _ _ => none) := MM3.out.kept (hf.2 _ MM3.out.lt (by omega) (by omega))
   have KK0 := qhd k0
   have KK1 := qhd k1
   have KK2 := qhd k2
   have KK3 := qhd k3
   have HM3 := qhd hm3
   clear k0 k1 k2 k3 hm3
   go_wp2
   all_goals (try go_returns)
   all_goals exact HR.out _ _ ⟨hb, Or.inr ⟨by
    have h5 : each (fun _ k => keeperOk x.fKeepers.length k) x.fKeepers = true := qav HA.out HL.out
    unfold lodOk; rw [h5, HL.out, decide_eq_true hn1, decide_eq_true hn3]; rfl, L, rfl, a, j, cap, _, _, _, 10 * j, KK0.out, KK1.out, KK2.out, KK3.out, s1, HMO.out.congr (fun k s _ => by rw [← planTo_all, HL.out]), HMA.out.congr (fun k s _ => by rw [← planTo_all, HL.out]), HM3.out.mono (by omega), by omega, hb, by omega, by omega, by omega, by have := HL3.out; omega, by have := HL3.out; omega⟩⟩

theorem I_newLodge (x : DLodPlan) (v1 : Value) (w : World) (s1 : Sl 2 rLodKeeper 0 w v1 x.fKeepers) :
  Calls Tryz.prog 40 #[.agg #[v1]] w (NewLodge w x) :=
 (I_newLodgeF x v1 w s1).mono fun e w' h => ⟨h.1, h.2.imp id fun ⟨h1, L, h2, h3⟩ => ⟨h1, L, h2, h3.lodge⟩⟩

theorem I_LodOk (x : DLodPlan) (v1 : Value) (w : World) (s1 : Sl 2 rLodKeeper 0 w v1 x.fKeepers) :
  Calls Tryz.prog 18 #[.agg #[v1]] w fun e w' => e = .returned (.bool (lodOk x)) ∧ Below w.heap.size w w' := by
 obtain ⟨a, len, cap, rfl⟩ := s1.form
 refine qab fun R HR => ?_
 go_enter Tryz.func18, Tryz.ntmps18
 go_wp2_with fail
 refine (I_newLodge x _ _ (s1.stays rLodKeeper_good (Keeps.of_below' (B := w.heap.size) (bbel) (Nat.le_refl _)))).mono ?_
 rintro e w1 ⟨g, hq⟩
 have hE : Below w.heap.size w w1 := bbel
 rcases hq with ⟨h1, rfl⟩ | ⟨h1, L, rfl, _⟩
 all_goals
  have H1 := qhd h1
  clear h1
  go_wp2
  all_goals (try go_returns)
  all_goals exact HR.out _ _ ⟨qah H1.out.symm, hE⟩

end Go.Proofs.YtfbonocadpknbaaGreatDoor
