

/-
  Maps from references to numbers, made by the call: what they hold, as a function of keeper and name. No condition.
-/
import Derived.Test.YtmmlhnjmjmbfpaaGreatLaw
import Derived.Test.YtmmlhnjmjmbfpaaGreatLodP
import Derived.Test.YtmmlhnjmjmbfpaaGreatReg
import Derived.Maps.OwnSet
import Derived.DeepKeys5
import Derived.WideKeyPair
namespace Go.Proofs.YtmmlhnjmjmbfpaaGreat
set_option linter.unusedSimpArgs false
set_option linter.unusedVariables false
open Go.RowKit Go.Maps Go.WideElems Go.ChangeShapes

theorem refKeyed : Keyed Tryz.prog 35 := Keyed.of_law (deep_law_gate laidOut (of_decide_eq_true (by kernel_rfl)) (of_decide_eq_true (by kernel_rfl)) (by kernel_rfl) (by kernel_rfl))

/-- a reference as a key -/
def refV (k : Int) (n : ByteArray) : Value := .agg #[.int .i64 k, .string n]
def KeyFit (k : Int) (n : ByteArray) : Prop := (Lit.int .i64 k).wf = true ∧ n.size ≤ maxLen
def refL (k : Int) (n : ByteArray) : Lit := .string (keyBytes [.int .i64 k, .string n.data.toList])

set_option maxRecDepth 100000 in
theorem keyOf_ref {k : Int} {n : ByteArray} (h : KeyFit k n) : keyOf Tryz.prog 35 (refV k n) = some (refL k n) := by
  obtain ⟨h1, h2⟩ := h
  have hu := Tryz.underlying35
  have hkt : Tryz.prog.keyType 35 = true := by kernel_rfl
  obtain ⟨m, hm⟩ : ∃ m, Tryz.prog.types.size = m + 1 := ⟨Tryz.prog.types.size - 1, by kernel_rfl⟩
  have hc : Tryz.prog.cellsOf 35 = 2 := by kernel_rfl
  have hc3 : Tryz.prog.cellsOf 3 = 1 := by kernel_rfl
  have hc9 : Tryz.prog.cellsOf 9 = 1 := by kernel_rfl
  have iu3 := Tryz.underlying3
  have iu9 := Tryz.underlying9
  unfold keyOf refV
  simp only [hu]
  rw [if_pos (by simp [hkt, Value.formed, hu, hc]), hm]
  unfold Program.keyLits
  simp only [hu, Value.cells]
  rw [if_pos (by rw [hc]; exact ⟨rfl, by simp⟩)]
  simp [List.mapM_cons, List.mapM_nil, hc3, hc9, Program.keyLits, iu3, iu9, h1, h2, refL]

theorem refL_inj {k k' : Int} {n n' : ByteArray} (h : KeyFit k n) (h' : KeyFit k' n') (e : refL k n = refL k' n') : k = k' ∧ n = n' := by
  have a := keyOf_ref h
  have b := keyOf_ref h'
  rw [e] at a
  have := refKeyed.inj a b
  unfold refV at this
  simpa using this

theorem refL_isKey {k : Int} {n : ByteArray} (h : KeyFit k n) : WideAt.IsKeyLit (refL k n) := refKeyed.key (keyOf_ref h)

/-- block b of w is a map of at most n entries that holds f -/
def MapF (w : World) (b n : Nat) (f : Int → ByteArray → Option Int) : Prop :=
  ∃ D : DataW Unit, w.ownsMap Tryz.prog 35 (plainElem Tryz.prog 3) b n D ∧
    ∀ k s, KeyFit k s → Maps.has D (refL k s) = (f k s).isSome ∧ ∀ v, f k s = some v → D.atKey (refL k s) (.lit (.int .i64 0)) = .lit (.int .i64 v)

theorem MapF.made (w : World) : MapF (w.alloc (.map #[] 0)) w.heap.size 0 (fun _ _ => none) :=
  ⟨.map [], World.ownsMap_made _ _ _ _, fun k s _ => ⟨rfl, fun v h => by cases h⟩⟩
theorem MapF.lt {w : World} {b n : Nat} {f : Int → ByteArray → Option Int} (h : MapF w b n f) : b < w.heap.size := by
  obtain ⟨D, h, _⟩ := h; exact h.lt
theorem MapF.kept {w w' : World} {b n : Nat} {f : Int → ByteArray → Option Int} (h : MapF w b n f) (hb : w'.heap[b]? = w.heap[b]?) : MapF w' b n f := by
  obtain ⟨D, ⟨es, clock, h1, h2⟩, h3⟩ := h
  exact ⟨D, ⟨es, clock, hb.trans h1, h2⟩, h3⟩
theorem MapF.below {w w' : World} {b n : Nat} {f : Int → ByteArray → Option Int} (h : MapF w b n f) (hb : Below w.heap.size w w') : MapF w' b n f := h.kept (hb.block b h.lt)
theorem MapF.congr {w : World} {b n : Nat} {f g : Int → ByteArray → Option Int} (h : MapF w b n f) (e : ∀ k s, KeyFit k s → f k s = g k s) : MapF w b n g := by
  obtain ⟨D, h1, h2⟩ := h
  exact ⟨D, h1, fun k s hk => by rw [← e k s hk]; exact h2 k s hk⟩
theorem MapF.mono {w : World} {b n n' : Nat} {f : Int → ByteArray → Option Int} (h : MapF w b n f) (hn : n ≤ n') : MapF w b n' f := by
  obtain ⟨D, h1, h2⟩ := h
  exact ⟨D, h1.mono hn, h2⟩

theorem zeroInt (w : World) : (zeroValue 3).run Tryz.prog w = .ok (.int .i64 0) w := by kernel_rfl

theorem MapF.look_ok {w : World} {b n : Nat} {f : Int → ByteArray → Option Int} (h : MapF w b n f) {k : Int} {s : ByteArray} (hk : KeyFit k s) :
    (Instr.lookup 76 (.map (some b)) (.agg #[.int .i64 k, .string s]) true).run Tryz.prog w = .ok (.tuple #[.int .i64 ((f k s).getD 0), .bool (f k s).isSome]) w := by
  obtain ⟨D, h1, h2⟩ := h
  obtain ⟨h3, h4⟩ := h2 k s hk
  obtain ⟨v, ps, hrun, hv⟩ := h1.look_ok refKeyed Tryz.underlying76 (zeroInt w) (plainElem_int Tryz.underlying3 (by decide)) (keyOf_ref hk)
  obtain ⟨a, rfl, hz, _⟩ := plainElem_int_inv Tryz.underlying3 hv
  rw [h3] at hrun
  have : a = (f k s).getD 0 := by
    simp only [Prod.mk.injEq] at hz
    cases hf : f k s with
    | none =>
      rw [hf] at h3
      have := Maps.atKey_of_not_has h3 (.lit (.int .i64 0))
      rw [this] at hz
      simpa using hz.1.symm
    | some x =>
      rw [h4 x hf] at hz
      simpa using hz.1.symm
  rw [← this]
  exact hrun
theorem MapF.look {w : World} {b n : Nat} {f : Int → ByteArray → Option Int} (h : MapF w b n f) {k : Int} {s : ByteArray} (hk : KeyFit k s) :
    (Instr.lookup 76 (.map (some b)) (.agg #[.int .i64 k, .string s]) false).run Tryz.prog w = .ok (.int .i64 ((f k s).getD 0)) w := by
  obtain ⟨D, h1, h2⟩ := h
  obtain ⟨h3, h4⟩ := h2 k s hk
  obtain ⟨a, hrun, hat, _⟩ := h1.lookup_int refKeyed Tryz.underlying76 Tryz.underlying3 (zeroInt w) (keyOf_ref hk)
  have : a = (f k s).getD 0 := by
    cases hf : f k s with
    | none =>
      rw [hf] at h3
      have := Maps.atKey_of_not_has h3 (.lit (.int .i64 0))
      rw [this] at hat
      simpa using hat.symm
    | some x =>
      rw [h4 x hf] at hat
      simpa using hat.symm
  rw [← this]
  exact hrun
theorem MapF.store {w : World} {b n : Nat} {f : Int → ByteArray → Option Int} (h : MapF w b n f) {k : Int} {s : ByteArray} (hk : KeyFit k s) {v : Int} (hv : (Lit.int .i64 v).wf = true) (hn : n < maxLen) :
    ∃ w', (Instr.mapUpdate 76 (.map (some b)) (.agg #[.int .i64 k, .string s]) (.int .i64 v)).run Tryz.prog w = .ok () w' ∧ MapF w' b (n + 1) (upd f k s v) ∧ w.grownBy w' (some b) := by
  obtain ⟨D, h1, h2⟩ := h
  obtain ⟨w', hrun, ho, ht⟩ := h1.store refKeyed Tryz.underlying76 hn (keyOf_ref hk) (plainElem_int (H := Unit) Tryz.underlying3 hv)
  refine ⟨w', hrun, ⟨_, ho, fun k' s' hk' => ?_⟩, ht.grown⟩
  · by_cases he : k' = k ∧ s' = s
    · obtain ⟨rfl, rfl⟩ := he
      refine ⟨?_, fun x hx => ?_⟩
      · rw [Maps.has_put_same h1.isMap (refL_isKey hk)]; simp [upd]
      · rw [Maps.atKey_put_same h1.isMap (refL_isKey hk)]
        simp [upd] at hx
        rw [hx]
    · have hne : refL k' s' ≠ refL k s := fun e => he (refL_inj hk' hk e)
      have hu : upd f k s v k' s' = f k' s' := by unfold upd; rw [if_neg he]
      rw [hu, Maps.has_put_other hne]
      exact ⟨(h2 k' s' hk').1, fun x hx => by rw [Maps.atKey_put_other hne]; exact (h2 k' s' hk').2 x hx⟩

/-- the store, at the operation -/
theorem wpList_storeF {w : World} {ops : Array Oper} {rest : List Oper} {o : Oper} {a : Act} {Q : Exit → Act → World → Prop}
    (hg : o.guard = none) (m x v : Operand) (hop : o.op = Op.mapUpdate 76 m x v) {b n : Nat} {f : Int → ByteArray → Option Int} {k : Int} {s : ByteArray} {i : Int}
    (hm : a.eval m = .map (some b)) (hx : a.eval x = .agg #[.int .i64 k, .string s]) (hv : a.eval v = .int .i64 i) (hown : MapF w b n f) (hk : KeyFit k s) (hi : (Lit.int .i64 i).wf = true) (hn : n < maxLen)
    (hK : ∀ w', MapF w' b (n + 1) (upd f k s i) → w.grownBy w' (some b) → wpList Tryz.prog ops Q rest (a.put o.dst undef) w') :
    wpList Tryz.prog ops Q (o :: rest) a w := by
  refine wpList_plain hg fun K' hK' => ?_
  obtain ⟨w', hrun, r1, r2⟩ := hown.store hk hi hn
  unfold Oper.wp
  simp [execOp, hop, hm, hx, hv, hrun, Result.andThen]
  exact hK' _ _ (hK w' r1 r2)

/-- all blocks but two stay -/
def Frame2 (bo ba : Nat) (w w' : World) : Prop := w.heap.size ≤ w'.heap.size ∧ ∀ k, k < w.heap.size → k ≠ bo → k ≠ ba → w'.heap[k]? = w.heap[k]?
theorem Frame2.refl (bo ba : Nat) (w : World) : Frame2 bo ba w w := ⟨Nat.le_refl _, fun _ _ _ _ => rfl⟩
theorem Frame2.trans {bo ba : Nat} {a b c : World} (h : Frame2 bo ba a b) (k : Frame2 bo ba b c) : Frame2 bo ba a c :=
  ⟨Nat.le_trans h.1 k.1, fun i hi h1 h2 => (k.2 i (Nat.lt_of_lt_of_le hi h.1) h1 h2).trans (h.2 i hi h1 h2)⟩
theorem Frame2.of_below {bo ba : Nat} {w w' : World} (h : Below w.heap.size w w') : Frame2 bo ba w w' := ⟨h.size, fun k hk _ _ => h.block k hk⟩
theorem Frame2.of_grown {bo ba b : Nat} {w w' : World} (h : w.grownBy w' (some b)) (hb : b = bo ∨ b = ba) : Frame2 bo ba w w' :=
  ⟨h.size, fun k hk h1 h2 => h.block k hk (fun e => by cases e; rcases hb with rfl | rfl <;> contradiction)⟩
theorem Frame2.cell {bo ba : Nat} {w w' : World} (h : Frame2 bo ba w w') {b o : Nat} {v : Value} (hc : w.cell? ⟨b, o, none⟩ = some v) (h1 : b ≠ bo) (h2 : b ≠ ba) : w'.cell? ⟨b, o, none⟩ = some v := by
  rw [cell_of_heap (h.2 b (block_lt_of_cell hc) h1 h2)]; exact hc

end Go.Proofs.YtmmlhnjmjmbfpaaGreat
