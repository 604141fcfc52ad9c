

/-
  Slices of rows of cells: what such a slice holds, as a list; all that is reached lies in blocks from lo on. No condition.
-/
import Derived.Test.YtmmlhnjmjmbfpaaGreatName
import Derived.Deep.MidRow
import Derived.Laws.MakeOwn
import Derived.IntWalk
namespace Go.Proofs.YtmmlhnjmjmbfpaaGreat
set_option linter.unusedSimpArgs false
set_option linter.unusedVariables false
open Go.RowKit

/-- from block lo on nothing that was there has turned -/
structure Keeps (lo : Nat) (w w' : World) : Prop where
  size : w.heap.size ≤ w'.heap.size
  block : ∀ k, lo ≤ k → k < w.heap.size → w'.heap[k]? = w.heap[k]?
theorem Keeps.of_below {lo : Nat} {w w' : World} (h : Below w.heap.size w w') : Keeps lo w w' := ⟨h.size, fun k _ hk => h.block k hk⟩
theorem Keeps.of_below' {lo : Nat} {w w' : World} {B : Nat} (h : Below B w w') (hB : w.heap.size ≤ B) : Keeps lo w w' := ⟨h.size, fun k _ hk => h.block k (by omega)⟩

/-- a relation of rows: from lo on -/
abbrev RowRel (α : Type) := Nat → World → List Value → α → Prop
/-- .. that stays, and holds of a smaller lo -/
structure Good {α : Type} (R : RowRel α) : Prop where
  stays : ∀ lo w w' cs x, Keeps lo w w' → R lo w cs x → R lo w' cs x
  low : ∀ lo lo' w cs x, lo' ≤ lo → R lo w cs x → R lo' w cs x

/-- len rows of k cells lie at a: the rows xs -/
def SlAt {α : Type} (k : Nat) (R : RowRel α) (lo : Nat) (w : World) (a : Option Addr) (len : Nat) (xs : List α) : Prop :=
  0 < len → ∃ b off, a = some ⟨b, off, none⟩ ∧ lo ≤ b ∧ b < w.heap.size ∧ ∀ i, i < len → ∃ x cs, xs[i]? = some x ∧ cs.length = k ∧ w.rangeAt b (off + i * k) cs ∧ R lo w cs x
/-- the slice v holds the rows xs, each of k cells -/
def Sl {α : Type} (k : Nat) (R : RowRel α) (lo : Nat) (w : World) (v : Value) (xs : List α) : Prop :=
  ∃ (a : Option Addr) (len cap : Nat), v = .slice a len cap ∧ xs.length = len ∧ len ≤ cap ∧ cap ≤ maxLen ∧ SlAt k R lo w a len xs

theorem range_keep {w w' : World} {b o : Nat} {cs : List Value} (h : w.rangeAt b o cs) (hb : w'.heap[b]? = w.heap[b]?) : w'.rangeAt b o cs := fun j v hj => by
  rw [cell_of_heap hb]; exact h j v hj
theorem range_below {w w' : World} {b o : Nat} {cs : List Value} {B : Nat} (h : w.rangeAt b o cs) (hb : Below B w w') (hB : b < B) : w'.rangeAt b o cs := range_keep h (hb.block b hB)

theorem SlAt.stays {α : Type} {k : Nat} {R : RowRel α} (hR : Good R) {lo : Nat} {w w' : World} {a : Option Addr} {len : Nat} {xs : List α} (h3 : SlAt k R lo w a len xs) (hb : Keeps lo w w') : SlAt k R lo w' a len xs := fun hl => by
  obtain ⟨b, off, e, hlo, hbl, hr⟩ := h3 hl
  refine ⟨b, off, e, hlo, Nat.lt_of_lt_of_le hbl hb.size, fun i hi => ?_⟩
  obtain ⟨x, cs, c0, c1, c2, c3⟩ := hr i hi
  exact ⟨x, cs, c0, c1, range_keep c2 (hb.block b hlo hbl), hR.stays _ _ _ _ _ hb c3⟩
theorem SlAt.low {α : Type} {k : Nat} {R : RowRel α} (hR : Good R) {lo lo' : Nat} {w : World} {a : Option Addr} {len : Nat} {xs : List α} (h3 : SlAt k R lo w a len xs) (hl' : lo' ≤ lo) : SlAt k R lo' w a len xs := fun hl => by
  obtain ⟨b, off, e, hlo, hbl, hr⟩ := h3 hl
  refine ⟨b, off, e, Nat.le_trans hl' hlo, hbl, fun i hi => ?_⟩
  obtain ⟨x, cs, c0, c1, c2, c3⟩ := hr i hi
  exact ⟨x, cs, c0, c1, c2, hR.low _ _ _ _ _ hl' c3⟩
theorem Sl.stays {α : Type} {k : Nat} {R : RowRel α} (hR : Good R) {lo : Nat} {w w' : World} {v : Value} {xs : List α} (h : Sl k R lo w v xs) (hb : Keeps lo w w') : Sl k R lo w' v xs := by
  obtain ⟨a, len, cap, h0, hl, h1, h2, h3⟩ := h
  exact ⟨a, len, cap, h0, hl, h1, h2, h3.stays hR hb⟩
theorem Sl.low {α : Type} {k : Nat} {R : RowRel α} (hR : Good R) {lo lo' : Nat} {w : World} {v : Value} {xs : List α} (h : Sl k R lo w v xs) (hl' : lo' ≤ lo) : Sl k R lo' w v xs := by
  obtain ⟨a, len, cap, h0, hl, h1, h2, h3⟩ := h
  exact ⟨a, len, cap, h0, hl, h1, h2, h3.low hR hl'⟩

/-- rows of one number, of one text -/
def rInt : RowRel Int := fun _ _ cs n => cs = [.int .i64 n]
def rStr : RowRel ByteArray := fun _ _ cs s => cs = [.string s] ∧ s.size ≤ maxLen
theorem rInt_good : Good rInt := ⟨fun _ _ _ _ _ _ h => h, fun _ _ _ _ _ _ h => h⟩
theorem rStr_good : Good rStr := ⟨fun _ _ _ _ _ _ h => h, fun _ _ _ _ _ _ h => h⟩

/-- a row of len * k cells, in block b, of which the first m rows are written -/
structure Part {α : Type} (k : Nat) (R : RowRel α) (w : World) (b len m : Nat) (xs : List α) : Prop where
  lt : b < w.heap.size
  there : w.there b 0 (len * k)
  rows : ∀ i, i < m → ∃ x cs, xs[i]? = some x ∧ cs.length = k ∧ w.rangeAt b (i * k) cs ∧ R (b + 1) w cs x

theorem Part.below {α : Type} {k : Nat} {R : RowRel α} (hR : Good R) {w w' : World} {b len m : Nat} {xs : List α} (h : Part k R w b len m xs) (hb : Below w.heap.size w w') : Part k R w' b len m xs := by
  have hk := hb.block b h.lt
  refine ⟨Nat.lt_of_lt_of_le h.lt hb.size, fun j hj => ?_, fun i hi => ?_⟩
  · rw [cell_of_heap hk, frozen_of_heap hk]; exact h.there j hj
  · obtain ⟨x, cs, c0, c1, c2, c3⟩ := h.rows i hi
    exact ⟨x, cs, c0, c1, range_keep c2 hk, hR.stays _ _ _ _ _ (Keeps.of_below hb) c3⟩

theorem size_setCells (b : Nat) : ∀ (vs : List Value) (o : Nat) (w : World), (w.setCells b o vs).heap.size = w.heap.size
  | [], _, _ => rfl
  | v :: r, o, w => by rw [World.setCells, size_setCells b r]; simp [World.setCell]
theorem heap_setCells (b : Nat) : ∀ (vs : List Value) (o : Nat) (w : World) (k : Nat), k ≠ b → (w.setCells b o vs).heap[k]? = w.heap[k]?
  | [], _, _, _, _ => rfl
  | v :: r, o, w, k, hk => by rw [World.setCells, heap_setCells b r _ _ k hk]; exact Below.heap_setCell _ _ _ _ hk

theorem Part.step {α : Type} {k : Nat} {R : RowRel α} (hR : Good R) {w : World} {b len m : Nat} {xs : List α} (h : Part k R w b len m xs) (hm : m < len) {x : α} {cs : List Value} (hx : xs[m]? = some x) (hc : cs.length = k) (hr : R (b + 1) w cs x) : Part k R (w.setCells b (m * k) cs) b len (m + 1) xs := by
  have hmk : m * k + k ≤ len * k := by
    have : (m + 1) * k ≤ len * k := Nat.mul_le_mul_right k hm
    rw [Nat.add_mul, Nat.one_mul] at this; exact this
  have hth : w.there b (m * k) cs.length := fun j hj => by
    have := h.there (m * k + j) (by omega)
    rwa [Nat.zero_add] at this
  have hK : Keeps (b + 1) w (w.setCells b (m * k) cs) := ⟨by rw [size_setCells]; exact Nat.le_refl _, fun i hi _ => heap_setCells b cs _ w i (by omega)⟩
  refine ⟨by rw [size_setCells]; exact h.lt, fun j hj => ?_, fun i hi => ?_⟩
  · refine ⟨World.isSome_setCells b cs _ w _ (h.there j hj).1, ?_⟩
    rw [World.frozen?_setCells]; exact (h.there j hj).2
  · by_cases him : i < m
    · obtain ⟨y, ds, c0, c1, c2, c3⟩ := h.rows i him
      refine ⟨y, ds, c0, c1, World.rangeAt_setCells_apart c2 _ _ _ (Or.inr (Or.inl ?_)), hR.stays _ _ _ _ _ hK c3⟩
      have : (i + 1) * k ≤ m * k := Nat.mul_le_mul_right k him
      rw [Nat.add_mul, Nat.one_mul] at this; omega
    · obtain rfl : i = m := by omega
      exact ⟨x, cs, hx, hc, World.rangeAt_setCells_same _ _ _ _ hth, hR.stays _ _ _ _ _ hK hr⟩

theorem Part.done {α : Type} {k : Nat} {R : RowRel α} (hR : Good R) {w : World} {b len : Nat} {xs : List α} (h : Part k R w b len len xs) (hl : xs.length = len) (hm : len ≤ maxLen) : Sl k R b w (.slice (some ⟨b, 0, none⟩) len len) xs :=
  ⟨_, len, len, rfl, hl, Nat.le_refl _, hm, fun _ => ⟨b, 0, rfl, Nat.le_refl _, h.lt, fun i hi => by
    obtain ⟨x, cs, c0, c1, c2, c3⟩ := h.rows i hi
    exact ⟨x, cs, c0, c1, by rw [Nat.zero_add]; exact c2, hR.low _ _ _ _ _ (by omega) c3⟩⟩⟩

theorem Part.start {α : Type} {k : Nat} {R : RowRel α} {w : World} {len : Nat} {xs : List α} (z : Array Value) (e : TypeId) : Part k R (w.alloc (.cells (madeCells z (len * k)) e)) w.heap.size len 0 xs := by
  refine ⟨by simp, fun j hj => ?_, fun i hi => by omega⟩
  constructor
  · rw [World.cell?_alloc_at (hn := rfl)]
    simp [size_madeCells]; omega
  · rw [World.frozen?_alloc_at (hn := rfl)]

/-- make([]T, len) of rows -/
theorem make_rows {P : Program} (w : World) (t e : TypeId) (z : Value) (k by' : Nat) (ht : P.underlying t = some (.slice e)) (hi : (P.info? e).map (fun i => (i.zero, i.size, i.bytes)) = some (some z, k, by')) (hb : by' ≤ 1024) (len : Nat) (hl : len ≤ 1048576) :
    (Instr.makeSlice t (.int .i64 (len : Int)) (.int .i64 (len : Int))).run P w = .ok (.slice (some ⟨w.heap.size, 0, none⟩) len len) (w.alloc (.cells (madeCells z.cells (len * k)) e)) := by
  cases hq : P.info? e with
  | none => rw [hq] at hi; exact absurd hi (by simp only [Option.map_none]; exact fun h => nomatch h)
  | some i =>
    simp only [hq, Option.map_some, Option.some.injEq, Prod.mk.injEq] at hi
    obtain ⟨h1, h2, h3⟩ := hi
    have := run_make (P := P) w t e i z ht hq h1 .i64 .i64 (len : Int) (len : Int) (by omega) (Int.le_refl _) (by
      have h4 : i.bytes * len ≤ 1024 * 1048576 := by
        rw [h3]
        exact Nat.mul_le_mul hb hl
      have h5 : ((i.bytes * len : Nat) : Int) = (i.bytes : Int) * (len : Int) := Int.natCast_mul _ _
      omega) (by omega)
    rw [this, Int.toNat_natCast, h2]

/-- the weight of a list: its length, and what its members weigh -/
def wtS {α : Type} (f : α → Nat) (xs : List α) : Nat := xs.length + (xs.map f).sum
theorem wtS_none {α : Type} (xs : List α) : wtS (fun _ => 0) xs = xs.length := by
  unfold wtS
  have : (xs.map fun _ => 0).sum = 0 := by induction xs with | nil => rfl | cons x r ih => simpa using ih
  omega
theorem wtS_len {α : Type} (f : α → Nat) (xs : List α) : xs.length ≤ wtS f xs := by unfold wtS; omega
theorem take_wt {α : Type} (f : α → Nat) {xs : List α} {k : Nat} {x : α} (h : xs[k]? = some x) : ((xs.take (k + 1)).map f).sum = ((xs.take k).map f).sum + f x := by
  obtain ⟨hk, rfl⟩ := List.getElem?_eq_some_iff.1 h
  rw [List.take_succ_eq_append_getElem hk, List.map_append, List.sum_append]; simp
theorem sum_mem {α : Type} (f : α → Nat) {x : α} : ∀ {xs : List α}, x ∈ xs → f x ≤ (xs.map f).sum
  | y :: r, h => by
    rcases List.mem_cons.1 h with rfl | h
    · simp
    · have := sum_mem f h; simp; omega
theorem wtS_mem {α : Type} (f : α → Nat) {xs : List α} {k : Nat} {x : α} (h : xs[k]? = some x) : f x ≤ wtS f xs := by
  have := sum_mem f (List.mem_of_getElem? h); unfold wtS; omega
theorem Sl.form {α : Type} {k : Nat} {R : RowRel α} {lo : Nat} {w : World} {v : Value} {xs : List α} (h : Sl k R lo w v xs) : ∃ a len cap, v = .slice a len cap := by
  obtain ⟨a, len, cap, h, _⟩ := h; exact ⟨a, len, cap, h⟩

theorem Keeps.refl (lo : Nat) (w : World) : Keeps lo w w := ⟨Nat.le_refl _, fun _ _ _ => rfl⟩
theorem Keeps.trans {lo : Nat} {a b c : World} (h : Keeps lo a b) (k : Keeps lo b c) : Keeps lo a c := ⟨Nat.le_trans h.size k.size, fun i hi hl => (k.block i hi (Nat.lt_of_lt_of_le hl h.size)).trans (h.block i hi hl)⟩
theorem Keeps.alloc {lo : Nat} {w a : World} (h : Keeps lo w a) (o : Obj) : Keeps lo w (a.alloc o) := h.trans ⟨by simp, fun k _ hk => Below.heap_alloc _ _ _ hk⟩
theorem Keeps.setCell {lo : Nat} {w a : World} (h : Keeps lo w a) {p : Addr} (hp : p.block < lo) (v : Value) : Keeps lo w (a.setCell p v) := h.trans ⟨by simp [World.setCell], fun k hk _ => Below.heap_setCell _ _ _ _ (by omega)⟩
theorem Keeps.drew {lo : Nat} {w a : World} (h : Keeps lo w a) : Keeps lo w a.drew := ⟨h.size, h.block⟩
theorem keeps_hyp {lo B : Nat} {w w1 w' : World} (h : Below B w1 w') (k : Keeps lo w w1) (hB : w1.heap.size ≤ B) : Keeps lo w w' := k.trans (Keeps.of_below' h hB)

end Go.Proofs.YtmmlhnjmjmbfpaaGreat
