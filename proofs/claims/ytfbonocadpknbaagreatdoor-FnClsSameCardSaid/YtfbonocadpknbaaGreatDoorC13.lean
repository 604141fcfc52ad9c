/-
  Texts of mine, packed: DatL, FindP, Method. No condition beside those of the single theorems.
-/
import Derived.Test.YtfbonocadpknbaaGreatDoorC1
import Derived.Test.YtfbonocadpknbaaGreatDoorC11
set_option linter.unusedSimpArgs false
set_option linter.unusedVariables false
set_option maxHeartbeats 16000000
set_option maxRecDepth 100000
namespace Go.Proofs.YtfbonocadpknbaaGreatDoor
open Go.RowKit
structure DLodRef where
 fKeeper : Int
 fName : ByteArray
def nxt (p : DLodPlan) (nm : ByteArray) (i : Nat) : Int := match p.fKeepers[i]? with | some k => asksOf k.fAsks nm | none => -1
def ownN (p : DLodPlan) (nm : ByteArray) (i : Nat) : Int := match p.fKeepers[i]? with | some k => ownAt k.fOwns nm | none => -1
def whoseF (p : DLodPlan) (nm : ByteArray) : Nat → Nat → Int × Nat
 | 0, _ => (3, 0)
 | f + 1, i => if nxt p nm i < 0 then (if ownN p nm i < 0 then (2, 0) else (1, i)) else whoseF p nm f (nxt p nm i).toNat
def whose (p : DLodPlan) (i : Nat) (nm : ByteArray) : Int × Nat := whoseF p nm 4 i
theorem lodOk_keeper {p : DLodPlan} (h : lodOk p = true) {i : Nat} {k : DLodKeeper} (e : p.fKeepers[i]? = some k) : keeperOk p.fKeepers.length k = true := by
 unfold lodOk at h
 simp only [Bool.and_eq_true] at h
 exact each_iff.1 h.2 i k e
theorem lodOk_len {p : DLodPlan} (h : lodOk p = true) : 1 ≤ p.fKeepers.length ∧ p.fKeepers.length ≤ 3 := by
 unfold lodOk at h
 simp only [Bool.and_eq_true, decide_eq_true_eq] at h
 exact h.1
theorem keeperOk_parts {many : Int} {k : DLodKeeper} (h : keeperOk many k = true) : k.fOwns.length ≤ 5 ∧ k.fAsks.length ≤ 4 ∧ each (ownIn k.fOwns) k.fOwns = true ∧ each (askIn many k.fAsks) k.fAsks = true := by
 unfold keeperOk at h
 simp only [Bool.and_eq_true, decide_eq_true_eq] at h
 exact ⟨h.1.1.1, h.1.1.2, h.1.2, h.2⟩
theorem nxt_lt {p : DLodPlan} (h : lodOk p = true) (nm : ByteArray) (i : Nat) : nxt p nm i < (p.fKeepers.length : Int) := by
 unfold nxt
 have hl := lodOk_len h
 cases e : p.fKeepers[i]? with
 | none => simp only; omega
 | some k =>
   simp only
   obtain ⟨_, _, _, ha⟩ := keeperOk_parts (lodOk_keeper h e)
   by_cases hn : askAt k.fAsks nm < 0
   ·rw [asksOf_none hn]; omega
   ·obtain ⟨a, h1, _, h3, _⟩ := asksOf_some (xs := k.fAsks) (n := nm) (by omega)
    obtain ⟨j, hj⟩ := List.mem_iff_getElem?.1 h1
    have := each_iff.1 ha j a hj
    simp [askIn] at this
    rw [h3]; omega
structure Asked (p : DLodPlan) (nm : ByteArray) (k : Nat) (seen : List Nat) (i : Nat) : Prop where
 ends : ∃ pre, seen = pre ++ [i]
 nodup : seen.Nodup
 inn : ∀ s ∈ seen, s < p.fKeepers.length
 goes : ∀ s ∈ seen, s = i ∨ (0 ≤ nxt p nm s ∧ (nxt p nm s).toNat ∈ seen)
 same : whose p k nm = whoseF p nm (5 - seen.length) i
theorem nodup_len {l : List Nat} {n : Nat} (h : l.Nodup) (hl : ∀ s ∈ l, s < n) : l.length ≤ n := by
 have : l.length ≤ (List.range n).length := List.Nodup.length_le_of_subset h fun s hs => List.mem_range.2 (hl s hs)
 simpa using this
theorem Asked.len {p : DLodPlan} {nm : ByteArray} {k i : Nat} {seen : List Nat} (h : Asked p nm k seen i) (hp : lodOk p = true) : 1 ≤ seen.length ∧ seen.length ≤ 3 := by
 have h1 := nodup_len h.nodup h.inn
 have h2 := lodOk_len hp
 obtain ⟨pre, rfl⟩ := h.ends
 simp at h1 ⊢
 omega
theorem Asked.mem {p : DLodPlan} {nm : ByteArray} {k i : Nat} {seen : List Nat} (h : Asked p nm k seen i) : i ∈ seen := by
 obtain ⟨pre, rfl⟩ := h.ends; simp
theorem Asked.step {p : DLodPlan} {nm : ByteArray} {k i : Nat} {seen : List Nat} (h : Asked p nm k seen i) (hp : lodOk p = true) (hn : 0 ≤ nxt p nm i) (hs : (nxt p nm i).toNat ∉ seen) : Asked p nm k (seen ++ [(nxt p nm i).toNat]) (nxt p nm i).toNat := by
 have hl := h.len hp
 refine ⟨⟨seen, rfl⟩, ?_, fun s hs' => ?_, fun s hs' => ?_, ?_⟩
 ·rw [List.nodup_append]
  exact ⟨h.nodup, by simp, fun a ha b hb => by simp at hb; subst hb; rintro rfl; exact hs ha⟩
 ·rcases List.mem_append.1 hs' with hs' | hs'
  ·exact h.inn s hs'
  ·simp at hs'; subst hs'
   have := nxt_lt hp nm i; omega
 ·rcases List.mem_append.1 hs' with hs' | hs'
  ·right
   rcases h.goes s hs' with rfl | ⟨h1, h2⟩
   ·exact ⟨hn, by simp⟩
   ·exact ⟨h1, List.mem_append_left _ h2⟩
  ·simp at hs'; exact Or.inl hs'
 ·rw [h.same]
  obtain ⟨f, hf⟩ : ∃ f, 5 - seen.length = f + 1 := ⟨4 - seen.length, by omega⟩
  have hf2 : 5 - (seen ++ [(nxt p nm i).toNat]).length = f := by simp; omega
  rw [hf, hf2]
  simp only [whoseF]
  rw [if_neg (by omega)]
theorem Asked.stop {p : DLodPlan} {nm : ByteArray} {k i : Nat} {seen : List Nat} (h : Asked p nm k seen i) (hp : lodOk p = true) (hn : nxt p nm i < 0) : whose p k nm = if ownN p nm i < 0 then (2, 0) else (1, i) := by
 have hl := h.len hp
 rw [h.same]
 obtain ⟨f, hf⟩ : ∃ f, 5 - seen.length = f + 1 := ⟨4 - seen.length, by omega⟩
 rw [hf]
 simp only [whoseF]
 rw [if_pos hn]

def Mth20 (r p : Nat) (w : World) (e : Ending) (w' : World) : Prop := ∃ (m : DClsMethod) (v1 v2 v3 : Value) (q : Nat), e = .returned (.agg #[.string m.fName, v1, .int .i64 m.fRet.fKind, .string m.fRet.fName, .int .i64 m.fLocals, .int .i64 m.fStack, v2, v3]) ∧
 tClsMethod w.heap.size w' [.string m.fName, v1, .int .i64 m.fRet.fKind, .string m.fRet.fName, .int .i64 m.fLocals, .int .i64 m.fStack, v2, v3] m ∧ q ≤ p + 100 ∧ Rd w' r q ∧ Ex r w.heap.size w w'
theorem PlanC.rowsAt {lo : Nat} {w : World} {v : Value} {css : List (List Value)} {p : DLodPlan} (h : PlanC lo w v css p) (hp : 0 < p.fKeepers.length) : ∃ b cap, v = .slice (some ⟨b, 0, none⟩) p.fKeepers.length cap ∧ lo ≤ b ∧ b < w.heap.size ∧ p.fKeepers.length ≤ cap ∧ cap ≤ maxLen ∧
  ∀ x k, p.fKeepers[x]? = some k → ∃ o a, css[x]? = some [o, a] ∧ tLodKeeper lo w [o, a] k ∧ w.rangeAt b (x * 2) [o, a] := by
 obtain ⟨b, cap, rfl, hb, hl, hc, hm, hcell, _⟩ := own_cell h.owns hp
 refine ⟨b, cap, rfl, hb, hl, hc, hm, fun x k hx => ?_⟩
 obtain ⟨cs, hcs⟩ : ∃ cs, css[x]? = some cs := ⟨_, List.getElem?_eq_getElem (by rw [h.rows.len]; exact (List.getElem?_eq_some_iff.1 hx).1)⟩
 obtain ⟨hk, hR⟩ := h.rows.row x k cs hx hcs
 obtain ⟨o, a, rfl, _⟩ := id hR
 refine ⟨o, a, hcs, hR, fun j u hj => ?_⟩
 have hj2 : j < 2 := by have := (List.getElem?_eq_some_iff.1 hj).1; simpa using this
 exact hcell _ u ((flat_at h.rows.each hcs hj2).trans hj)

theorem TSl.lit {α : Type} {k : Nat} {R : RowRel α} {e : TypeId} {lo : Nat} (w : World) {css : List (List Value)} {xs : List α} (cs : Array Value) (hr : Rows k R lo (w.alloc (.cells cs e)) css xs) (hc : cs = css.flatten.toArray) (n : Nat) (hn : n = xs.length) (b : Nat) (hb : b = w.heap.size) (hm : xs.length ≤ 1000) (h0 : lo ≤ w.heap.size) :
  TSl k R e lo (w.alloc (.cells cs e)) (.slice (some ⟨b, 0, none⟩) n n) xs := by
 subst hn; subst hb
 have hl : css.flatten.length = xs.length * k := by rw [flat_len hr.each, hr.len]
 refine ⟨css, hr, hl, Or.inr ⟨w.heap.size, xs.length, cs, rfl, h0, heap_alloc_new w _, Nat.le_refl _, by unfold maxLen; omega, by rw [hc, List.size_toArray, hl], by rw [hc, List.take_of_length_le (by simp [hl])]⟩⟩
theorem Eight.set0 {w : World} {b : Nat} {v : Value} {x0 x1 x2 x3 x4 x5 x6 x7 : Value} (h : Eight w b x0 x1 x2 x3 x4 x5 x6 x7) : Eight (w.setCell ⟨b, 0, none⟩ v) b v x1 x2 x3 x4 x5 x6 x7 := by
 have hc : ∀ j, j ≠ 0 → (w.setCell ⟨b, 0, none⟩ v).cell? ⟨b, j, none⟩ = w.cell? ⟨b, j, none⟩ := fun j hj => World.cell?_setCell_other _ _ _ _ (by intro e; simp at e <;> omega)
 have hf : ∀ j, (w.setCell ⟨b, 0, none⟩ v).frozen? ⟨b, j, none⟩ = w.frozen? ⟨b, j, none⟩ := fun j => by rw [World.frozen?_setCell]
 obtain ⟨h0, a0, a1, a2, a3, a4, a5, a6, a7, b0, b1, b2, b3, b4, b5, b6, b7⟩ := h
 have h1 : (w.setCell ⟨b, 0, none⟩ v).cell? ⟨b, 0, none⟩ = some v := by rw [World.cell?_setCell_same _ _ _ a0]
 refine ⟨by simpa [World.setCell] using h0, ?_, ?_, ?_, ?_, ?_, ?_, ?_, ?_, ?_, ?_, ?_, ?_, ?_, ?_, ?_, ?_⟩ <;> first | exact h1 | (rw [hc _ (by decide)]; assumption) | (rw [hf]; assumption)
theorem Eight.set2 {w : World} {b : Nat} {v : Value} {x0 x1 x2 x3 x4 x5 x6 x7 : Value} (h : Eight w b x0 x1 x2 x3 x4 x5 x6 x7) : Eight (w.setCell ⟨b, 2, none⟩ v) b x0 x1 v x3 x4 x5 x6 x7 := by
 have hc : ∀ j, j ≠ 2 → (w.setCell ⟨b, 2, none⟩ v).cell? ⟨b, j, none⟩ = w.cell? ⟨b, j, none⟩ := fun j hj => World.cell?_setCell_other _ _ _ _ (by intro e; simp at e <;> omega)
 have hf : ∀ j, (w.setCell ⟨b, 2, none⟩ v).frozen? ⟨b, j, none⟩ = w.frozen? ⟨b, j, none⟩ := fun j => by rw [World.frozen?_setCell]
 obtain ⟨h0, a0, a1, a2, a3, a4, a5, a6, a7, b0, b1, b2, b3, b4, b5, b6, b7⟩ := h
 have h1 : (w.setCell ⟨b, 2, none⟩ v).cell? ⟨b, 2, none⟩ = some v := by rw [World.cell?_setCell_same _ _ _ a2]
 refine ⟨by simpa [World.setCell] using h0, ?_, ?_, ?_, ?_, ?_, ?_, ?_, ?_, ?_, ?_, ?_, ?_, ?_, ?_, ?_, ?_⟩ <;> first | exact h1 | (rw [hc _ (by decide)]; assumption) | (rw [hf]; assumption)
theorem Eight.set3 {w : World} {b : Nat} {v : Value} {x0 x1 x2 x3 x4 x5 x6 x7 : Value} (h : Eight w b x0 x1 x2 x3 x4 x5 x6 x7) : Eight (w.setCell ⟨b, 3, none⟩ v) b x0 x1 x2 v x4 x5 x6 x7 := by
 have hc : ∀ j, j ≠ 3 → (w.setCell ⟨b, 3, none⟩ v).cell? ⟨b, j, none⟩ = w.cell? ⟨b, j, none⟩ := fun j hj => World.cell?_setCell_other _ _ _ _ (by intro e; simp at e <;> omega)
 have hf : ∀ j, (w.setCell ⟨b, 3, none⟩ v).frozen? ⟨b, j, none⟩ = w.frozen? ⟨b, j, none⟩ := fun j => by rw [World.frozen?_setCell]
 obtain ⟨h0, a0, a1, a2, a3, a4, a5, a6, a7, b0, b1, b2, b3, b4, b5, b6, b7⟩ := h
 have h1 : (w.setCell ⟨b, 3, none⟩ v).cell? ⟨b, 3, none⟩ = some v := by rw [World.cell?_setCell_same _ _ _ a3]
 refine ⟨by simpa [World.setCell] using h0, ?_, ?_, ?_, ?_, ?_, ?_, ?_, ?_, ?_, ?_, ?_, ?_, ?_, ?_, ?_, ?_⟩ <;> first | exact h1 | (rw [hc _ (by decide)]; assumption) | (rw [hf]; assumption)
theorem Eight.set4 {w : World} {b : Nat} {v : Value} {x0 x1 x2 x3 x4 x5 x6 x7 : Value} (h : Eight w b x0 x1 x2 x3 x4 x5 x6 x7) : Eight (w.setCell ⟨b, 4, none⟩ v) b x0 x1 x2 x3 v x5 x6 x7 := by
 have hc : ∀ j, j ≠ 4 → (w.setCell ⟨b, 4, none⟩ v).cell? ⟨b, j, none⟩ = w.cell? ⟨b, j, none⟩ := fun j hj => World.cell?_setCell_other _ _ _ _ (by intro e; simp at e <;> omega)
 have hf : ∀ j, (w.setCell ⟨b, 4, none⟩ v).frozen? ⟨b, j, none⟩ = w.frozen? ⟨b, j, none⟩ := fun j => by rw [World.frozen?_setCell]
 obtain ⟨h0, a0, a1, a2, a3, a4, a5, a6, a7, b0, b1, b2, b3, b4, b5, b6, b7⟩ := h
 have h1 : (w.setCell ⟨b, 4, none⟩ v).cell? ⟨b, 4, none⟩ = some v := by rw [World.cell?_setCell_same _ _ _ a4]
 refine ⟨by simpa [World.setCell] using h0, ?_, ?_, ?_, ?_, ?_, ?_, ?_, ?_, ?_, ?_, ?_, ?_, ?_, ?_, ?_, ?_⟩ <;> first | exact h1 | (rw [hc _ (by decide)]; assumption) | (rw [hf]; assumption)
theorem Eight.set5 {w : World} {b : Nat} {v : Value} {x0 x1 x2 x3 x4 x5 x6 x7 : Value} (h : Eight w b x0 x1 x2 x3 x4 x5 x6 x7) : Eight (w.setCell ⟨b, 5, none⟩ v) b x0 x1 x2 x3 x4 v x6 x7 := by
 have hc : ∀ j, j ≠ 5 → (w.setCell ⟨b, 5, none⟩ v).cell? ⟨b, j, none⟩ = w.cell? ⟨b, j, none⟩ := fun j hj => World.cell?_setCell_other _ _ _ _ (by intro e; simp at e <;> omega)
 have hf : ∀ j, (w.setCell ⟨b, 5, none⟩ v).frozen? ⟨b, j, none⟩ = w.frozen? ⟨b, j, none⟩ := fun j => by rw [World.frozen?_setCell]
 obtain ⟨h0, a0, a1, a2, a3, a4, a5, a6, a7, b0, b1, b2, b3, b4, b5, b6, b7⟩ := h
 have h1 : (w.setCell ⟨b, 5, none⟩ v).cell? ⟨b, 5, none⟩ = some v := by rw [World.cell?_setCell_same _ _ _ a5]
 refine ⟨by simpa [World.setCell] using h0, ?_, ?_, ?_, ?_, ?_, ?_, ?_, ?_, ?_, ?_, ?_, ?_, ?_, ?_, ?_, ?_⟩ <;> first | exact h1 | (rw [hc _ (by decide)]; assumption) | (rw [hf]; assumption)
theorem KeepsT.of_turn {E : TypeId → Prop} {lo b : Nat} {w w' : World} {t : TypeId} (h : Turn b w w') (hT : TypeAt w b t) (hn : ¬ E t) : KeepsT E lo w w' := ⟨Nat.le_of_eq h.size, fun g cs e fr _ he hg => h.block g (fun eg => by
 subst eg
 obtain ⟨cs', fr', hT⟩ := hT
 rw [hT] at hg
 cases hg
 exact hn he)⟩
theorem Eight.ex {w w' : World} {b r N : Nat} {x0 x1 x2 x3 x4 x5 x6 x7 : Value} (h : Eight w b x0 x1 x2 x3 x4 x5 x6 x7) (he : Ex r N w w') (h1 : b ≠ r) (h2 : b < N) : Eight w' b x0 x1 x2 x3 x4 x5 x6 x7 := by
 have hk := he.block b h1 h2
 obtain ⟨h0, a0, a1, a2, a3, a4, a5, a6, a7, b0, b1, b2, b3, b4, b5, b6, b7⟩ := h
 have hz := he.size
 exact ⟨by omega, (qag hk).trans a0, (qag hk).trans a1, (qag hk).trans a2, (qag hk).trans a3, (qag hk).trans a4, (qag hk).trans a5, (qag hk).trans a6, (qag hk).trans a7, (qao hk).trans b0, (qao hk).trans b1, (qao hk).trans b2, (qao hk).trans b3, (qao hk).trans b4, (qao hk).trans b5, (qao hk).trans b6, (qao hk).trans b7⟩
theorem TypeAt.ex {w w' : World} {c r N : Nat} {t : TypeId} (h : TypeAt w c t) (he : Ex r N w w') (h1 : c ≠ r) (h2 : c < N) : TypeAt w' c t := by
 obtain ⟨cs, fr, h⟩ := h
 exact ⟨cs, fr, (he.block c h1 h2).trans h⟩
theorem KeepsT.of_ex {E : TypeId → Prop} {lo r N : Nat} {w w' : World} (he : Ex r N w w') (hr : r < lo) (hN : w.heap.size ≤ N) : KeepsT E lo w w' := ⟨he.size, fun g cs e fr hl _ hg => he.block g (by omega) (by have := (Array.getElem?_eq_some_iff.1 hg).1; omega)⟩

def nRun : ByteArray := ⟨#[114, 117, 110]⟩
def ins0 : List DClsIns := [⟨1, 0, ⟨#[]⟩, ⟨#[]⟩⟩, ⟨10, 0, ⟨#[]⟩, ⟨#[]⟩⟩]
def mth0 : DClsMethod := ⟨nRun, [], ⟨1, ⟨#[]⟩⟩, 2, 2, ins0, []⟩
def MSm (N : Nat) (m : DClsMethod) : Prop := m.fArgs.length ≤ N ∧ m.fCode.length ≤ N ∧ m.fMaps.length ≤ N
theorem mthOk_small {m : DClsMethod} (h : mthOk m = true) : MSm 20 m := by
 unfold mthOk codeOk mapsOk at h
 simp only [Bool.and_eq_true, decide_eq_true_eq] at h
 obtain ⟨⟨⟨⟨⟨⟨⟨⟨⟨_, h2⟩, _⟩, _⟩, _⟩, _⟩, _⟩, _⟩, h9⟩, h10⟩ := h
 exact ⟨by omega, by omega, by omega⟩
theorem lodOk_mth {p : DLodPlan} (h : lodOk p = true) {k : DLodKeeper} (hk : k ∈ p.fKeepers) {c : DClsClass} (hc : c ∈ k.fOwns) {m : DClsMethod} (hm : m ∈ c.fMethods) : mthOk m = true := by
 obtain ⟨i, hi⟩ := List.mem_iff_getElem?.1 hk
 obtain ⟨j, hj⟩ := List.mem_iff_getElem?.1 hc
 obtain ⟨l, hl⟩ := List.mem_iff_getElem?.1 hm
 obtain ⟨_, _, ho, _⟩ := keeperOk_parts (lodOk_keeper h hi)
 have h1 := each_iff.1 ho j c hj
 simp only [ownIn, Bool.and_eq_true] at h1
 have h2 := h1.1
 unfold clsOk at h2
 simp only [Bool.and_eq_true] at h2
 have h3 := each_iff.1 h2.2 l m hl
 simp only [methodIn, Bool.and_eq_true] at h3
 exact h3.1
def MAt (N lo M R r q1 : Nat) (w0 wx : World) : Prop := ∃ (m : DClsMethod) (v1 v2 v3 : Value) (q : Nat), MSm N m ∧ tClsMethod lo wx [.string m.fName, v1, .int .i64 m.fRet.fKind, .string m.fRet.fName, .int .i64 m.fLocals, .int .i64 m.fStack, v2, v3] m ∧
 Eight wx M (.string m.fName) v1 (.int .i64 m.fRet.fKind) (.string m.fRet.fName) (.int .i64 m.fLocals) (.int .i64 m.fStack) v2 v3 ∧ TypeAt wx M 65 ∧
 Eight wx R (.string ⟨#[]⟩) (.slice none 0 0) (.int .i64 0) (.string ⟨#[]⟩) (.int .i64 0) (.int .i64 0) (.slice none 0 0) (.slice none 0 0) ∧ TypeAt wx R 65 ∧ q ≤ q1 ∧ Rd wx r q ∧ Ex r w0.heap.size w0 wx

theorem MAt.ex {K K' lo M R r q1 q2 q3 N : Nat} {w0 wx wy : World} (h : MAt K lo M R r q1 w0 wx) (he : Ex r N wx wy) (hN : wx.heap.size ≤ N) (hr : r < lo) (hM : lo ≤ M) (hR : lo ≤ R) (h0 : w0.heap.size ≤ wx.heap.size) (hq : Rd wy r q2) (hq3 : q2 ≤ q3) (hK : K ≤ K' := by omega) : MAt K' lo M R r q3 w0 wy := by
 obtain ⟨m, v1, v2, v3, q, hs, h1, h2, h3, h4, h5, h6, h7, h8⟩ := h
 have hlt : M < wx.heap.size := by obtain ⟨l, _⟩ := h2; exact l
 have hlr : R < wx.heap.size := by obtain ⟨l, _⟩ := h4; exact l
 exact ⟨m, v1, v2, v3, q2, ⟨by have := hs.1; omega, by have := hs.2.1; omega, by have := hs.2.2; omega⟩, tClsMethod_goodT.stays _ _ _ _ _ (KeepsT.of_ex he hr hN) h1, h2.ex he (by omega) (by omega), h3.ex he (by omega) (by omega), h4.ex he (by omega) (by omega), h5.ex he (by omega) (by omega), hq3, hq, h8.trans (he.mono (by omega))⟩
theorem TSl.rowsAt {α : Type} {k : Nat} {R : RowRel α} {e : TypeId} {lo : Nat} {w : World} {v : Value} {xs : List α} (h : TSl k R e lo w v xs) (h0 : 0 < xs.length) : ∃ (b cap : Nat) (css : List (List Value)), v = .slice (some ⟨b, 0, none⟩) xs.length cap ∧ lo ≤ b ∧ b < w.heap.size ∧ xs.length ≤ cap ∧ cap ≤ maxLen ∧
  ∀ x y, xs[x]? = some y → ∃ cs, css[x]? = some cs ∧ cs.length = k ∧ R lo w cs y ∧ w.rangeAt b (x * k) cs := by
 obtain ⟨css, h1, h2⟩ := h
 obtain ⟨b, cap, rfl, hb, hl, hc, hm, hcell, _⟩ := own_cell h2 h0
 refine ⟨b, cap, css, rfl, hb, hl, hc, hm, fun x y hx => ?_⟩
 obtain ⟨cs, hcs⟩ : ∃ cs, css[x]? = some cs := ⟨_, List.getElem?_eq_getElem (by rw [h1.len]; exact (List.getElem?_eq_some_iff.1 hx).1)⟩
 obtain ⟨hk, hR⟩ := h1.row x y cs hx hcs
 exact ⟨cs, hcs, hk, hR, fun j u hj => hcell _ u ((flat_at h1.each hcs (by rw [← hk]; exact (List.getElem?_eq_some_iff.1 hj).1)).trans hj)⟩

theorem TypeAt.setCells {c b : Nat} {t : TypeId} : ∀ (vs : List Value) (o : Nat) {w : World}, TypeAt w c t → TypeAt (w.setCells b o vs) c t
 | [], _, _, h => h
 | v :: r, o, w, h => by
   rw [World.setCells]
   exact TypeAt.setCells r (o + 1) (h.set _ _)
theorem wpList_store_rowT {P : Program} {ops : Array Oper} {rest : List Oper} {op : Oper} {a : Act} {w : World} {Q : Exit → Act → World → Prop} (hgd : op.guard = none) (ty : TypeId) (x y : Operand) (ho : op.op = .store ty x y)
  (b : Nat) (cs : List Value) (hx : a.eval x = .pointer (some ⟨b, 0, none⟩)) (hy : a.eval y = .agg cs.toArray)
  (ht : w.there b 0 cs.length) (hi : (P.info? ty).map (·.size) = some cs.length) (h1 : ∀ v ∈ cs, v.oneCell' = true)
  (h : ∀ w', w'.rangeAt b 0 cs → w'.there b 0 cs.length → Turn b w w' → (∀ c t, TypeAt w c t → TypeAt w' c t) → wpList P ops Q rest (a.put op.dst undef) w') : wpList P ops Q (op :: rest) a w := by
 refine wpList_store_mid hgd ty x y ho b 0 cs.toArray hx hy (by simpa using ht) (by simpa using hi) (all_oneCell_toArray h1) ?_
 refine h _ (World.rangeAt_setCells_same w b 0 cs ht) (fun j hj => ?_) (Turn.setCells b _ 0 w) (fun c t hT => TypeAt.setCells _ _ hT)
 refine ⟨World.isSome_setCells b cs _ w _ (ht j hj).1, ?_⟩
 rw [World.frozen?_setCells]; exact (ht j hj).2

theorem Src.lit {k : Nat} {e : TypeId} {css : List (List Value)} (w : World) (cs : Array Value) (hc : cs = css.flatten.toArray) (n : Nat) (hn : n = css.length) (b : Nat) (hb : b = w.heap.size) : Src k (w.alloc (.cells cs e)) (.slice (some ⟨b, 0, none⟩) n n) css := by
 subst hn; subst hb
 refine Or.inr ⟨⟨w.heap.size, 0, none⟩, _, rfl, fun j u hj => ?_⟩
 rw [Addr.add_mid, Nat.zero_add, World.cell?_alloc_at (hn := rfl), hc]
 simpa using hj
theorem TOwn.exG {α : Type} {k : Nat} {E : TypeId → Prop} {R : RowRel α} (hR : GoodT E R) {e : TypeId} {lo B N r : Nat} {w w' : World} {v : Value} {xs : List α} (h : TOwn k R e lo B w v xs) (he : Ex r N w w') (hr : r < lo) (hN : w.heap.size ≤ N) : TOwn k R e lo B w' v xs :=
 ⟨h.sl.stays (E := fun _ => True) (hR.mono fun _ _ => trivial) trivial (KeepsT.of_ex he hr hN), h.own⟩

theorem S_l20Method (r p : Nat) (n : Int) (w : World) (hn : -9223372036854775808 < n) (hn2 : n ≤ 9223372036854775807) (hr : Rd w r p) (hp : p < 600000) :
  Calls Tryz.prog 30 #[.pointer (some ⟨r, 0, none⟩), .int .i64 n] w fun e w' => Mth20 r p w e w' := by
 have hlt := hr.lt
 refine qab fun R HR => ?_
 go_enter Tryz.func30, Tryz.ntmps30
 go_wp2_with fail
 refine (S_l20Plan r p 3 _ (by omega) (by omega) (rdd) (by omega)).mono ?_
 rintro _ w1 ⟨pv, pl, q, rfl, hT, hok, _, hq, R1, X1⟩
 have X1s := (X1).size; (try simp only [qsz] at X1s)
 obtain ⟨css, hpc⟩ := hT.low (lo' := w.heap.size) (by simp)
 have hl := lodOk_len hok
 have E1 : Ex r w.heap.size w w1 := eexx
 obtain ⟨b, cap, rfl, hb0, hb1, hb2, hb3, hrows⟩ := hpc.rowsAt (by omega)
 obtain ⟨m, hm⟩ : ∃ m, pl.fKeepers.length = m := ⟨_, rfl⟩
 rw [hm] at hl hb2 ⊢
 have HM := qhd hm
 have hcm : cap ≤ 9223372036854775807 := by unfold maxLen at hb3; omega
 have HR1 : Hid (∀ W, Ex r w1.heap.size w1 W → ∀ x, x < m → W.rangeAt b (x * 2) (css.getD x []) ∧ (css.getD x []).length = 2) := qhd fun W hW x hx => by
  obtain ⟨k, hk⟩ : ∃ k, pl.fKeepers[x]? = some k := ⟨_, List.getElem?_eq_getElem (by rw [HM.out]; exact hx)⟩
  obtain ⟨o, a, hc, _, hr⟩ := hrows x k hk
  rw [List.getD_eq_getElem?_getD, hc]
  exact ⟨fun j u hj => (qag (hW.block b (by omega) hb1)).trans (hr j u hj), rfl⟩
 have HRW := qhd hrows
 have HOK := qhd hok
 clear hpc hrows hm hT hok hb3
 go_wp2_with fail
 obtain ⟨W2, hW2⟩ : ∃ W, W = w1.alloc (.cells #[.slice (some ⟨b, 0, none⟩) m cap] 25) := ⟨_, rfl⟩
 rw [← hW2]
 have X2 : Ex r w1.heap.size w1 W2 := by rw [hW2]; exact eexx
 have P2 : One1 W2 w1.heap.size (.slice (some ⟨b, 0, none⟩) m cap) := by
  rw [hW2]
  refine ⟨by simp, ?_, ?_⟩ <;> go_simp
 have R2 : Rd W2 r q := by rw [hW2]; exact rdd
 have hz2 : w1.heap.size + 1 ≤ W2.heap.size := by rw [hW2]; simp
 have HR2 : Hid (∀ W, Ex r W2.heap.size W2 W → ∀ x, x < m → W.rangeAt b (x * 2) (css.getD x []) ∧ (css.getD x []).length = 2) := qhd fun W hW => HR1.out W (X2.trans (hW.mono (by omega)))
 have P2c := P2.c0
 have P2l := P2.lt
 have HK2 : Hid ((Tryz.prog.info? 45).map (·.size) = some 2) := qhd (by kernel_rfl)
 clear hW2 HR1
 refine wp_region_relyE 10 (Ex r W2.heap.size W2) (pickG r) (fun _ => pickF W2.heap.size r q m 2 b (.pointer (some ⟨w1.heap.size, 0, none⟩)) (.slice (some ⟨b, 0, none⟩) m cap) (fun x => css.getD x []) 45) (pickI r (q)) noDead (by kernel_rfl) (by decide) (by kernel_rfl) (Or.inr ⟨by kernel_rfl, by kernel_rfl⟩) (by kernel_rfl) ((Ex.refl _ _ _).drew) (fun _ _ _ _ _ _ _ _ _ h => h) noDead_dead (fun _ _ => R2.drew) (fun i j w1 w2 hne _ hg h => pickI_stays i j w1 w2 hne hg h) (fun _ i j u w1 w2 hne _ _ hg hF => pickF_stays (by omega) i j u w1 w2 hne hg hF) (fun _ _ _ => Or.inr (Below.refl _ _)) ?_
 refine qac (d := 11) rfl rfl (fun wx hC hI hd S0 hS => ?_) (fun v0 => ?_)
 ·have HSS := qhd hS; clear hS hd hI
  go_simp
  exact HSS.out _ _ hC (Or.inr (Below.refl _ _)) (by (simp only [qls, Nat.reduceAdd, pickF]))
 simp only [qnr]
 refine qac (d := 12) rfl rfl (fun wx hC hI hd S0 hS => ?_) (fun v1 => ?_)
 ·have d0 := hd ⟨0, .data⟩ (by simp) rfl v0 (by simp)
  simp only [pickF] at d0
  subst d0
  have c0 := (qag (hC.block w1.heap.size (by omega) (by omega))).trans P2c
  have HSS := qhd hS; clear hS hd hI
  go_simp
  exact HSS.out _ _ hC (Or.inr (Below.refl _ _)) (by (simp only [qls, Nat.reduceAdd, pickF]))
 simp only [qnr]
 refine qac (d := 13) rfl rfl (fun wx hC hI hd S0 hS => ?_) (fun v2 => ?_)
 ·have HSS := qhd hS; clear hS hd hI
  go_simp
  exact HSS.out _ _ hC (Or.inr (Below.refl _ _)) (by (simp only [qls, Nat.reduceAdd, pickF]))
 simp only [qnr]
 refine qac (d := 14) rfl rfl (fun wx hC hI hd S0 hS => ?_) (fun v3 => ?_)
 ·have HSS := qhd hS; clear hS hd hI
  go_simp
  exact HSS.out _ _ hC (Or.inr (Below.refl _ _)) (by (simp only [qls, Nat.reduceAdd, pickF]))
 simp only [qnr]
 refine qac (d := 15) rfl rfl (fun wx hC hI hd S0 hS => ?_) (fun v4 => ?_)
 ·have d3 := hd ⟨3, .data⟩ (by simp) rfl v3 (by simp)
  simp only [pickF] at d3
  subst d3
  have c0 := (qag (hC.block w1.heap.size (by omega) (by omega))).trans P2c
  have HSS := qhd hS; clear hS hd hI
  go_simp
  exact HSS.out _ _ hC (Or.inr (Below.refl _ _)) (by (simp only [qls, Nat.reduceAdd, pickF]))
 simp only [qnr]
 refine qac (d := 16) rfl rfl (fun wx hC hI hd S0 hS => ?_) (fun v5 => ?_)
 ·have d4 := hd ⟨4, .data⟩ (by simp) rfl v4 (by simp)
  simp only [pickF] at d4
  subst d4
  have HSS := qhd hS; clear hS hd hI
  go_simp
  exact HSS.out _ _ hC (Or.inr (Below.refl _ _)) (by (simp only [qls, Nat.reduceAdd, pickF]))
 simp only [qnr]
 refine qac (d := 17) rfl rfl (fun wx hC hI hd S0 hS => ?_) (fun v6 => ?_)
 ·have d2 := hd ⟨2, .data⟩ (by simp) rfl v2 (by simp)
  simp only [pickF] at d2
  have d5 := hd ⟨5, .data⟩ (by simp) rfl v5 (by simp)
  simp only [pickF] at d5
  subst d2; subst d5
  have hRd : Rd wx r (q) := hI (by simp)
  have HSS := qhd hS; clear hS hd hI
  go_simp
  refine (S_pick r (q) _ _ (by omega) hRd (by omega)).mono ?_
  rintro _ w' ⟨⟨x, hx, rfl⟩, hRq, hX⟩
  obtain ⟨xn, hxn, rfl⟩ := pick_nat (by omega) hx
  exact HSS.out _ _ (exC_ex hC hX) (Or.inl ⟨by simp, hX⟩) (by (simp only [qls, Nat.reduceAdd, pickF]); exact ⟨xn, hxn, rfl, hRq⟩)
 simp only [qnr]
 refine qac (d := 18) rfl rfl (fun wx hC hI hd S0 hS => ?_) (fun v7 => ?_)
 ·have d1 := hd ⟨1, .data⟩ (by simp) rfl v1 (by simp)
  simp only [pickF] at d1
  have d6 := hd ⟨6, .data⟩ (by simp) rfl v6 (by simp)
  simp only [pickF] at d6
  obtain ⟨x, hx, d6, _⟩ := d6
  subst d1; subst d6
  have HSS := qhd hS; clear hS hd hI
  go_simp
  exact HSS.out _ _ hC (Or.inr (Below.refl _ _)) (by (simp only [qls, Nat.reduceAdd, pickF]); exact ⟨x, hx, rfl⟩)
 simp only [qnr]
 refine qac (d := 19) rfl rfl (fun wx hC hI hd S0 hS => ?_) (fun v8 => ?_)
 ·have d7 := hd ⟨7, .data⟩ (by simp) rfl v7 (by simp)
  simp only [pickF] at d7
  obtain ⟨x, hx, d7⟩ := d7
  subst d7
  have HSS := qhd hS; clear hS hd hI
  refine wp_loadAt rfl rfl (run_loadAt_mid wx b (x * 2) 45 (css.getD x []) _ (HR2.out wx hC x hx).1 Tryz.underlying45 rfl (by rw [(HR2.out wx hC x hx).2]; exact HK2.out)) ⟨put_defers' _ _ _, ?_⟩
  rw [qae (by simp)]
  exact HSS.out _ _ hC (Or.inr (Below.refl _ _)) (by (simp only [qls, Nat.reduceAdd, pickF]); exact ⟨x, hx, rfl⟩)
 simp only [qnr]
 refine qac (d := 6) rfl rfl (fun wx hC hI hd S0 hS => ?_) (fun v9 => ?_)
 ·have hzx := hC.size
  have HSS := qhd hS; clear hS hd hI
  go_simp
  refine HSS.out _ _ (exC_next hC ((Below.refl _ _).alloc (Nat.le_refl _) _)) (Or.inr ((Below.refl _ _).alloc (Nat.le_refl _) _)) ?_
  (simp only [qls, Nat.reduceAdd, pickF])
  exact ⟨_, _, rfl, hzx, heap_alloc_new wx _, rfl⟩
 simp only [qnr]
 intro w3 hC hF
 have f6 := hF 6 v6 (by simp) (fun _ _ => rfl)
 have f8 := hF 8 v8 (by simp) (fun _ _ => rfl)
 have f9 := hF 9 v9 (by simp) (fun _ _ => rfl)
 simp only [pickF] at f6 f8 f9
 obtain ⟨_, _, _, R3⟩ := f6
 obtain ⟨x, hx, e8⟩ := f8
 obtain ⟨c, cs, e9, hc, hcb, hcs⟩ := f9
 obtain ⟨k, hk⟩ : ∃ k, pl.fKeepers[x]? = some k := ⟨_, List.getElem?_eq_getElem (by rw [HM.out]; exact hx)⟩
 obtain ⟨o, a, hco, hkr, _⟩ := HRW.out x k hk
 have eoa : css.getD x [] = [o, a] := by rw [List.getD_eq_getElem?_getD, hco]; rfl
 rw [eoa] at e8
 subst e8; subst e9
 have hkr3 : tLodKeeper w.heap.size w3 [o, a] k := (tLodKeeper_goodT.stays _ _ _ _ _ (KeepsT.of_ex (N := w1.heap.size) (X2.trans (hC.mono (by omega))) (by omega) (Nat.le_refl _)) hkr)
 obtain ⟨y1, y2, e0, t1, t2⟩ := id hkr3
 cases e0
 obtain ⟨oa, oc, rfl, hoc, hom⟩ := t1.form
 obtain ⟨aa, ac, rfl, _, _⟩ := t2.form
 obtain ⟨on, hon⟩ : ∃ n, k.fOwns.length = n := ⟨_, rfl⟩
 rw [hon] at hoc hkr3
 have HON := qhd hon
 have T1 := qhd t1
 have hz3 := hC.size
 have hcl : c < w3.heap.size := (Array.getElem?_eq_some_iff.1 hcb).1
 have E3 : Ex r w.heap.size w w3 := (E1.trans (X2.mono (by omega))).trans (hC.mono (by omega))
 have HKX := qhd hk
 clear hF HRW hco hkr eoa hkr3 t1 t2 hk hon P2 P2c HR2
 simp only [List.drop_succ_cons, List.drop_zero]
 go_wp2_with (refine wpList_store_row (by rfl) 45 (.tmp 6) (.tmp 19) (by rfl) c [.slice oa k.fOwns.length oc, .slice aa k.fAsks.length ac] (by rfl) (by rfl) (there_of hcb hcs) HK2.out (by intro v hv; simp at hv; rcases hv with rfl | rfl <;> rfl) ?_)
 intro w4 hr4 ht4 hT4
 have k0 := hr4 0 _ rfl
 rw [Nat.add_zero] at k0
 have TC : TypeAt w3 c 45 := ⟨cs, (0, 0), hcb⟩
 have T14 : Hid (TSl 4 tClsClass 37 w.heap.size w4 (.slice oa k.fOwns.length oc) k.fOwns) := qhd (T1.out.stays (E := ELodKeeper) (tClsClass_goodT.mono EClsClass_LodKeeper) (by unfold ELodKeeper; simp) (KeepsT.of_turn hT4 TC ELodKeeper_not))
 rw [HON.out] at T14 k0 ⊢
 have E4 : Ex r w.heap.size w w4 := E3.trans (hT4.ex (by omega))
 have R4 : Rd w4 r (q + 1) := rd_below (hT4.below (Nat.le_refl c)) R3 (by omega)
 have hz4 : w3.heap.size ≤ w4.heap.size := Nat.le_of_eq hT4.size
 have hcl4 : c < w4.heap.size := by omega
 have hom2 : oc ≤ 9223372036854775807 := by unfold maxLen at hom; omega
 have RR : Hid (Eight w1 w.heap.size (.string ⟨#[]⟩) (.slice none 0 0) (.int .i64 0) (.string ⟨#[]⟩) (.int .i64 0) (.int .i64 0) (.slice none 0 0) (.slice none 0 0)) := qhd (by
  refine Eight.ex ?_ X1 (by omega) (by simp)
  refine ⟨by simp, ?_, ?_, ?_, ?_, ?_, ?_, ?_, ?_, ?_, ?_, ?_, ?_, ?_, ?_, ?_, ?_⟩ <;> go_simp)
 have TRR : Hid (TypeAt w1 w.heap.size 65) := qhd (TypeAt.ex (TypeAt.new w _ _) X1 (by omega) (by simp))
 have hE14 : Ex r w1.heap.size w1 w4 := (X2.trans (hC.mono (by omega))).trans (hT4.ex (by omega))
 have RR4 := qhd (RR.out.ex hE14 (by omega) (by omega))
 have TR4 := qhd (TRR.out.ex hE14 (by omega) (by omega))
 clear hr4 ht4 hT4 TC hcb T1 E3 R3 hC hom RR TRR hE14
 go_upto_region 4 with fail
 obtain ⟨W4, hW4⟩ : ∃ W, W = w4.alloc (.cells #[.int .i64 1, .int .i64 0, .string ⟨#[]⟩, .string ⟨#[]⟩, .int .i64 10, .int .i64 0, .string ⟨#[]⟩, .string ⟨#[]⟩] 91) := ⟨_, rfl⟩
 have LC : TSl 4 rClsIns 91 w.heap.size W4 (.slice (some ⟨w4.heap.size, 0, none⟩) 2 2) [⟨1, 0, ⟨#[]⟩, ⟨#[]⟩⟩, ⟨10, 0, ⟨#[]⟩, ⟨#[]⟩⟩] := by
  rw [hW4]
  exact TSl.lit (css := [[.int .i64 1, .int .i64 0, .string ⟨#[]⟩, .string ⟨#[]⟩], [.int .i64 10, .int .i64 0, .string ⟨#[]⟩, .string ⟨#[]⟩]]) w4 _ (Rows.append (c1 := [_]) (x1 := [_]) (Rows.one rfl ⟨rfl, by decide, by decide⟩) (Rows.one rfl ⟨rfl, by decide, by decide⟩)) rfl 2 rfl _ rfl (by decide) (by omega)
 obtain ⟨W5, hW5⟩ : ∃ W, W = W4.alloc (.cells #[.string ⟨#[114, 117, 110]⟩, .slice none 0 0, .int .i64 1, .string ⟨#[]⟩, .int .i64 2, .int .i64 2, .slice (some ⟨w4.heap.size, 0, none⟩) 2 2, .slice none 0 0] 65) := ⟨_, rfl⟩
 rw [← hW4, ← hW5]
 have hzW : W4.heap.size = w4.heap.size + 1 := by rw [hW4]; simp
 obtain ⟨M, hM⟩ : ∃ M, M = w4.heap.size + 1 := ⟨_, rfl⟩
 rw [← hM] at hzW ⊢
 have hz5 : M + 1 ≤ W5.heap.size := by rw [hW5]; simp [hzW]
 have hb45 : Below w4.heap.size w4 W5 := by rw [hW5, hW4]; exact bbel
 have E5 : Ex r w.heap.size w W5 := exC_next E4 hb45
 have R5 : Rd W5 r (q + 1) := rd_below hb45 R4 (by omega)
 have T15 := qhd (TSl.below tClsClass_goodT T14.out hb45)
 have k5 : W5.cell? ⟨c, 0, none⟩ = some (.slice oa on oc) := (hb45.cell (p := ⟨c, 0, none⟩) hcl4).trans k0
 have hM1 : w4.heap.size < M := by omega
 have M5 : MAt 20 w.heap.size M w.heap.size r (q + 1) w W5 := by
  refine ⟨mth0, .slice none 0 0, .slice (some ⟨w4.heap.size, 0, none⟩) 2 2, .slice none 0 0, q + 1, ⟨by decide, by decide, by decide⟩, ?_, ?_, ?_, ?_, ?_, Nat.le_refl _, R5, E5⟩
  ·rw [hW5]
   exact ⟨_, _, _, rfl, TSl.nil, TSl.below rClsIns_goodT LC ((Below.refl _ _).alloc (Nat.le_refl _) _), TSl.nil, by decide, by decide⟩
  ·rw [hW5, ← hzW]
   refine ⟨by simp, ?_, ?_, ?_, ?_, ?_, ?_, ?_, ?_, ?_, ?_, ?_, ?_, ?_, ?_, ?_, ?_⟩ <;> first | (simp only [mth0, nRun]; go_simp; done) | (go_simp; done)
  ·rw [hW5, ← hzW]; exact TypeAt.new _ _ _
  ·exact RR4.out.below hb45 (by omega)
  ·exact TR4.out.below hb45 (by omega)
 have HM5 := qhd M5
 clear hW4 hW5 hM hzW LC M5 hb45 T14 k0 RR4 TR4
 go_upto_if 28 with fail
 go_cut [] from 28 to 50 (fun wx => MAt 20 w.heap.size M w.heap.size r (q + 3) w wx)
 case first =>
  by_cases ho : on = 0
  ·subst ho
   go_wp2_with fail
   go_meet
   case rel => exact HM5.out.ex (Ex.refl r _ _) (Nat.le_refl _) hlt (by omega) (Nat.le_refl _) E5.size R5 (by omega)
  have ho1 : 0 < on := by omega
  have ho2 : decide ((0 : Int) < (on : Int)) = true := by simp; omega
  obtain ⟨ob, ocap, css2, eo, hob0, hob1, hob2, hob3, hrows2⟩ := T15.out.rowsAt (by rw [HON.out]; exact ho1)
  rw [HON.out] at eo hob2
  cases eo
  have HR5 : Hid (∀ W, Ex r W5.heap.size W5 W → ∀ x, x < on → W.rangeAt ob (x * 4) (css2.getD x []) ∧ (css2.getD x []).length = 4) := qhd fun W hW x hx => by
   obtain ⟨y, hy⟩ : ∃ y, k.fOwns[x]? = some y := ⟨_, List.getElem?_eq_getElem (by rw [HON.out]; exact hx)⟩
   obtain ⟨cs, hcs, hl4, _, hr⟩ := hrows2 x y hy
   rw [List.getD_eq_getElem?_getD, hcs]
   exact ⟨fun j u hj => (qag (hW.block ob (by omega) hob1)).trans (hr j u hj), hl4⟩
  have HRW2 := qhd hrows2
  have HKC : Hid ((Tryz.prog.info? 37).map (·.size) = some 4) := qhd (by kernel_rfl)
  have hcl5 : c < W5.heap.size := block_lt_of_cell k5
  clear hrows2 T15
  go_wp2_with fail
  refine wp_region_relyE 10 (Ex r W5.heap.size W5) (pickG r) (fun _ => pickF W5.heap.size r (q + 1) on 4 ob (.pointer (some ⟨c, 0, none⟩)) (.slice (some ⟨ob, 0, none⟩) on oc) (fun x => css2.getD x []) 37) (pickI r (q + 1)) noDead (by kernel_rfl) (by decide) (by kernel_rfl) (Or.inr ⟨by kernel_rfl, by kernel_rfl⟩) (by kernel_rfl) ((Ex.refl _ _ _).drew) (fun _ _ _ _ _ _ _ _ _ h => h) noDead_dead (fun _ _ => R5.drew) (fun i j w1 w2 hne _ hg h => pickI_stays i j w1 w2 hne hg h) (fun _ i j u w1 w2 hne _ _ hg hF => pickF_stays (by omega) i j u w1 w2 hne hg hF) (fun _ _ _ => Or.inr (Below.refl _ _)) ?_
  refine qac (d := 29) rfl rfl (fun wx hC hI hd S0 hS => ?_) (fun v0 => ?_)
  ·have HSS := qhd hS; clear hS hd hI
   go_simp
   exact HSS.out _ _ hC (Or.inr (Below.refl _ _)) (by (simp only [qls, Nat.reduceAdd, pickF]))
  simp only [qnr]
  refine qac (d := 30) rfl rfl (fun wx hC hI hd S0 hS => ?_) (fun v1 => ?_)
  ·have d0 := hd ⟨0, .data⟩ (by simp) rfl v0 (by simp)
   simp only [pickF] at d0
   subst d0
   have c0 := (qag (hC.block c (by omega) (by omega))).trans k5
   have HSS := qhd hS; clear hS hd hI
   go_simp
   exact HSS.out _ _ hC (Or.inr (Below.refl _ _)) (by (simp only [qls, Nat.reduceAdd, pickF]))
  simp only [qnr]
  refine qac (d := 31) rfl rfl (fun wx hC hI hd S0 hS => ?_) (fun v2 => ?_)
  ·have HSS := qhd hS; clear hS hd hI
   go_simp
   exact HSS.out _ _ hC (Or.inr (Below.refl _ _)) (by (simp only [qls, Nat.reduceAdd, pickF]))
  simp only [qnr]
  refine qac (d := 32) rfl rfl (fun wx hC hI hd S0 hS => ?_) (fun v3 => ?_)
  ·have HSS := qhd hS; clear hS hd hI
   go_simp
   exact HSS.out _ _ hC (Or.inr (Below.refl _ _)) (by (simp only [qls, Nat.reduceAdd, pickF]))
  simp only [qnr]
  refine qac (d := 33) rfl rfl (fun wx hC hI hd S0 hS => ?_) (fun v4 => ?_)
  ·have d3 := hd ⟨3, .data⟩ (by simp) rfl v3 (by simp)
   simp only [pickF] at d3
   subst d3
   have c0 := (qag (hC.block c (by omega) (by omega))).trans k5
   have HSS := qhd hS; clear hS hd hI
   go_simp
   exact HSS.out _ _ hC (Or.inr (Below.refl _ _)) (by (simp only [qls, Nat.reduceAdd, pickF]))
  simp only [qnr]
  refine qac (d := 34) rfl rfl (fun wx hC hI hd S0 hS => ?_) (fun v5 => ?_)
  ·have d4 := hd ⟨4, .data⟩ (by simp) rfl v4 (by simp)
   simp only [pickF] at d4
   subst d4
   have HSS := qhd hS; clear hS hd hI
   go_simp
   exact HSS.out _ _ hC (Or.inr (Below.refl _ _)) (by (simp only [qls, Nat.reduceAdd, pickF]))
  simp only [qnr]
  refine qac (d := 35) rfl rfl (fun wx hC hI hd S0 hS => ?_) (fun v6 => ?_)
  ·have d2 := hd ⟨2, .data⟩ (by simp) rfl v2 (by simp)
   simp only [pickF] at d2
   have d5 := hd ⟨5, .data⟩ (by simp) rfl v5 (by simp)
   simp only [pickF] at d5
   subst d2; subst d5
   have hRd : Rd wx r (q + 1) := hI (by simp)
   have HSS := qhd hS; clear hS hd hI
   go_simp
   refine (S_pick r (q + 1) _ _ (by omega) hRd (by omega)).mono ?_
   rintro _ w' ⟨⟨x, hx, rfl⟩, hRq, hX⟩
   obtain ⟨xn, hxn, rfl⟩ := pick_nat (by omega) hx
   exact HSS.out _ _ (exC_ex hC hX) (Or.inl ⟨by simp, hX⟩) (by (simp only [qls, Nat.reduceAdd, pickF]); exact ⟨xn, hxn, rfl, hRq⟩)
  simp only [qnr]
  refine qac (d := 36) rfl rfl (fun wx hC hI hd S0 hS => ?_) (fun v7 => ?_)
  ·have d1 := hd ⟨1, .data⟩ (by simp) rfl v1 (by simp)
   simp only [pickF] at d1
   have d6 := hd ⟨6, .data⟩ (by simp) rfl v6 (by simp)
   simp only [pickF] at d6
   obtain ⟨x, hx, d6, _⟩ := d6
   subst d1; subst d6
   have HSS := qhd hS; clear hS hd hI
   go_simp
   exact HSS.out _ _ hC (Or.inr (Below.refl _ _)) (by (simp only [qls, Nat.reduceAdd, pickF]); exact ⟨x, hx, rfl⟩)
  simp only [qnr]
  refine qac (d := 37) rfl rfl (fun wx hC hI hd S0 hS => ?_) (fun v8 => ?_)
  ·have d7 := hd ⟨7, .data⟩ (by simp) rfl v7 (by simp)
   simp only [pickF] at d7
   obtain ⟨x, hx, d7⟩ := d7
   subst d7
   have HSS := qhd hS; clear hS hd hI
   refine wp_loadAt rfl rfl (run_loadAt_mid wx ob (x * 4) 37 (css2.getD x []) _ (HR5.out wx hC x hx).1 Tryz.underlying37 rfl (by rw [(HR5.out wx hC x hx).2]; exact HKC.out)) ⟨put_defers' _ _ _, ?_⟩
   rw [qae (by simp)]
   exact HSS.out _ _ hC (Or.inr (Below.refl _ _)) (by (simp only [qls, Nat.reduceAdd, pickF]); exact ⟨x, hx, rfl⟩)
  simp only [qnr]
  refine qac (d := 8) rfl rfl (fun wx hC hI hd S0 hS => ?_) (fun v9 => ?_)
  ·have hzx := hC.size
   have HSS := qhd hS; clear hS hd hI
   go_simp
   refine HSS.out _ _ (exC_next hC ((Below.refl _ _).alloc (Nat.le_refl _) _)) (Or.inr ((Below.refl _ _).alloc (Nat.le_refl _) _)) ?_
   (simp only [qls, Nat.reduceAdd, pickF])
   exact ⟨_, _, rfl, hzx, heap_alloc_new wx _, rfl⟩
  simp only [qnr]
  intro w6 hC hF
  have f6 := hF 6 v6 (by simp) (fun _ _ => rfl)
  have f8 := hF 8 v8 (by simp) (fun _ _ => rfl)
  have f9 := hF 9 v9 (by simp) (fun _ _ => rfl)
  simp only [pickF] at f6 f8 f9
  obtain ⟨_, _, _, R6⟩ := f6
  obtain ⟨x2, hx2, e8⟩ := f8
  obtain ⟨C, csC, e9, hcC, hcbC, hcsC⟩ := f9
  obtain ⟨cl, hcl2⟩ : ∃ y, k.fOwns[x2]? = some y := ⟨_, List.getElem?_eq_getElem (by rw [HON.out]; exact hx2)⟩
  obtain ⟨rw4, hrw4, _, hcr, _⟩ := HRW2.out x2 cl hcl2
  obtain ⟨vf, vm, e0, tf, tm, _, _⟩ := id hcr
  subst e0
  have eoa : css2.getD x2 [] = [.string cl.fName, .string cl.fSuper, vf, vm] := by rw [List.getD_eq_getElem?_getD, hrw4]; rfl
  rw [eoa] at e8
  subst e8; subst e9
  have tm6 := TSl.stays (E := ELodKeeper) (tClsMethod_goodT.mono fun t ht => EClsClass_LodKeeper t (EClsMethod_ClsClass t ht)) (by unfold ELodKeeper; simp) tm (KeepsT.of_ex (N := W5.heap.size) hC hlt (Nat.le_refl _))
  obtain ⟨fa, fn, fc, rfl⟩ := tf.form3
  obtain ⟨ma, mc, rfl, hmn, hmm⟩ := tm.form
  obtain ⟨mn, hmn2⟩ : ∃ n, cl.fMethods.length = n := ⟨_, rfl⟩
  have HMN := qhd hmn2
  have hz6 := hC.size
  have TC6 : TypeAt w6 C 37 := ⟨csC, (0, 0), hcbC⟩
  have hCl : C < w6.heap.size := (Array.getElem?_eq_some_iff.1 hcbC).1
  have hCX := hC
  have HCX := qhd hcl2
  clear hF HRW2 hrw4 hcr eoa tf tm hcl2 HR5 k5 hmn2
  simp only [List.drop_succ_cons, List.drop_zero]
  go_wp2_with (refine wpList_store_row (by rfl) 37 (.tmp 8) (.tmp 37) (by rfl) C [.string cl.fName, .string cl.fSuper, .slice fa fn fc, .slice ma cl.fMethods.length mc] (by rfl) (by rfl) (there_of hcbC hcsC) HKC.out (by intro v hv; simp at hv; rcases hv with rfl | rfl | rfl | rfl <;> rfl) ?_)
  intro w7 hr7 ht7 hT7
  have k7 := hr7 3 _ rfl
  rw [Nat.zero_add] at k7
  have E57 : Ex r W5.heap.size W5 w7 := hCX.trans (hT7.ex (by omega))
  have R7 : Rd w7 r (q + 1 + 1) := rd_below (hT7.below (Nat.le_refl C)) R6 (by omega)
  have T7 : Hid (TSl 8 tClsMethod 65 w.heap.size w7 (.slice ma cl.fMethods.length mc) cl.fMethods) := qhd (tm6.stays (E := EClsClass) (tClsMethod_goodT.mono EClsMethod_ClsClass) (by unfold EClsClass; simp) (KeepsT.of_turn hT7 TC6 EClsClass_not))
  have hz7 : w6.heap.size ≤ w7.heap.size := Nat.le_of_eq hT7.size
  have hCl7 : C < w7.heap.size := by omega
  rw [HMN.out] at k7 T7 hmn
  have hmm2 : mc ≤ 9223372036854775807 := by unfold maxLen at hmm; omega
  clear hr7 ht7 hT7 hC hCX R6 tm6 TC6 hcbC hmm
  by_cases hm0 : mn = 0
  ·subst hm0
   go_wp2_with fail
   go_meet
   case rel => exact HM5.out.ex E57 (Nat.le_refl _) hlt (by omega) (Nat.le_refl _) E5.size R7 (by omega)
  have hm1 : 0 < mn := by omega
  have hm2 : decide ((0 : Int) < (mn : Int)) = true := by simp; omega
  obtain ⟨mb, mcap, css3, em, hmb0, hmb1, hmb2, hmb3, hrows3⟩ := T7.out.rowsAt (by rw [HMN.out]; exact hm1)
  rw [HMN.out] at em hmb2
  cases em
  have HR7 : Hid (∀ W, Ex r w7.heap.size w7 W → ∀ x, x < mn → W.rangeAt mb (x * 8) (css3.getD x []) ∧ (css3.getD x []).length = 8) := qhd fun W hW x hx => by
   obtain ⟨y, hy⟩ : ∃ y, cl.fMethods[x]? = some y := ⟨_, List.getElem?_eq_getElem (by rw [HMN.out]; exact hx)⟩
   obtain ⟨cs, hcs, hl4, _, hr⟩ := hrows3 x y hy
   rw [List.getD_eq_getElem?_getD, hcs]
   exact ⟨fun j u hj => (qag (hW.block mb (by omega) hmb1)).trans (hr j u hj), hl4⟩
  have HRW3 := qhd hrows3
  have HKM : Hid ((Tryz.prog.info? 65).map (·.size) = some 8) := qhd (by kernel_rfl)
  clear hrows3 T7
  go_wp2_with fail
  refine wp_region_relyE 9 (Ex r w7.heap.size w7) (pickG r) (fun _ => pickF w7.heap.size r (q + 1 + 1) mn 8 mb (.pointer (some ⟨C, 3, none⟩)) (.slice (some ⟨mb, 0, none⟩) mn mc) (fun x => css3.getD x []) 65) (pickI r (q + 1 + 1)) noDead (by kernel_rfl) (by decide) (by kernel_rfl) (Or.inr ⟨by kernel_rfl, by kernel_rfl⟩) (by kernel_rfl) ((Ex.refl _ _ _).drew) (fun _ _ _ _ _ _ _ _ _ h => h) noDead_dead (fun _ _ => R7.drew) (fun i j w1 w2 hne _ hg h => pickI_stays i j w1 w2 hne hg h) (fun _ i j u w1 w2 hne _ _ hg hF => pickF_stays (by omega) i j u w1 w2 hne hg hF) (fun _ _ _ => Or.inr (Below.refl _ _)) ?_
  refine qac (d := 42) rfl rfl (fun wx hC hI hd S0 hS => ?_) (fun v0 => ?_)
  ·have HSS := qhd hS; clear hS hd hI
   go_simp
   exact HSS.out _ _ hC (Or.inr (Below.refl _ _)) (by (simp only [qls, Nat.reduceAdd, pickF]))
  simp only [qnr]
  refine qac (d := 43) rfl rfl (fun wx hC hI hd S0 hS => ?_) (fun v1 => ?_)
  ·have d0 := hd ⟨0, .data⟩ (by simp) rfl v0 (by simp)
   simp only [pickF] at d0
   subst d0
   have c0 := (qag (hC.block C (by omega) (by omega))).trans k7
   have HSS := qhd hS; clear hS hd hI
   go_simp
   exact HSS.out _ _ hC (Or.inr (Below.refl _ _)) (by (simp only [qls, Nat.reduceAdd, pickF]))
  simp only [qnr]
  refine qac (d := 44) rfl rfl (fun wx hC hI hd S0 hS => ?_) (fun v2 => ?_)
  ·have HSS := qhd hS; clear hS hd hI
   go_simp
   exact HSS.out _ _ hC (Or.inr (Below.refl _ _)) (by (simp only [qls, Nat.reduceAdd, pickF]))
  simp only [qnr]
  refine qac (d := 45) rfl rfl (fun wx hC hI hd S0 hS => ?_) (fun v3 => ?_)
  ·have HSS := qhd hS; clear hS hd hI
   go_simp
   exact HSS.out _ _ hC (Or.inr (Below.refl _ _)) (by (simp only [qls, Nat.reduceAdd, pickF]))
  simp only [qnr]
  refine qac (d := 46) rfl rfl (fun wx hC hI hd S0 hS => ?_) (fun v4 => ?_)
  ·have d3 := hd ⟨3, .data⟩ (by simp) rfl v3 (by simp)
   simp only [pickF] at d3
   subst d3
   have c0 := (qag (hC.block C (by omega) (by omega))).trans k7
   have HSS := qhd hS; clear hS hd hI
   go_simp
   exact HSS.out _ _ hC (Or.inr (Below.refl _ _)) (by (simp only [qls, Nat.reduceAdd, pickF]))
  simp only [qnr]
  refine qac (d := 47) rfl rfl (fun wx hC hI hd S0 hS => ?_) (fun v5 => ?_)
  ·have d4 := hd ⟨4, .data⟩ (by simp) rfl v4 (by simp)
   simp only [pickF] at d4
   subst d4
   have HSS := qhd hS; clear hS hd hI
   go_simp
   exact HSS.out _ _ hC (Or.inr (Below.refl _ _)) (by (simp only [qls, Nat.reduceAdd, pickF]))
  simp only [qnr]
  refine qac (d := 48) rfl rfl (fun wx hC hI hd S0 hS => ?_) (fun v6 => ?_)
  ·have d2 := hd ⟨2, .data⟩ (by simp) rfl v2 (by simp)
   simp only [pickF] at d2
   have d5 := hd ⟨5, .data⟩ (by simp) rfl v5 (by simp)
   simp only [pickF] at d5
   subst d2; subst d5
   have hRd : Rd wx r (q + 1 + 1) := hI (by simp)
   have HSS := qhd hS; clear hS hd hI
   go_simp
   refine (S_pick r (q + 1 + 1) _ _ (by omega) hRd (by omega)).mono ?_
   rintro _ w' ⟨⟨x, hx, rfl⟩, hRq, hX⟩
   obtain ⟨xn, hxn, rfl⟩ := pick_nat (by omega) hx
   exact HSS.out _ _ (exC_ex hC hX) (Or.inl ⟨by simp, hX⟩) (by (simp only [qls, Nat.reduceAdd, pickF]); exact ⟨xn, hxn, rfl, hRq⟩)
  simp only [qnr]
  refine qac (d := 49) rfl rfl (fun wx hC hI hd S0 hS => ?_) (fun v7 => ?_)
  ·have d1 := hd ⟨1, .data⟩ (by simp) rfl v1 (by simp)
   simp only [pickF] at d1
   have d6 := hd ⟨6, .data⟩ (by simp) rfl v6 (by simp)
   simp only [pickF] at d6
   obtain ⟨x, hx, d6, _⟩ := d6
   subst d1; subst d6
   have HSS := qhd hS; clear hS hd hI
   go_simp
   exact HSS.out _ _ hC (Or.inr (Below.refl _ _)) (by (simp only [qls, Nat.reduceAdd, pickF]); exact ⟨x, hx, rfl⟩)
  simp only [qnr]
  refine qac (d := 50) rfl rfl (fun wx hC hI hd S0 hS => ?_) (fun v8 => ?_)
  ·have d7 := hd ⟨7, .data⟩ (by simp) rfl v7 (by simp)
   simp only [pickF] at d7
   obtain ⟨x, hx, d7⟩ := d7
   subst d7
   have HSS := qhd hS; clear hS hd hI
   refine wp_loadAt rfl rfl (run_loadAt_mid wx mb (x * 8) 65 (css3.getD x []) _ (HR7.out wx hC x hx).1 Tryz.underlying65 rfl (by rw [(HR7.out wx hC x hx).2]; exact HKM.out)) ⟨put_defers' _ _ _, ?_⟩
   rw [qae (by simp)]
   exact HSS.out _ _ hC (Or.inr (Below.refl _ _)) (by (simp only [qls, Nat.reduceAdd, pickF]); exact ⟨x, hx, rfl⟩)
  simp only [qnr]
  intro w8 hC hF
  have f6 := hF 6 v6 (by simp) (fun _ _ => rfl)
  have f8 := hF 8 v8 (by simp) (fun _ _ => rfl)
  simp only [pickF] at f6 f8
  obtain ⟨_, _, _, R8⟩ := f6
  obtain ⟨x3, hx3, e8⟩ := f8
  obtain ⟨mt, hmt⟩ : ∃ y, cl.fMethods[x3]? = some y := ⟨_, List.getElem?_eq_getElem (by rw [HMN.out]; exact hx3)⟩
  obtain ⟨rw8, hrw8, _, hmr, _⟩ := HRW3.out x3 mt hmt
  obtain ⟨v1, v2, v3, e0, t1, t2, t3, _, _⟩ := id hmr
  subst e0
  have eoa : css3.getD x3 [] = [.string mt.fName, v1, .int .i64 mt.fRet.fKind, .string mt.fRet.fName, .int .i64 mt.fLocals, .int .i64 mt.fStack, v2, v3] := by rw [List.getD_eq_getElem?_getD, hrw8]; rfl
  rw [eoa] at e8
  subst e8
  obtain ⟨aa1, an1, ac1, rfl⟩ := t1.form3
  obtain ⟨aa2, an2, ac2, rfl⟩ := t2.form3
  obtain ⟨aa3, an3, ac3, rfl⟩ := t3.form3
  have hmr8 := tClsMethod_goodT.stays _ _ _ _ _ (KeepsT.of_ex (N := w7.heap.size) hC hlt (Nat.le_refl _)) hmr
  have HMR8 := qhd hmr8
  have hz8 := hC.size
  have HSM := qhd (mthOk_small (lodOk_mth HOK.out (List.mem_of_getElem? HKX.out) (List.mem_of_getElem? HCX.out) (List.mem_of_getElem? hmt)))
  have M8 := HM5.out.ex (K' := 20) (E57.trans (hC.mono (by omega))) (Nat.le_refl _) hlt (by omega) (Nat.le_refl _) E5.size R8 (Nat.le_refl _)
  obtain ⟨m0, u1, u2, u3, qq, _, _, g2, g3, g4, g5, _, _, g8⟩ := M8
  have hTh := g2.there
  have G3 := qhd g3
  have G4 := qhd g4
  have G5 := qhd g5
  have G8 := qhd g8
  have hMl : M < w8.heap.size := g2.lt
  clear hF HRW3 hrw8 hmr eoa t1 t2 t3 hmt HR7 k7 hmr8 g2 g3 g4 g5 g8
  simp only [List.drop_succ_cons, List.drop_zero]
  go_wp2_with (refine wpList_store_rowT (by rfl) 65 (.tmp 7) (.tmp 50) (by rfl) M [.string mt.fName, .slice aa1 an1 ac1, .int .i64 mt.fRet.fKind, .string mt.fRet.fName, .int .i64 mt.fLocals, .int .i64 mt.fStack, .slice aa2 an2 ac2, .slice aa3 an3 ac3] (by rfl) (by rfl) hTh HKM.out (by intro v hv; simp at hv; rcases hv with rfl | rfl | rfl | rfl | rfl | rfl | rfl | rfl <;> rfl) ?_)
  intro w9 hr9 ht9 hT9 hY9
  have M9 : MAt 20 w.heap.size M w.heap.size r (q + 3) w w9 := by
   refine ⟨mt, _, _, _, q + 1 + 1 + 1, HSM.out, tClsMethod_goodT.stays _ _ _ _ _ (KeepsT.of_turn hT9 G3.out EClsMethod_not) HMR8.out, Eight.of (by rw [← hT9.size]; exact hMl) hr9 ht9, ?_, ?_, ?_, by omega, rd_below (hT9.below (Nat.le_refl M)) R8 (by omega), G8.out.trans (hT9.ex (by omega))⟩
   ·exact hY9 _ _ G3.out
   ·exact G4.out.ex (r := M) (N := w.heap.size + 1) ⟨hT9.os, hT9.tape, hT9.output, Nat.le_of_eq hT9.size, fun k hk _ => hT9.block k hk⟩ (by omega) (by omega)
   ·exact hY9 _ _ G5.out
  have HM9 := qhd M9
  clear hr9 ht9 hT9 hTh M9 hY9
  go_wp2_with fail
  go_meet
  case rel => exact HM9.out
 case rest =>
 have hww4 := E4.size
 have hMw : w.heap.size < M := by omega
 obtain ⟨_, _, _, _, q1, _, _, hE0, _, hR0, _, hq1, hRd, hX⟩ := id hcut
 have hMl := hE0.lt
 have hRl := hR0.lt
 have hXs := hX.size
 have HC0 := qhd hcut
 clear hcut hE0 hR0
 go_wp2_with fail
 refine (S_odd r q1 n _ hn hn2 hRd (by omega)).mono ?_
 rintro _ wd ⟨⟨x9, rfl⟩, Rdd, Xd⟩
 have hsd := Xd.size
 have HD := qhd (HC0.out.ex (K' := 20) Xd (Nat.le_refl _) hlt (by omega) (Nat.le_refl _) hXs Rdd (Nat.le_refl _))
 have Ed : Ex r w.heap.size w wd := exC_ex hX Xd
 clear HC0 Xd hRd hX HM5
 go_upto_if 53 with fail
 go_cut [] from 53 to 121 (fun wx => MAt 30 w.heap.size M w.heap.size r (p + 80) w wx)
 case first =>
  cases x9
  ·go_wp2_with fail
   go_meet
   case rel => exact HD.out.ex (Ex.refl r _ _) (Nat.le_refl _) hlt (by omega) (Nat.le_refl _) Ed.size Rdd (by omega)
  go_wp2_with fail
  refine (S_pick r (q1 + 1) 8 _ (by omega) Rdd (by omega)).mono ?_
  rintro _ we ⟨⟨y, hy, rfl⟩, Re, Xe⟩
  have hse := Xe.size
  have HE := qhd (HD.out.ex (K' := 20) Xe (Nat.le_refl _) hlt (by omega) (Nat.le_refl _) Ed.size Re (Nat.le_refl _))
  have Ee : Ex r w.heap.size w we := exC_ex Ed Xe
  clear HD Xe Rdd Ed
  obtain ⟨mt, v1, v2, v3, q3, hsm, hm, hE, hTM, hR, hTR, hq3, _, _⟩ := HE.out
  obtain ⟨y1, y2, y3, e0, t1, t2, t3, sz1, sz2⟩ := id hm
  cases e0
  obtain ⟨aa1, an1, ac1, rfl⟩ := t1.form3
  obtain ⟨aa2, an2, ac2, rfl⟩ := t2.form3
  obtain ⟨aa3, an3, ac3, rfl⟩ := t3.form3
  have T1 := qhd t1
  have T2 := qhd t2
  have T3 := qhd t3
  have HTM := qhd hTM
  have HTR := qhd hTR
  have HRR := qhd hR
  have HEE := qhd hE
  have hEs := Ee.size
  have hMe := hE.lt
  clear hm t1 t2 t3 hTM hTR hR HE
  obtain ⟨_, c0, c1, c2, c3, c4, c5, c6, c7, f0, f1, f2, f3, f4, f5, f6, f7⟩ := hE
  rcases eight hy with rfl | rfl | rfl | rfl | rfl | rfl | rfl | rfl
  ·clear hy
   go_wp2_with fail
   go_meet
   case rel =>
    have KM : KeepsT EClsMethod w.heap.size we (we.setCell ⟨M, 0, none⟩ (.string ⟨#[]⟩)) := KeepsT.set HTM.out EClsMethod_not
    exact ⟨{ mt with fName := ⟨#[]⟩ }, _, _, _, q1 + 2, ⟨by first | (exact Nat.zero_le _) | (exact Nat.le_trans hsm.1 (by decide)), by first | (exact Nat.zero_le _) | (exact Nat.le_trans hsm.2.1 (by decide)), by first | (exact Nat.zero_le _) | (exact Nat.le_trans hsm.2.2 (by decide))⟩, ⟨_, _, _, rfl, T1.out.stays (E := EClsMethod) (rKndKind_goodT.mono fun _ h => h.elim) (by unfold EClsMethod; simp) KM, T2.out.stays (E := EClsMethod) (rClsIns_goodT.mono fun _ h => h.elim) (by unfold EClsMethod; simp) KM, T3.out.stays (E := EClsMethod) (tClsMap_goodT.mono EClsMap_ClsMethod) (by unfold EClsMethod; simp) KM, Nat.zero_le _, sz2⟩, HEE.out.set0, HTM.out.set _ _, HRR.out.set_other (by omega), HTR.out.set _ _, by omega, Re.setCell (show r < M by omega) _, Ee.setCell (show w.heap.size ≤ M by omega) _⟩
  ·clear hy
   obtain ⟨cA, hsA, hrA⟩ := T1.out.src
   have HS0 : Hid (∀ o, Src 2 (we.alloc o) (.slice aa1 an1 ac1) cA) := qhd fun o => hsA.kept (bbel)
   have HR0 : Hid (∀ o, Rows 2 rKndKind w.heap.size (we.alloc o) cA mt.fArgs) := qhd fun o => hrA.mono fun cs x hx => rKndKind_goodT.stays _ _ _ _ _ (KeepsT.of_below (bbel)) hx
   have hla : mt.fArgs.length ≤ 20 := hsm.1
   clear hsA hrA
   go_wp2_with (at_builtin; refine wpList_append_copyC (B := we.heap.size) (lo := w.heap.size) (R := rKndKind) (E := NoT) (ys := mt.fArgs) (css := cA) (by rfl) (.tmp 63) (.tmp 65) 59 (by rfl) sty_Knd rKndKind_goodT rKndKind_one (by rfl) (by rfl) (Empty0.new we _ (Nat.le_refl _)) (HS0.out _) (HR0.out _) (by omega) hEs (by simp) ?_)
   intro vA wf htA hbA
   have hsf := hbA.size
   simp only [World.size_alloc] at hsf
   have Ef : Ex r we.heap.size we wf := eexx
   have Rf : Rd wf r (q1 + 2) := rdd
   have HA := qhd htA.plain
   obtain ⟨ia, iin, ic, rfl⟩ := htA.plain.sl.form3
   clear htA hbA HS0 HR0
   go_wp2_with fail
   refine (S_l20Kind r (q1 + 2) 2 _ (by omega) (by omega) (rdd) (by omega)).mono ?_
   rintro _ wk ⟨⟨_, ⟨k1, n1, rfl, hn1, _, _⟩, rfl⟩, Rwk, Xwk⟩
   have hswk := Xwk.size
   go_wp2_with fail
   refine (S_l20Kind r (q1 + 4) 2 _ (by omega) (by omega) (rdd) (by omega)).mono ?_
   rintro _ wl ⟨⟨_, ⟨k2, n2, rfl, hn2, _, _⟩, rfl⟩, Rwl, Xwl⟩
   have hswl := Xwl.size
   go_wp2_with fail
   refine (S_l20Kind r (q1 + 6) 2 _ (by omega) (by omega) (rdd) (by omega)).mono ?_
   rintro _ wg ⟨⟨_, ⟨k3, n3, rfl, hn3, _, _⟩, rfl⟩, Rwg, Xwg⟩
   have hswg := Xwg.size
   have HG := qhd (((HA.out.exG rKndKind_goodT Xwk hlt (Nat.le_refl _)).exG rKndKind_goodT Xwl hlt (Nat.le_refl _)).exG rKndKind_goodT Xwg hlt (Nat.le_refl _))
   have Eg : Ex r we.heap.size we wg := exC_ex (exC_ex (exC_ex Ef Xwk) Xwl) Xwg
   have HK : Hid (∀ lo w, Rows 2 rKndKind lo w [[.int .i64 k1, .string n1], [.int .i64 k2, .string n2], [.int .i64 k3, .string n3]] [⟨k1, n1⟩, ⟨k2, n2⟩, ⟨k3, n3⟩]) := qhd fun lo w => Rows.append (c1 := [_]) (x1 := [_]) (Rows.one rfl ⟨rfl, by unfold maxLen; show n1.size ≤ _; omega⟩) (Rows.append (c1 := [_]) (x1 := [_]) (Rows.one rfl ⟨rfl, by unfold maxLen; show n2.size ≤ _; omega⟩) (Rows.one rfl ⟨rfl, by unfold maxLen; show n3.size ≤ _; omega⟩))
   go_wp2_with (at_builtin; refine qam (B := we.heap.size) (lo := w.heap.size) (R := rKndKind) (E := NoT) (xs := mt.fArgs) (ys := [⟨k1, n1⟩, ⟨k2, n2⟩, ⟨k3, n3⟩]) (css := [[.int .i64 k1, .string n1], [.int .i64 k2, .string n2], [.int .i64 k3, .string n3]]) (by rfl) (.tmp 66) (.tmp 73) 59 (by rfl) sty_Knd rKndKind_goodT (fun h => h) rKndKind_one (by rfl) (by rfl) (HG.out.below rKndKind_goodT (bbel)) (Src.lit (css := [[.int .i64 k1, .string n1], [.int .i64 k2, .string n2], [.int .i64 k3, .string n3]]) wg _ rfl 3 rfl _ rfl) (HK.out _ _) (by simp; omega) hEs (by simp; omega) ?_)
   intro vB wh htB hbB hgB hkB hatB
   have hsh := hbB.size
   (try simp only [World.size_alloc] at hsh)
   have Eh : Ex r we.heap.size we wh := exC_low (eexx) hbB
   have Rh : Rd wh r (q1 + 8) := rdd
   have HB := qhd htB.sl
   obtain ⟨ja, jn, jc, rfl⟩ := htB.sl.form3
   have HEh := qhd (HEE.out.ex Eh (by omega) hMe)
   have HTMh := qhd (HTM.out.ex Eh (by omega) hMe)
   have HRRh := qhd (HRR.out.ex Eh (by omega) (by omega))
   have HTRh := qhd (HTR.out.ex Eh (by omega) (by omega))
   have hMh : M < wh.heap.size := by omega
   obtain ⟨_, c0, c1, c2, c3, c4, c5, c6, c7, f0, f1, f2, f3, f4, f5, f6, f7⟩ := HEh.out
   have Eall : Ex r w.heap.size w wh := exC_ex Ee Eh
   clear htB hbB hgB hkB hatB HG HA
   go_wp2_with fail
   go_meet
   case rel =>
    have K0 : KeepsT EClsMethod w.heap.size wh (wh.setCell ⟨M, 1, none⟩ (.slice ja jn jc)) := KeepsT.set HTMh.out EClsMethod_not
    have KM : KeepsT EClsMethod w.heap.size we (wh.setCell ⟨M, 1, none⟩ (.slice ja jn jc)) := (KeepsT.of_ex Eh hlt (Nat.le_refl _)).trans K0
    exact ⟨{ mt with fArgs := mt.fArgs ++ [⟨k1, n1⟩, ⟨k2, n2⟩, ⟨k3, n3⟩] }, _, _, _, q1 + 8, ⟨by simp; omega, Nat.le_trans hsm.2.1 (by decide), Nat.le_trans hsm.2.2 (by decide)⟩, ⟨_, _, _, rfl, HB.out.stays (E := EClsMethod) (rKndKind_goodT.mono fun _ h => h.elim) (by unfold EClsMethod; simp) K0, T2.out.stays (E := EClsMethod) (rClsIns_goodT.mono fun _ h => h.elim) (by unfold EClsMethod; simp) KM, T3.out.stays (E := EClsMethod) (tClsMap_goodT.mono EClsMap_ClsMethod) (by unfold EClsMethod; simp) KM, sz1, sz2⟩, HEh.out.set1, HTMh.out.set _ _, HRRh.out.set_other (by omega), HTRh.out.set _ _, by omega, Rh.setCell (show r < M by omega) _, Eall.setCell (show w.heap.size ≤ M by omega) _⟩
  ·clear hy
   go_wp2_with fail
   go_meet
   case rel =>
    have KM : KeepsT EClsMethod w.heap.size we ((we.setCell ⟨M, 2, none⟩ (.int .i64 0)).setCell ⟨M, 3, none⟩ (.string ⟨#[]⟩)) := (KeepsT.set HTM.out EClsMethod_not).trans (KeepsT.set (HTM.out.set _ _) EClsMethod_not)
    exact ⟨{ mt with fRet := ⟨0, ⟨#[]⟩⟩ }, _, _, _, q1 + 2, ⟨by first | (exact Nat.zero_le _) | (exact Nat.le_trans hsm.1 (by decide)), by first | (exact Nat.zero_le _) | (exact Nat.le_trans hsm.2.1 (by decide)), by first | (exact Nat.zero_le _) | (exact Nat.le_trans hsm.2.2 (by decide))⟩, ⟨_, _, _, rfl, T1.out.stays (E := EClsMethod) (rKndKind_goodT.mono fun _ h => h.elim) (by unfold EClsMethod; simp) KM, T2.out.stays (E := EClsMethod) (rClsIns_goodT.mono fun _ h => h.elim) (by unfold EClsMethod; simp) KM, T3.out.stays (E := EClsMethod) (tClsMap_goodT.mono EClsMap_ClsMethod) (by unfold EClsMethod; simp) KM, sz1, Nat.zero_le _⟩, HEE.out.set2.set3, (HTM.out.set _ _).set _ _, (HRR.out.set_other (by omega)).set_other (by omega), (HTR.out.set _ _).set _ _, by omega, (Re.setCell (show r < M by omega) _).setCell (show r < M by omega) _, (Ee.setCell (show w.heap.size ≤ M by omega) _).setCell (show w.heap.size ≤ M by omega) _⟩
  ·clear hy
   go_wp2_with fail
   refine (S_pick r (q1 + 2) 3 _ (by omega) (rdd) (by omega)).mono ?_
   rintro _ wf ⟨⟨y, hy, rfl⟩, Rf, Xf⟩
   have Xfs := (Xf).size; (try simp only [qsz] at Xfs)
   obtain ⟨Xfac, Xfad, Xfaf, Xfag, Xfaz, Xfax, Xfay⟩ := efacts (n := we.heap.size) (k := 1) Xf (by go_size) (by go_size) (by first | omega | (simp; omega)); replace Xfad := Xfad (by decide); replace Xfag := Xfag (by decide); replace Xfax := Xfax (by decide); clear Xfac Xfaf Xfaz
   have hcell : ∃ v : Int, wf.cell? ⟨we.heap.size, y.toNat, none⟩ = some (.int .i64 v) := by
    rcases three hy with rfl | rfl | rfl
    all_goals exact ⟨_, (by rw [Xfad, World.cell?_alloc_at (hn := rfl)]; rfl)⟩
   obtain ⟨v, hcv⟩ := hcell
   have y1 := hy.1
   have y4 := hy.2.1 (by omega)
   have Xg : Ex r we.heap.size we wf := eexx
   have HEf := qhd (HEE.out.ex Xg (by omega) hMe)
   have HTMf := qhd (HTM.out.ex Xg (by omega) hMe)
   have HRRf := qhd (HRR.out.ex Xg (by omega) (by omega))
   have HTRf := qhd (HTR.out.ex Xg (by omega) (by omega))
   have hMf : M < wf.heap.size := by omega
   obtain ⟨_, c0, c1, c2, c3, c4, c5, c6, c7, f0, f1, f2, f3, f4, f5, f6, f7⟩ := HEf.out
   have Ef : Ex r w.heap.size w wf := exC_ex Ee Xg
   clear Xfad Xfag Xfax Xfay hy Xf
   go_wp2_with fail
   go_meet
   case rel =>
    have KM : KeepsT EClsMethod w.heap.size we (wf.setCell ⟨M, 4, none⟩ (.int .i64 v)) := (KeepsT.of_ex Xg hlt (Nat.le_refl _)).trans (KeepsT.set HTMf.out EClsMethod_not)
    exact ⟨{ mt with fLocals := v }, _, _, _, q1 + 3, ⟨by first | (exact Nat.zero_le _) | (exact Nat.le_trans hsm.1 (by decide)), by first | (exact Nat.zero_le _) | (exact Nat.le_trans hsm.2.1 (by decide)), by first | (exact Nat.zero_le _) | (exact Nat.le_trans hsm.2.2 (by decide))⟩, ⟨_, _, _, rfl, T1.out.stays (E := EClsMethod) (rKndKind_goodT.mono fun _ h => h.elim) (by unfold EClsMethod; simp) KM, T2.out.stays (E := EClsMethod) (rClsIns_goodT.mono fun _ h => h.elim) (by unfold EClsMethod; simp) KM, T3.out.stays (E := EClsMethod) (tClsMap_goodT.mono EClsMap_ClsMethod) (by unfold EClsMethod; simp) KM, sz1, sz2⟩, HEf.out.set4, HTMf.out.set _ _, HRRf.out.set_other (by omega), HTRf.out.set _ _, by omega, Rf.setCell (show r < M by omega) _, Ef.setCell (show w.heap.size ≤ M by omega) _⟩
  ·clear hy
   go_wp2_with fail
   refine (S_pick r (q1 + 2) 2 _ (by omega) (rdd) (by omega)).mono ?_
   rintro _ wf ⟨⟨y, hy, rfl⟩, Rf, Xf⟩
   have Xfs := (Xf).size; (try simp only [qsz] at Xfs)
   obtain ⟨Xfac, Xfad, Xfaf, Xfag, Xfaz, Xfax, Xfay⟩ := efacts (n := we.heap.size) (k := 1) Xf (by go_size) (by go_size) (by first | omega | (simp; omega)); replace Xfad := Xfad (by decide); replace Xfag := Xfag (by decide); replace Xfax := Xfax (by decide); clear Xfac Xfaf Xfaz
   have hcell : ∃ v : Int, wf.cell? ⟨we.heap.size, y.toNat, none⟩ = some (.int .i64 v) := by
    have h2 : y = 0 ∨ y = 1 := by obtain ⟨q1, q2, q3⟩ := hy; omega
    rcases h2 with rfl | rfl
    all_goals exact ⟨_, (by rw [Xfad, World.cell?_alloc_at (hn := rfl)]; rfl)⟩
   obtain ⟨v, hcv⟩ := hcell
   have y1 := hy.1
   have y4 := hy.2.1 (by omega)
   have Xg : Ex r we.heap.size we wf := eexx
   have HEf := qhd (HEE.out.ex Xg (by omega) hMe)
   have HTMf := qhd (HTM.out.ex Xg (by omega) hMe)
   have HRRf := qhd (HRR.out.ex Xg (by omega) (by omega))
   have HTRf := qhd (HTR.out.ex Xg (by omega) (by omega))
   have hMf : M < wf.heap.size := by omega
   obtain ⟨_, c0, c1, c2, c3, c4, c5, c6, c7, f0, f1, f2, f3, f4, f5, f6, f7⟩ := HEf.out
   have Ef : Ex r w.heap.size w wf := exC_ex Ee Xg
   clear Xfad Xfag Xfax Xfay hy Xf
   go_wp2_with fail
   go_meet
   case rel =>
    have KM : KeepsT EClsMethod w.heap.size we (wf.setCell ⟨M, 5, none⟩ (.int .i64 v)) := (KeepsT.of_ex Xg hlt (Nat.le_refl _)).trans (KeepsT.set HTMf.out EClsMethod_not)
    exact ⟨{ mt with fStack := v }, _, _, _, q1 + 3, ⟨by first | (exact Nat.zero_le _) | (exact Nat.le_trans hsm.1 (by decide)), by first | (exact Nat.zero_le _) | (exact Nat.le_trans hsm.2.1 (by decide)), by first | (exact Nat.zero_le _) | (exact Nat.le_trans hsm.2.2 (by decide))⟩, ⟨_, _, _, rfl, T1.out.stays (E := EClsMethod) (rKndKind_goodT.mono fun _ h => h.elim) (by unfold EClsMethod; simp) KM, T2.out.stays (E := EClsMethod) (rClsIns_goodT.mono fun _ h => h.elim) (by unfold EClsMethod; simp) KM, T3.out.stays (E := EClsMethod) (tClsMap_goodT.mono EClsMap_ClsMethod) (by unfold EClsMethod; simp) KM, sz1, sz2⟩, HEf.out.set5, HTMf.out.set _ _, HRRf.out.set_other (by omega), HTRf.out.set _ _, by omega, Rf.setCell (show r < M by omega) _, Ef.setCell (show w.heap.size ≤ M by omega) _⟩
  ·clear hy
   obtain ⟨cA, hsA, hrA⟩ := T2.out.src
   have HS0 : Hid (∀ o, Src 4 (we.alloc o) (.slice aa2 an2 ac2) cA) := qhd fun o => hsA.kept (bbel)
   have HR0 : Hid (∀ o, Rows 4 rClsIns w.heap.size (we.alloc o) cA mt.fCode) := qhd fun o => hrA.mono fun cs x hx => rClsIns_goodT.stays _ _ _ _ _ (KeepsT.of_below (bbel)) hx
   have hla : mt.fCode.length ≤ 20 := hsm.2.1
   clear hsA hrA
   go_wp2_with (at_builtin; refine wpList_append_copyC (B := we.heap.size) (lo := w.heap.size) (R := rClsIns) (E := NoT) (ys := mt.fCode) (css := cA) (by rfl) (.tmp 98) (.tmp 100) 62 (by rfl) sty_Ins rClsIns_goodT rClsIns_one (by rfl) (by rfl) (Empty0.new we _ (Nat.le_refl _)) (HS0.out _) (HR0.out _) (by omega) hEs (by simp) ?_)
   intro vA wf htA hbA
   have hsf := hbA.size
   simp only [World.size_alloc] at hsf
   have Ef : Ex r we.heap.size we wf := eexx
   have Rf : Rd wf r (q1 + 2) := rdd
   have HA := qhd htA.plain
   obtain ⟨ia, iin, ic, rfl⟩ := htA.plain.sl.form3
   clear htA hbA HS0 HR0
   go_wp2_with fail
   refine (S_l20Ins r (q1 + 2) 2 _ (by omega) (by omega) (rdd) (by omega)).mono ?_
   rintro _ wg ⟨⟨op, a, nm, mm, hnm, hmm, rfl⟩, ⟨q4, hq4, Rg⟩, Xg⟩
   have hsg := Xg.size
   have HG := qhd (HA.out.exG rClsIns_goodT Xg hlt (Nat.le_refl _))
   have Eg : Ex r we.heap.size we wg := exC_ex Ef Xg
   go_wp2_with (at_builtin; refine qam (B := we.heap.size) (lo := w.heap.size) (R := rClsIns) (E := NoT) (xs := mt.fCode) (ys := [ins4 op a nm mm]) (css := [[.int .i64 op, .int .i64 a, .string nm, .string mm]]) (by rfl) (.tmp 101) (.tmp 104) 62 (by rfl) sty_Ins rClsIns_goodT (fun h => h) rClsIns_one (by rfl) (by rfl) (HG.out.below rClsIns_goodT (bbel)) (Src.new (k := 4) (cs := [.int .i64 op, .int .i64 a, .string nm, .string mm])) (Rows.one rfl ⟨rfl, by unfold maxLen; show nm.size ≤ _; omega, by unfold maxLen; show mm.size ≤ _; omega⟩) (by simp; omega) hEs (by simp; omega) ?_)
   intro vB wh htB hbB hgB hkB hatB
   have hsh := hbB.size
   (try simp only [World.size_alloc] at hsh)
   have Eh : Ex r we.heap.size we wh := exC_low (eexx) hbB
   have Rh : Rd wh r (q4) := rdd
   have HB := qhd htB.sl
   obtain ⟨ja, jn, jc, rfl⟩ := htB.sl.form3
   have HEh := qhd (HEE.out.ex Eh (by omega) hMe)
   have HTMh := qhd (HTM.out.ex Eh (by omega) hMe)
   have HRRh := qhd (HRR.out.ex Eh (by omega) (by omega))
   have HTRh := qhd (HTR.out.ex Eh (by omega) (by omega))
   have hMh : M < wh.heap.size := by omega
   obtain ⟨_, c0, c1, c2, c3, c4, c5, c6, c7, f0, f1, f2, f3, f4, f5, f6, f7⟩ := HEh.out
   have Eall : Ex r w.heap.size w wh := exC_ex Ee Eh
   clear htB hbB hgB hkB hatB HG HA
   go_wp2_with fail
   go_meet
   case rel =>
    have K0 : KeepsT EClsMethod w.heap.size wh (wh.setCell ⟨M, 6, none⟩ (.slice ja jn jc)) := KeepsT.set HTMh.out EClsMethod_not
    have KM : KeepsT EClsMethod w.heap.size we (wh.setCell ⟨M, 6, none⟩ (.slice ja jn jc)) := (KeepsT.of_ex Eh hlt (Nat.le_refl _)).trans K0
    exact ⟨{ mt with fCode := mt.fCode ++ [ins4 op a nm mm] }, _, _, _, q4, ⟨Nat.le_trans hsm.1 (by decide), by simp; omega, Nat.le_trans hsm.2.2 (by decide)⟩, ⟨_, _, _, rfl, T1.out.stays (E := EClsMethod) (rKndKind_goodT.mono fun _ h => h.elim) (by unfold EClsMethod; simp) KM, HB.out.stays (E := EClsMethod) (rClsIns_goodT.mono fun _ h => h.elim) (by unfold EClsMethod; simp) K0, T3.out.stays (E := EClsMethod) (tClsMap_goodT.mono EClsMap_ClsMethod) (by unfold EClsMethod; simp) KM, sz1, sz2⟩, HEh.out.set6, HTMh.out.set _ _, HRRh.out.set_other (by omega), HTRh.out.set _ _, by omega, Rh.setCell (show r < M by omega) _, Eall.setCell (show w.heap.size ≤ M by omega) _⟩
  ·clear hy
   obtain ⟨cA, hsA, hrA⟩ := T3.out.src
   have HS0 : Hid (∀ o, Src 3 (we.alloc o) (.slice aa3 an3 ac3) cA) := qhd fun o => hsA.kept (bbel)
   have HR0 : Hid (∀ o, Rows 3 tClsMap w.heap.size (we.alloc o) cA mt.fMaps) := qhd fun o => hrA.mono fun cs x hx => tClsMap_goodT.stays _ _ _ _ _ (KeepsT.of_below (bbel)) hx
   have hla : mt.fMaps.length ≤ 20 := hsm.2.2
   clear hsA hrA
   go_wp2_with (at_builtin; refine wpList_append_copyC (B := we.heap.size) (lo := w.heap.size) (R := tClsMap) (E := EClsMap) (ys := mt.fMaps) (css := cA) (by rfl) (.tmp 109) (.tmp 111) 63 (by rfl) sty_Map tClsMap_goodT tClsMap_one (by rfl) (by rfl) (Empty0.new we _ (Nat.le_refl _)) (HS0.out _) (HR0.out _) (by omega) hEs (by simp) ?_)
   intro vA wf htA hbA
   have hsf := hbA.size
   simp only [World.size_alloc] at hsf
   have Ef : Ex r we.heap.size we wf := eexx
   have Rf : Rd wf r (q1 + 2) := rdd
   have HA := qhd htA.plain
   obtain ⟨ia, iin, ic, rfl⟩ := htA.plain.sl.form3
   clear htA hbA HS0 HR0
   go_wp2_with fail
   refine (S_pick r (q1 + 2) 9 _ (by omega) (rdd) (by omega)).mono ?_
   rintro _ wk ⟨⟨xk, _, rfl⟩, Rk, Xk⟩
   have hsk := Xk.size
   go_wp2_with fail
   refine (S_l20Tag r (q1 + 3) 3 _ (by omega) (by omega) (rdd) (by omega)).mono ?_
   rintro _ wg ⟨⟨_, ⟨k1, n1, rfl, hn1, _, _⟩, rfl⟩, Rg, Xg⟩
   have hsg := Xg.size
   have HG := qhd ((HA.out.exG tClsMap_goodT Xk hlt (Nat.le_refl _)).exG tClsMap_goodT Xg hlt (Nat.le_refl _))
   have Eg : Ex r we.heap.size we wg := exC_ex (exC_ex Ef Xk) Xg
   have HTG : Hid (∀ o, tClsMap w.heap.size ((wg.alloc (.cells #[.int .i64 k1, .string n1] 94)).alloc o) [.int .i64 xk, .slice (some ⟨wg.heap.size, 0, none⟩) 1 1, .slice none 0 0] ⟨xk, [⟨k1, n1⟩], []⟩) := qhd fun o =>
    ⟨_, _, rfl, TSl.below rTagTag_goodT (TSl.lit (css := [[.int .i64 k1, .string n1]]) wg _ (Rows.one rfl ⟨rfl, by unfold maxLen; show n1.size ≤ _; omega⟩) rfl 1 rfl _ rfl (by simp) (by omega)) ((Below.refl _ _).alloc (Nat.le_refl _) _), TSl.nil⟩
   go_wp2_with (at_builtin; refine qam (B := we.heap.size) (lo := w.heap.size) (R := tClsMap) (E := EClsMap) (xs := mt.fMaps) (ys := [⟨xk, [⟨k1, n1⟩], []⟩]) (css := [[.int .i64 xk, .slice (some ⟨wg.heap.size, 0, none⟩) 1 1, .slice none 0 0]]) (by rfl) (.tmp 112) (.tmp 119) 63 (by rfl) sty_Map tClsMap_goodT EClsMap_not tClsMap_one (by rfl) (by rfl) (HG.out.below tClsMap_goodT (bbel)) (Src.lit (css := [[.int .i64 xk, .slice (some ⟨wg.heap.size, 0, none⟩) 1 1, .slice none 0 0]]) _ _ rfl 1 rfl _ (by simp)) (Rows.one rfl (HTG.out _)) (by simp; omega) hEs (by simp; omega) ?_)
   intro vB wh htB hbB hgB hkB hatB
   have hsh := hbB.size
   (try simp only [World.size_alloc] at hsh)
   have Eh : Ex r we.heap.size we wh := exC_low (eexx) hbB
   have Rh : Rd wh r (q1 + 5) := rdd
   have HB := qhd htB.sl
   obtain ⟨ja, jn, jc, rfl⟩ := htB.sl.form3
   have HEh := qhd (HEE.out.ex Eh (by omega) hMe)
   have HTMh := qhd (HTM.out.ex Eh (by omega) hMe)
   have HRRh := qhd (HRR.out.ex Eh (by omega) (by omega))
   have HTRh := qhd (HTR.out.ex Eh (by omega) (by omega))
   have hMh : M < wh.heap.size := by omega
   obtain ⟨_, c0, c1, c2, c3, c4, c5, c6, c7, f0, f1, f2, f3, f4, f5, f6, f7⟩ := HEh.out
   have Eall : Ex r w.heap.size w wh := exC_ex Ee Eh
   clear htB hbB hgB hkB hatB HG HA
   go_wp2_with fail
   go_meet
   case rel =>
    have K0 : KeepsT EClsMethod w.heap.size wh (wh.setCell ⟨M, 7, none⟩ (.slice ja jn jc)) := KeepsT.set HTMh.out EClsMethod_not
    have KM : KeepsT EClsMethod w.heap.size we (wh.setCell ⟨M, 7, none⟩ (.slice ja jn jc)) := (KeepsT.of_ex Eh hlt (Nat.le_refl _)).trans K0
    exact ⟨{ mt with fMaps := mt.fMaps ++ [⟨xk, [⟨k1, n1⟩], []⟩] }, _, _, _, q1 + 5, ⟨Nat.le_trans hsm.1 (by decide), Nat.le_trans hsm.2.1 (by decide), by simp; omega⟩, ⟨_, _, _, rfl, T1.out.stays (E := EClsMethod) (rKndKind_goodT.mono fun _ h => h.elim) (by unfold EClsMethod; simp) KM, T2.out.stays (E := EClsMethod) (rClsIns_goodT.mono fun _ h => h.elim) (by unfold EClsMethod; simp) KM, HB.out.stays (E := EClsMethod) (tClsMap_goodT.mono EClsMap_ClsMethod) (by unfold EClsMethod; simp) K0, sz1, sz2⟩, HEh.out.set7, HTMh.out.set _ _, HRRh.out.set_other (by omega), HTRh.out.set _ _, by omega, Rh.setCell (show r < M by omega) _, Eall.setCell (show w.heap.size ≤ M by omega) _⟩
  ·clear hy
   go_wp2_with fail
   go_meet
   case rel =>
    have KM : KeepsT EClsMethod w.heap.size we ((we.setCell ⟨M, 6, none⟩ (.slice (some ⟨we.heap.size, 0, none⟩) 0 0)).alloc (.cells #[] 91)) := (KeepsT.set HTM.out EClsMethod_not).trans (KeepsT.of_below ((Below.refl _ _).alloc (Nat.le_refl _) _))
    have E0 : Empty0 91 we.heap.size ((we.setCell ⟨M, 6, none⟩ (.slice (some ⟨we.heap.size, 0, none⟩) 0 0)).alloc (.cells #[] 91)) (.slice (some ⟨we.heap.size, 0, none⟩) 0 0) := Empty0.at _ (by simp [World.setCell]) (Nat.le_refl _)
    exact ⟨{ mt with fCode := [] }, _, _, _, q1 + 2, ⟨by first | (exact Nat.zero_le _) | (exact Nat.le_trans hsm.1 (by decide)), by first | (exact Nat.zero_le _) | (exact Nat.le_trans hsm.2.1 (by decide)), by first | (exact Nat.zero_le _) | (exact Nat.le_trans hsm.2.2 (by decide))⟩, ⟨_, _, _, rfl, T1.out.stays (E := EClsMethod) (rKndKind_goodT.mono fun _ h => h.elim) (by unfold EClsMethod; simp) KM, (E0.own (R := rClsIns) (k := 4) (lo := w.heap.size) hEs).sl, T3.out.stays (E := EClsMethod) (tClsMap_goodT.mono EClsMap_ClsMethod) (by unfold EClsMethod; simp) KM, sz1, sz2⟩,
     HEE.out.set6.below ((Below.refl _ _).alloc (Nat.le_refl _) _) (by simpa [World.setCell] using hMe), (HTM.out.set _ _).alloc _, (HRR.out.set_other (by omega)).below ((Below.refl _ _).alloc (Nat.le_refl _) _) (by simp [World.setCell]; omega), (HTR.out.set _ _).alloc _, by omega, (Re.setCell (show r < M by omega) _).alloc _, (Ee.setCell (show w.heap.size ≤ M by omega) _).alloc (by simp [World.setCell]; omega) _⟩
 case rest =>
 obtain ⟨mf, v1, v2, v3, q9, _, hm, hE, hTM, hR, hTR, hq9, hRd9, hX9⟩ := hcut
 have HM9 := qhd hm
 have hTh := hR.there
 have hMl9 := hE.lt
 have hRl9 := hR.lt
 have HTR9 := qhd hTR
 have hrg := hE.range
 have HKM9 : Hid ((Tryz.prog.info? 65).map (·.size) = some 8) := qhd (by kernel_rfl)
 obtain ⟨y1, y2, y3, e0, t1, t2, t3, _, _⟩ := id hm
 cases e0
 obtain ⟨aa1, an1, ac1, rfl⟩ := t1.form3
 obtain ⟨aa2, an2, ac2, rfl⟩ := t2.form3
 obtain ⟨aa3, an3, ac3, rfl⟩ := t3.form3
 clear hm t1 t2 t3 hTM hTR hE hR HD
 go_wp2_with (first | (refine wpList_load_mid (by rfl) 65 (.tmp 7) (by rfl) M 0 ?hx [.string mf.fName, .slice aa1 an1 ac1, .int .i64 mf.fRet.fKind, .string mf.fRet.fName, .int .i64 mf.fLocals, .int .i64 mf.fStack, .slice aa2 an2 ac2, .slice aa3 an3 ac3] _ ?hr Tryz.underlying65 (by rfl) HKM9.out ?_) | (refine wpList_store_rowT (by rfl) 65 (.tmp 4) (.tmp 122) (by rfl) w.heap.size [.string mf.fName, .slice aa1 an1 ac1, .int .i64 mf.fRet.fKind, .string mf.fRet.fName, .int .i64 mf.fLocals, .int .i64 mf.fStack, .slice aa2 an2 ac2, .slice aa3 an3 ac3] (by rfl) (by rfl) hTh HKM9.out (by intro v hv; simp at hv; rcases hv with rfl | rfl | rfl | rfl | rfl | rfl | rfl | rfl <;> rfl) ?_))
 case hx => rfl
 case hr => exact hrg
 intro wz hrz htz hTz hYz
 obtain ⟨lz, z0, z1, z2, z3, z4, z5, z6, z7, _, _, _, _, _, _, _, _⟩ := Eight.of (by rw [← hTz.size]; exact hRl9) hrz htz
 have HTz := qhd hTz
 clear hrz htz hTz hTh hrg
 go_wp2
 all_goals
  refine bodyPost_ret (v := ?_) ?hrun rfl ?_
  case hrun => (simp only [results, Tryz.results30]; go_simp; first | done | exact rfl)
  exact HR.out _ _ ⟨mf, _, _, _, q9, rfl, tClsMethod_goodT.stays _ _ _ _ _ (KeepsT.of_turn HTz.out HTR9.out EClsMethod_not) HM9.out, by omega, rd_below (HTz.out.below (Nat.le_refl _)) hRd9 hlt, hX9.trans (HTz.out.ex (Nat.le_refl _))⟩

end Go.Proofs.YtfbonocadpknbaaGreatDoor
