

/-
  Plain words on what keepers find: whose a class is, the chain above it, what is found. No program in sight. No condition.
-/
import Derived.Test.YtmmlhnjmjmbfpaaGreatLodP
import Derived.Test.YtmmlhnjmjmbfpaaGreatDatL
namespace Go.Proofs.YtmmlhnjmjmbfpaaGreat
set_option linter.unusedSimpArgs false
set_option linter.unusedVariables false
open Go.RowKit

def noRef : DLodRef := ⟨0, ⟨#[]⟩⟩
def nxt (p : DLodPlan) (nm : ByteArray) (i : Nat) : Int := match p.fKeepers[i]? with | some k => asksOf k.fAsks nm | none => -1
def ownN (p : DLodPlan) (nm : ByteArray) (i : Nat) : Int := match p.fKeepers[i]? with | some k => ownAt k.fOwns nm | none => -1
/-- whose a class is: the code, and the keeper -/
def whoseF (p : DLodPlan) (nm : ByteArray) : Nat → Nat → Int × Nat
  | 0, _ => (3, 0)
  | f + 1, i => if nxt p nm i < 0 then (if ownN p nm i < 0 then (2, 0) else (1, i)) else whoseF p nm f (nxt p nm i).toNat
def whose (p : DLodPlan) (i : Nat) (nm : ByteArray) : Int × Nat := whoseF p nm 4 i
def whoseR (p : DLodPlan) (i : Nat) (nm : ByteArray) : DLodRef × Int := if (whose p i nm).1 = 1 then (⟨((whose p i nm).2 : Int), nm⟩, 1) else (noRef, (whose p i nm).1)
def clsAt (p : DLodPlan) (r : DLodRef) : Option DClsClass := if 0 ≤ r.fKeeper then (match p.fKeepers[r.fKeeper.toNat]? with | some k => if 0 ≤ ownAt k.fOwns r.fName then k.fOwns[(ownAt k.fOwns r.fName).toNat]? else none | none => none) else none
def chainF (p : DLodPlan) : Nat → DLodRef → Option (List DLodRef)
  | 0, _ => none
  | f + 1, r => match clsAt p r with
    | none => none
    | some c => if c.fSuper.toList.isEmpty then some [r] else if (whoseR p r.fKeeper.toNat c.fSuper).2 = 1 then (chainF p f (whoseR p r.fKeeper.toNat c.fSuper).1).map (r :: ·) else none
def chainR (p : DLodPlan) (r : DLodRef) : Option (List DLodRef) := chainF p 6 r
def findR (p : DLodPlan) (i : Nat) (nm : ByteArray) : DLodRef × Int := if (whoseR p i nm).2 = 1 then (if (chainR p (whoseR p i nm).1).isSome then whoseR p i nm else (noRef, 4)) else (noRef, (whoseR p i nm).2)
def inPlan (p : DLodPlan) (k : Int) : Bool := decide (0 ≤ k) && decide (k < (p.fKeepers.length : Int))
def lodFind (p : DLodPlan) (k : Int) (nm : ByteArray) : DLodRef × Int := if lodOk p && inPlan p k && namOk nm then findR p k.toNat nm else (noRef, 2)

theorem lodOk_keeper {p : DLodPlan} (h : lodOk p = true) {i : Nat} {k : DLodKeeper} (e : p.fKeepers[i]? = some k) : keeperOk p.fKeepers.length k = true := by
  unfold lodOk at h
  simp only [Bool.and_eq_true] at h
  exact each_iff.1 h.2 i k e
theorem lodOk_len {p : DLodPlan} (h : lodOk p = true) : 1 ≤ p.fKeepers.length ∧ p.fKeepers.length ≤ 3 := by
  unfold lodOk at h
  simp only [Bool.and_eq_true, decide_eq_true_eq] at h
  exact h.1
theorem keeperOk_parts {many : Int} {k : DLodKeeper} (h : keeperOk many k = true) : k.fOwns.length ≤ 5 ∧ k.fAsks.length ≤ 4 ∧ each (ownIn k.fOwns) k.fOwns = true ∧ each (askIn many k.fAsks) k.fAsks = true := by
  unfold keeperOk at h
  simp only [Bool.and_eq_true, decide_eq_true_eq] at h
  exact ⟨h.1.1.1, h.1.1.2, h.1.2, h.2⟩
theorem nxt_lt {p : DLodPlan} (h : lodOk p = true) (nm : ByteArray) (i : Nat) : nxt p nm i < (p.fKeepers.length : Int) := by
  unfold nxt
  have hl := lodOk_len h
  cases e : p.fKeepers[i]? with
  | none => simp only; omega
  | some k =>
    simp only
    obtain ⟨_, _, _, ha⟩ := keeperOk_parts (lodOk_keeper h e)
    by_cases hn : askAt k.fAsks nm < 0
    · rw [asksOf_none hn]; omega
    · obtain ⟨a, h1, _, h3, _⟩ := asksOf_some (xs := k.fAsks) (n := nm) (by omega)
      obtain ⟨j, hj⟩ := List.mem_iff_getElem?.1 h1
      have := each_iff.1 ha j a hj
      simp [askIn] at this
      rw [h3]; omega
theorem name_nxt {p : DLodPlan} (h : lodOk p = true) {nm : ByteArray} (hn : namOk nm = false) (i : Nat) : nxt p nm i < 0 := by
  unfold nxt
  cases e : p.fKeepers[i]? with
  | none => simp
  | some k =>
    simp only
    obtain ⟨_, _, _, ha⟩ := keeperOk_parts (lodOk_keeper h e)
    by_cases hc : askAt k.fAsks nm < 0
    · rw [asksOf_none hc]; omega
    · obtain ⟨a, h1, h2, _, _⟩ := asksOf_some (xs := k.fAsks) (n := nm) (by omega)
      obtain ⟨j, hj⟩ := List.mem_iff_getElem?.1 h1
      have := each_iff.1 ha j a hj
      simp [askIn] at this
      rw [sameN_iff.1 h2, hn] at this
      simp at this
theorem name_own {p : DLodPlan} (h : lodOk p = true) {nm : ByteArray} (hn : namOk nm = false) (i : Nat) : ownN p nm i < 0 := by
  unfold ownN
  cases e : p.fKeepers[i]? with
  | none => simp
  | some k =>
    simp only
    obtain ⟨_, _, ho, _⟩ := keeperOk_parts (lodOk_keeper h e)
    rcases firstAt_cases (fun c : DClsClass => sameN c.fName nm) k.fOwns with ⟨h1, _⟩ | ⟨j, c, _, h2, h3, _⟩
    · unfold ownAt; rw [h1]; omega
    · have := each_iff.1 ho j c h2
      simp [ownIn, clsOk] at this
      rw [sameN_iff.1 h3, hn] at this
      simp at this
theorem name_whose {p : DLodPlan} (h : lodOk p = true) {nm : ByteArray} (hn : namOk nm = false) (i : Nat) : whoseR p i nm = (noRef, 2) := by
  have : whose p i nm = (2, 0) := by
    unfold whose whoseF
    rw [if_pos (name_nxt h hn i), if_pos (name_own h hn i)]
  unfold whoseR
  rw [this]; rfl

theorem whoseF_code (p : DLodPlan) (nm : ByteArray) : ∀ f i, (whoseF p nm f i).1 = 1 ∨ (whoseF p nm f i).1 = 2 ∨ (whoseF p nm f i).1 = 3
  | 0, _ => Or.inr (Or.inr rfl)
  | f + 1, i => by
    unfold whoseF
    split
    · split
      · exact Or.inr (Or.inl rfl)
      · exact Or.inl rfl
    · exact whoseF_code p nm f _
/-- who is found has it -/
theorem whoseF_own {p : DLodPlan} (h : lodOk p = true) {nm : ByteArray} : ∀ f i, i < p.fKeepers.length → (whoseF p nm f i).1 = 1 → (whoseF p nm f i).2 < p.fKeepers.length ∧ 0 ≤ ownN p nm (whoseF p nm f i).2 ∧ nxt p nm (whoseF p nm f i).2 < 0
  | 0, _, _, hc => by simp [whoseF] at hc
  | f + 1, i, hi, hc => by
    unfold whoseF at hc ⊢
    split
    · rename_i h1
      rw [if_pos h1] at hc
      split
      · rename_i h2; rw [if_pos h2] at hc; simp at hc
      · rename_i h2; exact ⟨hi, Int.not_lt.1 h2, h1⟩
    · rename_i h1
      rw [if_neg h1] at hc
      exact whoseF_own h f _ (by have := nxt_lt h nm i; omega) hc
theorem clsAt_of_own {p : DLodPlan} {nm : ByteArray} {i : Nat} (hi : i < p.fKeepers.length) (ho : 0 ≤ ownN p nm i) : ∃ c, clsAt p ⟨(i : Int), nm⟩ = some c ∧ sameN c.fName nm = true := by
  obtain ⟨k, hk⟩ : ∃ k, p.fKeepers[i]? = some k := ⟨_, List.getElem?_eq_getElem hi⟩
  unfold ownN at ho
  rw [hk] at ho
  simp only at ho
  unfold clsAt
  rw [if_pos (show (0 : Int) ≤ (i : Int) by omega)]
  simp only [Int.toNat_natCast, hk]
  rw [if_pos ho]
  rcases firstAt_cases (fun c : DClsClass => sameN c.fName nm) k.fOwns with ⟨h1, _⟩ | ⟨j, c, h1, h2, h3, _⟩
  · unfold ownAt at ho; rw [h1] at ho; omega
  · refine ⟨c, ?_, h3⟩
    unfold ownAt
    rw [h1, Int.toNat_natCast]; exact h2
theorem whoseR_there {p : DLodPlan} (h : lodOk p = true) {i : Nat} {nm : ByteArray} (hi : i < p.fKeepers.length) (hc : (whoseR p i nm).2 = 1) : ∃ j : Nat, whoseR p i nm = (⟨(j : Int), nm⟩, 1) ∧ j < p.fKeepers.length ∧ 0 ≤ ownN p nm j := by
  unfold whoseR at hc ⊢
  by_cases h1 : (whose p i nm).1 = 1
  · rw [if_pos h1]
    obtain ⟨h2, h3, _⟩ := whoseF_own h 4 i hi h1
    exact ⟨_, rfl, h2, h3⟩
  · rw [if_neg h1] at hc; exact absurd hc h1
theorem whoseR_code (p : DLodPlan) (i : Nat) (nm : ByteArray) : (whoseR p i nm).2 = 1 ∨ ((whoseR p i nm).2 ≠ 1 ∧ (whoseR p i nm).1 = noRef) := by
  unfold whoseR
  by_cases h1 : (whose p i nm).1 = 1
  · rw [if_pos h1]; exact Or.inl rfl
  · rw [if_neg h1]; exact Or.inr ⟨h1, rfl⟩

/-- one step of the chain -/
theorem chain_end {p : DLodPlan} {r x : DLodRef} {c : DClsClass} {f : Nat} {pre : List DLodRef} (h : chainR p r = (chainF p (f + 1) x).map (pre ++ ·)) (e : clsAt p x = some c) (hs : c.fSuper.toList.isEmpty = true) : chainR p r = some (pre ++ [x]) := by
  rw [h]; simp [chainF, e, hs]
theorem chain_up {p : DLodPlan} {r x : DLodRef} {c : DClsClass} {f : Nat} {pre : List DLodRef} (h : chainR p r = (chainF p (f + 1) x).map (pre ++ ·)) (e : clsAt p x = some c) (hs : c.fSuper.toList.isEmpty = false) (hw : (whoseR p x.fKeeper.toNat c.fSuper).2 = 1) :
    chainR p r = (chainF p f (whoseR p x.fKeeper.toNat c.fSuper).1).map ((pre ++ [x]) ++ ·) := by
  rw [h]
  simp only [chainF, e, hs, hw]
  cases chainF p f (whoseR p x.fKeeper.toNat c.fSuper).1 <;> simp
theorem chain_out {p : DLodPlan} {r x : DLodRef} {c : DClsClass} {f : Nat} {pre : List DLodRef} (h : chainR p r = (chainF p (f + 1) x).map (pre ++ ·)) (e : clsAt p x = some c) (hs : c.fSuper.toList.isEmpty = false) (hw : (whoseR p x.fKeeper.toNat c.fSuper).2 ≠ 1) : chainR p r = none := by
  rw [h]; simp [chainF, e, hs, hw]
theorem chain_deep {p : DLodPlan} {r x : DLodRef} {pre : List DLodRef} (h : chainR p r = (chainF p 0 x).map (pre ++ ·)) : chainR p r = none := by
  rw [h]; simp [chainF]

/-- in a ring nobody is found -/
theorem ring_none {p : DLodPlan} {nm : ByteArray} {S : List Nat} (h : ∀ s ∈ S, 0 ≤ nxt p nm s ∧ (nxt p nm s).toNat ∈ S) : ∀ f s, s ∈ S → whoseF p nm f s = (3, 0)
  | 0, _, _ => rfl
  | f + 1, s, hs => by
    obtain ⟨h1, h2⟩ := h s hs
    unfold whoseF
    rw [if_neg (by omega)]
    exact ring_none h f _ h2
/-- what is known while one asks another: who was asked, one after the other -/
structure Asked (p : DLodPlan) (nm : ByteArray) (k : Nat) (seen : List Nat) (i : Nat) : Prop where
  ends : ∃ pre, seen = pre ++ [i]
  nodup : seen.Nodup
  inn : ∀ s ∈ seen, s < p.fKeepers.length
  goes : ∀ s ∈ seen, s = i ∨ (0 ≤ nxt p nm s ∧ (nxt p nm s).toNat ∈ seen)
  same : whose p k nm = whoseF p nm (5 - seen.length) i
theorem Asked.start {p : DLodPlan} {nm : ByteArray} {k : Nat} (hk : k < p.fKeepers.length) : Asked p nm k [k] k :=
  ⟨⟨[], rfl⟩, by simp, by simpa using hk, by simp, rfl⟩
theorem nodup_len {l : List Nat} {n : Nat} (h : l.Nodup) (hl : ∀ s ∈ l, s < n) : l.length ≤ n := by
  have : l.length ≤ (List.range n).length := List.Nodup.length_le_of_subset h fun s hs => List.mem_range.2 (hl s hs)
  simpa using this
theorem Asked.len {p : DLodPlan} {nm : ByteArray} {k i : Nat} {seen : List Nat} (h : Asked p nm k seen i) (hp : lodOk p = true) : 1 ≤ seen.length ∧ seen.length ≤ 3 := by
  have h1 := nodup_len h.nodup h.inn
  have h2 := lodOk_len hp
  obtain ⟨pre, rfl⟩ := h.ends
  simp at h1 ⊢
  omega
theorem Asked.mem {p : DLodPlan} {nm : ByteArray} {k i : Nat} {seen : List Nat} (h : Asked p nm k seen i) : i ∈ seen := by
  obtain ⟨pre, rfl⟩ := h.ends; simp
theorem Asked.step {p : DLodPlan} {nm : ByteArray} {k i : Nat} {seen : List Nat} (h : Asked p nm k seen i) (hp : lodOk p = true) (hn : 0 ≤ nxt p nm i) (hs : (nxt p nm i).toNat ∉ seen) : Asked p nm k (seen ++ [(nxt p nm i).toNat]) (nxt p nm i).toNat := by
  have hl := h.len hp
  refine ⟨⟨seen, rfl⟩, ?_, fun s hs' => ?_, fun s hs' => ?_, ?_⟩
  · rw [List.nodup_append]
    exact ⟨h.nodup, by simp, fun a ha b hb => by simp at hb; subst hb; rintro rfl; exact hs ha⟩
  · rcases List.mem_append.1 hs' with hs' | hs'
    · exact h.inn s hs'
    · simp at hs'; subst hs'
      have := nxt_lt hp nm i; omega
  · rcases List.mem_append.1 hs' with hs' | hs'
    · right
      rcases h.goes s hs' with rfl | ⟨h1, h2⟩
      · exact ⟨hn, by simp⟩
      · exact ⟨h1, List.mem_append_left _ h2⟩
    · simp at hs'; exact Or.inl hs'
  · rw [h.same]
    obtain ⟨f, hf⟩ : ∃ f, 5 - seen.length = f + 1 := ⟨4 - seen.length, by omega⟩
    have hf2 : 5 - (seen ++ [(nxt p nm i).toNat]).length = f := by simp; omega
    rw [hf, hf2]
    simp only [whoseF]
    rw [if_neg (by omega)]
theorem Asked.ring {p : DLodPlan} {nm : ByteArray} {k i : Nat} {seen : List Nat} (h : Asked p nm k seen i) (hn : 0 ≤ nxt p nm i) (hs : (nxt p nm i).toNat ∈ seen) : whose p k nm = (3, 0) := by
  rw [h.same]
  refine ring_none (S := seen) (fun s hs' => ?_) _ _ h.mem
  rcases h.goes s hs' with rfl | h1
  · exact ⟨hn, hs⟩
  · exact h1
theorem Asked.stop {p : DLodPlan} {nm : ByteArray} {k i : Nat} {seen : List Nat} (h : Asked p nm k seen i) (hp : lodOk p = true) (hn : nxt p nm i < 0) : whose p k nm = if ownN p nm i < 0 then (2, 0) else (1, i) := by
  have hl := h.len hp
  rw [h.same]
  obtain ⟨f, hf⟩ : ∃ f, 5 - seen.length = f + 1 := ⟨4 - seen.length, by omega⟩
  rw [hf]
  simp only [whoseF]
  rw [if_pos hn]

end Go.Proofs.YtmmlhnjmjmbfpaaGreat
