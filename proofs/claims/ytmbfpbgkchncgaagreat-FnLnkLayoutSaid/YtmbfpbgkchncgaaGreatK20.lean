/-
  Texts of mine, packed: LayP. No condition beside those of the single theorems.
-/
import Derived.Test.YtmbfpbgkchncgaaGreatK18
import Derived.Test.YtmbfpbgkchncgaaGreatK19
set_option linter.unusedSimpArgs false
set_option linter.unusedVariables false
set_option maxHeartbeats 16000000
set_option maxRecDepth 100000
namespace Go.Proofs.YtmbfpbgkchncgaaGreat
open Go.RowKit
structure DLnkField where
 fOf : DLodRef
 fAt : Int
 fKind : DKndKind
def ownLay (p : DLodPlan) (r : DLodRef) (n : Nat) : List DLnkField := (loOfP p r).fFields.mapIdx fun j f => ⟨r, ((n + j : Nat) : Int), f.fKind⟩
def layR (p : DLodPlan) : List DLodRef → List DLnkField
 | [] => []
 | r :: t => layR p t ++ ownLay p r (layR p t).length
def lnkLayout (p : DLodPlan) (r : DLodRef) : List DLnkField := if lnkLaid p r then layR p (lodChain p r) else []
theorem ownLay_len (p : DLodPlan) (r : DLodRef) (n : Nat) : (ownLay p r n).length = (loOfP p r).fFields.length := by simp [ownLay]
theorem ownLay_at {p : DLodPlan} {r : DLodRef} {n j : Nat} {f : DClsField} (h : (loOfP p r).fFields[j]? = some f) : (ownLay p r n)[j]? = some ⟨r, ((n + j : Nat) : Int), f.fKind⟩ := by simp [ownLay, List.getElem?_mapIdx, h]

theorem lnkLaid_parts {p : DLodPlan} {r : DLodRef} (h : lnkLaid p r = true) : lodChain p r ≠ [] ∧ laidL p (lodChain p r) = true := by
 unfold lnkLaid at h
 simp only [Bool.and_eq_true, Bool.not_eq_true'] at h
 exact ⟨fun e => by rw [e] at h; simp at h, h.2⟩
theorem laidL_pair {p : DLodPlan} {rs : List DLodRef} (h : laidL p rs = true) {i j : Nat} {a b : DLodRef} (hi : rs[i]? = some a) (hj : rs[j]? = some b) (hij : i < j) : pairOk p a b = true := by
 have h1 := each_iff.1 h i a hi
 unfold laidAt at h1
 have h2 := each_iff.1 h1 (j - i) b (by rw [List.getElem?_drop, show i + (j - i) = j by omega]; exact hj)
 unfold overL at h2
 rwa [if_neg (by omega)] at h2
theorem laidL_drop {p : DLodPlan} {rs : List DLodRef} (h : laidL p rs = true) (k : Nat) : laidL p (rs.drop k) = true := each_iff.2 fun i a hi => by
 rw [List.getElem?_drop] at hi
 have h1 := each_iff.1 h (k + i) a hi
 unfold laidAt at h1 ⊢
 rw [List.drop_drop]
 exact h1
theorem laid_above {p : DLodPlan} {r : DLodRef} (hn : r.fName.size ≤ maxLen) (h : lnkLaid p r = true) {k : Nat} {x : DLodRef} (hx : (lodChain p r)[k]? = some x) : lnkLaid p x = true ∧ lodChain p x = (lodChain p r).drop k := by
 obtain ⟨_, _, h1⟩ := plain_tail hn hx
 refine ⟨?_, h1⟩
 have hl := (List.getElem?_eq_some_iff.1 hx).1
 unfold lnkLaid
 rw [h1, laidL_drop (lnkLaid_parts h).2 k]
 cases e : (lodChain p r).drop k with
 | nil => have := congrArg List.length e; simp at this; omega
 | cons _ _ => rfl
theorem chain_cls {p : DLodPlan} {r : DLodRef} (hn : r.fName.size ≤ maxLen) {x : DLodRef} (hx : x ∈ lodChain p r) : ∃ c, clsAt p x = some c ∧ loOfP p x = c ∧ clsOk c = true ∧ lodOk p = true := by
 obtain ⟨k, hk⟩ := List.mem_iff_getElem?.1 hx
 have hne : lodChain p r ≠ [] := by intro e; rw [e] at hk; simp at hk
 obtain ⟨hp, hr, _⟩ := plain_chain hn hne
 have ht := chainF_tail (show chainF p 6 r = some _ from hr) k x hk
 obtain ⟨c, hc, _⟩ := chainF_succ ht
 exact ⟨c, hc, (loOf_some hc).1, clsAt_clsOk hp hc, hp⟩

def namesOf (p : DLodPlan) (x : DLodRef) : List ByteArray := (loOfP p x).fFields.map (·.fName)
def namesTo (p : DLodPlan) (rs : List DLodRef) : List ByteArray := rs.flatMap (namesOf p)
theorem fieldAt_none {xs : List DClsField} {nm : ByteArray} (h : fieldAt xs nm < 0) : ∀ f ∈ xs, f.fName ≠ nm := fun f hf e => by
 rcases firstAt_cases (fun g : DClsField => sameN g.fName nm) xs with ⟨_, h2⟩ | ⟨k, _, h1, _⟩
 ·obtain ⟨j, hj⟩ := List.mem_iff_getElem?.1 hf
  have := h2 j f hj
  rw [sameN_iff.2 e] at this
  cases this
 ·unfold fieldAt at h
  omega
theorem cls_names {c : DClsClass} (h : clsOk c = true) : (c.fFields.map (·.fName)).Pairwise (· ≠ ·) := by
 unfold clsOk at h
 simp only [Bool.and_eq_true] at h
 have h1 := h.1.2
 rw [List.pairwise_iff_getElem]
 intro i j hi hj hij
 simp only [List.length_map] at hi hj
 have h2 := each_iff.1 h1 j c.fFields[j] (List.getElem?_eq_getElem hj)
 unfold fieldIn at h2
 simp only [Bool.and_eq_true, decide_eq_true_eq] at h2
 have h3 := fieldAt_none h2.2 c.fFields[i] (List.mem_iff_getElem?.2 ⟨i, by rw [List.getElem?_take, if_pos hij]; exact List.getElem?_eq_getElem hi⟩)
 simpa using h3
theorem plain_names {p : DLodPlan} {r : DLodRef} (hn : r.fName.size ≤ maxLen) (h : lnkLaid p r = true) : (namesTo p (lodChain p r)).Pairwise (· ≠ ·) := by
 unfold namesTo
 rw [List.pairwise_flatMap]
 refine ⟨fun x hx => ?_, ?_⟩
 ·obtain ⟨c, _, hl, hc, _⟩ := chain_cls hn hx
  unfold namesOf
  rw [hl]
  exact cls_names hc
 ·rw [List.pairwise_iff_getElem]
  intro i j hi hj hij a ha b hb
  have ei := List.getElem?_eq_getElem hi
  have ej := List.getElem?_eq_getElem hj
  have hp := laidL_pair (lnkLaid_parts h).2 ei ej hij
  obtain ⟨c, hc, hlc, _, _⟩ := chain_cls hn (List.mem_of_getElem? ei)
  obtain ⟨u, hu, hlu, _, _⟩ := chain_cls hn (List.mem_of_getElem? ej)
  unfold pairOk at hp
  rw [hc, hu] at hp
  simp only [pairFits, Bool.and_eq_true] at hp
  unfold namesOf at ha hb
  rw [hlc] at ha
  rw [hlu] at hb
  obtain ⟨f, hf, rfl⟩ := List.mem_map.1 ha
  obtain ⟨g, hg, rfl⟩ := List.mem_map.1 hb
  obtain ⟨k, hk⟩ := List.mem_iff_getElem?.1 hf
  have h1 := each_iff.1 hp.2 k f hk
  unfold fieldFits at h1
  rw [decide_eq_true_eq] at h1
  exact fun e => fieldAt_none h1 g hg e.symm
theorem names_next {p : DLodPlan} {r : DLodRef} (hn : r.fName.size ≤ maxLen) (h : lnkLaid p r = true) {k j : Nat} {x : DLodRef} {f : DClsField} (hx : (lodChain p r)[k]? = some x) (hf : (loOfP p x).fFields[j]? = some f) :
  ∀ nm ∈ namesTo p ((lodChain p r).take k) ++ (namesOf p x).take j, nm ≠ f.fName := by
 have h1 := plain_names hn h
 have e1 : lodChain p r = (lodChain p r).take k ++ x :: (lodChain p r).drop (k + 1) := by
  have hl := (List.getElem?_eq_some_iff.1 hx).1
  have e := (List.getElem?_eq_some_iff.1 hx).2
  rw [← e, List.getElem_cons_drop, List.take_append_drop]
 have e2 : namesOf p x = (namesOf p x).take j ++ f.fName :: (namesOf p x).drop (j + 1) := by
  have hl : j < (namesOf p x).length := by unfold namesOf; rw [List.length_map]; exact (List.getElem?_eq_some_iff.1 hf).1
  have e : (namesOf p x)[j] = f.fName := by
   have : (namesOf p x)[j]? = some f.fName := by unfold namesOf; rw [List.getElem?_map, hf]; rfl
   rw [List.getElem?_eq_getElem hl] at this
   exact Option.some.inj this
  rw [← e, List.getElem_cons_drop, List.take_append_drop]
 have e3 : namesTo p (lodChain p r) = (namesTo p ((lodChain p r).take k) ++ (namesOf p x).take j) ++ (f.fName :: (namesOf p x).drop (j + 1) ++ namesTo p ((lodChain p r).drop (k + 1))) := by
  conv => lhs; rw [e1]
  unfold namesTo
  rw [List.flatMap_append, List.flatMap_cons]
  conv => lhs; rw [e2]
  simp only [List.append_assoc, List.cons_append]
 rw [e3, List.pairwise_append] at h1
 exact fun nm hnm => h1.2.2 nm hnm f.fName (by simp)
theorem names_len {p : DLodPlan} : ∀ (rs : List DLodRef), (namesTo p rs).length = (layR p rs).length
 | [] => rfl
 | r :: t => by
   have := names_len (p := p) t
   unfold layR
   rw [List.length_append, ownLay_len, ← this]
   unfold namesTo
   rw [List.flatMap_cons, List.length_append]
   unfold namesOf
   rw [List.length_map]
   omega
theorem namesTo_succ {p : DLodPlan} {rs : List DLodRef} {k : Nat} {x : DLodRef} (h : rs[k]? = some x) : namesTo p (rs.take (k + 1)) = namesTo p (rs.take k) ++ namesOf p x := by
 have hl := (List.getElem?_eq_some_iff.1 h).1
 rw [List.take_add_one, h]
 unfold namesTo
 rw [List.flatMap_append]
 simp

theorem plain_layout {p : DLodPlan} {r : DLodRef} (hn : r.fName.size ≤ maxLen) (h : lnkLaid p r = true) :
  ∃ up : List DLnkField, lnkLayout p r = up ++ ownLay p r up.length ∧ ((lodChain p r).length ≤ 1 → up = []) ∧ ∀ x, (lodChain p r)[1]? = some x → lnkLaid p x = true ∧ lnkLayout p x = up := by
 have hne := (lnkLaid_parts h).1
 obtain ⟨_, hr, _⟩ := plain_chain hn hne
 obtain ⟨t, ht⟩ := chainF_head hr
 refine ⟨layR p t, ?_, fun hl => ?_, fun x hx => ?_⟩
 ·unfold lnkLayout
  rw [if_pos h, ht]
  rfl
 ·rw [ht] at hl
  simp at hl
  rw [hl]
  rfl
 ·obtain ⟨h1, h2⟩ := laid_above hn h hx
  refine ⟨h1, ?_⟩
  unfold lnkLayout
  rw [if_pos h1, h2, ht]
  rfl

end Go.Proofs.YtmbfpbgkchncgaaGreat
