/-
  Texts of mine, packed: LayP. No condition beside those of the single theorems.
-/
import Derived.Test.YtmbfpbgkchncgaaGreatK18
import Derived.Test.YtmbfpbgkchncgaaGreatK19
set_option linter.unusedSimpArgs false
set_option linter.unusedVariables false
set_option maxHeartbeats 16000000
set_option maxRecDepth 100000
namespace Go.Proofs.YtmbfpbgkchncgaaGreat
open Go.RowKit
structure DLnkField where
 fOf : DLodRef
 fAt : Int
 fKind : DKndKind
theorem lnkLaid_parts {p : DLodPlan} {r : DLodRef} (h : lnkLaid p r = true) : lodChain p r ≠ [] ∧ laidL p (lodChain p r) = true := by
 unfold lnkLaid at h
 simp only [Bool.and_eq_true, Bool.not_eq_true'] at h
 exact ⟨fun e => by rw [e] at h; simp at h, h.2⟩
theorem laidL_pair {p : DLodPlan} {rs : List DLodRef} (h : laidL p rs = true) {i j : Nat} {a b : DLodRef} (hi : rs[i]? = some a) (hj : rs[j]? = some b) (hij : i < j) : pairOk p a b = true := by
 have h1 := each_iff.1 h i a hi
 unfold laidAt at h1
 have h2 := each_iff.1 h1 (j - i) b (by rw [List.getElem?_drop, show i + (j - i) = j by omega]; exact hj)
 unfold overL at h2
 rwa [if_neg (by omega)] at h2
theorem laidL_drop {p : DLodPlan} {rs : List DLodRef} (h : laidL p rs = true) (k : Nat) : laidL p (rs.drop k) = true := each_iff.2 fun i a hi => by
 rw [List.getElem?_drop] at hi
 have h1 := each_iff.1 h (k + i) a hi
 unfold laidAt at h1 ⊢
 rw [List.drop_drop]
 exact h1
theorem laid_above {p : DLodPlan} {r : DLodRef} (hn : r.fName.size ≤ maxLen) (h : lnkLaid p r = true) {k : Nat} {x : DLodRef} (hx : (lodChain p r)[k]? = some x) : lnkLaid p x = true ∧ lodChain p x = (lodChain p r).drop k := by
 obtain ⟨_, _, h1⟩ := plain_tail hn hx
 refine ⟨?_, h1⟩
 have hl := (List.getElem?_eq_some_iff.1 hx).1
 unfold lnkLaid
 rw [h1, laidL_drop (lnkLaid_parts h).2 k]
 cases e : (lodChain p r).drop k with
 | nil => have := congrArg List.length e; simp at this; omega
 | cons _ _ => rfl
theorem chain_cls {p : DLodPlan} {r : DLodRef} (hn : r.fName.size ≤ maxLen) {x : DLodRef} (hx : x ∈ lodChain p r) : ∃ c, clsAt p x = some c ∧ loOfP p x = c ∧ clsOk c = true ∧ lodOk p = true := by
 obtain ⟨k, hk⟩ := List.mem_iff_getElem?.1 hx
 have hne : lodChain p r ≠ [] := by intro e; rw [e] at hk; simp at hk
 obtain ⟨hp, hr, _⟩ := plain_chain hn hne
 have ht := chainF_tail (show chainF p 6 r = some _ from hr) k x hk
 obtain ⟨c, hc, _⟩ := chainF_succ ht
 exact ⟨c, hc, (loOf_some hc).1, clsAt_clsOk hp hc, hp⟩

def hasM (p : DLodPlan) (nm : ByteArray) (x : DLodRef) : Bool := decide (0 ≤ methodAt (loOfP p x).fMethods nm)
def whichL (p : DLodPlan) (nm : ByteArray) : List DLodRef → DLodRef × Int × Bool
 | [] => (noRef, 0, false)
 | r :: t => if hasM p nm r then (r, methodAt (loOfP p r).fMethods nm, true) else whichL p nm t
def lnkPick (p : DLodPlan) (r : DLodRef) (nm : ByteArray) : DLodRef × Int × Bool := if lnkLaid p r && namOk nm then whichL p nm (lodChain p r) else (noRef, 0, false)
theorem whichL_none {p : DLodPlan} {nm : ByteArray} : ∀ {rs : List DLodRef}, (∀ x ∈ rs, hasM p nm x = false) → whichL p nm rs = (noRef, 0, false)
 | [], _ => rfl
 | r :: t, h => by
   unfold whichL
   rw [h r (by simp)]
   exact whichL_none fun x hx => h x (by simp [hx])
theorem whichL_hit {p : DLodPlan} {nm : ByteArray} : ∀ {rs : List DLodRef} {k : Nat} {x : DLodRef}, (∀ j y, j < k → rs[j]? = some y → hasM p nm y = false) → rs[k]? = some x → hasM p nm x = true → whichL p nm rs = (x, methodAt (loOfP p x).fMethods nm, true)
 | [], k, x, _, e, _ => by simp at e
 | y :: r, 0, x, _, e, hx => by
   simp at e; subst e; unfold whichL; rw [if_pos hx]
 | y :: r, k + 1, x, h, e, hx => by
   have h0 : hasM p nm y = false := h 0 y (by omega) rfl
   unfold whichL
   rw [if_neg (by rw [h0]; decide)]
   exact whichL_hit (k := k) (fun j z hj hz => h (j + 1) z (by omega) (by simpa using hz)) (by simpa using e) hx
theorem whichL_cases (p : DLodPlan) (nm : ByteArray) : ∀ (rs : List DLodRef), (whichL p nm rs = (noRef, 0, false) ∧ ∀ x ∈ rs, hasM p nm x = false) ∨ ∃ (k : Nat) (x : DLodRef), rs[k]? = some x ∧ whichL p nm rs = (x, methodAt (loOfP p x).fMethods nm, true) ∧ hasM p nm x = true ∧ ∀ j y, j < k → rs[j]? = some y → hasM p nm y = false
 | [] => Or.inl ⟨rfl, fun x h => by simp at h⟩
 | r :: t => by
   by_cases h : hasM p nm r = true
   ·exact Or.inr ⟨0, r, rfl, by unfold whichL; rw [if_pos h], h, fun j y hj => absurd hj (by omega)⟩
   ·have h0 : hasM p nm r = false := by simpa using h
    rcases whichL_cases p nm t with ⟨h1, h2⟩ | ⟨k, x, h1, h2, h3, h4⟩
    ·refine Or.inl ⟨by unfold whichL; rw [if_neg h]; exact h1, fun x hx => ?_⟩
     rcases List.mem_cons.1 hx with rfl | hx
     ·exact h0
     ·exact h2 x hx
    ·refine Or.inr ⟨k + 1, x, by simpa using h1, by unfold whichL; rw [if_neg h]; exact h2, h3, fun j y hj hy => ?_⟩
     cases j with
     | zero => simp at hy; subst hy; exact h0
     | succ j => exact h4 j y (by omega) (by simpa using hy)
theorem methodAt_row' {xs : List DClsMethod} {nm : ByteArray} (h : 0 ≤ methodAt xs nm) : ∃ (n : Nat) (m : DClsMethod), methodAt xs nm = (n : Int) ∧ xs[n]? = some m ∧ m.fName = nm := by
 rcases firstAt_cases (fun f : DClsMethod => sameN f.fName nm) xs with ⟨h1, _⟩ | ⟨k, x, h1, h2, h3, _⟩
 ·unfold methodAt at h
  omega
 ·exact ⟨k, x, h1, h2, sameN_iff.1 h3⟩
theorem cls_method {c : DClsClass} (h : clsOk c = true) {m : DClsMethod} (hm : m ∈ c.fMethods) : mthOk m = true := by
 obtain ⟨k, hk⟩ := List.mem_iff_getElem?.1 hm
 unfold clsOk at h
 simp only [Bool.and_eq_true] at h
 have h2 := each_iff.1 h.2 k m hk
 unfold methodIn at h2
 simp only [Bool.and_eq_true] at h2
 exact h2.1
theorem mth_name {m : DClsMethod} (h : mthOk m = true) : namOk m.fName = true := by
 unfold mthOk at h
 simp only [Bool.and_eq_true] at h
 exact h.1.1.1.1.1.1.1.1.1
theorem hasM_name {p : DLodPlan} {r : DLodRef} (hn : r.fName.size ≤ maxLen) {nm : ByteArray} (hm : namOk nm = false) : ∀ x ∈ lodChain p r, hasM p nm x = false := fun x hx => by
 cases e : hasM p nm x
 ·rfl
 ·exfalso
  unfold hasM at e
  rw [decide_eq_true_eq] at e
  obtain ⟨n, m, _, h2, h3⟩ := methodAt_row' e
  obtain ⟨c, _, hl, hc, _⟩ := chain_cls hn hx
  rw [hl] at h2
  have := mth_name (cls_method hc (List.mem_of_getElem? h2))
  rw [h3, hm] at this
  cases this
theorem lnkPick_any {p : DLodPlan} {r : DLodRef} (hn : r.fName.size ≤ maxLen) (nm : ByteArray) (h : lnkLaid p r = true) : lnkPick p r nm = whichL p nm (lodChain p r) := by
 unfold lnkPick
 rw [h]
 cases e : namOk nm
 ·exact (whichL_none (hasM_name hn e)).symm
 ·rfl
theorem kinds_ok {m : DClsMethod} (h : mthOk m = true) : kndOk m.fRet.fKind m.fRet.fName = true ∧ ∀ k ∈ m.fArgs, kndOk k.fKind k.fName = true := by
 unfold mthOk at h
 simp only [Bool.and_eq_true] at h
 refine ⟨h.1.1.1.1.1.1.1.2, fun k hk => ?_⟩
 obtain ⟨j, hj⟩ := List.mem_iff_getElem?.1 hk
 exact each_iff.1 h.1.1.1.1.1.1.2 j k hj
theorem sameSig_iff {m n : DClsMethod} (h : sameSig m n = true) : m.fRet = n.fRet ∧ m.fArgs = n.fArgs := by
 unfold sameSig at h
 simp only [Bool.and_eq_true] at h
 refine ⟨kndEq_iff.1 h.1, ?_⟩
 have h2 := h.2
 unfold sameArgs at h2
 simp only [Bool.and_eq_true, decide_eq_true_eq] at h2
 refine List.ext_getElem? fun i => ?_
 by_cases hi : i < m.fArgs.length
 ·have e1 := List.getElem?_eq_getElem hi
  have e2 : n.fArgs[i]? = some n.fArgs[i] := List.getElem?_eq_getElem (by omega)
  have h3 := each_iff.1 h2.2 i _ e1
  unfold argAt at h3
  rw [e2] at h3
  rw [e1, e2, kndEq_iff.1 h3]
 ·rw [List.getElem?_eq_none (by omega), List.getElem?_eq_none (by omega)]
theorem plain_pick {p : DLodPlan} {r : DLodRef} (hn : r.fName.size ≤ maxLen) {nm : ByteArray} (h : lnkLaid p r = true) (hm : namOk nm = true) {k : Nat} {x : DLodRef} (hx : (lodChain p r)[k]? = some x) {b : DLodRef} {bt : Int} (hu : lnkPick p x nm = (b, bt, true)) :
  ∃ (a : DLodRef) (s t : Nat) (m n : DClsMethod), lnkPick p r nm = (a, (s : Int), true) ∧ bt = (t : Int) ∧ (loOfP p a).fMethods[s]? = some m ∧ (loOfP p b).fMethods[t]? = some n ∧ m.fArgs = n.fArgs ∧ m.fRet = n.fRet ∧
   lnkAgree p a.fKeeper b.fKeeper m.fRet = true ∧ ∀ kd ∈ m.fArgs, lnkAgree p a.fKeeper b.fKeeper kd = true := by
 obtain ⟨hxl, hxc⟩ := laid_above hn h hx
 have hxn := (plain_tail hn hx).1
 rw [lnkPick_any hxn nm hxl, hxc] at hu
 rw [lnkPick_any hn nm h]
 obtain ⟨q, hq, hb, hbt⟩ : ∃ q, (lodChain p r)[k + q]? = some b ∧ hasM p nm b = true ∧ bt = methodAt (loOfP p b).fMethods nm := by
  rcases whichL_cases p nm ((lodChain p r).drop k) with ⟨h1, _⟩ | ⟨q, y, h1, h2, h3, _⟩
  ·rw [h1] at hu; simp at hu
  ·rw [h2] at hu
   simp only [Prod.mk.injEq] at hu
   obtain ⟨rfl, rfl, _⟩ := hu
   rw [List.getElem?_drop] at h1
   exact ⟨q, h1, h3, rfl⟩
 obtain ⟨s, a, hs, ha, has, hle⟩ : ∃ s a, (lodChain p r)[s]? = some a ∧ hasM p nm a = true ∧ whichL p nm (lodChain p r) = (a, methodAt (loOfP p a).fMethods nm, true) ∧ s ≤ k + q := by
  rcases whichL_cases p nm (lodChain p r) with ⟨_, h2⟩ | ⟨s, a, h1, h2, h3, h4⟩
  ·have := h2 b (List.mem_of_getElem? hq)
   rw [hb] at this; cases this
  ·refine ⟨s, a, h1, h3, h2, ?_⟩
   rcases Nat.lt_or_ge (k + q) s with hlt | hge
   ·have := h4 _ _ hlt hq
    rw [hb] at this; cases this
   ·exact hge
 unfold hasM at ha hb
 rw [decide_eq_true_eq] at ha hb
 obtain ⟨i, m, hi, him, hin⟩ := methodAt_row' ha
 obtain ⟨j, n, hj, hjm, hjn⟩ := methodAt_row' hb
 obtain ⟨c, hc, hlc, hcok, hp⟩ := chain_cls hn (List.mem_of_getElem? hs)
 obtain ⟨u, hu2, hlu, huok, _⟩ := chain_cls hn (List.mem_of_getElem? hq)
 have hmok := cls_method hcok (List.mem_of_getElem? (by rw [hlc] at him; exact him))
 obtain ⟨ka, hka, hkal⟩ := clsAt_in hc
 obtain ⟨kb, hkb, hkbl⟩ := clsAt_in hu2
 have hina : inPlan p a.fKeeper = true := by unfold inPlan; simp; omega
 have hinb : inPlan p b.fKeeper = true := by unfold inPlan; simp; omega
 have hkr := (kinds_ok hmok).1
 have hka2 := (kinds_ok hmok).2
 refine ⟨a, i, j, m, n, by rw [has, hi], by rw [hbt, hj], him, hjm, ?_⟩
 by_cases he : s = k + q
 ·subst he
  obtain rfl : a = b := Option.some.inj (hs.symm.trans hq)
  obtain rfl : i = j := by omega
  obtain rfl : m = n := Option.some.inj (him.symm.trans hjm)
  exact ⟨rfl, rfl, lnkAgree_self hp hina hkr, fun kd hkd => lnkAgree_self hp hina (hka2 kd hkd)⟩
 ·have hpo := laidL_pair (lnkLaid_parts h).2 hs hq (by omega)
  unfold pairOk at hpo
  rw [hc, hu2] at hpo
  simp only [pairFits, Bool.and_eq_true] at hpo
  rw [hlc] at him
  rw [hlu] at hjm hj
  have h1 := each_iff.1 hpo.1 i m him
  unfold methodFits at h1
  rw [hin, hj, if_neg (by omega), Int.toNat_natCast, hjm] at h1
  simp only [Bool.and_eq_true] at h1
  obtain ⟨e1, e2⟩ := sameSig_iff h1.1
  have h2 := h1.2
  unfold shapeP at h2
  simp only [Bool.and_eq_true] at h2
  refine ⟨e2, e1, ?_, fun kd hkd => ?_⟩
  ·unfold lnkAgree
   rw [hp, hina, hinb, hkr, h2.2]; rfl
  ·obtain ⟨z, hz⟩ := List.mem_iff_getElem?.1 hkd
   unfold lnkAgree
   rw [hp, hina, hinb, hka2 kd hkd, each_iff.1 h2.1 z kd hz]; rfl
theorem plain_pick_under {p : DLodPlan} {r : DLodRef} (hn : r.fName.size ≤ maxLen) {nm : ByteArray} {a : DLodRef} {s : Int} (hu : lnkPick p r nm = (a, s, true)) : lodUnder p r a = true := by
 unfold lnkPick at hu
 split at hu
 ·rcases whichL_cases p nm (lodChain p r) with ⟨h1, _⟩ | ⟨q, y, h1, h2, h3, _⟩
  ·rw [h1] at hu; simp at hu
  ·rw [h2] at hu
   simp only [Prod.mk.injEq] at hu
   obtain ⟨rfl, _, _⟩ := hu
   exact any_ref.2 (List.mem_of_getElem? h1)
 ·simp at hu

end Go.Proofs.YtmbfpbgkchncgaaGreat
