

/-
  Regions that draw their order, whose operations make memory, call and append, and end in a few that wait for all others: one walk of the text's order serves every order, if what each operation gives is told by a fact that what the others do leaves alone. No condition.
-/
import Derived.Test.YtmmlhnjmjmbfpaaGreatReg
import Derived.StillTail
namespace Go.Proofs.YtmmlhnjmjmbfpaaGreat
set_option linter.unusedSimpArgs false
set_option linter.unusedVariables false
open Go.RowKit

section
variable {P : Program} {ops : Array Oper} {C : World → Prop} {G : Nat → World → World → Prop} {F : (Nat → Value) → Nat → Value → World → Prop} {I : Nat → World → Prop} {dead : Nat → Nat → Bool}

/-- the values so far, by their places -/
def getv (vs : List Value) : Nat → Value := fun j => vs.getD j undef
def NoQ : Exit → Act → World → Prop := fun _ _ _ => False
/-- what lies in a target; nothing, where there is none -/
def valD (d : Option Tmp) (a : Act) : Value := match d with | some t => a.eval (.tmp t) | none => undef

/-- the walk of the head: what each operation gives, in every world of the class in which what it waits for is as told -/
def wpRely (P : Program) (ops : Array Oper) (C : World → Prop) (G : Nat → World → World → Prop) (F : (Nat → Value) → Nat → Value → World → Prop) (Fin : Act → World → Prop) : List Oper → List Value → Act → Prop
  | [], vs, a => ∀ w, C w → (∀ i u, vs[i]? = some u → F (getv vs) i u w) → Fin a w
  | o :: r, vs, a =>
    (∀ w, C w → (∀ e ∈ o.after.toList, Region.binds .any e = true → ∀ u, vs[e.on]? = some u → F (getv vs) e.on u w) →
      ∀ S : Value → World → Prop, (∀ v w', C w' → G vs.length w w' → F (getv vs) vs.length v w' → S v w') →
        if Region.wanted o (yielded ops a.tmps) then o.wp P a w (fun a' w' => a'.defers = a.defers ∧ S (valD o.dst a') w') NoQ else S undef w) ∧
    ∀ v, wpRely P ops C G F Fin r (vs ++ [v]) (a.put o.dst v)

/-- .. with a fact that holds till the operation comes (I), and facts that nobody asks for any more once another operation is done (dead) -/
def wpRelyE (P : Program) (ops : Array Oper) (C : World → Prop) (G : Nat → World → World → Prop) (F : (Nat → Value) → Nat → Value → World → Prop) (I : Nat → World → Prop) (dead : Nat → Nat → Bool) (Fin : Act → World → Prop) : List Oper → List Value → Act → Prop
  | [], vs, a => ∀ w, C w → (∀ i u, vs[i]? = some u → (∀ j, j < vs.length → dead i j = false) → F (getv vs) i u w) → Fin a w
  | o :: r, vs, a =>
    (∀ w, C w → I vs.length w → (∀ e ∈ o.after.toList, Region.binds .any e = true → ∀ u, vs[e.on]? = some u → F (getv vs) e.on u w) →
      ∀ S : Value → World → Prop, (∀ v w', C w' → G vs.length w w' → F (getv vs) vs.length v w' → S v w') →
        if Region.wanted o (yielded ops a.tmps) then o.wp P a w (fun a' w' => a'.defers = a.defers ∧ S (valD o.dst a') w') NoQ else S undef w) ∧
    ∀ v, wpRelyE P ops C G F I dead Fin r (vs ++ [v]) (a.put o.dst v)
theorem wpRely_toE {Fin : Act → World → Prop} : ∀ {l : List Oper} {vs : List Value} {a : Act}, wpRely P ops C G F Fin l vs a → wpRelyE P ops C G F (fun _ _ => True) (fun _ _ => false) Fin l vs a
  | [], _, _, h => fun w hC hF => h w hC fun i u hu => hF i u hu fun _ _ => rfl
  | _ :: _, _, _, h => ⟨fun w hC _ => h.1 w hC, fun v => wpRely_toE (h.2 v)⟩
theorem wanted_plain {ops : Array Oper} {o : Oper} {tmps : Array Value} (h : o.guard = none) : Region.wanted o (yielded ops tmps) = true := by simp [Region.wanted, h]

/-- an operation that is not guarded and has a target -/
theorem wpRely_cons2 {Fin : Act → World → Prop} {o : Oper} {r : List Oper} {vs : List Value} {a : Act} {d : Nat} (hd : o.dst = some d) (hg : o.guard = none)
    (h1 : ∀ w, C w → (∀ e ∈ o.after.toList, Region.binds .any e = true → ∀ u, vs[e.on]? = some u → F (getv vs) e.on u w) →
      ∀ S : Value → World → Prop, (∀ v w', C w' → G vs.length w w' → F (getv vs) vs.length v w' → S v w') → o.wp P a w (fun a' w' => a'.defers = a.defers ∧ S (a'.eval (.tmp d)) w') NoQ)
    (h2 : ∀ v, wpRely P ops C G F Fin r (vs ++ [v]) (a.put (some d) v)) : wpRely P ops C G F Fin (o :: r) vs a := by
  refine ⟨fun w hC hf S hS => ?_, fun v => by rw [hd]; exact h2 v⟩
  rw [if_pos (wanted_plain hg), hd]
  exact h1 w hC hf S hS
/-- .. and one that has none -/
theorem wpRely_cons0 {Fin : Act → World → Prop} {o : Oper} {r : List Oper} {vs : List Value} {a : Act} (hd : o.dst = none) (hg : o.guard = none)
    (h1 : ∀ w, C w → (∀ e ∈ o.after.toList, Region.binds .any e = true → ∀ u, vs[e.on]? = some u → F (getv vs) e.on u w) →
      ∀ S : Value → World → Prop, (∀ v w', C w' → G vs.length w w' → F (getv vs) vs.length v w' → S v w') → o.wp P a w (fun a' w' => a'.defers = a.defers ∧ S undef w') NoQ)
    (h2 : ∀ v, wpRely P ops C G F Fin r (vs ++ [v]) a) : wpRely P ops C G F Fin (o :: r) vs a := by
  refine ⟨fun w hC hf S hS => ?_, fun v => by rw [hd]; exact h2 v⟩
  rw [if_pos (wanted_plain hg), hd]
  exact h1 w hC hf S hS
/-- .. and a guarded one, of which it is known whether it is wanted: by what it waits for, or not at all -/
theorem wpRely_consG {Fin : Act → World → Prop} {o : Oper} {r : List Oper} {vs : List Value} {a : Act} {d : Nat} (hd : o.dst = some d)
    (h1 : ∀ w, C w → (∀ e ∈ o.after.toList, Region.binds .any e = true → ∀ u, vs[e.on]? = some u → F (getv vs) e.on u w) →
      ∀ S : Value → World → Prop, (∀ v w', C w' → G vs.length w w' → F (getv vs) vs.length v w' → S v w') →
        (Region.wanted o (yielded ops a.tmps) = true ∧ o.wp P a w (fun a' w' => a'.defers = a.defers ∧ S (a'.eval (.tmp d)) w') NoQ) ∨ (Region.wanted o (yielded ops a.tmps) = false ∧ S undef w))
    (h2 : ∀ v, wpRely P ops C G F Fin r (vs ++ [v]) (a.put (some d) v)) : wpRely P ops C G F Fin (o :: r) vs a := by
  refine ⟨fun w hC hf S hS => ?_, fun v => by rw [hd]; exact h2 v⟩
  rcases h1 w hC hf S hS with ⟨h, h3⟩ | ⟨h, h3⟩
  · rw [if_pos h, hd]; exact h3
  · rw [if_neg (by rw [h]; decide)]; exact h3

/-! .. the same three, with what holds till then -/
theorem wpRelyE_cons2 {Fin : Act → World → Prop} {o : Oper} {r : List Oper} {vs : List Value} {a : Act} {d : Nat} (hd : o.dst = some d) (hg : o.guard = none)
    (h1 : ∀ w, C w → I vs.length w → (∀ e ∈ o.after.toList, Region.binds .any e = true → ∀ u, vs[e.on]? = some u → F (getv vs) e.on u w) →
      ∀ S : Value → World → Prop, (∀ v w', C w' → G vs.length w w' → F (getv vs) vs.length v w' → S v w') → o.wp P a w (fun a' w' => a'.defers = a.defers ∧ S (a'.eval (.tmp d)) w') NoQ)
    (h2 : ∀ v, wpRelyE P ops C G F I dead Fin r (vs ++ [v]) (a.put (some d) v)) : wpRelyE P ops C G F I dead Fin (o :: r) vs a := by
  refine ⟨fun w hC hI hf S hS => ?_, fun v => by rw [hd]; exact h2 v⟩
  rw [if_pos (wanted_plain hg), hd]
  exact h1 w hC hI hf S hS
theorem wpRelyE_cons0 {Fin : Act → World → Prop} {o : Oper} {r : List Oper} {vs : List Value} {a : Act} (hd : o.dst = none) (hg : o.guard = none)
    (h1 : ∀ w, C w → I vs.length w → (∀ e ∈ o.after.toList, Region.binds .any e = true → ∀ u, vs[e.on]? = some u → F (getv vs) e.on u w) →
      ∀ S : Value → World → Prop, (∀ v w', C w' → G vs.length w w' → F (getv vs) vs.length v w' → S v w') → o.wp P a w (fun a' w' => a'.defers = a.defers ∧ S undef w') NoQ)
    (h2 : ∀ v, wpRelyE P ops C G F I dead Fin r (vs ++ [v]) a) : wpRelyE P ops C G F I dead Fin (o :: r) vs a := by
  refine ⟨fun w hC hI hf S hS => ?_, fun v => by rw [hd]; exact h2 v⟩
  rw [if_pos (wanted_plain hg), hd]
  exact h1 w hC hI hf S hS
theorem wpRelyE_consG {Fin : Act → World → Prop} {o : Oper} {r : List Oper} {vs : List Value} {a : Act} {d : Nat} (hd : o.dst = some d)
    (h1 : ∀ w, C w → I vs.length w → (∀ e ∈ o.after.toList, Region.binds .any e = true → ∀ u, vs[e.on]? = some u → F (getv vs) e.on u w) →
      ∀ S : Value → World → Prop, (∀ v w', C w' → G vs.length w w' → F (getv vs) vs.length v w' → S v w') →
        (Region.wanted o (yielded ops a.tmps) = true ∧ o.wp P a w (fun a' w' => a'.defers = a.defers ∧ S (a'.eval (.tmp d)) w') NoQ) ∨ (Region.wanted o (yielded ops a.tmps) = false ∧ S undef w))
    (h2 : ∀ v, wpRelyE P ops C G F I dead Fin r (vs ++ [v]) (a.put (some d) v)) : wpRelyE P ops C G F I dead Fin (o :: r) vs a := by
  refine ⟨fun w hC hI hf S hS => ?_, fun v => by rw [hd]; exact h2 v⟩
  rcases h1 w hC hI hf S hS with ⟨h, h3⟩ | ⟨h, h3⟩
  · rw [if_pos h, hd]; exact h3
  · rw [if_neg (by rw [h]; decide)]; exact h3

def putAll : Act → List Oper → List Value → Act
  | a, o :: r, v :: vs => putAll (a.put o.dst v) r vs
  | a, _, _ => a

theorem rely_at {Fin : Act → World → Prop} : ∀ (l : List Oper) (vs us : List Value) (a : Act) (k : Nat) (o : Oper), wpRelyE P ops C G F I dead Fin l vs a → l[k]? = some o → us.length = k →
    ∀ w, C w → I (vs.length + k) w → (∀ e ∈ o.after.toList, Region.binds .any e = true → ∀ u, (vs ++ us)[e.on]? = some u → F (getv (vs ++ us)) e.on u w) →
      ∀ S : Value → World → Prop, (∀ v w', C w' → G (vs.length + k) w w' → F (getv (vs ++ us)) (vs.length + k) v w' → S v w') →
        if Region.wanted o (yielded ops (putAll a l us).tmps) then o.wp P (putAll a l us) w (fun a' w' => a'.defers = (putAll a l us).defers ∧ S (valD o.dst a') w') NoQ else S undef w
  | [], _, _, _, k, o, _, h, _ => by simp at h
  | x :: r, vs, [], a, k, o, H, h, hl => by
    have hk : k = 0 := by simpa using hl.symm
    subst hk
    simp at h; subst h
    intro w hC hI hd S hS
    exact H.1 w hC (by simpa using hI) (by simpa using hd) S (by simpa using hS)
  | x :: r, vs, u :: us, a, k, o, H, h, hl => by
    obtain ⟨k', rfl⟩ : ∃ k', k = k' + 1 := ⟨us.length, by simpa using hl.symm⟩
    intro w hC hI hd S hS
    exact rely_at r (vs ++ [u]) us (a.put x.dst u) k' o (H.2 u) (by simpa using h) (by simpa using hl) w hC (by rw [List.length_append, List.length_singleton, show vs.length + 1 + k' = vs.length + (k' + 1) by omega]; exact hI) (by simpa using hd) S (by
      intro v w' h1 h2 h3
      rw [List.length_append, List.length_singleton] at h2 h3
      rw [show vs.length + (k' + 1) = vs.length + 1 + k' by omega] at hS
      exact hS v w' h1 h2 (by simpa using h3))
theorem rely_fin {Fin : Act → World → Prop} : ∀ (l : List Oper) (vs us : List Value) (a : Act), wpRelyE P ops C G F I dead Fin l vs a → us.length = l.length →
    ∀ w, C w → (∀ i u, (vs ++ us)[i]? = some u → (∀ j, j < (vs ++ us).length → dead i j = false) → F (getv (vs ++ us)) i u w) → Fin (putAll a l us) w
  | [], vs, us, a, H, hl => by
    have : us = [] := List.eq_nil_of_length_eq_zero (by simpa using hl)
    subst this
    intro w hC hF
    exact H w hC (by simpa using hF)
  | x :: r, vs, [], a, H, hl => by simp at hl
  | x :: r, vs, u :: us, a, H, hl => by
    intro w hC hF
    exact rely_fin r (vs ++ [u]) us (a.put x.dst u) (H.2 u) (by simpa using hl) w hC (by simpa using hF)

/-! how many of the first n are unlisted -/
def unl (listed : Array Bool) : Nat → Nat
  | 0 => 0
  | n + 1 => unl listed n + (if listed.getD n true then 0 else 1)
theorem unl_set {listed : Array Bool} {i : Nat} (h : listed.getD i true = false) : ∀ n, unl (listed.setIfInBounds i true) n + (if i < n then 1 else 0) = unl listed n
  | 0 => by simp [unl]
  | n + 1 => by
    have ih := unl_set h n
    unfold unl
    by_cases hi : i = n
    · subst hi
      have h1 : (listed.setIfInBounds i true).getD i true = true := by
        by_cases hs : i < listed.size <;> simp [hs]
      rw [h1, h]
      simp at ih ⊢
      omega
    · rw [getD_set_ne true hi]
      have e : (if i < n + 1 then 1 else 0) = (if i < n then 1 else 0) := by
        by_cases hn : i < n
        · rw [if_pos hn, if_pos (by omega)]
        · rw [if_neg hn, if_neg (by omega)]
      omega
theorem unl_zero {listed : Array Bool} : ∀ {n : Nat}, unl listed n = 0 → ∀ i, i < n → listed.getD i true = true
  | 0, _, i, hi => by omega
  | n + 1, h, i, hi => by
    unfold unl at h
    by_cases hn : i = n
    · subst hn
      cases hq : listed.getD i true with
      | true => rfl
      | false => rw [hq] at h; simp at h
    · exact unl_zero (n := n) (by omega) i (by omega)
theorem unl_pos {listed : Array Bool} : ∀ {n : Nat}, 0 < unl listed n → ∃ i, i < n ∧ listed.getD i true = false ∧ ∀ j, j < i → listed.getD j true = true
  | 0, h => by simp [unl] at h
  | n + 1, h => by
    by_cases h0 : 0 < unl listed n
    · obtain ⟨i, h1, h2⟩ := unl_pos h0
      exact ⟨i, by omega, h2⟩
    · have hz := unl_zero (n := n) (listed := listed) (by omega)
      unfold unl at h
      refine ⟨n, by omega, ?_, hz⟩
      cases hq : listed.getD n true with
      | false => rfl
      | true => rw [hq] at h; simp at h; omega

/-- an operation of the head: no select, with a target of its own, if any; it waits for earlier ones alone, among them all whose target it looks at, and that on which it hangs -/
def looksB (o : Oper) (i : Nat) (t : Option Tmp) : Bool := o.op.operands.toList.all fun x => match x with | .tmp s => !(some s == t) || (o.after.toList.any fun e => e.on == i && Region.binds .any e) | _ => true
def headOpB (ops : List Oper) (n k : Nat) (o : Oper) : Bool :=
  (match o.guard with | none => true | some (g, _) => o.after.toList.any fun e => e.on == g && Region.binds .any e) && (match o.op with | .select .. => false | _ => true) &&
  (o.after.toList.all fun e => !Region.binds .any e || decide (e.on < k)) &&
  ((List.range n).all fun i => match ops[i]? with
    | none => false
    | some oi => (decide (i = k) || oi.dst.isNone || !(oi.dst == o.dst)) && looksB o i oi.dst)
def headB (ops : List Oper) (n : Nat) : Bool := (List.range n).all fun k => match ops[k]? with | none => false | some o => headOpB ops n k o
structure HeadAt (ops : List Oper) (n k : Nat) (o : Oper) : Prop where
  hang : ∀ g b, o.guard = some (g, b) → ∃ e ∈ o.after, e.on = g ∧ Region.binds .any e = true
  sel : ∀ cs b, o.op ≠ .select cs b
  back : ∀ e ∈ o.after, Region.binds .any e = true → e.on < k
  own : ∀ i oi t, i < n → ops[i]? = some oi → i ≠ k → oi.dst = some t → o.dst ≠ some t
  looks : ∀ i oi t, i < n → ops[i]? = some oi → oi.dst = some t → Operand.tmp t ∈ o.op.operands → ∃ e ∈ o.after, e.on = i ∧ Region.binds .any e = true
theorem headAt {ops : List Oper} {n k : Nat} {o : Oper} (h : headB ops n = true) (hk : k < n) (ho : ops[k]? = some o) : HeadAt ops n k o := by
  have h1 := List.all_eq_true.1 h k (List.mem_range.2 hk)
  simp only [ho] at h1
  unfold headOpB at h1
  simp only [Bool.and_eq_true] at h1
  obtain ⟨⟨⟨h1, h3⟩, h4⟩, h5⟩ := h1
  have h6 : ∀ i oi, i < n → ops[i]? = some oi → ((i = k ∨ oi.dst.isNone = true) ∨ oi.dst ≠ o.dst) ∧ looksB o i oi.dst = true := fun i oi hi hoi => by
    have := List.all_eq_true.1 h5 i (List.mem_range.2 hi)
    simp only [hoi, Bool.and_eq_true, Bool.or_eq_true, decide_eq_true_eq, Bool.not_eq_true', beq_eq_false_iff_ne] at this
    exact this
  have h7 : ∀ {p : Edge → Bool} , (o.after.toList.any p) = true → ∃ e ∈ o.after, p e = true := fun hp => by
    obtain ⟨e, he, h⟩ := List.any_eq_true.1 hp
    exact ⟨e, by simpa using he, h⟩
  refine ⟨?_, ?_, ?_, fun i oi t hi hoi hne ht => ?_, fun i oi t hi hoi ht hx => ?_⟩
  · intro g b hg
    rw [hg] at h1
    obtain ⟨e, he, h⟩ := h7 h1
    simp only [Bool.and_eq_true, beq_iff_eq] at h
    exact ⟨e, he, h⟩
  · intro cs b e
    rw [e] at h3
    cases h3
  · intro e he hb
    have := List.all_eq_true.1 h4 e (by simpa using he)
    simpa [hb] using this
  · rcases (h6 i oi hi hoi).1 with (h | h) | h
    · exact absurd h hne
    · rw [ht] at h; cases h
    · rw [ht] at h; exact fun e => h e.symm
  · have := List.all_eq_true.1 (h6 i oi hi hoi).2 _ (by simpa using hx)
    simp only [ht, beq_self_eq_true, Bool.not_true, Bool.false_or] at this
    obtain ⟨e, he, h⟩ := h7 this
    simp only [Bool.and_eq_true, beq_iff_eq] at h
    exact ⟨e, he, h⟩

theorem put_size (a : Act) (d : Option Tmp) (v : Value) : (a.put d v).tmps.size = a.tmps.size := by cases d <;> simp [Act.put]
theorem put_get (a : Act) (d : Nat) (v : Value) (t : Nat) : (a.put (some d) v).tmps[t]? = if t = d then (if t < a.tmps.size then some v else none) else a.tmps[t]? := by
  by_cases h : t = d
  · subst h
    simp [Act.put, Array.getElem?_setIfInBounds]
  · rw [if_neg h]
    simp [Act.put, Array.getElem?_setIfInBounds_ne (Ne.symm h)]
theorem put_get_ne (a : Act) (d : Option Tmp) (v : Value) (t : Nat) (h : d ≠ some t) : (a.put d v).tmps[t]? = a.tmps[t]? := by
  cases d with
  | none => rfl
  | some d => rw [put_get, if_neg (fun e => h (by rw [e]))]
theorem put_defers' (a : Act) (d : Option Tmp) (v : Value) : (a.put d v).defers = a.defers := by cases d <;> rfl
theorem putAll_size : ∀ (ls : List Oper) (us : List Value) (a : Act), (putAll a ls us).tmps.size = a.tmps.size
  | [], us, a => by cases us <;> rfl
  | o :: r, [], a => rfl
  | o :: r, u :: us, a => by rw [putAll, putAll_size r us, put_size]
theorem putAll_defers : ∀ (ls : List Oper) (us : List Value) (a : Act), (putAll a ls us).defers = a.defers
  | [], us, a => by cases us <;> rfl
  | o :: r, [], a => rfl
  | o :: r, u :: us, a => by rw [putAll, putAll_defers r us, put_defers']
theorem putAll_get (b : Act) (t : Nat) : ∀ (ls : List Oper) (a : Act),
    (putAll a ls (ls.map fun o => valD o.dst b)).tmps[t]? = if ∃ o ∈ ls, o.dst = some t then (if t < a.tmps.size then some (b.eval (.tmp t)) else none) else a.tmps[t]?
  | [], a => by simp [putAll]
  | o :: r, a => by
    rw [List.map_cons, putAll, putAll_get b t r, put_size]
    by_cases h1 : ∃ x ∈ r, x.dst = some t
    · have e : ∃ x ∈ o :: r, x.dst = some t := by obtain ⟨x, hx, e⟩ := h1; exact ⟨x, by simp [hx], e⟩
      rw [if_pos h1, if_pos e]
    · rw [if_neg h1]
      by_cases h2 : o.dst = some t
      · have e : ∃ x ∈ o :: r, x.dst = some t := ⟨o, by simp, h2⟩
        rw [if_pos e, h2, put_get, if_pos rfl]
        rfl
      · rw [put_get_ne _ _ _ _ h2, if_neg]
        rintro ⟨x, hx, e⟩
        rcases List.mem_cons.1 hx with rfl | hx
        · exact h2 e
        · exact h1 ⟨x, hx, e⟩
theorem eval_of_get {a b : Act} {t : Nat} (h : a.tmps[t]? = b.tmps[t]?) : a.eval (.tmp t) = b.eval (.tmp t) := by
  show a.tmps.getD t undef = b.tmps.getD t undef
  rw [Array.getD_eq_getD_getElem?, Array.getD_eq_getD_getElem?, h]
theorem get_eval {a : Act} {t : Nat} : a.tmps[t]? = if t < a.tmps.size then some (a.eval (.tmp t)) else none := by
  show a.tmps[t]? = if t < a.tmps.size then some (a.tmps.getD t undef) else none
  by_cases h : t < a.tmps.size
  · rw [if_pos h, Array.getD_eq_getD_getElem?, Array.getElem?_eq_getElem h]; rfl
  · rw [if_neg h, Array.getElem?_eq_none (by omega)]
theorem valD_put {a b : Act} {d : Option Tmp} {v : Value} (h : a.tmps.size = b.tmps.size) : valD d (a.put d v) = valD d (b.put d v) := by
  cases d with
  | none => rfl
  | some d => exact eval_of_get (by rw [put_get, put_get, if_pos rfl, if_pos rfl, h])

theorem letsOut_no : ¬ LetsOut NoQ := fun ⟨_, _, h⟩ => h
/-- an operation in a state that looks alike to it -/
theorem wp_turn {o : Oper} {a ac : Act} {w : World} {S : Value → World → Prop} {K : Act → World → Prop} {Q : Exit → Act → World → Prop}
    (he : execOp a.eval o = execOp ac.eval o) (hs : a.tmps.size = ac.tmps.size) (h : o.wp P ac w (fun a' w' => a'.defers = ac.defers ∧ S (valD o.dst a') w') NoQ)
    (hK : ∀ v w', S (valD o.dst (a.put o.dst v)) w' → K (a.put o.dst v) w') : o.wp P a w K Q := by
  have hev : ∀ v, valD o.dst (a.put o.dst v) = valD o.dst (ac.put o.dst v) := fun v => valD_put hs
  unfold Oper.wp at *
  rw [he]
  generalize (execOp ac.eval o).run P w = r at *
  cases r with
  | ok x w' =>
    cases x <;> simp only [Oper.upon] at h ⊢
    case value v => exact hK v w' (by rw [hev]; exact h.2)
    case skip => exact hK _ w' (by rw [hev]; exact h.2)
    case defer dd =>
      have := h.1
      rw [put_defers'] at this
      exact absurd this (by simp)
    case enter f args =>
      refine Calls.mono h fun e w'' hh => ?_
      cases e with
      | returned v => exact hK v w'' (by rw [hev]; exact hh.2)
      | panicked c => exact hh.elim
      | outgrown => exact absurd hh letsOut_no
    case row row args => exact Rows.mono h fun v w'' hh => hK v w'' (by rw [hev]; exact hh.2)
  | halt x w' =>
    cases x <;> simp only [Oper.upon] at h ⊢
    case panic v => exact h.elim

/-- the values that the targets of the operations hold -/
def valsOf (l : List Oper) (a : Act) : Nat → Value := fun j => match l[j]? with | some o => valD o.dst a | none => undef
/-- what is told of an operation speaks of the values of those alone that it waits for -/
def DepF (F : (Nat → Value) → Nat → Value → World → Prop) (l : List Oper) (n : Nat) : Prop := ∀ i o g g' u w, i < n → l[i]? = some o → (∀ e ∈ o.after, Region.binds .any e = true → g e.on = g' e.on) → F g i u w → F g' i u w
/-- whom an operation waits for, be it by others -/
def ancB (l : List Oper) : Nat → Nat → Nat → Bool
  | 0, _, _ => false
  | f + 1, j, k => match l[j]? with
    | none => false
    | some oj => oj.after.toList.any fun e => Region.binds .any e && (e.on == k || ancB l f e.on k)
theorem listed_anc {l : List Oper} {listed : Array Bool} (hc : ∀ j oj, l.toArray[j]? = some oj → listed.getD j false = true → ∀ e ∈ oj.after, Region.binds .any e = true → listed.getD e.on false = true) :
    ∀ (f j k : Nat), ancB l f j k = true → listed.getD j false = true → listed.getD k false = true
  | 0, _, _, h, _ => by cases h
  | f + 1, j, k, h, hj => by
    unfold ancB at h
    cases ho : l[j]? with
    | none => rw [ho] at h; cases h
    | some oj =>
      rw [ho] at h
      obtain ⟨e, he, h⟩ := List.any_eq_true.1 h
      simp only [Bool.and_eq_true, Bool.or_eq_true, beq_iff_eq] at h
      have h1 := hc j oj (by simpa using ho) hj e (by simpa using he) h.1
      rcases h.2 with h2 | h2
      · rw [← h2]; exact h1
      · exact listed_anc hc f e.on k h2 h1
/-- what is dead once j is done: all that ask for it are j, or done ahead of j -/
def DeadF (dead : Nat → Nat → Bool) (l : List Oper) (n : Nat) : Prop := ∀ i j k ok, dead i j = true → j < n → k < n → l[k]? = some ok → (∃ e ∈ ok.after, Region.binds .any e = true ∧ e.on = i) → k = j ∨ (j < l.length ∧ ancB l l.length j k = true)
structure RInv (C : World → Prop) (F : (Nat → Value) → Nat → Value → World → Prop) (I : Nat → World → Prop) (dead : Nat → Nat → Bool) (l : List Oper) (n : Nat) (a0 : Act) (listed : Array Bool) (a : Act) (w : World) : Prop where
  head : HeadInv .any l.toArray n listed
  cls : C w
  facts : ∀ i o, i < n → l[i]? = some o → listed.getD i false = true → (∀ j, j < n → dead i j = true → listed.getD j true = false) → F (valsOf l a) i (valD o.dst a) w
  init : ∀ i, i < n → listed.getD i true = false → I i w
  rest : ∀ t, (∀ i o, i < n → l[i]? = some o → listed.getD i false = true → o.dst ≠ some t) → a.tmps[t]? = a0.tmps[t]?
  size : a.tmps.size = a0.tmps.size
  defers : a.defers = a0.defers

def fullB (n m : Nat) : Array Bool := (List.replicate n true ++ List.replicate (m - n) false).toArray
theorem full_eq {listed : Array Bool} {n m : Nat} (hs : listed.size = m) (hn : n ≤ m) (h1 : ∀ i, i < n → listed.getD i true = true) (h2 : ∀ t, n ≤ t → t < m → listed.getD t true = false) : listed = fullB n m := by
  have hz : (fullB n m).size = m := by unfold fullB; simp; omega
  refine Array.ext (hs.trans hz.symm) fun i hi hi2 => ?_
  rw [hs] at hi
  have e1 : listed[i] = listed.getD i true := by
    rw [Array.getD_eq_getD_getElem?, Array.getElem?_eq_getElem (by omega)]; rfl
  have e2 : (fullB n m)[i] = decide (i < n) := by
    have : (fullB n m)[i]? = some (decide (i < n)) := by
      unfold fullB
      rw [List.getElem?_toArray, List.getElem?_append]
      simp only [List.length_replicate, List.getElem?_replicate]
      by_cases h : i < n
      · simp [h]
      · simp [h]; omega
    rw [Array.getElem?_eq_getElem hi2] at this
    exact Option.some.inj this
  rw [e1, e2]
  by_cases h : i < n
  · rw [h1 i h]; simp [h]
  · rw [h2 i (by omega) hi]; simp [h]

theorem rely_step {l : List Oper} {n : Nat} {a0 : Act} {Fin : Act → World → Prop} {Q : Exit → Act → World → Prop} (hB : headB l n = true) (hn : n ≤ l.length)
    (hD : DepF F l n) (hX : DeadF dead l n) (hI : ∀ i j w w', i ≠ j → C w → G j w w' → I i w → I i w') (hG : ∀ g i j u w w', i ≠ j → dead i j = false → C w → G j w w' → F g i u w → F g i u w') (hGr : ∀ j w, C w → G j w w) (H : wpRelyE P l.toArray C G F I dead Fin (l.take n) [] a0)
    {listed : Array Bool} {a : Act} {w : World} (inv : RInv C F I dead l n a0 listed a w) {i : Nat} (hi : i ∈ Region.ready .any l.toArray listed) (hin : i < n) :
    wpOp P l.toArray Q i (fun a' w' => RInv C F I dead l n a0 (listed.setIfInBounds i true) a' w') a w := by
  obtain ⟨hun, o, ho, hall⟩ := mem_ready.1 hi
  have ho' : l[i]? = some o := by simpa using ho
  have hA := headAt hB hin ho'
  have hlt : i < l.length := by omega
  have hti : (l.take n).take i = l.take i := by rw [List.take_take, Nat.min_eq_left (by omega)]
  have hus : ∀ j, ((l.take i).map fun x => valD x.dst a)[j]? = if j < i then (l[j]?).map (fun x => valD x.dst a) else none := fun j => by
    rw [List.getElem?_map, List.getElem?_take]
    split <;> simp
  have hget : ∀ j, j < i → getv ((l.take i).map fun x => valD x.dst a) j = valsOf l a j := fun j hj => by
    unfold getv valsOf
    rw [List.getD_eq_getElem?_getD, hus, if_pos hj]
    cases l[j]? <;> rfl
  have hlive : ∀ e ∈ o.after, Region.binds .any e = true → ∀ j, j < n → dead e.on j = true → listed.getD j true = false := fun e he hb j hj hdj => by
    rcases hX e.on j i o hdj hj hin ho' ⟨e, he, hb, rfl⟩ with rfl | ⟨hjl, hanc⟩
    · exact hun
    · cases hq : listed.getD j true with
      | false => rfl
      | true =>
        exfalso
        have hsj : j < listed.size := by rw [inv.head.size]; simpa using hjl
        have hq' : listed.getD j false = true := by simp [hsj] at hq ⊢; exact hq
        have h9 := listed_anc inv.head.closed _ j i hanc hq'
        have hsz : i < listed.size := by rw [inv.head.size]; simpa using hlt
        simp [hsz] at h9 hun
        rw [h9] at hun
        cases hun
  have hspec := rely_at (l.take n) [] ((l.take i).map fun x => valD x.dst a) a0 i o H (by rw [List.getElem?_take, if_pos hin]; exact ho') (by rw [List.length_map, List.length_take]; omega) w inv.cls (by rw [List.length_nil, Nat.zero_add]; exact inv.init i hin hun) (by
    intro e he hb u hu
    rw [List.nil_append, hus] at hu
    have heb := hA.back e (by simpa using he) hb
    rw [if_pos heb] at hu
    obtain ⟨x, hx, rfl⟩ := Option.map_eq_some_iff.1 hu
    refine hD e.on x _ _ _ _ (by omega) hx (fun e' he' hb' => ?_) (inv.facts e.on x (by omega) hx (hall e (by simpa using he) hb) (hlive e (by simpa using he) hb))
    have hlt' := (headAt hB (by omega) hx).back e' he' hb'
    rw [List.nil_append]
    exact (hget e'.on (by omega)).symm) (fun v w' => C w' ∧ G i w w' ∧ F (getv ((l.take i).map fun x => valD x.dst a)) i v w') (fun v w' h1 h2 h3 => ⟨h1, by simpa using h2, by simpa using h3⟩)
  -- the canonical state: the head's first i targets as they are now
  have hpt : ∀ (ls ms : List Oper) (us : List Value) (b : Act), us.length = ls.length → putAll b (ls ++ ms) us = putAll b ls us := by
    intro ls
    induction ls with
    | nil => intro ms us b hl; have : us = [] := List.eq_nil_of_length_eq_zero (by simpa using hl); subst this; cases ms <;> rfl
    | cons x r ih =>
      intro ms us b hl
      cases us with
      | nil => simp at hl
      | cons u us => simp only [List.cons_append, putAll]; exact ih ms us _ (by simpa using hl)
  have hcut : l.take n = l.take i ++ (l.take n).drop i := by rw [← hti, List.take_append_drop]
  have hac : ∀ t, (putAll a0 (l.take n) ((l.take i).map fun x => valD x.dst a)).tmps[t]? = if ∃ x ∈ l.take i, x.dst = some t then a.tmps[t]? else a0.tmps[t]? := fun t => by
    rw [hcut, hpt _ _ _ _ (by simp), putAll_get a t (l.take i) a0]
    by_cases h : ∃ x ∈ l.take i, x.dst = some t
    · rw [if_pos h, if_pos h, get_eval, inv.size]
    · rw [if_neg h, if_neg h]
  -- what it looks at reads there as it does now
  have hsame : ∀ t, (∀ j oj, j < n → l[j]? = some oj → oj.dst = some t → ∃ e ∈ o.after, e.on = j ∧ Region.binds .any e = true) → a.tmps[t]? = (putAll a0 (l.take n) ((l.take i).map fun x => valD x.dst a)).tmps[t]? := fun t ht => by
    rw [hac]
    by_cases h : ∃ x ∈ l.take i, x.dst = some t
    · rw [if_pos h]
    · rw [if_neg h]
      refine inv.rest t fun j oj hj hoj hl e => ?_
      obtain ⟨e2, he, hon, hb⟩ := ht j oj hj hoj e
      have := hA.back e2 he hb
      exact h ⟨oj, List.mem_of_getElem? (by rw [List.getElem?_take, if_pos (show j < i by omega)]; exact hoj), e⟩
  have heq : execOp a.eval o = execOp (putAll a0 (l.take n) ((l.take i).map fun x => valD x.dst a)).eval o := by
    refine execOp_congr o hA.sel fun x hx => ?_
    cases x with
    | tmp t => exact eval_of_get (hsame t fun j oj hj hoj e => hA.looks j oj t hj hoj e hx)
    | _ => rfl
  have hwant : Region.wanted o (yielded l.toArray (putAll a0 (l.take n) ((l.take i).map fun x => valD x.dst a)).tmps) = Region.wanted o (yielded l.toArray a.tmps) := by
    unfold Region.wanted
    cases hg : o.guard with
    | none => rfl
    | some gw =>
      obtain ⟨g, want⟩ := gw
      obtain ⟨e, he, hon, hb⟩ := hA.hang g want hg
      have hgi := hA.back e he hb
      have hy : yielded l.toArray (putAll a0 (l.take n) ((l.take i).map fun x => valD x.dst a)).tmps g = yielded l.toArray a.tmps g := by
        unfold yielded
        cases ht : (l.toArray[g]?).bind (·.dst) with
        | none => rfl
        | some t =>
          obtain ⟨og, hog, hdt⟩ := Option.bind_eq_some_iff.1 ht
          have hog' : l[g]? = some og := by simpa using hog
          have : a.tmps[t]? = (putAll a0 (l.take n) ((l.take i).map fun x => valD x.dst a)).tmps[t]? := by
            rw [hac, if_pos ⟨og, List.mem_of_getElem? (by rw [List.getElem?_take, if_pos (show g < i by omega)]; exact hog'), hdt⟩]
          show (match (some t).bind ((putAll a0 (l.take n) ((l.take i).map fun x => valD x.dst a)).tmps[·]?) with | some (.bool b) => some b | _ => none) = (match (some t).bind (a.tmps[·]?) with | some (.bool b) => some b | _ => none)
          simp only [Option.bind_some, this]
      simp only [hy]
  rw [hwant] at hspec
  have hval : ∀ {v : Value} (j : Nat), j < n → j ≠ i → valsOf l (a.put o.dst v) j = valsOf l a j := fun j hjn hj => by
    unfold valsOf
    cases hoj : l[j]? with
    | none => rfl
    | some oj =>
      show valD oj.dst (a.put o.dst _) = valD oj.dst a
      cases hd : oj.dst with
      | none => rfl
      | some t =>
        exact eval_of_get (put_get_ne _ _ _ _ (hA.own j oj t hjn hoj hj hd))
  have next : ∀ v w', C w' → G i w w' → F (getv ((l.take i).map fun x => valD x.dst a)) i (valD o.dst (a.put o.dst v)) w' → RInv C F I dead l n a0 (listed.setIfInBounds i true) (a.put o.dst v) w' := by
    intro v w' h1 h2 h3
    refine ⟨inv.head.set hi hin, h1, fun j oj hj hoj hl hdd => ?_, fun j hj hl => ?_, fun t ht => ?_, by rw [put_size]; exact inv.size, by rw [put_defers']; exact inv.defers⟩
    · by_cases hji : j = i
      · subst hji
        have : oj = o := Option.some.inj (hoj.symm.trans ho')
        subst this
        refine hD j oj _ _ _ _ hj hoj (fun e he hb => ?_) h3
        have hlt' := hA.back e he hb
        rw [hget e.on (by omega)]
        exact (hval e.on (by omega) (by omega)).symm
      · rw [getD_set_ne false (Ne.symm hji)] at hl
        have hsz0 : i < listed.size := by rw [inv.head.size]; simpa using hlt
        have hdi : dead j i = false := by
          cases hq : dead j i with
          | false => rfl
          | true =>
            have := hdd i hin hq
            simp [hsz0] at this
        have hdd' : ∀ k, k < n → dead j k = true → listed.getD k true = false := fun k hk hq => by
          have h9 := hdd k hk hq
          by_cases hki : k = i
          · subst hki; rw [hdi] at hq; cases hq
          · rwa [getD_set_ne true (Ne.symm hki)] at h9
        have e : valD oj.dst (a.put o.dst v) = valD oj.dst a := by
          cases hd : oj.dst with
          | none => rfl
          | some t => exact eval_of_get (put_get_ne _ _ _ _ (hA.own j oj t hj hoj hji hd))
        rw [e]
        refine hD j oj _ _ _ _ hj hoj (fun e' he' hb' => ?_) (hG _ _ _ _ _ _ hji hdi inv.cls h2 (inv.facts j oj hj hoj hl hdd'))
        have hne : e'.on ≠ i := fun e9 => by
          have h9 := inv.head.closed j oj (by simpa using hoj) hl e' he' hb'
          rw [e9] at h9
          have hsz : i < listed.size := by rw [inv.head.size]; simpa using hlt
          simp [hsz] at h9 hun
          rw [h9] at hun
          cases hun
        exact (hval e'.on (by have := (headAt hB hj hoj).back e' he' hb'; omega) hne).symm
    · have hji : j ≠ i := fun e => by
        subst e
        have hsz0 : j < listed.size := by rw [inv.head.size]; simpa using hlt
        simp [hsz0] at hl
      rw [getD_set_ne true (Ne.symm hji)] at hl
      exact hI _ _ _ _ hji inv.cls h2 (inv.init j hj hl)
    · have hti : o.dst ≠ some t := ht i o hin ho' (by
        have hsz : i < listed.size := by rw [inv.head.size]; simpa using hlt
        simp [hsz])
      rw [put_get_ne _ _ _ _ hti]
      exact inv.rest t fun j oj hj hoj hl => ht j oj hj hoj (getD_set_true hl)
  unfold wpOp
  simp only [ho]
  by_cases hw : Region.wanted o (yielded l.toArray a.tmps) = true
  · rw [if_pos hw] at hspec ⊢
    refine Or.inl (wp_turn (S := fun v w' => C w' ∧ G i w w' ∧ F (getv ((l.take i).map fun x => valD x.dst a)) i v w') heq (by rw [putAll_size]; exact inv.size) hspec ?_)
    rintro v w' ⟨h1, h2, h3⟩
    exact next v w' h1 h2 h3
  · rw [if_neg hw] at hspec ⊢
    obtain ⟨h1, h2, h3⟩ := hspec
    refine next undef w h1 h2 ?_
    have e : valD o.dst (a.put o.dst undef) = undef := by
      cases o.dst with
      | none => rfl
      | some t =>
        show (a.put (some t) undef).tmps.getD t undef = undef
        rw [Array.getD_eq_getD_getElem?, put_get, if_pos rfl]
        split <;> rfl
    rw [e]
    exact h3

theorem rely_go {l : List Oper} {n : Nat} {a0 : Act} {Q : Exit → Act → World → Prop} (hB : headB l n = true) (hn : n ≤ l.length)
    (hs : n = l.length ∨ (Region.sinkB .any l.toArray n = true ∧ Region.chainB .any l.toArray n = true)) (hq : Region.seqB .any l.toArray (l.length - n) n (fullB n l.length) = true)
    (hD : DepF F l n) (hX : DeadF dead l n) (hI : ∀ i j w w', i ≠ j → C w → G j w w' → I i w → I i w') (hG : ∀ g i j u w w', i ≠ j → dead i j = false → C w → G j w w' → F g i u w → F g i u w') (hGr : ∀ j w, C w → G j w w) (H : wpRelyE P l.toArray C G F I dead (fun a' w' => wpList P l.toArray Q (l.drop n) a' w') (l.take n) [] a0) :
    ∀ (f : Nat) (listed : Array Bool) (a : Act) (w : World), unl listed n = f → RInv C F I dead l n a0 listed a w → wpAny P .any l.toArray Q (f + (l.length - n)) listed a w
  | 0, listed, a, w, hf, inv => by
    have hz := unl_zero hf
    have hfull : listed = fullB n l.length := full_eq (by rw [inv.head.size]; simp) (by omega) hz (fun t h1 h2 => inv.head.tail t h1 (by simpa using h2))
    rw [hfull, Nat.zero_add]
    have hd := wpAny_of_seq (P := P) (ops := l.toArray) (md := .any) (Q' := Q) (l.drop n) n (fullB n l.length) a w (fun j => by simp [List.getElem?_drop]) (by rw [List.length_drop]; exact hq)
    rw [List.length_drop] at hd
    refine hd ?_
    have hl : ∀ i, i < n → listed.getD i false = true := fun i hi => by
      have := hz i hi
      have hsz : i < listed.size := by rw [inv.head.size, List.size_toArray]; omega
      simp [hsz] at this ⊢; exact this
    have := rely_fin (l.take n) [] ((l.take n).map fun x => valD x.dst a) a0 H (by simp) w inv.cls (by
      intro i u hu hdd
      rw [List.nil_append, List.getElem?_map, List.getElem?_take] at hu
      by_cases hi : i < n
      · rw [if_pos hi] at hu
        obtain ⟨x, hx, rfl⟩ := Option.map_eq_some_iff.1 hu
        refine hD i x _ _ _ _ hi hx (fun e he hb => ?_) (inv.facts i x hi hx (hl i hi) (fun j hj hq => by rw [hdd j (by simp; omega)] at hq; cases hq))
        have hlt := (headAt hB hi hx).back e he hb
        unfold valsOf getv
        rw [List.nil_append, List.getD_eq_getElem?_getD, List.getElem?_map, List.getElem?_take, if_pos (show e.on < n by omega)]
        cases l[e.on]? <;> rfl
      · rw [if_neg hi] at hu; cases hu)
    have hact : putAll a0 (l.take n) ((l.take n).map fun x => valD x.dst a) = a := by
      have h1 : (putAll a0 (l.take n) ((l.take n).map fun x => valD x.dst a)).tmps = a.tmps := by
        apply Array.ext_getElem?
        intro t
        rw [putAll_get a t]
        by_cases h : ∃ x ∈ l.take n, x.dst = some t
        · rw [if_pos h, get_eval, inv.size]
        · rw [if_neg h]
          exact (inv.rest t fun j oj hj hoj _ e => h ⟨oj, List.mem_of_getElem? (by rw [List.getElem?_take, if_pos hj]; exact hoj), e⟩).symm
      have h2 := putAll_defers (l.take n) ((l.take n).map fun x => valD x.dst a) a0
      rw [← inv.defers] at h2
      generalize putAll a0 (l.take n) ((l.take n).map fun x => valD x.dst a) = b at *
      obtain ⟨bt, bd⟩ := b
      obtain ⟨ct, cd⟩ := a
      simp only at h1 h2
      subst h1; subst h2; rfl
    rw [hact] at this
    exact this
  | f + 1, listed, a, w, hf, inv => by
    obtain ⟨i0, hi0, hun0, hbelow⟩ := unl_pos (listed := listed) (n := n) (by omega)
    rw [show f + 1 + (l.length - n) = (f + (l.length - n)) + 1 by omega]
    refine ⟨fun hnil => ?_, fun i hi => ?_⟩
    · exfalso
      have ho : l[i0]? = some l[i0] := List.getElem?_eq_getElem (by omega)
      have hA := headAt hB hi0 ho
      have : i0 ∈ Region.ready .any l.toArray listed := mem_ready.2 ⟨hun0, l[i0], by simp, fun e he hb => by
        have hlt := hA.back e he hb
        have := hbelow e.on hlt
        have hsz : e.on < listed.size := by rw [inv.head.size]; simp; omega
        simp [hsz] at this ⊢; exact this⟩
      rw [hnil] at this
      cases this
    · have hin : i < n := by
        rcases Nat.lt_or_ge i n with h | h
        · exact h
        · rcases hs with hs | ⟨hs, hc⟩
          · obtain ⟨_, o, ho, _⟩ := mem_ready.1 hi
            have := (Array.getElem?_eq_some_iff.1 ho).1
            simp at this
            omega
          · have hil : i < l.length := by
              obtain ⟨_, o, ho, _⟩ := mem_ready.1 hi
              have := (Array.getElem?_eq_some_iff.1 ho).1
              simpa using this
            exact absurd hi (tail_waits hs hc (by simp; omega) inv.head _ i0 rfl hi0 hun0 i h)
      have hu := unl_set (mem_ready.1 hi).1 n
      rw [if_pos hin] at hu
      exact wpOp_mono (fun a' w' h' => rely_go hB hn hs hq hD hX hI hG hGr H f _ a' w' (by omega) h') (rely_step hB hn hD hX hI hG hGr H inv hi hin)

/-- .. by reckoning -/
def edgeB (o : Oper) (i : Nat) : Bool := o.after.toList.any fun e => Region.binds .any e && e.on == i
def deadB (dead : Nat → Nat → Bool) (l : List Oper) (n : Nat) : Bool :=
  (List.range n).all fun i => (List.range n).all fun j => !dead i j || ((List.range n).all fun k => match l[k]? with
    | none => true
    | some ok => !edgeB ok i || k == j || (decide (j < l.length) && ancB l l.length j k))
theorem edgeB_of {o : Oper} {i : Nat} (h : ∃ e ∈ o.after, Region.binds .any e = true ∧ e.on = i) : edgeB o i = true := by
  obtain ⟨e, he, hb, hi⟩ := h
  exact List.any_eq_true.2 ⟨e, by simpa using he, by simp [hb, hi]⟩
theorem dead_of {dead : Nat → Nat → Bool} {l : List Oper} {n : Nat} (hB : headB l n = true) (h : deadB dead l n = true) : DeadF dead l n := fun i j k ok hd hj hk ho he => by
  have hin : i < n := by
    obtain ⟨e, he2, hb, rfl⟩ := he
    have := (headAt hB hk ho).back e he2 hb
    omega
  have h1 := List.all_eq_true.1 h i (List.mem_range.2 hin)
  have h2 := List.all_eq_true.1 h1 j (List.mem_range.2 hj)
  rw [hd] at h2
  simp only [Bool.not_true, Bool.false_or] at h2
  have h3 := List.all_eq_true.1 h2 k (List.mem_range.2 hk)
  rw [ho] at h3
  simp only [Bool.or_eq_true, edgeB_of he, Bool.not_true, Bool.false_eq_true, false_or, beq_iff_eq, Bool.and_eq_true, decide_eq_true_eq] at h3
  exact h3

/-- .. what is told of an operation may speak of the values that it waits for -/
theorem wp_region_relyE {id : Nat} {Q : Exit → Act → World → Prop} {a : Act} {w : World} {l : List Oper} (n : Nat) (C : World → Prop) (G : Nat → World → World → Prop) (F : (Nat → Value) → Nat → Value → World → Prop) (I : Nat → World → Prop) (dead : Nat → Nat → Bool)
    (hm : P.follows .mixedOrders = true) (hn : n ≤ l.length) (hB : headB l n = true)
    (hs : n = l.length ∨ (Region.sinkB .any l.toArray n = true ∧ Region.chainB .any l.toArray n = true)) (hq : Region.seqB .any l.toArray (l.length - n) n (fullB n l.length) = true)
    (hC : C w.drew) (hD : DepF F l n) (hX : DeadF dead l n) (hI0 : ∀ i, I i w.drew) (hI : ∀ i j w w', i ≠ j → C w → G j w w' → I i w → I i w') (hG : ∀ g i j u w w', i ≠ j → dead i j = false → C w → G j w w' → F g i u w → F g i u w') (hGr : ∀ j w, C w → G j w w)
    (h : wpRelyE P l.toArray C G F I dead (fun a' w' => wpList P l.toArray Q (l.drop n) a' w') (l.take n) [] a) : (Code.region id l.toArray true).wp P Q a w := by
  refine wp_region_any hm ?_
  have hu : ∀ m, m ≤ l.length → unl (Array.replicate l.length false) m = m := fun m => by
    induction m with
    | zero => intro _; rfl
    | succ m ih =>
      intro hm
      have hml : m < l.length := by omega
      unfold unl
      rw [ih (by omega)]
      simp [hml]
  have := rely_go (Q := Q) hB hn hs hq hD hX hI hG hGr h n (Array.replicate l.toArray.size false) a w.drew (by rw [show l.toArray.size = l.length by simp]; exact hu n hn)
    ⟨⟨by simp, fun j oj _ hl => (by rw [getD_replicate_false] at hl; cases hl), fun t _ ht => getD_in (by simpa using ht) (getD_replicate_false _ _)⟩, hC,
      fun i o _ _ hl => (by rw [getD_replicate_false] at hl; cases hl), fun i _ _ => hI0 i, fun t _ => rfl, rfl, rfl⟩
  rw [show n + (l.length - n) = l.toArray.size by simp; omega] at this
  exact this

/-- .. without these two -/
theorem wp_region_relyD {id : Nat} {Q : Exit → Act → World → Prop} {a : Act} {w : World} {l : List Oper} (n : Nat) (C : World → Prop) (G : Nat → World → World → Prop) (F : (Nat → Value) → Nat → Value → World → Prop)
    (hm : P.follows .mixedOrders = true) (hn : n ≤ l.length) (hB : headB l n = true)
    (hs : n = l.length ∨ (Region.sinkB .any l.toArray n = true ∧ Region.chainB .any l.toArray n = true)) (hq : Region.seqB .any l.toArray (l.length - n) n (fullB n l.length) = true)
    (hC : C w.drew) (hD : DepF F l n) (hG : ∀ g i j u w w', i ≠ j → C w → G j w w' → F g i u w → F g i u w') (hGr : ∀ j w, C w → G j w w)
    (h : wpRely P l.toArray C G F (fun a' w' => wpList P l.toArray Q (l.drop n) a' w') (l.take n) [] a) : (Code.region id l.toArray true).wp P Q a w :=
  wp_region_relyE n C G F (fun _ _ => True) (fun _ _ => false) hm hn hB hs hq hC hD (fun _ _ _ _ h => by cases h) (fun _ => trivial) (fun _ _ _ _ _ _ _ _ => trivial) (fun g i j u w w' hne _ => hG g i j u w w' hne) hGr (wpRely_toE h)

/-- .. G is told of each operation by its place -/
theorem wp_region_relyJ {id : Nat} {Q : Exit → Act → World → Prop} {a : Act} {w : World} {l : List Oper} (n : Nat) (C : World → Prop) (G : Nat → World → World → Prop) (F : Nat → Value → World → Prop)
    (hm : P.follows .mixedOrders = true) (hn : n ≤ l.length) (hB : headB l n = true)
    (hs : n = l.length ∨ (Region.sinkB .any l.toArray n = true ∧ Region.chainB .any l.toArray n = true)) (hq : Region.seqB .any l.toArray (l.length - n) n (fullB n l.length) = true)
    (hC : C w.drew) (hG : ∀ i j u w w', i ≠ j → C w → G j w w' → F i u w → F i u w') (hGr : ∀ j w, C w → G j w w)
    (h : wpRely P l.toArray C G (fun _ => F) (fun a' w' => wpList P l.toArray Q (l.drop n) a' w') (l.take n) [] a) : (Code.region id l.toArray true).wp P Q a w :=
  wp_region_relyD n C G (fun _ => F) hm hn hB hs hq hC (fun _ _ _ _ _ _ _ _ _ h => h) (fun _ => hG) hGr h

/-- .. G is told of all alike -/
theorem wp_region_rely {id : Nat} {Q : Exit → Act → World → Prop} {a : Act} {w : World} {l : List Oper} (n : Nat) (C : World → Prop) (G : World → World → Prop) (F : Nat → Value → World → Prop)
    (hm : P.follows .mixedOrders = true) (hn : n ≤ l.length) (hB : headB l n = true)
    (hs : n = l.length ∨ (Region.sinkB .any l.toArray n = true ∧ Region.chainB .any l.toArray n = true)) (hq : Region.seqB .any l.toArray (l.length - n) n (fullB n l.length) = true)
    (hC : C w.drew) (hG : ∀ i u w w', C w → G w w' → F i u w → F i u w') (hGr : ∀ w, C w → G w w)
    (h : wpRely P l.toArray C (fun _ => G) (fun _ => F) (fun a' w' => wpList P l.toArray Q (l.drop n) a' w') (l.take n) [] a) : (Code.region id l.toArray true).wp P Q a w :=
  wp_region_relyJ n C (fun _ => G) F hm hn hB hs hq hC (fun i _ u w w' _ => hG i u w w') (fun _ => hGr) h

end
end Go.Proofs.YtmmlhnjmjmbfpaaGreat
