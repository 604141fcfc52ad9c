

/-
  A range over an iterator that writes one block of its own (a captured variable) between two rounds: what the loop's body and the iterator promise each other. No condition.
-/
import Derived.Test.YtmmlhnjmjmbfpaaGreatName
import Derived.RangeFuncWrites
namespace Go.Proofs.YtmmlhnjmjmbfpaaGreat
set_option linter.unusedSimpArgs false
set_option linter.unusedVariables false
open Go.RowKit

/-- how a round's body may end: off its end, or by a return -/
def roundEnd {α : Type} (B : Nat) (Kp : World → World → Prop) (I Ix : List α → World → Prop) (s : List α) (W : World) : Exit → Act → World → Prop
  | .normal, _, W' => KeepsFrom B W W' ∧ Kp W W' ∧ I s W'
  | .ret, _, W' => KeepsFrom B W W' ∧ Ix s W'
  | _, _, _ => False

/-- what an iterator promises, that gives members as G says, writes block rb alone, and is told no more than n times to go on -/
def Gives {α : Type} (P : Program) (gf : Nat) (lb : Array Value) (enc : α → Array Value) (Kp : World → World → Prop) (G : List α → α → Prop) (S : List α → Prop) (rb N m : Nat) (w : World) : Prop :=
  ∀ (l : Nat) (J Jx : List α → World → Prop) (W : World), Below w.heap.size w W →
    (∀ s W W', J s W → Below W.heap.size W W' → J s W') → (∀ s W i v, J s W → J s (W.setCell ⟨rb, i, none⟩ v)) → (∀ s W, J s W → s.length ≤ N) →
    (∀ s x W1, J s W1 → G s x → YieldAt Fence.wide m P l (enc x) W1 fun e W' => (e = .returned (.bool true) ∧ J (s ++ [x]) W' ∧ Kp W1 W') ∨ (e = .returned (.bool false) ∧ Jx (s ++ [x]) W')) →
    J [] W → CallsIn Fence.wide (m + 1) P gf (#[.func (.yield l) #[] #[]] ++ lb) W fun e W' => (∃ v, e = .returned v) ∧ ((∃ s, S s ∧ J s W') ∨ (∃ s, Jx s W'))

theorem range_gives {α : Type} {P : Program} {g : Operand} {ps : Array Tmp} {assign body : Code} {Q : Exit → Act → World → Prop} {a : Act} {w : World} {m : Nat}
    {gf : Nat} {lb : Array Value} (hg : a.eval g = .func (.func gf) #[] lb) (eg : ∀ args w, (callFunc gf args).run P w = .ok (.enter gf args) w)
    {enc : α → Array Value} (hps : ∀ x, (enc x).size = ps.size)
    {Kp : World → World → Prop} (hKt : ∀ {A B C : World}, Kp A B → Kp B C → Kp A C) (hKb : ∀ (W : World) (l : Nat) (r : Loop) (o' : Obj), w.heap.size ≤ l → W.heap[l]? = some (.loop r) → Kp W (W.putObj l o')) (hKw : ∀ W W', Below W.heap.size W W' → Kp W W')
    {G : List α → α → Prop} {S : List α → Prop} {rb N : Nat} (hrb : rb < w.heap.size) (hseq : Gives P gf lb enc Kp G S rb N m w)
    (I Ix : List α → World → Prop) (I₁ : List α → α → Act → World → Prop)
    (hIb : ∀ s W W', I s W → Below W.heap.size W W' → I s W') (hIp : ∀ s W l r o', I s W → w.heap.size ≤ l → W.heap[l]? = some (.loop r) → I s (W.putObj l o'))
    (hXp : ∀ s W l r o', Ix s W → w.heap.size ≤ l → W.heap[l]? = some (.loop r) → Ix s (W.putObj l o')) (hAp : ∀ s x b W l r o', I₁ s x b W → w.heap.size ≤ l → W.heap[l]? = some (.loop r) → I₁ s x b (W.putObj l o'))
    (hIc : ∀ s W i v, I s W → I s (W.setCell ⟨rb, i, none⟩ v)) (hIn : ∀ s W, I s W → s.length ≤ N) (h0 : I [] w)
    (hassign : ∀ (l : Nat) (s : List α) (x : α) (W : World), I s W → G s x →
      assign.wpIn (Fence.wide.inRound l) m P (Exit.then (fun a₁ w₁ => Below W.heap.size W w₁ ∧ I₁ s x a₁ w₁) (fun _ _ _ => False)) { tmps := (ps.zip (enc x)).foldl (fun t (p, v) => t.setIfInBounds p v) a.tmps, defers := [] } W)
    (hbody : ∀ (l : Nat) (s : List α) (x : α) (b : Act) (W : World), I₁ s x b W → G s x → body.wpIn (Fence.wide.inRound l) m P (roundEnd w.heap.size Kp I Ix (s ++ [x]) W) b W)
    (hdone : ∀ (D : Nat) (s : List α) (W : World), w.heap.size ≤ D → S s → I s W → W.heap[D]? = some (.deferred (some [])) → Q .normal { a with defers := { target := .collected D, args := #[] } :: a.defers } W)
    (hstop : ∀ (D : Nat) (s : List α) (W : World), w.heap.size ≤ D → Ix s W → W.heap[D]? = some (.deferred (some [])) → Code.ret.wpIn Fence.wide (m + 1 + 1) P Q { a with defers := { target := .collected D, args := #[] } :: a.defers } W) :
    (Code.rangeFunc g ps assign body).wpIn Fence.wide (m + 1 + 1) P Q a w := by
  refine wpIn_rangeFunc fun fn _ => ?_
  obtain ⟨rec, hrec⟩ : ∃ rec : LoopState → Option Code → Loop, rec = fun st pe => { state := st, pending := pe, fn, tmps := a.tmps, params := ps, assign, body, defers := w.heap.size } := ⟨_, rfl⟩
  obtain ⟨W1, hW1⟩ : ∃ W1, W1 = (w.alloc (.deferred (some []))).alloc (.loop (rec .ready none)) := ⟨_, rfl⟩
  have hb1 : Below w.heap.size w W1 := by rw [hW1]; exact ((Below.refl _ w).alloc (Nat.le_refl _) _).alloc (by simp) _
  have hD1 : W1.heap[w.heap.size]? = some (.deferred (some [])) := by
    rw [hW1]
    exact (Below.heap_alloc _ _ _ (by simp)).trans (World.alloc_heap_new w _)
  have hL1 : W1.heap[w.heap.size + 1]? = some (.loop (rec .ready none)) := by
    have := World.alloc_heap_new (w.alloc (.deferred (some []))) (.loop (rec .ready none))
    rw [World.size_alloc, ← hW1] at this
    exact this
  refine ⟨w.heap.size + 1, [{ target := .collected w.heap.size, args := #[] }], W1, { target := .fn (.func gf) lb, args := #[.func (.yield (w.heap.size + 1)) #[] #[]] }, W1, gf, #[.func (.yield (w.heap.size + 1)) #[] #[]] ++ lb, W1, ?_, ?_, fun _ _ => trivial, ?_, fun _ => by omega, ?_⟩
  · rw [hW1, hrec]; exact run_enterLoop_outer _ _ _ _ _
  · simp only [resolve, hg]
    simp [go_sem]
  · simp [invoke, go_sem, eg]
  have hlD : w.heap.size + 1 ≠ w.heap.size := by omega
  refine (hseq (w.heap.size + 1)
    (fun s W => I s W ∧ W.heap[w.heap.size + 1]? = some (.loop (rec .ready none)) ∧ W.heap[w.heap.size]? = some (.deferred (some [])))
    (fun s W => Ix s W ∧ W.heap[w.heap.size + 1]? = some (.loop (rec .done (some .ret))) ∧ W.heap[w.heap.size]? = some (.deferred (some [])))
    W1 hb1 ?_ ?_ (fun s W h => hIn s W h.1) ?_ ⟨hIb _ _ _ h0 hb1, hL1, hD1⟩).mono ?_
  · rintro s W W' ⟨hi, hl, hd⟩ hb
    exact ⟨hIb _ _ _ hi hb, (hb.block _ (Array.getElem?_eq_some_iff.1 hl).1).trans hl, (hb.block _ (Array.getElem?_eq_some_iff.1 hd).1).trans hd⟩
  · rintro s W i v ⟨hi, hl, hd⟩
    exact ⟨hIc _ _ _ _ hi, (Below.heap_setCell _ _ _ _ (by show _ ≠ rb; omega)).trans hl, (Below.heap_setCell _ _ _ _ (by show _ ≠ rb; omega)).trans hd⟩
  · rintro s x W ⟨hi, hl, hd⟩ hG
    have hy := run_yield (P := P) (args := enc x) hl (by rw [hrec]; exact hps x)
    rw [hrec] at hy
    refine ⟨fn, _, assign, body, hy, roundIn_of_wpIn trivial (wpIn_mono (hassign _ s x W hi hG) ?_)⟩
    rintro e b w₁ hp
    cases e with
    | normal =>
      obtain ⟨hb, h1⟩ := hp
      have hl1 : w₁.heap[w.heap.size + 1]? = some (.loop (rec .ready none)) := (hb.block _ (Array.getElem?_eq_some_iff.1 hl).1).trans hl
      have hd1 : w₁.heap[w.heap.size]? = some (.deferred (some [])) := (hb.block _ (Array.getElem?_eq_some_iff.1 hd).1).trans hd
      refine ⟨_, run_beginRound hl1 (by rw [hrec]), ?_⟩
      have hlt : w.heap.size + 1 < w₁.heap.size := (Array.getElem?_eq_some_iff.1 hl1).1
      obtain ⟨W2, hW2⟩ : ∃ W2, W2 = w₁.putObj (w.heap.size + 1) (.loop { rec .ready none with state := .busy }) := ⟨_, rfl⟩
      rw [← hW2]
      have hl2 : W2.heap[w.heap.size + 1]? = some (.loop { rec .ready none with state := .busy }) := by rw [hW2]; exact World.putObj_heap_same hlt
      have hd2 : W2.heap[w.heap.size]? = some (.deferred (some [])) := by rw [hW2]; exact (World.putObj_heap_other (by omega)).trans hd1
      have hk2 : Kp W W2 := hKt (hKw _ _ hb) (by rw [hW2]; exact hKb _ _ _ _ (by omega) hl1)
      refine wpIn_mono (hbody _ s x b W2 (by rw [hW2]; exact hAp _ _ _ _ _ _ _ h1 (by omega) hl1) hG) ?_
      rintro e a3 W3 hp
      have fin : ∀ (jump : Option Code), KeepsFrom w.heap.size W2 W3 → (Instr.endRound (w.heap.size + 1) jump).run P W3 = .ok (.bool jump.isNone) (W3.putObj (w.heap.size + 1) (.loop (rec (if jump.isNone then .ready else .done) jump))) ∧ W3.heap[w.heap.size + 1]? = some (.loop { rec .ready none with state := .busy }) ∧
          (W3.putObj (w.heap.size + 1) (.loop (rec (if jump.isNone then .ready else .done) jump))).heap[w.heap.size + 1]? = some (.loop (rec (if jump.isNone then .ready else .done) jump)) ∧
          (W3.putObj (w.heap.size + 1) (.loop (rec (if jump.isNone then .ready else .done) jump))).heap[w.heap.size]? = some (.deferred (some [])) := fun jump hk => by
        have hl3 := hk.same _ _ (by omega) hl2 rfl
        have hd3 := hk.same _ _ (Nat.le_refl _) hd2 rfl
        have hr := run_endRound (P := P) jump hl3
        rw [hrec] at hr ⊢
        exact ⟨hr, by rw [hrec] at hl3; exact hl3, World.putObj_heap_same (Array.getElem?_eq_some_iff.1 hl3).1, (World.putObj_heap_other (by omega)).trans hd3⟩
      cases e with
      | normal =>
        obtain ⟨hk3, hkp, hi3⟩ := hp
        obtain ⟨hr, hl3, hl4, hd4⟩ := fin none hk3
        exact ⟨_, _, hr, Or.inl ⟨rfl, ⟨hIp _ _ _ _ _ hi3 (by omega) hl3, hl4, hd4⟩, hKt (hKt hk2 hkp) (hKb _ _ _ _ (by omega) hl3)⟩⟩
      | ret =>
        obtain ⟨hk3, hi3⟩ := hp
        obtain ⟨hr, hl3, hl4, hd4⟩ := fin (some .ret) hk3
        exact ⟨_, _, hr, Or.inr ⟨rfl, hXp _ _ _ _ _ hi3 (by omega) hl3, hl4, hd4⟩⟩
      | exit id => exact hp.elim
      | goto t => exact hp.elim
      | panic c => exact hp.elim
      | outgrown => exact hp.elim
    | ret => exact hp.elim
    | exit id => exact hp.elim
    | goto t => exact hp.elim
    | panic c => exact hp.elim
    | outgrown => exact hp.elim
  · rintro e W2 ⟨⟨v, rfl⟩, ⟨s, hS, hi, hl, hd⟩ | ⟨s, hi, hl, hd⟩⟩
    · refine ⟨none, _, by have := run_endLoop (P := P) hl (by rw [hrec]; simp); rw [hrec] at this; exact this, ?_⟩
      exact hdone _ s _ (Nat.le_refl _) hS (hIp _ _ _ _ _ hi (by omega) hl) ((World.putObj_heap_other (by omega)).trans hd)
    · refine ⟨some .ret, _, by have := run_endLoop (P := P) hl (by rw [hrec]; simp); rw [hrec] at this; exact this, ?_⟩
      exact hstop _ s _ (Nat.le_refl _) (hXp _ _ _ _ _ hi (by omega) hl) ((World.putObj_heap_other (by omega)).trans hd)

end Go.Proofs.YtmmlhnjmjmbfpaaGreat
