/-
  Texts of mine, packed: Seq, Above, Climb, FindJ, FindK. No condition beside those of the single theorems.
-/
import Derived.Test.YtmbfpbgkchncgaaGreatK1
import Derived.RangeFuncWrites
import Derived.Test.YtmbfpbgkchncgaaGreatK15
import Derived.RangeFuncLeaves
import Derived.RangeFuncCalls
import Derived.OwnWalkIn
import Derived.TacticsInMore
import Derived.Sort.LoopGhostIn
import Derived.RangeFuncKeeps
import Derived.Shelf.Abstract
import Derived.RangeFuncOwn
set_option linter.unusedSimpArgs false
set_option linter.unusedVariables false
set_option maxHeartbeats 16000000
set_option maxRecDepth 100000
namespace Go.Proofs.YtmbfpbgkchncgaaGreat
open Go.RowKit
def roundEnd {α : Type} (B : Nat) (Kp : World → World → Prop) (I Ix : List α → World → Prop) (s : List α) (W : World) : Exit → Act → World → Prop
 | .normal, _, W' => KeepsFrom B W W' ∧ Kp W W' ∧ I s W'
 | .ret, _, W' => KeepsFrom B W W' ∧ Ix s W'
 | _, _, _ => False

def Gives {α : Type} (P : Program) (gf : Nat) (lb : Array Value) (enc : α → Array Value) (Kp : World → World → Prop) (G : List α → α → Prop) (S : List α → Prop) (rb N m : Nat) (w : World) : Prop :=
 ∀ (l : Nat) (J Jx : List α → World → Prop) (W : World), Below w.heap.size w W →
  (∀ s W W', J s W → Below W.heap.size W W' → J s W') → (∀ s W i v, J s W → J s (W.setCell ⟨rb, i, none⟩ v)) → (∀ s W, J s W → s.length ≤ N) →
  (∀ s x W1, J s W1 → G s x → YieldAt Fence.wide m P l (enc x) W1 fun e W' => (e = .returned (.bool true) ∧ J (s ++ [x]) W' ∧ Kp W1 W') ∨ (e = .returned (.bool false) ∧ Jx (s ++ [x]) W')) →
  J [] W → CallsIn Fence.wide (m + 1) P gf (#[.func (.yield l) #[] #[]] ++ lb) W fun e W' => (∃ v, e = .returned v) ∧ ((∃ s, S s ∧ J s W') ∨ (∃ s, Jx s W'))

theorem range_gives {α : Type} {P : Program} {g : Operand} {ps : Array Tmp} {assign body : Code} {Q : Exit → Act → World → Prop} {a : Act} {w : World} {m : Nat}
  {gf : Nat} {lb : Array Value} (hg : a.eval g = .func (.func gf) #[] lb) (eg : ∀ args w, (callFunc gf args).run P w = .ok (.enter gf args) w)
  {enc : α → Array Value} (hps : ∀ x, (enc x).size = ps.size)
  {Kp : World → World → Prop} (hKt : ∀ {A B C : World}, Kp A B → Kp B C → Kp A C) (hKb : ∀ (W : World) (l : Nat) (r : Loop) (o' : Obj), w.heap.size ≤ l → W.heap[l]? = some (.loop r) → Kp W (W.putObj l o')) (hKw : ∀ W W', Below W.heap.size W W' → Kp W W')
  {G : List α → α → Prop} {S : List α → Prop} {rb N : Nat} (hrb : rb < w.heap.size) (hseq : Gives P gf lb enc Kp G S rb N m w)
  (I Ix : List α → World → Prop) (I₁ : List α → α → Act → World → Prop)
  (hIb : ∀ s W W', I s W → Below W.heap.size W W' → I s W') (hIp : ∀ s W l r o', I s W → w.heap.size ≤ l → W.heap[l]? = some (.loop r) → I s (W.putObj l o'))
  (hXp : ∀ s W l r o', Ix s W → w.heap.size ≤ l → W.heap[l]? = some (.loop r) → Ix s (W.putObj l o')) (hAp : ∀ s x b W l r o', I₁ s x b W → w.heap.size ≤ l → W.heap[l]? = some (.loop r) → I₁ s x b (W.putObj l o'))
  (hIc : ∀ s W i v, I s W → I s (W.setCell ⟨rb, i, none⟩ v)) (hIn : ∀ s W, I s W → s.length ≤ N) (h0 : I [] w)
  (hassign : ∀ (l : Nat) (s : List α) (x : α) (W : World), I s W → G s x →
   assign.wpIn (Fence.wide.inRound l) m P (Exit.then (fun a₁ w₁ => Below W.heap.size W w₁ ∧ I₁ s x a₁ w₁) (fun _ _ _ => False)) { tmps := (ps.zip (enc x)).foldl (fun t (p, v) => t.setIfInBounds p v) a.tmps, defers := [] } W)
  (hbody : ∀ (l : Nat) (s : List α) (x : α) (b : Act) (W : World), I₁ s x b W → G s x → body.wpIn (Fence.wide.inRound l) m P (roundEnd w.heap.size Kp I Ix (s ++ [x]) W) b W)
  (hdone : ∀ (D : Nat) (s : List α) (W : World), w.heap.size ≤ D → S s → I s W → W.heap[D]? = some (.deferred (some [])) → Q .normal { a with defers := { target := .collected D, args := #[] } :: a.defers } W)
  (hstop : ∀ (D : Nat) (s : List α) (W : World), w.heap.size ≤ D → Ix s W → W.heap[D]? = some (.deferred (some [])) → Code.ret.wpIn Fence.wide (m + 1 + 1) P Q { a with defers := { target := .collected D, args := #[] } :: a.defers } W) :
  (Code.rangeFunc g ps assign body).wpIn Fence.wide (m + 1 + 1) P Q a w := by
 refine wpIn_rangeFunc fun fn _ => ?_
 obtain ⟨rec, hrec⟩ : ∃ rec : LoopState → Option Code → Loop, rec = fun st pe => { state := st, pending := pe, fn, tmps := a.tmps, params := ps, assign, body, defers := w.heap.size } := ⟨_, rfl⟩
 obtain ⟨W1, hW1⟩ : ∃ W1, W1 = (w.alloc (.deferred (some []))).alloc (.loop (rec .ready none)) := ⟨_, rfl⟩
 have hb1 : Below w.heap.size w W1 := by rw [hW1]; exact ((Below.refl _ w).alloc (Nat.le_refl _) _).alloc (by simp) _
 have hD1 : W1.heap[w.heap.size]? = some (.deferred (some [])) := by
  rw [hW1]
  exact (Below.heap_alloc _ _ _ (by simp)).trans (World.alloc_heap_new w _)
 have hL1 : W1.heap[w.heap.size + 1]? = some (.loop (rec .ready none)) := by
  have := World.alloc_heap_new (w.alloc (.deferred (some []))) (.loop (rec .ready none))
  rw [World.size_alloc, ← hW1] at this
  exact this
 refine ⟨w.heap.size + 1, [{ target := .collected w.heap.size, args := #[] }], W1, { target := .fn (.func gf) lb, args := #[.func (.yield (w.heap.size + 1)) #[] #[]] }, W1, gf, #[.func (.yield (w.heap.size + 1)) #[] #[]] ++ lb, W1, ?_, ?_, fun _ _ => trivial, ?_, fun _ => by omega, ?_⟩
 ·rw [hW1, hrec]; exact run_enterLoop_outer _ _ _ _ _
 ·simp only [resolve, hg]
  simp [go_sem]
 ·simp [invoke, go_sem, eg]
 have hlD : w.heap.size + 1 ≠ w.heap.size := by omega
 refine (hseq (w.heap.size + 1)
  (fun s W => I s W ∧ W.heap[w.heap.size + 1]? = some (.loop (rec .ready none)) ∧ W.heap[w.heap.size]? = some (.deferred (some [])))
  (fun s W => Ix s W ∧ W.heap[w.heap.size + 1]? = some (.loop (rec .done (some .ret))) ∧ W.heap[w.heap.size]? = some (.deferred (some [])))
  W1 hb1 ?_ ?_ (fun s W h => hIn s W h.1) ?_ ⟨hIb _ _ _ h0 hb1, hL1, hD1⟩).mono ?_
 ·rintro s W W' ⟨hi, hl, hd⟩ hb
  exact ⟨hIb _ _ _ hi hb, (hb.block _ (Array.getElem?_eq_some_iff.1 hl).1).trans hl, (hb.block _ (Array.getElem?_eq_some_iff.1 hd).1).trans hd⟩
 ·rintro s W i v ⟨hi, hl, hd⟩
  exact ⟨hIc _ _ _ _ hi, (Below.heap_setCell _ _ _ _ (by show _ ≠ rb; omega)).trans hl, (Below.heap_setCell _ _ _ _ (by show _ ≠ rb; omega)).trans hd⟩
 ·rintro s x W ⟨hi, hl, hd⟩ hG
  have hy := run_yield (P := P) (args := enc x) hl (by rw [hrec]; exact hps x)
  rw [hrec] at hy
  refine ⟨fn, _, assign, body, hy, roundIn_of_wpIn trivial (wpIn_mono (hassign _ s x W hi hG) ?_)⟩
  rintro e b w₁ hp
  cases e with
  | normal =>
    obtain ⟨hb, h1⟩ := hp
    have hl1 : w₁.heap[w.heap.size + 1]? = some (.loop (rec .ready none)) := (hb.block _ (Array.getElem?_eq_some_iff.1 hl).1).trans hl
    have hd1 : w₁.heap[w.heap.size]? = some (.deferred (some [])) := (hb.block _ (Array.getElem?_eq_some_iff.1 hd).1).trans hd
    refine ⟨_, run_beginRound hl1 (by rw [hrec]), ?_⟩
    have hlt : w.heap.size + 1 < w₁.heap.size := (Array.getElem?_eq_some_iff.1 hl1).1
    obtain ⟨W2, hW2⟩ : ∃ W2, W2 = w₁.putObj (w.heap.size + 1) (.loop { rec .ready none with state := .busy }) := ⟨_, rfl⟩
    rw [← hW2]
    have hl2 : W2.heap[w.heap.size + 1]? = some (.loop { rec .ready none with state := .busy }) := by rw [hW2]; exact World.putObj_heap_same hlt
    have hd2 : W2.heap[w.heap.size]? = some (.deferred (some [])) := by rw [hW2]; exact (World.putObj_heap_other (by omega)).trans hd1
    have hk2 : Kp W W2 := hKt (hKw _ _ hb) (by rw [hW2]; exact hKb _ _ _ _ (by omega) hl1)
    refine wpIn_mono (hbody _ s x b W2 (by rw [hW2]; exact hAp _ _ _ _ _ _ _ h1 (by omega) hl1) hG) ?_
    rintro e a3 W3 hp
    have fin : ∀ (jump : Option Code), KeepsFrom w.heap.size W2 W3 → (Instr.endRound (w.heap.size + 1) jump).run P W3 = .ok (.bool jump.isNone) (W3.putObj (w.heap.size + 1) (.loop (rec (if jump.isNone then .ready else .done) jump))) ∧ W3.heap[w.heap.size + 1]? = some (.loop { rec .ready none with state := .busy }) ∧
      (W3.putObj (w.heap.size + 1) (.loop (rec (if jump.isNone then .ready else .done) jump))).heap[w.heap.size + 1]? = some (.loop (rec (if jump.isNone then .ready else .done) jump)) ∧
      (W3.putObj (w.heap.size + 1) (.loop (rec (if jump.isNone then .ready else .done) jump))).heap[w.heap.size]? = some (.deferred (some [])) := fun jump hk => by
     have hl3 := hk.same _ _ (by omega) hl2 rfl
     have hd3 := hk.same _ _ (Nat.le_refl _) hd2 rfl
     have hr := run_endRound (P := P) jump hl3
     rw [hrec] at hr ⊢
     exact ⟨hr, by rw [hrec] at hl3; exact hl3, World.putObj_heap_same (Array.getElem?_eq_some_iff.1 hl3).1, (World.putObj_heap_other (by omega)).trans hd3⟩
    cases e with
    | normal =>
      obtain ⟨hk3, hkp, hi3⟩ := hp
      obtain ⟨hr, hl3, hl4, hd4⟩ := fin none hk3
      exact ⟨_, _, hr, Or.inl ⟨rfl, ⟨hIp _ _ _ _ _ hi3 (by omega) hl3, hl4, hd4⟩, hKt (hKt hk2 hkp) (hKb _ _ _ _ (by omega) hl3)⟩⟩
    | ret =>
      obtain ⟨hk3, hi3⟩ := hp
      obtain ⟨hr, hl3, hl4, hd4⟩ := fin (some .ret) hk3
      exact ⟨_, _, hr, Or.inr ⟨rfl, hXp _ _ _ _ _ hi3 (by omega) hl3, hl4, hd4⟩⟩
    | exit id => exact hp.elim
    | goto t => exact hp.elim
    | panic c => exact hp.elim
    | outgrown => exact hp.elim
  | ret => exact hp.elim
  | exit id => exact hp.elim
  | goto t => exact hp.elim
  | panic c => exact hp.elim
  | outgrown => exact hp.elim
 ·rintro e W2 ⟨⟨v, rfl⟩, ⟨s, hS, hi, hl, hd⟩ | ⟨s, hi, hl, hd⟩⟩
  ·refine ⟨none, _, by have := run_endLoop (P := P) hl (by rw [hrec]; simp); rw [hrec] at this; exact this, ?_⟩
   exact hdone _ s _ (Nat.le_refl _) hS (hIp _ _ _ _ _ hi (by omega) hl) ((World.putObj_heap_other (by omega)).trans hd)
  ·refine ⟨some .ret, _, by have := run_endLoop (P := P) hl (by rw [hrec]; simp); rw [hrec] at this; exact this, ?_⟩
   exact hstop _ s _ (Nat.le_refl _) (hXp _ _ _ _ _ hi (by omega) hl) ((World.putObj_heap_other (by omega)).trans hd)

end Go.Proofs.YtmbfpbgkchncgaaGreat
namespace Go.Proofs.YtmbfpbgkchncgaaGreat
open Go.RowKit
attribute [local go_sem] Oper.semAt_some
def encB (x : DLodRef × Bool) : Array Value := #[.agg #[.int .i64 x.1.fKeeper, .string x.1.fName], .bool x.2]
def tt (rs : List DLodRef) : List (DLodRef × Bool) := rs.map fun y => (y, true)
theorem tt_snoc (rs : List DLodRef) (y : DLodRef) : tt (rs ++ [y]) = tt rs ++ [(y, true)] := by simp [tt]
def PT (p : DLodPlan) (r : DLodRef) (rs : List DLodRef) (y : DLodRef) : Prop := rs.length ≤ 6 ∧ There p y ∧ chainR p r = (chainF p (6 - rs.length) y).map (rs ++ ·)
def GivesAt (p : DLodPlan) (r : DLodRef) (s : List (DLodRef × Bool)) (x : DLodRef × Bool) : Prop := ∃ rs, s = tt rs ∧ ((∃ y, x = (y, true) ∧ PT p r rs y) ∨ (x = (noRef, false) ∧ chainR p r = none))
def AllAt (p : DLodPlan) (r : DLodRef) (s : List (DLodRef × Bool)) : Prop := (∃ rs, s = tt rs ∧ chainR p r = some rs) ∨ ∃ rs, s = tt rs ++ [(noRef, false)]
def KpA (n0 rb lb : Nat) (W W' : World) : Prop := n0 ≤ W.heap.size → rb < W.heap.size → lb < W.heap.size → Below n0 W W' ∧ W'.heap[rb]? = W.heap[rb]? ∧ W'.heap[lb]? = W.heap[lb]?
theorem kpA_t {n0 rb lb : Nat} {A B C : World} (h : KpA n0 rb lb A B) (k : KpA n0 rb lb B C) : KpA n0 rb lb A C := by
 intro h1 h2 h3
 obtain ⟨b, r, l⟩ := h h1 h2 h3
 have := b.size
 obtain ⟨b', r', l'⟩ := k (by omega) (by omega) (by omega)
 exact ⟨b.trans b', r'.trans r, l'.trans l⟩
theorem kpA_w (n0 rb lb : Nat) (W W' : World) (h : Below W.heap.size W W') : KpA n0 rb lb W W' := fun h1 h2 h3 => ⟨h.mono h1, h.block _ h2, h.block _ h3⟩

theorem I_above_gives (p : DLodPlan) (L : Nat) (r : DLodRef) (w0 w : World) (hl : Lodge w0 L p) (hp : lodOk p = true) (ht : There p r) (hb : Below w0.heap.size w0 w) (rb lb m : Nat) (hrb : w0.heap.size ≤ rb) (hlb : w0.heap.size ≤ lb) (hne : rb ≠ lb)
  (crb : w.heap[rb]? = some (.cells #[.int .i64 r.fKeeper, .string r.fName] 42 (0, 0))) (clb : w.heap[lb]? = some (.cells #[.pointer (some ⟨L, 0, none⟩)] 92 (0, 0))) :
  Gives Tryz.prog 147 #[.pointer (some ⟨rb, 0, none⟩), .pointer (some ⟨lb, 0, none⟩)] encB (KpA w0.heap.size rb lb) (GivesAt p r) (AllAt p r) rb 6 m w := by
 intro l J Jx W hbW hJb hJc hJn hY h0
 refine callsIn_of_wp Tryz.func147 rfl trivial ?_ rfl
 simp only [Tryz.ntmps147, List.size_toArray, List.length_cons, List.length_nil, Nat.reduceAdd, Nat.reduceSub, Array.replicate_succ, Array.replicate_zero, List.push_toArray, List.append_toArray, List.nil_append, List.cons_append]
 have hrl : rb < w.heap.size := (Array.getElem?_eq_some_iff.1 crb).1
 have hll : lb < w.heap.size := (Array.getElem?_eq_some_iff.1 clb).1
 have CRB : Hid (W.heap[rb]? = some (.cells #[.int .i64 r.fKeeper, .string r.fName] 42 (0, 0))) := qhd ((hbW.block rb hrl).trans crb)
 have CLB : Hid (W.heap[lb]? = some (.cells #[.pointer (some ⟨L, 0, none⟩)] 92 (0, 0))) := qhd ((hbW.block lb hll).trans clb)
 have hbW0 : Below w0.heap.size w0 W := hb.trans (hbW.mono hb.size)
 have HL := qhd hl
 have HP := qhd hp
 have HT := qhd ht
 have H0 := qhd h0
 have HY := qhd hY
 have HJB := qhd hJb
 have HJC := qhd hJc
 have HJN := qhd hJn
 clear crb clb hl hp ht h0 hY hJb hJc hJn hb
 gi_wp2
 gi_loopg [] 7 (fun gk wr => ∃ (rs : List DLodRef) (y : DLodRef), gk = 7 - rs.length ∧ PT p r rs y ∧ J (tt rs) wr ∧ Below w0.heap.size w0 wr ∧ wr.heap[rb]? = some (.cells #[.int .i64 y.fKeeper, .string y.fName] 42 (0, 0)) ∧ wr.heap[lb]? = some (.cells #[.pointer (some ⟨L, 0, none⟩)] 92 (0, 0)))
 case atStart => exact ⟨[], r, rfl, ⟨by simp, HT.out, by simp [chainR]⟩, H0.out, hbW0, CRB.out, CLB.out⟩
 case round =>
  clear CRB CLB H0 hbW hbW0
  obtain ⟨rs, ⟨yk, yn⟩, hgk, hpt, hj, hb, crb, clb⟩ := hrel
  obtain ⟨hlen, hthere, hch⟩ := id hpt
  obtain ⟨j, hj1, hj2, hj3, hj4⟩ := id hthere
  simp only at hj1 hj2 hj3 hj4
  subst hj1
  obtain ⟨b0, b1, bf0, bf1⟩ := two_cells crb
  have c0 : wr.cell? ⟨lb, 0, none⟩ = some (.pointer (some ⟨L, 0, none⟩)) := by simp [World.cell?, clb]
  obtain ⟨fn, tmps, assign, body, hy, hR⟩ := HY.out (tt rs) (⟨(j : Int), yn⟩, true) wr hj ⟨rs, rfl, Or.inl ⟨_, rfl, hpt⟩⟩
  have HGK := qhd hgk
  have HCH := qhd hch
  have CRB := qhd crb
  have CLB := qhd clb
  have HTH := qhd hthere
  clear hpt hgk hch crb clb hthere hj
  unfold encB at hy
  dsimp only at hy
  gi_wp2
  refine hR.mono ?_
  rintro e W3 (⟨rfl, hJ3, hk⟩ | ⟨rfl, hJx3⟩)
  ·obtain ⟨hk3, hk3r, hk3l⟩ := hk hb.size (Array.getElem?_eq_some_iff.1 CRB.out).1 (Array.getElem?_eq_some_iff.1 CLB.out).1
   clear hk
   have hb3 : Below w0.heap.size w0 W3 := hb.trans hk3
   have hb3s := hb3.size
   have crb3 : W3.heap[rb]? = some (.cells #[.int .i64 (j : Int), .string yn] 42 (0, 0)) := hk3r.trans CRB.out
   have clb3 : W3.heap[lb]? = some (.cells #[.pointer (some ⟨L, 0, none⟩)] 92 (0, 0)) := hk3l.trans CLB.out
   obtain ⟨d0, d1, df0, df1⟩ := two_cells crb3
   have e0 : W3.cell? ⟨lb, 0, none⟩ = some (.pointer (some ⟨L, 0, none⟩)) := by simp [World.cell?, clb3]
   have hN : rs.length + 1 ≤ 6 := by have := HJN.out _ _ hJ3; simpa [tt] using this
   obtain ⟨c, hc⟩ := HTH.out.cls
   have HC := qhd hc
   have J3 := qhd hJ3
   have CRB3 := qhd crb3
   have CLB3 := qhd clb3
   clear hk3 hk3r hk3l crb3 clb3 b0 b1 bf0 bf1 c0 hc hJ3 CRB CLB hb
   gi_wp2_with (refine ⟨trivial, ?_⟩; gi_at_call 84; refine (callsIn_wide.2 (I_class p L ⟨(j : Int), yn⟩ c W3 (HL.out.below hb3) HC.out hj4 HP.out)).mono ?_; rintro _ wA ⟨⟨v, rfl, a1, l1, c1, a2, l2, c2, rfl, d1', d2', by1, by2⟩, hA⟩)
   have hEA := hb3.trans (hA.mono hb3s)
   have hEAs := hEA.size
   have CRBA : Hid (wA.heap[rb]? = some (.cells #[.int .i64 (j : Int), .string yn] 42 (0, 0))) := qhd ((hA.block rb (Array.getElem?_eq_some_iff.1 CRB3.out).1).trans CRB3.out)
   have CLBA : Hid (wA.heap[lb]? = some (.cells #[.pointer (some ⟨L, 0, none⟩)] 92 (0, 0))) := qhd ((hA.block lb (Array.getElem?_eq_some_iff.1 CLB3.out).1).trans CLB3.out)
   have JA : Hid (J (tt (rs ++ [⟨(j : Int), yn⟩])) wA) := qhd (by rw [tt_snoc]; exact HJB.out _ _ _ J3.out hA)
   replace d0 := qaa hA d0
   replace d1 := qaa hA d1
   replace e0 := qaa hA e0
   clear J3 CRB3 CLB3 df0 df1
   have hfld : ∀ W, (Instr.field 29 (.agg #[.string c.fName, .string c.fSuper, .slice a1 l1 c1, .slice a2 l2 c2]) 1).run Tryz.prog W = .ok (.string c.fSuper) W := fun _ => by kernel_rfl
   obtain ⟨qe, hqe⟩ : ∃ qe, qe = c.fSuper.toList.isEmpty := ⟨_, rfl⟩
   cases qe
   ·have HQ : Hid (c.fSuper.toList.isEmpty = false) := qhd hqe.symm
    have q2 : ¬ c.fSuper.toList = [] := by simpa using hqe.symm
    have q3 : c.fSuper.toList.isEmpty = false := hqe.symm
    clear hqe
    have KC : ∀ wC, Below wA.heap.size wA wC → wC.heap[rb]? = some (.cells #[.int .i64 (j : Int), .string yn] 42 (0, 0)) ∧ wC.heap[lb]? = some (.cells #[.pointer (some ⟨L, 0, none⟩)] 92 (0, 0)) ∧ J (tt (rs ++ [⟨(j : Int), yn⟩])) wC := fun wC hC =>
     ⟨(hC.block rb (Array.getElem?_eq_some_iff.1 CRBA.out).1).trans CRBA.out, (hC.block lb (Array.getElem?_eq_some_iff.1 CLBA.out).1).trans CLBA.out, HJB.out _ _ _ JA.out hC⟩
    rcases whoseR_code p j c.fSuper with hcd | ⟨hcd, hno⟩
    ·obtain ⟨j', he, hj'1, hj'2⟩ := whoseR_there HP.out hj2 hcd
     have UP : Hid (chainR p r = (chainF p (6 - (rs.length + 1)) ⟨(j' : Int), c.fSuper⟩).map ((rs ++ [⟨(j : Int), yn⟩]) ++ ·)) := qhd (by
      have h5 := HCH.out
      rw [show 6 - rs.length = (6 - (rs.length + 1)) + 1 by omega] at h5
      have h6 := chain_up h5 HC.out HQ.out (by simpa using hcd)
      simp only [Int.toNat_natCast] at h6
      rw [he] at h6
      exact h6)
     have SW : ∀ W, Below w0.heap.size w0 W → Calls Tryz.prog 118 #[.pointer (some ⟨L, 0, none⟩), .int .i64 (j : Int), .string c.fSuper] W fun e w' => e = .returned (.tuple #[.agg #[.int .i64 (j' : Int), .string c.fSuper], .int .i64 1]) ∧ Below W.heap.size W w' := fun W hW => by
      have h := I_resolve p L j c.fSuper W (HL.out.below hW) HP.out hj2 by2
      rw [he] at h
      exact h
     clear hcd he
     simp only [hfld, Result.andThen]
     gi_wp2_with (refine ⟨trivial, ?_⟩; gi_at_call 118; refine (callsIn_wide.2 (SW wA hEA)).mono ?_; rintro _ wC ⟨rfl, hC⟩; obtain ⟨crbC, clbC, hJC⟩ := KC wC hC; have CRBC := qhd crbC; have CLBC := qhd clbC; have JC := qhd hJC; have hrC := (Array.getElem?_eq_some_iff.1 crbC).1; have hlC := (Array.getElem?_eq_some_iff.1 clbC).1; have hEC := hEA.trans (hC.mono hEAs); have hECs := hEC.size; clear d0 d1 e0; obtain ⟨d0, d1, df0, df1⟩ := two_cells crbC; clear crbC clbC hJC)
     gi_roundg (7 - (rs.length + 1))
     case measure => have := HGK.out; omega
     case rel =>
      refine ⟨rs ++ [⟨(j : Int), yn⟩], ⟨(j' : Int), c.fSuper⟩, by simp, ⟨by simp; omega, ⟨j', rfl, hj'1, hj'2, by2⟩, by simpa using UP.out⟩, ?_, ?_, ?_, ?_⟩
      ·exact HJB.out _ _ _ (HJC.out _ _ _ _ (HJC.out _ _ _ _ JC.out)) ((Below.refl _ _).alloc (Nat.le_refl _) _)
      ·exact (((hEC.setCell (by show _ ≤ rb; omega) _).setCell (by show _ ≤ rb; omega) _)).alloc (by simp; omega) _
      ·have h := heap_setCell_at (i := 1) (v := .string c.fSuper) (heap_setCell_at (i := 0) (v := .int .i64 (j' : Int)) CRBC.out)
       rw [Below.heap_alloc _ _ _ (by simpa using hrC)]
       simpa using h
      ·rw [Below.heap_alloc _ _ _ (by simpa using hlC), Below.heap_setCell _ _ _ _ (show lb ≠ rb from fun e => hne e.symm), Below.heap_setCell _ _ _ _ (show lb ≠ rb from fun e => hne e.symm)]
       exact CLBC.out
    ·obtain ⟨cd, hcde⟩ : ∃ cd, cd = (whoseR p j c.fSuper).2 := ⟨_, rfl⟩
     have hjw : whoseR p j c.fSuper = (noRef, cd) := by rw [hcde]; exact Prod.ext hno rfl
     rw [← hcde] at hcd
     have RES : Hid (chainR p r = none) := qhd (by
      have h5 := HCH.out
      rw [show 6 - rs.length = (5 - rs.length) + 1 by omega] at h5
      exact chain_out h5 HC.out HQ.out (by simp only [Int.toNat_natCast]; rw [← hcde]; exact hcd))
     have SW : ∀ W, Below w0.heap.size w0 W → Calls Tryz.prog 118 #[.pointer (some ⟨L, 0, none⟩), .int .i64 (j : Int), .string c.fSuper] W fun e w' => e = .returned (.tuple #[.agg #[.int .i64 0, .string ⟨#[]⟩], .int .i64 cd]) ∧ Below W.heap.size W w' := fun W hW => by
      have h := I_resolve p L j c.fSuper W (HL.out.below hW) HP.out hj2 by2
      rw [hjw] at h
      exact h
     have Y2 := fun (wC : World) (hC : Below wA.heap.size wA wC) => HY.out (tt (rs ++ [⟨(j : Int), yn⟩])) (noRef, false) (wC.alloc (.cells #[.int .i64 0, .string ⟨#[]⟩] 42)) (HJB.out _ _ _ (KC wC hC).2.2 ((Below.refl _ _).alloc (Nat.le_refl _) _)) ⟨rs ++ [⟨(j : Int), yn⟩], rfl, Or.inr ⟨rfl, RES.out⟩⟩
     unfold encB noRef at Y2
     dsimp only at Y2
     have i1 : (cd != 1) = true := by simpa using hcd
     have i2 : (cd == 1) = false := by simpa using hcd
     clear hcde hjw hno hcd
     simp only [hfld, Result.andThen]
     gi_wp2_with (refine ⟨trivial, ?_⟩; gi_at_call 118; refine (callsIn_wide.2 (SW wA hEA)).mono ?_; rintro _ wC ⟨rfl, hC⟩; obtain ⟨fn2, tmps2, assign2, body2, hy2, hR2⟩ := Y2 wC hC; obtain ⟨crbC, clbC, hJC⟩ := KC wC hC; obtain ⟨d0, d1, df0, df1⟩ := two_cells crbC)
     refine hR2.mono ?_
     rintro e W4 (⟨rfl, hJ4, _⟩ | ⟨rfl, hJ4⟩)
     ·gi_wp2
      refine bodyPost_ret (results_none rfl _ _ _) rfl ?_
      exact ⟨⟨_, rfl⟩, Or.inl ⟨_, Or.inr ⟨_, rfl⟩, hJ4⟩⟩
     ·gi_wp2
      refine bodyPost_ret (results_none rfl _ _ _) rfl ?_
      exact ⟨⟨_, rfl⟩, Or.inr ⟨_, hJ4⟩⟩
   ·have HQ : Hid (c.fSuper.toList.isEmpty = true) := qhd hqe.symm
    have q2 : c.fSuper.toList = [] := by simpa using hqe.symm
    have q3 : c.fSuper.toList.isEmpty = true := hqe.symm
    have RES : Hid (chainR p r = some (rs ++ [⟨(j : Int), yn⟩])) := qhd (by
     have h5 := HCH.out
     rw [show 6 - rs.length = (5 - rs.length) + 1 by omega] at h5
     exact chain_end h5 HC.out HQ.out)
    clear hqe
    simp only [hfld, Result.andThen]
    gi_wp2
    refine bodyPost_ret (results_none rfl _ _ _) rfl ?_
    exact ⟨⟨_, rfl⟩, Or.inl ⟨_, Or.inl ⟨_, rfl, RES.out⟩, JA.out⟩⟩
  ·gi_wp2
   go_end0
   exact ⟨⟨_, rfl⟩, Or.inr ⟨_, hJx3⟩⟩

end Go.Proofs.YtmbfpbgkchncgaaGreat
namespace Go.Proofs.YtmbfpbgkchncgaaGreat
open Go.RowKit
attribute [local go_sem] Oper.semAt_some
theorem I_above (L : Nat) (r : DLodRef) (w : World) :
  Calls Tryz.prog 119 #[.pointer (some ⟨L, 0, none⟩), .agg #[.int .i64 r.fKeeper, .string r.fName]] w fun e w' => e = .returned (.func (.func 147) #[] #[.pointer (some ⟨w.heap.size + 1, 0, none⟩), .pointer (some ⟨w.heap.size, 0, none⟩)]) ∧ w' = (w.alloc (.cells #[.pointer (some ⟨L, 0, none⟩)] 92)).alloc (.cells #[.int .i64 r.fKeeper, .string r.fName] 42) := by
 refine qab fun R HR => ?_
 go_enter Tryz.func119, Tryz.ntmps119
 go_wp2
 all_goals (try go_returns)
 all_goals exact HR.out _ _ ⟨rfl, rfl⟩

def ClimbI (w0 : World) (s : List (DLodRef × Bool)) (W : World) : Prop := ∃ rs v, s = tt rs ∧ rs.length ≤ 6 ∧ Below w0.heap.size w0 W ∧ W.heap[w0.heap.size + 1]? = some (.cells #[.slice none 0 0] 55 (0, 0)) ∧ W.heap[w0.heap.size + 1 + 1]? = some (.cells #[.bool false] 4 (0, 0)) ∧ W.heap[w0.heap.size + 1 + 1 + 1]? = some (.cells #[v] 55 (0, 0)) ∧ Refs W (w0.heap.size + 1 + 1 + 1 + 1 + 1 + 1) v rs ∧ w0.heap.size + 1 + 1 + 1 + 1 + 1 + 1 ≤ W.heap.size
def ClimbX (p : DLodPlan) (r : DLodRef) (w0 : World) (_ : List (DLodRef × Bool)) (W : World) : Prop := chainR p r = none ∧ Below w0.heap.size w0 W ∧ W.heap[w0.heap.size + 1]? = some (.cells #[.slice none 0 0] 55 (0, 0)) ∧ W.heap[w0.heap.size + 1 + 1]? = some (.cells #[.bool false] 4 (0, 0))
theorem putObj_below {n0 : Nat} {W : World} {l : Nat} (o' : Obj) (h : n0 ≤ l) : Below n0 W (W.putObj l o') := ⟨rfl, rfl, rfl, by simp, fun k hk => World.putObj_heap_other (by omega)⟩
theorem Refs.form0 {w : World} {base : Nat} {v : Value} {rs : List DLodRef} (h : Refs w base v rs) : ∃ a cap, v = .slice a rs.length cap := by
 obtain ⟨_, h⟩ := h
 rcases h with ⟨h1, h0⟩ | ⟨g, cap, cur, h1, _⟩
 ·exact ⟨none, 0, by rw [h1, h0]⟩
 ·exact ⟨_, cap, h1⟩
theorem Refs.put {w : World} {base l : Nat} {v : Value} {rs : List DLodRef} {rec : Loop} (o' : Obj) (h : Refs w base v rs) (hl : w.heap[l]? = some (.loop rec)) : Refs (w.putObj l o') base v rs := by
 obtain ⟨h0, h⟩ := h
 rcases h with h | ⟨g, cap, cur, h1, h2, h3, h4⟩
 ·exact ⟨h0, Or.inl h⟩
 ·refine ⟨h0, Or.inr ⟨g, cap, cur, h1, h2, ?_, h4⟩⟩
  rw [World.putObj_heap_other]
  ·exact h3
  ·intro e; subst e; rw [hl] at h3; cases h3

theorem heap_top {w : World} {o : Obj} {k : Nat} (h : k = w.heap.size) : (w.alloc o).heap[k]? = some o := by subst h; exact World.alloc_heap_new w o
theorem tt_inj {a b : List DLodRef} (h : tt a = tt b) : a = b := by
 have h1 := congrArg (List.map Prod.fst) h
 simpa [tt, Function.comp_def] using h1
theorem tt_odd {a b : List DLodRef} : tt a ≠ tt b ++ [(noRef, false)] := by
 intro h
 have h1 : (noRef, false) ∈ tt a := by rw [h]; simp
 simp [tt] at h1
theorem Refs.ge {w : World} {base g : Nat} {v : Value} {rs : List DLodRef} (h : Refs w base v rs) (hg : v.ownBlock = some g) : base ≤ g := by
 obtain ⟨_, h⟩ := h
 rcases h with ⟨h1, h0⟩ | ⟨g', cap, cur, h1, h2, _⟩
 ·rw [h1] at hg; cases hg
 ·rw [h1] at hg; cases hg; exact h2
theorem Refs.cells {w : World} {base g : Nat} {v : Value} {rs : List DLodRef} (h : Refs w base v rs) (hg : v.ownBlock = some g) : ∃ cs t fr, w.heap[g]? = some (.cells cs t fr) := by
 obtain ⟨_, h⟩ := h
 rcases h with ⟨h1, h0⟩ | ⟨g', cap, cur, h1, h2, h3, _⟩
 ·rw [h1] at hg; cases hg
 ·rw [h1] at hg; cases hg; exact ⟨_, _, _, h3⟩
def ClimbA (L : Nat) (r : DLodRef) (w0 : World) (s : List (DLodRef × Bool)) (x : DLodRef × Bool) (b : Act) (W : World) : Prop := ClimbI w0 s W ∧ ∃ k, w0.heap.size + 1 + 1 + 1 + 1 + 1 + 1 ≤ k ∧ W.heap[k]? = some (.cells #[.int .i64 x.1.fKeeper, .string x.1.fName] 42 (0, 0)) ∧
 b = { tmps := #[.pointer (some ⟨L, 0, none⟩), .agg #[.int .i64 r.fKeeper, .string r.fName], undef, .pointer (some ⟨w0.heap.size, 0, none⟩), .pointer (some ⟨w0.heap.size + 1, 0, none⟩), .pointer (some ⟨w0.heap.size + 1 + 1, 0, none⟩), .pointer (some ⟨w0.heap.size + 1 + 1 + 1, 0, none⟩), .pointer (some ⟨k, 0, none⟩), .bool x.2, .pointer (some ⟨L, 0, none⟩), .agg #[.int .i64 r.fKeeper, .string r.fName], .func (.func 147) #[] #[.pointer (some ⟨w0.heap.size + 1 + 1 + 1 + 1 + 1, 0, none⟩), .pointer (some ⟨w0.heap.size + 1 + 1 + 1 + 1, 0, none⟩)], .agg #[.int .i64 x.1.fKeeper, .string x.1.fName], .bool x.2, undef, undef, undef, undef, undef, undef, undef, undef, undef, undef, undef, undef], defers := [] }
theorem climbI_put {w0 : World} {s : List (DLodRef × Bool)} {W : World} {l : Nat} {rec : Loop} (o' : Obj) (h : ClimbI w0 s W) (hl : w0.heap.size + 1 + 1 + 1 + 1 + 1 + 1 ≤ l) (hr : W.heap[l]? = some (.loop rec)) : ClimbI w0 s (W.putObj l o') := by
 obtain ⟨rs, v, h1, h2, h3, h4, h5, h6, h7, h8⟩ := h
 exact ⟨rs, v, h1, h2, h3.trans (putObj_below o' (by omega)), (World.putObj_heap_other (by omega)).trans h4, (World.putObj_heap_other (by omega)).trans h5, (World.putObj_heap_other (by omega)).trans h6, h7.put o' hr, by simpa using h8⟩
theorem climbI_below {w0 : World} {s : List (DLodRef × Bool)} {W W' : World} (h : ClimbI w0 s W) (hb : Below W.heap.size W W') : ClimbI w0 s W' := by
 obtain ⟨rs, v, h1, h2, h3, h4, h5, h6, h7, h8⟩ := h
 exact ⟨rs, v, h1, h2, h3.trans (hb.mono (by omega)), (hb.block _ (by omega)).trans h4, (hb.block _ (by omega)).trans h5, (hb.block _ (by omega)).trans h6, h7.below hb, by have := hb.size; omega⟩
theorem climbI_cell {w0 : World} {s : List (DLodRef × Bool)} {W : World} (i : Nat) (u : Value) (h : ClimbI w0 s W) : ClimbI w0 s (W.setCell ⟨w0.heap.size + 1 + 1 + 1 + 1 + 1, i, none⟩ u) := by
 obtain ⟨rs, v, h1, h2, h3, h4, h5, h6, h7, h8⟩ := h
 refine ⟨rs, v, h1, h2, h3.setCell (by show _ ≤ w0.heap.size + 1 + 1 + 1 + 1 + 1; omega) _, ?_, ?_, ?_, h7.kept fun g hg => ?_, by simpa using h8⟩
 ·rw [Below.heap_setCell _ _ _ _ (by show _ ≠ w0.heap.size + 1 + 1 + 1 + 1 + 1; omega)]; exact h4
 ·rw [Below.heap_setCell _ _ _ _ (by show _ ≠ w0.heap.size + 1 + 1 + 1 + 1 + 1; omega)]; exact h5
 ·rw [Below.heap_setCell _ _ _ _ (by show _ ≠ w0.heap.size + 1 + 1 + 1 + 1 + 1; omega)]; exact h6
 ·have := h7.ge hg
  rw [Below.heap_setCell _ _ _ _ (by show _ ≠ w0.heap.size + 1 + 1 + 1 + 1 + 1; omega)]

theorem I_climb (p : DLodPlan) (L : Nat) (r : DLodRef) (w : World) (hl : Lodge w L p) (hp : lodOk p = true) (ht : There p r) :
  Calls Tryz.prog 86 #[.pointer (some ⟨L, 0, none⟩), .agg #[.int .i64 r.fKeeper, .string r.fName]] w (ChainPost w (chainR p r)) := by
 refine (callsIn_wide (n := 3)).1 ?_
 refine callsIn_of_wp_marks Tryz.func86 rfl trivial ?_ rfl
 simp only [Tryz.ntmps86, List.size_toArray, List.length_cons, List.length_nil, Nat.reduceAdd, Nat.reduceSub, Array.replicate_succ, Array.replicate_zero, List.push_toArray, List.append_toArray, List.nil_append, List.cons_append]
 have HL := qhd hl
 have HP := qhd hp
 have HT := qhd ht
 clear hl hp ht
 obtain ⟨i0, hi, hz0, hz1, hz2⟩ := info_parts (show (Tryz.prog.info? 42).map (fun i => (i.zero, i.size, i.bytes)) = some (some (.agg #[.int .i64 0, .string ⟨#[]⟩]), 2, 24) by kernel_rfl)
 have I0 := qhd hi
 have Z0 := qhd hz0
 have Z1 := qhd hz1
 have Z2 := qhd hz2
 clear hi hz0 hz1 hz2
 gi_wp2_with (refine ⟨trivial, ?_⟩; gi_at_call 119; refine (callsIn_wide.2 (I_above L r _)).mono ?_; rintro e w' ⟨rfl, rfl⟩)
 obtain ⟨wS, hwS⟩ : ∃ wS, wS = ((((((w.alloc (.cells #[.int .i64 r.fKeeper, .string r.fName] 42)).alloc (.cells #[.slice none 0 0] 55)).alloc (.cells #[.bool false] 4)).alloc (.cells #[.slice none 0 0] 55)).alloc (.cells #[.pointer (some ⟨L, 0, none⟩)] 92)).alloc (.cells #[.int .i64 r.fKeeper, .string r.fName] 42)) := ⟨_, rfl⟩
 rw [← hwS]
 have hbS : Below w.heap.size w wS := by rw [hwS]; exact bbel
 have hsz : wS.heap.size = w.heap.size + 1 + 1 + 1 + 1 + 1 + 1 := by rw [hwS]; simp only [World.size_alloc]
 have k1 : wS.heap[w.heap.size + 1]? = some (.cells #[.slice none 0 0] 55 (0, 0)) := by rw [hwS]; repeat (first | refine (Below.heap_alloc _ _ _ (by simp only [World.size_alloc]; omega)).trans ?_ | exact heap_top (by simp only [World.size_alloc]))
 have k2 : wS.heap[w.heap.size + 1 + 1]? = some (.cells #[.bool false] 4 (0, 0)) := by rw [hwS]; repeat (first | refine (Below.heap_alloc _ _ _ (by simp only [World.size_alloc]; omega)).trans ?_ | exact heap_top (by simp only [World.size_alloc]))
 have k3 : wS.heap[w.heap.size + 1 + 1 + 1]? = some (.cells #[.slice none 0 0] 55 (0, 0)) := by rw [hwS]; repeat (first | refine (Below.heap_alloc _ _ _ (by simp only [World.size_alloc]; omega)).trans ?_ | exact heap_top (by simp only [World.size_alloc]))
 have k4 : wS.heap[w.heap.size + 1 + 1 + 1 + 1]? = some (.cells #[.pointer (some ⟨L, 0, none⟩)] 92 (0, 0)) := by rw [hwS]; repeat (first | refine (Below.heap_alloc _ _ _ (by simp only [World.size_alloc]; omega)).trans ?_ | exact heap_top (by simp only [World.size_alloc]))
 have k5 : wS.heap[w.heap.size + 1 + 1 + 1 + 1 + 1]? = some (.cells #[.int .i64 r.fKeeper, .string r.fName] 42 (0, 0)) := by rw [hwS]; repeat (first | refine (Below.heap_alloc _ _ _ (by simp only [World.size_alloc]; omega)).trans ?_ | exact heap_top (by simp only [World.size_alloc]))
 clear hwS
 refine range_gives (α := DLodRef × Bool) (m := 1) (gf := 147) (lb := #[.pointer (some ⟨w.heap.size + 1 + 1 + 1 + 1 + 1, 0, none⟩), .pointer (some ⟨w.heap.size + 1 + 1 + 1 + 1, 0, none⟩)]) rfl (enters_of Tryz.func147 (by kernel_rfl) rfl) (enc := encB) (fun _ => rfl) (Kp := KpA w.heap.size (w.heap.size + 1 + 1 + 1 + 1 + 1) (w.heap.size + 1 + 1 + 1 + 1)) kpA_t ?Kb (kpA_w _ _ _) (G := GivesAt p r) (S := AllAt p r) (rb := w.heap.size + 1 + 1 + 1 + 1 + 1) (N := 6) (by omega)
  (I_above_gives p L r w wS HL.out HP.out HT.out hbS _ _ 1 (by omega) (by omega) (by omega) k5 k4) (ClimbI w) (ClimbX p r w) (ClimbA L r w) (fun s W W' h hb => climbI_below h hb) (fun s W l rec o' h hl hr => climbI_put o' h (by omega) hr) ?Xp ?Ap (fun s W i v h => climbI_cell i v h) ?In ?h0 ?assign ?body ?done ?stop
 case Kb =>
  intro W l rec o' hl hr h1 h2 h3
  exact ⟨putObj_below o' (by omega), World.putObj_heap_other (by omega), World.putObj_heap_other (by omega)⟩
 case Xp =>
  rintro s W l rec o' ⟨h1, h2, h3, h4⟩ hl hr
  exact ⟨h1, h2.trans (putObj_below o' (by omega)), (World.putObj_heap_other (by omega)).trans h3, (World.putObj_heap_other (by omega)).trans h4⟩
 case Ap =>
  rintro s x b W l rec o' ⟨hi, k, h1, h2, h3⟩ hl hr
  refine ⟨climbI_put o' hi (by omega) hr, k, h1, ?_, h3⟩
  rw [World.putObj_heap_other]
  ·exact h2
  ·intro e; subst e; rw [hr] at h2; cases h2
 case In =>
  rintro s W ⟨rs, v, rfl, h, _⟩
  simpa [tt] using h
 case h0 => exact ⟨[], .slice none 0 0, rfl, by simp, hbS, k1, k2, k3, ⟨rfl, Or.inl ⟨rfl, rfl⟩⟩, by omega⟩
 case assign =>
  intro l s x W hI hG
  clear k1 k2 k3 k4 k5
  have HI := qhd hI
  obtain ⟨rs, v, h1, h2, h3, h4, h5, h6, h7, h8⟩ := hI
  clear h1 h2 h3 h4 h5 h6 h7
  unfold encB
  dsimp only [List.zip_toArray, Array.zip]
  gi_wp2
  exact ⟨(Below.refl _ _).alloc (Nat.le_refl _) _, climbI_below HI.out ((Below.refl _ _).alloc (Nat.le_refl _) _), _, h8, heap_top rfl, rfl⟩
 case body =>
  clear k1 k2 k3 k4 k5
  rintro l s ⟨x, ok⟩ b W ⟨⟨rs, v, rfl, h2, h3, h4, h5, h6, h7, h8⟩, k, hk, hkc, rfl⟩ ⟨rs', hrs, hG⟩
  obtain rfl := tt_inj hrs
  obtain ⟨va, vc, rfl⟩ := h7.form0
  have d4 : W.cell? ⟨w.heap.size + 1, 0, none⟩ = some (.slice none 0 0) := by simp [World.cell?, h4]
  have d5 : W.cell? ⟨w.heap.size + 1 + 1, 0, none⟩ = some (.bool false) := by simp [World.cell?, h5]
  have d6 : W.cell? ⟨w.heap.size + 1 + 1 + 1, 0, none⟩ = some (.slice va rs.length vc) := by simp [World.cell?, h6]
  have f4 : W.frozen? ⟨w.heap.size + 1, 0, none⟩ = false := by simp [World.frozen?, h4]
  have f5 : W.frozen? ⟨w.heap.size + 1 + 1, 0, none⟩ = false := by simp [World.frozen?, h5]
  have f6 : W.frozen? ⟨w.heap.size + 1 + 1 + 1, 0, none⟩ = false := by simp [World.frozen?, h6]
  obtain ⟨e0, e1, _, _⟩ := two_cells hkc
  have out : chainR p r = none → roundEnd (w.heap.size + 1 + 1 + 1 + 1 + 1 + 1) (KpA w.heap.size (w.heap.size + 1 + 1 + 1 + 1 + 1) (w.heap.size + 1 + 1 + 1 + 1)) (ClimbI w) (ClimbX p r w) (tt rs ++ [(x, ok)]) W .ret { tmps := #[], defers := [] } ((W.setCell ⟨w.heap.size + 1, 0, none⟩ (.slice none 0 0)).setCell ⟨w.heap.size + 1 + 1, 0, none⟩ (.bool false)) := fun hc => by
   refine ⟨((KeepsOthers.setCell _ _ _).trans (KeepsOthers.setCell _ _ _)).from _, hc, (h3.setCell (by show _ ≤ w.heap.size + 1; omega) _).setCell (by show _ ≤ w.heap.size + 1 + 1; omega) _, ?_, ?_⟩
   ·rw [Below.heap_setCell _ _ _ _ (by show _ ≠ w.heap.size + 1 + 1; omega)]
    have h := heap_setCell_at (i := 0) (v := .slice none 0 0) h4
    simpa using h
   ·have h := heap_setCell_at (i := 0) (v := .bool false) ((Below.heap_setCell W ⟨w.heap.size + 1, 0, none⟩ (.slice none 0 0) (w.heap.size + 1 + 1) (by show _ ≠ w.heap.size + 1; omega)).trans h5)
    simpa using h
  have OUT := qhd out
  clear out
  rcases hG with ⟨y, hy, hpt⟩ | ⟨hy, hno⟩
  ·cases hy
   by_cases h6l : rs.length = 6
   ·have HNO : Hid (chainR p r = none) := qhd (by
     have h := hpt.2.2
     rw [h6l] at h
     exact chain_deep h)
    gi_wp2
    exact OUT.out HNO.out
   ·have hlt : rs.length ≤ 5 := by omega
    have C0 : (W.alloc (.cells #[.int .i64 x.fKeeper, .string x.fName] 42)).ownsRow (w.heap.size + 1 + 1 + 1 + 1 + 1 + 1) 42 2 (.slice va rs.length vc) rs.length (flatR rs) := h7.below ((Below.refl _ _).alloc (Nat.le_refl _) _)
    have C1 : ∀ j u, ([.int .i64 x.fKeeper, .string x.fName] : List Value)[j]? = some u → (W.alloc (.cells #[.int .i64 x.fKeeper, .string x.fName] 42)).cell? ((⟨W.heap.size, 0, none⟩ : Addr).add j) = some u := by
     intro q u hq
     match q, hq with
     | 0, hq => cases hq; simp [Addr.add]
     | 1, hq => cases hq; simp [Addr.add]
     | q + 2, hq => simp at hq
    have C2 : ∀ u ∈ ([.int .i64 x.fKeeper, .string x.fName] : List Value), u.oneCell' = true := by intro u hu; simp at hu; rcases hu with rfl | rfl <;> rfl
    have C3 : rs.length + 1 ≤ maxLen := by unfold maxLen; omega
    have C4 : (rs.length + 1) * 24 ≤ 140737488355328 := by omega
    have C5 : w.heap.size + 1 + 1 + 1 + 1 + 1 + 1 ≤ (W.alloc (.cells #[.int .i64 x.fKeeper, .string x.fName] 42)).heap.size := by simp; omega
    have APP : ∀ v' w1, w1.ownsRow (w.heap.size + 1 + 1 + 1 + 1 + 1 + 1) 42 2 v' (rs.length + 1) (flatR rs ++ [.int .i64 x.fKeeper, .string x.fName]) → (W.alloc (.cells #[.int .i64 x.fKeeper, .string x.fName] 42)).grownBy w1 (Value.slice va rs.length vc).ownBlock →
      w1.cell? ⟨w.heap.size + 1 + 1 + 1, 0, none⟩ = some (.slice va rs.length vc) ∧ w1.frozen? ⟨w.heap.size + 1 + 1 + 1, 0, none⟩ = false ∧ (∃ a c, v' = .slice a (rs.length + 1) c) ∧
      roundEnd (w.heap.size + 1 + 1 + 1 + 1 + 1 + 1) (KpA w.heap.size (w.heap.size + 1 + 1 + 1 + 1 + 1) (w.heap.size + 1 + 1 + 1 + 1)) (ClimbI w) (ClimbX p r w) (tt rs ++ [(x, true)]) W .normal { tmps := #[], defers := [] } (w1.setCell ⟨w.heap.size + 1 + 1 + 1, 0, none⟩ v') := by
     intro v' w1 hown' hg
     have blk : ∀ q, q < W.heap.size + 1 → (Value.slice va rs.length vc).ownBlock ≠ some q → w1.heap[q]? = (W.alloc (.cells #[.int .i64 x.fKeeper, .string x.fName] 42)).heap[q]? := fun q hq hn => hg.block q (by simp; omega) (fun e => hn e.symm)
     have own : ∀ q, q < w.heap.size + 1 + 1 + 1 + 1 + 1 + 1 → (Value.slice va rs.length vc).ownBlock ≠ some q := fun q hq e => by have := h7.ge e; omega
     have B4 : w1.heap[w.heap.size + 1]? = some (.cells #[.slice none 0 0] 55 (0, 0)) := (blk _ (by omega) (own _ (by omega))).trans ((Below.heap_alloc _ _ _ (by omega)).trans h4)
     have B5 : w1.heap[w.heap.size + 1 + 1]? = some (.cells #[.bool false] 4 (0, 0)) := (blk _ (by omega) (own _ (by omega))).trans ((Below.heap_alloc _ _ _ (by omega)).trans h5)
     have B6 : w1.heap[w.heap.size + 1 + 1 + 1]? = some (.cells #[.slice va rs.length vc] 55 (0, 0)) := (blk _ (by omega) (own _ (by omega))).trans ((Below.heap_alloc _ _ _ (by omega)).trans h6)
     have R1 : Refs w1 (w.heap.size + 1 + 1 + 1 + 1 + 1 + 1) v' (rs ++ [x]) := by
      unfold Refs
      rw [List.length_append, flatR_snoc]
      exact hown'
     have kf : KeepsFrom (w.heap.size + 1 + 1 + 1 + 1 + 1 + 1) W w1 := ⟨by have := hg.size; simp at this; omega, fun q o hq ho hc => (blk q (by have := (Array.getElem?_eq_some_iff.1 ho).1; omega) (fun e => by obtain ⟨cs, t, fr, h⟩ := h7.cells e; rw [h] at ho; cases ho; simp [Obj.isCells] at hc)).trans ((Below.heap_alloc _ _ _ (Array.getElem?_eq_some_iff.1 ho).1).trans ho)⟩
     have bel : Below w.heap.size W w1 := ((Below.refl _ W).alloc (by omega) _).grown hg (by simp; omega) (fun q e => by have := h7.ge e; omega)
     have kr : w1.heap[w.heap.size + 1 + 1 + 1 + 1 + 1]? = W.heap[w.heap.size + 1 + 1 + 1 + 1 + 1]? := (blk _ (by omega) (own _ (by omega))).trans (Below.heap_alloc _ _ _ (by omega))
     have kl : w1.heap[w.heap.size + 1 + 1 + 1 + 1]? = W.heap[w.heap.size + 1 + 1 + 1 + 1]? := (blk _ (by omega) (own _ (by omega))).trans (Below.heap_alloc _ _ _ (by omega))
     have g6 : w1.cell? ⟨w.heap.size + 1 + 1 + 1, 0, none⟩ = some (.slice va rs.length vc) := by simp [World.cell?, B6]
     have gf6 : w1.frozen? ⟨w.heap.size + 1 + 1 + 1, 0, none⟩ = false := by simp [World.frozen?, B6]
     have FIN : (roundEnd (w.heap.size + 1 + 1 + 1 + 1 + 1 + 1) (KpA w.heap.size (w.heap.size + 1 + 1 + 1 + 1 + 1) (w.heap.size + 1 + 1 + 1 + 1)) (ClimbI w) (ClimbX p r w) (tt rs ++ [(x, true)]) W .normal { tmps := #[], defers := [] } (w1.setCell ⟨w.heap.size + 1 + 1 + 1, 0, none⟩ v')) := (by
      refine ⟨kf.trans ((KeepsOthers.setCell _ _ _).from _), fun _ _ _ => ⟨bel.setCell (by show _ ≤ w.heap.size + 1 + 1 + 1; omega) _, ?_, ?_⟩, rs ++ [x], v', by rw [tt_snoc], by simp; omega, (h3.trans bel).setCell (by show _ ≤ w.heap.size + 1 + 1 + 1; omega) _, ?_, ?_, ?_, ?_, ?_⟩
      ·rw [Below.heap_setCell _ _ _ _ (by show _ ≠ w.heap.size + 1 + 1 + 1; omega)]; exact kr
      ·rw [Below.heap_setCell _ _ _ _ (by show _ ≠ w.heap.size + 1 + 1 + 1; omega)]; exact kl
      ·rw [Below.heap_setCell _ _ _ _ (by show _ ≠ w.heap.size + 1 + 1 + 1; omega)]; exact B4
      ·rw [Below.heap_setCell _ _ _ _ (by show _ ≠ w.heap.size + 1 + 1 + 1; omega)]; exact B5
      ·have h := heap_setCell_at (i := 0) (v := v') B6
       simpa using h
      ·refine R1.kept fun g hg' => ?_
       have := R1.ge hg'
       rw [Below.heap_setCell _ _ _ _ (by show _ ≠ w.heap.size + 1 + 1 + 1; omega)]
      ·have := kf.size; simp; omega)
     obtain ⟨av, cv, hv⟩ := R1.form0
     rw [List.length_append] at hv
     exact ⟨g6, gf6, ⟨av, cv, hv⟩, FIN⟩
    have HC0 := qhd C0
    have HC1 := qhd C1
    have HC2 := qhd C2
    have HC3 := qhd C3
    have HC4 := qhd C4
    have HC5 := qhd C5
    have HAPP := qhd APP
    clear C0 C1 C2 C3 C4 C5 APP
    gi_wp2_with (gi_at_builtin; refine wpListIn_append_own _ rfl (.tmp 21) (.tmp 23) 55 rfl (w.heap.size + 1 + 1 + 1 + 1 + 1 + 1) 42 i0 (.agg #[.int .i64 0, .string ⟨#[]⟩]) 2 24 Tryz.underlying55 I0.out Z0.out Z1.out Z2.out rfl (by decide) _ rs.length (flatR rs) rfl HC0.out ⟨W.heap.size, 0, none⟩ 1 1 [.int .i64 x.fKeeper, .string x.fName] rfl rfl HC1.out HC2.out HC3.out HC4.out HC5.out ?_; intro v' w1 hown' hg _; obtain ⟨g6, gf6, ⟨va', vc', rfl⟩, fin⟩ := HAPP.out v' w1 hown' hg; have FIN := qhd fin; clear fin hown' hg)
    exact FIN.out
  ·cases hy
   gi_wp2
   exact OUT.out hno
 case done =>
  clear k1 k2 k3 k4 k5
  rintro D s W hD hS ⟨rs, v, rfl, h2, h3, h4, h5, h6, h7, h8⟩ hK
  have HS : chainR p r = some rs := by
   rcases hS with ⟨rs', e, h⟩ | ⟨rs', e⟩
   ·rw [tt_inj e]; exact h
   ·exact absurd e tt_odd
  obtain ⟨va, vc, rfl⟩ := h7.form0
  have d4 : W.cell? ⟨w.heap.size + 1, 0, none⟩ = some (.slice none 0 0) := by simp [World.cell?, h4]
  have d5 : W.cell? ⟨w.heap.size + 1 + 1, 0, none⟩ = some (.bool false) := by simp [World.cell?, h5]
  have d6 : W.cell? ⟨w.heap.size + 1 + 1 + 1, 0, none⟩ = some (.slice va rs.length vc) := by simp [World.cell?, h6]
  have f4 : W.frozen? ⟨w.heap.size + 1, 0, none⟩ = false := by simp [World.frozen?, h4]
  have f5 : W.frozen? ⟨w.heap.size + 1 + 1, 0, none⟩ = false := by simp [World.frozen?, h5]
  have HSS := qhd HS
  clear HS hS
  gi_wp2
  have hK' := ((KeepsOthers.setCell W ⟨w.heap.size + 1, 0, none⟩ (.slice va rs.length vc)).trans (KeepsOthers.setCell _ ⟨w.heap.size + 1 + 1, 0, none⟩ (.bool true))).same D _ hK rfl
  have B4 : ((W.setCell ⟨w.heap.size + 1, 0, none⟩ (.slice va rs.length vc)).setCell ⟨w.heap.size + 1 + 1, 0, none⟩ (.bool true)).heap[w.heap.size + 1]? = some (.cells #[.slice va rs.length vc] 55 (0, 0)) := by
   rw [Below.heap_setCell _ _ _ _ (by show _ ≠ w.heap.size + 1 + 1; omega)]
   have h := heap_setCell_at (i := 0) (v := .slice va rs.length vc) h4
   simpa using h
  have B5 : ((W.setCell ⟨w.heap.size + 1, 0, none⟩ (.slice va rs.length vc)).setCell ⟨w.heap.size + 1 + 1, 0, none⟩ (.bool true)).heap[w.heap.size + 1 + 1]? = some (.cells #[.bool true] 4 (0, 0)) := by
   have h := heap_setCell_at (i := 0) (v := .bool true) ((Below.heap_setCell W ⟨w.heap.size + 1, 0, none⟩ (.slice va rs.length vc) (w.heap.size + 1 + 1) (by show _ ≠ w.heap.size + 1; omega)).trans h5)
   simpa using h
  have hB : Below w.heap.size w ((W.setCell ⟨w.heap.size + 1, 0, none⟩ (.slice va rs.length vc)).setCell ⟨w.heap.size + 1 + 1, 0, none⟩ (.bool true)) := (h3.setCell (by show _ ≤ w.heap.size + 1; omega) _).setCell (by show _ ≤ w.heap.size + 1 + 1; omega) _
  have hR : Refs ((W.setCell ⟨w.heap.size + 1, 0, none⟩ (.slice va rs.length vc)).setCell ⟨w.heap.size + 1 + 1, 0, none⟩ (.bool true)) (w.heap.size + 1 + 1 + 1 + 1 + 1 + 1) (.slice va rs.length vc) rs := h7.kept fun g hg => by
   have := h7.ge hg
   rw [Below.heap_setCell _ _ _ _ (by show _ ≠ w.heap.size + 1 + 1; omega), Below.heap_setCell _ _ _ _ (by show _ ≠ w.heap.size + 1; omega)]
  generalize hW2 : (W.setCell ⟨w.heap.size + 1, 0, none⟩ (.slice va rs.length vc)).setCell ⟨w.heap.size + 1 + 1, 0, none⟩ (.bool true) = W2 at hK' B4 B5 hB hR ⊢
  refine ⟨by simp, .inl ⟨_, _, rfl, run_takeDeferred hK', ?_⟩⟩
  have c4 : (W2.putObj D (.deferred none)).cell? ⟨w.heap.size + 1, 0, none⟩ = some (.slice va rs.length vc) := by rw [qae (World.putObj_heap_other (by omega))]; simp [World.cell?, B4]
  have c5 : (W2.putObj D (.deferred none)).cell? ⟨w.heap.size + 1 + 1, 0, none⟩ = some (.bool true) := by rw [qae (World.putObj_heap_other (by omega))]; simp [World.cell?, B5]
  refine ⟨.tuple #[.slice va rs.length vc, .bool true], ?_, hB.trans (putObj_below _ (by omega)), _, by rw [HSS.out]; rfl, fun rs' h => ?_⟩
  ·simp [results, Tryz.f86, go_sem, c4, c5]
  ·rw [HSS.out] at h
   cases h
   refine (hR.kept fun g hg => ?_).low (by omega)
   obtain ⟨cs, t, fr, hc⟩ := hR.cells hg
   rw [World.putObj_heap_other]
   intro e; subst e; rw [hK'] at hc; cases hc
 case stop =>
  clear k1 k2 k3 k4 k5
  rintro D s W hD ⟨h1, h2, h3, h4⟩ hK
  have H1 := qhd h1
  clear h1
  gi_wp2
  refine ⟨by simp, .inl ⟨_, _, rfl, run_takeDeferred hK, ?_⟩⟩
  have c4 : (W.putObj D (.deferred none)).cell? ⟨w.heap.size + 1, 0, none⟩ = some (.slice none 0 0) := by rw [qae (World.putObj_heap_other (by omega))]; simp [World.cell?, h3]
  have c5 : (W.putObj D (.deferred none)).cell? ⟨w.heap.size + 1 + 1, 0, none⟩ = some (.bool false) := by rw [qae (World.putObj_heap_other (by omega))]; simp [World.cell?, h4]
  refine ⟨.tuple #[.slice none 0 0, .bool false], ?_, h2.trans (putObj_below _ (by omega)), _, by rw [H1.out]; rfl, fun rs' h => by rw [H1.out] at h; cases h⟩
  simp [results, Tryz.f86, go_sem, c4, c5]

end Go.Proofs.YtmbfpbgkchncgaaGreat
namespace Go.Proofs.YtmbfpbgkchncgaaGreat
open Go.RowKit
theorem I_path_out (p : DLodPlan) (L : Nat) (k : Int) (nm : ByteArray) (w : World) (hl : Lodge w L p) (hk : inPlan p k = false) :
  Calls Tryz.prog 146 #[.pointer (some ⟨L, 0, none⟩), .int .i64 k, .string nm] w fun e w' => e = .returned (.tuple #[.slice none 0 0, .int .i64 2]) ∧ w = w' := by
 obtain ⟨a, len, cap, bo, ba, bl, n, c0, _, _, _, s1, _, _, _, _⟩ := id hl
 obtain ⟨hln, hcap, hm⟩ := s1.len
 have m1 : len ≤ 9223372036854775807 := by unfold maxLen at hm; omega
 unfold inPlan at hk
 rw [hln] at hk
 refine qab fun R HR => ?_
 go_enter Tryz.func146, Tryz.ntmps146
 go_wp2_with fail
 refine (I_has L k _ len cap _ c0 m1).mono ?_
 rintro _ _ ⟨rfl, rfl⟩
 rw [hk]
 go_wp2
 all_goals (try go_returns)
 all_goals exact HR.out _ _ ⟨rfl, rfl⟩

theorem I_resolve_out (p : DLodPlan) (L : Nat) (k : Int) (nm : ByteArray) (w : World) (hl : Lodge w L p) (hk : inPlan p k = false) :
  Calls Tryz.prog 118 #[.pointer (some ⟨L, 0, none⟩), .int .i64 k, .string nm] w fun e w' => e = .returned (refT (noRef, 2)) ∧ Below w.heap.size w w' := by
 have HLD := qhd hl
 clear hl
 refine qab fun R HR => ?_
 go_enter Tryz.func118, Tryz.ntmps118
 go_wp2_with fail
 refine (I_path_out p L k nm _ (HLD.out.below (bbel)) hk).mono ?_
 rintro _ _ ⟨rfl, rfl⟩
 go_wp2
 all_goals
  refine bodyPost_ret (v := ?_) ?hrun rfl ?_
  case hrun => (simp only [results, Tryz.results118]; go_simp; first | done | exact rfl)
  exact HR.out _ _ ⟨rfl, bbel⟩

def findK (p : DLodPlan) (k : Int) (nm : ByteArray) : DLodRef × Int := if inPlan p k then findR p k.toNat nm else (noRef, 2)

theorem I_find (p : DLodPlan) (L : Nat) (k : Int) (nm : ByteArray) (w : World) (hl : Lodge w L p) (hp : lodOk p = true) (hnm : nm.size ≤ maxLen) :
  Calls Tryz.prog 85 #[.pointer (some ⟨L, 0, none⟩), .int .i64 k, .string nm] w fun e w' => e = .returned (refT (findK p k nm)) ∧ Below w.heap.size w w' := by
 have HL := qhd hl
 have HP := qhd hp
 clear hl hp
 obtain ⟨jw, hjw⟩ : ∃ jw, jw = if inPlan p k then whoseR p k.toNat nm else (noRef, 2) := ⟨_, rfl⟩
 have RV0 : findK p k nm = if jw.2 = 1 then (if (chainR p jw.1).isSome then jw else (noRef, 4)) else (noRef, jw.2) := by
  unfold findK
  cases hq : inPlan p k
  ·rw [hq] at hjw; rw [hjw]; rfl
  ·rw [hq] at hjw
   simp only [if_true] at hjw
   simp only [if_true]
   unfold findR
   rw [hjw]
 have cases' : (∃ j' : Nat, jw = (⟨(j' : Int), nm⟩, 1) ∧ j' < p.fKeepers.length ∧ 0 ≤ ownN p nm j') ∨ (jw.2 ≠ 1 ∧ jw = (noRef, jw.2)) := by
  cases hq : inPlan p k
  ·rw [hq] at hjw
   exact Or.inr (by rw [hjw]; exact ⟨by simp, rfl⟩)
  ·have hq' := hq
   rw [hq] at hjw
   simp only [if_true] at hjw
   unfold inPlan at hq'
   simp only [Bool.and_eq_true, decide_eq_true_eq] at hq'
   rcases whoseR_code p k.toNat nm with hcd | ⟨hcd, hno⟩
   ·obtain ⟨j', he, h1, h2⟩ := whoseR_there HP.out (i := k.toNat) (by omega) hcd
    exact Or.inl ⟨j', hjw.trans he, h1, h2⟩
   ·exact Or.inr (by rw [hjw]; exact ⟨hcd, Prod.ext hno rfl⟩)
 have SW : ∀ W, Below w.heap.size w W → Calls Tryz.prog 118 #[.pointer (some ⟨L, 0, none⟩), .int .i64 k, .string nm] W fun e w' => e = .returned (refT jw) ∧ Below W.heap.size W w' := fun W hW => by
  cases hq : inPlan p k
  ·rw [hq] at hjw; rw [hjw]
   exact I_resolve_out p L k nm W (HL.out.below hW) hq
  ·have hq' := hq
   rw [hq] at hjw
   simp only [if_true] at hjw
   unfold inPlan at hq'
   simp only [Bool.and_eq_true, decide_eq_true_eq] at hq'
   obtain ⟨i, rfl⟩ : ∃ i : Nat, k = (i : Int) := ⟨k.toNat, by omega⟩
   rw [hjw, Int.toNat_natCast]
   exact I_resolve p L i nm W (HL.out.below hW) HP.out (by omega) hnm
 have RVH := qhd RV0
 clear RV0 hjw
 rcases cases' with ⟨j', rfl, hj'1, hj'2⟩ | ⟨hcd, he⟩
 ·have HT : Hid (There p ⟨(j' : Int), nm⟩) := qhd ⟨j', rfl, hj'1, hj'2, hnm⟩
  have RV : Hid (findK p k nm = if (chainR p ⟨(j' : Int), nm⟩).isSome then (⟨(j' : Int), nm⟩, 1) else (noRef, 4)) := qhd (by rw [RVH.out]; rfl)
  clear RVH
  unfold refT at SW
  refine qab fun R HR => ?_
  go_enter Tryz.func85, Tryz.ntmps85
  go_wp2_with fail
  refine (SW _ (bbel)).mono ?_
  rintro _ wA ⟨rfl, hA⟩
  have hEA : Below w.heap.size w wA := bbel
  have hAs := (hA).size; (try simp only [qsz] at hAs)
  obtain ⟨hAad, hAao, hAag, hAap, hAax, hAay⟩ := bf1 (n := w.heap.size) hA
  go_wp2_with fail
  refine (I_climb p L ⟨(j' : Int), nm⟩ _ (HL.out.below (hEA.trans (bbel))) HP.out HT.out).mono ?_
  rintro _ wB ⟨hB, v, rfl, _⟩
  have hAB : Below wA.heap.size wA wB := bbel
  have hEB := hEA.trans (hAB.mono hEA.size)
  have hBs := hB.size
  simp only [World.size_alloc] at hBs
  have z0 : wA.cell? ⟨w.heap.size, 0, none⟩ = some (.int .i64 0) := by go_simp
  have z1 : wA.cell? ⟨w.heap.size, 1, none⟩ = some (.string ⟨#[]⟩) := by go_simp
  have zf0 : wA.frozen? ⟨w.heap.size, 0, none⟩ = false := by go_simp
  have zf1 : wA.frozen? ⟨w.heap.size, 1, none⟩ = false := by go_simp
  have y0 := qaa hAB z0
  have y1 := qaa hAB z1
  have yf0 := qas hAB z0 zf0
  have yf1 := qas hAB z1 zf1
  have x0 : wB.cell? ⟨wA.heap.size, 0, none⟩ = some (.int .i64 (j' : Int)) := (hB.cell (by simp)).trans (by go_simp)
  have x1 : wB.cell? ⟨wA.heap.size, 1, none⟩ = some (.string nm) := (hB.cell (by simp)).trans (by go_simp)
  have hBl := block_lt_of_cell y0
  obtain ⟨bb, hbb⟩ : ∃ bb, bb = (chainR p ⟨(j' : Int), nm⟩).isSome := ⟨_, rfl⟩
  rw [← hbb]
  have RV2 : Hid (findK p k nm = if bb then (⟨(j' : Int), nm⟩, 1) else (noRef, 4)) := qhd (by rw [RV.out, hbb])
  have hne : w.heap.size ≠ wA.heap.size := by have := block_lt_of_cell z0; omega
  clear hbb RV z0 z1 zf0 zf1 hAad hAag hAax hAay hAao hAap hB
  cases bb
  all_goals
   go_wp2
   all_goals
    refine bodyPost_ret (v := ?_) ?hrun rfl ?_
    case hrun => (simp only [results, Tryz.results85]; go_simp; first | done | exact rfl)
    exact HR.out _ _ ⟨by rw [RV2.out]; rfl, bbel⟩
 ·obtain ⟨cd, hcde⟩ : ∃ cd, cd = jw.2 := ⟨_, rfl⟩
  rw [← hcde] at he hcd
  have RV : Hid (findK p k nm = (noRef, cd)) := qhd (by rw [RVH.out, ← hcde, if_neg hcd])
  have i1 : (cd != 1) = true := by simpa using hcd
  have i2 : (cd == 1) = false := by simpa using hcd
  subst he
  clear RVH hcde hcd
  unfold refT noRef at SW
  refine qab fun R HR => ?_
  go_enter Tryz.func85, Tryz.ntmps85
  go_wp2_with fail
  refine (SW _ (bbel)).mono ?_
  rintro _ wA ⟨rfl, hA⟩
  have hEA : Below w.heap.size w wA := bbel
  have hAs := (hA).size; (try simp only [qsz] at hAs)
  obtain ⟨hAad, hAao, hAag, hAap, hAax, hAay⟩ := bf1 (n := w.heap.size) hA
  go_wp2
  all_goals
   refine bodyPost_ret (v := ?_) ?hrun rfl ?_
   case hrun => (simp only [results, Tryz.results85]; go_simp; first | done | exact rfl)
   exact HR.out _ _ ⟨by rw [RV.out]; rfl, bbel⟩

theorem lodFind_findK {p : DLodPlan} (h : lodOk p = true) (k : Int) (nm : ByteArray) : lodFind p k nm = findK p k nm := by
 unfold lodFind findK
 rw [h]
 cases inPlan p k
 ·simp
 ·cases hn : namOk nm
  ·simp [findR, name_whose h hn]
  ·simp
theorem lodFind_no {p : DLodPlan} (h : lodOk p = false) (k : Int) (nm : ByteArray) : lodFind p k nm = (noRef, 2) := by
 unfold lodFind; rw [h]; simp


theorem S_LodFind (x : DLodPlan) (v1 : Value) (k : Int) (nm : ByteArray) (w : World) (s1 : Sl 2 rLodKeeper 0 w v1 x.fKeepers) (hnm : nm.size ≤ maxLen) :
  Calls Tryz.prog 80 #[.agg #[v1], .int .i64 k, .string nm] w fun e w' => e = .returned (refT (lodFind x k nm)) ∧ Below w.heap.size w w' := by
 obtain ⟨a, len, cap, rfl⟩ := s1.form
 obtain ⟨hl, hcap, hm⟩ := s1.len
 have m1 : len ≤ 9223372036854775807 := by unfold maxLen at hm; omega
 have HL := qhd hl
 clear hl hm hcap
 have HS := qhd s1
 clear s1
 obtain ⟨jw, hjw⟩ : ∃ jw, jw = lodFind x k nm := ⟨_, rfl⟩
 have HJ := qhd hjw
 rw [← hjw]
 clear hjw
 have LI : ∀ W, Calls Tryz.prog 69 #[.int .i64 k, .int .i64 0, .int .i64 ((len : Int) - 1)] W fun e w' => e = .returned (.bool (inPlan x k)) ∧ W = w' := fun W => Calls.val2 (S_l1In _ _ _ W) (by
  unfold inPlan
  rw [HL.out]
  rw [show (decide (k ≤ (len : Int) - 1)) = decide (k < (len : Int)) from decide_eq_decide.2 (by omega)])
 have LN : ∀ W, Calls Tryz.prog 27 #[.string nm] W fun e w' => e = .returned (.bool (namOk nm)) ∧ W = w' := fun W => S_NamOk nm W hnm
 refine qab fun R HR => ?_
 go_enter Tryz.func80, Tryz.ntmps80
 go_wp2_with fail
 refine (S_LodOk x _ _ (HS.out.stays rLodKeeper_good (Keeps.of_below' (B := w.heap.size) (bbel) (Nat.le_refl _)))).mono ?_
 rintro _ wA ⟨rfl, hA⟩
 have hEA : Below w.heap.size w wA := bbel
 have hAs := (hA).size; (try simp only [qsz] at hAs)
 obtain ⟨hAad, hAao, hAag, hAap, hAax, hAay, hAac1, hAaf1, hAaz1⟩ := bf2 (n := w.heap.size) hA
 cases h1 : lodOk x
 ·have RV : Hid (jw = (noRef, 2)) := qhd (HJ.out.trans (lodFind_no h1 k nm))
  clear h1
  go_wp2
  all_goals
   refine bodyPost_ret (v := ?_) ?hrun rfl ?_
   case hrun => (simp only [results, Tryz.results80]; go_simp; first | done | exact rfl)
   exact HR.out _ _ ⟨by rw [RV.out]; rfl, bbel⟩
 cases h2 : inPlan x k
 ·have RV : Hid (jw = (noRef, 2)) := qhd (HJ.out.trans (by unfold lodFind; rw [h2]; simp))
  rw [h2] at LI
  clear h1 h2
  go_wp2_with (go_at_call 69; refine (LI _).mono ?_; rintro _ _ ⟨rfl, rfl⟩)
  all_goals
   refine bodyPost_ret (v := ?_) ?hrun rfl ?_
   case hrun => (simp only [results, Tryz.results80]; go_simp; first | done | exact rfl)
   exact HR.out _ _ ⟨by rw [RV.out]; rfl, bbel⟩
 cases h3 : namOk nm
 ·have RV : Hid (jw = (noRef, 2)) := qhd (HJ.out.trans (by unfold lodFind; rw [h3]; simp))
  rw [h2] at LI
  rw [h3] at LN
  clear h1 h2 h3
  go_wp2_with (first | (go_at_call 69; refine (LI _).mono ?_; rintro _ _ ⟨rfl, rfl⟩) | (go_at_call 27; refine (LN _).mono ?_; rintro _ _ ⟨rfl, rfl⟩))
  all_goals
   refine bodyPost_ret (v := ?_) ?hrun rfl ?_
   case hrun => (simp only [results, Tryz.results80]; go_simp; first | done | exact rfl)
   exact HR.out _ _ ⟨by rw [RV.out]; rfl, bbel⟩
 ·have RV : Hid (jw = findR x k.toNat nm) := qhd (HJ.out.trans (by unfold lodFind; rw [h1, h2, h3]; rfl))
  have hq := h2
  unfold inPlan at hq
  simp only [Bool.and_eq_true, decide_eq_true_eq] at hq
  obtain ⟨i, rfl⟩ : ∃ i : Nat, k = (i : Int) := ⟨k.toNat, by omega⟩
  have hi : i < x.fKeepers.length := by omega
  have HI := qhd hi
  rw [h2] at LI
  rw [h3] at LN
  have H1 := qhd h1
  clear h1 h2 h3 hq hi
  go_wp2_with (first | (go_at_call 69; refine (LI _).mono ?_; rintro _ _ ⟨rfl, rfl⟩) | (go_at_call 27; refine (LN _).mono ?_; rintro _ _ ⟨rfl, rfl⟩))
  refine (S_l3Find x _ i nm _ (HS.out.stays rLodKeeper_good (Keeps.of_below hEA)) H1.out HI.out hnm).mono ?_
  rintro _ wB ⟨rfl, hB⟩
  have hBs := (hB).size; (try simp only [qsz] at hBs)
  obtain ⟨hBbd, hBbo, hBbg, hBbp, hBbx, hBby, hBbc1, hBbf1, hBbz1⟩ := bf2 (n := w.heap.size) hB
  rw [Int.toNat_natCast] at RV
  obtain ⟨jv, hjv⟩ : ∃ jv, jv = findR x i nm := ⟨_, rfl⟩
  rw [← hjv]
  have RV2 : Hid (jw = jv) := qhd (RV.out.trans hjv.symm)
  clear hjv RV
  obtain ⟨⟨rk, rn⟩, cd⟩ := jv
  unfold refT
  dsimp only
  go_wp2
  all_goals
   refine bodyPost_ret (v := ?_) ?hrun rfl ?_
   case hrun => (simp only [results, Tryz.results80]; go_simp; first | done | exact rfl)
   exact HR.out _ _ ⟨by rw [RV2.out]; rfl, bbel⟩

end Go.Proofs.YtmbfpbgkchncgaaGreat
