/-
  Texts of mine, packed: SeqB, LayJ. No condition beside those of the single theorems.
-/
import Derived.Test.YtmbfpbgkchncgaaGreatK16
import Derived.RangeFuncWrites
import Derived.Test.YtmbfpbgkchncgaaGreatK24
import Derived.Test.YtmbfpbgkchncgaaGreatK22
import Derived.Stop.RegionWithIn
set_option linter.unusedSimpArgs false
set_option linter.unusedVariables false
set_option maxHeartbeats 16000000
set_option maxRecDepth 100000
namespace Go.Proofs.YtmbfpbgkchncgaaGreat
open Go.RowKit
def Gives0 {α : Type} (P : Program) (gf : Nat) (lb : Array Value) (enc : α → Array Value) (Kp : World → World → Prop) (G : List α → α → Prop) (S : List α → Prop) (N m : Nat) (w : World) : Prop :=
 ∀ (l : Nat) (J Jx : List α → World → Prop) (W : World), Below w.heap.size w W →
  (∀ s W W', J s W → Below W.heap.size W W' → J s W') → (∀ s W, J s W → s.length ≤ N) →
  (∀ s x W1, J s W1 → G s x → YieldAt Fence.wide m P l (enc x) W1 fun e W' => (e = .returned (.bool true) ∧ J (s ++ [x]) W' ∧ Kp W1 W') ∨ (e = .returned (.bool false) ∧ Jx (s ++ [x]) W')) →
  J [] W → CallsIn Fence.wide (m + 1) P gf (#[.func (.yield l) #[] #[]] ++ lb) W fun e W' => (∃ v, e = .returned v) ∧ ((∃ s, S s ∧ J s W') ∨ (∃ s, Jx s W'))

theorem range_gives0 {α : Type} {P : Program} {g : Operand} {ps : Array Tmp} {assign body : Code} {Q : Exit → Act → World → Prop} {a : Act} {w : World} {m : Nat}
  {gf : Nat} {lb : Array Value} (hg : a.eval g = .func (.func gf) #[] lb) (eg : ∀ args w, (callFunc gf args).run P w = .ok (.enter gf args) w)
  {enc : α → Array Value} (hps : ∀ x, (enc x).size = ps.size)
  {Kp : World → World → Prop} (hKt : ∀ {A B C : World}, Kp A B → Kp B C → Kp A C) (hKb : ∀ (W : World) (l : Nat) (r : Loop) (o' : Obj), w.heap.size ≤ l → W.heap[l]? = some (.loop r) → Kp W (W.putObj l o')) (hKw : ∀ W W', Below W.heap.size W W' → Kp W W')
  {G : List α → α → Prop} {S : List α → Prop} {N : Nat} (hseq : Gives0 P gf lb enc Kp G S N m w)
  (I Ix : List α → World → Prop) (I₁ : List α → α → Act → World → Prop)
  (hIb : ∀ s W W', I s W → Below W.heap.size W W' → I s W') (hIp : ∀ s W l r o', I s W → w.heap.size ≤ l → W.heap[l]? = some (.loop r) → I s (W.putObj l o'))
  (hXp : ∀ s W l r o', Ix s W → w.heap.size ≤ l → W.heap[l]? = some (.loop r) → Ix s (W.putObj l o')) (hAp : ∀ s x b W l r o', I₁ s x b W → w.heap.size ≤ l → W.heap[l]? = some (.loop r) → I₁ s x b (W.putObj l o'))
  (hIn : ∀ s W, I s W → s.length ≤ N) (h0 : I [] w)
  (hassign : ∀ (l : Nat) (s : List α) (x : α) (W : World), I s W → G s x →
   assign.wpIn (Fence.wide.inRound l) m P (Exit.then (fun a₁ w₁ => Below W.heap.size W w₁ ∧ I₁ s x a₁ w₁) (fun _ _ _ => False)) { tmps := (ps.zip (enc x)).foldl (fun t (p, v) => t.setIfInBounds p v) a.tmps, defers := [] } W)
  (hbody : ∀ (l : Nat) (s : List α) (x : α) (b : Act) (W : World), I₁ s x b W → G s x → body.wpIn (Fence.wide.inRound l) m P (roundEnd w.heap.size Kp I Ix (s ++ [x]) W) b W)
  (hdone : ∀ (D : Nat) (s : List α) (W : World), w.heap.size ≤ D → S s → I s W → W.heap[D]? = some (.deferred (some [])) → Q .normal { a with defers := { target := .collected D, args := #[] } :: a.defers } W)
  (hstop : ∀ (D : Nat) (s : List α) (W : World), w.heap.size ≤ D → Ix s W → W.heap[D]? = some (.deferred (some [])) → Code.ret.wpIn Fence.wide (m + 1 + 1) P Q { a with defers := { target := .collected D, args := #[] } :: a.defers } W) :
  (Code.rangeFunc g ps assign body).wpIn Fence.wide (m + 1 + 1) P Q a w := by
 refine wpIn_rangeFunc fun fn _ => ?_
 obtain ⟨rec, hrec⟩ : ∃ rec : LoopState → Option Code → Loop, rec = fun st pe => { state := st, pending := pe, fn, tmps := a.tmps, params := ps, assign, body, defers := w.heap.size } := ⟨_, rfl⟩
 obtain ⟨W1, hW1⟩ : ∃ W1, W1 = (w.alloc (.deferred (some []))).alloc (.loop (rec .ready none)) := ⟨_, rfl⟩
 have hb1 : Below w.heap.size w W1 := by rw [hW1]; exact ((Below.refl _ w).alloc (Nat.le_refl _) _).alloc (by simp) _
 have hD1 : W1.heap[w.heap.size]? = some (.deferred (some [])) := by
  rw [hW1]
  exact (Below.heap_alloc _ _ _ (by simp)).trans (World.alloc_heap_new w _)
 have hL1 : W1.heap[w.heap.size + 1]? = some (.loop (rec .ready none)) := by
  have := World.alloc_heap_new (w.alloc (.deferred (some []))) (.loop (rec .ready none))
  rw [World.size_alloc, ← hW1] at this
  exact this
 refine ⟨w.heap.size + 1, [{ target := .collected w.heap.size, args := #[] }], W1, { target := .fn (.func gf) lb, args := #[.func (.yield (w.heap.size + 1)) #[] #[]] }, W1, gf, #[.func (.yield (w.heap.size + 1)) #[] #[]] ++ lb, W1, ?_, ?_, fun _ _ => trivial, ?_, fun _ => by omega, ?_⟩
 ·rw [hW1, hrec]; exact run_enterLoop_outer _ _ _ _ _
 ·simp only [resolve, hg]
  simp [go_sem]
 ·simp [invoke, go_sem, eg]
 have hlD : w.heap.size + 1 ≠ w.heap.size := by omega
 refine (hseq (w.heap.size + 1)
  (fun s W => I s W ∧ W.heap[w.heap.size + 1]? = some (.loop (rec .ready none)) ∧ W.heap[w.heap.size]? = some (.deferred (some [])))
  (fun s W => Ix s W ∧ W.heap[w.heap.size + 1]? = some (.loop (rec .done (some .ret))) ∧ W.heap[w.heap.size]? = some (.deferred (some [])))
  W1 hb1 ?_ (fun s W h => hIn s W h.1) ?_ ⟨hIb _ _ _ h0 hb1, hL1, hD1⟩).mono ?_
 ·rintro s W W' ⟨hi, hl, hd⟩ hb
  exact ⟨hIb _ _ _ hi hb, (hb.block _ (Array.getElem?_eq_some_iff.1 hl).1).trans hl, (hb.block _ (Array.getElem?_eq_some_iff.1 hd).1).trans hd⟩
 ·rintro s x W ⟨hi, hl, hd⟩ hG
  have hy := run_yield (P := P) (args := enc x) hl (by rw [hrec]; exact hps x)
  rw [hrec] at hy
  refine ⟨fn, _, assign, body, hy, roundIn_of_wpIn trivial (wpIn_mono (hassign _ s x W hi hG) ?_)⟩
  rintro e b w₁ hp
  cases e with
  | normal =>
    obtain ⟨hb, h1⟩ := hp
    have hl1 : w₁.heap[w.heap.size + 1]? = some (.loop (rec .ready none)) := (hb.block _ (Array.getElem?_eq_some_iff.1 hl).1).trans hl
    have hd1 : w₁.heap[w.heap.size]? = some (.deferred (some [])) := (hb.block _ (Array.getElem?_eq_some_iff.1 hd).1).trans hd
    refine ⟨_, run_beginRound hl1 (by rw [hrec]), ?_⟩
    have hlt : w.heap.size + 1 < w₁.heap.size := (Array.getElem?_eq_some_iff.1 hl1).1
    obtain ⟨W2, hW2⟩ : ∃ W2, W2 = w₁.putObj (w.heap.size + 1) (.loop { rec .ready none with state := .busy }) := ⟨_, rfl⟩
    rw [← hW2]
    have hl2 : W2.heap[w.heap.size + 1]? = some (.loop { rec .ready none with state := .busy }) := by rw [hW2]; exact World.putObj_heap_same hlt
    have hd2 : W2.heap[w.heap.size]? = some (.deferred (some [])) := by rw [hW2]; exact (World.putObj_heap_other (by omega)).trans hd1
    have hk2 : Kp W W2 := hKt (hKw _ _ hb) (by rw [hW2]; exact hKb _ _ _ _ (by omega) hl1)
    refine wpIn_mono (hbody _ s x b W2 (by rw [hW2]; exact hAp _ _ _ _ _ _ _ h1 (by omega) hl1) hG) ?_
    rintro e a3 W3 hp
    have fin : ∀ (jump : Option Code), KeepsFrom w.heap.size W2 W3 → (Instr.endRound (w.heap.size + 1) jump).run P W3 = .ok (.bool jump.isNone) (W3.putObj (w.heap.size + 1) (.loop (rec (if jump.isNone then .ready else .done) jump))) ∧ W3.heap[w.heap.size + 1]? = some (.loop { rec .ready none with state := .busy }) ∧
      (W3.putObj (w.heap.size + 1) (.loop (rec (if jump.isNone then .ready else .done) jump))).heap[w.heap.size + 1]? = some (.loop (rec (if jump.isNone then .ready else .done) jump)) ∧
      (W3.putObj (w.heap.size + 1) (.loop (rec (if jump.isNone then .ready else .done) jump))).heap[w.heap.size]? = some (.deferred (some [])) := fun jump hk => by
     have hl3 := hk.same _ _ (by omega) hl2 rfl
     have hd3 := hk.same _ _ (Nat.le_refl _) hd2 rfl
     have hr := run_endRound (P := P) jump hl3
     rw [hrec] at hr ⊢
     exact ⟨hr, by rw [hrec] at hl3; exact hl3, World.putObj_heap_same (Array.getElem?_eq_some_iff.1 hl3).1, (World.putObj_heap_other (by omega)).trans hd3⟩
    cases e with
    | normal =>
      obtain ⟨hk3, hkp, hi3⟩ := hp
      obtain ⟨hr, hl3, hl4, hd4⟩ := fin none hk3
      exact ⟨_, _, hr, Or.inl ⟨rfl, ⟨hIp _ _ _ _ _ hi3 (by omega) hl3, hl4, hd4⟩, hKt (hKt hk2 hkp) (hKb _ _ _ _ (by omega) hl3)⟩⟩
    | ret =>
      obtain ⟨hk3, hi3⟩ := hp
      obtain ⟨hr, hl3, hl4, hd4⟩ := fin (some .ret) hk3
      exact ⟨_, _, hr, Or.inr ⟨rfl, hXp _ _ _ _ _ hi3 (by omega) hl3, hl4, hd4⟩⟩
    | exit id => exact hp.elim
    | goto t => exact hp.elim
    | panic c => exact hp.elim
    | outgrown => exact hp.elim
  | ret => exact hp.elim
  | exit id => exact hp.elim
  | goto t => exact hp.elim
  | panic c => exact hp.elim
  | outgrown => exact hp.elim
 ·rintro e W2 ⟨⟨v, rfl⟩, ⟨s, hS, hi, hl, hd⟩ | ⟨s, hi, hl, hd⟩⟩
  ·refine ⟨none, _, by have := run_endLoop (P := P) hl (by rw [hrec]; simp); rw [hrec] at this; exact this, ?_⟩
   exact hdone _ s _ (Nat.le_refl _) hS (hIp _ _ _ _ _ hi (by omega) hl) ((World.putObj_heap_other (by omega)).trans hd)
  ·refine ⟨some .ret, _, by have := run_endLoop (P := P) hl (by rw [hrec]; simp); rw [hrec] at this; exact this, ?_⟩
   exact hstop _ s _ (Nat.le_refl _) (hXp _ _ _ _ _ hi (by omega) hl) ((World.putObj_heap_other (by omega)).trans hd)

end Go.Proofs.YtmbfpbgkchncgaaGreat
namespace Go.Proofs.YtmbfpbgkchncgaaGreat
open Go.RowKit
attribute [local go_sem] Oper.semAt_some
def encI (x : Int × DLodRef) : Array Value := #[.int .i64 x.1, .agg #[.int .i64 x.2.fKeeper, .string x.2.fName]]
def BackG (rs : List DLodRef) (s : List (Int × DLodRef)) (x : Int × DLodRef) : Prop := ∃ (k : Nat) (y : DLodRef), s.length + k + 1 = rs.length ∧ rs[k]? = some y ∧ x = ((k : Int), y)
def BackS (rs : List DLodRef) (s : List (Int × DLodRef)) : Prop := s.length = rs.length
def KpB (bx g : Nat) (W W' : World) : Prop := bx < W.heap.size → g < W.heap.size → W.heap.size ≤ W'.heap.size ∧ W'.heap[bx]? = W.heap[bx]? ∧ W'.heap[g]? = W.heap[g]?
theorem kpB_t {bx g : Nat} {A B C : World} (h : KpB bx g A B) (k : KpB bx g B C) : KpB bx g A C := by
 intro h1 h2
 obtain ⟨b, r, l⟩ := h h1 h2
 obtain ⟨b', r', l'⟩ := k (by omega) (by omega)
 exact ⟨Nat.le_trans b b', r'.trans r, l'.trans l⟩
theorem kpB_w (bx g : Nat) (W W' : World) (h : Below W.heap.size W W') : KpB bx g W W' := fun h1 h2 => ⟨h.size, h.block _ h1, h.block _ h2⟩

theorem I_Backward (a : Option Addr) (n cap : Nat) (w : World) :
  Calls Tryz.prog 82 #[.slice a n cap] w fun e w' => e = .returned (.func (.func 117) #[] #[.pointer (some ⟨w.heap.size, 0, none⟩)]) ∧ w' = w.alloc (.cells #[.slice a n cap] 55) := by
 refine qab fun R HR => ?_
 go_enter Tryz.func82, Tryz.ntmps82
 go_wp2
 all_goals (try go_returns)
 all_goals exact HR.out _ _ ⟨rfl, rfl⟩

theorem I_back_gives (rs : List DLodRef) (g cap bx m : Nat) (w : World) (hc1 : rs.length ≤ cap) (hc2 : cap ≤ maxLen) (hg : g < w.heap.size)
  (cbx : w.heap[bx]? = some (.cells #[.slice (some ⟨g, 0, none⟩) rs.length cap] 55 (0, 0)))
  (cg : ∀ k x, rs[k]? = some x → w.cell? ⟨g, k * 2, none⟩ = some (.int .i64 x.fKeeper) ∧ w.cell? ⟨g, k * 2 + 1, none⟩ = some (.string x.fName)) :
  Gives0 Tryz.prog 117 #[.pointer (some ⟨bx, 0, none⟩)] encI (KpB bx g) (BackG rs) (BackS rs) rs.length m w := by
 intro l J Jx W hbW hJb hJn hY h0
 refine callsIn_of_wp Tryz.func117 rfl trivial ?_ rfl
 simp only [Tryz.ntmps117, List.size_toArray, List.length_cons, List.length_nil, Nat.reduceAdd, Nat.reduceSub, Array.replicate_succ, Array.replicate_zero, List.push_toArray, List.append_toArray, List.nil_append, List.cons_append]
 have hbx : bx < w.heap.size := (Array.getElem?_eq_some_iff.1 cbx).1
 have hcg : g < W.heap.size := Nat.lt_of_lt_of_le hg hbW.size
 have hcb : bx < W.heap.size := Nat.lt_of_lt_of_le hbx hbW.size
 have CB : W.heap[bx]? = some (.cells #[.slice (some ⟨g, 0, none⟩) rs.length cap] 55 (0, 0)) := (hbW.block bx hbx).trans cbx
 have CG : Hid (∀ k x, rs[k]? = some x → W.cell? ⟨g, k * 2, none⟩ = some (.int .i64 x.fKeeper) ∧ W.cell? ⟨g, k * 2 + 1, none⟩ = some (.string x.fName)) := qhd fun k x hk => by
  obtain ⟨h1, h2⟩ := cg k x hk
  exact ⟨(qae (hbW.block g hg)).trans h1, (qae (hbW.block g hg)).trans h2⟩
 have HB := qhd CB
 have c0 : W.cell? ⟨bx, 0, none⟩ = some (.slice (some ⟨g, 0, none⟩) rs.length cap) := by simp [World.cell?, CB]
 have H0 := qhd h0
 have HY := qhd hY
 have HJB := qhd hJb
 obtain ⟨n, hn⟩ : ∃ n, n = rs.length := ⟨_, rfl⟩
 have HN := qhd hn
 have hn9 : n ≤ 9223372036854775807 := by unfold maxLen at hc2; omega
 have hcc : n ≤ cap := by omega
 have hw9 : IntKind.i64.wrap ((n : Int) - 1) = (n : Int) - 1 := IntWalk.i64_in _ (by omega)
 rw [← hn] at c0
 clear hc1 hc2 cbx cg h0 hY hJb hJn hn CB hbW
 gi_wp2
 gi_loopg [3] (n + 1) (fun gk z wr => ∃ (k : Nat) (s : List (Int × DLodRef)), k ≤ n ∧ gk = k + 1 ∧ z = .int .i64 ((k : Int) - 1) ∧ s.length + k = n ∧ J s wr ∧ W.heap.size ≤ wr.heap.size ∧ wr.heap[bx]? = W.heap[bx]? ∧ wr.heap[g]? = W.heap[g]?)
 case atStart => exact ⟨n, [], Nat.le_refl _, rfl, rfl, by simp, H0.out, Nat.le_refl _, rfl, rfl⟩
 case round =>
  obtain ⟨k, s, hk, hgk, rfl, hs, hj, hsz, hkb, hkg⟩ := hrel
  have q0 : wr.cell? ⟨bx, 0, none⟩ = some (.slice (some ⟨g, 0, none⟩) n cap) := (qae hkb).trans c0
  have HJ := qhd hj
  have HGK := qhd hgk
  have HKB := qhd hkb
  have HKG := qhd hkg
  clear c0 hj hgk hkb hkg
  rcases k with _ | k
  ·gi_wp2
   first
    | (refine bodyPost_ret (results_none rfl _ _ _) rfl ?_; exact ⟨⟨_, rfl⟩, Or.inl ⟨_, by unfold BackS; have := HN.out; omega, HJ.out⟩⟩)
    | (go_end0; exact ⟨⟨_, rfl⟩, Or.inl ⟨_, by unfold BackS; have := HN.out; omega, HJ.out⟩⟩)
  ·obtain ⟨y, hy⟩ : ∃ y, rs[k]? = some y := ⟨_, List.getElem?_eq_getElem (by have := HN.out; omega)⟩
   obtain ⟨p1, p2⟩ := CG.out k y hy
   have q1 := (qae (o := k * 2) HKG.out).trans p1
   have q2 := (qae (o := k * 2 + 1) HKG.out).trans p2
   obtain ⟨fn, tmps, assign, body, hyl, hR⟩ := HY.out s ((k : Int), y) wr HJ.out ⟨k, y, by have := HN.out; omega, hy, rfl⟩
   have hkn : (k : Int) < (n : Int) := by omega
   have e1 : ((k + 1 : Nat) : Int) - 1 = (k : Int) := by omega
   rw [e1]
   have e2 : IntKind.i64.wrap ((k : Int) - 1) = (k : Int) - 1 := IntWalk.i64_in _ (by omega)
   have hgr : g < wr.heap.size := by omega
   clear p1 p2 hy
   unfold encI at hyl
   dsimp only at hyl
   gi_wp2
   refine hR.mono ?_
   rintro e W3 (⟨rfl, hJ3, hk3⟩ | ⟨rfl, hJx3⟩)
   ·obtain ⟨h1, h2, h3⟩ := hk3 (by omega) (by omega)
    have HJ3 := qhd hJ3
    clear hk3 hJ3 q0 q1 q2
    gi_wp2
    gi_roundg (k + 1)
    case measure => have := HGK.out; omega
    case rel => exact ⟨k, s ++ [((k : Int), y)], by omega, rfl, rfl, by simp; omega, HJ3.out, by omega, h2.trans HKB.out, h3.trans HKG.out⟩
   ·gi_wp2
    first
     | (refine bodyPost_ret (results_none rfl _ _ _) rfl ?_; exact ⟨⟨_, rfl⟩, Or.inr ⟨_, hJx3⟩⟩)
     | (go_end0; exact ⟨⟨_, rfl⟩, Or.inr ⟨_, hJx3⟩⟩)

def LayI (p : DLodPlan) (rs : List DLodRef) (wA wS : World) (bx g : Nat) (s : List (Int × DLodRef)) (W : World) : Prop :=
 ∃ ov, s.length ≤ rs.length ∧ wS.heap.size ≤ W.heap.size ∧ Below wA.heap.size wA W ∧ W.heap[bx]? = wS.heap[bx]? ∧ W.heap[g]? = wS.heap[g]? ∧ W.heap[wA.heap.size]? = some (.cells #[ov] 146 (0, 0)) ∧ TOwn 5 rLnkField 64 (wA.heap.size + 1) (wA.heap.size + 1) W ov (layR p (rs.drop (rs.length - s.length)))
theorem TOwn.put {w : World} {lo B l : Nat} {v : Value} {xs : List DLnkField} (o o' : Obj) (h : TOwn 5 rLnkField 64 lo B w v xs) (hl : w.heap[l]? = some o) (hc : o.isCells = false) : TOwn 5 rLnkField 64 lo B (w.putObj l o') v xs :=
 ⟨h.sl.kept (fun g cs fr _ _ hg => World.putObj_heap_other (fun e => by subst e; rw [hl] at hg; cases hg; cases hc)) (fun cs x hx => hx), h.own⟩
theorem layI_put {p : DLodPlan} {rs : List DLodRef} {wA wS : World} {bx g l : Nat} {s : List (Int × DLodRef)} {W : World} (hA : wA.heap.size ≤ wS.heap.size) (hA1 : wA.heap.size < wS.heap.size) (hbx : bx < wS.heap.size) (hg : g < wS.heap.size) (o o' : Obj) (h : LayI p rs wA wS bx g s W) (hl : wS.heap.size ≤ l) (hr : W.heap[l]? = some o) (hc : o.isCells = false) : LayI p rs wA wS bx g s (W.putObj l o') := by
 obtain ⟨ov, h1, h2, h3, h4, h5, h6, h7⟩ := h
 exact ⟨ov, h1, by simpa using h2, h3.trans (putObj_below o' (by omega)), (World.putObj_heap_other (by omega)).trans h4, (World.putObj_heap_other (by omega)).trans h5, (World.putObj_heap_other (by omega)).trans h6, h7.put o o' hr hc⟩
theorem layI_below {p : DLodPlan} {rs : List DLodRef} {wA wS : World} {bx g : Nat} {s : List (Int × DLodRef)} {W W' : World} (hA1 : wA.heap.size < wS.heap.size) (hbx : bx < wS.heap.size) (hg : g < wS.heap.size) (h : LayI p rs wA wS bx g s W) (hb : Below W.heap.size W W') : LayI p rs wA wS bx g s W' := by
 obtain ⟨ov, h1, h2, h3, h4, h5, h6, h7⟩ := h
 exact ⟨ov, h1, Nat.le_trans h2 hb.size, h3.trans (hb.mono (by omega)), (hb.block _ (by omega)).trans h4, (hb.block _ (by omega)).trans h5, (hb.block _ (by omega)).trans h6, h7.below (E := NoT) qal hb⟩
def LayA (p : DLodPlan) (r : DLodRef) (L n gc : Nat) (rs : List DLodRef) (w wA wS : World) (bx g : Nat) (s : List (Int × DLodRef)) (x : Int × DLodRef) (b : Act) (W : World) : Prop :=
 LayI p rs wA wS bx g s W ∧ ∃ k, wS.heap.size ≤ k ∧ W.heap[k]? = some (.cells #[.int .i64 x.2.fKeeper, .string x.2.fName] 42 (0, 0)) ∧
 b = { tmps := #[.pointer (some ⟨L, 0, none⟩), .agg #[.int .i64 r.fKeeper, .string r.fName], .pointer (some ⟨w.heap.size, 0, none⟩), .pointer (some ⟨w.heap.size + 1, 0, none⟩), .slice none 0 0, .pointer (some ⟨wA.heap.size, 0, none⟩), undef, .pointer (some ⟨k, 0, none⟩), .pointer (some ⟨L, 0, none⟩), .agg #[.int .i64 r.fKeeper, .string r.fName], .bool true, .bool false, .pointer (some ⟨L, 0, none⟩), .agg #[.int .i64 r.fKeeper, .string r.fName], .slice (some ⟨g, 0, none⟩) n gc, .func (.func 117) #[] #[.pointer (some ⟨bx, 0, none⟩)], .int .i64 x.1, .agg #[.int .i64 x.2.fKeeper, .string x.2.fName], undef, undef, undef, undef, undef, undef, undef, undef], defers := [] }
def LayQ (w0 : World) (xs : List DLnkField) (e : Ending) (w' : World) : Prop := (∃ v, e = .returned v ∧ TSl 5 rLnkField 64 w0.heap.size w' v xs) ∧ Below w0.heap.size w0 w'

theorem I_layout (p : DLodPlan) (L : Nat) (r : DLodRef) (w0 w : World) (hl : LodgeF w0 w L p) (hp : lodOk p = true) (hn : r.fName.size ≤ maxLen) (hk : (Lit.int .i64 r.fKeeper).wf = true) :
  Calls Tryz.prog 47 #[.pointer (some ⟨L, 0, none⟩), .agg #[.int .i64 r.fKeeper, .string r.fName]] w (LayQ w0 (lnkLayout p r)) := by
 have HL := qhd hl
 have HP := qhd hp
 have HW : Hid (Below w0.heap.size w0 w) := qhd (by obtain ⟨_, _, _, _, _, _, _, _, _, _, _, _, _, _, _, _, hw, _⟩ := hl; exact hw)
 obtain ⟨z, hz⟩ : ∃ z, z = lnkLaid p r := ⟨_, rfl⟩
 obtain ⟨u, hu⟩ : ∃ u, u = lnkLayout p r := ⟨_, rfl⟩
 have HU := qhd hu
 have CL : Hid (∀ W, Below w.heap.size w W → Calls Tryz.prog 44 #[.pointer (some ⟨L, 0, none⟩), .agg #[.int .i64 r.fKeeper, .string r.fName]] W fun e w' => e = .returned (.bool z) ∧ Below w0.heap.size w0 w' ∧ Lodge w' L p ∧ FrameL L W w') := qhd fun W hW => by
  rw [hz]; exact I_canLay p L r w0 W (HL.out.below hW) HP.out hn hk
 have HZ := qhd hz
 rw [← hu]
 clear hl hp hz hu hk
 obtain ⟨bl, hbl, hblw⟩ : ∃ bl, w.cell? ⟨L, 3, none⟩ = some (.map (some bl)) ∧ bl < w.heap.size := by
  obtain ⟨_, _, _, _, _, bl, _, _, _, _, c3, _, _, _, m3, _⟩ := HL.out
  exact ⟨bl, c3, m3.lt⟩
 have HBL := qhd hbl
 clear hbl
 refine (callsIn_wide (n := 3)).1 ?_
 refine callsIn_of_wp_marks Tryz.func47 rfl trivial ?_ rfl
 simp only [Tryz.ntmps47, List.size_toArray, List.length_cons, List.length_nil, Nat.reduceAdd, Nat.reduceSub, Array.replicate_succ, Array.replicate_zero, List.push_toArray, List.append_toArray, List.nil_append, List.cons_append]
 refine wpIn_wide.2 ?_
 go_wp2_with fail
 obtain ⟨wB, hwB⟩ : ∃ W, W = (w.alloc (.cells #[.pointer (some ⟨L, 0, none⟩)] 92)).alloc (.cells #[.int .i64 r.fKeeper, .string r.fName] 42) := ⟨_, rfl⟩
 have hB0 : Below w.heap.size w wB := by rw [hwB]; exact bbel
 have hz0 : wB.heap.size = w.heap.size + 1 + 1 := by rw [hwB]; simp
 have b9 : wB.cell? ⟨w.heap.size, 0, none⟩ = some (.pointer (some ⟨L, 0, none⟩)) := by rw [hwB]; go_simp
 have b0 : wB.cell? ⟨w.heap.size + 1, 0, none⟩ = some (.int .i64 r.fKeeper) := by rw [hwB]; go_simp
 have b1 : wB.cell? ⟨w.heap.size + 1, 1, none⟩ = some (.string r.fName) := by rw [hwB]; go_simp
 rw [← hwB]
 clear hwB
 refine (CL.out _ hB0).mono ?_
 rintro _ wA ⟨rfl, hA, hLA, hFr⟩
 have hk1 : wA.heap[w.heap.size]? = wB.heap[w.heap.size]? := hFr.2 bl (qaa hB0 HBL.out) _ (by omega) (by omega)
 have hk2 : wA.heap[w.heap.size + 1]? = wB.heap[w.heap.size + 1]? := hFr.2 bl (qaa hB0 HBL.out) _ (by omega) (by omega)
 have hsA : w.heap.size + 1 < wA.heap.size := by have := hFr.1; omega
 have hsA0 : w.heap.size < wA.heap.size := by omega
 have a9 := (qae (o := 0) hk1).trans b9
 have a0 := (qae (o := 0) hk2).trans b0
 have a1 := (qae (o := 1) hk2).trans b1
 have HEA := qhd hA
 have HLA := qhd hLA
 have hw0 : w0.heap.size ≤ w.heap.size := HW.out.size
 have hwA0 : w0.heap.size ≤ wA.heap.size := by omega
 clear hFr hk1 hk2 b9 b0 b1 hB0 hz0 hA hLA
 cases z
 ·have RV : Hid (u = []) := qhd (by rw [HU.out]; unfold lnkLayout; rw [← HZ.out]; rfl)
  go_wp2_with fail
  refine ⟨.slice none 0 0, by simp [results, Tryz.f47, go_sem], ?_⟩
  exact ⟨⟨_, rfl, by rw [RV.out]; exact TSl.nil⟩, HEA.out⟩
 have RV : Hid (u = layR p (lodChain p r)) := qhd (by rw [HU.out]; unfold lnkLayout; rw [← HZ.out]; rfl)
 obtain ⟨hne, _⟩ := lnkLaid_parts HZ.out.symm
 have hpos : 0 < (lodChain p r).length := List.length_pos_iff.2 hne
 obtain ⟨_, hth, hcr⟩ := lodChain_some hn hne
 have HCL : Hid (∀ x ∈ lodChain p r, ∃ c, clsAt p x = some c ∧ loOfP p x = c ∧ c.fFields.length ≤ 3 ∧ x.fName.size ≤ maxLen) := qhd fun x hx => by
  obtain ⟨c, h1, h2, h3, _⟩ := chain_cls hn hx
  obtain ⟨i, hi⟩ := List.mem_iff_getElem?.1 hx
  exact ⟨c, h1, h2, cls_fields h3, (plain_tail hn hi).1⟩
 have h6 : (lodChain p r).length ≤ 6 := by
  obtain ⟨_, hf6, _⟩ := plain_first (p := p) (r := r) hn hne
  exact_mod_cast hf6
 have hbA : Below wA.heap.size wA (wA.alloc (.cells #[.slice none 0 0] 146)) := bbel
 clear hth hcr hne
 go_wp2_with fail
 refine (I_chain p L r _ (HLA.out.below hbA) HP.out hn).mono ?_
 rintro _ wC ⟨⟨v, rfl, hR⟩, hC⟩
 have hsC := hC.size
 simp only [World.size_alloc] at hsC
 obtain ⟨rs, hrs⟩ : ∃ rs, rs = lodChain p r := ⟨_, rfl⟩
 rw [← hrs] at hR hpos h6 RV HCL
 obtain ⟨g, gc, rfl, hg1, hc1, hc2, hgl⟩ := hR.form hpos
 simp only [World.size_alloc] at hg1
 have HRF := qhd hR
 have hBC : Below wA.heap.size wA wC := hbA.trans (hC.mono hbA.size)
 have hbbC : wC.heap[wA.heap.size]? = some (.cells #[.slice none 0 0] 146 (0, 0)) := (hC.block _ (by simp)).trans (heap_alloc_new wA _)
 clear hrs hR hbA hC
 go_wp2_with fail
 refine (I_Backward _ _ _ _).mono ?_
 rintro _ _ ⟨rfl, rfl⟩
 go_wp2_with fail
 obtain ⟨wS, hwS⟩ : ∃ W, W = wC.alloc (.cells #[.slice (some ⟨g, 0, none⟩) rs.length gc] 55) := ⟨_, rfl⟩
 have hBS : Below wC.heap.size wC wS := by rw [hwS]; exact (Below.refl _ _).alloc (Nat.le_refl _) _
 have hzS : wS.heap.size = wC.heap.size + 1 := by rw [hwS]; simp
 have hbxS : wS.heap[wC.heap.size]? = some (.cells #[.slice (some ⟨g, 0, none⟩) rs.length gc] 55 (0, 0)) := by rw [hwS]; exact heap_alloc_new wC _
 rw [← hwS]
 have hgS : g < wS.heap.size := by omega
 have HRS := qhd (HRF.out.below hBS)
 have hBAS : Below wA.heap.size wA wS := hBC.trans (hBS.mono hBC.size)
 have hbbS : wS.heap[wA.heap.size]? = some (.cells #[.slice none 0 0] 146 (0, 0)) := (hBS.block _ (by omega)).trans hbbC
 clear hwS hbbC
 refine (wpIn_wide (n := 1 + 1 + 1)).1 ?_
 refine range_gives0 (α := Int × DLodRef) (m := 1) (gf := 117) (lb := #[.pointer (some ⟨wC.heap.size, 0, none⟩)]) rfl (enters_of Tryz.func117 (by kernel_rfl) rfl) (enc := encI) (fun _ => rfl) (Kp := KpB wC.heap.size g) kpB_t ?Kb (kpB_w _ _) (G := BackG rs) (S := BackS rs) (N := rs.length)
  (I_back_gives rs g gc wC.heap.size 1 wS hc1 hc2 hgS hbxS (fun k x hk => HRS.out.cell2 hk)) (LayI p rs wA wS wC.heap.size g) (fun _ _ => False) (LayA p r L rs.length gc rs w wA wS wC.heap.size g)
  (fun s W W' h hb => layI_below (by omega) (by omega) (by omega) h hb) (fun s W l rec o' h hl hr => layI_put (by omega) (by omega) (by omega) (by omega) _ o' h hl hr rfl) (fun _ _ _ _ _ h => h.elim) ?Ap (fun s W h => by obtain ⟨_, h1, _⟩ := h; exact h1) ?h0 ?assign ?body ?done ?stop
 case Kb =>
  intro W l rec o' hl hr h1 h2
  exact ⟨by simp, World.putObj_heap_other (by omega), World.putObj_heap_other (by omega)⟩
 case Ap =>
  rintro s x b W l rec o' ⟨hi, k, h1, h2, h3⟩ hl hr
  refine ⟨layI_put (by omega) (by omega) (by omega) (by omega) _ o' hi (by omega) hr rfl, k, h1, ?_, h3⟩
  rw [World.putObj_heap_other]
  ·exact h2
  ·intro e; subst e; rw [hr] at h2; cases h2
 case h0 =>
  refine ⟨.slice none 0 0, Nat.zero_le _, Nat.le_refl _, hBAS, rfl, rfl, hbbS, ?_⟩
  rw [show ([] : List (Int × DLodRef)).length = 0 from rfl, Nat.sub_zero, List.drop_length]
  exact ⟨TSl.nil, fun b hb => by cases hb⟩
 case assign =>
  intro l s x W hI hG
  have HI := qhd hI
  obtain ⟨ov, i1, i2, i3, i4, i5, i6, i7⟩ := hI
  clear i1 i3 i4 i5 i6 i7 hbxS hbbS hBAS hBS hBC
  unfold encI
  dsimp only [List.zip_toArray, Array.zip]
  gi_wp2
  exact ⟨(Below.refl _ _).alloc (Nat.le_refl _) _, layI_below (by omega) (by omega) (by omega) HI.out ((Below.refl _ _).alloc (Nat.le_refl _) _), _, i2, heap_top rfl, rfl⟩
 case body =>
  rintro l s _ b W ⟨⟨ov, i1, i2, i3, i4, i5, i6, i7⟩, k, hk, hkc, rfl⟩ ⟨kx, y, hs1, hy, rfl⟩
  obtain ⟨c, hc, hlc, hc3, hyn⟩ := HCL.out y (List.mem_of_getElem? hy)
  obtain ⟨_, hv, CCX⟩ := I_classV p L y c wA HLA.out hc hyn HP.out
  obtain ⟨a1, l1, c1, a2, l2, c2, rfl, d1, _, _, _⟩ := hv
  rw [show rs.length - s.length = kx + 1 by omega] at i7
  have hdrop := layR_drop (p := p) hy
  have hl18 : (layR p (rs.drop (kx + 1))).length ≤ 1000 := by
   have := lay_len (p := p) (rs := rs.drop (kx + 1)) fun x hx => by
    obtain ⟨c, _, h2, h3, _⟩ := HCL.out x (List.mem_of_mem_drop hx)
    rw [h2]; exact h3
   simp only [List.length_drop] at this
   omega
  obtain ⟨cg, hcg⟩ : ∃ cg, wS.heap[g]? = some (.cells cg 42 (0, 0)) := by
   have h9 := HRS.out
   unfold Refs at h9
   obtain ⟨_, h9⟩ := h9
   rcases h9 with ⟨h9, _⟩ | ⟨g', cap, cur, h9, _, h10, _⟩
   ·cases h9
   ·cases h9; exact ⟨_, h10⟩
  have hAS : wA.heap.size < wS.heap.size := by omega
  have CCL : Hid (Calls Tryz.prog 84 #[.pointer (some ⟨L, 0, none⟩), .agg #[.int .i64 y.fKeeper, .string y.fName]] W.drew fun e w' => e = .returned (.agg #[.string c.fName, .string c.fSuper, .slice a1 l1 c1, .slice a2 l2 c2]) ∧ Below W.drew.heap.size W.drew w') := qhd (CCX W.drew i3.drew)
  have CAD : Hid (∀ wX, Below W.drew.heap.size W.drew wX → Calls Tryz.prog 83 #[.pointer (some ⟨wA.heap.size, 0, none⟩), .agg #[.int .i64 y.fKeeper, .string y.fName], .slice a1 l1 c1] wX fun e w' => (∃ v, e = .returned v) ∧ KeepsFrom wS.heap.size W w' ∧ KpB wC.heap.size g W w' ∧ LayI p rs wA wS wC.heap.size g (s ++ [((kx : Int), y)]) w') := qhd fun wX hX => by
   have hXW : Below W.heap.size W wX := ((Below.refl _ W).drew).trans hX
   have hXs := hXW.size
   refine (I_add p y (layR p (rs.drop (kx + 1))) a1 l1 c1 wA.heap.size (wA.heap.size + 1) ov wA wX (i3.trans (hXW.mono (by omega))) (Nat.le_refl _) (by omega) (by omega) ((hXW.block _ (by omega)).trans i6) (i7.below (E := NoT) qal hXW) (by rw [hlc]; exact d1) hl18 (by rw [hlc]; exact hc3) hyn).mono ?_
   rintro e w' ⟨h1, h2, h3, h4, ov', h5, h6⟩
   have hxb : wX.heap[wC.heap.size]? = wS.heap[wC.heap.size]? := (hXW.block _ (by omega)).trans i4
   have hxg : wX.heap[g]? = wS.heap[g]? := (hXW.block _ (by omega)).trans i5
   have hyb : w'.heap[wC.heap.size]? = wX.heap[wC.heap.size]? := h3.block _ _ _ _ (Nat.zero_le _) (by unfold EAdd; decide) (hxb.trans hbxS)
   have hyg : w'.heap[g]? = wX.heap[g]? := h3.block _ _ _ _ (Nat.zero_le _) (by unfold EAdd; decide) (hxg.trans hcg)
   have h3s := h3.size
   refine ⟨h1, ((others_of hXW).trans h4).from _, fun _ _ => ⟨by omega, (hyb.trans hxb).trans i4.symm, (hyg.trans hxg).trans i5.symm⟩, ov', by simp; omega, by omega, h2, hyb.trans hxb, hyg.trans hxg, h5, ?_⟩
   rw [show rs.length - (s ++ [((kx : Int), y)]).length = kx by simp; omega, hdrop]
   exact h6
  obtain ⟨e0, e1, _, _⟩ := two_cells hkc
  have e9 := qaa i3 a9
  have hfld : ∀ V, (Instr.field 29 (.agg #[.string c.fName, .string c.fSuper, .slice a1 l1 c1, .slice a2 l2 c2]) 2).run Tryz.prog V = .ok (.slice a1 l1 c1) V := fun _ => by kernel_rfl
  have KX : Hid (∀ wX, Below W.drew.heap.size W.drew wX → wX.cell? ⟨k, 0, none⟩ = some (.int .i64 y.fKeeper) ∧ wX.cell? ⟨k, 1, none⟩ = some (.string y.fName)) := qhd fun wX hX => ⟨qaa hX (show W.drew.cell? _ = _ from e0), qaa hX (show W.drew.cell? _ = _ from e1)⟩
  clear i1 i2 i3 i4 i5 i6 i7 hdrop hl18 hcg CCX d1 hc hlc hc3 hbxS hbbS hBAS hBS hBC hs1 hy hkc
  gi_wp2_with fail
  gi_region_with (first | (refine ⟨trivial, ?_⟩; gi_at_call 84; refine (CallsIn.inRound l (callsIn_wide.2 CCL.out)).mono ?_; rintro _ wX ⟨rfl, hX⟩; obtain ⟨x0, x1⟩ := KX.out wX hX; have HX := qhd hX; clear hX) | (refine ⟨trivial, ?_⟩; gi_at_call 83; refine (CallsIn.inRound l (callsIn_wide.2 (CAD.out _ HX.out))).mono ?_; rintro _ wY ⟨⟨_, rfl⟩, fin⟩; have FIN := qhd fin; clear fin))
  all_goals exact FIN.out
 case done =>
  rintro D s W hD hS ⟨ov, i1, i2, i3, i4, i5, i6, i7⟩ hK
  unfold BackS at hS
  rw [hS, Nat.sub_self, List.drop_zero] at i7
  obtain ⟨oa, oc, rfl, _, _⟩ := i7.sl.form
  have q0 : W.cell? ⟨wA.heap.size, 0, none⟩ = some (.slice oa (layR p rs).length oc) := by simp [World.cell?, i6]
  have HK := qhd hK
  have I7 := qhd i7
  have I3 := qhd i3
  have hAW : wA.heap.size < W.heap.size := by omega
  clear i1 i2 i3 i4 i5 i6 i7 hbxS hbbS hBAS hBS hBC hK hS
  go_wp2_with fail
  refine ⟨by simp, .inl ⟨_, _, rfl, run_takeDeferred HK.out, ?_⟩⟩
  refine ⟨.slice oa (layR p rs).length oc, by simp [results, Tryz.f47, go_sem], ⟨_, rfl, ?_⟩, HEA.out.trans ((I3.out.trans (putObj_below _ (by omega))).mono hwA0)⟩
  rw [RV.out]
  exact (I7.out.put _ _ HK.out rfl).sl.low' (E := NoT) qal (by omega)
 case stop =>
  intro D s W hD h
  exact h.elim

theorem I_LnkLayout (x : DLodPlan) (v1 : Value) (r : DLodRef) (w : World) (s1 : Sl 2 rLodKeeper 0 w v1 x.fKeepers) (hn : r.fName.size ≤ maxLen) (hk : (Lit.int .i64 r.fKeeper).wf = true) :
  Calls Tryz.prog 19 #[.agg #[v1], .agg #[.int .i64 r.fKeeper, .string r.fName]] w fun e w' => LayV w e w' (lnkLayout x r) := by
 obtain ⟨pa, pl, pc, rfl⟩ := s1.form
 have HS := qhd s1
 obtain ⟨u, hu⟩ : ∃ u, u = lnkLayout x r := ⟨_, rfl⟩
 have HU := qhd hu
 rw [← hu]
 have HK := qhd hk
 clear s1 hu hk
 refine qab fun R HR => ?_
 go_enter Tryz.func19, Tryz.ntmps19
 go_wp2_with fail
 have hEw : Below w.heap.size w ((w.alloc (.cells #[.slice pa pl pc] 25)).alloc (.cells #[.int .i64 r.fKeeper, .string r.fName] 42)) := bbel
 refine (I_newLodgeF x _ _ (HS.out.stays rLodKeeper_good (Keeps.of_below hEw))).mono ?_
 rintro _ wA ⟨hA, hq⟩
 have hEA : Below w.heap.size w wA := bbel
 have hAs := (hA).size; (try simp only [qsz] at hAs)
 obtain ⟨hAad, hAao, hAag, hAap, hAax, hAay, hAac1, hAaf1, hAaz1⟩ := bf2 (n := w.heap.size) hA
 rcases hq with ⟨hp, rfl⟩ | ⟨hp, L, rfl, hL⟩
 ·have RV : Hid (u = []) := qhd (by
   rw [HU.out]
   unfold lnkLayout
   cases e : lnkLaid x r with
   | false => rfl
   | true =>
     have := (lodChain_some hn (lnkLaid_parts e).1).1
     rw [hp] at this; cases this)
  clear hp hEw hA
  go_wp2
  all_goals
   (try go_returns)
   exact HR.out _ _ ⟨⟨_, rfl, by rw [RV.out]; exact TSl.nil⟩, bbel⟩
 have h9 := I_layout x L r _ wA hL hp hn HK.out
 rw [← HU.out] at h9
 have CP := qhd h9
 clear hp hL h9
 go_wp2_with fail
 refine CP.out.mono ?_
 rintro _ wC ⟨⟨v, rfl, hv⟩, hC⟩
 obtain ⟨va, vc, rfl, _, _⟩ := hv.form
 have HV := qhd (hv.low' (lo' := w.heap.size) (E := NoT) qal hEw.size)
 have hEC : Below w.heap.size w wC := hEw.trans (hC.mono hEw.size)
 clear hEw hC hEA hA CP hv
 go_wp2
 all_goals
  (try go_returns)
  exact HR.out _ _ ⟨⟨_, rfl, HV.out⟩, bbel⟩

end Go.Proofs.YtmbfpbgkchncgaaGreat
