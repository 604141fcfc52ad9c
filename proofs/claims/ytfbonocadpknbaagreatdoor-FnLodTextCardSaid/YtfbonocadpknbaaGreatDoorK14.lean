/-
  Texts of mine, packed: Way, WayB, PlanOr, DrawL. No condition beside those of the single theorems.
-/
import Derived.Test.YtfbonocadpknbaaGreatDoorK11
import Derived.Test.YtfbonocadpknbaaGreatDoorK13
set_option linter.unusedSimpArgs false
set_option linter.unusedVariables false
set_option maxHeartbeats 16000000
set_option maxRecDepth 100000
namespace Go.Proofs.YtfbonocadpknbaaGreatDoor
open Go.RowKit
def PlanOr20 (r p : Nat) (w : World) (e : Ending) (w' : World) : Prop := ∃ pv pl q, e = .returned (.agg #[pv]) ∧ Sl 2 rLodKeeper w.heap.size w' pv pl.fKeepers ∧ NoRing pl ∧ q ≤ p + 300 ∧ Rd w' r q ∧ Ex r w.heap.size w w'
theorem TPlan.slw {lo : Nat} {w : World} {v : Value} {p : DLodPlan} (h : TPlan lo w v p) : Sl 2 rLodKeeper lo w v p.fKeepers := by
 obtain ⟨css, h⟩ := h
 have h1 : TSl 2 tLodKeeper 45 lo w v p.fKeepers := ⟨css, h.rows, h.owns⟩
 exact h1.sl fun _ _ h => tLodKeeper_r h
def NoRingK (k : DLodKeeper) : Prop := ∀ c ∈ k.fOwns, by' c.fSuper ≠ tRing
theorem NoRing.set {pl : DLodPlan} {k : DLodKeeper} (h : NoRing pl) (hk : NoRingK k) (i : Nat) : NoRing ⟨pl.fKeepers.set i k⟩ := fun x hx => by
 rcases List.mem_or_eq_of_mem_set hx with hm | rfl
 ·exact h x hm
 ·exact hk
theorem NoRingK.snoc {k : DLodKeeper} {c : DClsClass} (h : NoRingK k) (hc : by' c.fSuper ≠ tRing) : NoRingK { k with fOwns := k.fOwns ++ [c] } := fun x hx => by
 rcases List.mem_append.1 hx with hm | hm
 ·exact h x hm
 ·rw [List.mem_singleton] at hm; subst hm; exact hc
theorem TypeAt.kept {w w' : World} {c : Nat} {t : TypeId} {E : TypeId → Prop} (h : TypeAt w c t) {lo : Nat} (hk : KeepsT E lo w w') (hl : lo ≤ c) (he : E t) : w'.heap[c]? = w.heap[c]? := by
 obtain ⟨cs, fr, h⟩ := h
 exact hk.block c cs t fr hl he h
theorem KeepsT.up {E : TypeId → Prop} {lo : Nat} {w w' : World} (h : KeepsT E 0 w w') : KeepsT E lo w w' := ⟨h.size, fun g cs e fr _ => h.block g cs e fr (Nat.zero_le _)⟩
theorem One1.kept {w w' : World} {b : Nat} {x0 : Value} (h : One1 w b x0) (hs : w.heap.size ≤ w'.heap.size) (hk : w'.heap[b]? = w.heap[b]?) : One1 w' b x0 := ⟨Nat.lt_of_lt_of_le h.lt hs, (qah hk).trans h.c0, (qam hk).trans h.f0⟩
theorem Four2.kept {w w' : World} {b : Nat} {x0 x1 : Value} (h : Four2 w b x0 x1) (hs : w.heap.size ≤ w'.heap.size) (hk : w'.heap[b]? = w.heap[b]?) : Four2 w' b x0 x1 := ⟨Nat.lt_of_lt_of_le h.lt hs, (qah hk).trans h.c0, (qah hk).trans h.c1, (qam hk).trans h.f0, (qam hk).trans h.f1⟩
theorem TypeAt.of_kept {w w' : World} {c : Nat} {t : TypeId} (h : TypeAt w c t) (hk : w'.heap[c]? = w.heap[c]?) : TypeAt w' c t := by
 obtain ⟨cs, fr, h⟩ := h
 exact ⟨cs, fr, hk.trans h⟩
theorem Turn.setCell1 (b o : Nat) (v : Value) (w : World) : Turn b w (w.setCell ⟨b, o, none⟩ v) := Turn.setCells b [v] o w
theorem Hole.turn {lo X : Nat} {w w' : World} {v : Value} {css : List (List Value)} {p : DLodPlan} {k : Nat} {xo xa : Value} (h : Hole lo w v css p k xo xa) (ht : Turn X w w') (hT : TypeAt w X 45) (hn : v.ownBlock ≠ some X) : Hole lo w' v css p k xo xa :=
 ⟨h.len, h.sz, fun i x o a hi hx hc => by
  obtain ⟨h1, h2⟩ := h.row i x o a hi hx hc
  exact ⟨tLodKeeper_goodT.stays _ _ _ _ _ (KeepsT.of_turn ht hT ELodKeeper_not) h1, h2⟩, own_kept h.owns (fun g cs fr hg _ hgc => ht.block g (fun e => hn (e ▸ hg)))⟩
structure Way (lo P X r k : Nat) (w0 wz : World) (b cap m : Nat) (css : List (List Value)) (pl : DLodPlan) (xo xa : Value) (kx : DLodKeeper) : Prop where
 res : One1 wz w0.heap.size (.slice none 0 0)
 tres : TypeAt wz w0.heap.size 25
 plan : One1 wz P (.slice (some ⟨b, 0, none⟩) m cap)
 tplan : TypeAt wz P 25
 cell : Four2 wz X xo xa
 tcell : TypeAt wz X 45
 hole : Hole lo wz (.slice (some ⟨b, 0, none⟩) m cap) css pl k xo xa
 row : tLodKeeper lo wz [xo, xa] kx
 ex : Ex r w0.heap.size w0 wz
 len : pl.fKeepers.length = m
 lt : k < m
 small : m ≤ 100
 capm : m ≤ cap
 capx : cap ≤ 9223372036854775807
 hlo : lo ≤ b
 hb : b < wz.heap.size
 hX : b ≠ X
 hr : r < lo
 h0 : lo ≤ w0.heap.size
 hP : w0.heap.size < P
 hPX : P < X
theorem Way.ex' {lo P X r k N : Nat} {w0 wx wy : World} {b cap m : Nat} {css : List (List Value)} {pl : DLodPlan} {xo xa : Value} {kx : DLodKeeper} (h : Way lo P X r k w0 wx b cap m css pl xo xa kx) (he : Ex r N wx wy) (hN : wx.heap.size ≤ N) : Way lo P X r k w0 wy b cap m css pl xo xa kx := by
 have q1 := h.res.lt; have q2 := h.plan.lt; have q3 := h.cell.lt; have q4 := h.hr; have q5 := h.h0; have q6 := h.hP; have q7 := h.hPX; have q8 := h.hb; have hs := he.size; have q9 := h.ex.size
 exact ⟨h.res.kept hs (he.block _ (by omega) (by omega)), h.tres.ex he (by omega) (by omega), h.plan.kept hs (he.block _ (by omega) (by omega)), h.tplan.ex he (by omega) (by omega), h.cell.kept hs (he.block _ (by omega) (by omega)), h.tcell.ex he (by omega) (by omega), h.hole.ex he q4 hN, tLodKeeper_goodT.stays _ _ _ _ _ (KeepsT.of_ex he q4 hN) h.row, h.ex.trans (he.mono (by omega)), h.len, h.lt, h.small, h.capm, h.capx, h.hlo, by omega, h.hX, h.hr, h.h0, h.hP, h.hPX⟩
theorem Way.anew {lo P X r k o : Nat} {w0 wx wy : World} {b cap m : Nat} {css : List (List Value)} {pl : DLodPlan} {xo xa yo ya y : Value} {kx ky : DLodKeeper} (t : TypeId) (h : Way lo P X r k w0 wx b cap m css pl xo xa kx) (hk : KeepsT (fun s => s ≠ t) lo wx wy) (ht : 25 ≠ t ∧ 45 ≠ t) (he : Ex r w0.heap.size wx wy)
  (hh : Hole lo wy (.slice (some ⟨b, 0, none⟩) m cap) css pl k yo ya) (hr : tLodKeeper lo wy [yo, ya] ky) (hc : Four2 wy X xo xa → Four2 (wy.setCell ⟨X, o, none⟩ y) X yo ya) : Way lo P X r k w0 (wy.setCell ⟨X, o, none⟩ y) b cap m css pl yo ya ky := by
 have q1 := h.res.lt; have q2 := h.plan.lt; have q3 := h.cell.lt; have q4 := h.hr; have q5 := h.h0; have q6 := h.hP; have q7 := h.hPX; have q8 := h.hb; have q9 := h.ex.size; have hs := hk.size
 have hT : TypeAt wy X 45 := h.tcell.of_kept (h.tcell.kept hk (by omega) ht.2)
 have hu := Turn.setCell1 X o y wy
 have hz := hu.size
 refine ⟨(h.res.kept hs (h.tres.kept hk (by omega) ht.1)).set_other (by omega), (h.tres.of_kept (h.tres.kept hk (by omega) ht.1)).set _ _, (h.plan.kept hs (h.tplan.kept hk (by omega) ht.1)).set_other (by omega), (h.tplan.of_kept (h.tplan.kept hk (by omega) ht.1)).set _ _,
  hc (h.cell.kept hs (h.tcell.kept hk (by omega) ht.2)), hT.set _ _, hh.turn hu hT (fun e => h.hX (by cases e; rfl)), tLodKeeper_goodT.stays _ _ _ _ _ (KeepsT.of_turn hu hT ELodKeeper_not) hr,
  (h.ex.trans he).trans (hu.ex (by omega)), h.len, h.lt, h.small, h.capm, h.capx, h.hlo, by omega, h.hX, h.hr, h.h0, h.hP, h.hPX⟩
def WayEnd (lo P X r q k : Nat) (w0 wz : World) : Prop := ∃ (b cap m : Nat) (css : List (List Value)) (pl : DLodPlan) (xo xa : Value) (kx : DLodKeeper) (q' : Nat), Way lo P X r k w0 wz b cap m css pl xo xa kx ∧ NoRing pl ∧ NoRingK kx ∧ q' ≤ q ∧ Rd wz r q'

theorem cell_setCells_other {b c : Nat} : ∀ (vs : List Value) (o j : Nat) (w : World), (j < o ∨ o + vs.length ≤ j) → (w.setCells b o vs).cell? ⟨b, j, none⟩ = w.cell? ⟨b, j, none⟩
 | [], _, _, _, _ => rfl
 | v :: r, o, j, w, h => by
   rw [World.setCells, cell_setCells_other (c := c) r (o + 1) j _ (by simp at h; omega)]
   exact World.cell?_setCell_other _ _ _ _ (by intro e; simp at e; simp at h; omega)
theorem wpList_store_midT {P : Program} {ops : Array Oper} {rest : List Oper} {op : Oper} {a : Act} {w : World} {Q : Exit → Act → World → Prop} (hgd : op.guard = none) (ty : TypeId) (x y : Operand) (ho : op.op = .store ty x y)
  (b o : Nat) (cs : List Value) (hx : a.eval x = .pointer (some ⟨b, o, none⟩)) (hy : a.eval y = .agg cs.toArray)
  (ht : w.there b o cs.length) (hi : (P.info? ty).map (·.size) = some cs.length) (h1 : ∀ v ∈ cs, v.oneCell' = true)
  (h : ∀ w', w'.rangeAt b o cs → Turn b w w' → (∀ j, j < o ∨ o + cs.length ≤ j → w'.cell? ⟨b, j, none⟩ = w.cell? ⟨b, j, none⟩) → (∀ c t, TypeAt w c t → TypeAt w' c t) → wpList P ops Q rest (a.put op.dst undef) w') : wpList P ops Q (op :: rest) a w := by
 refine wpList_store_mid hgd ty x y ho b o cs.toArray hx hy (by simpa using ht) (by simpa using hi) (all_oneCell_toArray h1) ?_
 exact h _ (World.rangeAt_setCells_same w b o cs ht) (Turn.setCells b _ o w) (fun j hj => cell_setCells_other (c := 0) cs o j w hj) (fun c t hT => TypeAt.setCells _ _ hT)
theorem Hole.type {lo b cap m : Nat} {w : World} {css : List (List Value)} {p : DLodPlan} {k : Nat} {xo xa : Value} (h : Hole lo w (.slice (some ⟨b, 0, none⟩) m cap) css p k xo xa) (hm : p.fKeepers.length = m) (h0 : 0 < m) : TypeAt w b 45 := by
 obtain ⟨_, h2⟩ := h.owns
 rcases h2 with ⟨_, h2⟩ | ⟨g, cap, cur, h1, _, h3, _⟩
 ·omega
 ·cases h1; exact ⟨cur, (0, 0), h3⟩
theorem Hole.there {lo b cap m : Nat} {w : World} {css : List (List Value)} {p : DLodPlan} {k : Nat} {xo xa : Value} (h : Hole lo w (.slice (some ⟨b, 0, none⟩) m cap) css p k xo xa) (hm : p.fKeepers.length = m) (hk : k < m) : w.there b (k * 2) 2 := by
 obtain ⟨h0, h2⟩ := h.owns
 have hfl : css.flatten.length = m * 2 := by rw [flat_len h.sz, h.len, hm]
 rcases h2 with ⟨_, h2⟩ | ⟨g, cap, cur, h1, _, h3, h4, h5, h6, h7⟩
 ·omega
 ·cases h1
  intro j hj
  have hsz : k * 2 + j < cur.size := by
   have e := congrArg List.length h7
   rw [List.length_take, Array.length_toList, hfl] at e
   omega
  have h1 : (w.cell? ⟨b, k * 2 + j, none⟩) = some cur[k * 2 + j] := by simp [World.cell?, h3, hsz]
  exact ⟨by rw [h1]; rfl, by simp [World.frozen?, h3]⟩
theorem Hole.put2 {lo b : Nat} {w w' : World} {cap : Nat} {css : List (List Value)} {p : DLodPlan} {k : Nat} {xo xa : Value} {kx : DLodKeeper} (h : Hole lo w (.slice (some ⟨b, 0, none⟩) p.fKeepers.length cap) css p k xo xa) (hk : k < p.fKeepers.length) (hx : tLodKeeper lo w [xo, xa] kx) (hs : w.heap.size ≤ w'.heap.size) (hkeep : KeepsT ELodKeeper lo w w') (hr : w'.rangeAt b (k * 2) [xo, xa])
  (hoth : ∀ j, j < k * 2 ∨ k * 2 + 2 ≤ j → w'.cell? ⟨b, j, none⟩ = w.cell? ⟨b, j, none⟩) : Sl 2 rLodKeeper lo w' (.slice (some ⟨b, 0, none⟩) p.fKeepers.length cap) (p.fKeepers.set k kx) := by
 obtain ⟨b', cap', e, hlo, hbl, hc, hm, hcell, _⟩ := own_cell h.owns (by omega)
 cases e
 refine ⟨_, _, _, rfl, by rw [List.length_set], hc, hm, fun _ => ⟨b, 0, rfl, hlo, by omega, fun i hi => ?_⟩⟩
 obtain ⟨x, hxi⟩ : ∃ x, p.fKeepers[i]? = some x := ⟨_, List.getElem?_eq_getElem hi⟩
 by_cases hik : i = k
 ·subst hik
  refine ⟨kx, [xo, xa], by rw [List.getElem?_set, if_pos rfl, if_pos hi], rfl, fun j u hj => ?_, tLodKeeper_r (tLodKeeper_goodT.stays _ _ _ _ _ hkeep hx)⟩
  rw [Nat.zero_add]
  exact hr j u hj
 ·obtain ⟨cs, hcs⟩ : ∃ cs, css[i]? = some cs := ⟨_, List.getElem?_eq_getElem (by rw [h.len]; exact hi)⟩
  have hz := h.sz cs (List.mem_of_getElem? hcs)
  obtain ⟨o, a, rfl⟩ : ∃ o a, cs = [o, a] := by
   match cs, hz with
   | [o, a], _ => exact ⟨o, a, rfl⟩
  refine ⟨x, [o, a], by rw [List.getElem?_set, if_neg (fun e => hik e.symm)]; exact hxi, rfl, fun j u hj => ?_, tLodKeeper_r (tLodKeeper_goodT.stays _ _ _ _ _ hkeep (h.row i x o a hik hxi hcs).1)⟩
  have hj2 : j < 2 := by have := (List.getElem?_eq_some_iff.1 hj).1; simpa using this
  rw [Nat.zero_add, hoth _ (by omega)]
  exact hcell _ u ((flat_at h.sz hcs hj2).trans hj)

theorem Hole.growA2 {lo base n : Nat} {w w' : World} {v : Value} {css : List (List Value)} {p : DLodPlan} {k : Nat} {xo xa xa' : Value} {xs : List Value} (h : Hole lo w v css p k xo xa) (hg : w.grownBy w' xa.ownBlock) (hown : w.ownsRow base 51 2 xa n xs) (hat : ∀ b, xa'.ownBlock = some b → xa.ownBlock = some b ∨ w.heap.size ≤ b) : Hole lo w' v css p k xo xa' :=
 ⟨h.len, h.sz, fun i x o a hi hx hc => ⟨((h.growA hg hown).row i x o a hi hx hc).1, ((h.retake (xo' := xo) (xa' := xa') (fun b hb => Or.inl hb) hat).row i x o a hi hx hc).2⟩, (h.growA hg hown).owns⟩
theorem Hole.growO2 {lo base n : Nat} {w w' : World} {v : Value} {css : List (List Value)} {p : DLodPlan} {k : Nat} {xo xa xo' : Value} {xs : List Value} (h : Hole lo w v css p k xo xa) (hg : w.grownBy w' xo.ownBlock) (hown : w.ownsRow base 37 4 xo n xs) (hat : ∀ b, xo'.ownBlock = some b → xo.ownBlock = some b ∨ w.heap.size ≤ b) : Hole lo w' v css p k xo' xa :=
 ⟨h.len, h.sz, fun i x o a hi hx hc => ⟨((h.growO hg hown).row i x o a hi hx hc).1, ((h.retake (xo' := xo') (xa' := xa) hat (fun b hb => Or.inl hb)).row i x o a hi hx hc).2⟩, (h.growO hg hown).owns⟩

def drawG (d r : Nat) (i : Nat) (w w' : World) : Prop := (i = d ∧ Ex r w.heap.size w w') ∨ Below w.heap.size w w'
def drawI (d r q : Nat) (i : Nat) (w : World) : Prop := i = d → Rd w r q
theorem drawI_stays {d r q : Nat} : ∀ i j w w', i ≠ j → drawG d r j w w' → drawI d r q i w → drawI d r q i w' := by
 intro i j w w' hne hg h hi
 subst hi
 rcases hg with ⟨e, _⟩ | g
 ·exact absurd e.symm hne
 ·exact qax g (h rfl) (h rfl).lt
theorem drawG_block {d r B c : Nat} {i : Nat} {w w' : World} (hr : r < B) (hg : drawG d r i w w') (hc : B ≤ c) {o : Obj} (h : w.heap[c]? = some o) : w'.heap[c]? = some o := by
 have hl := (Array.getElem?_eq_some_iff.1 h).1
 rcases hg with ⟨_, g⟩ | g
 ·exact (g.block c (by omega) hl).trans h
 ·exact (g.block c hl).trans h
def askN (n : Int) : Prop := n = -1 ∨ n = 3
def addF (B r q X : Nat) (xa : Value) : Nat → Value → World → Prop
 | 0, v, _ => v = .pointer (some ⟨X, 1, none⟩)
 | 1, v, _ => v = xa
 | 2, v, w => ∃ c, v = .slice (some ⟨c, 0, none⟩) 2 2 ∧ B ≤ c ∧ w.heap[c]? = some (.cells #[.int .i64 (-1), .int .i64 3] 3 (0, 0))
 | 3, v, _ => v = .pointer (some ⟨r, 0, none⟩)
 | 4, v, w => (v = .int .i64 0 ∨ v = .int .i64 1) ∧ Rd w r (q + 1)
 | 5, v, w => ∃ c x, (x = 0 ∨ x = 1) ∧ v = .pointer (some ⟨c, x, none⟩) ∧ B ≤ c ∧ w.heap[c]? = some (.cells #[.int .i64 (-1), .int .i64 3] 3 (0, 0))
 | 6, v, _ => ∃ n, askN n ∧ v = .int .i64 n
 | 7, v, _ => ∃ n, askN n ∧ v = .agg #[.string ⟨#[120]⟩, .int .i64 n]
 | 8, v, w => ∃ n c, askN n ∧ v = .slice (some ⟨c, 0, none⟩) 1 1 ∧ B ≤ c ∧ w.heap[c]? = some (.cells #[.string ⟨#[120]⟩, .int .i64 n] 51 (0, 0))
 | _, _, _ => True
theorem addF_stays {B r q X : Nat} (hr : r < B) {xa : Value} : ∀ i j u w w', i ≠ j → drawG 4 r j w w' → addF B r q X xa i u w → addF B r q X xa i u w' := by
 intro i j u w w' hne hg h
 match i with
 | 0 | 1 | 3 | 6 | 7 => exact h
 | 2 =>
   obtain ⟨c, h1, h2, h3⟩ := h
   exact ⟨c, h1, h2, drawG_block hr hg h2 h3⟩
 | 4 =>
   refine ⟨h.1, ?_⟩
   rcases hg with ⟨rfl, _⟩ | g
   ·exact absurd rfl hne
   ·exact qax g h.2 h.2.lt
 | 5 =>
   obtain ⟨c, x, h0, h1, h2, h3⟩ := h
   exact ⟨c, x, h0, h1, h2, drawG_block hr hg h2 h3⟩
 | 8 =>
   obtain ⟨n, c, h0, h1, h2, h3⟩ := h
   exact ⟨n, c, h0, h1, h2, drawG_block hr hg h2 h3⟩
 | n + 9 => trivial
theorem cell_at {w : World} {c j : Nat} {cs : Array Value} {t : TypeId} {fr : Nat × Nat} {v : Value} (h : w.heap[c]? = some (.cells cs t fr)) (hj : cs[j]? = some v) : w.cell? ⟨c, j, none⟩ = some v := by
 simp [World.cell?, h, hj]
theorem Src.at {k : Nat} {w : World} {c : Nat} {cs : List Value} {t : TypeId} {fr : Nat × Nat} (h : w.heap[c]? = some (.cells cs.toArray t fr)) : Src k w (.slice (some ⟨c, 0, none⟩) 1 1) [cs] := Src.one fun j u hj => cell_at h (by simpa using hj)

theorem clsNil (nm : ByteArray) (h : nm.size ≤ 100) (lo : Nat) (w : World) : tClsClass lo w [.string nm, .string ⟨#[]⟩, .slice none 0 0, .slice none 0 0] ⟨nm, ⟨#[]⟩, [], []⟩ :=
 ⟨_, _, rfl, TSl.nil, TSl.nil, by show nm.size ≤ maxLen; unfold maxLen; omega, by show 0 ≤ maxLen; omega⟩
theorem goodT_cls : GoodT (fun s => s ≠ 37) tClsClass := tClsClass_goodT.mono fun t ht e => EClsClass_self (e ▸ ht)
theorem str3_at {w : World} {c x : Nat} (h : w.heap[c]? = some (.cells #[.string ⟨#[]⟩, .string ⟨#[116, 111, 112]⟩, .string ⟨#[65]⟩] 9 (0, 0))) (hx : x < 3) : ∃ nm : ByteArray, nm.size ≤ 100 ∧ w.cell? ⟨c, x, none⟩ = some (.string nm) := by
 rcases (show x = 0 ∨ x = 1 ∨ x = 2 by omega) with rfl | rfl | rfl
 ·exact ⟨⟨#[]⟩, by decide, cell_at h rfl⟩
 ·exact ⟨⟨#[116, 111, 112]⟩, by decide, cell_at h rfl⟩
 ·exact ⟨⟨#[65]⟩, by decide, cell_at h rfl⟩

def lenAt (w : World) (c : Nat) : Nat := match w.cell? ⟨c, 0, none⟩ with | some (.slice _ n _) => n | _ => 0
theorem lenAt_of {w : World} {c n k : Nat} {a : Option Addr} (h : w.cell? ⟨c, 0, none⟩ = some (.slice a n k)) : lenAt w c = n := by
 unfold lenAt; rw [h]
theorem NoRing.snoc {pl : DLodPlan} (h : NoRing pl) : NoRing ⟨pl.fKeepers ++ [⟨[], []⟩]⟩ := fun x hx => by
 rcases List.mem_append.1 hx with hm | hm
 ·exact h x hm
 ·rw [List.mem_singleton] at hm; subst hm; exact fun c hc => by cases hc
theorem goodT_kpr : GoodT (fun s => s ≠ 45) tLodKeeper := tLodKeeper_goodT.mono fun t ht e => ELodKeeper_not (e ▸ ht)
theorem PlanC.ex {lo r N : Nat} {w w' : World} {v : Value} {css : List (List Value)} {p : DLodPlan} (h : PlanC lo w v css p) (he : Ex r N w w') (hr : r < lo) (hN : w.heap.size ≤ N) : PlanC lo w' v css p := h.keeps (KeepsT.of_ex he hr hN)
theorem Way.typeb {lo P X r k : Nat} {w0 wx : World} {b cap m : Nat} {css : List (List Value)} {pl : DLodPlan} {xo xa : Value} {kx : DLodKeeper} (h : Way lo P X r k w0 wx b cap m css pl xo xa kx) : b ≠ P ∧ b ≠ w0.heap.size := by
 have q := h.lt
 obtain ⟨_, _, h2⟩ := h.hole.type h.len (by omega)
 refine ⟨fun e => ?_, fun e => ?_⟩
 ·obtain ⟨_, _, h1⟩ := h.tplan
  rw [← e, h2] at h1; cases h1
 ·obtain ⟨_, _, h1⟩ := h.tres
  rw [← e, h2] at h1; cases h1
theorem Way.keep1 {lo P X r k : Nat} {w0 wx wy : World} {b cap m b2 cap2 : Nat} {css : List (List Value)} {pl : DLodPlan} {xo xa : Value} {kx : DLodKeeper} (h : Way lo P X r k w0 wx b cap m css pl xo xa kx) (hpc : PlanC lo wx (.slice (some ⟨b, 0, none⟩) m cap) css pl) (hck : css[k]? = some [xo, xa])
  (hto : TOwnC 2 tLodKeeper 45 lo lo wy (.slice (some ⟨b2, 0, none⟩) (m + 1) cap2) (css ++ [[.slice none 0 0, .slice none 0 0]]) (pl.fKeepers ++ [⟨[], []⟩])) (hb : Below lo wx wy) (hg : wx.grownBy wy (some b)) (hat : some b2 = some b ∨ wx.heap.size ≤ b2) (hlo : w0.heap.size = lo) (hm : m ≤ 3) :
  Way lo P X r k w0 (wy.setCell ⟨P, 0, none⟩ (.slice (some ⟨b2, 0, none⟩) (m + 1) cap2)) b2 cap2 (m + 1) (css ++ [[.slice none 0 0, .slice none 0 0]]) ⟨pl.fKeepers ++ [⟨[], []⟩]⟩ xo xa kx ∧
  PlanC lo (wy.setCell ⟨P, 0, none⟩ (.slice (some ⟨b2, 0, none⟩) (m + 1) cap2)) (.slice (some ⟨b2, 0, none⟩) (m + 1) cap2) (css ++ [[.slice none 0 0, .slice none 0 0]]) ⟨pl.fKeepers ++ [⟨[], []⟩]⟩ ∧ (css ++ [[.slice none 0 0, .slice none 0 0]])[k]? = some [xo, xa] := by
 have q1 := h.res.lt; have q2 := h.plan.lt; have q3 := h.cell.lt; have q4 := h.hr; have q5 := h.h0; have q6 := h.hP; have q7 := h.hPX; have q8 := h.hb; have q9 := h.ex.size; have hs := hb.size; have q10 := h.lt; have q11 := h.hX
 obtain ⟨t1, t2⟩ := h.typeb
 have kr := hg.block w0.heap.size q1 (fun e => t2 (by cases e; rfl))
 have kP := hg.block P q2 (fun e => t1 (by cases e; rfl))
 have kX := hg.block X q3 (fun e => q11 (by cases e; rfl))
 have hk1 : KeepsT (fun s => s ≠ 45) lo wx wy := KeepsT.of_grown (v := .slice (some ⟨b, 0, none⟩) m cap) hg hpc.owns (fun h => h rfl)
 have hu := Turn.setCell1 P 0 (.slice (some ⟨b2, 0, none⟩) (m + 1) cap2) wy
 have hz := hu.size
 have TP : TypeAt wy P 25 := h.tplan.of_kept kP
 have hlen : (pl.fKeepers ++ [(⟨[], []⟩ : DLodKeeper)]).length = m + 1 := by rw [List.length_append, h.len]; rfl
 obtain ⟨hl1, hl2⟩ := hto.owns.lt b2 rfl
 obtain ⟨_, cap9, e3, c1, c2⟩ := own_form hto.owns
 simp only [Value.slice.injEq] at e3
 obtain ⟨_, _, rfl⟩ := e3
 have hb2X : b2 ≠ X := by
  rcases hat with e | e
  ·cases e; exact q11
  ·omega
 have hck2 : (css ++ [[.slice none 0 0, .slice none 0 0]])[k]? = some [xo, xa] := by rw [List.getElem?_append_left (List.getElem?_eq_some_iff.1 hck).1]; exact hck
 have hpc2 : PlanC lo wy (.slice (some ⟨b2, 0, none⟩) (m + 1) cap2) (css ++ [[.slice none 0 0, .slice none 0 0]]) ⟨pl.fKeepers ++ [⟨[], []⟩]⟩ := ⟨hto.rows, hto.owns, hpc.apart.snoc fun o' a' _ => ⟨fun b _ h => by simp [Value.ownBlock] at h, fun b _ h => by simp [Value.ownBlock] at h⟩⟩
 have hpc3 := hpc2.keeps (KeepsT.of_turn hu TP EPlan_plan)
 refine ⟨⟨(h.res.kept hs kr).set_other (by omega), (h.tres.of_kept kr).set _ _, (h.plan.kept hs kP).set_same, TP.set _ _, ?_, (h.tcell.of_kept kX).set _ _, hpc3.hole hck2, ?_, (h.ex.trans ⟨hb.os, hb.tape, hb.output, hb.size, fun j _ hl => hb.block j (by omega)⟩).trans (hu.ex (by omega)), hlen, by omega, by omega, by omega, by unfold maxLen at c2; omega, hl1, by omega, hb2X, q4, q5, q6, q7⟩, hpc3, hck2⟩
 ·exact (h.cell.kept hs kX).kept (Nat.le_of_eq hz) (hu.block _ (by omega))
 ·exact tLodKeeper_goodT.stays _ _ _ _ _ (KeepsT.of_turn hu TP (fun h => EPlan_plan (Or.inl h))) (goodT_kpr.stays _ _ _ _ _ hk1 h.row)

def ownF (B X z : Nat) (xo : Value) : Nat → Value → World → Prop
 | 0, v, _ => v = .pointer (some ⟨X, 0, none⟩)
 | 1, v, _ => v = xo
 | 2, v, _ => v = .pointer (some ⟨X, 0, none⟩)
 | 3, v, _ => v = xo
 | 4, v, _ => v = .int .i64 (z : Int)
 | 5, v, _ => v = .pointer (some ⟨X, 0, none⟩)
 | 6, v, _ => v = xo
 | 7, v, _ => v = .int .i64 (z : Int)
 | 8, v, _ => v = .int .i64 ((z : Int) + 1)
 | 9, v, _ => ∃ c : UInt8, v = .string ⟨#[c]⟩
 | 10, v, _ => ∃ c : UInt8, v = .string ⟨#[120, c]⟩
 | 11, v, _ => ∃ c : UInt8, v = .agg #[.string ⟨#[120, c]⟩, .string ⟨#[]⟩, .slice none 0 0, .slice none 0 0]
 | 12, v, w => ∃ (c : UInt8) (g : Nat), v = .slice (some ⟨g, 0, none⟩) 1 1 ∧ B ≤ g ∧ w.heap[g]? = some (.cells #[.string ⟨#[120, c]⟩, .string ⟨#[]⟩, .slice none 0 0, .slice none 0 0] 37 (0, 0))
 | _, _, _ => True
theorem ownF_stays {B X z : Nat} {xo : Value} : ∀ i j u w w', i ≠ j → Below w.heap.size w w' → ownF B X z xo i u w → ownF B X z xo i u w' := by
 intro i j u w w' hne hg h
 match i with
 | 0 | 1 | 2 | 3 | 4 | 5 | 6 | 7 | 8 | 9 | 10 | 11 => exact h
 | 12 =>
   obtain ⟨c, g, h1, h2, h3⟩ := h
   exact ⟨c, g, h1, h2, (hg.block g (Array.getElem?_eq_some_iff.1 h3).1).trans h3⟩
 | n + 13 => trivial
theorem grownBy_of_alloc {w w' : World} {o : Obj} {row : Option Nat} (h : (w.alloc o).grownBy w' row) : w.grownBy w' row := (World.grownBy_alloc w o row).trans h

theorem S_l20PlanOr (r p : Nat) (n : Int) (w : World) (hn : -9223372036854775808 < n) (hn2 : n ≤ 9223372036854775807) (hr : Rd w r p) (hp : p < 500000) :
  Calls Tryz.prog 16 #[.pointer (some ⟨r, 0, none⟩), .int .i64 n] w fun e w' => PlanOr20 r p w e w' := by
 have hlt := hr.lt
 refine qac fun R HR => ?_
 go_enter Tryz.func16, Tryz.ntmps16
 go_wp2_with fail
 refine (S_l20Plan r p 3 _ (by omega) (by omega) (rdd) (by omega)).mono ?_
 rintro _ w1 ⟨pv, pl, q, rfl, hT, hok, hnr, hq, R1, X1⟩
 have X1s := (X1).size; (try simp only [qsz] at X1s)
 obtain ⟨css, hpc⟩ := hT.low (lo' := w.heap.size) (by simp)
 have hl := lodOk_len hok
 obtain ⟨b, cap, rfl, hb0, hb1, hb2, hb3, hrows⟩ := hpc.rowsAt (by omega)
 have RES1 : One1 w1 w.heap.size (.slice none 0 0) := by
  have hk := X1.block w.heap.size (by omega) (by simp)
  refine ⟨by omega, ?_, ?_⟩
  ·rw [qah hk]; go_simp
  ·rw [qam hk]; go_simp
 have TRES1 : TypeAt w1 w.heap.size 25 := TypeAt.ex (TypeAt.new w _ _) X1 (by omega) (by simp)
 obtain ⟨m, hm⟩ : ∃ m, pl.fKeepers.length = m := ⟨_, rfl⟩
 have E1 : Ex r w.heap.size w w1 := eexx
 rw [hm] at hl hb2 ⊢
 have HM := qhd hm
 have hcm : cap ≤ 9223372036854775807 := by unfold maxLen at hb3; omega
 have HRW := qhd hrows
 have HPC := qhd hpc
 have HOK := qhd hok
 have HNR := qhd hnr
 have HRES := qhd RES1
 have HTRES := qhd TRES1
 clear hpc hrows hm hT hok hnr hb3 RES1 TRES1 X1
 go_wp2_with fail
 refine (S_odd r q n _ hn hn2 (rdd) (by omega)).mono ?_
 rintro _ w2 ⟨⟨x9, rfl⟩, R2, X2⟩
 have hs2 := X2.size
 simp only [World.size_alloc] at hs2
 have E12 : Ex r w1.heap.size w1 w2 := eexx
 have P2 : One1 w2 w1.heap.size (.slice (some ⟨b, 0, none⟩) m cap) := by
  have hk := X2.block w1.heap.size (by omega) (by simp)
  refine ⟨by omega, ?_, ?_⟩
  ·rw [qah hk]; go_simp
  ·rw [qam hk]; go_simp
 have TP2 : Hid (TypeAt w2 w1.heap.size 25) := qhd (TypeAt.ex (TypeAt.new w1 _ _) X2 (by omega) (by simp))
 have E2 : Ex r w.heap.size w w2 := E1.trans (E12.mono (by omega))
 have HP2 := qhd P2
 have HRES2 : Hid (One1 w2 w.heap.size (.slice none 0 0)) := qhd (by
  have hk := E12.block w.heap.size (by omega) (by omega)
  exact ⟨by omega, (qah hk).trans HRES.out.c0, (qam hk).trans HRES.out.f0⟩)
 have HTRES2 := qhd (HTRES.out.ex E12 (by omega) (by omega))
 have p0 := P2.c0
 have hpl2 := P2.lt
 have res0 := HRES2.out.c0
 have resf := HRES2.out.f0
 have hrl2 := HRES2.out.lt
 clear HRES HTRES P2 X2
 cases x9
 ·go_wp2
  all_goals
   refine bodyPost_ret (v := ?_) ?hrun rfl ?_
   case hrun => (simp only [results, Tryz.results16]; go_simp; first | done | exact rfl)
   refine HR.out _ _ ⟨_, pl, q + 1, rfl, ?_, HNR.out, by omega, rdd, eexx⟩
   have TR := HTRES2.out
   have HPP : TPlan w.heap.size w2 (.slice (some ⟨b, 0, none⟩) m cap) pl := by
    have := HPC.out
    rw [HM.out] at this
    exact TPlan.ex ⟨_, this⟩ E12 hlt (Nat.le_refl _)
   exact (TPlan.keeps HPP (by (repeat' (first | (with_reducible exact KeepsT.refl _ _ _) | (with_reducible assumption) | (with_reducible refine KeepsT.allocB ?_ _) | (with_reducible refine KeepsT.drewB ?_) | (with_reducible refine KeepsT.setB ?_ ?_ (EPlan_plan) _) | ((with_reducible refine TypeAt.new' _ _ _ _ ?_); simp; done) | (with_reducible refine TypeAt.alloc ?_ _) | (with_reducible refine TypeAt.set ?_ _ _) | (with_reducible refine TypeAt.drew ?_))))).slw
 go_wp2_with fail
 refine (S_pick r (q + 1) m _ (by omega) R2 (by omega)).mono ?_
 rintro _ w3 ⟨⟨kx', hkx, rfl⟩, R3, X3⟩
 have hs3 := X3.size
 obtain ⟨kx, hkm, rfl⟩ := pick_nat (by omega) hkx
 obtain ⟨kp, hkp⟩ : ∃ k, pl.fKeepers[kx]? = some k := ⟨_, List.getElem?_eq_getElem (by rw [HM.out]; exact hkm)⟩
 obtain ⟨xo, xa, hco, hkr, hrng⟩ := HRW.out kx kp hkp
 obtain ⟨y1, y2, e0, t1, t2⟩ := id hkr
 cases e0
 obtain ⟨oa, oc, rfl, hoc, hom⟩ := t1.form
 obtain ⟨aa, ac, rfl, hac, ham⟩ := t2.form
 have hkpm : kp ∈ pl.fKeepers := List.mem_of_getElem? hkp
 have hsm := keeperOk_parts (lodOk_keeper HOK.out hkp)
 have hso : kp.fOwns.length ≤ 5 := hsm.1
 have hsa : kp.fAsks.length ≤ 4 := hsm.2.1
 have HNK : Hid (NoRingK kp) := qhd (HNR.out kp hkpm)
 have E13 : Ex r w1.heap.size w1 w3 := E12.trans (X3.mono (by omega))
 have HKI : Hid ((Tryz.prog.info? 45).map (·.size) = some 2) := qhd (by kernel_rfl)
 have P3 : One1 w3 w1.heap.size (.slice (some ⟨b, 0, none⟩) m cap) := by
  have hk := X3.block w1.heap.size (by omega) (by omega)
  exact ⟨by omega, (qah hk).trans HP2.out.c0, (qam hk).trans HP2.out.f0⟩
 have hr3 : w3.rangeAt b (kx * 2) [.slice oa kp.fOwns.length oc, .slice aa kp.fAsks.length ac] := fun j u hj => (qah (E13.block b (by omega) hb1)).trans (hrng j u hj)
 have HR3 := qhd hr3
 have p3 := P3.c0
 have hpl3 := P3.lt
 have HP3 := qhd P3
 have HCO := qhd hco
 have HKR := qhd hkr
 have hkm2 : (kx : Int) < (m : Int) := by omega
 clear hkx hrng hkr t1 t2 hsm hr3 P3 p0 hpl2 res0 resf hrl2 HP2 hco hkp hkpm
 go_wp2_with (refine wpList_load_mid (by rfl) 45 (.tmp 21) (by rfl) b (kx * 2) ?hx [.slice oa kp.fOwns.length oc, .slice aa kp.fAsks.length ac] _ ?hr Tryz.underlying45 (by rfl) HKI.out ?_)
 case hx => rfl
 case hr => exact HR3.out
 refine (S_pick r (q + 1 + 1) 7 _ (by omega) (rdd) (by omega)).mono ?_
 rintro _ w4 ⟨⟨y, hy, rfl⟩, R4, X4⟩
 have hs4 := X4.size
 simp only [World.size_alloc] at hs4
 have E34 : Ex r w3.heap.size w3 w4 := ((Ex.refl r _ w3).alloc (Nat.le_refl _) _).trans (X4.mono (by simp))
 have E14 : Ex r w1.heap.size w1 w4 := E13.trans (E34.mono (by omega))
 have C4 : Four2 w4 w3.heap.size (.slice oa kp.fOwns.length oc) (.slice aa kp.fAsks.length ac) := by
  have hk := X4.block w3.heap.size (by omega) (by simp)
  refine ⟨by omega, ?_, ?_, ?_, ?_⟩
  ·rw [qah hk]; go_simp
  ·rw [qah hk]; go_simp
  ·rw [qam hk]; go_simp
  ·rw [qam hk]; go_simp
 have TC4 : Hid (TypeAt w4 w3.heap.size 45) := qhd (TypeAt.ex (TypeAt.new w3 _ _) X4 (by omega) (by simp))
 have HP4 : Hid (One1 w4 w1.heap.size (.slice (some ⟨b, 0, none⟩) m cap)) := qhd (by
  have hk := E34.block w1.heap.size (by omega) (by omega)
  exact ⟨by omega, (qah hk).trans HP3.out.c0, (qam hk).trans HP3.out.f0⟩)
 have HRES4 : Hid (One1 w4 w.heap.size (.slice none 0 0)) := qhd (by
  have hk := (X3.trans (E34.mono (by omega))).block w.heap.size (by omega) (by omega)
  exact ⟨by omega, (qah hk).trans HRES2.out.c0, (qam hk).trans HRES2.out.f0⟩)
 have HTRES4 := qhd (HTRES2.out.ex (X3.trans (E34.mono (by omega))) (by omega) (by omega))
 have Ew4 : Ex r w.heap.size w w4 := E1.trans (E14.mono (by omega))
 have HW4 : Hid (Way w.heap.size w1.heap.size w3.heap.size r kx w w4 b cap m css pl (.slice oa kp.fOwns.length oc) (.slice aa kp.fAsks.length ac) kp) := qhd (by
  have hh := (HPC.out.hole HCO.out).ex E14 hlt (Nat.le_refl _)
  rw [HM.out] at hh
  exact ⟨HRES4.out, HTRES4.out, HP4.out, TP2.out.ex (X3.trans (E34.mono (by omega))) (by omega) (by omega), C4, TC4.out, hh, tLodKeeper_goodT.stays _ _ _ _ _ (KeepsT.of_ex E14 hlt (Nat.le_refl _)) HKR.out, Ew4, HM.out, hkm, by omega, hb2, hcm, hb0, by omega, by omega, hlt, Nat.le_refl _, by omega, by omega⟩)
 have HPC4 : Hid (PlanC w.heap.size w4 (.slice (some ⟨b, 0, none⟩) m cap) css pl) := qhd (by
  have hh := HPC.out.ex E14 hlt (Nat.le_refl _)
  rw [HM.out] at hh
  exact hh)
 have HCK : Hid (css[kx]? = some [.slice oa kp.fOwns.length oc, .slice aa kp.fAsks.length ac]) := qhd HCO.out
 have hq4 : w3.heap.size < w4.heap.size := C4.lt
 have hz1 : w.heap.size < w1.heap.size := by omega
 have hz3 : w1.heap.size < w3.heap.size := by omega
 clear HRW HPC HKR HR3 HP3 C4 X4 HRES2 HTRES2 HRES4 HTRES4 HP4 p3 hpl3 R1 R2 R3 E12 TP2 E2 E13 E34 X3 TC4 HCO E14 HOK hb0 hb1
 go_upto_block 0 with fail
 go_cut [] from 25 to 109 (fun wx => WayEnd w.heap.size w1.heap.size w3.heap.size r (p + 300) kx w wx)
 case first =>
  rcases seven hy with rfl | rfl | rfl | rfl | rfl | rfl | rfl
  ·clear hy
   obtain ⟨res0, resf, hrl4⟩ : One1 w4 w.heap.size (.slice none 0 0) := HW4.out.res
   go_wp2
   all_goals
    refine bodyPost_ret (v := ?_) ?hrun rfl ?_
    case hrun => (simp only [results, Tryz.results16]; go_simp; first | done | exact rfl)
    exact HR.out _ _ ⟨.slice none 0 0, ⟨[]⟩, q + 3, rfl, ⟨none, 0, 0, rfl, rfl, Nat.le_refl _, Nat.zero_le _, fun h => absurd h (by omega)⟩, fun k hk => by simp at hk, by omega, rdd, eexx⟩
  ·clear hy
   obtain ⟨xl4, x40, x41, xf40, xf41⟩ : Four2 w4 w3.heap.size (.slice oa kp.fOwns.length oc) (.slice aa kp.fAsks.length ac) := HW4.out.cell
   go_wp2_with fail
   refine qaq 9 (Ex r w4.heap.size w4) (drawG 4 r) (fun _ => addF w4.heap.size r (q + 3) w3.heap.size (.slice aa kp.fAsks.length ac)) (drawI 4 r (q + 3)) noDead (by kernel_rfl) (by decide) (by kernel_rfl) (Or.inr ⟨by kernel_rfl, by kernel_rfl⟩) (by kernel_rfl) ((Ex.refl _ _ _).drew) (fun _ _ _ _ _ _ _ _ _ h => h) noDead_dead (fun _ _ => R4.drew) (fun i j w1 w2 hne _ hg h => drawI_stays i j w1 w2 hne hg h) (fun _ i j u w1 w2 hne _ _ hg hF => addF_stays (by omega) i j u w1 w2 hne hg hF) (fun _ _ _ => Or.inr (Below.refl _ _)) ?_
   refine qaa (d := 40) rfl rfl (fun wx hC hI hd S0 hS => ?_) (fun v0 => ?_)
   ·have HSS := qhd hS; clear hS hd hI
    go_simp
    exact HSS.out _ _ hC (Or.inr (Below.refl _ _)) (by (simp only [qls, Nat.reduceAdd, addF]))
   simp only [qnr]
   refine qaa (d := 41) rfl rfl (fun wx hC hI hd S0 hS => ?_) (fun v1 => ?_)
   ·have d0 := hd ⟨0, .data⟩ (by simp) rfl v0 (by simp)
    simp only [addF] at d0
    subst d0
    have c0 := (qah (o := 1) (hC.block w3.heap.size (by omega) hq4)).trans x41
    have HSS := qhd hS; clear hS hd hI
    go_simp
    exact HSS.out _ _ hC (Or.inr (Below.refl _ _)) (by (simp only [qls, Nat.reduceAdd, addF]))
   simp only [qnr]
   refine qaa (d := 42) rfl rfl (fun wx hC hI hd S0 hS => ?_) (fun v2 => ?_)
   ·have hzx := hC.size
    have HSS := qhd hS; clear hS hd hI
    go_simp
    refine HSS.out _ _ (exC_next hC ((Below.refl _ _).alloc (Nat.le_refl _) _)) (Or.inr ((Below.refl _ _).alloc (Nat.le_refl _) _)) ?_
    (simp only [qls, Nat.reduceAdd, addF])
    exact ⟨_, rfl, hzx, heap_alloc_new wx _⟩
   simp only [qnr]
   refine qaa (d := 43) rfl rfl (fun wx hC hI hd S0 hS => ?_) (fun v3 => ?_)
   ·have HSS := qhd hS; clear hS hd hI
    go_simp
    exact HSS.out _ _ hC (Or.inr (Below.refl _ _)) (by (simp only [qls, Nat.reduceAdd, addF]))
   simp only [qnr]
   refine qaa (d := 44) rfl rfl (fun wx hC hI hd S0 hS => ?_) (fun v4 => ?_)
   ·have d3 := hd ⟨3, .data⟩ (by simp) rfl v3 (by simp)
    simp only [addF] at d3
    subst d3
    have hRd : Rd wx r (q + 3) := hI rfl
    have HSS := qhd hS; clear hS hd hI
    go_simp
    refine (S_pick r (q + 3) 2 _ (by omega) hRd (by omega)).mono ?_
    rintro _ w' ⟨⟨x, hx, rfl⟩, hRq, hX⟩
    obtain ⟨xn, hxn, rfl⟩ := pick_nat (n := 2) (by omega) hx
    exact HSS.out _ _ (exC_ex hC hX) (Or.inl ⟨by simp, hX⟩) (by (simp only [qls, Nat.reduceAdd, addF]); refine ⟨?_, hRq⟩; rcases (show xn = 0 ∨ xn = 1 by omega) with rfl | rfl <;> simp)
   simp only [qnr]
   refine qaa (d := 45) rfl rfl (fun wx hC hI hd S0 hS => ?_) (fun v5 => ?_)
   ·have d2 := hd ⟨2, .data⟩ (by simp) rfl v2 (by simp)
    simp only [addF] at d2
    have d4 := hd ⟨4, .data⟩ (by simp) rfl v4 (by simp)
    simp only [addF] at d4
    obtain ⟨c, d2, hc1, hc2⟩ := d2
    obtain ⟨d4, _⟩ := d4
    subst d2
    have HSS := qhd hS; clear hS hd hI
    rcases d4 with rfl | rfl
    ·go_simp
     exact HSS.out _ _ hC (Or.inr (Below.refl _ _)) (by (simp only [qls, Nat.reduceAdd, addF]); exact ⟨c, 0, Or.inl rfl, rfl, hc1, hc2⟩)
    ·go_simp
     exact HSS.out _ _ hC (Or.inr (Below.refl _ _)) (by (simp only [qls, Nat.reduceAdd, addF]); exact ⟨c, 1, Or.inr rfl, rfl, hc1, hc2⟩)
   simp only [qnr]
   refine qaa (d := 46) rfl rfl (fun wx hC hI hd S0 hS => ?_) (fun v6 => ?_)
   ·have d5 := hd ⟨5, .data⟩ (by simp) rfl v5 (by simp)
    simp only [addF] at d5
    obtain ⟨c, x, hx, d5, hc1, hc2⟩ := d5
    subst d5
    have HSS := qhd hS; clear hS hd hI
    rcases hx with rfl | rfl
    ·have c0 := cell_at (j := 0) hc2 rfl
     go_simp
     exact HSS.out _ _ hC (Or.inr (Below.refl _ _)) (by (simp only [qls, Nat.reduceAdd, addF]); exact ⟨_, Or.inl rfl, rfl⟩)
    ·have c0 := cell_at (j := 1) hc2 rfl
     go_simp
     exact HSS.out _ _ hC (Or.inr (Below.refl _ _)) (by (simp only [qls, Nat.reduceAdd, addF]); exact ⟨_, Or.inr rfl, rfl⟩)
   simp only [qnr]
   refine qaa (d := 47) rfl rfl (fun wx hC hI hd S0 hS => ?_) (fun v7 => ?_)
   ·have d6 := hd ⟨6, .data⟩ (by simp) rfl v6 (by simp)
    simp only [addF] at d6
    obtain ⟨n9, hn9, d6⟩ := d6
    subst d6
    have HSS := qhd hS; clear hS hd hI
    go_simp
    exact HSS.out _ _ hC (Or.inr (Below.refl _ _)) (by (simp only [qls, Nat.reduceAdd, addF]); exact ⟨n9, hn9, rfl⟩)
   simp only [qnr]
   refine qaa (d := 48) rfl rfl (fun wx hC hI hd S0 hS => ?_) (fun v8 => ?_)
   ·have d7 := hd ⟨7, .data⟩ (by simp) rfl v7 (by simp)
    simp only [addF] at d7
    obtain ⟨n9, hn9, d7⟩ := d7
    subst d7
    have hzx := hC.size
    have HSS := qhd hS; clear hS hd hI
    go_simp
    refine HSS.out _ _ (exC_next hC ((Below.refl _ _).alloc (Nat.le_refl _) _)) (Or.inr ((Below.refl _ _).alloc (Nat.le_refl _) _)) ?_
    (simp only [qls, Nat.reduceAdd, addF])
    exact ⟨n9, _, hn9, rfl, hzx, heap_alloc_new wx _⟩
   simp only [qnr]
   intro w5 hC hF
   have f1 := hF 1 v1 (by simp) (fun _ _ => rfl)
   have f4 := hF 4 v4 (by simp) (fun _ _ => rfl)
   have f8 := hF 8 v8 (by simp) (fun _ _ => rfl)
   simp only [addF] at f1 f4 f8
   obtain ⟨_, R5⟩ := f4
   obtain ⟨n9, c9, hn9, e8, hc9, hh9⟩ := f8
   subst f1; subst e8
   have HW5 := qhd (HW4.out.ex' hC (Nat.le_refl _))
   have hz5 := hC.size
   have hE5 : w.heap.size ≤ w5.heap.size := by omega
   obtain ⟨y1, y2, e0, t1, t2⟩ := id HW5.out.row
   cases e0
   have hv5 : TOwn 2 rLodAsk 51 w.heap.size w.heap.size w5 (.slice aa kp.fAsks.length ac) kp.fAsks := ⟨t2, fun b hb => t2.at_lo b hb⟩
   have hs5 : Src 2 w5 (.slice (some ⟨c9, 0, none⟩) 1 1) [[.string ⟨#[120]⟩, .int .i64 n9]] := Src.at (cs := [.string ⟨#[120]⟩, .int .i64 n9]) hh9
   have HT1 := qhd t1
   have HT2 := qhd t2
   clear hF hh9 hC t1 t2 x40 x41 xf40 xf41
   simp only [List.drop_succ_cons, List.drop_zero]
   refine qai (B := w.heap.size) (lo := w.heap.size) (xs := kp.fAsks) (ys := [(⟨⟨#[120]⟩, n9⟩ : DLodAsk)]) (css := [[.string ⟨#[120]⟩, .int .i64 n9]]) (E := fun s => s ≠ 51) (by rfl) (.tmp 41) (.tmp 48) 43 (by rfl) sty_Ask (rLodAsk_goodT.mono fun _ h => h.elim) (fun h => h rfl) rLodAsk_one (by rfl) (by rfl) hv5 hs5 (Rows.one rfl ⟨rfl, by show 1 ≤ maxLen; unfold maxLen; omega⟩) (by simp; omega) (Nat.le_refl _) hE5 ?_
   intro v9 w6 ht6 hb6 hg6 hk6 hat6
   have hs6 := hb6.size
   obtain ⟨za, zn, zc, rfl⟩ := ht6.sl.form3
   obtain ⟨xl6, x60, x61, xf60, xf61⟩ : Four2 w6 w3.heap.size (.slice oa kp.fOwns.length oc) (.slice aa kp.fAsks.length ac) := HW5.out.cell.kept hs6 (HW5.out.tcell.kept hk6 (Nat.zero_le _) (by decide))
   have HT6 := qhd ht6
   have HG6 := qhd hg6
   have HK6 := qhd hk6
   have HA6 := qhd hat6
   clear ht6 hg6 hk6 hat6 hv5 hs5
   go_wp2_with fail
   go_meet
   case rel =>
    obtain ⟨cx, _, hown⟩ := HT2.out
    refine ⟨b, cap, m, css, pl, _, _, { kp with fAsks := kp.fAsks ++ [⟨⟨#[120]⟩, n9⟩] }, q + 3 + 1, HW5.out.anew 51 HK6.out.up ⟨by decide, by decide⟩ ⟨hb6.os, hb6.tape, hb6.output, hb6.size, fun k _ hk => hb6.block k hk⟩ (HW5.out.hole.growA2 HG6.out hown HA6.out) ⟨_, _, rfl, HT1.out.stays (E := fun s => s ≠ 51) (tClsClass_goodT.mono fun t ht => by unfold EClsClass at ht; intro e; subst e; revert ht; decide) (by decide) ⟨HK6.out.size, fun g cs e fr _ he hg => HK6.out.block g cs e fr (Nat.zero_le _) he hg⟩, HT6.out.sl⟩ (fun h => h.set1), HNR.out, HNK.out, by omega, ?_⟩
    exact qax (hb6.trans ((Turn.setCell1 _ _ _ _).below (by omega))) R5 hlt
  ·clear hy
   have HWa := qhd (HW4.out.ex' (wy := w4.alloc (.cells #[] 51)) ((Ex.refl r _ w4).alloc (Nat.le_refl _) _) (Nat.le_refl _))
   obtain ⟨y1, y2, e0, t1, t2⟩ := id HWa.out.row
   cases e0
   obtain ⟨cssa, hsa, hra⟩ := t2.src
   have hls : w.heap.size ≤ w4.heap.size := by omega
   obtain ⟨xl4, x40, x41, xf40, xf41⟩ : Four2 w4 w3.heap.size (.slice oa kp.fOwns.length oc) (.slice aa kp.fAsks.length ac) := HW4.out.cell
   clear t1 t2
   go_wp2_with (at_builtin; refine wpList_append_copy (B := w4.heap.size) (lo := w.heap.size) (R := rLodAsk) (E := NoT) (ys := kp.fAsks) (css := cssa) (by rfl) (.tmp 53) (.tmp 55) 43 (by rfl) sty_Ask rLodAsk_goodT rLodAsk_one (by rfl) (by rfl) (Empty0.new w4 _ (Nat.le_refl _)) hsa hra (by omega) hls (by simp) ?_)
   intro v8 w5 ht5 hb5
   have hs5 := hb5.size
   simp only [World.size_alloc] at hs5
   have hB5 : Below w4.heap.size w4 w5 := ((Below.refl w4.heap.size w4).alloc (Nat.le_refl _) _).trans (hb5.mono (by simp))
   have HT5 := qhd ht5
   have HB5 := qhd hB5
   clear hsa hra ht5 hb5 hB5
   go_wp2_with (at_builtin; refine qai (B := w4.heap.size) (lo := w.heap.size) (xs := kp.fAsks) (ys := [(⟨⟨#[65]⟩, 0⟩ : DLodAsk)]) (css := [[.string ⟨#[65]⟩, .int .i64 0]]) (E := fun s => s ≠ 51) (by rfl) (.tmp 56) (.tmp 58) 43 (by rfl) sty_Ask (rLodAsk_goodT.mono fun _ h => h.elim) (fun h => h rfl) rLodAsk_one (by rfl) (by rfl) (HT5.out.below rLodAsk_goodT ((Below.refl _ _).alloc (Nat.le_refl _) _)) (Src.at (cs := [.string ⟨#[65]⟩, .int .i64 0]) (heap_alloc_new w5 _)) (Rows.one rfl ⟨rfl, by show 1 ≤ maxLen; unfold maxLen; omega⟩) (by simp; omega) hls (by simp; omega) ?_)
   intro v9 w6 ht6 hb6 hg6 hk6 hat6
   have hs6 := hb6.size
   simp only [World.size_alloc] at hs6
   have hB6 : Below w4.heap.size w4 w6 := (HB5.out.trans ((Below.refl w5.heap.size w5).alloc (Nat.le_refl _) _ |>.mono (by omega))).trans hb6
   obtain ⟨za, zn, zc, rfl⟩ := ht6.sl.form3
   obtain ⟨xl6, x60, x61, xf60, xf61⟩ : Four2 w6 w3.heap.size (.slice oa kp.fOwns.length oc) (.slice aa kp.fAsks.length ac) := HW4.out.cell.kept hB6.size (hB6.block _ hq4)
   have HT6 := qhd ht6
   have HB6 := qhd hB6
   clear ht6 hg6 hk6 hat6 hb6 hB6 x40 x41 xf40 xf41
   go_wp2_with fail
   go_meet
   case rel =>
    obtain ⟨y1, y2, e0, t1, t2⟩ := id HW4.out.row
    cases e0
    have hk6 : KeepsT (fun s => s ≠ 51) w.heap.size w4 w6 := KeepsT.of_below HB6.out
    refine ⟨b, cap, m, css, pl, _, _, { kp with fAsks := kp.fAsks ++ [⟨⟨#[65]⟩, 0⟩] }, q + 3, HW4.out.anew 51 hk6 ⟨by decide, by decide⟩ ⟨HB6.out.os, HB6.out.tape, HB6.out.output, HB6.out.size, fun k _ hk => HB6.out.block k (by omega)⟩ ((HW4.out.hole.retake (fun _ h => Or.inl h) (fun b hb => Or.inr (HT6.out.own b hb))).below HB6.out) ⟨_, _, rfl, t1.stays (E := fun s => s ≠ 51) (tClsClass_goodT.mono fun t ht => by unfold EClsClass at ht; intro e; subst e; revert ht; decide) (by decide) (KeepsT.of_below HB6.out), HT6.out.sl⟩ (fun h => h.set1), HNR.out, HNK.out, by omega, ?_⟩
    exact qax ((HB6.out.mono hls).trans ((Turn.setCell1 _ _ _ _).below (by omega))) R4 hlt
  ·clear hy
   have HWa := qhd (HW4.out.ex' (wy := w4.alloc (.cells #[] 37)) ((Ex.refl r _ w4).alloc (Nat.le_refl _) _) (Nat.le_refl _))
   obtain ⟨y1, y2, e0, t1, t2⟩ := id HWa.out.row
   cases e0
   obtain ⟨cssa, hsa, hra⟩ := t1.src
   have hls : w.heap.size ≤ w4.heap.size := by omega
   obtain ⟨xl4, x40, x41, xf40, xf41⟩ : Four2 w4 w3.heap.size (.slice oa kp.fOwns.length oc) (.slice aa kp.fAsks.length ac) := HW4.out.cell
   clear t1 t2
   go_wp2_with (at_builtin; refine wpList_append_copy (B := w4.heap.size) (lo := w.heap.size) (R := tClsClass) (E := EClsClass) (ys := kp.fOwns) (css := cssa) (by rfl) (.tmp 63) (.tmp 65) 42 (by rfl) sty_Cls tClsClass_goodT tClsClass_one (by rfl) (by rfl) (Empty0.new w4 _ (Nat.le_refl _)) hsa hra (by omega) hls (by simp) ?_)
   intro v8 w5 ht5 hb5
   have hs5 := hb5.size
   simp only [World.size_alloc] at hs5
   have hB5 : Below w4.heap.size w4 w5 := ((Below.refl w4.heap.size w4).alloc (Nat.le_refl _) _).trans (hb5.mono (by simp))
   have R5 : Rd w5 r (q + 3) := qax (hB5.mono hls) R4 hlt
   have HT5 := qhd ht5
   have HB5 := qhd hB5
   clear hsa hra ht5 hb5 hB5 x40 x41 xf40 xf41
   go_wp2_with fail
   refine (S_pick r (q + 3) 3 _ (by omega) (rdd) (by omega)).mono ?_
   rintro _ w6 ⟨⟨x, hx, rfl⟩, R6, X6⟩
   obtain ⟨xn, hxn, rfl⟩ := pick_nat (n := 3) (by omega) hx
   have hs6 := X6.size
   simp only [World.size_alloc] at hs6
   obtain ⟨nm, hnm, c6⟩ := str3_at ((X6.block w5.heap.size (by omega) (by simp)).trans (heap_alloc_new w5 _)) hxn
   have E56 : Ex r w5.heap.size w5 w6 := ((Ex.refl r _ w5).alloc (Nat.le_refl _) _).trans (X6.mono (by simp))
   have HT6 := qhd (TOwn.exG tClsClass_goodT HT5.out E56 hlt (Nat.le_refl _))
   have E46 : Ex r w4.heap.size w4 w6 := (show Ex r w4.heap.size w4 w5 from ⟨HB5.out.os, HB5.out.tape, HB5.out.output, HB5.out.size, fun j _ hl => HB5.out.block j hl⟩).trans (E56.mono (by omega))
   have hxi : (xn : Int) < 3 := by omega
   clear hx X6 E56
   go_wp2_with (at_builtin; refine qai (B := w4.heap.size) (lo := w.heap.size) (xs := kp.fOwns) (ys := [(⟨nm, ⟨#[]⟩, [], []⟩ : DClsClass)]) (css := [[.string nm, .string ⟨#[]⟩, .slice none 0 0, .slice none 0 0]]) (E := fun s => s ≠ 37) (by rfl) (.tmp 66) (.tmp 73) 42 (by rfl) sty_Cls goodT_cls (fun h => h rfl) tClsClass_one (by rfl) (by rfl) (HT6.out.below tClsClass_goodT ((Below.refl _ _).alloc (Nat.le_refl _) _)) (Src.at (cs := [.string nm, .string ⟨#[]⟩, .slice none 0 0, .slice none 0 0]) (heap_alloc_new w6 _)) (Rows.one rfl (clsNil nm hnm _ _)) (by simp; omega) hls (by simp; omega) ?_)
   intro v9 w7 ht7 hb7 hg7 hk7 hat7
   have hs7 := hb7.size
   simp only [World.size_alloc] at hs7
   have hB67 : Below w4.heap.size w6 w7 := ((Below.refl w4.heap.size w6).alloc (by omega) _).trans hb7
   have E47 : Ex r w4.heap.size w4 w7 := E46.trans ⟨hB67.os, hB67.tape, hB67.output, hB67.size, fun j _ hl => hB67.block j hl⟩
   obtain ⟨za, zn, zc, rfl⟩ := ht7.sl.form3
   obtain ⟨xl6, x60, x61, xf60, xf61⟩ : Four2 w7 w3.heap.size (.slice oa kp.fOwns.length oc) (.slice aa kp.fAsks.length ac) := HW4.out.cell.kept E47.size (E47.block _ (by omega) hq4)
   have HT7 := qhd ht7
   have HE7 := qhd E47
   have HB7 := qhd hB67
   clear ht7 hg7 hk7 hat7 hb7 E47 hB67 c6
   go_wp2_with fail
   go_meet
   case rel =>
    obtain ⟨y1, y2, e0, t1, t2⟩ := id HW4.out.row
    cases e0
    refine ⟨b, cap, m, css, pl, _, _, { kp with fOwns := kp.fOwns ++ [⟨nm, ⟨#[]⟩, [], []⟩] }, q + 3 + 1, HW4.out.anew 37 (KeepsT.of_ex HE7.out hlt (Nat.le_refl _)) ⟨by decide, by decide⟩ (HE7.out.mono hls) ((HW4.out.hole.retake (fun b hb => Or.inr (HT7.out.own b hb)) (fun _ h => Or.inl h)).ex HE7.out hlt (Nat.le_refl _)) ⟨_, _, rfl, HT7.out.sl, t2.stays (E := fun s => s ≠ 37) (rLodAsk_goodT.mono fun _ h => h.elim) (by decide) (KeepsT.of_ex HE7.out hlt (Nat.le_refl _))⟩ (fun h => h.set0), HNR.out, NoRingK.snoc HNK.out (by show by' (⟨#[]⟩ : ByteArray) ≠ tRing; decide), by omega, ?_⟩
    exact qax ((HB7.out.mono hls).trans ((Turn.setCell1 _ _ _ _).below (by omega))) R6 hlt
  ·clear hy
   have hls : w.heap.size ≤ w4.heap.size := by omega
   go_wp2_with fail
   go_loopw [] (fun wr => ∃ (za : Option Addr) (zn zc : Nat) (ks : DLodKeeper), Way w.heap.size w1.heap.size w3.heap.size r kx w wr b cap m css pl (.slice za zn zc) (.slice aa kp.fAsks.length ac) ks ∧ ks.fOwns.length = zn ∧ zn ≤ 6 ∧ ks.fAsks = kp.fAsks ∧ NoRingK ks ∧ w4.heap.size ≤ wr.heap.size ∧ Rd wr r (q + 3)) (fun wr => 6 - lenAt wr w3.heap.size)
   case atStart => exact ⟨oa, _, oc, kp, HW4.out, rfl, by omega, rfl, HNK.out, Nat.le_refl _, R4⟩
   case round =>
    obtain ⟨za, zn, zc, ks, hw, hln, hz6, hks, hnk, hsz, hrd⟩ := hrel
    have HW := qhd hw
    have HLN := qhd hln
    have HKS := qhd hks
    have HNK2 := qhd hnk
    obtain ⟨xl4, x40, x41, xf40, xf41⟩ := hw.cell
    have hq5 : w3.heap.size < wr.heap.size := by omega
    have hm0 : lenAt wr w3.heap.size = zn := lenAt_of x40
    clear hw hln hks hnk
    by_cases h5 : zn ≤ 5
    ·have h5' : (zn : Int) ≤ 5 := by omega
     have hk9 : IntKind.i64.wrap ((zn : Int) + 1) = (zn : Int) + 1 := IntWalk.i64_in _ (by omega)
     go_wp2_with fail
     refine qaq 13 (Below wr.heap.size wr) (fun _ w1 w2 => Below w1.heap.size w1 w2) (fun _ => ownF wr.heap.size w3.heap.size zn (.slice za zn zc)) (fun _ _ => True) noDead (by kernel_rfl) (by decide) (by kernel_rfl) (Or.inr ⟨by kernel_rfl, by kernel_rfl⟩) (by kernel_rfl) ((Below.refl _ _).drew) (fun _ _ _ _ _ _ _ _ _ h => h) noDead_dead (fun _ => trivial) (fun _ _ _ _ _ _ _ _ => trivial) (fun _ i j u w1 w2 hne _ _ hg hF => ownF_stays i j u w1 w2 hne hg hF) (fun _ _ _ => Below.refl _ _) ?_
     refine qaa (d := 82) rfl rfl (fun wx hC hI hd S0 hS => ?_) (fun v0 => ?_)
     ·have HSS := qhd hS; clear hS hd hI
      go_simp
      exact HSS.out _ _ hC (Below.refl _ _) (by (simp only [qls, Nat.reduceAdd, ownF]))
     simp only [qnr]
     refine qaa (d := 83) rfl rfl (fun wx hC hI hd S0 hS => ?_) (fun v1 => ?_)
     ·have d0 := hd ⟨0, .data⟩ (by simp) rfl v0 (by simp)
      simp only [ownF] at d0
      subst d0
      have c0 := (qah (o := 0) (hC.block w3.heap.size hq5)).trans x40
      have HSS := qhd hS; clear hS hd hI
      go_simp
      exact HSS.out _ _ hC (Below.refl _ _) (by (simp only [qls, Nat.reduceAdd, ownF]))
     simp only [qnr]
     refine qaa (d := 84) rfl rfl (fun wx hC hI hd S0 hS => ?_) (fun v2 => ?_)
     ·have HSS := qhd hS; clear hS hd hI
      go_simp
      exact HSS.out _ _ hC (Below.refl _ _) (by (simp only [qls, Nat.reduceAdd, ownF]))
     simp only [qnr]
     refine qaa (d := 85) rfl rfl (fun wx hC hI hd S0 hS => ?_) (fun v3 => ?_)
     ·have d2 := hd ⟨2, .data⟩ (by simp) rfl v2 (by simp)
      simp only [ownF] at d2
      subst d2
      have c0 := (qah (o := 0) (hC.block w3.heap.size hq5)).trans x40
      have HSS := qhd hS; clear hS hd hI
      go_simp
      exact HSS.out _ _ hC (Below.refl _ _) (by (simp only [qls, Nat.reduceAdd, ownF]))
     simp only [qnr]
     refine qaa (d := 86) rfl rfl (fun wx hC hI hd S0 hS => ?_) (fun v4 => ?_)
     ·have d3 := hd ⟨3, .data⟩ (by simp) rfl v3 (by simp)
      simp only [ownF] at d3
      subst d3
      have HSS := qhd hS; clear hS hd hI
      go_simp
      exact HSS.out _ _ hC (Below.refl _ _) (by (simp only [qls, Nat.reduceAdd, ownF]))
     simp only [qnr]
     refine qaa (d := 87) rfl rfl (fun wx hC hI hd S0 hS => ?_) (fun v5 => ?_)
     ·have HSS := qhd hS; clear hS hd hI
      go_simp
      exact HSS.out _ _ hC (Below.refl _ _) (by (simp only [qls, Nat.reduceAdd, ownF]))
     simp only [qnr]
     refine qaa (d := 88) rfl rfl (fun wx hC hI hd S0 hS => ?_) (fun v6 => ?_)
     ·have d5 := hd ⟨5, .data⟩ (by simp) rfl v5 (by simp)
      simp only [ownF] at d5
      subst d5
      have c0 := (qah (o := 0) (hC.block w3.heap.size hq5)).trans x40
      have HSS := qhd hS; clear hS hd hI
      go_simp
      exact HSS.out _ _ hC (Below.refl _ _) (by (simp only [qls, Nat.reduceAdd, ownF]))
     simp only [qnr]
     refine qaa (d := 89) rfl rfl (fun wx hC hI hd S0 hS => ?_) (fun v7 => ?_)
     ·have d6 := hd ⟨6, .data⟩ (by simp) rfl v6 (by simp)
      simp only [ownF] at d6
      subst d6
      have HSS := qhd hS; clear hS hd hI
      go_simp
      exact HSS.out _ _ hC (Below.refl _ _) (by (simp only [qls, Nat.reduceAdd, ownF]))
     simp only [qnr]
     refine qaa (d := 90) rfl rfl (fun wx hC hI hd S0 hS => ?_) (fun v8 => ?_)
     ·have d7 := hd ⟨7, .data⟩ (by simp) rfl v7 (by simp)
      simp only [ownF] at d7
      subst d7
      have HSS := qhd hS; clear hS hd hI
      go_simp
      exact HSS.out _ _ hC (Below.refl _ _) (by (simp only [qls, Nat.reduceAdd, ownF]))
     simp only [qnr]
     refine qaa (d := 91) rfl rfl (fun wx hC hI hd S0 hS => ?_) (fun v9 => ?_)
     ·have d4 := hd ⟨4, .data⟩ (by simp) rfl v4 (by simp)
      simp only [ownF] at d4
      have d8 := hd ⟨8, .data⟩ (by simp) rfl v8 (by simp)
      simp only [ownF] at d8
      subst d4; subst d8
      have h6 : zn = 0 ∨ zn = 1 ∨ zn = 2 ∨ zn = 3 ∨ zn = 4 ∨ zn = 5 := by omega
      clear x40 hm0 hk9 h5 h5'
      have HSS := qhd hS; clear hS hd hI
      rcases h6 with h6 | h6 | h6 | h6 | h6 | h6 <;> (rw [h6]; go_simp; exact HSS.out _ _ hC (Below.refl _ _) (by (simp only [qls, Nat.reduceAdd, ownF]); exact ⟨_, rfl⟩))
     simp only [qnr]
     refine qaa (d := 92) rfl rfl (fun wx hC hI hd S0 hS => ?_) (fun v10 => ?_)
     ·have d9 := hd ⟨9, .data⟩ (by simp) rfl v9 (by simp)
      simp only [ownF] at d9
      obtain ⟨c, d9⟩ := d9
      subst d9
      have HSS := qhd hS; clear hS hd hI
      go_simp
      exact HSS.out _ _ hC (Below.refl _ _) (by (simp only [qls, Nat.reduceAdd, ownF]); exact ⟨c, rfl⟩)
     simp only [qnr]
     refine qaa (d := 93) rfl rfl (fun wx hC hI hd S0 hS => ?_) (fun v11 => ?_)
     ·have d10 := hd ⟨10, .data⟩ (by simp) rfl v10 (by simp)
      simp only [ownF] at d10
      obtain ⟨c, d10⟩ := d10
      subst d10
      have HSS := qhd hS; clear hS hd hI
      go_simp
      exact HSS.out _ _ hC (Below.refl _ _) (by (simp only [qls, Nat.reduceAdd, ownF]); exact ⟨c, rfl⟩)
     simp only [qnr]
     refine qaa (d := 94) rfl rfl (fun wx hC hI hd S0 hS => ?_) (fun v12 => ?_)
     ·have d11 := hd ⟨11, .data⟩ (by simp) rfl v11 (by simp)
      simp only [ownF] at d11
      obtain ⟨c, d11⟩ := d11
      subst d11
      have hzx := hC.size
      have HSS := qhd hS; clear hS hd hI
      go_simp
      refine HSS.out _ _ (hC.alloc hzx _) ((Below.refl _ _).alloc (Nat.le_refl _) _) ?_
      (simp only [qls, Nat.reduceAdd, ownF])
      exact ⟨c, _, rfl, hzx, heap_alloc_new wx _⟩
     simp only [qnr]
     intro w5 hC hF
     have f1 := hF 1 v1 (by simp) (fun _ _ => rfl)
     have f12 := hF 12 v12 (by simp) (fun _ _ => rfl)
     simp only [ownF] at f1 f12
     obtain ⟨c9, g9, e12, hg9, hh9⟩ := f12
     subst f1; subst e12
     have HW5 := qhd (HW.out.ex' (N := wr.heap.size) ⟨hC.os, hC.tape, hC.output, hC.size, fun j _ hl => hC.block j hl⟩ (Nat.le_refl _))
     have hz5 := hC.size
     have hE5 : w.heap.size ≤ w5.heap.size := by omega
     have R5 : Rd w5 r (q + 3) := qax hC hrd (by omega)
     obtain ⟨y1, y2, e0, t1, t2⟩ := id HW5.out.row
     cases e0
     have hv5 : TOwn 4 tClsClass 37 w.heap.size w.heap.size w5 (.slice za zn zc) ks.fOwns := ⟨t1, fun b hb => t1.at_lo b hb⟩
     have hs5 : Src 4 w5 (.slice (some ⟨g9, 0, none⟩) 1 1) [[.string ⟨#[120, c9]⟩, .string ⟨#[]⟩, .slice none 0 0, .slice none 0 0]] := Src.at (cs := [.string ⟨#[120, c9]⟩, .string ⟨#[]⟩, .slice none 0 0, .slice none 0 0]) hh9
     have HT1 := qhd t1
     have HT2 := qhd t2
     clear hF hh9 hC t1 t2 x40 x41 xf40 xf41 xl4
     simp only [List.drop_succ_cons, List.drop_zero]
     refine qai (B := w.heap.size) (lo := w.heap.size) (xs := ks.fOwns) (ys := [(⟨⟨#[120, c9]⟩, ⟨#[]⟩, [], []⟩ : DClsClass)]) (css := [[.string ⟨#[120, c9]⟩, .string ⟨#[]⟩, .slice none 0 0, .slice none 0 0]]) (E := fun s => s ≠ 37) (by rfl) (.tmp 83) (.tmp 94) 42 (by rfl) sty_Cls goodT_cls (fun h => h rfl) tClsClass_one (by rfl) (by rfl) hv5 hs5 (Rows.one rfl (clsNil _ (by show 2 ≤ 100; omega) _ _)) (by have := HLN.out; simp; omega) (Nat.le_refl _) hE5 ?_
     intro v9 w6 ht6 hb6 hg6 hk6 hat6
     have hs6 := hb6.size
     obtain ⟨aa6, cc6, rfl, _, _⟩ : ∃ (a : Option Addr) (c : Nat), v9 = .slice a (ks.fOwns ++ [(⟨⟨#[120, c9]⟩, ⟨#[]⟩, [], []⟩ : DClsClass)]).length c ∧ (ks.fOwns ++ [(⟨⟨#[120, c9]⟩, ⟨#[]⟩, [], []⟩ : DClsClass)]).length ≤ c ∧ c ≤ maxLen := ht6.sl.form
     obtain ⟨xl6, x60, x61, xf60, xf61⟩ : Four2 w6 w3.heap.size (.slice za zn zc) (.slice aa kp.fAsks.length ac) := HW5.out.cell.kept hs6 (HW5.out.tcell.kept hk6 (Nat.zero_le _) (by decide))
     have hzn : (ks.fOwns ++ [(⟨⟨#[120, c9]⟩, ⟨#[]⟩, [], []⟩ : DClsClass)]).length = zn + 1 := by have := HLN.out; simp; omega
     have HT6 := qhd ht6
     have HG6 := qhd hg6
     have HK6 := qhd hk6
     have HA6 := qhd hat6
     rw [hzn] at HT6
     (try rw [hzn] at HG6)
     (try rw [hzn] at HK6)
     (try rw [hzn] at HA6)
     (try rw [hzn])
     have HZN := qhd hzn
     clear ht6 hg6 hk6 hat6 hv5 hs5 hzn
     have hsz6 : w4.heap.size ≤ w6.heap.size := by omega
     have hsc : ∀ (o : Nat) (v : Value), (w6.setCell ⟨w3.heap.size, o, none⟩ v).heap.size = w6.heap.size := fun o v => (Turn.setCell1 _ o v w6).size.symm
     have HWN : Hid (Way w.heap.size w1.heap.size w3.heap.size r kx w (w6.setCell ⟨w3.heap.size, 0, none⟩ (.slice aa6 (zn + 1) cc6)) b cap m css pl (.slice aa6 (zn + 1) cc6) (.slice aa kp.fAsks.length ac) { ks with fOwns := ks.fOwns ++ [⟨⟨#[120, c9]⟩, ⟨#[]⟩, [], []⟩] }) := qhd (by
      obtain ⟨cx, _, hown⟩ := HT1.out
      exact HW5.out.anew 37 HK6.out.up ⟨by decide, by decide⟩ ⟨hb6.os, hb6.tape, hb6.output, hb6.size, fun k _ hk => hb6.block k hk⟩ (HW5.out.hole.growO2 HG6.out hown HA6.out) ⟨_, _, rfl, HT6.out.sl, HT2.out.stays (E := fun s => s ≠ 37) (rLodAsk_goodT.mono fun _ h => h.elim) (by decide) HK6.out.up⟩ (fun h => h.set0))
     have RN : Rd (w6.setCell ⟨w3.heap.size, 0, none⟩ (.slice aa6 (zn + 1) cc6)) r (q + 3) := qax (hb6.trans ((Turn.setCell1 _ _ _ _).below (by omega))) R5 hlt
     go_wp2_with fail
     go_roundw
     case measure =>
      rw [hm0, lenAt_of HWN.out.cell.c0]
      omega
     case rel => exact ⟨aa6, zn + 1, cc6, _, HWN.out, HZN.out, by omega, HKS.out, NoRingK.snoc HNK2.out (by show by' (⟨#[]⟩ : ByteArray) ≠ tRing; decide), by rw [hsc]; exact hsz6, RN⟩
    ·have h5' : ¬ (zn : Int) ≤ 5 := by omega
     go_wp2_with fail
     go_meet
     case rel => exact ⟨b, cap, m, css, pl, _, _, ks, q + 3, HW.out, HNR.out, HNK2.out, by omega, hrd⟩
  ·clear hy
   have HWa := qhd (HW4.out.ex' (wy := w4.alloc (.cells #[] 37)) ((Ex.refl r _ w4).alloc (Nat.le_refl _) _) (Nat.le_refl _))
   obtain ⟨y1, y2, e0, t1, t2⟩ := id HWa.out.row
   cases e0
   obtain ⟨cssa, hsa, hra⟩ := t1.src
   have hls : w.heap.size ≤ w4.heap.size := by omega
   obtain ⟨xl4, x40, x41, xf40, xf41⟩ : Four2 w4 w3.heap.size (.slice oa kp.fOwns.length oc) (.slice aa kp.fAsks.length ac) := HW4.out.cell
   clear t1 t2
   go_wp2_with (at_builtin; refine wpList_append_copy (B := w4.heap.size) (lo := w.heap.size) (R := tClsClass) (E := EClsClass) (ys := kp.fOwns) (css := cssa) (by rfl) (.tmp 99) (.tmp 101) 42 (by rfl) sty_Cls tClsClass_goodT tClsClass_one (by rfl) (by rfl) (Empty0.new w4 _ (Nat.le_refl _)) hsa hra (by omega) hls (by simp) ?_)
   intro v8 w5 ht5 hb5
   have hs5 := hb5.size
   simp only [World.size_alloc] at hs5
   have hB5 : Below w4.heap.size w4 w5 := ((Below.refl w4.heap.size w4).alloc (Nat.le_refl _) _).trans (hb5.mono (by simp))
   have R5 : Rd w5 r (q + 3) := qax (hB5.mono hls) R4 hlt
   have HT5 := qhd ht5
   have HB5 := qhd hB5
   clear hsa hra ht5 hb5 hB5 x40 x41 xf40 xf41
   go_wp2_with fail
   refine (S_l20Method r (q + 3) 1 _ (by omega) (by omega) (rdd) (by omega)).mono ?_
   rintro _ w6 ⟨mt, v1, v2, v3, q6, rfl, hmr, hq6, R6, X6⟩
   have hs6 := X6.size
   have E56 : Ex r w5.heap.size w5 w6 := X6
   have HT6 := qhd (TOwn.exG tClsClass_goodT HT5.out E56 hlt (Nat.le_refl _))
   have E46 : Ex r w4.heap.size w4 w6 := (show Ex r w4.heap.size w4 w5 from ⟨HB5.out.os, HB5.out.tape, HB5.out.output, HB5.out.size, fun j _ hl => HB5.out.block j hl⟩).trans (E56.mono (by omega))
   have hmr2 := tClsMethod_goodT.low _ w.heap.size _ _ _ (by omega) hmr
   obtain ⟨y1, y2, y3, e0, t1, t2, t3, _, _⟩ := id hmr
   cases e0
   obtain ⟨ba1, bn1, bc1, rfl⟩ := t1.form3
   obtain ⟨ba2, bn2, bc2, rfl⟩ := t2.form3
   obtain ⟨ba3, bn3, bc3, rfl⟩ := t3.form3
   have HMR := qhd hmr2
   have HNM : Hid (TSl 8 tClsMethod 65 w.heap.size (w6.alloc (.cells #[.string mt.fName, .slice ba1 bn1 bc1, .int .i64 mt.fRet.fKind, .string mt.fRet.fName, .int .i64 mt.fLocals, .int .i64 mt.fStack, .slice ba2 bn2 bc2, .slice ba3 bn3 bc3] 65)) (.slice (some ⟨w6.heap.size, 0, none⟩) 1 1) [mt]) := qhd (TSl.lit (css := [[.string mt.fName, .slice ba1 bn1 bc1, .int .i64 mt.fRet.fKind, .string mt.fRet.fName, .int .i64 mt.fLocals, .int .i64 mt.fStack, .slice ba2 bn2 bc2, .slice ba3 bn3 bc3]]) w6 _ (Rows.one rfl (tClsMethod_goodT.stays _ _ _ _ _ (KeepsT.of_below ((Below.refl _ _).alloc (Nat.le_refl _) _)) hmr2)) rfl 1 rfl _ rfl (by simp) (by omega))
   clear X6 E56 hmr hmr2 t1 t2 t3
   go_wp2_with (at_builtin; refine qai (B := w4.heap.size) (lo := w.heap.size) (xs := kp.fOwns) (ys := [(⟨⟨#[121]⟩, ⟨#[]⟩, [], [mt]⟩ : DClsClass)]) (css := [[.string ⟨#[121]⟩, .string ⟨#[]⟩, .slice none 0 0, .slice (some ⟨w6.heap.size, 0, none⟩) 1 1]]) (E := fun s => s ≠ 37) (by rfl) (.tmp 102) (.tmp 107) 42 (by rfl) sty_Cls goodT_cls (fun h => h rfl) tClsClass_one (by rfl) (by rfl) ((HT6.out.below tClsClass_goodT ((Below.refl _ _).alloc (Nat.le_refl _) _)).below tClsClass_goodT ((Below.refl _ _).alloc (Nat.le_refl _) _)) (Src.at (cs := [.string ⟨#[121]⟩, .string ⟨#[]⟩, .slice none 0 0, .slice (some ⟨w6.heap.size, 0, none⟩) 1 1]) (by first | exact heap_alloc_new _ _ | (simpa using heap_alloc_new (w6.alloc (.cells #[.string mt.fName, .slice ba1 bn1 bc1, .int .i64 mt.fRet.fKind, .string mt.fRet.fName, .int .i64 mt.fLocals, .int .i64 mt.fStack, .slice ba2 bn2 bc2, .slice ba3 bn3 bc3] 65)) _))) (Rows.one rfl ⟨_, _, rfl, TSl.nil, HNM.out.below tClsMethod_goodT ((Below.refl _ _).alloc (Nat.le_refl _) _), by show 1 ≤ maxLen; unfold maxLen; omega, by show 0 ≤ maxLen; omega⟩) (by simp; omega) hls (by simp; omega) ?_)
   intro v9 w7 ht7 hb7 hg7 hk7 hat7
   have hs7 := hb7.size
   simp only [World.size_alloc] at hs7
   have hB67 : Below w4.heap.size w6 w7 := (((Below.refl w4.heap.size w6).alloc (by omega) _).alloc (by simp; omega) _).trans hb7
   have E47 : Ex r w4.heap.size w4 w7 := E46.trans ⟨hB67.os, hB67.tape, hB67.output, hB67.size, fun j _ hl => hB67.block j hl⟩
   obtain ⟨za, zn, zc, rfl⟩ := ht7.sl.form3
   obtain ⟨xl6, x60, x61, xf60, xf61⟩ : Four2 w7 w3.heap.size (.slice oa kp.fOwns.length oc) (.slice aa kp.fAsks.length ac) := HW4.out.cell.kept E47.size (E47.block _ (by omega) hq4)
   have HT7 := qhd ht7
   have HE7 := qhd E47
   have HB7 := qhd hB67
   clear ht7 hg7 hk7 hat7 hb7 E47 hB67
   go_wp2_with fail
   go_meet
   case rel =>
    obtain ⟨y1, y2, e0, t1, t2⟩ := id HW4.out.row
    cases e0
    refine ⟨b, cap, m, css, pl, _, _, { kp with fOwns := kp.fOwns ++ [⟨⟨#[121]⟩, ⟨#[]⟩, [], [mt]⟩] }, q6, HW4.out.anew 37 (KeepsT.of_ex HE7.out hlt (Nat.le_refl _)) ⟨by decide, by decide⟩ (HE7.out.mono hls) ((HW4.out.hole.retake (fun b hb => Or.inr (HT7.out.own b hb)) (fun _ h => Or.inl h)).ex HE7.out hlt (Nat.le_refl _)) ⟨_, _, rfl, HT7.out.sl, t2.stays (E := fun s => s ≠ 37) (rLodAsk_goodT.mono fun _ h => h.elim) (by decide) (KeepsT.of_ex HE7.out hlt (Nat.le_refl _))⟩ (fun h => h.set0), HNR.out, NoRingK.snoc HNK.out (by show by' (⟨#[]⟩ : ByteArray) ≠ tRing; decide), by omega, ?_⟩
    exact qax ((HB7.out.mono hls).trans ((Turn.setCell1 _ _ _ _).below (by omega))) R6 hlt
  ·clear hy
   have hls : w.heap.size ≤ w4.heap.size := by omega
   go_wp2_with fail
   go_loopw [] (fun wr => ∃ (b2 cap2 m2 : Nat) (css2 : List (List Value)) (pl2 : DLodPlan), Way w.heap.size w1.heap.size w3.heap.size r kx w wr b2 cap2 m2 css2 pl2 (.slice oa kp.fOwns.length oc) (.slice aa kp.fAsks.length ac) kp ∧ PlanC w.heap.size wr (.slice (some ⟨b2, 0, none⟩) m2 cap2) css2 pl2 ∧ css2[kx]? = some [.slice oa kp.fOwns.length oc, .slice aa kp.fAsks.length ac] ∧ NoRing pl2 ∧ m2 ≤ 4 ∧ w4.heap.size ≤ wr.heap.size ∧ Rd wr r (q + 3)) (fun wr => 4 - lenAt wr w1.heap.size)
   case atStart => exact ⟨b, cap, m, css, pl, HW4.out, HPC4.out, HCK.out, HNR.out, by omega, Nat.le_refl _, R4⟩
   case round =>
    obtain ⟨b2, cap2, m2, css2, pl2, hw, hpc2, hck2, hnr2, hm4, hsz, hrd⟩ := hrel
    have HW := qhd hw
    have HPC2 := qhd hpc2
    have HCK2 := qhd hck2
    have HNR2 := qhd hnr2
    obtain ⟨pl4, p40, pf40⟩ := hw.plan
    have hm0 : lenAt wr w1.heap.size = m2 := lenAt_of p40
    have HLN := qhd hw.len
    clear hw hpc2 hck2 hnr2
    by_cases h5 : m2 ≤ 3
    ·have h5' : (m2 : Int) ≤ 3 := by omega
     have hE5 : w.heap.size ≤ wr.heap.size := by omega
     have hv5 : Hid (∀ o, TOwnC 2 tLodKeeper 45 w.heap.size w.heap.size (wr.alloc o) (.slice (some ⟨b2, 0, none⟩) m2 cap2) css2 pl2.fKeepers) := qhd (fun o => by
      have h := HPC2.out.below ((Below.refl _ _).alloc (Nat.le_refl _) o)
      exact ⟨h.rows, h.owns, fun b hb => (h.owns.lt b hb).1⟩)
     have hs5 : Hid (Src 2 (wr.alloc (.cells #[.slice none 0 0, .slice none 0 0] 45)) (.slice (some ⟨wr.heap.size, 0, none⟩) 1 1) [[.slice none 0 0, .slice none 0 0]]) := qhd (Src.new (k := 2) (cs := [.slice none 0 0, .slice none 0 0]))
     go_wp2_with (at_builtin; refine wpList_append_FC (B := w.heap.size) (lo := w.heap.size) (xs := pl2.fKeepers) (ys := [(⟨[], []⟩ : DLodKeeper)]) (cx := css2) (css := [[.slice none 0 0, .slice none 0 0]]) (E := fun s => s ≠ 45) (by rfl) (.tmp 30) (.tmp 32) 23 (by rfl) sty_Kpr goodT_kpr (fun h => h rfl) tLodKeeper_one (by rfl) (by rfl) (hv5.out _) hs5.out (Rows.one rfl (nil_kpr w.heap.size _)) (by have := HLN.out; simp; omega) (Nat.le_refl _) (by simp; omega) ?_)
     intro v9 w6 ht6 hb6 hg6 hk6 hat6
     have hs6 := hb6.size
     simp only [World.size_alloc] at hs6
     have hlen : (pl2.fKeepers ++ [(⟨[], []⟩ : DLodKeeper)]).length = m2 + 1 := by have := HLN.out; simp; omega
     obtain ⟨g9, cc6, rfl, hg91, hg92, _⟩ := own_cell ht6.owns (by omega)
     have hA6 : some g9 = some b2 ∨ wr.heap.size ≤ g9 := by
      rcases hat6 g9 rfl with e | e
      ·exact Or.inl e.symm
      ·exact Or.inr (by omega)
     have hG6 : wr.grownBy w6 (some b2) := (grownBy_of_alloc hg6)
     have hB6 : Below w.heap.size wr w6 := ((Below.refl w.heap.size wr).alloc hE5 _).trans hb6
     rw [hlen] at ht6 ⊢
     have HK1 := qhd (HW.out.keep1 HPC2.out HCK2.out ht6 hB6 hG6 hA6 rfl h5)
     have pk := hG6.block w1.heap.size pl4 (fun e => HW.out.typeb.1 (by cases e; rfl))
     have p60 := (qah pk).trans p40
     have p6f := (qam pk).trans pf40
     have p6l : w1.heap.size < w6.heap.size := by omega
     have RN : Rd (w6.setCell ⟨w1.heap.size, 0, none⟩ (.slice (some ⟨g9, 0, none⟩) (m2 + 1) cc6)) r (q + 3) := qax (hB6.trans ((Turn.setCell1 _ _ _ _).below (by omega))) hrd hlt
     have hsc : (w6.setCell ⟨w1.heap.size, 0, none⟩ (.slice (some ⟨g9, 0, none⟩) (m2 + 1) cc6)).heap.size = w6.heap.size := (Turn.setCell1 _ _ _ w6).size.symm
     clear ht6 hb6 hg6 hk6 hat6 hv5 hs5 hlen hG6 hB6 hA6 pk p40 pf40
     go_wp2_with fail
     go_roundw
     case measure =>
      rw [hm0, lenAt_of HK1.out.1.plan.c0]
      omega
     case rel => exact ⟨g9, cc6, m2 + 1, _, _, HK1.out.1, HK1.out.2.1, HK1.out.2.2, HNR2.out.snoc, by omega, by rw [hsc]; omega, RN⟩
    ·have h5' : ¬ (m2 : Int) ≤ 3 := by omega
     go_wp2_with fail
     go_meet
     case rel => exact ⟨b2, cap2, m2, css2, pl2, _, _, kp, q + 3, HW.out, HNR2.out, HNK.out, by omega, hrd⟩
 case rest =>
  obtain ⟨b', cap', m', css', pl', xo, xa, kz, q', hw, hnr, hnk, hq', hrd⟩ := id hcut
  clear hcut
  have z0 := hw.plan.c0
  have zl := hw.plan.lt
  have x0 := hw.cell.c0
  have x1 := hw.cell.c1
  have xl := hw.cell.lt
  have hk2 : kx < m' := hw.lt
  have hk3 : (kx : Int) < (m' : Int) := by omega
  have hsm := hw.small
  have hbz := hw.hb
  have hth := hw.hole.there hw.len hw.lt
  obtain ⟨y1, y2, e0, t1, t2⟩ := id hw.row
  cases e0
  obtain ⟨oa', on', oc', rfl⟩ := t1.form3
  obtain ⟨aa', an', ac', rfl⟩ := t2.form3
  have HW := qhd hw
  have HNZ := qhd (hnr.set hnk kx)
  clear hw hnr hnk t1 t2 HW4
  go_wp2_with (refine wpList_store_midT (by rfl) 45 (.tmp 114) (.tmp 113) (by rfl) b' (kx * 2) [.slice oa' on' oc', .slice aa' an' ac'] (by rfl) (by rfl) hth HKI.out (by intro v hv; simp at hv; rcases hv with rfl | rfl <;> rfl) ?_)
  intro w6 hr6 ht6 ho6 hT6
  have hs6 := ht6.size
  have hbP : b' ≠ w1.heap.size := fun e => by
   have h1 := HW.out.tplan
   have h2 := HW.out.hole.type HW.out.len (by omega)
   rw [e] at h2
   obtain ⟨_, _, h1⟩ := h1
   obtain ⟨_, _, h2⟩ := h2
   rw [h1] at h2
   cases h2
  have hbR : b' ≠ w.heap.size := fun e => by
   have h1 := HW.out.tres
   have h2 := HW.out.hole.type HW.out.len (by omega)
   rw [e] at h2
   obtain ⟨_, _, h1⟩ := h1
   obtain ⟨_, _, h2⟩ := h2
   rw [h1] at h2
   cases h2
  have R6 := HW.out.res.kept (Nat.le_of_eq hs6) (ht6.block _ (by omega))
  have T6 : TypeAt w6 w.heap.size 25 := hT6 _ _ HW.out.tres
  have p6 := (ht6.cell (o := 0) (Ne.symm hbP)).trans z0
  have r60 := R6.c0
  have r6f := R6.f0
  have r6l := R6.lt
  have HZ6 := qhd (HW.out.hole.type HW.out.len (by omega))
  have HT6 := qhd ht6
  have HO6 := qhd ho6
  have HR6 := qhd hr6
  have HT := qhd T6
  have hex := HW.out.ex.size
  clear hr6 ht6 ho6 hT6 R6 T6 hth
  go_wp2
  all_goals
   refine bodyPost_ret (v := ?_) ?hrun rfl ?_
   case hrun => (simp only [results, Tryz.results16]; go_simp; first | done | exact rfl)
   have hu := Turn.setCell1 w.heap.size 0 (.slice (some ⟨b', 0, none⟩) m' cap') w6
   have hb6 : b' ≠ w.heap.size := hbR
   have hm7 := HW.out.len
   refine HR.out _ _ ⟨_, ⟨pl'.fKeepers.set kx kz⟩, q', rfl, ?_, HNZ.out, by omega, qax ((HT6.out.below (N := w.heap.size) (by have := HW.out.hlo; omega)).trans (hu.below (Nat.le_refl _))) hrd hlt, (HW.out.ex.trans (HT6.out.ex (by have := HW.out.hlo; omega))).trans (hu.ex (Nat.le_refl _))⟩
   have hh := HW.out.hole
   have hkk := HW.out.lt
   subst hm7
   exact hh.put2 hkk HW.out.row (by have := hu.size; omega) ((KeepsT.of_turn HT6.out HZ6.out ELodKeeper_not).trans (KeepsT.of_turn hu HT.out (fun h => EPlan_plan (Or.inl h)))) (fun j u hj => (hu.cell hb6).trans (HR6.out j u hj)) (fun j hj => (hu.cell hb6).trans (HO6.out j hj))

theorem Keeps.of_ex {lo r N : Nat} {w w' : World} (h : Ex r N w w') (hr : r < lo) (hN : w.heap.size ≤ N) : Keeps lo w w' := ⟨h.size, fun k hk hl => h.block k (by omega) (by omega)⟩
end Go.Proofs.YtfbonocadpknbaaGreatDoor
