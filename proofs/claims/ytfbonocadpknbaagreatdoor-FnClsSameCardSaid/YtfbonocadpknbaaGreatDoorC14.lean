/-
  Texts of mine, packed: Way, WayB, PlanOr, DrawL. No condition beside those of the single theorems.
-/
import Derived.Test.YtfbonocadpknbaaGreatDoorC11
import Derived.Test.YtfbonocadpknbaaGreatDoorC13
set_option linter.unusedSimpArgs false
set_option linter.unusedVariables false
set_option maxHeartbeats 16000000
set_option maxRecDepth 100000
namespace Go.Proofs.YtfbonocadpknbaaGreatDoor
open Go.RowKit
def NoRingK (k : DLodKeeper) : Prop := ∀ c ∈ k.fOwns, by' c.fSuper ≠ tRing
theorem NoRing.set {pl : DLodPlan} {k : DLodKeeper} (h : NoRing pl) (hk : NoRingK k) (i : Nat) : NoRing ⟨pl.fKeepers.set i k⟩ := fun x hx => by
 rcases List.mem_or_eq_of_mem_set hx with hm | rfl
 ·exact h x hm
 ·exact hk
theorem NoRingK.snoc {k : DLodKeeper} {c : DClsClass} (h : NoRingK k) (hc : by' c.fSuper ≠ tRing) : NoRingK { k with fOwns := k.fOwns ++ [c] } := fun x hx => by
 rcases List.mem_append.1 hx with hm | hm
 ·exact h x hm
 ·rw [List.mem_singleton] at hm; subst hm; exact hc
theorem TypeAt.kept {w w' : World} {c : Nat} {t : TypeId} {E : TypeId → Prop} (h : TypeAt w c t) {lo : Nat} (hk : KeepsT E lo w w') (hl : lo ≤ c) (he : E t) : w'.heap[c]? = w.heap[c]? := by
 obtain ⟨cs, fr, h⟩ := h
 exact hk.block c cs t fr hl he h
theorem One1.kept {w w' : World} {b : Nat} {x0 : Value} (h : One1 w b x0) (hs : w.heap.size ≤ w'.heap.size) (hk : w'.heap[b]? = w.heap[b]?) : One1 w' b x0 := ⟨Nat.lt_of_lt_of_le h.lt hs, (qag hk).trans h.c0, (qao hk).trans h.f0⟩
theorem Four2.kept {w w' : World} {b : Nat} {x0 x1 : Value} (h : Four2 w b x0 x1) (hs : w.heap.size ≤ w'.heap.size) (hk : w'.heap[b]? = w.heap[b]?) : Four2 w' b x0 x1 := ⟨Nat.lt_of_lt_of_le h.lt hs, (qag hk).trans h.c0, (qag hk).trans h.c1, (qao hk).trans h.f0, (qao hk).trans h.f1⟩
theorem TypeAt.of_kept {w w' : World} {c : Nat} {t : TypeId} (h : TypeAt w c t) (hk : w'.heap[c]? = w.heap[c]?) : TypeAt w' c t := by
 obtain ⟨cs, fr, h⟩ := h
 exact ⟨cs, fr, hk.trans h⟩
structure Way (lo P X r k : Nat) (w0 wz : World) (b cap m : Nat) (css : List (List Value)) (pl : DLodPlan) (xo xa : Value) (kx : DLodKeeper) : Prop where
 res : One1 wz w0.heap.size (.slice none 0 0)
 tres : TypeAt wz w0.heap.size 25
 plan : One1 wz P (.slice (some ⟨b, 0, none⟩) m cap)
 tplan : TypeAt wz P 25
 cell : Four2 wz X xo xa
 tcell : TypeAt wz X 45
 hole : Hole lo wz (.slice (some ⟨b, 0, none⟩) m cap) css pl k xo xa
 row : tLodKeeper lo wz [xo, xa] kx
 ex : Ex r w0.heap.size w0 wz
 len : pl.fKeepers.length = m
 lt : k < m
 small : m ≤ 100
 capm : m ≤ cap
 capx : cap ≤ 9223372036854775807
 hlo : lo ≤ b
 hb : b < wz.heap.size
 hX : b ≠ X
 hr : r < lo
 h0 : lo ≤ w0.heap.size
 hP : w0.heap.size < P
 hPX : P < X
theorem Hole.type {lo b cap m : Nat} {w : World} {css : List (List Value)} {p : DLodPlan} {k : Nat} {xo xa : Value} (h : Hole lo w (.slice (some ⟨b, 0, none⟩) m cap) css p k xo xa) (hm : p.fKeepers.length = m) (h0 : 0 < m) : TypeAt w b 45 := by
 obtain ⟨_, h2⟩ := h.owns
 rcases h2 with ⟨_, h2⟩ | ⟨g, cap, cur, h1, _, h3, _⟩
 ·omega
 ·cases h1; exact ⟨cur, (0, 0), h3⟩
theorem Hole.there {lo b cap m : Nat} {w : World} {css : List (List Value)} {p : DLodPlan} {k : Nat} {xo xa : Value} (h : Hole lo w (.slice (some ⟨b, 0, none⟩) m cap) css p k xo xa) (hm : p.fKeepers.length = m) (hk : k < m) : w.there b (k * 2) 2 := by
 obtain ⟨h0, h2⟩ := h.owns
 have hfl : css.flatten.length = m * 2 := by rw [flat_len h.sz, h.len, hm]
 rcases h2 with ⟨_, h2⟩ | ⟨g, cap, cur, h1, _, h3, h4, h5, h6, h7⟩
 ·omega
 ·cases h1
  intro j hj
  have hsz : k * 2 + j < cur.size := by
   have e := congrArg List.length h7
   rw [List.length_take, Array.length_toList, hfl] at e
   omega
  have h1 : (w.cell? ⟨b, k * 2 + j, none⟩) = some cur[k * 2 + j] := by simp [World.cell?, h3, hsz]
  exact ⟨by rw [h1]; rfl, by simp [World.frozen?, h3]⟩
def drawG (d r : Nat) (i : Nat) (w w' : World) : Prop := (i = d ∧ Ex r w.heap.size w w') ∨ Below w.heap.size w w'
def drawI (d r q : Nat) (i : Nat) (w : World) : Prop := i = d → Rd w r q
theorem drawI_stays {d r q : Nat} : ∀ i j w w', i ≠ j → drawG d r j w w' → drawI d r q i w → drawI d r q i w' := by
 intro i j w w' hne hg h hi
 subst hi
 rcases hg with ⟨e, _⟩ | g
 ·exact absurd e.symm hne
 ·exact rd_below g (h rfl) (h rfl).lt
theorem cell_at {w : World} {c j : Nat} {cs : Array Value} {t : TypeId} {fr : Nat × Nat} {v : Value} (h : w.heap[c]? = some (.cells cs t fr)) (hj : cs[j]? = some v) : w.cell? ⟨c, j, none⟩ = some v := by
 simp [World.cell?, h, hj]
theorem Src.at {k : Nat} {w : World} {c : Nat} {cs : List Value} {t : TypeId} {fr : Nat × Nat} (h : w.heap[c]? = some (.cells cs.toArray t fr)) : Src k w (.slice (some ⟨c, 0, none⟩) 1 1) [cs] := Src.one fun j u hj => cell_at h (by simpa using hj)

theorem NoRing.snoc {pl : DLodPlan} (h : NoRing pl) : NoRing ⟨pl.fKeepers ++ [⟨[], []⟩]⟩ := fun x hx => by
 rcases List.mem_append.1 hx with hm | hm
 ·exact h x hm
 ·rw [List.mem_singleton] at hm; subst hm; exact fun c hc => by cases hc
theorem PlanC.ex {lo r N : Nat} {w w' : World} {v : Value} {css : List (List Value)} {p : DLodPlan} (h : PlanC lo w v css p) (he : Ex r N w w') (hr : r < lo) (hN : w.heap.size ≤ N) : PlanC lo w' v css p := h.keeps (KeepsT.of_ex he hr hN)
theorem Keeps.of_ex {lo r N : Nat} {w w' : World} (h : Ex r N w w') (hr : r < lo) (hN : w.heap.size ≤ N) : Keeps lo w w' := ⟨h.size, fun k hk hl => h.block k (by omega) (by omega)⟩
end Go.Proofs.YtfbonocadpknbaaGreatDoor
