/-
  Texts of mine, packed: Picks, DrawP. No condition beside those of the single theorems.
-/
import Derived.Test.YtmbfpbgkchncgaaGreatK10
import Derived.Test.YtmbfpbgkchncgaaGreatK12
import Derived.Test.YtmbfpbgkchncgaaGreatK21
set_option linter.unusedSimpArgs false
set_option linter.unusedVariables false
set_option maxHeartbeats 16000000
set_option maxRecDepth 100000
namespace Go.Proofs.YtmbfpbgkchncgaaGreat
open Go.RowKit
theorem Rd.uniq {w : World} {r p q : Nat} (h : Rd w r p) (h' : Rd w r q) : p = q := by
 obtain ⟨_, _, _, _, _, h1, _⟩ := h
 obtain ⟨_, _, _, _, _, h2, _⟩ := h'
 rw [h1] at h2
 simp at h2
 omega
def pkR (r lo hi : Nat) (w : World) : Prop := ∃ q, lo ≤ q ∧ q ≤ hi ∧ Rd w r q
theorem pkR_below {r lo hi : Nat} {w w' : World} (h : pkR r lo hi w) (hb : Below w.heap.size w w') : pkR r lo hi w' := by
 obtain ⟨q, h1, h2, h3⟩ := h
 exact ⟨q, h1, h2, qat hb h3 h3.lt⟩
theorem lits_at {w : World} {c : Nat} {cs : List Value} {t : TypeId} {fr : Nat × Nat} (h : w.heap[c]? = some (.cells cs.toArray t fr)) {P : Value → Prop} (hall : ∀ v ∈ cs, P v) {x : Nat} (hx : x < cs.length) : ∃ v, P v ∧ w.cell? ⟨c, x, none⟩ = some v :=
 ⟨cs[x], hall _ (List.getElem_mem hx), cell_at h (by simp)⟩
def StrIn (n : Nat) (v : Value) : Prop := ∃ s : ByteArray, s.size ≤ n ∧ v = .string s

def NotByte (v : Value) : Prop := ∀ c : Int, v ≠ .int .u8 c
def Held (W : World) (b o : Nat) : Prop := (∃ v, NotByte v ∧ W.cell? ⟨b, o, none⟩ = some v) ∧ W.frozen? ⟨b, o, none⟩ = false
theorem Rd.set_held {W : World} {r p b o : Nat} {u : Value} (h : Rd W r p) (hh : Held W b o) (hb : b ≠ r) : Rd (W.setCell ⟨b, o, none⟩ u) r p := by
 obtain ⟨h0, a, len, cap, h1, h2, h3, h4, h5⟩ := h
 have hs : (W.setCell ⟨b, o, none⟩ u).heap[r]? = W.heap[r]? := Below.heap_setCell _ _ _ _ (by show r ≠ b; omega)
 refine ⟨by simpa [World.setCell] using h0, a, len, cap, (qae hs).trans h1, (qae hs).trans h2, (qai hs).trans h3, h4, fun hl => ?_⟩
 obtain ⟨d, off, e, hd, hc⟩ := h5 hl
 refine ⟨d, off, e, hd, fun i hi => ?_⟩
 obtain ⟨c, hc1, hc2⟩ := hc i hi
 refine ⟨c, hc1, ?_⟩
 obtain ⟨⟨v, hn, hv⟩, _⟩ := hh
 by_cases e1 : d = b
 ·by_cases e2 : off + i = o
  ·exact absurd (by rw [e1, e2, hv] at hc2; simpa using hc2) (hn c)
  ·subst e1; go_simp
 ·exact (qae (Below.heap_setCell _ _ _ _ (by show d ≠ b; omega))).trans hc2
theorem Held.of_heap {W W' : World} {b o : Nat} (h : W'.heap[b]? = W.heap[b]?) : Held W b o → Held W' b o := fun ⟨⟨v, hn, h1⟩, h2⟩ => ⟨⟨v, hn, (qae h).trans h1⟩, (qai h).trans h2⟩
theorem cell_set_same {W : World} {b o : Nat} {v u : Value} (h : W.cell? ⟨b, o, none⟩ = some v) : (W.setCell ⟨b, o, none⟩ u).cell? ⟨b, o, none⟩ = some u := by go_simp
theorem set_two0 {W : World} {b : Nat} {v u u2 : Value} (h : W.cell? ⟨b, 0, none⟩ = some v) : ((W.setCell ⟨b, 0, none⟩ u).setCell ⟨b, 1, none⟩ u2).cell? ⟨b, 0, none⟩ = some u := by go_simp
theorem set_two1 {W : World} {b : Nat} {v u u2 : Value} (h : W.cell? ⟨b, 1, none⟩ = some v) : ((W.setCell ⟨b, 0, none⟩ u).setCell ⟨b, 1, none⟩ u2).cell? ⟨b, 1, none⟩ = some u2 := by go_simp
theorem Held.setCell {W : World} {b o c p : Nat} {u : Value} (h : Held W b o) (hu : NotByte u) : Held (W.setCell ⟨c, p, none⟩ u) b o := by
 obtain ⟨⟨v, hn, h1⟩, h2⟩ := h
 by_cases e : c = b
 ·subst e
  by_cases e2 : p = o
  ·subst e2
   exact ⟨⟨_, hu, cell_set_same h1⟩, by go_simp⟩
  ·exact ⟨⟨v, hn, by go_simp⟩, by go_simp⟩
 ·exact ⟨⟨v, hn, by go_simp⟩, by go_simp⟩
structure LpC (A r lo : Nat) (wE W : World) : Prop where
 ex : Ex r A wE W
 kp : Keeps lo wE W
 h0 : Held W A 0
 h1 : Held W (A + 1) 0
 h2 : Held W (A + 1) 1
 low : A + 1 < r ∧ r < lo ∧ lo ≤ wE.heap.size
theorem LpC.next_ex {A r lo : Nat} {wE W W' : World} (h : LpC A r lo wE W) (g : Ex r W.heap.size W W') : LpC A r lo wE W' := by
 have h1 := h.low
 have h2 := h.kp.size
 have b0 := g.block A (by omega) (by omega)
 have b1 := g.block (A + 1) (by omega) (by omega)
 exact ⟨h.ex.trans (g.mono (by omega)), h.kp.trans (Keeps.of_ex g h1.2.1 (Nat.le_refl _)), h.h0.of_heap b0, h.h1.of_heap b1, h.h2.of_heap b1, h1⟩
theorem LpC.next {A r lo : Nat} {wE W W' : World} (h : LpC A r lo wE W) (g : Below W.heap.size W W') : LpC A r lo wE W' := h.next_ex ⟨g.os, g.tape, g.output, g.size, fun j _ hl => g.block j hl⟩
theorem LpC.set {A r lo : Nat} {wE W : World} (h : LpC A r lo wE W) {b o : Nat} {u : Value} (hu : NotByte u) (hb : b = A ∨ b = A + 1) : LpC A r lo wE (W.setCell ⟨b, o, none⟩ u) := by
 have h1 := h.low
 exact ⟨h.ex.setCell (by show A ≤ b; omega) u, h.kp.setCell (by show b < lo; omega) u, h.h0.setCell hu, h.h1.setCell hu, h.h2.setCell hu, h1⟩
theorem LpC.set0 {A r lo : Nat} {wE W : World} (h : LpC A r lo wE W) {u : Value} (hu : NotByte u) : LpC A r lo wE (W.setCell ⟨A, 0, none⟩ u) := h.set hu (Or.inl rfl)
theorem LpC.set1 {A r lo : Nat} {wE W : World} (h : LpC A r lo wE W) {u : Value} (hu : NotByte u) : LpC A r lo wE (W.setCell ⟨A + 1, 0, none⟩ u) := h.set hu (Or.inr rfl)
theorem LpC.set2 {A r lo : Nat} {wE W : World} (h : LpC A r lo wE W) {u : Value} (hu : NotByte u) : LpC A r lo wE (W.setCell ⟨A + 1, 1, none⟩ u) := h.set hu (Or.inr rfl)
structure LpG (A T r B q j : Nat) (w w' : World) : Prop where
 blk : ∀ {c : Nat} {o : Obj}, B ≤ c → w.heap[c]? = some o → w'.heap[c]? = some o
 hA : j ≠ 9 → ∀ o v, w.cell? ⟨A, o, none⟩ = some v → w'.cell? ⟨A, o, none⟩ = some v
 hT : j ≠ 10 → ∀ o v, w.cell? ⟨T, o, none⟩ = some v → w'.cell? ⟨T, o, none⟩ = some v
 rd : j ≠ 3 → j ≠ 6 → ∀ x, Rd w r x → Rd w' r x
 ref : j = 3 → ∃ y, q < y ∧ y ≤ q + 4 ∧ Rd w' r y
 pick : j = 6 → ∃ x, q < x ∧ x ≤ q + 4 ∧ Rd w r x ∧ Rd w' r (x + 1)
def lpG (A T r B q j : Nat) (w w' : World) : Prop := Below w.heap.size w w' ∨ LpG A T r B q j w w'
theorem lpG_blk {A T r B q j : Nat} {w w' : World} (h : lpG A T r B q j w w') {c : Nat} {o : Obj} (hc : B ≤ c) (ho : w.heap[c]? = some o) : w'.heap[c]? = some o := by
 rcases h with g | g
 ·exact (g.block c (Array.getElem?_eq_some_iff.1 ho).1).trans ho
 ·exact g.blk hc ho
theorem lpG_A {A T r B q j : Nat} {w w' : World} (hj : j ≠ 9) (h : lpG A T r B q j w w') {o : Nat} {v : Value} (hv : w.cell? ⟨A, o, none⟩ = some v) : w'.cell? ⟨A, o, none⟩ = some v := by
 rcases h with g | g
 ·exact qaa g hv
 ·exact g.hA hj _ _ hv
theorem lpG_T {A T r B q j : Nat} {w w' : World} (hj : j ≠ 10) (h : lpG A T r B q j w w') {o : Nat} {v : Value} (hv : w.cell? ⟨T, o, none⟩ = some v) : w'.cell? ⟨T, o, none⟩ = some v := by
 rcases h with g | g
 ·exact qaa g hv
 ·exact g.hT hj _ _ hv
def lpI (r q i : Nat) (w : World) : Prop := (i = 3 → Rd w r q) ∧ (i = 6 → ∃ x, x ≤ q + 4 ∧ Rd w r x)
theorem lpR_stays {A T r B q j : Nat} {w w' : World} (hj : j ≠ 3) (hg : lpG A T r B q j w w') (h : pkR r (q + 1) (q + 5) w) : pkR r (q + 1) (q + 5) w' := by
 rcases hg with g | hg
 ·exact pkR_below h g
 obtain ⟨x, h1, h2, h3⟩ := h
 by_cases e : j = 6
 ·obtain ⟨y, k1, k2, k3, k4⟩ := hg.pick e
  exact ⟨y + 1, by omega, by omega, k4⟩
 ·exact ⟨x, h1, h2, hg.rd hj e x h3⟩
theorem lpI_stays {A T r B q : Nat} : ∀ i j w w', i ≠ j → lpG A T r B q j w w' → lpI r q i w → lpI r q i w' := by
 intro i j w w' hne hg h
 rcases hg with g | hg
 ·refine ⟨fun e => qat g (h.1 e) (h.1 e).lt, fun e => ?_⟩
  obtain ⟨x, h1, h2⟩ := h.2 e
  exact ⟨x, h1, qat g h2 h2.lt⟩
 refine ⟨fun e => ?_, fun e => ?_⟩
 ·by_cases e6 : j = 6
  ·obtain ⟨y, k1, k2, k3, k4⟩ := hg.pick e6
   have := Rd.uniq (h.1 e) k3
   omega
  ·exact hg.rd (by omega) e6 q (h.1 e)
 ·obtain ⟨x, h1, h2⟩ := h.2 e
  by_cases e3 : j = 3
  ·obtain ⟨y, k1, k2, k3⟩ := hg.ref e3
   exact ⟨y, k2, k3⟩
  ·exact ⟨x, h1, hg.rd e3 (by omega) x h2⟩
theorem lp_now {r q : Nat} {w : World} (h : ∃ x, x ≤ q + 4 ∧ Rd w r x) (h2 : pkR r (q + 1) (q + 5) w) : ∃ x, q < x ∧ x ≤ q + 4 ∧ Rd w r x := by
 obtain ⟨x, h1, h3⟩ := h
 obtain ⟨y, k1, k2, k3⟩ := h2
 have := Rd.uniq h3 k3
 exact ⟨x, by omega, h1, h3⟩
theorem LpC.lpG {A r lo B q j : Nat} {wE W w' : World} (h : LpC A r lo wE W) (hB : r < B) (g : Ex r W.heap.size W w') (hr : j ≠ 3 → j ≠ 6 → ∀ x, Rd W r x → Rd w' r x) (h3 : j = 3 → ∃ y, q < y ∧ y ≤ q + 4 ∧ Rd w' r y) (h6 : j = 6 → ∃ x, q < x ∧ x ≤ q + 4 ∧ Rd W r x ∧ Rd w' r (x + 1)) : LpG A (A + 1) r B q j W w' := by
 have l := h.low
 have s := h.kp.size
 exact ⟨fun hc ho => (g.block _ (by omega) (Array.getElem?_eq_some_iff.1 ho).1).trans ho, fun _ o v hv => (qae (g.block A (by omega) (by omega))).trans hv, fun _ o v hv => (qae (g.block (A + 1) (by omega) (by omega))).trans hv, hr, h3, h6⟩
theorem nbyS {a : Option Addr} {n c : Nat} : NotByte (.slice a n c) := fun _ => by simp
theorem nbyI {k : Int} : NotByte (.int .i64 k) := fun _ => by simp
theorem nbyT {s : ByteArray} : NotByte (.string s) := fun _ => by simp
def lpF (A T B r q pn pc : Nat) (pa : Option Addr) : Nat → Value → World → Prop
 | 0, v, w => v = .agg #[.slice pa pn pc]
 | 1, v, w => v = .pointer (some ⟨r, 0, none⟩)
 | 2, v, w => v = .agg #[.slice pa pn pc]
 | 3, v, w => (∃ (k : Int) (n : ByteArray), v = .agg #[.int .i64 k, .string n] ∧ n.size ≤ maxLen ∧ -1 ≤ k ∧ k ≤ 9) ∧ pkR r (q + 1) (q + 5) w
 | 4, v, w => ∃ c : Nat, v = .slice (some ⟨c, 0, none⟩) 5 5 ∧ B ≤ c ∧ w.heap[c]? = some (.cells #[.string ⟨#[103, 101, 116]⟩, .string ⟨#[98, 117, 109, 112]⟩, .string ⟨#[108, 105, 110, 107]⟩, .string ⟨#[114, 117, 110]⟩, .string ⟨#[65]⟩] 9 (0, 0))
 | 5, v, w => v = .pointer (some ⟨r, 0, none⟩)
 | 6, v, w => ∃ x : Nat, x < 5 ∧ v = .int .i64 (x : Int)
 | 7, v, w => ∃ (c x : Nat), x < 5 ∧ v = .pointer (some ⟨c, x, none⟩) ∧ B ≤ c ∧ w.heap[c]? = some (.cells #[.string ⟨#[103, 101, 116]⟩, .string ⟨#[98, 117, 109, 112]⟩, .string ⟨#[108, 105, 110, 107]⟩, .string ⟨#[114, 117, 110]⟩, .string ⟨#[65]⟩] 9 (0, 0))
 | 8, v, w => ∃ s : ByteArray, s.size ≤ 4 ∧ v = .string s
 | 9, v, w => w.cell? ⟨A, 0, none⟩ = some (.slice pa pn pc)
 | 10, v, w => ∃ (k : Int) (n : ByteArray), w.cell? ⟨T, 0, none⟩ = some (.int .i64 k) ∧ w.cell? ⟨T, 1, none⟩ = some (.string n) ∧ n.size ≤ maxLen ∧ -1 ≤ k ∧ k ≤ 9
 | 11, v, w => ∃ s : ByteArray, s.size ≤ 4 ∧ v = .string s
 | _, _, _ => True
theorem lpF_stays {A T B r q pn pc : Nat} {pa : Option Addr} : ∀ i j u w w', i ≠ j → lpG A T r B q j w w' → lpF A T B r q pn pc pa i u w → lpF A T B r q pn pc pa i u w' := by
 intro i j u w w' hne hg h
 match i with
 | 0 | 1 | 2 | 5 | 6 | 8 | 11 => exact h
 | 3 =>
   exact ⟨h.1, lpR_stays hne.symm hg h.2⟩
 | 4 =>
   obtain ⟨c, h1, hc, hh⟩ := h
   exact ⟨c, h1, hc, lpG_blk hg hc hh⟩
 | 7 =>
   obtain ⟨c, x, hx, h1, hc, hh⟩ := h
   exact ⟨c, x, hx, h1, hc, lpG_blk hg hc hh⟩
 | 9 =>
   exact lpG_A hne.symm hg h
 | 10 =>
   obtain ⟨k, n, h1, h2, h3⟩ := h
   exact ⟨k, n, lpG_T hne.symm hg h1, lpG_T hne.symm hg h2, h3⟩
 | n + 12 => trivial

theorem LpC.gset {A r lo B q j b o : Nat} {wE W : World} {u : Value} (h : LpC A r lo wE W) (hB : r < B) (hh : Held W b o) (hb : (b = A ∧ j = 9) ∨ (b = A + 1 ∧ j = 10)) : LpG A (A + 1) r B q j W (W.setCell ⟨b, o, none⟩ u) := by
 have l := h.low
 refine ⟨fun {c _} hc ho => (Below.heap_setCell _ _ _ _ (by show c ≠ b; omega)).trans ho, fun e o v hv => (qae (Below.heap_setCell _ _ _ _ (by show A ≠ b; omega))).trans hv, fun e o v hv => (qae (Below.heap_setCell _ _ _ _ (by show A + 1 ≠ b; omega))).trans hv, fun _ _ x hx => hx.set_held hh (by omega), fun e => by omega, fun e => by omega⟩
theorem LpG.trans {A T r B q j : Nat} {w w1 w2 : World} (hj : j ≠ 3 ∧ j ≠ 6) (h : LpG A T r B q j w w1) (k : LpG A T r B q j w1 w2) : LpG A T r B q j w w2 :=
 ⟨fun hc ho => k.blk hc (h.blk hc ho), fun e o v hv => k.hA e o v (h.hA e o v hv), fun e o v hv => k.hT e o v (h.hT e o v hv), fun e f x hx => k.rd e f x (h.rd e f x hx), fun e => absurd e hj.1, fun e => absurd e hj.2⟩

theorem S_DrawLnkPick (v : Value) (w : World) (hv : Bytes w v) :
  Calls Tryz.prog 24 #[v] w fun e w' => (∃ (pv : Value) (pl : DLodPlan) (k : Int) (nm s : ByteArray), e = .returned (.tuple #[.agg #[pv], .agg #[.int .i64 k, .string nm], .string s]) ∧ Sl 2 rLodKeeper 0 w' pv pl.fKeepers ∧ nm.size ≤ maxLen ∧ (-1 ≤ k ∧ k ≤ 9) ∧ s.size ≤ 4) ∧ Below w.heap.size w w' := by
 have hv' := hv
 refine qac fun R HR => ?_
 go_enter Tryz.func24, Tryz.ntmps24
 go_wp2_with fail
 refine (S_l20Open _ _ (by first | exact hv' | exact hv'.alloc _ | exact (hv'.alloc _).alloc _ | exact ((hv'.alloc _).alloc _).alloc _)).mono ?_
 rintro e w1 ⟨rfl, h1, h2, h3⟩
 simp only [World.size_alloc] at h1 h2 h3
 have h2s := (h2).size; (try simp only [qsz] at h2s)
 obtain ⟨h2ad, h2ao, h2ag, h2ap, h2ax, h2ay, h2ac1, h2af1, h2az1⟩ := bf2 (n := w.heap.size) h2
 go_wp2_with fail
 refine (S_l20PlanOr _ 0 14 _ (by omega) (by omega) (rdd) (by omega)).mono ?_
 rintro e w2 ⟨pv, pl, q, rfl, hs, hnr, hq, h4, h5⟩
 obtain ⟨pa, pn, pc, rfl⟩ := hs.form
 have HS := qhd hs
 clear hs hnr
 have h5s := (h5).size; (try simp only [qsz] at h5s)
 obtain ⟨h5bc, h5bd, h5bf, h5bg, h5bz, h5bx, h5by⟩ := efacts (n := w.heap.size) (k := 2) h5 (by go_size) (by go_size) (by first | omega | (simp; omega)); replace h5bd := h5bd (by decide); replace h5bg := h5bg (by decide); replace h5bx := h5bx (by decide); have h5bc1 := fun o => h5bc 1 o (by decide); have h5bf1 := fun o => h5bf 1 o (by decide); have h5bz1 := h5bz 1 (by decide); clear h5bc h5bf h5bz
 have hr2 : w.heap.size + 1 + 1 < w2.heap.size := by omega
 have hr1 : w.heap.size + 1 + 1 < w1.heap.size := by omega
 obtain ⟨wE, hwE⟩ : ∃ wE, wE = w2.alloc (.cells #[.slice pa pn pc] 25) := ⟨_, rfl⟩
 have hsE : wE.heap.size = w2.heap.size + 1 := by rw [hwE]; simp
 have c7 : wE.cell? ⟨w2.heap.size, 0, none⟩ = some (.slice pa pn pc) := by rw [hwE]; go_simp
 have e0 : wE.cell? ⟨w.heap.size, 0, none⟩ = some (.slice none 0 0) := by rw [hwE]; go_simp
 have e1 : wE.cell? ⟨w.heap.size + 1, 0, none⟩ = some (.int .i64 0) := by rw [hwE]; go_simp
 have e2 : wE.cell? ⟨w.heap.size + 1, 1, none⟩ = some (.string ⟨#[]⟩) := by rw [hwE]; go_simp
 have f0 : wE.frozen? ⟨w.heap.size, 0, none⟩ = false := by rw [hwE]; go_simp
 have f1 : wE.frozen? ⟨w.heap.size + 1, 0, none⟩ = false := by rw [hwE]; go_simp
 have f2 : wE.frozen? ⟨w.heap.size + 1, 1, none⟩ = false := by rw [hwE]; go_simp
 have EW : Hid (Ex (w.heap.size + 1 + 1) w.heap.size w wE) := qhd (by rw [hwE]; exact eexx)
 have RE : Rd wE (w.heap.size + 1 + 1) q := by rw [hwE]; exact rdd
 have HSE : Hid (Sl 2 rLodKeeper w1.heap.size wE (.slice pa pn pc) pl.fKeepers) := qhd (by rw [hwE]; exact HS.out.stays rLodKeeper_good (Keeps.alloc (Keeps.refl _ _) _))
 obtain ⟨P, hP⟩ : ∃ P, P = w2.heap.size := ⟨_, rfl⟩
 have hPl : w1.heap.size ≤ P := by omega
 have hPw : P < wE.heap.size := by omega
 have LC : LpC w.heap.size (w.heap.size + 1 + 1) w1.heap.size wE wE := ⟨Ex.refl _ _ _, Keeps.refl _ _, ⟨⟨_, nbyS, e0⟩, f0⟩, ⟨⟨_, nbyI, e1⟩, f1⟩, ⟨⟨_, nbyT, e2⟩, f2⟩, by omega⟩
 clear h2ad h2ag h2ax h2ay h2ao h2ap h5bd h5bg h5bx h5by h2ac1 h2af1 h2az1 h5bc1 h5bf1 h5bz1 h2 h5 h4 h1 e0 e1 e2 f0 f1 f2
 go_wp2_with fail
 rw [← hwE]
 clear hwE
 rw [← hP] at c7 ⊢
 clear hP
 have hrB : w.heap.size + 1 + 1 < w1.heap.size := by omega
 refine qau 12 (LpC w.heap.size (w.heap.size + 1 + 1) w1.heap.size wE) (lpG w.heap.size (w.heap.size + 1) (w.heap.size + 1 + 1) w1.heap.size q) (fun _ => lpF w.heap.size (w.heap.size + 1) w1.heap.size (w.heap.size + 1 + 1) q pn pc pa) (lpI (w.heap.size + 1 + 1) q) noDead (by kernel_rfl) (by decide) (by kernel_rfl) (Or.inl rfl) (by kernel_rfl) (LC.next ((Below.refl _ _).drew)) (fun _ _ _ _ _ _ _ _ _ h => h) noDead_dead (fun i => ⟨fun _ => RE.drew, fun _ => ⟨q, by omega, RE.drew⟩⟩) (fun i j w1 w2 hne _ hg h => lpI_stays i j w1 w2 hne hg h) (fun _ i j u w1 w2 hne _ _ hg hF => lpF_stays i j u w1 w2 hne hg hF) (fun _ _ _ => Or.inl (Below.refl _ _)) ?_
 refine qab (d := 11) rfl rfl (fun wx hC hI hd S0 hS => ?_) (fun v0 => ?_)
 ·have c0' := (qae (hC.kp.block P hPl hPw)).trans c7
  have HSS := qhd hS; clear hS hd hI
  go_simp
  exact HSS.out _ _ hC (Or.inl (Below.refl _ _)) (by simp [lpF])
 simp only [qnr]
 refine qab (d := 12) rfl rfl (fun wx hC hI hd S0 hS => ?_) (fun v1 => ?_)
 ·have HSS := qhd hS; clear hS hd hI
  go_simp
  exact HSS.out _ _ hC (Or.inl (Below.refl _ _)) (by simp [lpF])
 simp only [qnr]
 refine qab (d := 13) rfl rfl (fun wx hC hI hd S0 hS => ?_) (fun v2 => ?_)
 ·have c0' := (qae (hC.kp.block P hPl hPw)).trans c7
  have HSS := qhd hS; clear hS hd hI
  go_simp
  exact HSS.out _ _ hC (Or.inl (Below.refl _ _)) (by simp [lpF])
 simp only [qnr]
 refine qab (d := 14) rfl rfl (fun wx hC hI hd S0 hS => ?_) (fun v3 => ?_)
 ·have d1 := hd ⟨1, .data⟩ (by simp) rfl v1 (by simp)
  simp only [lpF] at d1
  subst d1
  have d2 := hd ⟨2, .data⟩ (by simp) rfl v2 (by simp)
  simp only [lpF] at d2
  subst d2
  have hRd : Rd wx (w.heap.size + 1 + 1) q := hI.1 rfl
  have HSS := qhd hS; clear hS hd hI
  go_simp
  refine (S_l20Ref (w.heap.size + 1 + 1) q pl _ wx ((HSE.out.stays rLodKeeper_good hC.kp).low rLodKeeper_good (Nat.zero_le _)) hRd (by omega)).mono ?_
  rintro _ w' ⟨k, n, q', rfl, hn, hk, ⟨hq1, hq2⟩, hRq, hX⟩
  refine HSS.out _ _ (hC.next_ex hX) (Or.inr (hC.lpG hrB hX (fun e => absurd rfl e) (fun _ => ⟨_, hq2, hq1, hRq⟩) (fun e => by cases e))) ?_
  (simp only [qls, Nat.reduceAdd, lpF])
  exact ⟨⟨k, n, rfl, hn, hk.1, hk.2⟩, q', by omega, by omega, hRq⟩
 simp only [qnr]
 refine qab (d := 15) rfl rfl (fun wx hC hI hd S0 hS => ?_) (fun v4 => ?_)
 ·have hzx := hC.kp.size
  have HSS := qhd hS; clear hS hd hI
  go_simp
  refine HSS.out _ _ (hC.next ((Below.refl _ _).alloc (Nat.le_refl _) _)) (Or.inl ((Below.refl _ _).alloc (Nat.le_refl _) _)) ?_
  (simp only [qls, Nat.reduceAdd, lpF])
  exact ⟨_, rfl, by omega, heap_alloc_new wx _⟩
 simp only [qnr]
 refine qab (d := 16) rfl rfl (fun wx hC hI hd S0 hS => ?_) (fun v5 => ?_)
 ·have HSS := qhd hS; clear hS hd hI
  go_simp
  exact HSS.out _ _ hC (Or.inl (Below.refl _ _)) (by simp [lpF])
 simp only [qnr]
 refine qab (d := 17) rfl rfl (fun wx hC hI hd S0 hS => ?_) (fun v6 => ?_)
 ·have d5 := hd ⟨5, .data⟩ (by simp) rfl v5 (by simp)
  simp only [lpF] at d5
  subst d5
  have d3 := hd ⟨3, .chain⟩ (by simp) rfl v3 (by simp)
  simp only [lpF] at d3
  obtain ⟨⟨k3, n3, d3, hn3, hk3⟩, hR3⟩ := d3
  obtain ⟨_, hR3⟩ := d3
  obtain ⟨x0, hx1, hx2, hRd⟩ := lp_now (hI.2 rfl) hR3
  have HSS := qhd hS; clear hS hd hI
  go_simp
  refine (S_pick (w.heap.size + 1 + 1) x0 5 _ (by omega) hRd (by omega)).mono ?_
  rintro _ w' ⟨⟨x, hx, rfl⟩, hRq, hX⟩
  obtain ⟨xn, hxn, rfl⟩ := pick_nat (n := 5) (by omega) hx
  refine HSS.out _ _ (hC.next_ex hX) (Or.inr (hC.lpG hrB hX (fun _ e => absurd rfl e) (fun e => by cases e) (fun _ => ⟨_, hx1, hx2, hRd, hRq⟩))) ?_
  (simp only [qls, Nat.reduceAdd, lpF])
  exact ⟨xn, hxn, rfl⟩
 simp only [qnr]
 refine qab (d := 18) rfl rfl (fun wx hC hI hd S0 hS => ?_) (fun v7 => ?_)
 ·have d4 := hd ⟨4, .data⟩ (by simp) rfl v4 (by simp)
  simp only [lpF] at d4
  obtain ⟨c4, d4, hc4, hh4⟩ := d4
  have d6 := hd ⟨6, .data⟩ (by simp) rfl v6 (by simp)
  simp only [lpF] at d6
  obtain ⟨x, hx, d6⟩ := d6
  subst d4
  subst d6
  have hxi : (x : Int) < 5 := by omega
  have HSS := qhd hS; clear hS hd hI
  go_simp
  refine HSS.out _ _ (hC) (Or.inl (Below.refl _ _)) ?_
  (simp only [qls, Nat.reduceAdd, lpF])
  exact ⟨c4, x, hx, rfl, hc4, hh4⟩
 simp only [qnr]
 refine qab (d := 19) rfl rfl (fun wx hC hI hd S0 hS => ?_) (fun v8 => ?_)
 ·have d7 := hd ⟨7, .data⟩ (by simp) rfl v7 (by simp)
  simp only [lpF] at d7
  obtain ⟨c7, x, hx, d7, hc7, hh7⟩ := d7
  subst d7
  obtain ⟨lv, ⟨k, k1, rfl⟩, hcell⟩ := lits_at (cs := [.string ⟨#[103, 101, 116]⟩, .string ⟨#[98, 117, 109, 112]⟩, .string ⟨#[108, 105, 110, 107]⟩, .string ⟨#[114, 117, 110]⟩, .string ⟨#[65]⟩]) hh7 (P := StrIn 4) (by intro v hv; simp at hv; rcases hv with rfl | rfl | rfl | rfl | rfl <;> exact ⟨_, by decide, rfl⟩) hx
  have HSS := qhd hS; clear hS hd hI
  go_simp
  refine HSS.out _ _ (hC) (Or.inl (Below.refl _ _)) ?_
  (simp only [qls, Nat.reduceAdd, lpF])
  exact ⟨k, k1, rfl⟩
 simp only [qnr]
 refine wpRelyE_cons0 rfl rfl (fun wx hC hI hd S0 hS => ?_) (fun v9 => ?_)
 ·have d0 := hd ⟨0, .data⟩ (by simp) rfl v0 (by simp)
  simp only [lpF] at d0
  subst d0
  obtain ⟨⟨y0, _, hy0⟩, hf0⟩ := hC.h0
  have HSS := qhd hS; clear hS hd hI
  go_simp
  refine HSS.out _ _ (hC.set0 nbyS) (Or.inr (hC.gset hrB hC.h0 (Or.inl ⟨rfl, rfl⟩))) ?_
  (simp only [qls, Nat.reduceAdd, lpF])
  exact cell_set_same hy0
 simp only [qnr]
 refine wpRelyE_cons0 rfl rfl (fun wx hC hI hd S0 hS => ?_) (fun v10 => ?_)
 ·have d3 := hd ⟨3, .data⟩ (by simp) rfl v3 (by simp)
  simp only [lpF] at d3
  obtain ⟨⟨k3, n3, d3, hn3, hk3⟩, hR3⟩ := d3
  obtain ⟨⟨y1, _, hy1⟩, hf1⟩ := hC.h1
  obtain ⟨⟨y2, _, hy2⟩, hf2⟩ := hC.h2
  subst d3
  have HSS := qhd hS; clear hS hd hI
  go_simp
  refine HSS.out _ _ ((hC.set1 nbyI).set2 nbyT) (Or.inr ((hC.gset hrB hC.h1 (Or.inr ⟨rfl, rfl⟩)).trans (by simp) ((hC.set1 nbyI).gset hrB (hC.set1 nbyI).h2 (Or.inr ⟨rfl, rfl⟩)))) ?_
  (simp only [qls, Nat.reduceAdd, lpF])
  exact ⟨k3, n3, set_two0 hy1, set_two1 hy2, hn3, hk3⟩
 simp only [qnr]
 refine qab (d := 4) rfl rfl (fun wx hC hI hd S0 hS => ?_) (fun v11 => ?_)
 ·have d8 := hd ⟨8, .data⟩ (by simp) rfl v8 (by simp)
  simp only [lpF] at d8
  obtain ⟨s8, hs8, d8⟩ := d8
  subst d8
  have HSS := qhd hS; clear hS hd hI
  go_simp
  refine HSS.out _ _ (hC) (Or.inl (Below.refl _ _)) ?_
  (simp only [qls, Nat.reduceAdd, lpF])
  exact ⟨s8, hs8, rfl⟩
 simp only [qnr]
 intro wF hC hF
 have f9 := hF 9 v9 (by simp) (fun _ _ => rfl)
 have f10 := hF 10 v10 (by simp) (fun _ _ => rfl)
 have f11 := hF 11 v11 (by simp) (fun _ _ => rfl)
 simp only [lpF] at f9 f10 f11
 obtain ⟨k, n, f10, f10', hn, hk1, hk2⟩ := f10
 obtain ⟨s, hs, rfl⟩ := f11
 have hlo := hC.low
 have hsz := hC.kp.size
 have hl0 : w.heap.size < wF.heap.size := by omega
 have hl1 : w.heap.size + 1 < wF.heap.size := by omega
 have HSL : Hid (Sl 2 rLodKeeper w1.heap.size wF (.slice pa pn pc) pl.fKeepers) := qhd (HSE.out.stays rLodKeeper_good hC.kp)
 have EWL := EW.out.trans hC.ex
 clear hC hF
 simp only [List.drop_succ_cons, List.drop_zero]
 go_wp2
 refine bodyPost_ret (v := ?_) ?hrun rfl ?_
 case hrun => (simp only [results, Tryz.results24]; go_simp; first | done | exact rfl)
 exact HR.out _ _ ⟨⟨_, pl, k, n, s, rfl, (HSL.out.stays rLodKeeper_good (by (repeat' (first | (with_reducible exact Keeps.refl _ _) | (with_reducible refine Keeps.alloc ?_ _) | (with_reducible refine Keeps.setCell ?_ ?_ _) | (with_reducible refine Keeps.drew ?_) | (refine keeps_hyp (by assumption) ?_ ?_) | go_size)))).low rLodKeeper_good (Nat.zero_le _), hn, ⟨hk1, hk2⟩, hs⟩, eexx⟩

end Go.Proofs.YtmbfpbgkchncgaaGreat
