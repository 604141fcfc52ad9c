

/-
  The walk of the drawing of an instruction: four fields, the texts short. Condition: the reader has been moved fewer than 900,000 times.
-/
import Derived.Test.YtmbfpbgkchncgaaDoorDrawN
import Derived.Deep.CutRange
import Derived.Deep.CutBlock
namespace Go.Proofs.YtmbfpbgkchncgaaDoor
set_option linter.unusedSimpArgs false
set_option linter.unusedVariables false
open Go.RowKit

/-- the instruction in block B -/
structure InsAt (w : World) (B : Nat) (op a : Int) (n m : ByteArray) : Prop where
  lt : B < w.heap.size
  c0 : w.cell? ⟨B, 0, none⟩ = some (.int .i64 op)
  c1 : w.cell? ⟨B, 1, none⟩ = some (.int .i64 a)
  c2 : w.cell? ⟨B, 2, none⟩ = some (.string n)
  c3 : w.cell? ⟨B, 3, none⟩ = some (.string m)
  f0 : w.frozen? ⟨B, 0, none⟩ = false
  f1 : w.frozen? ⟨B, 1, none⟩ = false
  f2 : w.frozen? ⟨B, 2, none⟩ = false
  f3 : w.frozen? ⟨B, 3, none⟩ = false

theorem four {x : Int} (h : InPick 4 x) : x = 0 ∨ x = 1 ∨ x = 2 ∨ x = 3 := by
  obtain ⟨h1, h2, h3⟩ := h; omega

theorem six {x : Int} (h : InPick 6 x) : x = 0 ∨ x = 1 ∨ x = 2 ∨ x = 3 ∨ x = 4 ∨ x = 5 := by
  obtain ⟨h1, h2, h3⟩ := h; omega


theorem InsAt.ex {w w' : World} {B r B1 : Nat} {op a : Int} {n m : ByteArray} (h : InsAt w B op a n m) (he : Ex r B1 w w') (h1 : B < B1) (h2 : B ≠ r) : InsAt w' B op a n m := by
  have hk := he.block B h2 h1
  have hz := he.size
  have hl := h.lt
  exact ⟨by omega, (cell_of_heap hk).trans h.c0, (cell_of_heap hk).trans h.c1, (cell_of_heap hk).trans h.c2, (cell_of_heap hk).trans h.c3, (frozen_of_heap hk).trans h.f0, (frozen_of_heap hk).trans h.f1, (frozen_of_heap hk).trans h.f2, (frozen_of_heap hk).trans h.f3⟩
theorem InsAt.alloc {w : World} {B : Nat} {op a : Int} {n m : ByteArray} (h : InsAt w B op a n m) (o : Obj) : InsAt (w.alloc o) B op a n m :=
  h.ex (r := B + 1) (B1 := B + 1) ⟨rfl, rfl, rfl, by simp, fun k _ hk => Below.heap_alloc _ _ _ (by have := h.lt; omega)⟩ (by omega) (by omega)

theorem InsAt.set {w : World} {B : Nat} {op a : Int} {n m : ByteArray} (h : InsAt w B op a n m) {p : Addr} (hp : B ≠ p.block) (v : Value) : InsAt (w.setCell p v) B op a n m :=
  h.ex (r := p.block) (B1 := B + 1) ⟨rfl, rfl, rfl, by simp [World.setCell], fun k hk _ => Below.heap_setCell _ _ _ _ hk⟩ (by omega) hp
theorem InsAt.drew {w : World} {B : Nat} {op a : Int} {n m : ByteArray} (h : InsAt w B op a n m) : InsAt w.drew B op a n m := ⟨h.lt, h.c0, h.c1, h.c2, h.c3, h.f0, h.f1, h.f2, h.f3⟩
theorem InsAt.drewN {w : World} {B : Nat} {op a : Int} {n m : ByteArray} (h : InsAt w B op a n m) (q : Nat) : InsAt (w.drewN q) B op a n m := ⟨h.lt, h.c0, h.c1, h.c2, h.c3, h.f0, h.f1, h.f2, h.f3⟩
theorem InsAt.set0 {w : World} {B : Nat} {op a op' a' : Int} {n m n' m' : ByteArray} (h : InsAt w B op a n m) : InsAt (w.setCell ⟨B, 0, none⟩ (.int .i64 op')) B op' a n m := by
  obtain ⟨l, c0, c1, c2, c3, f0, f1, f2, f3⟩ := h
  constructor
  · simpa [World.setCell] using l
  all_goals (go_simp <;> rfl)
theorem InsAt.set1 {w : World} {B : Nat} {op a op' a' : Int} {n m n' m' : ByteArray} (h : InsAt w B op a n m) : InsAt (w.setCell ⟨B, 1, none⟩ (.int .i64 a')) B op a' n m := by
  obtain ⟨l, c0, c1, c2, c3, f0, f1, f2, f3⟩ := h
  constructor
  · simpa [World.setCell] using l
  all_goals (go_simp <;> rfl)
theorem InsAt.set2 {w : World} {B : Nat} {op a op' a' : Int} {n m n' m' : ByteArray} (h : InsAt w B op a n m) : InsAt (w.setCell ⟨B, 2, none⟩ (.string n')) B op a n' m := by
  obtain ⟨l, c0, c1, c2, c3, f0, f1, f2, f3⟩ := h
  constructor
  · simpa [World.setCell] using l
  all_goals (go_simp <;> rfl)
theorem InsAt.set3 {w : World} {B : Nat} {op a op' a' : Int} {n m n' m' : ByteArray} (h : InsAt w B op a n m) : InsAt (w.setCell ⟨B, 3, none⟩ (.string m')) B op a n m' := by
  obtain ⟨l, c0, c1, c2, c3, f0, f1, f2, f3⟩ := h
  constructor
  · simpa [World.setCell] using l
  all_goals (go_simp <;> rfl)
theorem InsAt.len {w : World} {B : Nat} {op a : Int} {n m : ByteArray} (h : InsAt w B op a n m) : B < w.heap.size := h.lt


set_option maxHeartbeats 4000000 in
theorem S_l20Ins (r p : Nat) (n : Int) (w : World) (hn : -9223372036854775808 < n) (hn2 : n ≤ 9223372036854775807) (hr : Rd w r p) (hp : p < 900000) :
    Calls Tryd.prog 15 #[.pointer (some ⟨r, 0, none⟩), .int .i64 n] w fun e w' => (∃ (op a : Int) (n m : ByteArray), n.size ≤ 4 ∧ m.size ≤ 4 ∧ e = .returned (.agg #[.int .i64 op, .int .i64 a, .string n, .string m])) ∧ (∃ q, q ≤ p + 10 ∧ Rd w' r q) ∧ Ex r w.heap.size w w' := by
  have hlt := hr.lt
  refine calls_hide fun R HR => ?_
  go_enter Tryd.func15, Tryd.ntmps15
  go_wp2_with fail
  refine (S_pick r p 15 _ (by omega) (by (repeat' (first | assumption | (with_reducible refine Rd.alloc ?_ _) | (with_reducible refine Rd.setCell ?_ ?_ _) | (with_reducible refine Rd.drew ?_) | (with_reducible refine Rd.drewN ?_ _) | (refine rd_below (by assumption) ?_ ?_) | go_size))) (by omega)).mono ?_
  rintro e w1 ⟨⟨y, hy, rfl⟩, h1, h2⟩
  have h2s := (h2).size; (try simp only [World.size_alloc, World.size_setCell, World.size_drew] at h2s)
  obtain ⟨h2ac, h2ad, h2af, h2ag, h2az, h2ax, h2ay⟩ := efacts (n := w.heap.size) (k := 1) h2 (by go_size) (by go_size) (by first | omega | (simp; omega)); replace h2ad := h2ad (by decide); replace h2ag := h2ag (by decide); replace h2ax := h2ax (by decide); clear h2ac h2af h2az
  obtain ⟨y1, y2, y3⟩ := hy
  have y4 : y < 15 := y2 (by omega)
  clear y2 y3
  go_wp2_with fail
  refine (S_pick r (p + 1) 4 _ (by omega) (by (repeat' (first | assumption | (with_reducible refine Rd.alloc ?_ _) | (with_reducible refine Rd.setCell ?_ ?_ _) | (with_reducible refine Rd.drew ?_) | (with_reducible refine Rd.drewN ?_ _) | (refine rd_below (by assumption) ?_ ?_) | go_size))) (by omega)).mono ?_
  rintro e w2 ⟨⟨z, hz, rfl⟩, h3, h4⟩
  have h4s := (h4).size; (try simp only [World.size_alloc, World.size_setCell, World.size_drew] at h4s)
  obtain ⟨h4bc, h4bd, h4bf, h4bg, h4bz, h4bx, h4by⟩ := efacts (n := w1.heap.size) (k := 2) h4 (by go_size) (by go_size) (by first | omega | (simp; omega)); replace h4bd := h4bd (by decide); replace h4bg := h4bg (by decide); replace h4bx := h4bx (by decide); have h4bc1 := fun o => h4bc 1 o (by decide); have h4bf1 := fun o => h4bf 1 o (by decide); have h4bz1 := h4bz 1 (by decide); clear h4bc h4bf h4bz
  obtain ⟨h4cc, h4cd, h4cf, h4cg, h4cz, h4cx, h4cy⟩ := efacts (n := w.heap.size) (k := 1) h4 (by go_size) (by go_size) (by first | omega | (simp; omega)); replace h4cd := h4cd (by decide); replace h4cg := h4cg (by decide); replace h4cx := h4cx (by decide); clear h4cc h4cf h4cz
  have iA : InsAt w2 w1.heap.size (1 + y) 0 ⟨#[]⟩ ⟨#[]⟩ := by (constructor; (first | omega | go_size); all_goals (first | assumption | (go_simp; done) | (go_simp <;> rfl)))
  have iR : InsAt w2 w.heap.size 0 0 ⟨#[]⟩ ⟨#[]⟩ := by (constructor; (first | omega | go_size); all_goals (first | assumption | (go_simp; done) | (go_simp <;> rfl)))
  have hcell : ∃ s : ByteArray, s.size ≤ 4 ∧ w2.cell? ⟨w1.heap.size + 1, z.toNat, none⟩ = some (.string s) := by
    rcases four hz with rfl | rfl | rfl | rfl
    all_goals
      refine ⟨_, ?_, (by go_simp; rfl)⟩
      decide
  obtain ⟨nm, hnm, hc⟩ := hcell
  obtain ⟨z1, z2, z3⟩ := hz
  have z4 : z < 4 := z2 (by omega)
  clear z2 z3
  have hE : Ex r w.heap.size w w2 := by (repeat' (first | (with_reducible exact Ex.refl _ _ _) | (with_reducible exact Below.refl _ _) | (with_reducible refine Ex.alloc ?_ ?_ _) | (with_reducible refine Ex.setCell ?_ ?_ _) | (with_reducible refine Ex.drew ?_) | (with_reducible refine Ex.drewN ?_ _) | (with_reducible refine Below.alloc ?_ ?_ _) | (with_reducible refine Below.setCell ?_ ?_ _) | (with_reducible refine Below.drew ?_) | (refine ex_hyp (by assumption) ?_ ?_) | (refine ex_below (by assumption) ?_ ?_) | (refine below_ex (by assumption) ?_ ?_ ?_) | (refine below_hyp (by assumption) ?_ ?_) | go_size))
  have hB : w.heap.size < w1.heap.size := by omega
  clear h4bc1 h4bf1 h4bd h4bg h4bx h4by h4cd h4cg h4cx h4cy h2ad h2ag h2ax h2ay h4 h2 h2s h1
  generalize w1.heap.size = B at *
  obtain ⟨i0, i1, i2, i3, i4, j1, j2, j3, j4⟩ := id iA
  go_upto_block 0 with fail
  go_cut [] from 18 to 64 (fun wx => ∃ (a : Int) (n m : ByteArray) (q : Nat), n.size ≤ 4 ∧ m.size ≤ 4 ∧ q ≤ p + 3 ∧ InsAt wx B (1 + y) a n m ∧ InsAt wx w.heap.size 0 0 ⟨#[]⟩ ⟨#[]⟩ ∧ Rd wx r q ∧ Ex r w.heap.size w wx)
  case first =>
    clear hc
    have HP := Lib.hid hp
    go_wp2_with fail
    · (refine (S_pick r (p + 1 + 1) 6 _ (by omega) (by (repeat' (first | assumption | (with_reducible refine Rd.alloc ?_ _) | (with_reducible refine Rd.setCell ?_ ?_ _) | (with_reducible refine Rd.drew ?_) | (with_reducible refine Rd.drewN ?_ _) | (refine rd_below (by assumption) ?_ ?_) | go_size))) (by omega)).mono ?_; rintro e w3 ⟨⟨x, hx, rfl⟩, h5, h6⟩; have h6s := (h6).size; (try simp only [World.size_alloc, World.size_setCell, World.size_drew] at h6s))
      have iB : InsAt w3 B (1 + y) 0 ⟨#[]⟩ ⟨#[]⟩ := by (repeat' (first | assumption | (with_reducible refine InsAt.alloc ?_ _) | (with_reducible apply InsAt.set0) | (with_reducible apply InsAt.set1) | (with_reducible apply InsAt.set2) | (with_reducible apply InsAt.set3) | (with_reducible refine InsAt.set ?_ ?_ _) | (with_reducible refine InsAt.drew ?_) | (with_reducible refine InsAt.drewN ?_ _) | (refine InsAt.ex ?_ (by assumption) ?_ ?_) | go_size))
      obtain ⟨i0', i1', i2', i3', i4', j1', j2', j3', j4'⟩ := id iB
      clear i0 i1 i2 i3 i4 j1 j2 j3 j4
      obtain ⟨h6dc, h6dd, h6df, h6dg, h6dz, h6dx, h6dy⟩ := efacts (n := w2.heap.size) (k := 1) h6 (by go_size) (by go_size) (by first | omega | (simp; omega)); replace h6dd := h6dd (by decide); replace h6dg := h6dg (by decide); replace h6dx := h6dx (by decide); clear h6dc h6df h6dz
      have hcell : ∃ v : Int, w3.cell? ⟨w2.heap.size, x.toNat, none⟩ = some (.int .i64 v) := by
        rcases six hx with rfl | rfl | rfl | rfl | rfl | rfl
        all_goals exact ⟨_, (by rw [h6dd, World.cell?_alloc_at (hn := by first | rfl | simp [World.setCell])]; rfl)⟩
      obtain ⟨v, hcv⟩ := hcell
      have x1 := hx.1
      have x4 := hx.2.1 (by omega)
      clear h6dd h6dg h6dx h6dy
      clear hx hp hn hn2 h4s
      set_option maxRecDepth 100000 in
      go_wp2
      have hp := HP.out
      all_goals (go_meet; case rel => exact ⟨v, ⟨#[]⟩, ⟨#[]⟩, p + 1 + 1 + 1, by first | assumption | decide, by first | assumption | decide, by omega, by (repeat' (first | assumption | (with_reducible refine InsAt.alloc ?_ _) | (with_reducible apply InsAt.set0) | (with_reducible apply InsAt.set1) | (with_reducible apply InsAt.set2) | (with_reducible apply InsAt.set3) | (with_reducible refine InsAt.set ?_ ?_ _) | (with_reducible refine InsAt.drew ?_) | (with_reducible refine InsAt.drewN ?_ _) | (refine InsAt.ex ?_ (by assumption) ?_ ?_) | go_size)), by (repeat' (first | assumption | (with_reducible refine InsAt.alloc ?_ _) | (with_reducible apply InsAt.set0) | (with_reducible apply InsAt.set1) | (with_reducible apply InsAt.set2) | (with_reducible apply InsAt.set3) | (with_reducible refine InsAt.set ?_ ?_ _) | (with_reducible refine InsAt.drew ?_) | (with_reducible refine InsAt.drewN ?_ _) | (refine InsAt.ex ?_ (by assumption) ?_ ?_) | go_size)), by (repeat' (first | assumption | (with_reducible refine Rd.alloc ?_ _) | (with_reducible refine Rd.setCell ?_ ?_ _) | (with_reducible refine Rd.drew ?_) | (with_reducible refine Rd.drewN ?_ _) | (refine rd_below (by assumption) ?_ ?_) | go_size)), by (repeat' (first | (with_reducible exact Ex.refl _ _ _) | (with_reducible exact Below.refl _ _) | (with_reducible refine Ex.alloc ?_ ?_ _) | (with_reducible refine Ex.setCell ?_ ?_ _) | (with_reducible refine Ex.drew ?_) | (with_reducible refine Ex.drewN ?_ _) | (with_reducible refine Below.alloc ?_ ?_ _) | (with_reducible refine Below.setCell ?_ ?_ _) | (with_reducible refine Below.drew ?_) | (refine ex_hyp (by assumption) ?_ ?_) | (refine ex_below (by assumption) ?_ ?_) | (refine below_ex (by assumption) ?_ ?_ ?_) | (refine below_hyp (by assumption) ?_ ?_) | go_size))⟩)
    · (refine (S_pick r (p + 1 + 1) 3 _ (by omega) (by (repeat' (first | assumption | (with_reducible refine Rd.alloc ?_ _) | (with_reducible refine Rd.setCell ?_ ?_ _) | (with_reducible refine Rd.drew ?_) | (with_reducible refine Rd.drewN ?_ _) | (refine rd_below (by assumption) ?_ ?_) | go_size))) (by omega)).mono ?_; rintro e w3 ⟨⟨x, hx, rfl⟩, h5, h6⟩; have h6s := (h6).size; (try simp only [World.size_alloc, World.size_setCell, World.size_drew] at h6s))
      have iB : InsAt w3 B (1 + y) 0 ⟨#[]⟩ ⟨#[]⟩ := by (repeat' (first | assumption | (with_reducible refine InsAt.alloc ?_ _) | (with_reducible apply InsAt.set0) | (with_reducible apply InsAt.set1) | (with_reducible apply InsAt.set2) | (with_reducible apply InsAt.set3) | (with_reducible refine InsAt.set ?_ ?_ _) | (with_reducible refine InsAt.drew ?_) | (with_reducible refine InsAt.drewN ?_ _) | (refine InsAt.ex ?_ (by assumption) ?_ ?_) | go_size))
      obtain ⟨i0', i1', i2', i3', i4', j1', j2', j3', j4'⟩ := id iB
      clear i0 i1 i2 i3 i4 j1 j2 j3 j4
      clear hx hp hn hn2 h4s
      set_option maxRecDepth 100000 in
      go_wp2
      have hp := HP.out
      all_goals (go_meet; case rel => exact ⟨x, ⟨#[]⟩, ⟨#[]⟩, p + 1 + 1 + 1, by first | assumption | decide, by first | assumption | decide, by omega, by (repeat' (first | assumption | (with_reducible refine InsAt.alloc ?_ _) | (with_reducible apply InsAt.set0) | (with_reducible apply InsAt.set1) | (with_reducible apply InsAt.set2) | (with_reducible apply InsAt.set3) | (with_reducible refine InsAt.set ?_ ?_ _) | (with_reducible refine InsAt.drew ?_) | (with_reducible refine InsAt.drewN ?_ _) | (refine InsAt.ex ?_ (by assumption) ?_ ?_) | go_size)), by (repeat' (first | assumption | (with_reducible refine InsAt.alloc ?_ _) | (with_reducible apply InsAt.set0) | (with_reducible apply InsAt.set1) | (with_reducible apply InsAt.set2) | (with_reducible apply InsAt.set3) | (with_reducible refine InsAt.set ?_ ?_ _) | (with_reducible refine InsAt.drew ?_) | (with_reducible refine InsAt.drewN ?_ _) | (refine InsAt.ex ?_ (by assumption) ?_ ?_) | go_size)), by (repeat' (first | assumption | (with_reducible refine Rd.alloc ?_ _) | (with_reducible refine Rd.setCell ?_ ?_ _) | (with_reducible refine Rd.drew ?_) | (with_reducible refine Rd.drewN ?_ _) | (refine rd_below (by assumption) ?_ ?_) | go_size)), by (repeat' (first | (with_reducible exact Ex.refl _ _ _) | (with_reducible exact Below.refl _ _) | (with_reducible refine Ex.alloc ?_ ?_ _) | (with_reducible refine Ex.setCell ?_ ?_ _) | (with_reducible refine Ex.drew ?_) | (with_reducible refine Ex.drewN ?_ _) | (with_reducible refine Below.alloc ?_ ?_ _) | (with_reducible refine Below.setCell ?_ ?_ _) | (with_reducible refine Below.drew ?_) | (refine ex_hyp (by assumption) ?_ ?_) | (refine ex_below (by assumption) ?_ ?_) | (refine below_ex (by assumption) ?_ ?_ ?_) | (refine below_hyp (by assumption) ?_ ?_) | go_size))⟩)
    · (refine (S_pick r (p + 1 + 1) 3 _ (by omega) (by (repeat' (first | assumption | (with_reducible refine Rd.alloc ?_ _) | (with_reducible refine Rd.setCell ?_ ?_ _) | (with_reducible refine Rd.drew ?_) | (with_reducible refine Rd.drewN ?_ _) | (refine rd_below (by assumption) ?_ ?_) | go_size))) (by omega)).mono ?_; rintro e w3 ⟨⟨x, hx, rfl⟩, h5, h6⟩; have h6s := (h6).size; (try simp only [World.size_alloc, World.size_setCell, World.size_drew] at h6s))
      have iB : InsAt w3 B (1 + y) 0 ⟨#[]⟩ ⟨#[]⟩ := by (repeat' (first | assumption | (with_reducible refine InsAt.alloc ?_ _) | (with_reducible apply InsAt.set0) | (with_reducible apply InsAt.set1) | (with_reducible apply InsAt.set2) | (with_reducible apply InsAt.set3) | (with_reducible refine InsAt.set ?_ ?_ _) | (with_reducible refine InsAt.drew ?_) | (with_reducible refine InsAt.drewN ?_ _) | (refine InsAt.ex ?_ (by assumption) ?_ ?_) | go_size))
      obtain ⟨i0', i1', i2', i3', i4', j1', j2', j3', j4'⟩ := id iB
      clear i0 i1 i2 i3 i4 j1 j2 j3 j4
      clear hx hp hn hn2 h4s
      set_option maxRecDepth 100000 in
      go_wp2
      have hp := HP.out
      all_goals (go_meet; case rel => exact ⟨x, ⟨#[]⟩, ⟨#[]⟩, p + 1 + 1 + 1, by first | assumption | decide, by first | assumption | decide, by omega, by (repeat' (first | assumption | (with_reducible refine InsAt.alloc ?_ _) | (with_reducible apply InsAt.set0) | (with_reducible apply InsAt.set1) | (with_reducible apply InsAt.set2) | (with_reducible apply InsAt.set3) | (with_reducible refine InsAt.set ?_ ?_ _) | (with_reducible refine InsAt.drew ?_) | (with_reducible refine InsAt.drewN ?_ _) | (refine InsAt.ex ?_ (by assumption) ?_ ?_) | go_size)), by (repeat' (first | assumption | (with_reducible refine InsAt.alloc ?_ _) | (with_reducible apply InsAt.set0) | (with_reducible apply InsAt.set1) | (with_reducible apply InsAt.set2) | (with_reducible apply InsAt.set3) | (with_reducible refine InsAt.set ?_ ?_ _) | (with_reducible refine InsAt.drew ?_) | (with_reducible refine InsAt.drewN ?_ _) | (refine InsAt.ex ?_ (by assumption) ?_ ?_) | go_size)), by (repeat' (first | assumption | (with_reducible refine Rd.alloc ?_ _) | (with_reducible refine Rd.setCell ?_ ?_ _) | (with_reducible refine Rd.drew ?_) | (with_reducible refine Rd.drewN ?_ _) | (refine rd_below (by assumption) ?_ ?_) | go_size)), by (repeat' (first | (with_reducible exact Ex.refl _ _ _) | (with_reducible exact Below.refl _ _) | (with_reducible refine Ex.alloc ?_ ?_ _) | (with_reducible refine Ex.setCell ?_ ?_ _) | (with_reducible refine Ex.drew ?_) | (with_reducible refine Ex.drewN ?_ _) | (with_reducible refine Below.alloc ?_ ?_ _) | (with_reducible refine Below.setCell ?_ ?_ _) | (with_reducible refine Below.drew ?_) | (refine ex_hyp (by assumption) ?_ ?_) | (refine ex_below (by assumption) ?_ ?_) | (refine below_ex (by assumption) ?_ ?_ ?_) | (refine below_hyp (by assumption) ?_ ?_) | go_size))⟩)
    · (refine (S_pick r (p + 1 + 1) 10 _ (by omega) (by (repeat' (first | assumption | (with_reducible refine Rd.alloc ?_ _) | (with_reducible refine Rd.setCell ?_ ?_ _) | (with_reducible refine Rd.drew ?_) | (with_reducible refine Rd.drewN ?_ _) | (refine rd_below (by assumption) ?_ ?_) | go_size))) (by omega)).mono ?_; rintro e w3 ⟨⟨x, hx, rfl⟩, h5, h6⟩; have h6s := (h6).size; (try simp only [World.size_alloc, World.size_setCell, World.size_drew] at h6s))
      have iB : InsAt w3 B (1 + y) 0 ⟨#[]⟩ ⟨#[]⟩ := by (repeat' (first | assumption | (with_reducible refine InsAt.alloc ?_ _) | (with_reducible apply InsAt.set0) | (with_reducible apply InsAt.set1) | (with_reducible apply InsAt.set2) | (with_reducible apply InsAt.set3) | (with_reducible refine InsAt.set ?_ ?_ _) | (with_reducible refine InsAt.drew ?_) | (with_reducible refine InsAt.drewN ?_ _) | (refine InsAt.ex ?_ (by assumption) ?_ ?_) | go_size))
      obtain ⟨i0', i1', i2', i3', i4', j1', j2', j3', j4'⟩ := id iB
      clear i0 i1 i2 i3 i4 j1 j2 j3 j4
      clear hx hp hn hn2 h4s
      set_option maxRecDepth 100000 in
      go_wp2
      have hp := HP.out
      all_goals (go_meet; case rel => exact ⟨x, ⟨#[]⟩, ⟨#[]⟩, p + 1 + 1 + 1, by first | assumption | decide, by first | assumption | decide, by omega, by (repeat' (first | assumption | (with_reducible refine InsAt.alloc ?_ _) | (with_reducible apply InsAt.set0) | (with_reducible apply InsAt.set1) | (with_reducible apply InsAt.set2) | (with_reducible apply InsAt.set3) | (with_reducible refine InsAt.set ?_ ?_ _) | (with_reducible refine InsAt.drew ?_) | (with_reducible refine InsAt.drewN ?_ _) | (refine InsAt.ex ?_ (by assumption) ?_ ?_) | go_size)), by (repeat' (first | assumption | (with_reducible refine InsAt.alloc ?_ _) | (with_reducible apply InsAt.set0) | (with_reducible apply InsAt.set1) | (with_reducible apply InsAt.set2) | (with_reducible apply InsAt.set3) | (with_reducible refine InsAt.set ?_ ?_ _) | (with_reducible refine InsAt.drew ?_) | (with_reducible refine InsAt.drewN ?_ _) | (refine InsAt.ex ?_ (by assumption) ?_ ?_) | go_size)), by (repeat' (first | assumption | (with_reducible refine Rd.alloc ?_ _) | (with_reducible refine Rd.setCell ?_ ?_ _) | (with_reducible refine Rd.drew ?_) | (with_reducible refine Rd.drewN ?_ _) | (refine rd_below (by assumption) ?_ ?_) | go_size)), by (repeat' (first | (with_reducible exact Ex.refl _ _ _) | (with_reducible exact Below.refl _ _) | (with_reducible refine Ex.alloc ?_ ?_ _) | (with_reducible refine Ex.setCell ?_ ?_ _) | (with_reducible refine Ex.drew ?_) | (with_reducible refine Ex.drewN ?_ _) | (with_reducible refine Below.alloc ?_ ?_ _) | (with_reducible refine Below.setCell ?_ ?_ _) | (with_reducible refine Below.drew ?_) | (refine ex_hyp (by assumption) ?_ ?_) | (refine ex_below (by assumption) ?_ ?_) | (refine below_ex (by assumption) ?_ ?_ ?_) | (refine below_hyp (by assumption) ?_ ?_) | go_size))⟩)
    · (refine (S_pick r (p + 1 + 1) 10 _ (by omega) (by (repeat' (first | assumption | (with_reducible refine Rd.alloc ?_ _) | (with_reducible refine Rd.setCell ?_ ?_ _) | (with_reducible refine Rd.drew ?_) | (with_reducible refine Rd.drewN ?_ _) | (refine rd_below (by assumption) ?_ ?_) | go_size))) (by omega)).mono ?_; rintro e w3 ⟨⟨x, hx, rfl⟩, h5, h6⟩; have h6s := (h6).size; (try simp only [World.size_alloc, World.size_setCell, World.size_drew] at h6s))
      have iB : InsAt w3 B (1 + y) 0 ⟨#[]⟩ ⟨#[]⟩ := by (repeat' (first | assumption | (with_reducible refine InsAt.alloc ?_ _) | (with_reducible apply InsAt.set0) | (with_reducible apply InsAt.set1) | (with_reducible apply InsAt.set2) | (with_reducible apply InsAt.set3) | (with_reducible refine InsAt.set ?_ ?_ _) | (with_reducible refine InsAt.drew ?_) | (with_reducible refine InsAt.drewN ?_ _) | (refine InsAt.ex ?_ (by assumption) ?_ ?_) | go_size))
      obtain ⟨i0', i1', i2', i3', i4', j1', j2', j3', j4'⟩ := id iB
      clear i0 i1 i2 i3 i4 j1 j2 j3 j4
      clear hx hp hn hn2 h4s
      set_option maxRecDepth 100000 in
      go_wp2
      have hp := HP.out
      all_goals (go_meet; case rel => exact ⟨x, ⟨#[]⟩, ⟨#[]⟩, p + 1 + 1 + 1, by first | assumption | decide, by first | assumption | decide, by omega, by (repeat' (first | assumption | (with_reducible refine InsAt.alloc ?_ _) | (with_reducible apply InsAt.set0) | (with_reducible apply InsAt.set1) | (with_reducible apply InsAt.set2) | (with_reducible apply InsAt.set3) | (with_reducible refine InsAt.set ?_ ?_ _) | (with_reducible refine InsAt.drew ?_) | (with_reducible refine InsAt.drewN ?_ _) | (refine InsAt.ex ?_ (by assumption) ?_ ?_) | go_size)), by (repeat' (first | assumption | (with_reducible refine InsAt.alloc ?_ _) | (with_reducible apply InsAt.set0) | (with_reducible apply InsAt.set1) | (with_reducible apply InsAt.set2) | (with_reducible apply InsAt.set3) | (with_reducible refine InsAt.set ?_ ?_ _) | (with_reducible refine InsAt.drew ?_) | (with_reducible refine InsAt.drewN ?_ _) | (refine InsAt.ex ?_ (by assumption) ?_ ?_) | go_size)), by (repeat' (first | assumption | (with_reducible refine Rd.alloc ?_ _) | (with_reducible refine Rd.setCell ?_ ?_ _) | (with_reducible refine Rd.drew ?_) | (with_reducible refine Rd.drewN ?_ _) | (refine rd_below (by assumption) ?_ ?_) | go_size)), by (repeat' (first | (with_reducible exact Ex.refl _ _ _) | (with_reducible exact Below.refl _ _) | (with_reducible refine Ex.alloc ?_ ?_ _) | (with_reducible refine Ex.setCell ?_ ?_ _) | (with_reducible refine Ex.drew ?_) | (with_reducible refine Ex.drewN ?_ _) | (with_reducible refine Below.alloc ?_ ?_ _) | (with_reducible refine Below.setCell ?_ ?_ _) | (with_reducible refine Below.drew ?_) | (refine ex_hyp (by assumption) ?_ ?_) | (refine ex_below (by assumption) ?_ ?_) | (refine below_ex (by assumption) ?_ ?_ ?_) | (refine below_hyp (by assumption) ?_ ?_) | go_size))⟩)
    · (refine (S_pick r (p + 1 + 1) 10 _ (by omega) (by (repeat' (first | assumption | (with_reducible refine Rd.alloc ?_ _) | (with_reducible refine Rd.setCell ?_ ?_ _) | (with_reducible refine Rd.drew ?_) | (with_reducible refine Rd.drewN ?_ _) | (refine rd_below (by assumption) ?_ ?_) | go_size))) (by omega)).mono ?_; rintro e w3 ⟨⟨x, hx, rfl⟩, h5, h6⟩; have h6s := (h6).size; (try simp only [World.size_alloc, World.size_setCell, World.size_drew] at h6s))
      have iB : InsAt w3 B (1 + y) 0 ⟨#[]⟩ ⟨#[]⟩ := by (repeat' (first | assumption | (with_reducible refine InsAt.alloc ?_ _) | (with_reducible apply InsAt.set0) | (with_reducible apply InsAt.set1) | (with_reducible apply InsAt.set2) | (with_reducible apply InsAt.set3) | (with_reducible refine InsAt.set ?_ ?_ _) | (with_reducible refine InsAt.drew ?_) | (with_reducible refine InsAt.drewN ?_ _) | (refine InsAt.ex ?_ (by assumption) ?_ ?_) | go_size))
      obtain ⟨i0', i1', i2', i3', i4', j1', j2', j3', j4'⟩ := id iB
      clear i0 i1 i2 i3 i4 j1 j2 j3 j4
      clear hx hp hn hn2 h4s
      set_option maxRecDepth 100000 in
      go_wp2
      have hp := HP.out
      all_goals (go_meet; case rel => exact ⟨x, ⟨#[]⟩, ⟨#[]⟩, p + 1 + 1 + 1, by first | assumption | decide, by first | assumption | decide, by omega, by (repeat' (first | assumption | (with_reducible refine InsAt.alloc ?_ _) | (with_reducible apply InsAt.set0) | (with_reducible apply InsAt.set1) | (with_reducible apply InsAt.set2) | (with_reducible apply InsAt.set3) | (with_reducible refine InsAt.set ?_ ?_ _) | (with_reducible refine InsAt.drew ?_) | (with_reducible refine InsAt.drewN ?_ _) | (refine InsAt.ex ?_ (by assumption) ?_ ?_) | go_size)), by (repeat' (first | assumption | (with_reducible refine InsAt.alloc ?_ _) | (with_reducible apply InsAt.set0) | (with_reducible apply InsAt.set1) | (with_reducible apply InsAt.set2) | (with_reducible apply InsAt.set3) | (with_reducible refine InsAt.set ?_ ?_ _) | (with_reducible refine InsAt.drew ?_) | (with_reducible refine InsAt.drewN ?_ _) | (refine InsAt.ex ?_ (by assumption) ?_ ?_) | go_size)), by (repeat' (first | assumption | (with_reducible refine Rd.alloc ?_ _) | (with_reducible refine Rd.setCell ?_ ?_ _) | (with_reducible refine Rd.drew ?_) | (with_reducible refine Rd.drewN ?_ _) | (refine rd_below (by assumption) ?_ ?_) | go_size)), by (repeat' (first | (with_reducible exact Ex.refl _ _ _) | (with_reducible exact Below.refl _ _) | (with_reducible refine Ex.alloc ?_ ?_ _) | (with_reducible refine Ex.setCell ?_ ?_ _) | (with_reducible refine Ex.drew ?_) | (with_reducible refine Ex.drewN ?_ _) | (with_reducible refine Below.alloc ?_ ?_ _) | (with_reducible refine Below.setCell ?_ ?_ _) | (with_reducible refine Below.drew ?_) | (refine ex_hyp (by assumption) ?_ ?_) | (refine ex_below (by assumption) ?_ ?_) | (refine below_ex (by assumption) ?_ ?_ ?_) | (refine below_hyp (by assumption) ?_ ?_) | go_size))⟩)
    · (go_meet; case rel => exact ⟨0, nm, ⟨#[]⟩, p + 1 + 1, by first | assumption | decide, by first | assumption | decide, by omega, by (repeat' (first | assumption | (with_reducible refine InsAt.alloc ?_ _) | (with_reducible apply InsAt.set0) | (with_reducible apply InsAt.set1) | (with_reducible apply InsAt.set2) | (with_reducible apply InsAt.set3) | (with_reducible refine InsAt.set ?_ ?_ _) | (with_reducible refine InsAt.drew ?_) | (with_reducible refine InsAt.drewN ?_ _) | (refine InsAt.ex ?_ (by assumption) ?_ ?_) | go_size)), by (repeat' (first | assumption | (with_reducible refine InsAt.alloc ?_ _) | (with_reducible apply InsAt.set0) | (with_reducible apply InsAt.set1) | (with_reducible apply InsAt.set2) | (with_reducible apply InsAt.set3) | (with_reducible refine InsAt.set ?_ ?_ _) | (with_reducible refine InsAt.drew ?_) | (with_reducible refine InsAt.drewN ?_ _) | (refine InsAt.ex ?_ (by assumption) ?_ ?_) | go_size)), by (repeat' (first | assumption | (with_reducible refine Rd.alloc ?_ _) | (with_reducible refine Rd.setCell ?_ ?_ _) | (with_reducible refine Rd.drew ?_) | (with_reducible refine Rd.drewN ?_ _) | (refine rd_below (by assumption) ?_ ?_) | go_size)), by (repeat' (first | (with_reducible exact Ex.refl _ _ _) | (with_reducible exact Below.refl _ _) | (with_reducible refine Ex.alloc ?_ ?_ _) | (with_reducible refine Ex.setCell ?_ ?_ _) | (with_reducible refine Ex.drew ?_) | (with_reducible refine Ex.drewN ?_ _) | (with_reducible refine Below.alloc ?_ ?_ _) | (with_reducible refine Below.setCell ?_ ?_ _) | (with_reducible refine Below.drew ?_) | (refine ex_hyp (by assumption) ?_ ?_) | (refine ex_below (by assumption) ?_ ?_) | (refine below_ex (by assumption) ?_ ?_ ?_) | (refine below_hyp (by assumption) ?_ ?_) | go_size))⟩)
    · (go_meet; case rel => exact ⟨0, nm, ⟨#[]⟩, p + 1 + 1, by first | assumption | decide, by first | assumption | decide, by omega, by (repeat' (first | assumption | (with_reducible refine InsAt.alloc ?_ _) | (with_reducible apply InsAt.set0) | (with_reducible apply InsAt.set1) | (with_reducible apply InsAt.set2) | (with_reducible apply InsAt.set3) | (with_reducible refine InsAt.set ?_ ?_ _) | (with_reducible refine InsAt.drew ?_) | (with_reducible refine InsAt.drewN ?_ _) | (refine InsAt.ex ?_ (by assumption) ?_ ?_) | go_size)), by (repeat' (first | assumption | (with_reducible refine InsAt.alloc ?_ _) | (with_reducible apply InsAt.set0) | (with_reducible apply InsAt.set1) | (with_reducible apply InsAt.set2) | (with_reducible apply InsAt.set3) | (with_reducible refine InsAt.set ?_ ?_ _) | (with_reducible refine InsAt.drew ?_) | (with_reducible refine InsAt.drewN ?_ _) | (refine InsAt.ex ?_ (by assumption) ?_ ?_) | go_size)), by (repeat' (first | assumption | (with_reducible refine Rd.alloc ?_ _) | (with_reducible refine Rd.setCell ?_ ?_ _) | (with_reducible refine Rd.drew ?_) | (with_reducible refine Rd.drewN ?_ _) | (refine rd_below (by assumption) ?_ ?_) | go_size)), by (repeat' (first | (with_reducible exact Ex.refl _ _ _) | (with_reducible exact Below.refl _ _) | (with_reducible refine Ex.alloc ?_ ?_ _) | (with_reducible refine Ex.setCell ?_ ?_ _) | (with_reducible refine Ex.drew ?_) | (with_reducible refine Ex.drewN ?_ _) | (with_reducible refine Below.alloc ?_ ?_ _) | (with_reducible refine Below.setCell ?_ ?_ _) | (with_reducible refine Below.drew ?_) | (refine ex_hyp (by assumption) ?_ ?_) | (refine ex_below (by assumption) ?_ ?_) | (refine below_ex (by assumption) ?_ ?_ ?_) | (refine below_hyp (by assumption) ?_ ?_) | go_size))⟩)
    · (refine (S_pick r (p + 1 + 1) 3 _ (by omega) (by (repeat' (first | assumption | (with_reducible refine Rd.alloc ?_ _) | (with_reducible refine Rd.setCell ?_ ?_ _) | (with_reducible refine Rd.drew ?_) | (with_reducible refine Rd.drewN ?_ _) | (refine rd_below (by assumption) ?_ ?_) | go_size))) (by omega)).mono ?_; rintro e w3 ⟨⟨x, hx, rfl⟩, h5, h6⟩; have h6s := (h6).size; (try simp only [World.size_alloc, World.size_setCell, World.size_drew] at h6s))
      have iB : InsAt w3 B (1 + y) 0 nm ⟨#[]⟩ := by (repeat' (first | assumption | (with_reducible refine InsAt.alloc ?_ _) | (with_reducible apply InsAt.set0) | (with_reducible apply InsAt.set1) | (with_reducible apply InsAt.set2) | (with_reducible apply InsAt.set3) | (with_reducible refine InsAt.set ?_ ?_ _) | (with_reducible refine InsAt.drew ?_) | (with_reducible refine InsAt.drewN ?_ _) | (refine InsAt.ex ?_ (by assumption) ?_ ?_) | go_size))
      obtain ⟨i0', i1', i2', i3', i4', j1', j2', j3', j4'⟩ := id iB
      clear i0 i1 i2 i3 i4 j1 j2 j3 j4
      obtain ⟨h6dc, h6dd, h6df, h6dg, h6dz, h6dx, h6dy⟩ := efacts (n := w2.heap.size) (k := 1) h6 (by go_size) (by go_size) (by first | omega | (simp; omega)); replace h6dd := h6dd (by decide); replace h6dg := h6dg (by decide); replace h6dx := h6dx (by decide); clear h6dc h6df h6dz
      have hcell : ∃ v : ByteArray, v.size ≤ 4 ∧ w3.cell? ⟨w2.heap.size, x.toNat, none⟩ = some (.string v) := by
        rcases three hx with rfl | rfl | rfl
        all_goals (refine ⟨_, ?_, (by rw [h6dd, World.cell?_alloc_at (hn := by first | rfl | simp [World.setCell])]; rfl)⟩; decide)
      obtain ⟨v, hv, hcv⟩ := hcell
      have x1 := hx.1
      have x4 := hx.2.1 (by omega)
      clear h6dd h6dg h6dx h6dy
      clear hx hp hn hn2 h4s
      set_option maxRecDepth 100000 in
      go_wp2
      have hp := HP.out
      all_goals (go_meet; case rel => exact ⟨0, nm, v, p + 1 + 1 + 1, by first | assumption | decide, by first | assumption | decide, by omega, by (repeat' (first | assumption | (with_reducible refine InsAt.alloc ?_ _) | (with_reducible apply InsAt.set0) | (with_reducible apply InsAt.set1) | (with_reducible apply InsAt.set2) | (with_reducible apply InsAt.set3) | (with_reducible refine InsAt.set ?_ ?_ _) | (with_reducible refine InsAt.drew ?_) | (with_reducible refine InsAt.drewN ?_ _) | (refine InsAt.ex ?_ (by assumption) ?_ ?_) | go_size)), by (repeat' (first | assumption | (with_reducible refine InsAt.alloc ?_ _) | (with_reducible apply InsAt.set0) | (with_reducible apply InsAt.set1) | (with_reducible apply InsAt.set2) | (with_reducible apply InsAt.set3) | (with_reducible refine InsAt.set ?_ ?_ _) | (with_reducible refine InsAt.drew ?_) | (with_reducible refine InsAt.drewN ?_ _) | (refine InsAt.ex ?_ (by assumption) ?_ ?_) | go_size)), by (repeat' (first | assumption | (with_reducible refine Rd.alloc ?_ _) | (with_reducible refine Rd.setCell ?_ ?_ _) | (with_reducible refine Rd.drew ?_) | (with_reducible refine Rd.drewN ?_ _) | (refine rd_below (by assumption) ?_ ?_) | go_size)), by (repeat' (first | (with_reducible exact Ex.refl _ _ _) | (with_reducible exact Below.refl _ _) | (with_reducible refine Ex.alloc ?_ ?_ _) | (with_reducible refine Ex.setCell ?_ ?_ _) | (with_reducible refine Ex.drew ?_) | (with_reducible refine Ex.drewN ?_ _) | (with_reducible refine Below.alloc ?_ ?_ _) | (with_reducible refine Below.setCell ?_ ?_ _) | (with_reducible refine Below.drew ?_) | (refine ex_hyp (by assumption) ?_ ?_) | (refine ex_below (by assumption) ?_ ?_) | (refine below_ex (by assumption) ?_ ?_ ?_) | (refine below_hyp (by assumption) ?_ ?_) | go_size))⟩)
    · (refine (S_pick r (p + 1 + 1) 3 _ (by omega) (by (repeat' (first | assumption | (with_reducible refine Rd.alloc ?_ _) | (with_reducible refine Rd.setCell ?_ ?_ _) | (with_reducible refine Rd.drew ?_) | (with_reducible refine Rd.drewN ?_ _) | (refine rd_below (by assumption) ?_ ?_) | go_size))) (by omega)).mono ?_; rintro e w3 ⟨⟨x, hx, rfl⟩, h5, h6⟩; have h6s := (h6).size; (try simp only [World.size_alloc, World.size_setCell, World.size_drew] at h6s))
      have iB : InsAt w3 B (1 + y) 0 nm ⟨#[]⟩ := by (repeat' (first | assumption | (with_reducible refine InsAt.alloc ?_ _) | (with_reducible apply InsAt.set0) | (with_reducible apply InsAt.set1) | (with_reducible apply InsAt.set2) | (with_reducible apply InsAt.set3) | (with_reducible refine InsAt.set ?_ ?_ _) | (with_reducible refine InsAt.drew ?_) | (with_reducible refine InsAt.drewN ?_ _) | (refine InsAt.ex ?_ (by assumption) ?_ ?_) | go_size))
      obtain ⟨i0', i1', i2', i3', i4', j1', j2', j3', j4'⟩ := id iB
      clear i0 i1 i2 i3 i4 j1 j2 j3 j4
      obtain ⟨h6dc, h6dd, h6df, h6dg, h6dz, h6dx, h6dy⟩ := efacts (n := w2.heap.size) (k := 1) h6 (by go_size) (by go_size) (by first | omega | (simp; omega)); replace h6dd := h6dd (by decide); replace h6dg := h6dg (by decide); replace h6dx := h6dx (by decide); clear h6dc h6df h6dz
      have hcell : ∃ v : ByteArray, v.size ≤ 4 ∧ w3.cell? ⟨w2.heap.size, x.toNat, none⟩ = some (.string v) := by
        rcases three hx with rfl | rfl | rfl
        all_goals (refine ⟨_, ?_, (by rw [h6dd, World.cell?_alloc_at (hn := by first | rfl | simp [World.setCell])]; rfl)⟩; decide)
      obtain ⟨v, hv, hcv⟩ := hcell
      have x1 := hx.1
      have x4 := hx.2.1 (by omega)
      clear h6dd h6dg h6dx h6dy
      clear hx hp hn hn2 h4s
      set_option maxRecDepth 100000 in
      go_wp2
      have hp := HP.out
      all_goals (go_meet; case rel => exact ⟨0, nm, v, p + 1 + 1 + 1, by first | assumption | decide, by first | assumption | decide, by omega, by (repeat' (first | assumption | (with_reducible refine InsAt.alloc ?_ _) | (with_reducible apply InsAt.set0) | (with_reducible apply InsAt.set1) | (with_reducible apply InsAt.set2) | (with_reducible apply InsAt.set3) | (with_reducible refine InsAt.set ?_ ?_ _) | (with_reducible refine InsAt.drew ?_) | (with_reducible refine InsAt.drewN ?_ _) | (refine InsAt.ex ?_ (by assumption) ?_ ?_) | go_size)), by (repeat' (first | assumption | (with_reducible refine InsAt.alloc ?_ _) | (with_reducible apply InsAt.set0) | (with_reducible apply InsAt.set1) | (with_reducible apply InsAt.set2) | (with_reducible apply InsAt.set3) | (with_reducible refine InsAt.set ?_ ?_ _) | (with_reducible refine InsAt.drew ?_) | (with_reducible refine InsAt.drewN ?_ _) | (refine InsAt.ex ?_ (by assumption) ?_ ?_) | go_size)), by (repeat' (first | assumption | (with_reducible refine Rd.alloc ?_ _) | (with_reducible refine Rd.setCell ?_ ?_ _) | (with_reducible refine Rd.drew ?_) | (with_reducible refine Rd.drewN ?_ _) | (refine rd_below (by assumption) ?_ ?_) | go_size)), by (repeat' (first | (with_reducible exact Ex.refl _ _ _) | (with_reducible exact Below.refl _ _) | (with_reducible refine Ex.alloc ?_ ?_ _) | (with_reducible refine Ex.setCell ?_ ?_ _) | (with_reducible refine Ex.drew ?_) | (with_reducible refine Ex.drewN ?_ _) | (with_reducible refine Below.alloc ?_ ?_ _) | (with_reducible refine Below.setCell ?_ ?_ _) | (with_reducible refine Below.drew ?_) | (refine ex_hyp (by assumption) ?_ ?_) | (refine ex_below (by assumption) ?_ ?_) | (refine below_ex (by assumption) ?_ ?_ ?_) | (refine below_hyp (by assumption) ?_ ?_) | go_size))⟩)
    · (refine (S_pick r (p + 1 + 1) 5 _ (by omega) (by (repeat' (first | assumption | (with_reducible refine Rd.alloc ?_ _) | (with_reducible refine Rd.setCell ?_ ?_ _) | (with_reducible refine Rd.drew ?_) | (with_reducible refine Rd.drewN ?_ _) | (refine rd_below (by assumption) ?_ ?_) | go_size))) (by omega)).mono ?_; rintro e w3 ⟨⟨x, hx, rfl⟩, h5, h6⟩; have h6s := (h6).size; (try simp only [World.size_alloc, World.size_setCell, World.size_drew] at h6s))
      have iB : InsAt w3 B (1 + y) 0 nm ⟨#[]⟩ := by (repeat' (first | assumption | (with_reducible refine InsAt.alloc ?_ _) | (with_reducible apply InsAt.set0) | (with_reducible apply InsAt.set1) | (with_reducible apply InsAt.set2) | (with_reducible apply InsAt.set3) | (with_reducible refine InsAt.set ?_ ?_ _) | (with_reducible refine InsAt.drew ?_) | (with_reducible refine InsAt.drewN ?_ _) | (refine InsAt.ex ?_ (by assumption) ?_ ?_) | go_size))
      obtain ⟨i0', i1', i2', i3', i4', j1', j2', j3', j4'⟩ := id iB
      clear i0 i1 i2 i3 i4 j1 j2 j3 j4
      obtain ⟨h6dc, h6dd, h6df, h6dg, h6dz, h6dx, h6dy⟩ := efacts (n := w2.heap.size) (k := 1) h6 (by go_size) (by go_size) (by first | omega | (simp; omega)); replace h6dd := h6dd (by decide); replace h6dg := h6dg (by decide); replace h6dx := h6dx (by decide); clear h6dc h6df h6dz
      have hcell : ∃ v : ByteArray, v.size ≤ 4 ∧ w3.cell? ⟨w2.heap.size, x.toNat, none⟩ = some (.string v) := by
        rcases five hx with rfl | rfl | rfl | rfl | rfl
        all_goals (refine ⟨_, ?_, (by rw [h6dd, World.cell?_alloc_at (hn := by first | rfl | simp [World.setCell])]; rfl)⟩; decide)
      obtain ⟨v, hv, hcv⟩ := hcell
      have x1 := hx.1
      have x4 := hx.2.1 (by omega)
      clear h6dd h6dg h6dx h6dy
      clear hx hp hn hn2 h4s
      set_option maxRecDepth 100000 in
      go_wp2
      have hp := HP.out
      all_goals (go_meet; case rel => exact ⟨0, nm, v, p + 1 + 1 + 1, by first | assumption | decide, by first | assumption | decide, by omega, by (repeat' (first | assumption | (with_reducible refine InsAt.alloc ?_ _) | (with_reducible apply InsAt.set0) | (with_reducible apply InsAt.set1) | (with_reducible apply InsAt.set2) | (with_reducible apply InsAt.set3) | (with_reducible refine InsAt.set ?_ ?_ _) | (with_reducible refine InsAt.drew ?_) | (with_reducible refine InsAt.drewN ?_ _) | (refine InsAt.ex ?_ (by assumption) ?_ ?_) | go_size)), by (repeat' (first | assumption | (with_reducible refine InsAt.alloc ?_ _) | (with_reducible apply InsAt.set0) | (with_reducible apply InsAt.set1) | (with_reducible apply InsAt.set2) | (with_reducible apply InsAt.set3) | (with_reducible refine InsAt.set ?_ ?_ _) | (with_reducible refine InsAt.drew ?_) | (with_reducible refine InsAt.drewN ?_ _) | (refine InsAt.ex ?_ (by assumption) ?_ ?_) | go_size)), by (repeat' (first | assumption | (with_reducible refine Rd.alloc ?_ _) | (with_reducible refine Rd.setCell ?_ ?_ _) | (with_reducible refine Rd.drew ?_) | (with_reducible refine Rd.drewN ?_ _) | (refine rd_below (by assumption) ?_ ?_) | go_size)), by (repeat' (first | (with_reducible exact Ex.refl _ _ _) | (with_reducible exact Below.refl _ _) | (with_reducible refine Ex.alloc ?_ ?_ _) | (with_reducible refine Ex.setCell ?_ ?_ _) | (with_reducible refine Ex.drew ?_) | (with_reducible refine Ex.drewN ?_ _) | (with_reducible refine Below.alloc ?_ ?_ _) | (with_reducible refine Below.setCell ?_ ?_ _) | (with_reducible refine Below.drew ?_) | (refine ex_hyp (by assumption) ?_ ?_) | (refine ex_below (by assumption) ?_ ?_) | (refine below_ex (by assumption) ?_ ?_ ?_) | (refine below_hyp (by assumption) ?_ ?_) | go_size))⟩)
    · (go_meet; case rel => exact ⟨0, ⟨#[]⟩, ⟨#[]⟩, p + 1 + 1, by first | assumption | decide, by first | assumption | decide, by omega, by (repeat' (first | assumption | (with_reducible refine InsAt.alloc ?_ _) | (with_reducible apply InsAt.set0) | (with_reducible apply InsAt.set1) | (with_reducible apply InsAt.set2) | (with_reducible apply InsAt.set3) | (with_reducible refine InsAt.set ?_ ?_ _) | (with_reducible refine InsAt.drew ?_) | (with_reducible refine InsAt.drewN ?_ _) | (refine InsAt.ex ?_ (by assumption) ?_ ?_) | go_size)), by (repeat' (first | assumption | (with_reducible refine InsAt.alloc ?_ _) | (with_reducible apply InsAt.set0) | (with_reducible apply InsAt.set1) | (with_reducible apply InsAt.set2) | (with_reducible apply InsAt.set3) | (with_reducible refine InsAt.set ?_ ?_ _) | (with_reducible refine InsAt.drew ?_) | (with_reducible refine InsAt.drewN ?_ _) | (refine InsAt.ex ?_ (by assumption) ?_ ?_) | go_size)), by (repeat' (first | assumption | (with_reducible refine Rd.alloc ?_ _) | (with_reducible refine Rd.setCell ?_ ?_ _) | (with_reducible refine Rd.drew ?_) | (with_reducible refine Rd.drewN ?_ _) | (refine rd_below (by assumption) ?_ ?_) | go_size)), by (repeat' (first | (with_reducible exact Ex.refl _ _ _) | (with_reducible exact Below.refl _ _) | (with_reducible refine Ex.alloc ?_ ?_ _) | (with_reducible refine Ex.setCell ?_ ?_ _) | (with_reducible refine Ex.drew ?_) | (with_reducible refine Ex.drewN ?_ _) | (with_reducible refine Below.alloc ?_ ?_ _) | (with_reducible refine Below.setCell ?_ ?_ _) | (with_reducible refine Below.drew ?_) | (refine ex_hyp (by assumption) ?_ ?_) | (refine ex_below (by assumption) ?_ ?_) | (refine below_ex (by assumption) ?_ ?_ ?_) | (refine below_hyp (by assumption) ?_ ?_) | go_size))⟩)
  case rest =>
  obtain ⟨a, nn, mm, q, k1, k2, k3, hA, hR, hQ, hX⟩ := hcut
  have hS := hA.lt
  clear iA iR i0 i1 i2 i3 i4 j1 j2 j3 j4 hE h3 hc h4s h4bz1
  go_wp2_with fail
  refine (S_odd r q n wc hn hn2 (by (repeat' (first | assumption | (with_reducible refine Rd.alloc ?_ _) | (with_reducible refine Rd.setCell ?_ ?_ _) | (with_reducible refine Rd.drew ?_) | (with_reducible refine Rd.drewN ?_ _) | (refine rd_below (by assumption) ?_ ?_) | go_size))) (by omega)).mono ?_
  rintro e w4 ⟨⟨x, rfl⟩, h7, h8⟩
  have h8s := (h8).size; (try simp only [World.size_alloc, World.size_setCell, World.size_drew] at h8s)
  have iA : InsAt w4 B (1 + y) a nn mm := by (repeat' (first | assumption | (with_reducible refine InsAt.alloc ?_ _) | (with_reducible apply InsAt.set0) | (with_reducible apply InsAt.set1) | (with_reducible apply InsAt.set2) | (with_reducible apply InsAt.set3) | (with_reducible refine InsAt.set ?_ ?_ _) | (with_reducible refine InsAt.drew ?_) | (with_reducible refine InsAt.drewN ?_ _) | (refine InsAt.ex ?_ (by assumption) ?_ ?_) | go_size))
  have iR : InsAt w4 w.heap.size 0 0 ⟨#[]⟩ ⟨#[]⟩ := by (repeat' (first | assumption | (with_reducible refine InsAt.alloc ?_ _) | (with_reducible apply InsAt.set0) | (with_reducible apply InsAt.set1) | (with_reducible apply InsAt.set2) | (with_reducible apply InsAt.set3) | (with_reducible refine InsAt.set ?_ ?_ _) | (with_reducible refine InsAt.drew ?_) | (with_reducible refine InsAt.drewN ?_ _) | (refine InsAt.ex ?_ (by assumption) ?_ ?_) | go_size))
  have hE : Ex r w.heap.size w w4 := by (repeat' (first | (with_reducible exact Ex.refl _ _ _) | (with_reducible exact Below.refl _ _) | (with_reducible refine Ex.alloc ?_ ?_ _) | (with_reducible refine Ex.setCell ?_ ?_ _) | (with_reducible refine Ex.drew ?_) | (with_reducible refine Ex.drewN ?_ _) | (with_reducible refine Below.alloc ?_ ?_ _) | (with_reducible refine Below.setCell ?_ ?_ _) | (with_reducible refine Below.drew ?_) | (refine ex_hyp (by assumption) ?_ ?_) | (refine ex_below (by assumption) ?_ ?_) | (refine below_ex (by assumption) ?_ ?_ ?_) | (refine below_hyp (by assumption) ?_ ?_) | go_size))
  clear hA hR hQ hX h8 h8s hS
  have hS4 := iA.lt
  go_upto_if 67 with fail
  go_cut [] from 68 to 99 (fun wx => ∃ (op a : Int) (n m : ByteArray) (q' : Nat), n.size ≤ 4 ∧ m.size ≤ 4 ∧ q' ≤ p + 6 ∧ InsAt wx B op a n m ∧ InsAt wx w.heap.size 0 0 ⟨#[]⟩ ⟨#[]⟩ ∧ Rd wx r q' ∧ Ex r w.heap.size w wx)
  case first =>
    cases x
    · go_wp2_with fail
      (go_meet; case rel => exact ⟨1 + y, a, nn, mm, q + 1, by first | assumption | decide, by first | assumption | decide, by omega, by (repeat' (first | assumption | (with_reducible refine InsAt.alloc ?_ _) | (with_reducible apply InsAt.set0) | (with_reducible apply InsAt.set1) | (with_reducible apply InsAt.set2) | (with_reducible apply InsAt.set3) | (with_reducible refine InsAt.set ?_ ?_ _) | (with_reducible refine InsAt.drew ?_) | (with_reducible refine InsAt.drewN ?_ _) | (refine InsAt.ex ?_ (by assumption) ?_ ?_) | go_size)), by (repeat' (first | assumption | (with_reducible refine InsAt.alloc ?_ _) | (with_reducible apply InsAt.set0) | (with_reducible apply InsAt.set1) | (with_reducible apply InsAt.set2) | (with_reducible apply InsAt.set3) | (with_reducible refine InsAt.set ?_ ?_ _) | (with_reducible refine InsAt.drew ?_) | (with_reducible refine InsAt.drewN ?_ _) | (refine InsAt.ex ?_ (by assumption) ?_ ?_) | go_size)), by (repeat' (first | assumption | (with_reducible refine Rd.alloc ?_ _) | (with_reducible refine Rd.setCell ?_ ?_ _) | (with_reducible refine Rd.drew ?_) | (with_reducible refine Rd.drewN ?_ _) | (refine rd_below (by assumption) ?_ ?_) | go_size)), by (repeat' (first | (with_reducible exact Ex.refl _ _ _) | (with_reducible exact Below.refl _ _) | (with_reducible refine Ex.alloc ?_ ?_ _) | (with_reducible refine Ex.setCell ?_ ?_ _) | (with_reducible refine Ex.drew ?_) | (with_reducible refine Ex.drewN ?_ _) | (with_reducible refine Below.alloc ?_ ?_ _) | (with_reducible refine Below.setCell ?_ ?_ _) | (with_reducible refine Below.drew ?_) | (refine ex_hyp (by assumption) ?_ ?_) | (refine ex_below (by assumption) ?_ ?_) | (refine below_ex (by assumption) ?_ ?_ ?_) | (refine below_hyp (by assumption) ?_ ?_) | go_size))⟩)
    · go_wp2_with fail
      refine (S_pick r (q + 1) 4 _ (by omega) (by (repeat' (first | assumption | (with_reducible refine Rd.alloc ?_ _) | (with_reducible refine Rd.setCell ?_ ?_ _) | (with_reducible refine Rd.drew ?_) | (with_reducible refine Rd.drewN ?_ _) | (refine rd_below (by assumption) ?_ ?_) | go_size))) (by omega)).mono ?_
      rintro e w5 ⟨⟨z', hz, rfl⟩, h9, h10⟩
      have h10s := (h10).size; (try simp only [World.size_alloc, World.size_setCell, World.size_drew] at h10s)
      have iB : InsAt w5 B (1 + y) a nn mm := by (repeat' (first | assumption | (with_reducible refine InsAt.alloc ?_ _) | (with_reducible apply InsAt.set0) | (with_reducible apply InsAt.set1) | (with_reducible apply InsAt.set2) | (with_reducible apply InsAt.set3) | (with_reducible refine InsAt.set ?_ ?_ _) | (with_reducible refine InsAt.drew ?_) | (with_reducible refine InsAt.drewN ?_ _) | (refine InsAt.ex ?_ (by assumption) ?_ ?_) | go_size))
      have iR' : InsAt w5 w.heap.size 0 0 ⟨#[]⟩ ⟨#[]⟩ := by (repeat' (first | assumption | (with_reducible refine InsAt.alloc ?_ _) | (with_reducible apply InsAt.set0) | (with_reducible apply InsAt.set1) | (with_reducible apply InsAt.set2) | (with_reducible apply InsAt.set3) | (with_reducible refine InsAt.set ?_ ?_ _) | (with_reducible refine InsAt.drew ?_) | (with_reducible refine InsAt.drewN ?_ _) | (refine InsAt.ex ?_ (by assumption) ?_ ?_) | go_size))
      have hE' : Ex r w.heap.size w w5 := by (repeat' (first | (with_reducible exact Ex.refl _ _ _) | (with_reducible exact Below.refl _ _) | (with_reducible refine Ex.alloc ?_ ?_ _) | (with_reducible refine Ex.setCell ?_ ?_ _) | (with_reducible refine Ex.drew ?_) | (with_reducible refine Ex.drewN ?_ _) | (with_reducible refine Below.alloc ?_ ?_ _) | (with_reducible refine Below.setCell ?_ ?_ _) | (with_reducible refine Below.drew ?_) | (refine ex_hyp (by assumption) ?_ ?_) | (refine ex_below (by assumption) ?_ ?_) | (refine below_ex (by assumption) ?_ ?_ ?_) | (refine below_hyp (by assumption) ?_ ?_) | go_size))
      have hS := iB.lt
      have HP := Lib.hid hp
      have K3 := Lib.hid k3
      clear iA iR hE h7 h10 h10s hS4
      rcases four hz with rfl | rfl | rfl | rfl
      · go_wp2_with fail
        (refine (S_pick r (q + 1 + 1) 3 _ (by omega) (by (repeat' (first | assumption | (with_reducible refine Rd.alloc ?_ _) | (with_reducible refine Rd.setCell ?_ ?_ _) | (with_reducible refine Rd.drew ?_) | (with_reducible refine Rd.drewN ?_ _) | (refine rd_below (by assumption) ?_ ?_) | go_size))) (by omega)).mono ?_; rintro e w3 ⟨⟨x, hx, rfl⟩, h5, h6⟩; have h6s := (h6).size; (try simp only [World.size_alloc, World.size_setCell, World.size_drew] at h6s))
        have iC : InsAt w3 B (1 + y) a nn mm := by (repeat' (first | assumption | (with_reducible refine InsAt.alloc ?_ _) | (with_reducible apply InsAt.set0) | (with_reducible apply InsAt.set1) | (with_reducible apply InsAt.set2) | (with_reducible apply InsAt.set3) | (with_reducible refine InsAt.set ?_ ?_ _) | (with_reducible refine InsAt.drew ?_) | (with_reducible refine InsAt.drewN ?_ _) | (refine InsAt.ex ?_ (by assumption) ?_ ?_) | go_size))
        obtain ⟨i0', i1', i2', i3', i4', j1', j2', j3', j4'⟩ := id iC
        obtain ⟨h6dc, h6dd, h6df, h6dg, h6dz, h6dx, h6dy⟩ := efacts (n := w5.heap.size) (k := 1) h6 (by go_size) (by go_size) (by first | omega | (simp; omega)); replace h6dd := h6dd (by decide); replace h6dg := h6dg (by decide); replace h6dx := h6dx (by decide); clear h6dc h6df h6dz
        have hcell : ∃ v : Int, w3.cell? ⟨w5.heap.size, x.toNat, none⟩ = some (.int .i64 v) := by
          rcases three hx with rfl | rfl | rfl
          all_goals exact ⟨_, (by rw [h6dd, World.cell?_alloc_at (hn := by first | rfl | simp [World.setCell])]; rfl)⟩
        obtain ⟨v, hcv⟩ := hcell
        have x1 := hx.1
        have x4 := hx.2.1 (by omega)
        clear h6dd h6dg h6dx h6dy
        clear hx hp hn hn2 k3
        set_option maxRecDepth 100000 in
        go_wp2
        have hp := HP.out
        have k3 := K3.out
        all_goals (go_meet; case rel => exact ⟨v, a, nn, mm, q + 1 + 1 + 1, by first | assumption | decide, by first | assumption | decide, by omega, by (repeat' (first | assumption | (with_reducible refine InsAt.alloc ?_ _) | (with_reducible apply InsAt.set0) | (with_reducible apply InsAt.set1) | (with_reducible apply InsAt.set2) | (with_reducible apply InsAt.set3) | (with_reducible refine InsAt.set ?_ ?_ _) | (with_reducible refine InsAt.drew ?_) | (with_reducible refine InsAt.drewN ?_ _) | (refine InsAt.ex ?_ (by assumption) ?_ ?_) | go_size)), by (repeat' (first | assumption | (with_reducible refine InsAt.alloc ?_ _) | (with_reducible apply InsAt.set0) | (with_reducible apply InsAt.set1) | (with_reducible apply InsAt.set2) | (with_reducible apply InsAt.set3) | (with_reducible refine InsAt.set ?_ ?_ _) | (with_reducible refine InsAt.drew ?_) | (with_reducible refine InsAt.drewN ?_ _) | (refine InsAt.ex ?_ (by assumption) ?_ ?_) | go_size)), by (repeat' (first | assumption | (with_reducible refine Rd.alloc ?_ _) | (with_reducible refine Rd.setCell ?_ ?_ _) | (with_reducible refine Rd.drew ?_) | (with_reducible refine Rd.drewN ?_ _) | (refine rd_below (by assumption) ?_ ?_) | go_size)), by (repeat' (first | (with_reducible exact Ex.refl _ _ _) | (with_reducible exact Below.refl _ _) | (with_reducible refine Ex.alloc ?_ ?_ _) | (with_reducible refine Ex.setCell ?_ ?_ _) | (with_reducible refine Ex.drew ?_) | (with_reducible refine Ex.drewN ?_ _) | (with_reducible refine Below.alloc ?_ ?_ _) | (with_reducible refine Below.setCell ?_ ?_ _) | (with_reducible refine Below.drew ?_) | (refine ex_hyp (by assumption) ?_ ?_) | (refine ex_below (by assumption) ?_ ?_) | (refine below_ex (by assumption) ?_ ?_ ?_) | (refine below_hyp (by assumption) ?_ ?_) | go_size))⟩)
      · go_wp2_with fail
        (refine (S_pick r (q + 1 + 1) 4 _ (by omega) (by (repeat' (first | assumption | (with_reducible refine Rd.alloc ?_ _) | (with_reducible refine Rd.setCell ?_ ?_ _) | (with_reducible refine Rd.drew ?_) | (with_reducible refine Rd.drewN ?_ _) | (refine rd_below (by assumption) ?_ ?_) | go_size))) (by omega)).mono ?_; rintro e w3 ⟨⟨x, hx, rfl⟩, h5, h6⟩; have h6s := (h6).size; (try simp only [World.size_alloc, World.size_setCell, World.size_drew] at h6s))
        have iC : InsAt w3 B (1 + y) a nn mm := by (repeat' (first | assumption | (with_reducible refine InsAt.alloc ?_ _) | (with_reducible apply InsAt.set0) | (with_reducible apply InsAt.set1) | (with_reducible apply InsAt.set2) | (with_reducible apply InsAt.set3) | (with_reducible refine InsAt.set ?_ ?_ _) | (with_reducible refine InsAt.drew ?_) | (with_reducible refine InsAt.drewN ?_ _) | (refine InsAt.ex ?_ (by assumption) ?_ ?_) | go_size))
        obtain ⟨i0', i1', i2', i3', i4', j1', j2', j3', j4'⟩ := id iC
        obtain ⟨h6dc, h6dd, h6df, h6dg, h6dz, h6dx, h6dy⟩ := efacts (n := w5.heap.size) (k := 1) h6 (by go_size) (by go_size) (by first | omega | (simp; omega)); replace h6dd := h6dd (by decide); replace h6dg := h6dg (by decide); replace h6dx := h6dx (by decide); clear h6dc h6df h6dz
        have hcell : ∃ v : Int, w3.cell? ⟨w5.heap.size, x.toNat, none⟩ = some (.int .i64 v) := by
          rcases four hx with rfl | rfl | rfl | rfl
          all_goals exact ⟨_, (by rw [h6dd, World.cell?_alloc_at (hn := by first | rfl | simp [World.setCell])]; rfl)⟩
        obtain ⟨v, hcv⟩ := hcell
        have x1 := hx.1
        have x4 := hx.2.1 (by omega)
        clear h6dd h6dg h6dx h6dy
        clear hx hp hn hn2 k3
        set_option maxRecDepth 100000 in
        go_wp2
        have hp := HP.out
        have k3 := K3.out
        all_goals (go_meet; case rel => exact ⟨1 + y, v, nn, mm, q + 1 + 1 + 1, by first | assumption | decide, by first | assumption | decide, by omega, by (repeat' (first | assumption | (with_reducible refine InsAt.alloc ?_ _) | (with_reducible apply InsAt.set0) | (with_reducible apply InsAt.set1) | (with_reducible apply InsAt.set2) | (with_reducible apply InsAt.set3) | (with_reducible refine InsAt.set ?_ ?_ _) | (with_reducible refine InsAt.drew ?_) | (with_reducible refine InsAt.drewN ?_ _) | (refine InsAt.ex ?_ (by assumption) ?_ ?_) | go_size)), by (repeat' (first | assumption | (with_reducible refine InsAt.alloc ?_ _) | (with_reducible apply InsAt.set0) | (with_reducible apply InsAt.set1) | (with_reducible apply InsAt.set2) | (with_reducible apply InsAt.set3) | (with_reducible refine InsAt.set ?_ ?_ _) | (with_reducible refine InsAt.drew ?_) | (with_reducible refine InsAt.drewN ?_ _) | (refine InsAt.ex ?_ (by assumption) ?_ ?_) | go_size)), by (repeat' (first | assumption | (with_reducible refine Rd.alloc ?_ _) | (with_reducible refine Rd.setCell ?_ ?_ _) | (with_reducible refine Rd.drew ?_) | (with_reducible refine Rd.drewN ?_ _) | (refine rd_below (by assumption) ?_ ?_) | go_size)), by (repeat' (first | (with_reducible exact Ex.refl _ _ _) | (with_reducible exact Below.refl _ _) | (with_reducible refine Ex.alloc ?_ ?_ _) | (with_reducible refine Ex.setCell ?_ ?_ _) | (with_reducible refine Ex.drew ?_) | (with_reducible refine Ex.drewN ?_ _) | (with_reducible refine Below.alloc ?_ ?_ _) | (with_reducible refine Below.setCell ?_ ?_ _) | (with_reducible refine Below.drew ?_) | (refine ex_hyp (by assumption) ?_ ?_) | (refine ex_below (by assumption) ?_ ?_) | (refine below_ex (by assumption) ?_ ?_ ?_) | (refine below_hyp (by assumption) ?_ ?_) | go_size))⟩)
      · go_wp2_with fail
        (refine (S_pick r (q + 1 + 1) 3 _ (by omega) (by (repeat' (first | assumption | (with_reducible refine Rd.alloc ?_ _) | (with_reducible refine Rd.setCell ?_ ?_ _) | (with_reducible refine Rd.drew ?_) | (with_reducible refine Rd.drewN ?_ _) | (refine rd_below (by assumption) ?_ ?_) | go_size))) (by omega)).mono ?_; rintro e w3 ⟨⟨x, hx, rfl⟩, h5, h6⟩; have h6s := (h6).size; (try simp only [World.size_alloc, World.size_setCell, World.size_drew] at h6s))
        have iC : InsAt w3 B (1 + y) a nn mm := by (repeat' (first | assumption | (with_reducible refine InsAt.alloc ?_ _) | (with_reducible apply InsAt.set0) | (with_reducible apply InsAt.set1) | (with_reducible apply InsAt.set2) | (with_reducible apply InsAt.set3) | (with_reducible refine InsAt.set ?_ ?_ _) | (with_reducible refine InsAt.drew ?_) | (with_reducible refine InsAt.drewN ?_ _) | (refine InsAt.ex ?_ (by assumption) ?_ ?_) | go_size))
        obtain ⟨i0', i1', i2', i3', i4', j1', j2', j3', j4'⟩ := id iC
        obtain ⟨h6dc, h6dd, h6df, h6dg, h6dz, h6dx, h6dy⟩ := efacts (n := w5.heap.size) (k := 1) h6 (by go_size) (by go_size) (by first | omega | (simp; omega)); replace h6dd := h6dd (by decide); replace h6dg := h6dg (by decide); replace h6dx := h6dx (by decide); clear h6dc h6df h6dz
        have hcell : ∃ v : ByteArray, v.size ≤ 4 ∧ w3.cell? ⟨w5.heap.size, x.toNat, none⟩ = some (.string v) := by
          rcases three hx with rfl | rfl | rfl
          all_goals (refine ⟨_, ?_, (by rw [h6dd, World.cell?_alloc_at (hn := by first | rfl | simp [World.setCell])]; rfl)⟩; decide)
        obtain ⟨v, hv, hcv⟩ := hcell
        have x1 := hx.1
        have x4 := hx.2.1 (by omega)
        clear h6dd h6dg h6dx h6dy
        clear hx hp hn hn2 k3
        set_option maxRecDepth 100000 in
        go_wp2
        have hp := HP.out
        have k3 := K3.out
        all_goals (go_meet; case rel => exact ⟨1 + y, a, v, mm, q + 1 + 1 + 1, by first | assumption | decide, by first | assumption | decide, by omega, by (repeat' (first | assumption | (with_reducible refine InsAt.alloc ?_ _) | (with_reducible apply InsAt.set0) | (with_reducible apply InsAt.set1) | (with_reducible apply InsAt.set2) | (with_reducible apply InsAt.set3) | (with_reducible refine InsAt.set ?_ ?_ _) | (with_reducible refine InsAt.drew ?_) | (with_reducible refine InsAt.drewN ?_ _) | (refine InsAt.ex ?_ (by assumption) ?_ ?_) | go_size)), by (repeat' (first | assumption | (with_reducible refine InsAt.alloc ?_ _) | (with_reducible apply InsAt.set0) | (with_reducible apply InsAt.set1) | (with_reducible apply InsAt.set2) | (with_reducible apply InsAt.set3) | (with_reducible refine InsAt.set ?_ ?_ _) | (with_reducible refine InsAt.drew ?_) | (with_reducible refine InsAt.drewN ?_ _) | (refine InsAt.ex ?_ (by assumption) ?_ ?_) | go_size)), by (repeat' (first | assumption | (with_reducible refine Rd.alloc ?_ _) | (with_reducible refine Rd.setCell ?_ ?_ _) | (with_reducible refine Rd.drew ?_) | (with_reducible refine Rd.drewN ?_ _) | (refine rd_below (by assumption) ?_ ?_) | go_size)), by (repeat' (first | (with_reducible exact Ex.refl _ _ _) | (with_reducible exact Below.refl _ _) | (with_reducible refine Ex.alloc ?_ ?_ _) | (with_reducible refine Ex.setCell ?_ ?_ _) | (with_reducible refine Ex.drew ?_) | (with_reducible refine Ex.drewN ?_ _) | (with_reducible refine Below.alloc ?_ ?_ _) | (with_reducible refine Below.setCell ?_ ?_ _) | (with_reducible refine Below.drew ?_) | (refine ex_hyp (by assumption) ?_ ?_) | (refine ex_below (by assumption) ?_ ?_) | (refine below_ex (by assumption) ?_ ?_ ?_) | (refine below_hyp (by assumption) ?_ ?_) | go_size))⟩)
      · go_wp2_with fail
        (refine (S_pick r (q + 1 + 1) 3 _ (by omega) (by (repeat' (first | assumption | (with_reducible refine Rd.alloc ?_ _) | (with_reducible refine Rd.setCell ?_ ?_ _) | (with_reducible refine Rd.drew ?_) | (with_reducible refine Rd.drewN ?_ _) | (refine rd_below (by assumption) ?_ ?_) | go_size))) (by omega)).mono ?_; rintro e w3 ⟨⟨x, hx, rfl⟩, h5, h6⟩; have h6s := (h6).size; (try simp only [World.size_alloc, World.size_setCell, World.size_drew] at h6s))
        have iC : InsAt w3 B (1 + y) a nn mm := by (repeat' (first | assumption | (with_reducible refine InsAt.alloc ?_ _) | (with_reducible apply InsAt.set0) | (with_reducible apply InsAt.set1) | (with_reducible apply InsAt.set2) | (with_reducible apply InsAt.set3) | (with_reducible refine InsAt.set ?_ ?_ _) | (with_reducible refine InsAt.drew ?_) | (with_reducible refine InsAt.drewN ?_ _) | (refine InsAt.ex ?_ (by assumption) ?_ ?_) | go_size))
        obtain ⟨i0', i1', i2', i3', i4', j1', j2', j3', j4'⟩ := id iC
        obtain ⟨h6dc, h6dd, h6df, h6dg, h6dz, h6dx, h6dy⟩ := efacts (n := w5.heap.size) (k := 1) h6 (by go_size) (by go_size) (by first | omega | (simp; omega)); replace h6dd := h6dd (by decide); replace h6dg := h6dg (by decide); replace h6dx := h6dx (by decide); clear h6dc h6df h6dz
        have hcell : ∃ v : ByteArray, v.size ≤ 4 ∧ w3.cell? ⟨w5.heap.size, x.toNat, none⟩ = some (.string v) := by
          rcases three hx with rfl | rfl | rfl
          all_goals (refine ⟨_, ?_, (by rw [h6dd, World.cell?_alloc_at (hn := by first | rfl | simp [World.setCell])]; rfl)⟩; decide)
        obtain ⟨v, hv, hcv⟩ := hcell
        have x1 := hx.1
        have x4 := hx.2.1 (by omega)
        clear h6dd h6dg h6dx h6dy
        clear hx hp hn hn2 k3
        set_option maxRecDepth 100000 in
        go_wp2
        have hp := HP.out
        have k3 := K3.out
        all_goals (go_meet; case rel => exact ⟨1 + y, a, nn, v, q + 1 + 1 + 1, by first | assumption | decide, by first | assumption | decide, by omega, by (repeat' (first | assumption | (with_reducible refine InsAt.alloc ?_ _) | (with_reducible apply InsAt.set0) | (with_reducible apply InsAt.set1) | (with_reducible apply InsAt.set2) | (with_reducible apply InsAt.set3) | (with_reducible refine InsAt.set ?_ ?_ _) | (with_reducible refine InsAt.drew ?_) | (with_reducible refine InsAt.drewN ?_ _) | (refine InsAt.ex ?_ (by assumption) ?_ ?_) | go_size)), by (repeat' (first | assumption | (with_reducible refine InsAt.alloc ?_ _) | (with_reducible apply InsAt.set0) | (with_reducible apply InsAt.set1) | (with_reducible apply InsAt.set2) | (with_reducible apply InsAt.set3) | (with_reducible refine InsAt.set ?_ ?_ _) | (with_reducible refine InsAt.drew ?_) | (with_reducible refine InsAt.drewN ?_ _) | (refine InsAt.ex ?_ (by assumption) ?_ ?_) | go_size)), by (repeat' (first | assumption | (with_reducible refine Rd.alloc ?_ _) | (with_reducible refine Rd.setCell ?_ ?_ _) | (with_reducible refine Rd.drew ?_) | (with_reducible refine Rd.drewN ?_ _) | (refine rd_below (by assumption) ?_ ?_) | go_size)), by (repeat' (first | (with_reducible exact Ex.refl _ _ _) | (with_reducible exact Below.refl _ _) | (with_reducible refine Ex.alloc ?_ ?_ _) | (with_reducible refine Ex.setCell ?_ ?_ _) | (with_reducible refine Ex.drew ?_) | (with_reducible refine Ex.drewN ?_ _) | (with_reducible refine Below.alloc ?_ ?_ _) | (with_reducible refine Below.setCell ?_ ?_ _) | (with_reducible refine Below.drew ?_) | (refine ex_hyp (by assumption) ?_ ?_) | (refine ex_below (by assumption) ?_ ?_) | (refine below_ex (by assumption) ?_ ?_ ?_) | (refine below_hyp (by assumption) ?_ ?_) | go_size))⟩)
  case rest =>
  clear iA iR hE h7 hS4 k1 k2 k3 hp hn hn2
  obtain ⟨op, a, nn, mm, q, k1, k2, k3, hA, hR, hQ, hX⟩ := hcut
  obtain ⟨i0, i1, i2, i3, i4, j1, j2, j3, j4⟩ := hA
  obtain ⟨r0, r1, r2, r3, r4, s1, s2, s3, s4⟩ := hR
  go_wp2
  all_goals
    refine bodyPost_ret (v := ?_) ?hrun rfl ?_
    case hrun => (simp only [results, Tryd.results15]; go_simp; first | done | exact rfl)
    exact HR.out _ _ ⟨⟨_, _, _, _, k1, k2, rfl⟩, ⟨q, by omega, by (repeat' (first | assumption | (with_reducible refine Rd.alloc ?_ _) | (with_reducible refine Rd.setCell ?_ ?_ _) | (with_reducible refine Rd.drew ?_) | (with_reducible refine Rd.drewN ?_ _) | (refine rd_below (by assumption) ?_ ?_) | go_size))⟩, by (repeat' (first | (with_reducible exact Ex.refl _ _ _) | (with_reducible exact Below.refl _ _) | (with_reducible refine Ex.alloc ?_ ?_ _) | (with_reducible refine Ex.setCell ?_ ?_ _) | (with_reducible refine Ex.drew ?_) | (with_reducible refine Ex.drewN ?_ _) | (with_reducible refine Below.alloc ?_ ?_ _) | (with_reducible refine Below.setCell ?_ ?_ _) | (with_reducible refine Below.drew ?_) | (refine ex_hyp (by assumption) ?_ ?_) | (refine ex_below (by assumption) ?_ ?_) | (refine below_ex (by assumption) ?_ ?_ ?_) | (refine below_hyp (by assumption) ?_ ?_) | go_size))⟩

end Go.Proofs.YtmbfpbgkchncgaaDoor
