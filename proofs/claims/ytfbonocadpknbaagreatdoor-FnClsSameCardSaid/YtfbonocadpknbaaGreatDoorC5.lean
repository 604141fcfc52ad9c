/-
  Texts of mine, packed: Lines, DrawI, LinesB. No condition beside those of the single theorems.
-/
import Derived.Test.YtfbonocadpknbaaGreatDoorC2
import Derived.Test.YtfbonocadpknbaaGreatDoorC4
import Derived.Test.YtfbonocadpknbaaGreatDoorC1
import Derived.Deep.CutRange
import Derived.Deep.CutBlock
set_option linter.unusedSimpArgs false
set_option linter.unusedVariables false
set_option maxHeartbeats 16000000
set_option maxRecDepth 100000
namespace Go.Proofs.YtfbonocadpknbaaGreatDoor
open Go.RowKit
theorem sty_Str : STy 28 9 1 (.string ⟨#[]⟩) 16 := ⟨Tryz.underlying28, by kernel_rfl, rfl, by decide, by decide⟩
structure StrAt (w : World) (b : Nat) (l : List ByteArray) : Prop where
 lt : b < w.heap.size
 cell : ∀ (j : Nat) x, l[j]? = some x → w.cell? ⟨b, j, none⟩ = some (.string x)
theorem StrAt.below {w w' : World} {b : Nat} {l : List ByteArray} (h : StrAt w b l) (hb : Below w.heap.size w w') : StrAt w' b l := ⟨Nat.lt_of_lt_of_le h.lt hb.size, fun j x hx => qad hb (h.cell j x hx)⟩
theorem StrAt.ex {w w' : World} {b r B : Nat} {l : List ByteArray} (h : StrAt w b l) (he : Ex r B w w') (hr : b ≠ r) (hB : b < B) : StrAt w' b l := ⟨Nat.lt_of_lt_of_le h.lt he.size, fun j x hx => (qag (he.block b hr hB)).trans (h.cell j x hx)⟩
theorem StrAt.new (w : World) (l : List ByteArray) : StrAt (w.alloc (.cells (l.map Value.string).toArray 9)) w.heap.size l := ⟨by simp, fun j x hx => by
 rw [World.cell?_alloc_at (hn := rfl)]
 simp [List.getElem?_map, hx]⟩
theorem StrAt.alloc {w : World} {b : Nat} {l : List ByteArray} (h : StrAt w b l) (o : Obj) : StrAt (w.alloc o) b l := h.below ((Below.refl _ _).alloc (Nat.le_refl _) o)
theorem StrAt.lit (w : World) (cs : Array Value) (l : List ByteArray) (b : Nat) (hb : b = w.heap.size) (h : cs = (l.map Value.string).toArray) : StrAt (w.alloc (.cells cs 9)) b l := by
 subst hb; subst h; exact StrAt.new w l
def rowsOf (l : List ByteArray) : List (List Value) := l.map fun x => [.string x]
theorem rowsOf_flat : ∀ (l : List ByteArray), (rowsOf l).flatten = l.map Value.string
 | [] => rfl
 | x :: r => by
   have := rowsOf_flat r
   unfold rowsOf at this ⊢
   simp [this]
theorem rowsOf_rows {lo : Nat} {w : World} {l : List ByteArray} (h : ∀ x ∈ l, x.size ≤ maxLen) : Rows 1 rStr lo w (rowsOf l) l := ⟨by simp [rowsOf], fun i x cs hx hc => by
 unfold rowsOf at hc
 rw [List.getElem?_map, hx] at hc
 cases hc
 exact ⟨rfl, rfl, h x (List.mem_of_getElem? hx)⟩⟩
theorem StrAt.src {w : World} {b c : Nat} {l : List ByteArray} (h : StrAt w b l) : Src 1 w (.slice (some ⟨b, 0, none⟩) l.length c) (rowsOf l) :=
 Or.inr ⟨⟨b, 0, none⟩, c, by simp [rowsOf], fun j u hj => by
  rw [rowsOf_flat, List.getElem?_map] at hj
  cases hx : l[j]? with
  | none => rw [hx] at hj; cases hj
  | some x =>
    rw [hx] at hj
    cases hj
    rw [Addr.add_mid, Nat.zero_add]
    exact h.cell j x hx⟩

structure BlksAt (w : World) (lo B : Nat) : Prop where
 lt : B < w.heap.size
 low : lo ≤ B
 at' : ∀ i, i < 11 → ∃ b, lo ≤ b ∧ b < B ∧ w.cell? ⟨B, i, none⟩ = some (.slice (some ⟨b, 0, none⟩) (blk i).length (blk i).length) ∧ StrAt w b (blk i)
theorem BlksAt.ex {w w' : World} {lo B r B1 : Nat} (h : BlksAt w lo B) (he : Ex r B1 w w') (hr : r < lo) (hB : B < B1) : BlksAt w' lo B := ⟨Nat.lt_of_lt_of_le h.lt he.size, h.low, fun i hi => by
 obtain ⟨b, h0, h1, h2, h3⟩ := h.at' i hi
 have hl := h.low
 exact ⟨b, h0, h1, (qag (he.block B (by omega) hB)).trans h2, h3.ex he (by omega) (by omega)⟩⟩

theorem S_l20Blocks (w : World) :
  Calls Tryz.prog 74 #[] w fun e w' => ∃ B, e = .returned (.slice (some ⟨B, 0, none⟩) 11 11) ∧ BlksAt w' w.heap.size B ∧ Below w.heap.size w w' := by
 refine qab fun R HR => ?_
 go_enter Tryz.func74, Tryz.ntmps74
 go_wp2
 all_goals
  (try go_returns)
  refine HR.out _ _ ⟨w.heap.size + 11, ?_, ?_, bbel⟩
  ·rfl
  ·refine ⟨by simp, by omega, fun i hi => ?_⟩
   match i, hi with
   | 0, _ => exact ⟨w.heap.size + 0, by omega, by omega, by first | (go_simp; rfl) | go_simp, by
     iterate 11 refine StrAt.alloc ?_ _
     exact StrAt.lit _ _ _ _ (by simp) (by rfl)⟩
   | 1, _ => exact ⟨w.heap.size + 1, by omega, by omega, by first | (go_simp; rfl) | go_simp, by
     iterate 10 refine StrAt.alloc ?_ _
     exact StrAt.lit _ _ _ _ (by simp) (by rfl)⟩
   | 2, _ => exact ⟨w.heap.size + 2, by omega, by omega, by first | (go_simp; rfl) | go_simp, by
     iterate 9 refine StrAt.alloc ?_ _
     exact StrAt.lit _ _ _ _ (by simp) (by rfl)⟩
   | 3, _ => exact ⟨w.heap.size + 3, by omega, by omega, by first | (go_simp; rfl) | go_simp, by
     iterate 8 refine StrAt.alloc ?_ _
     exact StrAt.lit _ _ _ _ (by simp) (by rfl)⟩
   | 4, _ => exact ⟨w.heap.size + 4, by omega, by omega, by first | (go_simp; rfl) | go_simp, by
     iterate 7 refine StrAt.alloc ?_ _
     exact StrAt.lit _ _ _ _ (by simp) (by rfl)⟩
   | 5, _ => exact ⟨w.heap.size + 5, by omega, by omega, by first | (go_simp; rfl) | go_simp, by
     iterate 6 refine StrAt.alloc ?_ _
     exact StrAt.lit _ _ _ _ (by simp) (by rfl)⟩
   | 6, _ => exact ⟨w.heap.size + 6, by omega, by omega, by first | (go_simp; rfl) | go_simp, by
     iterate 5 refine StrAt.alloc ?_ _
     exact StrAt.lit _ _ _ _ (by simp) (by rfl)⟩
   | 7, _ => exact ⟨w.heap.size + 7, by omega, by omega, by first | (go_simp; rfl) | go_simp, by
     iterate 4 refine StrAt.alloc ?_ _
     exact StrAt.lit _ _ _ _ (by simp) (by rfl)⟩
   | 8, _ => exact ⟨w.heap.size + 8, by omega, by omega, by first | (go_simp; rfl) | go_simp, by
     iterate 3 refine StrAt.alloc ?_ _
     exact StrAt.lit _ _ _ _ (by simp) (by rfl)⟩
   | 9, _ => exact ⟨w.heap.size + 9, by omega, by omega, by first | (go_simp; rfl) | go_simp, by
     iterate 2 refine StrAt.alloc ?_ _
     exact StrAt.lit _ _ _ _ (by simp) (by rfl)⟩
   | 10, _ => exact ⟨w.heap.size + 10, by omega, by omega, by first | (go_simp; rfl) | go_simp, by
     iterate 1 refine StrAt.alloc ?_ _
     exact StrAt.lit _ _ _ _ (by simp) (by rfl)⟩
   | n + 11, h => omega

structure InsAt (w : World) (B : Nat) (op a : Int) (n m : ByteArray) : Prop where
 lt : B < w.heap.size
 c0 : w.cell? ⟨B, 0, none⟩ = some (.int .i64 op)
 c1 : w.cell? ⟨B, 1, none⟩ = some (.int .i64 a)
 c2 : w.cell? ⟨B, 2, none⟩ = some (.string n)
 c3 : w.cell? ⟨B, 3, none⟩ = some (.string m)
 f0 : w.frozen? ⟨B, 0, none⟩ = false
 f1 : w.frozen? ⟨B, 1, none⟩ = false
 f2 : w.frozen? ⟨B, 2, none⟩ = false
 f3 : w.frozen? ⟨B, 3, none⟩ = false

theorem four {x : Int} (h : InPick 4 x) : x = 0 ∨ x = 1 ∨ x = 2 ∨ x = 3 := by
 obtain ⟨h1, h2, h3⟩ := h; omega

theorem six {x : Int} (h : InPick 6 x) : x = 0 ∨ x = 1 ∨ x = 2 ∨ x = 3 ∨ x = 4 ∨ x = 5 := by
 obtain ⟨h1, h2, h3⟩ := h; omega


theorem InsAt.ex {w w' : World} {B r B1 : Nat} {op a : Int} {n m : ByteArray} (h : InsAt w B op a n m) (he : Ex r B1 w w') (h1 : B < B1) (h2 : B ≠ r) : InsAt w' B op a n m := by
 have hk := he.block B h2 h1
 have hz := he.size
 have hl := h.lt
 exact ⟨by omega, (qag hk).trans h.c0, (qag hk).trans h.c1, (qag hk).trans h.c2, (qag hk).trans h.c3, (qao hk).trans h.f0, (qao hk).trans h.f1, (qao hk).trans h.f2, (qao hk).trans h.f3⟩
theorem InsAt.alloc {w : World} {B : Nat} {op a : Int} {n m : ByteArray} (h : InsAt w B op a n m) (o : Obj) : InsAt (w.alloc o) B op a n m :=
 h.ex (r := B + 1) (B1 := B + 1) ⟨rfl, rfl, rfl, by simp, fun k _ hk => Below.heap_alloc _ _ _ (by have := h.lt; omega)⟩ (by omega) (by omega)

theorem InsAt.set {w : World} {B : Nat} {op a : Int} {n m : ByteArray} (h : InsAt w B op a n m) {p : Addr} (hp : B ≠ p.block) (v : Value) : InsAt (w.setCell p v) B op a n m :=
 h.ex (r := p.block) (B1 := B + 1) ⟨rfl, rfl, rfl, by simp [World.setCell], fun k hk _ => Below.heap_setCell _ _ _ _ hk⟩ (by omega) hp
theorem InsAt.drew {w : World} {B : Nat} {op a : Int} {n m : ByteArray} (h : InsAt w B op a n m) : InsAt w.drew B op a n m := ⟨h.lt, h.c0, h.c1, h.c2, h.c3, h.f0, h.f1, h.f2, h.f3⟩
theorem InsAt.drewN {w : World} {B : Nat} {op a : Int} {n m : ByteArray} (h : InsAt w B op a n m) (q : Nat) : InsAt (w.drewN q) B op a n m := ⟨h.lt, h.c0, h.c1, h.c2, h.c3, h.f0, h.f1, h.f2, h.f3⟩
theorem InsAt.set0 {w : World} {B : Nat} {op a op' a' : Int} {n m n' m' : ByteArray} (h : InsAt w B op a n m) : InsAt (w.setCell ⟨B, 0, none⟩ (.int .i64 op')) B op' a n m := by
 obtain ⟨l, c0, c1, c2, c3, f0, f1, f2, f3⟩ := h
 constructor
 ·simpa [World.setCell] using l
 all_goals (go_simp <;> rfl)
theorem InsAt.set1 {w : World} {B : Nat} {op a op' a' : Int} {n m n' m' : ByteArray} (h : InsAt w B op a n m) : InsAt (w.setCell ⟨B, 1, none⟩ (.int .i64 a')) B op a' n m := by
 obtain ⟨l, c0, c1, c2, c3, f0, f1, f2, f3⟩ := h
 constructor
 ·simpa [World.setCell] using l
 all_goals (go_simp <;> rfl)
theorem InsAt.set2 {w : World} {B : Nat} {op a op' a' : Int} {n m n' m' : ByteArray} (h : InsAt w B op a n m) : InsAt (w.setCell ⟨B, 2, none⟩ (.string n')) B op a n' m := by
 obtain ⟨l, c0, c1, c2, c3, f0, f1, f2, f3⟩ := h
 constructor
 ·simpa [World.setCell] using l
 all_goals (go_simp <;> rfl)
theorem InsAt.set3 {w : World} {B : Nat} {op a op' a' : Int} {n m n' m' : ByteArray} (h : InsAt w B op a n m) : InsAt (w.setCell ⟨B, 3, none⟩ (.string m')) B op a n m' := by
 obtain ⟨l, c0, c1, c2, c3, f0, f1, f2, f3⟩ := h
 constructor
 ·simpa [World.setCell] using l
 all_goals (go_simp <;> rfl)
theorem InsAt.len {w : World} {B : Nat} {op a : Int} {n m : ByteArray} (h : InsAt w B op a n m) : B < w.heap.size := h.lt


theorem S_l20Ins (r p : Nat) (n : Int) (w : World) (hn : -9223372036854775808 < n) (hn2 : n ≤ 9223372036854775807) (hr : Rd w r p) (hp : p < 900000) :
  Calls Tryz.prog 55 #[.pointer (some ⟨r, 0, none⟩), .int .i64 n] w fun e w' => (∃ (op a : Int) (n m : ByteArray), n.size ≤ 4 ∧ m.size ≤ 4 ∧ e = .returned (.agg #[.int .i64 op, .int .i64 a, .string n, .string m])) ∧ (∃ q, q ≤ p + 10 ∧ Rd w' r q) ∧ Ex r w.heap.size w w' := by
 have hlt := hr.lt
 refine qab fun R HR => ?_
 go_enter Tryz.func55, Tryz.ntmps55
 go_wp2_with fail
 refine (S_pick r p 15 _ (by omega) (rdd) (by omega)).mono ?_
 rintro e w1 ⟨⟨y, hy, rfl⟩, h1, h2⟩
 have h2s := (h2).size; (try simp only [qsz] at h2s)
 obtain ⟨h2ac, h2ad, h2af, h2ag, h2az, h2ax, h2ay⟩ := efacts (n := w.heap.size) (k := 1) h2 (by go_size) (by go_size) (by first | omega | (simp; omega)); replace h2ad := h2ad (by decide); replace h2ag := h2ag (by decide); replace h2ax := h2ax (by decide); clear h2ac h2af h2az
 obtain ⟨y1, y2, y3⟩ := hy
 have y4 : y < 15 := y2 (by omega)
 clear y2 y3
 go_wp2_with fail
 refine (S_pick r (p + 1) 4 _ (by omega) (rdd) (by omega)).mono ?_
 rintro e w2 ⟨⟨z, hz, rfl⟩, h3, h4⟩
 have h4s := (h4).size; (try simp only [qsz] at h4s)
 obtain ⟨h4bc, h4bd, h4bf, h4bg, h4bz, h4bx, h4by⟩ := efacts (n := w1.heap.size) (k := 2) h4 (by go_size) (by go_size) (by first | omega | (simp; omega)); replace h4bd := h4bd (by decide); replace h4bg := h4bg (by decide); replace h4bx := h4bx (by decide); have h4bc1 := fun o => h4bc 1 o (by decide); have h4bf1 := fun o => h4bf 1 o (by decide); have h4bz1 := h4bz 1 (by decide); clear h4bc h4bf h4bz
 obtain ⟨h4cc, h4cd, h4cf, h4cg, h4cz, h4cx, h4cy⟩ := efacts (n := w.heap.size) (k := 1) h4 (by go_size) (by go_size) (by first | omega | (simp; omega)); replace h4cd := h4cd (by decide); replace h4cg := h4cg (by decide); replace h4cx := h4cx (by decide); clear h4cc h4cf h4cz
 have iA : InsAt w2 w1.heap.size (1 + y) 0 ⟨#[]⟩ ⟨#[]⟩ := by (constructor; (first | omega | go_size); all_goals (first | assumption | (go_simp; done) | (go_simp <;> rfl)))
 have iR : InsAt w2 w.heap.size 0 0 ⟨#[]⟩ ⟨#[]⟩ := by (constructor; (first | omega | go_size); all_goals (first | assumption | (go_simp; done) | (go_simp <;> rfl)))
 have hcell : ∃ s : ByteArray, s.size ≤ 4 ∧ w2.cell? ⟨w1.heap.size + 1, z.toNat, none⟩ = some (.string s) := by
  rcases four hz with rfl | rfl | rfl | rfl
  all_goals
   refine ⟨_, ?_, (by go_simp; rfl)⟩
   decide
 obtain ⟨nm, hnm, hc⟩ := hcell
 obtain ⟨z1, z2, z3⟩ := hz
 have z4 : z < 4 := z2 (by omega)
 clear z2 z3
 have hE : Ex r w.heap.size w w2 := eexx
 have hB : w.heap.size < w1.heap.size := by omega
 clear h4bc1 h4bf1 h4bd h4bg h4bx h4by h4cd h4cg h4cx h4cy h2ad h2ag h2ax h2ay h4 h2 h2s h1
 generalize w1.heap.size = B at *
 obtain ⟨i0, i1, i2, i3, i4, j1, j2, j3, j4⟩ := id iA
 go_upto_block 0 with fail
 go_cut [] from 18 to 64 (fun wx => ∃ (a : Int) (n m : ByteArray) (q : Nat), n.size ≤ 4 ∧ m.size ≤ 4 ∧ q ≤ p + 3 ∧ InsAt wx B (1 + y) a n m ∧ InsAt wx w.heap.size 0 0 ⟨#[]⟩ ⟨#[]⟩ ∧ Rd wx r q ∧ Ex r w.heap.size w wx)
 case first =>
  clear hc
  have HP := qhd hp
  go_wp2_with fail
  ·(refine (S_pick r (p + 1 + 1) 6 _ (by omega) (rdd) (by omega)).mono ?_; rintro e w3 ⟨⟨x, hx, rfl⟩, h5, h6⟩; have h6s := (h6).size; (try simp only [qsz] at h6s))
   have iB : InsAt w3 B (1 + y) 0 ⟨#[]⟩ ⟨#[]⟩ := by (repeat' (first | assumption | (with_reducible refine InsAt.alloc ?_ _) | (with_reducible apply InsAt.set0) | (with_reducible apply InsAt.set1) | (with_reducible apply InsAt.set2) | (with_reducible apply InsAt.set3) | (with_reducible refine InsAt.set ?_ ?_ _) | (with_reducible refine InsAt.drew ?_) | (with_reducible refine InsAt.drewN ?_ _) | (refine InsAt.ex ?_ (by assumption) ?_ ?_) | go_size))
   obtain ⟨i0', i1', i2', i3', i4', j1', j2', j3', j4'⟩ := id iB
   clear i0 i1 i2 i3 i4 j1 j2 j3 j4
   obtain ⟨h6dc, h6dd, h6df, h6dg, h6dz, h6dx, h6dy⟩ := efacts (n := w2.heap.size) (k := 1) h6 (by go_size) (by go_size) (by first | omega | (simp; omega)); replace h6dd := h6dd (by decide); replace h6dg := h6dg (by decide); replace h6dx := h6dx (by decide); clear h6dc h6df h6dz
   have hcell : ∃ v : Int, w3.cell? ⟨w2.heap.size, x.toNat, none⟩ = some (.int .i64 v) := by
    rcases six hx with rfl | rfl | rfl | rfl | rfl | rfl
    all_goals exact ⟨_, (by rw [h6dd, World.cell?_alloc_at (hn := by first | rfl | simp [World.setCell])]; rfl)⟩
   obtain ⟨v, hcv⟩ := hcell
   have x1 := hx.1
   have x4 := hx.2.1 (by omega)
   clear h6dd h6dg h6dx h6dy
   clear hx hp hn hn2 h4s
   set_option maxRecDepth 100000 in
   go_wp2
   have hp := HP.out
   all_goals (go_meet; case rel => exact ⟨v, ⟨#[]⟩, ⟨#[]⟩, p + 1 + 1 + 1, by first | assumption | decide, by first | assumption | decide, by omega, by (repeat' (first | assumption | (with_reducible refine InsAt.alloc ?_ _) | (with_reducible apply InsAt.set0) | (with_reducible apply InsAt.set1) | (with_reducible apply InsAt.set2) | (with_reducible apply InsAt.set3) | (with_reducible refine InsAt.set ?_ ?_ _) | (with_reducible refine InsAt.drew ?_) | (with_reducible refine InsAt.drewN ?_ _) | (refine InsAt.ex ?_ (by assumption) ?_ ?_) | go_size)), by (repeat' (first | assumption | (with_reducible refine InsAt.alloc ?_ _) | (with_reducible apply InsAt.set0) | (with_reducible apply InsAt.set1) | (with_reducible apply InsAt.set2) | (with_reducible apply InsAt.set3) | (with_reducible refine InsAt.set ?_ ?_ _) | (with_reducible refine InsAt.drew ?_) | (with_reducible refine InsAt.drewN ?_ _) | (refine InsAt.ex ?_ (by assumption) ?_ ?_) | go_size)), rdd, eexx⟩)
  ·(refine (S_pick r (p + 1 + 1) 3 _ (by omega) (rdd) (by omega)).mono ?_; rintro e w3 ⟨⟨x, hx, rfl⟩, h5, h6⟩; have h6s := (h6).size; (try simp only [qsz] at h6s))
   have iB : InsAt w3 B (1 + y) 0 ⟨#[]⟩ ⟨#[]⟩ := by (repeat' (first | assumption | (with_reducible refine InsAt.alloc ?_ _) | (with_reducible apply InsAt.set0) | (with_reducible apply InsAt.set1) | (with_reducible apply InsAt.set2) | (with_reducible apply InsAt.set3) | (with_reducible refine InsAt.set ?_ ?_ _) | (with_reducible refine InsAt.drew ?_) | (with_reducible refine InsAt.drewN ?_ _) | (refine InsAt.ex ?_ (by assumption) ?_ ?_) | go_size))
   obtain ⟨i0', i1', i2', i3', i4', j1', j2', j3', j4'⟩ := id iB
   clear i0 i1 i2 i3 i4 j1 j2 j3 j4
   clear hx hp hn hn2 h4s
   set_option maxRecDepth 100000 in
   go_wp2
   have hp := HP.out
   all_goals (go_meet; case rel => exact ⟨x, ⟨#[]⟩, ⟨#[]⟩, p + 1 + 1 + 1, by first | assumption | decide, by first | assumption | decide, by omega, by (repeat' (first | assumption | (with_reducible refine InsAt.alloc ?_ _) | (with_reducible apply InsAt.set0) | (with_reducible apply InsAt.set1) | (with_reducible apply InsAt.set2) | (with_reducible apply InsAt.set3) | (with_reducible refine InsAt.set ?_ ?_ _) | (with_reducible refine InsAt.drew ?_) | (with_reducible refine InsAt.drewN ?_ _) | (refine InsAt.ex ?_ (by assumption) ?_ ?_) | go_size)), by (repeat' (first | assumption | (with_reducible refine InsAt.alloc ?_ _) | (with_reducible apply InsAt.set0) | (with_reducible apply InsAt.set1) | (with_reducible apply InsAt.set2) | (with_reducible apply InsAt.set3) | (with_reducible refine InsAt.set ?_ ?_ _) | (with_reducible refine InsAt.drew ?_) | (with_reducible refine InsAt.drewN ?_ _) | (refine InsAt.ex ?_ (by assumption) ?_ ?_) | go_size)), rdd, eexx⟩)
  ·(refine (S_pick r (p + 1 + 1) 3 _ (by omega) (rdd) (by omega)).mono ?_; rintro e w3 ⟨⟨x, hx, rfl⟩, h5, h6⟩; have h6s := (h6).size; (try simp only [qsz] at h6s))
   have iB : InsAt w3 B (1 + y) 0 ⟨#[]⟩ ⟨#[]⟩ := by (repeat' (first | assumption | (with_reducible refine InsAt.alloc ?_ _) | (with_reducible apply InsAt.set0) | (with_reducible apply InsAt.set1) | (with_reducible apply InsAt.set2) | (with_reducible apply InsAt.set3) | (with_reducible refine InsAt.set ?_ ?_ _) | (with_reducible refine InsAt.drew ?_) | (with_reducible refine InsAt.drewN ?_ _) | (refine InsAt.ex ?_ (by assumption) ?_ ?_) | go_size))
   obtain ⟨i0', i1', i2', i3', i4', j1', j2', j3', j4'⟩ := id iB
   clear i0 i1 i2 i3 i4 j1 j2 j3 j4
   clear hx hp hn hn2 h4s
   set_option maxRecDepth 100000 in
   go_wp2
   have hp := HP.out
   all_goals (go_meet; case rel => exact ⟨x, ⟨#[]⟩, ⟨#[]⟩, p + 1 + 1 + 1, by first | assumption | decide, by first | assumption | decide, by omega, by (repeat' (first | assumption | (with_reducible refine InsAt.alloc ?_ _) | (with_reducible apply InsAt.set0) | (with_reducible apply InsAt.set1) | (with_reducible apply InsAt.set2) | (with_reducible apply InsAt.set3) | (with_reducible refine InsAt.set ?_ ?_ _) | (with_reducible refine InsAt.drew ?_) | (with_reducible refine InsAt.drewN ?_ _) | (refine InsAt.ex ?_ (by assumption) ?_ ?_) | go_size)), by (repeat' (first | assumption | (with_reducible refine InsAt.alloc ?_ _) | (with_reducible apply InsAt.set0) | (with_reducible apply InsAt.set1) | (with_reducible apply InsAt.set2) | (with_reducible apply InsAt.set3) | (with_reducible refine InsAt.set ?_ ?_ _) | (with_reducible refine InsAt.drew ?_) | (with_reducible refine InsAt.drewN ?_ _) | (refine InsAt.ex ?_ (by assumption) ?_ ?_) | go_size)), rdd, eexx⟩)
  ·(refine (S_pick r (p + 1 + 1) 10 _ (by omega) (rdd) (by omega)).mono ?_; rintro e w3 ⟨⟨x, hx, rfl⟩, h5, h6⟩; have h6s := (h6).size; (try simp only [qsz] at h6s))
   have iB : InsAt w3 B (1 + y) 0 ⟨#[]⟩ ⟨#[]⟩ := by (repeat' (first | assumption | (with_reducible refine InsAt.alloc ?_ _) | (with_reducible apply InsAt.set0) | (with_reducible apply InsAt.set1) | (with_reducible apply InsAt.set2) | (with_reducible apply InsAt.set3) | (with_reducible refine InsAt.set ?_ ?_ _) | (with_reducible refine InsAt.drew ?_) | (with_reducible refine InsAt.drewN ?_ _) | (refine InsAt.ex ?_ (by assumption) ?_ ?_) | go_size))
   obtain ⟨i0', i1', i2', i3', i4', j1', j2', j3', j4'⟩ := id iB
   clear i0 i1 i2 i3 i4 j1 j2 j3 j4
   clear hx hp hn hn2 h4s
   set_option maxRecDepth 100000 in
   go_wp2
   have hp := HP.out
   all_goals (go_meet; case rel => exact ⟨x, ⟨#[]⟩, ⟨#[]⟩, p + 1 + 1 + 1, by first | assumption | decide, by first | assumption | decide, by omega, by (repeat' (first | assumption | (with_reducible refine InsAt.alloc ?_ _) | (with_reducible apply InsAt.set0) | (with_reducible apply InsAt.set1) | (with_reducible apply InsAt.set2) | (with_reducible apply InsAt.set3) | (with_reducible refine InsAt.set ?_ ?_ _) | (with_reducible refine InsAt.drew ?_) | (with_reducible refine InsAt.drewN ?_ _) | (refine InsAt.ex ?_ (by assumption) ?_ ?_) | go_size)), by (repeat' (first | assumption | (with_reducible refine InsAt.alloc ?_ _) | (with_reducible apply InsAt.set0) | (with_reducible apply InsAt.set1) | (with_reducible apply InsAt.set2) | (with_reducible apply InsAt.set3) | (with_reducible refine InsAt.set ?_ ?_ _) | (with_reducible refine InsAt.drew ?_) | (with_reducible refine InsAt.drewN ?_ _) | (refine InsAt.ex ?_ (by assumption) ?_ ?_) | go_size)), rdd, eexx⟩)
  ·(refine (S_pick r (p + 1 + 1) 10 _ (by omega) (rdd) (by omega)).mono ?_; rintro e w3 ⟨⟨x, hx, rfl⟩, h5, h6⟩; have h6s := (h6).size; (try simp only [qsz] at h6s))
   have iB : InsAt w3 B (1 + y) 0 ⟨#[]⟩ ⟨#[]⟩ := by (repeat' (first | assumption | (with_reducible refine InsAt.alloc ?_ _) | (with_reducible apply InsAt.set0) | (with_reducible apply InsAt.set1) | (with_reducible apply InsAt.set2) | (with_reducible apply InsAt.set3) | (with_reducible refine InsAt.set ?_ ?_ _) | (with_reducible refine InsAt.drew ?_) | (with_reducible refine InsAt.drewN ?_ _) | (refine InsAt.ex ?_ (by assumption) ?_ ?_) | go_size))
   obtain ⟨i0', i1', i2', i3', i4', j1', j2', j3', j4'⟩ := id iB
   clear i0 i1 i2 i3 i4 j1 j2 j3 j4
   clear hx hp hn hn2 h4s
   set_option maxRecDepth 100000 in
   go_wp2
   have hp := HP.out
   all_goals (go_meet; case rel => exact ⟨x, ⟨#[]⟩, ⟨#[]⟩, p + 1 + 1 + 1, by first | assumption | decide, by first | assumption | decide, by omega, by (repeat' (first | assumption | (with_reducible refine InsAt.alloc ?_ _) | (with_reducible apply InsAt.set0) | (with_reducible apply InsAt.set1) | (with_reducible apply InsAt.set2) | (with_reducible apply InsAt.set3) | (with_reducible refine InsAt.set ?_ ?_ _) | (with_reducible refine InsAt.drew ?_) | (with_reducible refine InsAt.drewN ?_ _) | (refine InsAt.ex ?_ (by assumption) ?_ ?_) | go_size)), by (repeat' (first | assumption | (with_reducible refine InsAt.alloc ?_ _) | (with_reducible apply InsAt.set0) | (with_reducible apply InsAt.set1) | (with_reducible apply InsAt.set2) | (with_reducible apply InsAt.set3) | (with_reducible refine InsAt.set ?_ ?_ _) | (with_reducible refine InsAt.drew ?_) | (with_reducible refine InsAt.drewN ?_ _) | (refine InsAt.ex ?_ (by assumption) ?_ ?_) | go_size)), rdd, eexx⟩)
  ·(refine (S_pick r (p + 1 + 1) 10 _ (by omega) (rdd) (by omega)).mono ?_; rintro e w3 ⟨⟨x, hx, rfl⟩, h5, h6⟩; have h6s := (h6).size; (try simp only [qsz] at h6s))
   have iB : InsAt w3 B (1 + y) 0 ⟨#[]⟩ ⟨#[]⟩ := by (repeat' (first | assumption | (with_reducible refine InsAt.alloc ?_ _) | (with_reducible apply InsAt.set0) | (with_reducible apply InsAt.set1) | (with_reducible apply InsAt.set2) | (with_reducible apply InsAt.set3) | (with_reducible refine InsAt.set ?_ ?_ _) | (with_reducible refine InsAt.drew ?_) | (with_reducible refine InsAt.drewN ?_ _) | (refine InsAt.ex ?_ (by assumption) ?_ ?_) | go_size))
   obtain ⟨i0', i1', i2', i3', i4', j1', j2', j3', j4'⟩ := id iB
   clear i0 i1 i2 i3 i4 j1 j2 j3 j4
   clear hx hp hn hn2 h4s
   set_option maxRecDepth 100000 in
   go_wp2
   have hp := HP.out
   all_goals (go_meet; case rel => exact ⟨x, ⟨#[]⟩, ⟨#[]⟩, p + 1 + 1 + 1, by first | assumption | decide, by first | assumption | decide, by omega, by (repeat' (first | assumption | (with_reducible refine InsAt.alloc ?_ _) | (with_reducible apply InsAt.set0) | (with_reducible apply InsAt.set1) | (with_reducible apply InsAt.set2) | (with_reducible apply InsAt.set3) | (with_reducible refine InsAt.set ?_ ?_ _) | (with_reducible refine InsAt.drew ?_) | (with_reducible refine InsAt.drewN ?_ _) | (refine InsAt.ex ?_ (by assumption) ?_ ?_) | go_size)), by (repeat' (first | assumption | (with_reducible refine InsAt.alloc ?_ _) | (with_reducible apply InsAt.set0) | (with_reducible apply InsAt.set1) | (with_reducible apply InsAt.set2) | (with_reducible apply InsAt.set3) | (with_reducible refine InsAt.set ?_ ?_ _) | (with_reducible refine InsAt.drew ?_) | (with_reducible refine InsAt.drewN ?_ _) | (refine InsAt.ex ?_ (by assumption) ?_ ?_) | go_size)), rdd, eexx⟩)
  ·(go_meet; case rel => exact ⟨0, nm, ⟨#[]⟩, p + 1 + 1, by first | assumption | decide, by first | assumption | decide, by omega, by (repeat' (first | assumption | (with_reducible refine InsAt.alloc ?_ _) | (with_reducible apply InsAt.set0) | (with_reducible apply InsAt.set1) | (with_reducible apply InsAt.set2) | (with_reducible apply InsAt.set3) | (with_reducible refine InsAt.set ?_ ?_ _) | (with_reducible refine InsAt.drew ?_) | (with_reducible refine InsAt.drewN ?_ _) | (refine InsAt.ex ?_ (by assumption) ?_ ?_) | go_size)), by (repeat' (first | assumption | (with_reducible refine InsAt.alloc ?_ _) | (with_reducible apply InsAt.set0) | (with_reducible apply InsAt.set1) | (with_reducible apply InsAt.set2) | (with_reducible apply InsAt.set3) | (with_reducible refine InsAt.set ?_ ?_ _) | (with_reducible refine InsAt.drew ?_) | (with_reducible refine InsAt.drewN ?_ _) | (refine InsAt.ex ?_ (by assumption) ?_ ?_) | go_size)), rdd, eexx⟩)
  ·(go_meet; case rel => exact ⟨0, nm, ⟨#[]⟩, p + 1 + 1, by first | assumption | decide, by first | assumption | decide, by omega, by (repeat' (first | assumption | (with_reducible refine InsAt.alloc ?_ _) | (with_reducible apply InsAt.set0) | (with_reducible apply InsAt.set1) | (with_reducible apply InsAt.set2) | (with_reducible apply InsAt.set3) | (with_reducible refine InsAt.set ?_ ?_ _) | (with_reducible refine InsAt.drew ?_) | (with_reducible refine InsAt.drewN ?_ _) | (refine InsAt.ex ?_ (by assumption) ?_ ?_) | go_size)), by (repeat' (first | assumption | (with_reducible refine InsAt.alloc ?_ _) | (with_reducible apply InsAt.set0) | (with_reducible apply InsAt.set1) | (with_reducible apply InsAt.set2) | (with_reducible apply InsAt.set3) | (with_reducible refine InsAt.set ?_ ?_ _) | (with_reducible refine InsAt.drew ?_) | (with_reducible refine InsAt.drewN ?_ _) | (refine InsAt.ex ?_ (by assumption) ?_ ?_) | go_size)), rdd, eexx⟩)
  ·(refine (S_pick r (p + 1 + 1) 3 _ (by omega) (rdd) (by omega)).mono ?_; rintro e w3 ⟨⟨x, hx, rfl⟩, h5, h6⟩; have h6s := (h6).size; (try simp only [qsz] at h6s))
   have iB : InsAt w3 B (1 + y) 0 nm ⟨#[]⟩ := by (repeat' (first | assumption | (with_reducible refine InsAt.alloc ?_ _) | (with_reducible apply InsAt.set0) | (with_reducible apply InsAt.set1) | (with_reducible apply InsAt.set2) | (with_reducible apply InsAt.set3) | (with_reducible refine InsAt.set ?_ ?_ _) | (with_reducible refine InsAt.drew ?_) | (with_reducible refine InsAt.drewN ?_ _) | (refine InsAt.ex ?_ (by assumption) ?_ ?_) | go_size))
   obtain ⟨i0', i1', i2', i3', i4', j1', j2', j3', j4'⟩ := id iB
   clear i0 i1 i2 i3 i4 j1 j2 j3 j4
   obtain ⟨h6dc, h6dd, h6df, h6dg, h6dz, h6dx, h6dy⟩ := efacts (n := w2.heap.size) (k := 1) h6 (by go_size) (by go_size) (by first | omega | (simp; omega)); replace h6dd := h6dd (by decide); replace h6dg := h6dg (by decide); replace h6dx := h6dx (by decide); clear h6dc h6df h6dz
   have hcell : ∃ v : ByteArray, v.size ≤ 4 ∧ w3.cell? ⟨w2.heap.size, x.toNat, none⟩ = some (.string v) := by
    rcases three hx with rfl | rfl | rfl
    all_goals (refine ⟨_, ?_, (by rw [h6dd, World.cell?_alloc_at (hn := by first | rfl | simp [World.setCell])]; rfl)⟩; decide)
   obtain ⟨v, hv, hcv⟩ := hcell
   have x1 := hx.1
   have x4 := hx.2.1 (by omega)
   clear h6dd h6dg h6dx h6dy
   clear hx hp hn hn2 h4s
   set_option maxRecDepth 100000 in
   go_wp2
   have hp := HP.out
   all_goals (go_meet; case rel => exact ⟨0, nm, v, p + 1 + 1 + 1, by first | assumption | decide, by first | assumption | decide, by omega, by (repeat' (first | assumption | (with_reducible refine InsAt.alloc ?_ _) | (with_reducible apply InsAt.set0) | (with_reducible apply InsAt.set1) | (with_reducible apply InsAt.set2) | (with_reducible apply InsAt.set3) | (with_reducible refine InsAt.set ?_ ?_ _) | (with_reducible refine InsAt.drew ?_) | (with_reducible refine InsAt.drewN ?_ _) | (refine InsAt.ex ?_ (by assumption) ?_ ?_) | go_size)), by (repeat' (first | assumption | (with_reducible refine InsAt.alloc ?_ _) | (with_reducible apply InsAt.set0) | (with_reducible apply InsAt.set1) | (with_reducible apply InsAt.set2) | (with_reducible apply InsAt.set3) | (with_reducible refine InsAt.set ?_ ?_ _) | (with_reducible refine InsAt.drew ?_) | (with_reducible refine InsAt.drewN ?_ _) | (refine InsAt.ex ?_ (by assumption) ?_ ?_) | go_size)), rdd, eexx⟩)
  ·(refine (S_pick r (p + 1 + 1) 3 _ (by omega) (rdd) (by omega)).mono ?_; rintro e w3 ⟨⟨x, hx, rfl⟩, h5, h6⟩; have h6s := (h6).size; (try simp only [qsz] at h6s))
   have iB : InsAt w3 B (1 + y) 0 nm ⟨#[]⟩ := by (repeat' (first | assumption | (with_reducible refine InsAt.alloc ?_ _) | (with_reducible apply InsAt.set0) | (with_reducible apply InsAt.set1) | (with_reducible apply InsAt.set2) | (with_reducible apply InsAt.set3) | (with_reducible refine InsAt.set ?_ ?_ _) | (with_reducible refine InsAt.drew ?_) | (with_reducible refine InsAt.drewN ?_ _) | (refine InsAt.ex ?_ (by assumption) ?_ ?_) | go_size))
   obtain ⟨i0', i1', i2', i3', i4', j1', j2', j3', j4'⟩ := id iB
   clear i0 i1 i2 i3 i4 j1 j2 j3 j4
   obtain ⟨h6dc, h6dd, h6df, h6dg, h6dz, h6dx, h6dy⟩ := efacts (n := w2.heap.size) (k := 1) h6 (by go_size) (by go_size) (by first | omega | (simp; omega)); replace h6dd := h6dd (by decide); replace h6dg := h6dg (by decide); replace h6dx := h6dx (by decide); clear h6dc h6df h6dz
   have hcell : ∃ v : ByteArray, v.size ≤ 4 ∧ w3.cell? ⟨w2.heap.size, x.toNat, none⟩ = some (.string v) := by
    rcases three hx with rfl | rfl | rfl
    all_goals (refine ⟨_, ?_, (by rw [h6dd, World.cell?_alloc_at (hn := by first | rfl | simp [World.setCell])]; rfl)⟩; decide)
   obtain ⟨v, hv, hcv⟩ := hcell
   have x1 := hx.1
   have x4 := hx.2.1 (by omega)
   clear h6dd h6dg h6dx h6dy
   clear hx hp hn hn2 h4s
   set_option maxRecDepth 100000 in
   go_wp2
   have hp := HP.out
   all_goals (go_meet; case rel => exact ⟨0, nm, v, p + 1 + 1 + 1, by first | assumption | decide, by first | assumption | decide, by omega, by (repeat' (first | assumption | (with_reducible refine InsAt.alloc ?_ _) | (with_reducible apply InsAt.set0) | (with_reducible apply InsAt.set1) | (with_reducible apply InsAt.set2) | (with_reducible apply InsAt.set3) | (with_reducible refine InsAt.set ?_ ?_ _) | (with_reducible refine InsAt.drew ?_) | (with_reducible refine InsAt.drewN ?_ _) | (refine InsAt.ex ?_ (by assumption) ?_ ?_) | go_size)), by (repeat' (first | assumption | (with_reducible refine InsAt.alloc ?_ _) | (with_reducible apply InsAt.set0) | (with_reducible apply InsAt.set1) | (with_reducible apply InsAt.set2) | (with_reducible apply InsAt.set3) | (with_reducible refine InsAt.set ?_ ?_ _) | (with_reducible refine InsAt.drew ?_) | (with_reducible refine InsAt.drewN ?_ _) | (refine InsAt.ex ?_ (by assumption) ?_ ?_) | go_size)), rdd, eexx⟩)
  ·(refine (S_pick r (p + 1 + 1) 5 _ (by omega) (rdd) (by omega)).mono ?_; rintro e w3 ⟨⟨x, hx, rfl⟩, h5, h6⟩; have h6s := (h6).size; (try simp only [qsz] at h6s))
   have iB : InsAt w3 B (1 + y) 0 nm ⟨#[]⟩ := by (repeat' (first | assumption | (with_reducible refine InsAt.alloc ?_ _) | (with_reducible apply InsAt.set0) | (with_reducible apply InsAt.set1) | (with_reducible apply InsAt.set2) | (with_reducible apply InsAt.set3) | (with_reducible refine InsAt.set ?_ ?_ _) | (with_reducible refine InsAt.drew ?_) | (with_reducible refine InsAt.drewN ?_ _) | (refine InsAt.ex ?_ (by assumption) ?_ ?_) | go_size))
   obtain ⟨i0', i1', i2', i3', i4', j1', j2', j3', j4'⟩ := id iB
   clear i0 i1 i2 i3 i4 j1 j2 j3 j4
   obtain ⟨h6dc, h6dd, h6df, h6dg, h6dz, h6dx, h6dy⟩ := efacts (n := w2.heap.size) (k := 1) h6 (by go_size) (by go_size) (by first | omega | (simp; omega)); replace h6dd := h6dd (by decide); replace h6dg := h6dg (by decide); replace h6dx := h6dx (by decide); clear h6dc h6df h6dz
   have hcell : ∃ v : ByteArray, v.size ≤ 4 ∧ w3.cell? ⟨w2.heap.size, x.toNat, none⟩ = some (.string v) := by
    rcases five hx with rfl | rfl | rfl | rfl | rfl
    all_goals (refine ⟨_, ?_, (by rw [h6dd, World.cell?_alloc_at (hn := by first | rfl | simp [World.setCell])]; rfl)⟩; decide)
   obtain ⟨v, hv, hcv⟩ := hcell
   have x1 := hx.1
   have x4 := hx.2.1 (by omega)
   clear h6dd h6dg h6dx h6dy
   clear hx hp hn hn2 h4s
   set_option maxRecDepth 100000 in
   go_wp2
   have hp := HP.out
   all_goals (go_meet; case rel => exact ⟨0, nm, v, p + 1 + 1 + 1, by first | assumption | decide, by first | assumption | decide, by omega, by (repeat' (first | assumption | (with_reducible refine InsAt.alloc ?_ _) | (with_reducible apply InsAt.set0) | (with_reducible apply InsAt.set1) | (with_reducible apply InsAt.set2) | (with_reducible apply InsAt.set3) | (with_reducible refine InsAt.set ?_ ?_ _) | (with_reducible refine InsAt.drew ?_) | (with_reducible refine InsAt.drewN ?_ _) | (refine InsAt.ex ?_ (by assumption) ?_ ?_) | go_size)), by (repeat' (first | assumption | (with_reducible refine InsAt.alloc ?_ _) | (with_reducible apply InsAt.set0) | (with_reducible apply InsAt.set1) | (with_reducible apply InsAt.set2) | (with_reducible apply InsAt.set3) | (with_reducible refine InsAt.set ?_ ?_ _) | (with_reducible refine InsAt.drew ?_) | (with_reducible refine InsAt.drewN ?_ _) | (refine InsAt.ex ?_ (by assumption) ?_ ?_) | go_size)), rdd, eexx⟩)
  ·(go_meet; case rel => exact ⟨0, ⟨#[]⟩, ⟨#[]⟩, p + 1 + 1, by first | assumption | decide, by first | assumption | decide, by omega, by (repeat' (first | assumption | (with_reducible refine InsAt.alloc ?_ _) | (with_reducible apply InsAt.set0) | (with_reducible apply InsAt.set1) | (with_reducible apply InsAt.set2) | (with_reducible apply InsAt.set3) | (with_reducible refine InsAt.set ?_ ?_ _) | (with_reducible refine InsAt.drew ?_) | (with_reducible refine InsAt.drewN ?_ _) | (refine InsAt.ex ?_ (by assumption) ?_ ?_) | go_size)), by (repeat' (first | assumption | (with_reducible refine InsAt.alloc ?_ _) | (with_reducible apply InsAt.set0) | (with_reducible apply InsAt.set1) | (with_reducible apply InsAt.set2) | (with_reducible apply InsAt.set3) | (with_reducible refine InsAt.set ?_ ?_ _) | (with_reducible refine InsAt.drew ?_) | (with_reducible refine InsAt.drewN ?_ _) | (refine InsAt.ex ?_ (by assumption) ?_ ?_) | go_size)), rdd, eexx⟩)
 case rest =>
 obtain ⟨a, nn, mm, q, k1, k2, k3, hA, hR, hQ, hX⟩ := hcut
 have hS := hA.lt
 clear iA iR i0 i1 i2 i3 i4 j1 j2 j3 j4 hE h3 hc h4s h4bz1
 go_wp2_with fail
 refine (S_odd r q n wc hn hn2 (rdd) (by omega)).mono ?_
 rintro e w4 ⟨⟨x, rfl⟩, h7, h8⟩
 have h8s := (h8).size; (try simp only [qsz] at h8s)
 have iA : InsAt w4 B (1 + y) a nn mm := by (repeat' (first | assumption | (with_reducible refine InsAt.alloc ?_ _) | (with_reducible apply InsAt.set0) | (with_reducible apply InsAt.set1) | (with_reducible apply InsAt.set2) | (with_reducible apply InsAt.set3) | (with_reducible refine InsAt.set ?_ ?_ _) | (with_reducible refine InsAt.drew ?_) | (with_reducible refine InsAt.drewN ?_ _) | (refine InsAt.ex ?_ (by assumption) ?_ ?_) | go_size))
 have iR : InsAt w4 w.heap.size 0 0 ⟨#[]⟩ ⟨#[]⟩ := by (repeat' (first | assumption | (with_reducible refine InsAt.alloc ?_ _) | (with_reducible apply InsAt.set0) | (with_reducible apply InsAt.set1) | (with_reducible apply InsAt.set2) | (with_reducible apply InsAt.set3) | (with_reducible refine InsAt.set ?_ ?_ _) | (with_reducible refine InsAt.drew ?_) | (with_reducible refine InsAt.drewN ?_ _) | (refine InsAt.ex ?_ (by assumption) ?_ ?_) | go_size))
 have hE : Ex r w.heap.size w w4 := eexx
 clear hA hR hQ hX h8 h8s hS
 have hS4 := iA.lt
 go_upto_if 67 with fail
 go_cut [] from 68 to 99 (fun wx => ∃ (op a : Int) (n m : ByteArray) (q' : Nat), n.size ≤ 4 ∧ m.size ≤ 4 ∧ q' ≤ p + 6 ∧ InsAt wx B op a n m ∧ InsAt wx w.heap.size 0 0 ⟨#[]⟩ ⟨#[]⟩ ∧ Rd wx r q' ∧ Ex r w.heap.size w wx)
 case first =>
  cases x
  ·go_wp2_with fail
   (go_meet; case rel => exact ⟨1 + y, a, nn, mm, q + 1, by first | assumption | decide, by first | assumption | decide, by omega, by (repeat' (first | assumption | (with_reducible refine InsAt.alloc ?_ _) | (with_reducible apply InsAt.set0) | (with_reducible apply InsAt.set1) | (with_reducible apply InsAt.set2) | (with_reducible apply InsAt.set3) | (with_reducible refine InsAt.set ?_ ?_ _) | (with_reducible refine InsAt.drew ?_) | (with_reducible refine InsAt.drewN ?_ _) | (refine InsAt.ex ?_ (by assumption) ?_ ?_) | go_size)), by (repeat' (first | assumption | (with_reducible refine InsAt.alloc ?_ _) | (with_reducible apply InsAt.set0) | (with_reducible apply InsAt.set1) | (with_reducible apply InsAt.set2) | (with_reducible apply InsAt.set3) | (with_reducible refine InsAt.set ?_ ?_ _) | (with_reducible refine InsAt.drew ?_) | (with_reducible refine InsAt.drewN ?_ _) | (refine InsAt.ex ?_ (by assumption) ?_ ?_) | go_size)), rdd, eexx⟩)
  ·go_wp2_with fail
   refine (S_pick r (q + 1) 4 _ (by omega) (rdd) (by omega)).mono ?_
   rintro e w5 ⟨⟨z', hz, rfl⟩, h9, h10⟩
   have h10s := (h10).size; (try simp only [qsz] at h10s)
   have iB : InsAt w5 B (1 + y) a nn mm := by (repeat' (first | assumption | (with_reducible refine InsAt.alloc ?_ _) | (with_reducible apply InsAt.set0) | (with_reducible apply InsAt.set1) | (with_reducible apply InsAt.set2) | (with_reducible apply InsAt.set3) | (with_reducible refine InsAt.set ?_ ?_ _) | (with_reducible refine InsAt.drew ?_) | (with_reducible refine InsAt.drewN ?_ _) | (refine InsAt.ex ?_ (by assumption) ?_ ?_) | go_size))
   have iR' : InsAt w5 w.heap.size 0 0 ⟨#[]⟩ ⟨#[]⟩ := by (repeat' (first | assumption | (with_reducible refine InsAt.alloc ?_ _) | (with_reducible apply InsAt.set0) | (with_reducible apply InsAt.set1) | (with_reducible apply InsAt.set2) | (with_reducible apply InsAt.set3) | (with_reducible refine InsAt.set ?_ ?_ _) | (with_reducible refine InsAt.drew ?_) | (with_reducible refine InsAt.drewN ?_ _) | (refine InsAt.ex ?_ (by assumption) ?_ ?_) | go_size))
   have hE' : Ex r w.heap.size w w5 := eexx
   have hS := iB.lt
   have HP := qhd hp
   have K3 := qhd k3
   clear iA iR hE h7 h10 h10s hS4
   rcases four hz with rfl | rfl | rfl | rfl
   ·go_wp2_with fail
    (refine (S_pick r (q + 1 + 1) 3 _ (by omega) (rdd) (by omega)).mono ?_; rintro e w3 ⟨⟨x, hx, rfl⟩, h5, h6⟩; have h6s := (h6).size; (try simp only [qsz] at h6s))
    have iC : InsAt w3 B (1 + y) a nn mm := by (repeat' (first | assumption | (with_reducible refine InsAt.alloc ?_ _) | (with_reducible apply InsAt.set0) | (with_reducible apply InsAt.set1) | (with_reducible apply InsAt.set2) | (with_reducible apply InsAt.set3) | (with_reducible refine InsAt.set ?_ ?_ _) | (with_reducible refine InsAt.drew ?_) | (with_reducible refine InsAt.drewN ?_ _) | (refine InsAt.ex ?_ (by assumption) ?_ ?_) | go_size))
    obtain ⟨i0', i1', i2', i3', i4', j1', j2', j3', j4'⟩ := id iC
    obtain ⟨h6dc, h6dd, h6df, h6dg, h6dz, h6dx, h6dy⟩ := efacts (n := w5.heap.size) (k := 1) h6 (by go_size) (by go_size) (by first | omega | (simp; omega)); replace h6dd := h6dd (by decide); replace h6dg := h6dg (by decide); replace h6dx := h6dx (by decide); clear h6dc h6df h6dz
    have hcell : ∃ v : Int, w3.cell? ⟨w5.heap.size, x.toNat, none⟩ = some (.int .i64 v) := by
     rcases three hx with rfl | rfl | rfl
     all_goals exact ⟨_, (by rw [h6dd, World.cell?_alloc_at (hn := by first | rfl | simp [World.setCell])]; rfl)⟩
    obtain ⟨v, hcv⟩ := hcell
    have x1 := hx.1
    have x4 := hx.2.1 (by omega)
    clear h6dd h6dg h6dx h6dy
    clear hx hp hn hn2 k3
    set_option maxRecDepth 100000 in
    go_wp2
    have hp := HP.out
    have k3 := K3.out
    all_goals (go_meet; case rel => exact ⟨v, a, nn, mm, q + 1 + 1 + 1, by first | assumption | decide, by first | assumption | decide, by omega, by (repeat' (first | assumption | (with_reducible refine InsAt.alloc ?_ _) | (with_reducible apply InsAt.set0) | (with_reducible apply InsAt.set1) | (with_reducible apply InsAt.set2) | (with_reducible apply InsAt.set3) | (with_reducible refine InsAt.set ?_ ?_ _) | (with_reducible refine InsAt.drew ?_) | (with_reducible refine InsAt.drewN ?_ _) | (refine InsAt.ex ?_ (by assumption) ?_ ?_) | go_size)), by (repeat' (first | assumption | (with_reducible refine InsAt.alloc ?_ _) | (with_reducible apply InsAt.set0) | (with_reducible apply InsAt.set1) | (with_reducible apply InsAt.set2) | (with_reducible apply InsAt.set3) | (with_reducible refine InsAt.set ?_ ?_ _) | (with_reducible refine InsAt.drew ?_) | (with_reducible refine InsAt.drewN ?_ _) | (refine InsAt.ex ?_ (by assumption) ?_ ?_) | go_size)), rdd, eexx⟩)
   ·go_wp2_with fail
    (refine (S_pick r (q + 1 + 1) 4 _ (by omega) (rdd) (by omega)).mono ?_; rintro e w3 ⟨⟨x, hx, rfl⟩, h5, h6⟩; have h6s := (h6).size; (try simp only [qsz] at h6s))
    have iC : InsAt w3 B (1 + y) a nn mm := by (repeat' (first | assumption | (with_reducible refine InsAt.alloc ?_ _) | (with_reducible apply InsAt.set0) | (with_reducible apply InsAt.set1) | (with_reducible apply InsAt.set2) | (with_reducible apply InsAt.set3) | (with_reducible refine InsAt.set ?_ ?_ _) | (with_reducible refine InsAt.drew ?_) | (with_reducible refine InsAt.drewN ?_ _) | (refine InsAt.ex ?_ (by assumption) ?_ ?_) | go_size))
    obtain ⟨i0', i1', i2', i3', i4', j1', j2', j3', j4'⟩ := id iC
    obtain ⟨h6dc, h6dd, h6df, h6dg, h6dz, h6dx, h6dy⟩ := efacts (n := w5.heap.size) (k := 1) h6 (by go_size) (by go_size) (by first | omega | (simp; omega)); replace h6dd := h6dd (by decide); replace h6dg := h6dg (by decide); replace h6dx := h6dx (by decide); clear h6dc h6df h6dz
    have hcell : ∃ v : Int, w3.cell? ⟨w5.heap.size, x.toNat, none⟩ = some (.int .i64 v) := by
     rcases four hx with rfl | rfl | rfl | rfl
     all_goals exact ⟨_, (by rw [h6dd, World.cell?_alloc_at (hn := by first | rfl | simp [World.setCell])]; rfl)⟩
    obtain ⟨v, hcv⟩ := hcell
    have x1 := hx.1
    have x4 := hx.2.1 (by omega)
    clear h6dd h6dg h6dx h6dy
    clear hx hp hn hn2 k3
    set_option maxRecDepth 100000 in
    go_wp2
    have hp := HP.out
    have k3 := K3.out
    all_goals (go_meet; case rel => exact ⟨1 + y, v, nn, mm, q + 1 + 1 + 1, by first | assumption | decide, by first | assumption | decide, by omega, by (repeat' (first | assumption | (with_reducible refine InsAt.alloc ?_ _) | (with_reducible apply InsAt.set0) | (with_reducible apply InsAt.set1) | (with_reducible apply InsAt.set2) | (with_reducible apply InsAt.set3) | (with_reducible refine InsAt.set ?_ ?_ _) | (with_reducible refine InsAt.drew ?_) | (with_reducible refine InsAt.drewN ?_ _) | (refine InsAt.ex ?_ (by assumption) ?_ ?_) | go_size)), by (repeat' (first | assumption | (with_reducible refine InsAt.alloc ?_ _) | (with_reducible apply InsAt.set0) | (with_reducible apply InsAt.set1) | (with_reducible apply InsAt.set2) | (with_reducible apply InsAt.set3) | (with_reducible refine InsAt.set ?_ ?_ _) | (with_reducible refine InsAt.drew ?_) | (with_reducible refine InsAt.drewN ?_ _) | (refine InsAt.ex ?_ (by assumption) ?_ ?_) | go_size)), rdd, eexx⟩)
   ·go_wp2_with fail
    (refine (S_pick r (q + 1 + 1) 3 _ (by omega) (rdd) (by omega)).mono ?_; rintro e w3 ⟨⟨x, hx, rfl⟩, h5, h6⟩; have h6s := (h6).size; (try simp only [qsz] at h6s))
    have iC : InsAt w3 B (1 + y) a nn mm := by (repeat' (first | assumption | (with_reducible refine InsAt.alloc ?_ _) | (with_reducible apply InsAt.set0) | (with_reducible apply InsAt.set1) | (with_reducible apply InsAt.set2) | (with_reducible apply InsAt.set3) | (with_reducible refine InsAt.set ?_ ?_ _) | (with_reducible refine InsAt.drew ?_) | (with_reducible refine InsAt.drewN ?_ _) | (refine InsAt.ex ?_ (by assumption) ?_ ?_) | go_size))
    obtain ⟨i0', i1', i2', i3', i4', j1', j2', j3', j4'⟩ := id iC
    obtain ⟨h6dc, h6dd, h6df, h6dg, h6dz, h6dx, h6dy⟩ := efacts (n := w5.heap.size) (k := 1) h6 (by go_size) (by go_size) (by first | omega | (simp; omega)); replace h6dd := h6dd (by decide); replace h6dg := h6dg (by decide); replace h6dx := h6dx (by decide); clear h6dc h6df h6dz
    have hcell : ∃ v : ByteArray, v.size ≤ 4 ∧ w3.cell? ⟨w5.heap.size, x.toNat, none⟩ = some (.string v) := by
     rcases three hx with rfl | rfl | rfl
     all_goals (refine ⟨_, ?_, (by rw [h6dd, World.cell?_alloc_at (hn := by first | rfl | simp [World.setCell])]; rfl)⟩; decide)
    obtain ⟨v, hv, hcv⟩ := hcell
    have x1 := hx.1
    have x4 := hx.2.1 (by omega)
    clear h6dd h6dg h6dx h6dy
    clear hx hp hn hn2 k3
    set_option maxRecDepth 100000 in
    go_wp2
    have hp := HP.out
    have k3 := K3.out
    all_goals (go_meet; case rel => exact ⟨1 + y, a, v, mm, q + 1 + 1 + 1, by first | assumption | decide, by first | assumption | decide, by omega, by (repeat' (first | assumption | (with_reducible refine InsAt.alloc ?_ _) | (with_reducible apply InsAt.set0) | (with_reducible apply InsAt.set1) | (with_reducible apply InsAt.set2) | (with_reducible apply InsAt.set3) | (with_reducible refine InsAt.set ?_ ?_ _) | (with_reducible refine InsAt.drew ?_) | (with_reducible refine InsAt.drewN ?_ _) | (refine InsAt.ex ?_ (by assumption) ?_ ?_) | go_size)), by (repeat' (first | assumption | (with_reducible refine InsAt.alloc ?_ _) | (with_reducible apply InsAt.set0) | (with_reducible apply InsAt.set1) | (with_reducible apply InsAt.set2) | (with_reducible apply InsAt.set3) | (with_reducible refine InsAt.set ?_ ?_ _) | (with_reducible refine InsAt.drew ?_) | (with_reducible refine InsAt.drewN ?_ _) | (refine InsAt.ex ?_ (by assumption) ?_ ?_) | go_size)), rdd, eexx⟩)
   ·go_wp2_with fail
    (refine (S_pick r (q + 1 + 1) 3 _ (by omega) (rdd) (by omega)).mono ?_; rintro e w3 ⟨⟨x, hx, rfl⟩, h5, h6⟩; have h6s := (h6).size; (try simp only [qsz] at h6s))
    have iC : InsAt w3 B (1 + y) a nn mm := by (repeat' (first | assumption | (with_reducible refine InsAt.alloc ?_ _) | (with_reducible apply InsAt.set0) | (with_reducible apply InsAt.set1) | (with_reducible apply InsAt.set2) | (with_reducible apply InsAt.set3) | (with_reducible refine InsAt.set ?_ ?_ _) | (with_reducible refine InsAt.drew ?_) | (with_reducible refine InsAt.drewN ?_ _) | (refine InsAt.ex ?_ (by assumption) ?_ ?_) | go_size))
    obtain ⟨i0', i1', i2', i3', i4', j1', j2', j3', j4'⟩ := id iC
    obtain ⟨h6dc, h6dd, h6df, h6dg, h6dz, h6dx, h6dy⟩ := efacts (n := w5.heap.size) (k := 1) h6 (by go_size) (by go_size) (by first | omega | (simp; omega)); replace h6dd := h6dd (by decide); replace h6dg := h6dg (by decide); replace h6dx := h6dx (by decide); clear h6dc h6df h6dz
    have hcell : ∃ v : ByteArray, v.size ≤ 4 ∧ w3.cell? ⟨w5.heap.size, x.toNat, none⟩ = some (.string v) := by
     rcases three hx with rfl | rfl | rfl
     all_goals (refine ⟨_, ?_, (by rw [h6dd, World.cell?_alloc_at (hn := by first | rfl | simp [World.setCell])]; rfl)⟩; decide)
    obtain ⟨v, hv, hcv⟩ := hcell
    have x1 := hx.1
    have x4 := hx.2.1 (by omega)
    clear h6dd h6dg h6dx h6dy
    clear hx hp hn hn2 k3
    set_option maxRecDepth 100000 in
    go_wp2
    have hp := HP.out
    have k3 := K3.out
    all_goals (go_meet; case rel => exact ⟨1 + y, a, nn, v, q + 1 + 1 + 1, by first | assumption | decide, by first | assumption | decide, by omega, by (repeat' (first | assumption | (with_reducible refine InsAt.alloc ?_ _) | (with_reducible apply InsAt.set0) | (with_reducible apply InsAt.set1) | (with_reducible apply InsAt.set2) | (with_reducible apply InsAt.set3) | (with_reducible refine InsAt.set ?_ ?_ _) | (with_reducible refine InsAt.drew ?_) | (with_reducible refine InsAt.drewN ?_ _) | (refine InsAt.ex ?_ (by assumption) ?_ ?_) | go_size)), by (repeat' (first | assumption | (with_reducible refine InsAt.alloc ?_ _) | (with_reducible apply InsAt.set0) | (with_reducible apply InsAt.set1) | (with_reducible apply InsAt.set2) | (with_reducible apply InsAt.set3) | (with_reducible refine InsAt.set ?_ ?_ _) | (with_reducible refine InsAt.drew ?_) | (with_reducible refine InsAt.drewN ?_ _) | (refine InsAt.ex ?_ (by assumption) ?_ ?_) | go_size)), rdd, eexx⟩)
 case rest =>
 clear iA iR hE h7 hS4 k1 k2 k3 hp hn hn2
 obtain ⟨op, a, nn, mm, q, k1, k2, k3, hA, hR, hQ, hX⟩ := hcut
 obtain ⟨i0, i1, i2, i3, i4, j1, j2, j3, j4⟩ := hA
 obtain ⟨r0, r1, r2, r3, r4, s1, s2, s3, s4⟩ := hR
 go_wp2
 all_goals
  refine bodyPost_ret (v := ?_) ?hrun rfl ?_
  case hrun => (simp only [results, Tryz.results55]; go_simp; first | done | exact rfl)
  exact HR.out _ _ ⟨⟨_, _, _, _, k1, k2, rfl⟩, ⟨q, by omega, rdd⟩, eexx⟩

theorem StrAt.keep {w w' : World} {b N : Nat} {l : List ByteArray} (h : StrAt w b l) (hb : Below N w w') (hN : b < N) : StrAt w' b l := ⟨Nat.lt_of_lt_of_le h.lt hb.size, fun j x hx => (hb.cell (p := ⟨b, j, none⟩) hN).trans (h.cell j x hx)⟩
theorem TOwn.lit (w : World) (l : List ByteArray) {lo B : Nat} (cs : Array Value) (hc : cs = (l.map Value.string).toArray) (n : Nat) (hn : n = l.length) (b : Nat) (hb : b = w.heap.size) (hl : ∀ x ∈ l, x.size ≤ 100) (hm : l.length ≤ 1000) (h0 : lo ≤ B) (hB : B ≤ w.heap.size) :
  TOwn 1 rStr 9 lo B (w.alloc (.cells cs 9)) (.slice (some ⟨b, 0, none⟩) n n) l := by
 subst hc; subst hn; subst hb
 refine ⟨⟨rowsOf l, rowsOf_rows fun x hx => by have := hl x hx; unfold maxLen; omega, ?_⟩, fun b hb => by
  have : w.heap.size = b := by simpa [Value.ownBlock] using hb
  omega⟩
 refine ⟨by rw [rowsOf_flat]; simp, Or.inr ⟨w.heap.size, l.length, (l.map Value.string).toArray, rfl, by omega, heap_alloc_new w _, Nat.le_refl _, by unfold maxLen; omega, by simp, ?_⟩⟩
 rw [rowsOf_flat]
 rw [Nat.mul_one, List.take_of_length_le (by simp)]
theorem TOwn.ex {w w' : World} {lo B N r : Nat} {v : Value} {xs : List ByteArray} (h : TOwn 1 rStr 9 lo B w v xs) (he : Ex r N w w') (hr : r < B) (hN : w.heap.size ≤ N) : TOwn 1 rStr 9 lo B w' v xs :=
 ⟨h.sl.kept (fun g cs fr hg _ hgc => he.block g (by have := h.own g hg; omega) (by have := (Array.getElem?_eq_some_iff.1 hgc).1; omega)) (fun cs y hy => hy), h.own⟩

theorem qan {ops : Array Oper} {rest : List Oper} {o : Oper} {a : Act} {Q : Exit → Act → World → Prop} {w : World} (hgd : o.guard = none) (s x : Operand)
  (ho : o.op = .call { callee := .builtin .append, args := #[s, x], argTypes := #[28, 28] }) {lo N M b n c : Nat} {w0 w5 : World} {v : Value} {xs l : List ByteArray}
  (hs : a.eval s = v) (hx : a.eval x = .slice (some ⟨b, 0, none⟩) n c) (hv : TOwn 1 rStr 9 lo N w0 v xs) (h0 : Below w0.heap.size w0 w) (hsrc : StrAt w5 b l) (hn : n = l.length) (h5 : Below M w5 w) (hbM : b < M)
  (hlen : ∀ x ∈ l, x.size ≤ 100) (hl : xs.length + l.length ≤ 1000000) (hlo : lo ≤ N) (hN : N ≤ w.heap.size)
  (h : ∀ v' w', TOwn 1 rStr 9 lo N w' v' (xs ++ l) → Below N w w' → wpList Tryz.prog ops Q rest (a.put o.dst v') w') : wpList Tryz.prog ops Q (o :: rest) a w := by
 subst hn
 exact qam (E := NoT) hgd s x 28 ho sty_Str qak (fun h => h) rStr_one hs hx (hv.below qak h0) (hsrc.keep h5 hbM).src (rowsOf_rows fun y hy => by have := hlen y hy; unfold maxLen; omega) hl hlo hN fun v' w' h1 h2 _ _ _ => h v' w' h1 h2

theorem top_ok {t : Nat} (h : IsTop t) : t < 11 := by unfold IsTop at h; omega
theorem cell_ok {t : Nat} (h : IsCell t) : t < 11 := by unfold IsCell at h; omega
theorem main_ok {t : Nat} (h : IsMain t) : t < 11 := by unfold IsMain at h; omega
theorem blk_size (i : Nat) : ∀ x ∈ blk i, x.size ≤ 100 := fun l hl => by
 have := blk_lines lineB (by decide) i l hl
 unfold lineB at this
 rw [decide_eq_true_eq] at this
 have e : (by' l).length = l.size := by unfold by'; rw [Array.length_toList]; rfl
 omega
def Lines20 (r p : Nat) (w : World) (e : Ending) (w' : World) : Prop := ∃ v ls q, e = .returned v ∧ Drawn ls ∧ TOwn 1 rStr 9 w.heap.size w.heap.size w' v ls ∧ q ≤ p + 5 ∧ Rd w' r q ∧ Ex r w.heap.size w w'

theorem S_l20Lines (r p : Nat) (w : World) (hr : Rd w r p) (hp : p < 900000) :
  Calls Tryz.prog 51 #[.pointer (some ⟨r, 0, none⟩)] w fun e w' => Lines20 r p w e w' := by
 have hlt := hr.lt
 refine qab fun R HR => ?_
 go_enter Tryz.func51, Tryz.ntmps51
 go_wp2_with fail
 refine (S_l20Blocks w).mono ?_
 rintro _ w1 ⟨B, rfl, hB, h1⟩
 have hz1 := h1.size
 have hBl := hB.lt
 have hBo := hB.low
 have HBw1 := qhd hB
 have R1 : Rd w1 r p := rd_below h1 hr hlt
 clear hB
 go_wp2_with fail
 refine (S_pick r p 4 _ (by omega) (rdd) (by omega)).mono ?_
 rintro _ w2 ⟨⟨y, hy, rfl⟩, h3, h4⟩
 have h4s := (h4).size; (try simp only [qsz] at h4s)
 obtain ⟨h4ac, h4ad, h4af, h4ag, h4az, h4ax, h4ay⟩ := efacts (n := w1.heap.size) (k := 1) h4 (by go_size) (by go_size) (by first | omega | (simp; omega)); replace h4ad := h4ad (by decide); replace h4ag := h4ag (by decide); replace h4ax := h4ax (by decide); clear h4ac h4af h4az
 have hcell : ∃ t : Nat, IsTop t ∧ w2.cell? ⟨w1.heap.size, y.toNat, none⟩ = some (.int .i64 (t : Int)) := by
  rcases four hy with rfl | rfl | rfl | rfl
  ·exact ⟨0, by unfold IsTop; omega, (by rw [h4ad, World.cell?_alloc_at (hn := rfl)]; rfl)⟩
  ·exact ⟨0, by unfold IsTop; omega, (by rw [h4ad, World.cell?_alloc_at (hn := rfl)]; rfl)⟩
  ·exact ⟨0, by unfold IsTop; omega, (by rw [h4ad, World.cell?_alloc_at (hn := rfl)]; rfl)⟩
  ·exact ⟨7, by unfold IsTop; omega, (by rw [h4ad, World.cell?_alloc_at (hn := rfl)]; rfl)⟩
 obtain ⟨t, ht, hct⟩ := hcell
 have y1 := hy.1
 have y4 := hy.2.1 (by omega)
 have Ew2 : Ex r w1.heap.size w1 w2 := eexx
 have HBw2 := qhd (HBw1.out.ex Ew2 hlt (by omega))
 obtain ⟨bt, bt0, bt1, btc, bts⟩ := HBw2.out.at' t (top_ok ht)
 have tl := top_ok ht
 have Sbt := qhd bts
 obtain ⟨btn, hbtn⟩ : ∃ n, n = (blk t).length := ⟨_, rfl⟩
 rw [← hbtn] at btc
 have Nbt := qhd hbtn
 clear h4ad h4ag h4ax h4ay hy bts hbtn
 go_wp2_with fail
 refine (S_pick r (p + 1) 4 _ (by omega) (rdd) (by omega)).mono ?_
 rintro _ w3 ⟨⟨y, hy, rfl⟩, h3, h4⟩
 have h4s := (h4).size; (try simp only [qsz] at h4s)
 obtain ⟨h4ac, h4ad, h4af, h4ag, h4az, h4ax, h4ay⟩ := efacts (n := w2.heap.size) (k := 1) h4 (by go_size) (by go_size) (by first | omega | (simp; omega)); replace h4ad := h4ad (by decide); replace h4ag := h4ag (by decide); replace h4ax := h4ax (by decide); clear h4ac h4af h4az
 have hcell : ∃ t : Nat, IsCell t ∧ w3.cell? ⟨w2.heap.size, y.toNat, none⟩ = some (.int .i64 (t : Int)) := by
  rcases four hy with rfl | rfl | rfl | rfl
  ·exact ⟨1, by unfold IsCell; omega, (by rw [h4ad, World.cell?_alloc_at (hn := rfl)]; rfl)⟩
  ·exact ⟨1, by unfold IsCell; omega, (by rw [h4ad, World.cell?_alloc_at (hn := rfl)]; rfl)⟩
  ·exact ⟨1, by unfold IsCell; omega, (by rw [h4ad, World.cell?_alloc_at (hn := rfl)]; rfl)⟩
  ·exact ⟨8, by unfold IsCell; omega, (by rw [h4ad, World.cell?_alloc_at (hn := rfl)]; rfl)⟩
 obtain ⟨c, hc, hct⟩ := hcell
 have y1 := hy.1
 have y4 := hy.2.1 (by omega)
 have Ew3 : Ex r w2.heap.size w2 w3 := eexx
 have HBw3 := qhd (HBw2.out.ex Ew3 hlt (by omega))
 obtain ⟨bc, bc0, bc1, bcc, bcs⟩ := HBw3.out.at' c (cell_ok hc)
 have cl := cell_ok hc
 have Sbc := qhd bcs
 obtain ⟨bcn, hbcn⟩ : ∃ n, n = (blk c).length := ⟨_, rfl⟩
 rw [← hbcn] at bcc
 have Nbc := qhd hbcn
 clear h4ad h4ag h4ax h4ay hy bcs hbcn
 go_wp2_with fail
 refine (S_pick r (p + 2) 8 _ (by omega) (rdd) (by omega)).mono ?_
 rintro _ w4 ⟨⟨y, hy, rfl⟩, h3, h4⟩
 have h4s := (h4).size; (try simp only [qsz] at h4s)
 obtain ⟨h4ac, h4ad, h4af, h4ag, h4az, h4ax, h4ay⟩ := efacts (n := w3.heap.size) (k := 1) h4 (by go_size) (by go_size) (by first | omega | (simp; omega)); replace h4ad := h4ad (by decide); replace h4ag := h4ag (by decide); replace h4ax := h4ax (by decide); clear h4ac h4af h4az
 have hcell : ∃ t : Nat, IsMain t ∧ w4.cell? ⟨w3.heap.size, y.toNat, none⟩ = some (.int .i64 (t : Int)) := by
  rcases eight hy with rfl | rfl | rfl | rfl | rfl | rfl | rfl | rfl
  ·exact ⟨2, by unfold IsMain; omega, (by rw [h4ad, World.cell?_alloc_at (hn := rfl)]; rfl)⟩
  ·exact ⟨3, by unfold IsMain; omega, (by rw [h4ad, World.cell?_alloc_at (hn := rfl)]; rfl)⟩
  ·exact ⟨4, by unfold IsMain; omega, (by rw [h4ad, World.cell?_alloc_at (hn := rfl)]; rfl)⟩
  ·exact ⟨5, by unfold IsMain; omega, (by rw [h4ad, World.cell?_alloc_at (hn := rfl)]; rfl)⟩
  ·exact ⟨6, by unfold IsMain; omega, (by rw [h4ad, World.cell?_alloc_at (hn := rfl)]; rfl)⟩
  ·exact ⟨3, by unfold IsMain; omega, (by rw [h4ad, World.cell?_alloc_at (hn := rfl)]; rfl)⟩
  ·exact ⟨9, by unfold IsMain; omega, (by rw [h4ad, World.cell?_alloc_at (hn := rfl)]; rfl)⟩
  ·exact ⟨10, by unfold IsMain; omega, (by rw [h4ad, World.cell?_alloc_at (hn := rfl)]; rfl)⟩
 obtain ⟨m, hm, hct⟩ := hcell
 have y1 := hy.1
 have y4 := hy.2.1 (by omega)
 have Ew4 : Ex r w3.heap.size w3 w4 := eexx
 have HBw4 := qhd (HBw3.out.ex Ew4 hlt (by omega))
 obtain ⟨bm, bm0, bm1, bmc, bms⟩ := HBw4.out.at' m (main_ok hm)
 have ml := main_ok hm
 have Sbm := qhd bms
 obtain ⟨bmn, hbmn⟩ : ∃ n, n = (blk m).length := ⟨_, rfl⟩
 rw [← hbmn] at bmc
 have Nbm := qhd hbmn
 clear h4ad h4ag h4ax h4ay hy bms hbmn
 go_wp2_with fail
 refine (S_pick r (p + 3) 6 _ (by omega) (rdd) (by omega)).mono ?_
 rintro _ w5 ⟨⟨z, hz, rfl⟩, h5, h6⟩
 have h6s := (h6).size; (try simp only [qsz] at h6s)
 have E5 : Ex r w4.heap.size w4 w5 := eexx
 have hT5 := (TOwn.lit w4 [tkp] (lo := w.heap.size) (B := w4.heap.size) _ rfl 1 rfl w4.heap.size rfl (by intro x hx; rw [List.mem_singleton] at hx; subst hx; decide) (by simp) (by omega) (Nat.le_refl _)).ex h6 (by omega) (Nat.le_refl _)
 have St := ((Sbt.out.ex Ew3 (by omega) (by omega)).ex Ew4 (by omega) (by omega)).ex E5 (by omega) (by omega)
 have Sc := (Sbc.out.ex Ew4 (by omega) (by omega)).ex E5 (by omega) (by omega)
 have Sm := Sbm.out.ex E5 (by omega) (by omega)
 have BB := qhd (HBw4.out.ex E5 hlt (by omega))
 have kt := tl
 clear HBw1 HBw2 HBw3 HBw4 Sbt Sbc Sbm btc bcc bmc hct
 have HT := qhd ht
 have HC := qhd hc
 have HM := qhd hm
 clear ht hc hm
 rcases six hz with rfl | rfl | rfl | rfl | rfl | rfl
 ·clear hz
  go_wp2_with (at_builtin; refine qan (lo := w.heap.size) (N := w4.heap.size) (M := w4.heap.size) (w5 := w5) (l := blk t) (by rfl) _ _ (by rfl) (by rfl) (by rfl) hT5 (bbel) St (Nbt.out) (bbel) (by omega) (by first | exact blk_size _ | decide) (by (have := qaf t; have := qaf c; have := qaf m; simp only [List.length_append, List.length_cons, List.length_nil]; omega)) (by omega) (by (first | omega | (simp; done) | (simp; omega))) ?_)
  intro v6 w6 hT6 hb6
  have hs6 := hb6.size; (try simp only [World.size_alloc] at hs6)
  go_wp2_with (at_builtin; refine qan (lo := w.heap.size) (N := w4.heap.size) (M := w4.heap.size) (w5 := w5) (l := blk c) (by rfl) _ _ (by rfl) (by rfl) (by rfl) hT6 (bbel) Sc (Nbc.out) (bbel) (by omega) (by first | exact blk_size _ | decide) (by (have := qaf t; have := qaf c; have := qaf m; simp only [List.length_append, List.length_cons, List.length_nil]; omega)) (by omega) (by (first | omega | (simp; done) | (simp; omega))) ?_)
  intro v7 w7 hT7 hb7
  have hs7 := hb7.size; (try simp only [World.size_alloc] at hs7)
  go_wp2_with (at_builtin; refine qan (lo := w.heap.size) (N := w4.heap.size) (M := w4.heap.size) (w5 := w5) (l := blk m) (by rfl) _ _ (by rfl) (by rfl) (by rfl) hT7 (bbel) Sm (Nbm.out) (bbel) (by omega) (by first | exact blk_size _ | decide) (by (have := qaf t; have := qaf c; have := qaf m; simp only [List.length_append, List.length_cons, List.length_nil]; omega)) (by omega) (by (first | omega | (simp; done) | (simp; omega))) ?_)
  intro v8 w8 hT8 hb8
  have hs8 := hb8.size; (try simp only [World.size_alloc] at hs8)
  go_wp2
  all_goals (try go_returns)
  all_goals exact HR.out _ _ ⟨_, _, p + 4, rfl, by have hD := (Drawn.one t c m HT.out HC.out HM.out); simpa using hD, ⟨hT8.sl, fun b hb => by have := hT8.own b hb; omega⟩, by omega, rdd, eexx⟩
 ·clear hz
  go_wp2_with (at_builtin; refine qan (lo := w.heap.size) (N := w4.heap.size) (M := w4.heap.size) (w5 := w5) (l := blk t) (by rfl) _ _ (by rfl) (by rfl) (by rfl) hT5 (bbel) St (Nbt.out) (bbel) (by omega) (by first | exact blk_size _ | decide) (by (have := qaf t; have := qaf c; have := qaf m; simp only [List.length_append, List.length_cons, List.length_nil]; omega)) (by omega) (by (first | omega | (simp; done) | (simp; omega))) ?_)
  intro v6 w6 hT6 hb6
  have hs6 := hb6.size; (try simp only [World.size_alloc] at hs6)
  go_wp2_with (at_builtin; refine qan (lo := w.heap.size) (N := w4.heap.size) (M := w4.heap.size) (w5 := w5) (l := blk c) (by rfl) _ _ (by rfl) (by rfl) (by rfl) hT6 (bbel) Sc (Nbc.out) (bbel) (by omega) (by first | exact blk_size _ | decide) (by (have := qaf t; have := qaf c; have := qaf m; simp only [List.length_append, List.length_cons, List.length_nil]; omega)) (by omega) (by (first | omega | (simp; done) | (simp; omega))) ?_)
  intro v7 w7 hT7 hb7
  have hs7 := hb7.size; (try simp only [World.size_alloc] at hs7)
  go_wp2_with (at_builtin; refine qan (lo := w.heap.size) (N := w4.heap.size) (M := w4.heap.size) (w5 := w5) (l := blk m) (by rfl) _ _ (by rfl) (by rfl) (by rfl) hT7 (bbel) Sm (Nbm.out) (bbel) (by omega) (by first | exact blk_size _ | decide) (by (have := qaf t; have := qaf c; have := qaf m; simp only [List.length_append, List.length_cons, List.length_nil]; omega)) (by omega) (by (first | omega | (simp; done) | (simp; omega))) ?_)
  intro v8 w8 hT8 hb8
  have hs8 := hb8.size; (try simp only [World.size_alloc] at hs8)
  go_wp2
  all_goals (try go_returns)
  all_goals exact HR.out _ _ ⟨_, _, p + 4, rfl, by have hD := (Drawn.one t c m HT.out HC.out HM.out); simpa using hD, ⟨hT8.sl, fun b hb => by have := hT8.own b hb; omega⟩, by omega, rdd, eexx⟩
 ·clear hz
  go_wp2_with (at_builtin; refine qan (lo := w.heap.size) (N := w4.heap.size) (M := w5.heap.size + 1) (l := [aTop1, aCell1]) (by rfl) _ _ (by rfl) (by rfl) (by rfl) hT5 (bbel) (StrAt.lit w5 _ [aTop1, aCell1] _ rfl (by rfl)) (by rfl) (Below.refl _ _) (by omega) (by (intro x hx; simp only [List.mem_cons, List.not_mem_nil, or_false] at hx; first | (rcases hx with rfl | rfl <;> decide) | (subst hx; decide))) (by (have := qaf t; have := qaf c; have := qaf m; simp only [List.length_append, List.length_cons, List.length_nil]; omega)) (by omega) (by (first | omega | (simp; done) | (simp; omega))) ?_)
  intro v6 w6 hT6 hb6
  have hs6 := hb6.size; (try simp only [World.size_alloc] at hs6)
  go_wp2_with (at_builtin; refine qan (lo := w.heap.size) (N := w4.heap.size) (M := w4.heap.size) (w5 := w5) (l := blk m) (by rfl) _ _ (by rfl) (by rfl) (by rfl) hT6 (bbel) Sm (Nbm.out) (bbel) (by omega) (by first | exact blk_size _ | decide) (by (have := qaf t; have := qaf c; have := qaf m; simp only [List.length_append, List.length_cons, List.length_nil]; omega)) (by omega) (by (first | omega | (simp; done) | (simp; omega))) ?_)
  intro v7 w7 hT7 hb7
  have hs7 := hb7.size; (try simp only [World.size_alloc] at hs7)
  go_wp2_with (at_builtin; refine qan (lo := w.heap.size) (N := w4.heap.size) (M := w7.heap.size + 1) (l := [tkp]) (by rfl) _ _ (by rfl) (by rfl) (by rfl) hT7 (bbel) (StrAt.lit w7 _ [tkp] _ rfl (by rfl)) (by rfl) (Below.refl _ _) (by omega) (by (intro x hx; simp only [List.mem_cons, List.not_mem_nil, or_false] at hx; first | (rcases hx with rfl | rfl <;> decide) | (subst hx; decide))) (by (have := qaf t; have := qaf c; have := qaf m; simp only [List.length_append, List.length_cons, List.length_nil]; omega)) (by omega) (by (first | omega | (simp; done) | (simp; omega))) ?_)
  intro v8 w8 hT8 hb8
  have hs8 := hb8.size; (try simp only [World.size_alloc] at hs8)
  go_wp2_with (at_builtin; refine qan (lo := w.heap.size) (N := w4.heap.size) (M := w4.heap.size) (w5 := w5) (l := blk t) (by rfl) _ _ (by rfl) (by rfl) (by rfl) hT8 (bbel) St (Nbt.out) (bbel) (by omega) (by first | exact blk_size _ | decide) (by (have := qaf t; have := qaf c; have := qaf m; simp only [List.length_append, List.length_cons, List.length_nil]; omega)) (by omega) (by (first | omega | (simp; done) | (simp; omega))) ?_)
  intro v9 w9 hT9 hb9
  have hs9 := hb9.size; (try simp only [World.size_alloc] at hs9)
  go_wp2_with (at_builtin; refine qan (lo := w.heap.size) (N := w4.heap.size) (M := w4.heap.size) (w5 := w5) (l := blk c) (by rfl) _ _ (by rfl) (by rfl) (by rfl) hT9 (bbel) Sc (Nbc.out) (bbel) (by omega) (by first | exact blk_size _ | decide) (by (have := qaf t; have := qaf c; have := qaf m; simp only [List.length_append, List.length_cons, List.length_nil]; omega)) (by omega) (by (first | omega | (simp; done) | (simp; omega))) ?_)
  intro v10 w10 hT10 hb10
  have hs10 := hb10.size; (try simp only [World.size_alloc] at hs10)
  go_wp2
  all_goals (try go_returns)
  all_goals exact HR.out _ _ ⟨_, _, p + 4, rfl, by have hD := (Drawn.two t c m HT.out HC.out HM.out); simpa using hD, ⟨hT10.sl, fun b hb => by have := hT10.own b hb; omega⟩, by omega, rdd, eexx⟩
 ·clear hz
  go_wp2_with (at_builtin; refine qan (lo := w.heap.size) (N := w4.heap.size) (M := w5.heap.size + 1) (l := [aCell1]) (by rfl) _ _ (by rfl) (by rfl) (by rfl) hT5 (bbel) (StrAt.lit w5 _ [aCell1] _ rfl (by rfl)) (by rfl) (Below.refl _ _) (by omega) (by (intro x hx; simp only [List.mem_cons, List.not_mem_nil, or_false] at hx; first | (rcases hx with rfl | rfl <;> decide) | (subst hx; decide))) (by (have := qaf t; have := qaf c; have := qaf m; simp only [List.length_append, List.length_cons, List.length_nil]; omega)) (by omega) (by (first | omega | (simp; done) | (simp; omega))) ?_)
  intro v6 w6 hT6 hb6
  have hs6 := hb6.size; (try simp only [World.size_alloc] at hs6)
  go_wp2_with fail
  refine (S_pick r (p + 4) 2 _ (by omega) (rdd) (by omega)).mono ?_
  rintro _ w7 ⟨⟨y, hy, rfl⟩, h7, h8⟩
  have h8s := (h8).size; (try simp only [qsz] at h8s)
  obtain ⟨h8ac, h8ad, h8af, h8ag, h8az, h8ax, h8ay⟩ := efacts (n := w6.heap.size) (k := 1) h8 (by go_size) (by go_size) (by first | omega | (simp; omega)); replace h8ad := h8ad (by decide); replace h8ag := h8ag (by decide); replace h8ax := h8ax (by decide); clear h8ac h8af h8az
  have hcell : ∃ u : Nat, IsTop u ∧ w7.cell? ⟨w6.heap.size, y.toNat, none⟩ = some (.int .i64 (u : Int)) := by
   have h2 : y = 0 ∨ y = 1 := by obtain ⟨q1, q2, q3⟩ := hy; omega
   rcases h2 with rfl | rfl
   ·exact ⟨0, Or.inl rfl, (by rw [h8ad, World.cell?_alloc_at (hn := rfl)]; rfl)⟩
   ·exact ⟨7, Or.inr rfl, (by rw [h8ad, World.cell?_alloc_at (hn := rfl)]; rfl)⟩
  obtain ⟨u, hu, hcu⟩ := hcell
  have y1 := hy.1
  have y4 := hy.2.1 (by omega)
  have E7 : Ex r w4.heap.size w5 w7 := eexx
  have hT7 := (hT6.below qak (bbel : Below w6.heap.size w6 (w6.alloc (.cells #[.int .i64 0, .int .i64 7] 3)))).ex h8 (by omega) (Nat.le_refl _)
  have St7 := St.ex E7 (by omega) (by omega)
  have Sc7 := Sc.ex E7 (by omega) (by omega)
  have Sm7 := Sm.ex E7 (by omega) (by omega)
  obtain ⟨bu, bu0, bu1, buc, Su7⟩ := (BB.out.ex E7 hlt (by omega)).at' u (top_ok hu)
  have ul := top_ok hu
  obtain ⟨bun, hbun⟩ : ∃ n, n = (blk u).length := ⟨_, rfl⟩
  rw [← hbun] at buc
  have Nbu := qhd hbun
  have HU := qhd hu
  have bus := qaf u
  clear h8ad h8ag h8ax h8ay hy hbun hu hT6 hT5 St Sc Sm
  go_wp2_with (at_builtin; refine qan (lo := w.heap.size) (N := w4.heap.size) (M := w4.heap.size) (w5 := w7) (l := blk u) (by rfl) _ _ (by rfl) (by rfl) (by rfl) hT7 (bbel) Su7 (Nbu.out) (bbel) (by omega) (by first | exact blk_size _ | decide) (by (have := qaf t; have := qaf c; have := qaf m; simp only [List.length_append, List.length_cons, List.length_nil]; omega)) (by omega) (by (first | omega | (simp; done) | (simp; omega))) ?_)
  intro v8 w8 hT8 hb8
  have hs8 := hb8.size; (try simp only [World.size_alloc] at hs8)
  go_wp2_with (at_builtin; refine qan (lo := w.heap.size) (N := w4.heap.size) (M := w4.heap.size) (w5 := w7) (l := blk m) (by rfl) _ _ (by rfl) (by rfl) (by rfl) hT8 (bbel) Sm7 (Nbm.out) (bbel) (by omega) (by first | exact blk_size _ | decide) (by (have := qaf t; have := qaf c; have := qaf m; simp only [List.length_append, List.length_cons, List.length_nil]; omega)) (by omega) (by (first | omega | (simp; done) | (simp; omega))) ?_)
  intro v9 w9 hT9 hb9
  have hs9 := hb9.size; (try simp only [World.size_alloc] at hs9)
  go_wp2_with (at_builtin; refine qan (lo := w.heap.size) (N := w4.heap.size) (M := w9.heap.size + 1) (l := [tkp]) (by rfl) _ _ (by rfl) (by rfl) (by rfl) hT9 (bbel) (StrAt.lit w9 _ [tkp] _ rfl (by rfl)) (by rfl) (Below.refl _ _) (by omega) (by (intro x hx; simp only [List.mem_cons, List.not_mem_nil, or_false] at hx; first | (rcases hx with rfl | rfl <;> decide) | (subst hx; decide))) (by (have := qaf t; have := qaf c; have := qaf m; simp only [List.length_append, List.length_cons, List.length_nil]; omega)) (by omega) (by (first | omega | (simp; done) | (simp; omega))) ?_)
  intro v10 w10 hT10 hb10
  have hs10 := hb10.size; (try simp only [World.size_alloc] at hs10)
  go_wp2_with (at_builtin; refine qan (lo := w.heap.size) (N := w4.heap.size) (M := w4.heap.size) (w5 := w7) (l := blk t) (by rfl) _ _ (by rfl) (by rfl) (by rfl) hT10 (bbel) St7 (Nbt.out) (bbel) (by omega) (by first | exact blk_size _ | decide) (by (have := qaf t; have := qaf c; have := qaf m; simp only [List.length_append, List.length_cons, List.length_nil]; omega)) (by omega) (by (first | omega | (simp; done) | (simp; omega))) ?_)
  intro v11 w11 hT11 hb11
  have hs11 := hb11.size; (try simp only [World.size_alloc] at hs11)
  go_wp2_with (at_builtin; refine qan (lo := w.heap.size) (N := w4.heap.size) (M := w4.heap.size) (w5 := w7) (l := blk c) (by rfl) _ _ (by rfl) (by rfl) (by rfl) hT11 (bbel) Sc7 (Nbc.out) (bbel) (by omega) (by first | exact blk_size _ | decide) (by (have := qaf t; have := qaf c; have := qaf m; simp only [List.length_append, List.length_cons, List.length_nil]; omega)) (by omega) (by (first | omega | (simp; done) | (simp; omega))) ?_)
  intro v12 w12 hT12 hb12
  have hs12 := hb12.size; (try simp only [World.size_alloc] at hs12)
  go_wp2
  all_goals (try go_returns)
  all_goals exact HR.out _ _ ⟨_, _, p + 5, rfl, by have hD := (Drawn.three t c m u HT.out HC.out HM.out HU.out); simpa using hD, ⟨hT12.sl, fun b hb => by have := hT12.own b hb; omega⟩, by omega, rdd, eexx⟩
 ·clear hz
  go_wp2_with (at_builtin; refine qan (lo := w.heap.size) (N := w4.heap.size) (M := w5.heap.size + 1) (l := [aCell1, aTop2]) (by rfl) _ _ (by rfl) (by rfl) (by rfl) hT5 (bbel) (StrAt.lit w5 _ [aCell1, aTop2] _ rfl (by rfl)) (by rfl) (Below.refl _ _) (by omega) (by (intro x hx; simp only [List.mem_cons, List.not_mem_nil, or_false] at hx; first | (rcases hx with rfl | rfl <;> decide) | (subst hx; decide))) (by (have := qaf t; have := qaf c; have := qaf m; simp only [List.length_append, List.length_cons, List.length_nil]; omega)) (by omega) (by (first | omega | (simp; done) | (simp; omega))) ?_)
  intro v6 w6 hT6 hb6
  have hs6 := hb6.size; (try simp only [World.size_alloc] at hs6)
  go_wp2_with (at_builtin; refine qan (lo := w.heap.size) (N := w4.heap.size) (M := w4.heap.size) (w5 := w5) (l := blk m) (by rfl) _ _ (by rfl) (by rfl) (by rfl) hT6 (bbel) Sm (Nbm.out) (bbel) (by omega) (by first | exact blk_size _ | decide) (by (have := qaf t; have := qaf c; have := qaf m; simp only [List.length_append, List.length_cons, List.length_nil]; omega)) (by omega) (by (first | omega | (simp; done) | (simp; omega))) ?_)
  intro v7 w7 hT7 hb7
  have hs7 := hb7.size; (try simp only [World.size_alloc] at hs7)
  go_wp2_with (at_builtin; refine qan (lo := w.heap.size) (N := w4.heap.size) (M := w7.heap.size + 1) (l := [tkp, aTop2]) (by rfl) _ _ (by rfl) (by rfl) (by rfl) hT7 (bbel) (StrAt.lit w7 _ [tkp, aTop2] _ rfl (by rfl)) (by rfl) (Below.refl _ _) (by omega) (by (intro x hx; simp only [List.mem_cons, List.not_mem_nil, or_false] at hx; first | (rcases hx with rfl | rfl <;> decide) | (subst hx; decide))) (by (have := qaf t; have := qaf c; have := qaf m; simp only [List.length_append, List.length_cons, List.length_nil]; omega)) (by omega) (by (first | omega | (simp; done) | (simp; omega))) ?_)
  intro v8 w8 hT8 hb8
  have hs8 := hb8.size; (try simp only [World.size_alloc] at hs8)
  go_wp2_with (at_builtin; refine qan (lo := w.heap.size) (N := w4.heap.size) (M := w4.heap.size) (w5 := w5) (l := blk c) (by rfl) _ _ (by rfl) (by rfl) (by rfl) hT8 (bbel) Sc (Nbc.out) (bbel) (by omega) (by first | exact blk_size _ | decide) (by (have := qaf t; have := qaf c; have := qaf m; simp only [List.length_append, List.length_cons, List.length_nil]; omega)) (by omega) (by (first | omega | (simp; done) | (simp; omega))) ?_)
  intro v9 w9 hT9 hb9
  have hs9 := hb9.size; (try simp only [World.size_alloc] at hs9)
  go_wp2_with (at_builtin; refine qan (lo := w.heap.size) (N := w4.heap.size) (M := w9.heap.size + 1) (l := [tkp]) (by rfl) _ _ (by rfl) (by rfl) (by rfl) hT9 (bbel) (StrAt.lit w9 _ [tkp] _ rfl (by rfl)) (by rfl) (Below.refl _ _) (by omega) (by (intro x hx; simp only [List.mem_cons, List.not_mem_nil, or_false] at hx; first | (rcases hx with rfl | rfl <;> decide) | (subst hx; decide))) (by (have := qaf t; have := qaf c; have := qaf m; simp only [List.length_append, List.length_cons, List.length_nil]; omega)) (by omega) (by (first | omega | (simp; done) | (simp; omega))) ?_)
  intro v10 w10 hT10 hb10
  have hs10 := hb10.size; (try simp only [World.size_alloc] at hs10)
  go_wp2_with (at_builtin; refine qan (lo := w.heap.size) (N := w4.heap.size) (M := w4.heap.size) (w5 := w5) (l := blk t) (by rfl) _ _ (by rfl) (by rfl) (by rfl) hT10 (bbel) St (Nbt.out) (bbel) (by omega) (by first | exact blk_size _ | decide) (by (have := qaf t; have := qaf c; have := qaf m; simp only [List.length_append, List.length_cons, List.length_nil]; omega)) (by omega) (by (first | omega | (simp; done) | (simp; omega))) ?_)
  intro v11 w11 hT11 hb11
  have hs11 := hb11.size; (try simp only [World.size_alloc] at hs11)
  go_wp2
  all_goals (try go_returns)
  all_goals exact HR.out _ _ ⟨_, _, p + 4, rfl, by have hD := (Drawn.four t c m HT.out HC.out HM.out); simpa using hD, ⟨hT11.sl, fun b hb => by have := hT11.own b hb; omega⟩, by omega, rdd, eexx⟩
 ·clear hz
  go_wp2_with (at_builtin; refine qan (lo := w.heap.size) (N := w4.heap.size) (M := w5.heap.size + 1) (l := [aTop1, aCell1]) (by rfl) _ _ (by rfl) (by rfl) (by rfl) hT5 (bbel) (StrAt.lit w5 _ [aTop1, aCell1] _ rfl (by rfl)) (by rfl) (Below.refl _ _) (by omega) (by (intro x hx; simp only [List.mem_cons, List.not_mem_nil, or_false] at hx; first | (rcases hx with rfl | rfl <;> decide) | (subst hx; decide))) (by (have := qaf t; have := qaf c; have := qaf m; simp only [List.length_append, List.length_cons, List.length_nil]; omega)) (by omega) (by (first | omega | (simp; done) | (simp; omega))) ?_)
  intro v6 w6 hT6 hb6
  have hs6 := hb6.size; (try simp only [World.size_alloc] at hs6)
  go_wp2_with (at_builtin; refine qan (lo := w.heap.size) (N := w4.heap.size) (M := w4.heap.size) (w5 := w5) (l := blk m) (by rfl) _ _ (by rfl) (by rfl) (by rfl) hT6 (bbel) Sm (Nbm.out) (bbel) (by omega) (by first | exact blk_size _ | decide) (by (have := qaf t; have := qaf c; have := qaf m; simp only [List.length_append, List.length_cons, List.length_nil]; omega)) (by omega) (by (first | omega | (simp; done) | (simp; omega))) ?_)
  intro v7 w7 hT7 hb7
  have hs7 := hb7.size; (try simp only [World.size_alloc] at hs7)
  go_wp2_with fail
  refine (S_pick r (p + 4) 3 _ (by omega) (rdd) (by omega)).mono ?_
  rintro _ w8 ⟨⟨y, hy, rfl⟩, h7, h8⟩
  have h8s := (h8).size; (try simp only [qsz] at h8s)
  obtain ⟨h8ac, h8ad, h8af, h8ag, h8az, h8ax, h8ay⟩ := efacts (n := w7.heap.size) (k := 1) h8 (by go_size) (by go_size) (by first | omega | (simp; omega)); replace h8ad := h8ad (by decide); replace h8ag := h8ag (by decide); replace h8ax := h8ax (by decide); clear h8ac h8af h8az
  have hcell : ∃ x : ByteArray, (x = aTop0 ∨ x = aCell1 ∨ x = aNone0) ∧ w8.cell? ⟨w7.heap.size, y.toNat, none⟩ = some (.string x) := by
   rcases three hy with rfl | rfl | rfl
   ·exact ⟨aTop0, Or.inl rfl, (by rw [h8ad, World.cell?_alloc_at (hn := rfl)]; rfl)⟩
   ·exact ⟨aCell1, Or.inr (Or.inl rfl), (by rw [h8ad, World.cell?_alloc_at (hn := rfl)]; rfl)⟩
   ·exact ⟨aNone0, Or.inr (Or.inr rfl), (by rw [h8ad, World.cell?_alloc_at (hn := rfl)]; rfl)⟩
  obtain ⟨x, hx, hcx⟩ := hcell
  have y1 := hy.1
  have y4 := hy.2.1 (by omega)
  have E8 : Ex r w4.heap.size w5 w8 := eexx
  have hT8 := (hT7.below qak (bbel : Below w7.heap.size w7 (w7.alloc _))).ex h8 (by omega) (Nat.le_refl _)
  have St8 := St.ex E8 (by omega) (by omega)
  have Sc8 := Sc.ex E8 (by omega) (by omega)
  have HX := qhd hx
  have hxs : ∀ z ∈ [tkp, x], z.size ≤ 100 := by
   intro z hz
   simp only [List.mem_cons, List.not_mem_nil, or_false] at hz
   rcases hz with rfl | rfl
   ·decide
   ·rcases hx with rfl | rfl | rfl <;> decide
  have HXS := qhd hxs
  clear h8ad h8ag h8ax h8ay hy hx hxs hT6 hT7 hT5 St Sc Sm
  go_wp2_with (at_builtin; refine qan (lo := w.heap.size) (N := w4.heap.size) (M := w8.heap.size + 1) (l := [tkp, x]) (by rfl) _ _ (by rfl) (by rfl) (by rfl) hT8 (bbel) (StrAt.lit w8 _ [tkp, x] _ rfl (by rfl)) (by rfl) (Below.refl _ _) (by omega) HXS.out (by (have := qaf t; have := qaf c; have := qaf m; simp only [List.length_append, List.length_cons, List.length_nil]; omega)) (by omega) (by (first | omega | (simp; done) | (simp; omega))) ?_)
  intro v9 w9 hT9 hb9
  have hs9 := hb9.size
  (try simp only [World.size_alloc] at hs9)
  go_wp2_with (at_builtin; refine qan (lo := w.heap.size) (N := w4.heap.size) (M := w4.heap.size) (w5 := w8) (l := blk t) (by rfl) _ _ (by rfl) (by rfl) (by rfl) hT9 (bbel) St8 (Nbt.out) (bbel) (by omega) (by first | exact blk_size _ | decide) (by (have := qaf t; have := qaf c; have := qaf m; simp only [List.length_append, List.length_cons, List.length_nil]; omega)) (by omega) (by (first | omega | (simp; done) | (simp; omega))) ?_)
  intro v10 w10 hT10 hb10
  have hs10 := hb10.size; (try simp only [World.size_alloc] at hs10)
  go_wp2_with (at_builtin; refine qan (lo := w.heap.size) (N := w4.heap.size) (M := w4.heap.size) (w5 := w8) (l := blk c) (by rfl) _ _ (by rfl) (by rfl) (by rfl) hT10 (bbel) Sc8 (Nbc.out) (bbel) (by omega) (by first | exact blk_size _ | decide) (by (have := qaf t; have := qaf c; have := qaf m; simp only [List.length_append, List.length_cons, List.length_nil]; omega)) (by omega) (by (first | omega | (simp; done) | (simp; omega))) ?_)
  intro v11 w11 hT11 hb11
  have hs11 := hb11.size; (try simp only [World.size_alloc] at hs11)
  go_wp2
  all_goals (try go_returns)
  all_goals exact HR.out _ _ ⟨_, _, p + 5, rfl, by have hD := (Drawn.five t c m x HT.out HC.out HM.out HX.out); simpa using hD, ⟨hT11.sl, fun b hb => by have := hT11.own b hb; omega⟩, by omega, rdd, eexx⟩

end Go.Proofs.YtfbonocadpknbaaGreatDoor
