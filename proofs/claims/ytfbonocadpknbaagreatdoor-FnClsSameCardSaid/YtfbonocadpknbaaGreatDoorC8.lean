/-
  Texts of mine, packed: Last, Inner, InnerM. No condition beside those of the single theorems.
-/
import Derived.Test.YtfbonocadpknbaaGreatDoorC7
import Derived.Deep.CutBlock
set_option linter.unusedSimpArgs false
set_option linter.unusedVariables false
set_option maxHeartbeats 16000000
set_option maxRecDepth 100000
namespace Go.Proofs.YtfbonocadpknbaaGreatDoor
open Go.RowKit
theorem sty_Cls : STy 42 37 4 (.agg #[.string ⟨#[]⟩, .string ⟨#[]⟩, .slice none 0 0, .slice none 0 0]) 80 := ⟨Tryz.underlying42, by kernel_rfl, rfl, by decide, by decide⟩
theorem sty_Fld : STy 34 69 3 (.agg #[.string ⟨#[]⟩, .int .i64 0, .string ⟨#[]⟩]) 40 := ⟨Tryz.underlying34, by kernel_rfl, rfl, by decide, by decide⟩
theorem sty_Mth : STy 35 65 8 (.agg #[.string ⟨#[]⟩, .slice none 0 0, .int .i64 0, .string ⟨#[]⟩, .int .i64 0, .int .i64 0, .slice none 0 0, .slice none 0 0]) 128 := ⟨Tryz.underlying35, by kernel_rfl, rfl, by decide, by decide⟩
theorem sty_Ins : STy 62 91 4 (.agg #[.int .i64 0, .int .i64 0, .string ⟨#[]⟩, .string ⟨#[]⟩]) 48 := ⟨Tryz.underlying62, by kernel_rfl, rfl, by decide, by decide⟩
theorem sty_Map : STy 63 98 3 (.agg #[.int .i64 0, .slice none 0 0, .slice none 0 0]) 56 := ⟨Tryz.underlying63, by kernel_rfl, rfl, by decide, by decide⟩
theorem sty_Ask : STy 43 51 2 (.agg #[.string ⟨#[]⟩, .int .i64 0]) 24 := ⟨Tryz.underlying43, by kernel_rfl, rfl, by decide, by decide⟩
theorem sty_Kpr : STy 23 45 2 (.agg #[.slice none 0 0, .slice none 0 0]) 48 := ⟨Tryz.underlying23, by kernel_rfl, rfl, by decide, by decide⟩

theorem TSl.src {α : Type} {k : Nat} {R : RowRel α} {e : TypeId} {lo : Nat} {w : World} {v : Value} {xs : List α} (h : TSl k R e lo w v xs) : ∃ css, Src k w v css ∧ Rows k R lo w css xs := by
 obtain ⟨css, h1, h2⟩ := h
 exact ⟨css, Src.of_own h1 h2, h1⟩
theorem TSl.src_take {α : Type} {k : Nat} {R : RowRel α} {e : TypeId} {lo : Nat} {w : World} {v : Value} {xs : List α} (h : TSl k R e lo w v xs) (hn : 0 < xs.length) (m : Nat) (hm : m ≤ xs.length) :
  ∃ (ad : Addr) (cap : Nat) (css : List (List Value)), v = .slice (some ad) xs.length cap ∧ xs.length ≤ cap ∧ cap ≤ maxLen ∧ Src k w (.slice (some ad) m cap) css ∧ Rows k R lo w css (xs.take m) := by
 obtain ⟨css, h1, h2⟩ := h
 obtain ⟨g, cap, rfl, _, _, hc, hmx, hcell, _⟩ := own_cell h2 hn
 refine ⟨⟨g, 0, none⟩, cap, css.take m, rfl, hc, hmx, Or.inr ⟨⟨g, 0, none⟩, cap, by rw [List.length_take, h1.len, Nat.min_eq_left hm], fun j u hj => ?_⟩, h1.take m⟩
 rw [Addr.add_mid, Nat.zero_add]
 refine hcell j u ?_
 have e : css.flatten = (css.take m).flatten ++ (css.drop m).flatten := by rw [← List.flatten_append, List.take_append_drop]
 rw [e, List.getElem?_append_left (List.getElem?_eq_some_iff.1 hj).1]
 exact hj
theorem dropLast_take {α : Type} (xs : List α) : xs.dropLast = xs.take (xs.length - 1) := List.dropLast_eq_take

def TypeAt (w : World) (c : Nat) (t : TypeId) : Prop := ∃ cs fr, w.heap[c]? = some (.cells cs t fr)
theorem TypeAt.below {w w' : World} {c N : Nat} {t : TypeId} (h : TypeAt w c t) (hb : Below N w w') (hc : c < N) : TypeAt w' c t := by
 obtain ⟨cs, fr, h⟩ := h
 exact ⟨cs, fr, (hb.block c hc).trans h⟩
theorem TypeAt.new (w : World) (cs : Array Value) (t : TypeId) : TypeAt (w.alloc (.cells cs t)) w.heap.size t := ⟨cs, (0, 0), heap_alloc_new w _⟩
theorem TypeAt.new' (w : World) (cs : Array Value) (t : TypeId) (c : Nat) (hc : c = w.heap.size) : TypeAt (w.alloc (.cells cs t)) c t := hc ▸ TypeAt.new w cs t
theorem TypeAt.alloc {w : World} {c : Nat} {t : TypeId} (h : TypeAt w c t) (o : Obj) : TypeAt (w.alloc o) c t := by
 obtain ⟨cs, fr, h⟩ := h
 exact ⟨cs, fr, (Below.heap_alloc _ _ _ (Array.getElem?_eq_some_iff.1 h).1).trans h⟩
theorem TypeAt.drew {w : World} {c : Nat} {t : TypeId} (h : TypeAt w c t) : TypeAt w.drew c t := h
theorem TypeAt.set {w : World} {c : Nat} {t : TypeId} (h : TypeAt w c t) (a : Addr) (v : Value) : TypeAt (w.setCell a v) c t := by
 obtain ⟨cs, fr, h⟩ := h
 by_cases hc : c = a.block
 ·subst hc
  refine ⟨if a.spot.isSome then cs else cs.setIfInBounds a.off v, fr, ?_⟩
  show (w.heap.modify a.block _)[a.block]? = _
  rw [Array.getElem?_modify, if_pos rfl, h]
  rfl
 ·exact ⟨cs, fr, (Below.heap_setCell _ _ _ _ hc).trans h⟩
theorem KeepsT.refl (E : TypeId → Prop) (lo : Nat) (w : World) : KeepsT E lo w w := ⟨Nat.le_refl _, fun _ _ _ _ _ _ _ => rfl⟩
theorem KeepsT.trans {E : TypeId → Prop} {lo : Nat} {a b c : World} (h : KeepsT E lo a b) (k : KeepsT E lo b c) : KeepsT E lo a c :=
 ⟨Nat.le_trans h.size k.size, fun g cs e fr hl he hg => by
  have h1 := h.block g cs e fr hl he hg
  exact (k.block g cs e fr hl he (h1.trans hg)).trans h1⟩
theorem KeepsT.set {E : TypeId → Prop} {lo : Nat} {w : World} {c o : Nat} {v : Value} {t : TypeId} (h : TypeAt w c t) (hn : ¬ E t) : KeepsT E lo w (w.setCell ⟨c, o, none⟩ v) := by
 refine ⟨by simp [World.setCell], fun g cs e fr _ he hg => Below.heap_setCell _ _ _ _ ?_⟩
 intro hgc
 obtain ⟨cs', fr', h⟩ := h
 have hgc : g = c := hgc
 rw [hgc, h] at hg
 cases hg
 exact hn he
theorem KeepsT.setB {E : TypeId → Prop} {lo : Nat} {w w1 : World} {c o : Nat} {t : TypeId} (k : KeepsT E lo w w1) (h : TypeAt w1 c t) (hn : ¬ E t) (v : Value) : KeepsT E lo w (w1.setCell ⟨c, o, none⟩ v) := k.trans (KeepsT.set h hn)
theorem KeepsT.allocB {E : TypeId → Prop} {lo : Nat} {w w1 : World} (k : KeepsT E lo w w1) (o : Obj) : KeepsT E lo w (w1.alloc o) := k.trans (KeepsT.of_below ((Below.refl _ _).alloc (Nat.le_refl _) o))
theorem KeepsT.drewB {E : TypeId → Prop} {lo : Nat} {w w1 : World} (k : KeepsT E lo w w1) : KeepsT E lo w w1.drew := ⟨k.size, k.block⟩
theorem TOwn.keeps {α : Type} {k : Nat} {E E' : TypeId → Prop} {R : RowRel α} (hR : GoodT E R) (hE : ∀ t, E t → E' t) {e : TypeId} (he : E' e) {lo B : Nat} {w w' : World} {v : Value} {xs : List α} (h : TOwn k R e lo B w v xs) (hk : KeepsT E' lo w w') : TOwn k R e lo B w' v xs :=
 ⟨h.sl.stays (hR.mono hE) he hk, h.own⟩
theorem TOwn.mono {α : Type} {k : Nat} {R : RowRel α} {e : TypeId} {lo B B' : Nat} {w : World} {v : Value} {xs : List α} (h : TOwn k R e lo B w v xs) (hB : B' ≤ B) : TOwn k R e lo B' w v xs := ⟨h.sl, fun b hb => Nat.le_trans hB (h.own b hb)⟩
def EPlan : TypeId → Prop := fun t => ELodKeeper t ∨ t = 45
theorem EPlan_plan : ¬ EPlan 25 := by unfold EPlan ELodKeeper; decide

theorem Four2.below {w w' : World} {N b : Nat} {x0 x1 : Value} (h : Four2 w b x0 x1) (hb : Below N w w') (hN : b < N) : Four2 w' b x0 x1 :=
 ⟨Nat.lt_of_lt_of_le h.lt hb.size, qat hb hN h.c0, qat hb hN h.c1, qax hb hN h.f0, qax hb hN h.f1⟩

theorem S_l8Last (owns : List DClsClass) (c : DClsClass) (v1 v2 f1 f2 : Value) (lo : Nat) (w : World) (hlo : lo ≤ w.heap.size) (s1 : TSl 4 tClsClass 37 lo w v1 owns) (hn : 0 < owns.length) (hl : owns.length ≤ 10000) (a2 : Option Addr) (n2 c2 : Nat) (hv2 : v2 = .slice a2 n2 c2)
  (hc : tClsClass lo w [.string c.fName, .string c.fSuper, f1, f2] c) :
  Calls Tryz.prog 97 #[.agg #[v1, v2], .agg #[.string c.fName, .string c.fSuper, f1, f2]] w fun e w' => ∃ v', e = .returned (.agg #[v', v2]) ∧ TOwn 4 tClsClass 37 lo w.heap.size w' v' (owns.dropLast ++ [c]) ∧ Below w.heap.size w w' := by
 subst hv2
 obtain ⟨ad, cap, css, rfl, hcap, hmx, hsrc, hrow⟩ := s1.src_take hn (owns.length - 1) (by omega)
 obtain ⟨y1, y2, e0, t1, t2, hb1, hb2⟩ := id hc
 cases e0
 obtain ⟨fa, fn, fc, rfl⟩ := t1.form3
 obtain ⟨ga, gn, gc, rfl⟩ := t2.form3
 have HSRC := qhd hsrc
 have HROW := qhd hrow
 have HC := qhd hc
 have hmx' : cap ≤ 9223372036854775807 := by unfold maxLen at hmx; omega
 obtain ⟨n, hnn⟩ : ∃ n, owns.length = n := ⟨_, rfl⟩
 rw [hnn] at hn hl hcap HSRC HROW ⊢
 have HD := qhd (dropLast_take owns)
 have HNN := qhd hnn
 rw [hnn] at HD
 clear hsrc hrow hc s1 t1 t2 hmx hnn
 refine qab fun R HR => ?_
 go_enter Tryz.func97, Tryz.ntmps97
 go_wp2_with fail
 refine wp_app4 (css := css) (B := w.heap.size + 3) (lo := lo) (R := tClsClass) (E := EClsClass) (src2 := .slice (some ad) (n - 1) cap) (nm := (n : Int)) (sa := some ad) (sc := cap) (bx := w.heap.size) (fx := 0) (cy := w.heap.size + 1)
  (src := .slice (some ad) n cap) (csy := [.string c.fName, .string c.fSuper, .slice fa fn fc, .slice ga gn gc]) (xs := owns.take (n - 1)) sty_Cls (by decide) tClsClass_goodT tClsClass_one (by omega) (by simp) (by rfl) (by intro w; go_simp) (by go_simp) (by rfl) ?hcy (by simp) rfl Tryz.underlying3 (by omega) (by rw [Int.toNat_natCast])
  ?hcut Tryz.underlying37 rfl ?hsrc ?hrow ?hlen (by decide) (by decide) (by simp) rfl (by kernel_rfl) (by decide) (by kernel_rfl) (by kernel_rfl) (by kernel_rfl) (by kernel_rfl) ?h
 case hcy => (intro j u hj; match j, hj with | 0, hj => cases hj; go_simp | 1, hj => cases hj; go_simp | 2, hj => cases hj; go_simp | 3, hj => cases hj; go_simp | j + 4, hj => simp at hj)
 case hcut => intro w1; go_simp; intro hx; exact absurd (hx (by omega)) (by omega)
 case hsrc => exact HSRC.out.kept (bbel)
 case hrow => exact HROW.out.mono fun cs x hx => tClsClass_goodT.stays _ _ _ _ _ (KeepsT.of_below (bbel)) hx
 case hlen => rw [List.length_take]; omega
 case h =>
  intro v0 v8 v10 w1 hb1 ht1 hs1
  simp only [qnr]
  have hz1 := hb1.size
  have X1 := qhd ((show Four2 _ w.heap.size (.slice (some ad) n cap) (.slice a2 n2 c2) by refine ⟨by simp; omega, ?_, ?_, ?_, ?_⟩ <;> go_simp : Four2 _ w.heap.size (.slice (some ad) n cap) (.slice a2 n2 c2)).keep hb1)
  have R1 := qhd ((show Four2 _ (w.heap.size + 2) (.slice none 0 0) (.slice none 0 0) by refine ⟨by simp, ?_, ?_, ?_, ?_⟩ <;> go_simp : Four2 _ (w.heap.size + 2) (.slice none 0 0) (.slice none 0 0)).keep hb1)
  have TX1 : Hid (TypeAt w1 w.heap.size 45) := qhd (by refine TypeAt.below ?_ hb1 (by simp; omega); (repeat' (first | (with_reducible assumption) | ((with_reducible refine TypeAt.new' _ _ _ _ ?_); simp; done) | (with_reducible refine TypeAt.alloc ?_ _) | (with_reducible refine TypeAt.set ?_ _ _) | (with_reducible refine TypeAt.drew ?_))))
  have TR1 : Hid (TypeAt w1 (w.heap.size + 2) 45) := qhd (by refine TypeAt.below ?_ hb1 (by simp); (repeat' (first | (with_reducible assumption) | ((with_reducible refine TypeAt.new' _ _ _ _ ?_); simp; done) | (with_reducible refine TypeAt.alloc ?_ _) | (with_reducible refine TypeAt.set ?_ _ _) | (with_reducible refine TypeAt.drew ?_))))
  simp only [World.size_alloc] at hz1
  have HH1 := qhd hb1
  have hE1 : Below w.heap.size w w1 := bbel
  clear hb1
  go_wp2_with (refine qam (B := w.heap.size + 3) (lo := lo) (xs := owns.take (n - 1)) (ys := [c]) (css := [[.string c.fName, .string c.fSuper, .slice fa fn fc, .slice ga gn gc]]) (E := EClsClass) (by rfl) (.tmp 13) (.tmp 15) 42 (by rfl) sty_Cls tClsClass_goodT EClsClass_not tClsClass_one (by rfl) (by rfl) ht1 hs1 (Rows.one rfl ?hr) ?hl ?hlo ?hB ?_)
  case hr => exact tClsClass_goodT.stays _ _ _ _ _ (KeepsT.of_below (by have := HH1.out; exact bbel)) HC.out
  case hl => simp; omega
  case hlo => omega
  case hB => omega
  intro v2 w2 ht2 hb2' hg2 hk2 hat2
  have X2 := X1.out.below hb2' (by omega)
  have TX2 := qhd (TX1.out.below hb2' (by omega))
  have TR2 := qhd (TR1.out.below hb2' (by omega))
  have R2 := R1.out.below hb2' (by omega)
  have hE2 : Below w.heap.size w w2 := bbel
  have hz2 := hb2'.size
  obtain ⟨fa2, fn2, fc2, rfl⟩ := ht2.sl.form3
  have HT2 := qhd ht2
  clear ht1 hs1 ht2 hb2' hg2 hk2 hat2 X1 R1 HH1
  obtain ⟨lx, x0, x1, g0, g1⟩ := X2
  obtain ⟨lr, r0, r1, o0, o1⟩ := R2
  go_wp2
  all_goals
   refine bodyPost_ret (v := ?_) ?hrun rfl ?_
   case hrun => (simp only [results, Tryz.results97]; go_simp; first | done | exact rfl)
   refine HR.out _ _ ⟨.slice fa2 fn2 fc2, rfl, ?_, bbel⟩
   rw [HD.out]
   refine (HT2.out.keeps tClsClass_goodT EClsClass_LodKeeper (by unfold ELodKeeper; decide) ?_).mono (by omega)
   have TX := TX2.out
   have TR := TR2.out
   (repeat' (first | (with_reducible exact KeepsT.refl _ _ _) | (with_reducible assumption) | (with_reducible refine KeepsT.allocB ?_ _) | (with_reducible refine KeepsT.drewB ?_) | (with_reducible refine KeepsT.setB ?_ ?_ (ELodKeeper_not) _) | ((with_reducible refine TypeAt.new' _ _ _ _ ?_); simp; done) | (with_reducible refine TypeAt.alloc ?_ _) | (with_reducible refine TypeAt.set ?_ _ _) | (with_reducible refine TypeAt.drew ?_)))

theorem Four.below {w w' : World} {N b : Nat} {x0 x1 x2 x3 : Value} (h : Four w b x0 x1 x2 x3) (hb : Below N w w') (hN : b < N) : Four w' b x0 x1 x2 x3 :=
 ⟨Nat.lt_of_lt_of_le h.lt hb.size, qat hb hN h.c0, qat hb hN h.c1, qat hb hN h.c2, qat hb hN h.c3, qax hb hN h.f0, qax hb hN h.f1, qax hb hN h.f2, qax hb hN h.f3⟩

structure SmallC (N : Nat) (c : DClsClass) : Prop where
 flds : c.fFields.length ≤ N
 mths : c.fMethods.length ≤ N
 maps : ∀ m ∈ c.fMethods, m.fMaps.length ≤ N
 code : ∀ m ∈ c.fMethods, m.fCode.length ≤ N

def InnerPost (c : DClsClass) (line : ByteArray) (lo : Nat) (w : World) (e : Ending) (w' : World) : Prop :=
 ∃ v1 v2, e = .returned (.tuple #[.agg #[.string (inner c line).1.fName, .string (inner c line).1.fSuper, v1, v2], .bool (inner c line).2]) ∧ tClsClass lo w' [.string (inner c line).1.fName, .string (inner c line).1.fSuper, v1, v2] (inner c line).1 ∧ Below w.heap.size w w'

theorem inner_field {c : DClsClass} {line w0 : ByteArray} (h0 : (words line).getD 0 ⟨#[]⟩ = w0) (h : isW w0 tField = true) : inner c line = ({ c with fFields := c.fFields ++ [(fldRead (words line)).1] }, (fldRead (words line)).2 && decide (c.fMethods.length = 0)) := by
 unfold inner
 simp only [h0]
 rw [if_pos h]
theorem fldRead_size {ws : List ByteArray} (h : ∀ x ∈ ws, x.size ≤ 10000) : (fldRead ws).1.fName.size ≤ 10000 ∧ (fldRead ws).1.fKind.fName.size ≤ 10000 := by
 unfold fldRead
 split
 ·rename_i a b
  split
  ·refine ⟨h a (by simp), ?_⟩
   have := kndRead_size (s := b) (k := (kndRead b).1) (b := (kndRead b).2) rfl
   exact Nat.le_trans this (h b (by simp))
  ·exact ⟨Nat.zero_le _, Nat.zero_le _⟩
 ·exact ⟨Nat.zero_le _, Nat.zero_le _⟩

theorem S_l8Inner_field (c : DClsClass) (vf vm : Value) (line : ByteArray) (v : Value) (g cap lo : Nat) (w : World) (hlo : lo ≤ w.heap.size) (hc : tClsClass lo w [.string c.fName, .string c.fSuper, vf, vm] c) (hw : Wds w v (words line) g cap) (hs : SmallC 10000 c)
  (w0 : ByteArray) (h0 : (words line)[0]? = some w0) (hk : isW w0 tField = true) :
  Calls Tryz.prog 96 #[.agg #[.string c.fName, .string c.fSuper, vf, vm], v, .string line] w fun e w' => InnerPost c line lo w e w' := by
 have IV := qhd (inner_field (c := c) (line := line) (by rw [List.getD_eq_getElem?_getD, h0]; rfl) hk)
 obtain ⟨fs1, fs2⟩ := fldRead_size (ws := words line) hw.size
 have hk' := isW_true hk
 unfold tField at hk'
 obtain ⟨y1, y2, e0, t1, t2, hb1, hb2⟩ := id hc
 cases e0
 obtain ⟨css, hsrc, hrow⟩ := t1.src
 obtain ⟨fa, fn, fc, rfl⟩ := t1.form3
 obtain ⟨ga, gc, rfl, _, _⟩ := t2.form
 obtain ⟨mn, hmn⟩ : ∃ n, c.fMethods.length = n := ⟨_, rfl⟩
 have hmn2 : mn ≤ 10000 := by rw [← hmn]; exact hs.mths
 obtain ⟨f, ok, hf⟩ : ∃ a b, fldRead (words line) = (a, b) := ⟨_, _, rfl⟩
 rw [hf] at fs1 fs2 IV
 rw [hmn] at IV hc ⊢
 have HW := qhd hw
 have CF : ∀ W, Below w.heap.size w W → Calls Tryz.prog 109 #[v] W fun e w' => e = .returned (.tuple #[.agg #[.string f.fName, .int .i64 f.fKind.fKind, .string f.fKind.fName], .bool ok]) ∧ Below W.heap.size W w' := fun W hb => (S_l8ReadField v (words line) g cap W (HW.out.below hb)).mono fun e w' h => ⟨h.1.trans (by rw [hf]; rfl), h.2⟩
 have T2 : Hid (TSl 8 tClsMethod 65 lo w (.slice ga mn gc) c.fMethods) := qhd (by rw [← hmn]; exact t2)
 have HSRC := qhd hsrc
 have HROW := qhd hrow
 have hlen : c.fFields.length ≤ 10000 := hs.flds
 have c0 := hw.cell 0 w0 h0
 have hv := hw.val
 have hpos := hw.pos
 have hg : g < w.heap.size := block_lt_of_cell c0
 subst hv
 have MB : Hid (((mn : Int) == 0) = decide (mn = 0)) := qhd (by rw [Bool.eq_iff_iff]; simp)
 clear hf hs hw hc t1 t2 hsrc hrow hmn hk h0
 refine qab fun R HR => ?_
 go_enter Tryz.func96, Tryz.ntmps96
 go_wp2_with fail
 refine (CF _ (bbel)).mono ?_
 rintro _ w1 ⟨rfl, h1⟩
 have h1s := (h1).size; (try simp only [qsz] at h1s)
 have X1 := qhd ((show Four _ w.heap.size (.string c.fName) (.string c.fSuper) (.slice fa fn fc) (.slice ga mn gc) by refine ⟨by (first | omega | (simp; done) | (simp; omega)), ?_, ?_, ?_, ?_, ?_, ?_, ?_, ?_⟩ <;> go_simp : Four _ w.heap.size (.string c.fName) (.string c.fSuper) (.slice fa fn fc) (.slice ga mn gc)).keep h1)
 have R1 := qhd ((show Four _ (w.heap.size + 1) (.string ⟨#[]⟩) (.string ⟨#[]⟩) (.slice none 0 0) (.slice none 0 0) by refine ⟨by (first | omega | (simp; done) | (simp; omega)), ?_, ?_, ?_, ?_, ?_, ?_, ?_, ?_⟩ <;> go_simp : Four _ (w.heap.size + 1) (.string ⟨#[]⟩) (.string ⟨#[]⟩) (.slice none 0 0) (.slice none 0 0)).keep h1)
 have TX1 : Hid (TypeAt w1 w.heap.size 37) := qhd (by refine TypeAt.below ?_ h1 (by (first | omega | (simp; done) | (simp; omega))); (repeat' (first | (with_reducible assumption) | ((with_reducible refine TypeAt.new' _ _ _ _ ?_); simp; done) | (with_reducible refine TypeAt.alloc ?_ _) | (with_reducible refine TypeAt.set ?_ _ _) | (with_reducible refine TypeAt.drew ?_))))
 have TR1 : Hid (TypeAt w1 (w.heap.size + 1) 37) := qhd (by refine TypeAt.below ?_ h1 (by (first | omega | (simp; done) | (simp; omega))); (repeat' (first | (with_reducible assumption) | ((with_reducible refine TypeAt.new' _ _ _ _ ?_); simp; done) | (with_reducible refine TypeAt.alloc ?_ _) | (with_reducible refine TypeAt.set ?_ _ _) | (with_reducible refine TypeAt.drew ?_))))
 have hE1 : Below w.heap.size w w1 := bbel
 clear h1 CF
 go_wp2_with fail
 have hlx := X1.out.lt
 have hlr := R1.out.lt
 refine wp_app2 (css := css) (B := w1.heap.size + 1) (lo := lo) (R := rClsField) (E := NoT) (bx := w.heap.size) (fx := 2) (cy := w1.heap.size) (src := .slice fa fn fc) (csy := [.string f.fName, .int .i64 f.fKind.fKind, .string f.fKind.fName]) (xs := c.fFields) sty_Fld (by decide) rClsField_goodT rClsField_one (by first | omega | (simp; omega)) (by (first | omega | (simp; done) | (simp; omega))) (by rfl) (by intro w; go_simp) ?hcx (by rfl) ?hcy (by (first | omega | (simp; done) | (simp; omega))) rfl Tryz.underlying69 rfl ?hsrc ?hrow ?hlen (by decide) (by decide) (by simp) rfl (by kernel_rfl) (by decide) (by kernel_rfl) (by kernel_rfl) (by kernel_rfl) (by kernel_rfl) ?h
 case hcy => (intro j u hj; match j, hj with | 0, hj => cases hj; go_simp | 1, hj => cases hj; go_simp | 2, hj => cases hj; go_simp | j + 3, hj => simp at hj)
 case hsrc => exact (HSRC.out).kept (bbel)
 case hrow => exact (HROW.out).mono fun cs x hx => (rClsField_goodT).stays _ _ _ _ _ (KeepsT.of_below (bbel)) hx
 case hlen => omega
 case hcx => have := X1.out.c2; go_simp
 case h =>
  intro v0 v3 v5 w2 hb2' ht2 hs2
  simp only [qnr]
  have hz2 := hb2'.size
  simp only [World.size_alloc] at hz2
  have hE2 : Below w1.heap.size w1 w2 := bbel
  have X2 := qhd (X1.out.below hE2 hlx)
  have R2 := qhd (R1.out.below hE2 hlr)
  have TX2 := qhd (TX1.out.below hE2 hlx)
  have TR2 := qhd (TR1.out.below hE2 hlr)
  clear hb2' X1 R1 TX1 TR1
  go_wp2_with (refine qam (B := w1.heap.size + 1) (lo := lo) (xs := c.fFields) (ys := [f]) (css := [[.string f.fName, .int .i64 f.fKind.fKind, .string f.fKind.fName]]) (E := NoT) (by rfl) (.tmp 34) (.tmp 36) 34 (by rfl) sty_Fld rClsField_goodT id rClsField_one (by rfl) (by rfl) ht2 hs2 (Rows.one rfl ?hr) ?hl ?hlo ?hB ?_)
  case hr => exact ⟨rfl, by unfold maxLen; omega, by unfold maxLen; omega⟩
  case hl => simp; omega
  case hlo => omega
  case hB => omega
  intro v3' w3 ht3 hb3' hg3 hk3 hat3
  have X3 := X2.out.below hb3' (by omega)
  have R3 := R2.out.below hb3' (by omega)
  have TX3 := qhd (TX2.out.below hb3' (by omega))
  have TR3 := qhd (TR2.out.below hb3' (by omega))
  have hE3 : Below w.heap.size w w3 := bbel
  have hz3 := hb3'.size
  obtain ⟨fa2, fn2, fc2, rfl⟩ := ht3.sl.form3
  have HT3 := qhd ht3
  have HE3 := qhd hE3
  clear ht2 hs2 ht3 hb3' hg3 hk3 hat3 X2 R2 TX2 TR2
  obtain ⟨lx, x0, x1, x2, x3, g0, g1, g2, g3⟩ := X3
  obtain ⟨lr, r0, r1, r2, r3, o0, o1, o2, o3⟩ := R3
  go_wp2
  all_goals
   refine bodyPost_ret (v := ?_) ?hrun rfl ?_
   case hrun => (simp only [results, Tryz.results96]; go_simp; first | done | exact rfl)
   refine HR.out _ _ ⟨.slice fa2 fn2 fc2, .slice ga mn gc, ?_, ?_, bbel⟩
   ·rw [IV.out]
    have hMB := MB.out
    clear x0 x1 x2 x3 g0 g1 g2 g3 r0 r1 r2 r3 o0 o1 o2 o3
    simp [*]
   ·rw [IV.out]
    have TX := TX3.out
    have TR := TR3.out
    refine tClsClass_goodT.stays lo w3 _ _ _ (by (repeat' (first | (with_reducible exact KeepsT.refl _ _ _) | (with_reducible assumption) | (with_reducible refine KeepsT.allocB ?_ _) | (with_reducible refine KeepsT.drewB ?_) | (with_reducible refine KeepsT.setB ?_ ?_ (EClsClass_not) _) | ((with_reducible refine TypeAt.new' _ _ _ _ ?_); simp; done) | (with_reducible refine TypeAt.alloc ?_ _) | (with_reducible refine TypeAt.set ?_ _ _) | (with_reducible refine TypeAt.drew ?_)))) ?_
    exact ⟨_, _, rfl, HT3.out.sl, T2.out.stays (E := EClsClass) (tClsMethod_goodT.mono EClsMethod_ClsClass) (by unfold EClsClass; simp) (KeepsT.of_below HE3.out), hb1, hb2⟩

theorem inner_method {c : DClsClass} {line w0 : ByteArray} (h0 : (words line).getD 0 ⟨#[]⟩ = w0) (h1 : isW w0 tField = false) (h : isW w0 tMethod = true) : inner c line = ({ c with fMethods := c.fMethods ++ [(mthRead (words line)).1] }, (mthRead (words line)).2) := by
 unfold inner
 simp only [h0]
 rw [if_neg (by rw [h1]; decide), if_pos h]
theorem mthRead_size {ws : List ByteArray} (h : ∀ x ∈ ws, x.size ≤ 10000) : (mthRead ws).1.fName.size ≤ 10000 ∧ (mthRead ws).1.fRet.fName.size ≤ 10000 := by
 unfold mthRead
 split
 ·rename_i nm lo st rt ag
  split
  ·split
   ·exact ⟨Nat.zero_le _, Nat.zero_le _⟩
   ·refine ⟨h nm (by simp), ?_⟩
    have := kndRead_size (s := rt) (k := (kndRead rt).1) (b := (kndRead rt).2) rfl
    exact Nat.le_trans this (h rt (by simp))
  ·exact ⟨Nat.zero_le _, Nat.zero_le _⟩
 ·exact ⟨Nat.zero_le _, Nat.zero_le _⟩

theorem S_l8Inner_method (c : DClsClass) (vf vm : Value) (line : ByteArray) (v : Value) (g cap lo : Nat) (w : World) (hlo : lo ≤ w.heap.size) (hc : tClsClass lo w [.string c.fName, .string c.fSuper, vf, vm] c) (hw : Wds w v (words line) g cap) (hs : SmallC 10000 c)
  (w0 : ByteArray) (h0 : (words line)[0]? = some w0) (hk1 : isW w0 tField = false) (hk : isW w0 tMethod = true) :
  Calls Tryz.prog 96 #[.agg #[.string c.fName, .string c.fSuper, vf, vm], v, .string line] w fun e w' => InnerPost c line lo w e w' := by
 have IV := qhd (inner_method (c := c) (line := line) (by rw [List.getD_eq_getElem?_getD, h0]; rfl) hk1 hk)
 obtain ⟨fs1, fs2⟩ := mthRead_size (ws := words line) hw.size
 obtain ⟨mc1, mc2⟩ := mthRead_code (words line)
 have hk1' := qaw hk1
 have hk' := isW_true hk
 unfold tField at hk1'
 unfold tMethod at hk'
 obtain ⟨y1, y2, e0, t1, t2, hb1, hb2⟩ := id hc
 cases e0
 obtain ⟨css, hsrc, hrow⟩ := t2.src
 obtain ⟨fa, fn, fc, rfl⟩ := t1.form3
 obtain ⟨ga, mn, gc, rfl⟩ := t2.form3
 obtain ⟨f, ok, hf⟩ : ∃ a b, mthRead (words line) = (a, b) := ⟨_, _, rfl⟩
 rw [hf] at fs1 fs2 mc1 mc2 IV
 have HW := qhd hw
 have CF : ∀ W, Below w.heap.size w W → Calls Tryz.prog 110 #[v] W fun e w' => ∃ va, e = .returned (.tuple #[.agg #[.string f.fName, va, .int .i64 f.fRet.fKind, .string f.fRet.fName, .int .i64 f.fLocals, .int .i64 f.fStack, .slice none 0 0, .slice none 0 0], .bool ok]) ∧ TSl 2 rKndKind 61 w.heap.size w' va f.fArgs ∧ Below W.heap.size W w' := fun W hb => (S_l8ReadMethod v (words line) g cap W (HW.out.below hb)).mono fun e w' h => by
  obtain ⟨va, h1, h2, h3⟩ := h
  rw [hf] at h1 h2
  exact ⟨va, h1, h2.low' rKndKind_goodT hb.size, h3⟩
 have T1 := qhd t1
 have HSRC := qhd hsrc
 have HROW := qhd hrow
 have hlen : c.fMethods.length ≤ 10000 := hs.mths
 have c0 := hw.cell 0 w0 h0
 have hv := hw.val
 have hpos := hw.pos
 have hg : g < w.heap.size := block_lt_of_cell c0
 have MC1 := qhd mc1
 have MC2 := qhd mc2
 subst hv
 clear hf hs hw hc t1 t2 hsrc hrow hk hk1 h0 mc1 mc2
 refine qab fun R HR => ?_
 go_enter Tryz.func96, Tryz.ntmps96
 go_wp2_with fail
 refine (CF _ (bbel)).mono ?_
 rintro _ w1 ⟨va, rfl, hta, h1⟩
 have h1s := (h1).size; (try simp only [qsz] at h1s)
 have X1 := qhd ((show Four _ w.heap.size (.string c.fName) (.string c.fSuper) (.slice fa fn fc) (.slice ga mn gc) by refine ⟨by (first | omega | (simp; done) | (simp; omega)), ?_, ?_, ?_, ?_, ?_, ?_, ?_, ?_⟩ <;> go_simp : Four _ w.heap.size (.string c.fName) (.string c.fSuper) (.slice fa fn fc) (.slice ga mn gc)).keep h1)
 have R1 := qhd ((show Four _ (w.heap.size + 1) (.string ⟨#[]⟩) (.string ⟨#[]⟩) (.slice none 0 0) (.slice none 0 0) by refine ⟨by (first | omega | (simp; done) | (simp; omega)), ?_, ?_, ?_, ?_, ?_, ?_, ?_, ?_⟩ <;> go_simp : Four _ (w.heap.size + 1) (.string ⟨#[]⟩) (.string ⟨#[]⟩) (.slice none 0 0) (.slice none 0 0)).keep h1)
 have TX1 : Hid (TypeAt w1 w.heap.size 37) := qhd (by refine TypeAt.below ?_ h1 (by (first | omega | (simp; done) | (simp; omega))); (repeat' (first | (with_reducible assumption) | ((with_reducible refine TypeAt.new' _ _ _ _ ?_); simp; done) | (with_reducible refine TypeAt.alloc ?_ _) | (with_reducible refine TypeAt.set ?_ _ _) | (with_reducible refine TypeAt.drew ?_))))
 have TR1 : Hid (TypeAt w1 (w.heap.size + 1) 37) := qhd (by refine TypeAt.below ?_ h1 (by (first | omega | (simp; done) | (simp; omega))); (repeat' (first | (with_reducible assumption) | ((with_reducible refine TypeAt.new' _ _ _ _ ?_); simp; done) | (with_reducible refine TypeAt.alloc ?_ _) | (with_reducible refine TypeAt.set ?_ _ _) | (with_reducible refine TypeAt.drew ?_))))
 have hE1 : Below w.heap.size w w1 := bbel
 obtain ⟨aa, an, ac, rfl⟩ := hta.form3
 have HM : Hid (tClsMethod lo w1 [.string f.fName, .slice aa an ac, .int .i64 f.fRet.fKind, .string f.fRet.fName, .int .i64 f.fLocals, .int .i64 f.fStack, .slice none 0 0, .slice none 0 0] f) := qhd ⟨_, _, _, rfl, hta.low' rKndKind_goodT hlo, by rw [MC1.out]; exact TSl.nil, by rw [MC2.out]; exact TSl.nil, by unfold maxLen; omega, by unfold maxLen; omega⟩
 clear h1 CF hta
 go_wp2_with fail
 have hlx := X1.out.lt
 have hlr := R1.out.lt
 have CY : Hid (World.rangeAt (w1.alloc (.cells #[.string f.fName, .slice aa an ac, .int .i64 f.fRet.fKind, .string f.fRet.fName, .int .i64 f.fLocals, .int .i64 f.fStack, .slice none 0 0, .slice none 0 0] 65)) w1.heap.size 0 [.string f.fName, .slice aa an ac, .int .i64 f.fRet.fKind, .string f.fRet.fName, .int .i64 f.fLocals, .int .i64 f.fStack, .slice none 0 0, .slice none 0 0]) := qhd (Eight.new w1 _ _ _ _ _ _ _ _ _).range
 refine wp_app2 (css := css) (B := w1.heap.size + 1) (lo := lo) (R := tClsMethod) (E := EClsMethod) (bx := w.heap.size) (fx := 3) (cy := w1.heap.size) (src := .slice ga mn gc) (csy := [.string f.fName, .slice aa an ac, .int .i64 f.fRet.fKind, .string f.fRet.fName, .int .i64 f.fLocals, .int .i64 f.fStack, .slice none 0 0, .slice none 0 0]) (xs := c.fMethods) sty_Mth (by decide) tClsMethod_goodT tClsMethod_one (by first | omega | (simp; omega)) (by (first | omega | (simp; done) | (simp; omega))) (by rfl) (by intro w; go_simp) ?hcx (by rfl) ?hcy (by (first | omega | (simp; done) | (simp; omega))) rfl Tryz.underlying65 rfl ?hsrc ?hrow ?hlen (by decide) (by decide) (by simp) rfl (by kernel_rfl) (by decide) (by kernel_rfl) (by kernel_rfl) (by kernel_rfl) (by kernel_rfl) ?h
 case hcy => exact CY.out
 case hsrc => exact (HSRC.out).kept (bbel)
 case hrow => exact (HROW.out).mono fun cs x hx => (tClsMethod_goodT).stays _ _ _ _ _ (KeepsT.of_below (bbel)) hx
 case hlen => omega
 case hcx => have := X1.out.c3; go_simp
 case h =>
  intro v0 v3 v5 w2 hb2' ht2 hs2
  simp only [qnr]
  have hz2 := hb2'.size
  simp only [World.size_alloc] at hz2
  have hE2 : Below w1.heap.size w1 w2 := bbel
  have X2 := qhd (X1.out.below hE2 hlx)
  have R2 := qhd (R1.out.below hE2 hlr)
  have TX2 := qhd (TX1.out.below hE2 hlx)
  have TR2 := qhd (TR1.out.below hE2 hlr)
  have HE2 := qhd hE2
  clear hb2' X1 R1 TX1 TR1
  go_wp2_with (refine qam (B := w1.heap.size + 1) (lo := lo) (xs := c.fMethods) (ys := [f]) (css := [[.string f.fName, .slice aa an ac, .int .i64 f.fRet.fKind, .string f.fRet.fName, .int .i64 f.fLocals, .int .i64 f.fStack, .slice none 0 0, .slice none 0 0]]) (E := EClsMethod) (by rfl) (.tmp 55) (.tmp 57) 35 (by rfl) sty_Mth tClsMethod_goodT EClsMethod_not tClsMethod_one (by rfl) (by rfl) ht2 hs2 (Rows.one rfl ?hr) ?hl ?hlo ?hB ?_)
  case hr => exact tClsMethod_goodT.stays _ _ _ _ _ (KeepsT.of_below HE2.out) HM.out
  case hl => simp; omega
  case hlo => omega
  case hB => omega
  intro v3' w3 ht3 hb3' hg3 hk3 hat3
  have X3 := X2.out.below hb3' (by omega)
  have R3 := R2.out.below hb3' (by omega)
  have TX3 := qhd (TX2.out.below hb3' (by omega))
  have TR3 := qhd (TR2.out.below hb3' (by omega))
  have hE3 : Below w.heap.size w w3 := bbel
  have hz3 := hb3'.size
  obtain ⟨fa2, fn2, fc2, rfl⟩ := ht3.sl.form3
  have HT3 := qhd ht3
  have HE3 := qhd hE3
  clear ht2 hs2 ht3 hb3' hg3 hk3 hat3 X2 R2 TX2 TR2
  obtain ⟨lx, x0, x1, x2, x3, g0, g1, g2, g3⟩ := X3
  obtain ⟨lr, r0, r1, r2, r3, o0, o1, o2, o3⟩ := R3
  go_wp2
  all_goals
   refine bodyPost_ret (v := ?_) ?hrun rfl ?_
   case hrun => (simp only [results, Tryz.results96]; go_simp; first | done | exact rfl)
   refine HR.out _ _ ⟨.slice fa fn fc, .slice fa2 fn2 fc2, ?_, ?_, bbel⟩
   ·rw [IV.out]
   ·rw [IV.out]
    have TX := TX3.out
    have TR := TR3.out
    refine tClsClass_goodT.stays lo w3 _ _ _ (by (repeat' (first | (with_reducible exact KeepsT.refl _ _ _) | (with_reducible assumption) | (with_reducible refine KeepsT.allocB ?_ _) | (with_reducible refine KeepsT.drewB ?_) | (with_reducible refine KeepsT.setB ?_ ?_ (EClsClass_not) _) | ((with_reducible refine TypeAt.new' _ _ _ _ ?_); simp; done) | (with_reducible refine TypeAt.alloc ?_ _) | (with_reducible refine TypeAt.set ?_ _ _) | (with_reducible refine TypeAt.drew ?_)))) ?_
    exact ⟨_, _, rfl, T1.out.stays (E := EClsClass) (rClsField_goodT.mono fun _ h => h.elim) (by unfold EClsClass; simp) (KeepsT.of_below HE3.out), HT3.out.sl, hb1, hb2⟩

theorem inner_none {c : DClsClass} {line w0 : ByteArray} (h0 : (words line).getD 0 ⟨#[]⟩ = w0) (h1 : isW w0 tField = false) (h2 : isW w0 tMethod = false) (h : c.fMethods = []) : inner c line = (c, false) := by
 unfold inner
 simp only [h0]
 rw [if_neg (by rw [h1]; decide), if_neg (by rw [h2]; decide), h]
 rfl

theorem S_l8Inner_none (c : DClsClass) (vf vm : Value) (line : ByteArray) (v : Value) (g cap lo : Nat) (w : World) (hlo : lo ≤ w.heap.size) (hc : tClsClass lo w [.string c.fName, .string c.fSuper, vf, vm] c) (hw : Wds w v (words line) g cap)
  (w0 : ByteArray) (h0 : (words line)[0]? = some w0) (hk1 : isW w0 tField = false) (hk2 : isW w0 tMethod = false) (hn : c.fMethods = []) :
  Calls Tryz.prog 96 #[.agg #[.string c.fName, .string c.fSuper, vf, vm], v, .string line] w fun e w' => InnerPost c line lo w e w' := by
 have IV := qhd (inner_none (c := c) (line := line) (by rw [List.getD_eq_getElem?_getD, h0]; rfl) hk1 hk2 hn)
 have hk1' := qaw hk1
 have hk2' := qaw hk2
 unfold tField at hk1'
 unfold tMethod at hk2'
 obtain ⟨y1, y2, e0, t1, t2, hb1, hb2⟩ := id hc
 cases e0
 obtain ⟨fa, fn, fc, rfl⟩ := t1.form3
 obtain ⟨ga, gc, rfl, _, _⟩ := t2.form
 have hl0 : c.fMethods.length = 0 := by rw [hn]; rfl
 rw [hl0] at hc ⊢
 have HC := qhd hc
 have c0 := hw.cell 0 w0 h0
 have hv := hw.val
 have hpos := hw.pos
 have hg : g < w.heap.size := block_lt_of_cell c0
 subst hv
 clear hw hc t1 t2 hk1 hk2 h0 hn hl0
 refine qab fun R HR => ?_
 go_enter Tryz.func96, Tryz.ntmps96
 go_wp2
 all_goals
  refine bodyPost_ret (v := ?_) ?hrun rfl ?_
  case hrun => (simp only [results, Tryz.results96]; go_simp; first | done | exact rfl)
  refine HR.out _ _ ⟨.slice fa fn fc, .slice ga 0 gc, ?_, ?_, bbel⟩
  ·rw [IV.out]
  ·rw [IV.out]
   exact tClsClass_goodT.stays lo w _ _ _ (KeepsT.of_below (bbel)) HC.out

theorem inner_frame {c : DClsClass} {m : DClsMethod} {line w0 : ByteArray} (h0 : (words line).getD 0 ⟨#[]⟩ = w0) (h1 : isW w0 tField = false) (h2 : isW w0 tMethod = false) (hm : c.fMethods.getLast? = some m) (h : isW w0 tFrame = true) :
  inner c line = ({ c with fMethods := c.fMethods.dropLast ++ [{ m with fMaps := m.fMaps ++ [(mapRead (words line)).1] }] }, (mapRead (words line)).2 && decide (m.fCode.length = 0)) := by
 unfold inner
 simp only [h0]
 rw [if_neg (by rw [h1]; decide), if_neg (by rw [h2]; decide), hm]
 simp only
 rw [if_pos h]
theorem inner_ins {c : DClsClass} {m : DClsMethod} {line w0 : ByteArray} (h0 : (words line).getD 0 ⟨#[]⟩ = w0) (h1 : isW w0 tField = false) (h2 : isW w0 tMethod = false) (hm : c.fMethods.getLast? = some m) (h : isW w0 tFrame = false) :
  inner c line = ({ c with fMethods := c.fMethods.dropLast ++ [{ m with fCode := m.fCode ++ [(insRead line).1] }] }, (insRead line).2) := by
 unfold inner
 simp only [h0]
 rw [if_neg (by rw [h1]; decide), if_neg (by rw [h2]; decide), hm]
 simp only
 rw [if_neg (by rw [h]; decide)]

theorem TOwn.setB {α : Type} {k : Nat} {E : TypeId → Prop} {R : RowRel α} (hR : GoodT E R) {e t : TypeId} {lo B : Nat} {w : World} {v x : Value} {xs : List α} {c o : Nat} (h : TOwn k R e lo B w v xs) (hc : c < B) (hT : TypeAt w c t) (hn : ¬ E t) : TOwn k R e lo B (w.setCell ⟨c, o, none⟩ x) v xs :=
 ⟨h.sl.kept (fun g cs fr hg _ _ => Below.heap_setCell _ _ _ _ (by have := h.own g hg; show g ≠ c; omega)) (fun cs y hy => hR.stays lo w _ cs y (KeepsT.set hT hn) hy), h.own⟩
theorem Empty0.at {e : TypeId} {B c : Nat} (w : World) (hc : c = w.heap.size) (hB : B ≤ c) : Empty0 e B (w.alloc (.cells #[] e)) (.slice (some ⟨c, 0, none⟩) 0 0) := ⟨c, rfl, hB, by rw [hc]; exact heap_alloc_new w _⟩
theorem Four.set3 {w : World} {b : Nat} {v x0 x1 x2 x3 : Value} (h : Four w b x0 x1 x2 x3) : Four (w.setCell ⟨b, 3, none⟩ v) b x0 x1 x2 v := by
 have hc : ∀ j, j ≠ 3 → (w.setCell ⟨b, 3, none⟩ v).cell? ⟨b, j, none⟩ = w.cell? ⟨b, j, none⟩ := fun j hj => World.cell?_setCell_other _ _ _ _ (by intro e; simp at e <;> omega)
 have hf : ∀ j, (w.setCell ⟨b, 3, none⟩ v).frozen? ⟨b, j, none⟩ = w.frozen? ⟨b, j, none⟩ := fun j => by rw [World.frozen?_setCell]
 obtain ⟨h0, a0, a1, a2, a3, b0, b1, b2, b3⟩ := h
 have h1 : (w.setCell ⟨b, 3, none⟩ v).cell? ⟨b, 3, none⟩ = some v := by rw [World.cell?_setCell_same _ _ _ a3]
 refine ⟨by simpa [World.setCell] using h0, ?_, ?_, ?_, ?_, ?_, ?_, ?_, ?_⟩ <;> first | exact h1 | (rw [hc _ (by decide)]; assumption) | (rw [hf]; assumption)
theorem Four.set_other {w : World} {b c o : Nat} {v x0 x1 x2 x3 : Value} (h : Four w b x0 x1 x2 x3) (hn : b ≠ c) : Four (w.setCell ⟨c, o, none⟩ v) b x0 x1 x2 x3 := by
 have hc : ∀ j, (w.setCell ⟨c, o, none⟩ v).cell? ⟨b, j, none⟩ = w.cell? ⟨b, j, none⟩ := fun j => World.cell?_setCell_other _ _ _ _ (by intro e; simp at e <;> omega)
 have hf : ∀ j, (w.setCell ⟨c, o, none⟩ v).frozen? ⟨b, j, none⟩ = w.frozen? ⟨b, j, none⟩ := fun j => by rw [World.frozen?_setCell]
 obtain ⟨h0, a0, a1, a2, a3, b0, b1, b2, b3⟩ := h
 refine ⟨by simpa [World.setCell] using h0, ?_, ?_, ?_, ?_, ?_, ?_, ?_, ?_⟩ <;> first | (rw [hc]; assumption) | (rw [hf]; assumption)
theorem Eight.set6 {w : World} {b : Nat} {v : Value} {x0 x1 x2 x3 x4 x5 x6 x7 : Value} (h : Eight w b x0 x1 x2 x3 x4 x5 x6 x7) : Eight (w.setCell ⟨b, 6, none⟩ v) b x0 x1 x2 x3 x4 x5 v x7 := by
 have hc : ∀ j, j ≠ 6 → (w.setCell ⟨b, 6, none⟩ v).cell? ⟨b, j, none⟩ = w.cell? ⟨b, j, none⟩ := fun j hj => World.cell?_setCell_other _ _ _ _ (by intro e; simp at e <;> omega)
 have hf : ∀ j, (w.setCell ⟨b, 6, none⟩ v).frozen? ⟨b, j, none⟩ = w.frozen? ⟨b, j, none⟩ := fun j => by rw [World.frozen?_setCell]
 obtain ⟨h0, a0, a1, a2, a3, a4, a5, a6, a7, b0, b1, b2, b3, b4, b5, b6, b7⟩ := h
 have h1 : (w.setCell ⟨b, 6, none⟩ v).cell? ⟨b, 6, none⟩ = some v := by rw [World.cell?_setCell_same _ _ _ a6]
 refine ⟨by simpa [World.setCell] using h0, ?_, ?_, ?_, ?_, ?_, ?_, ?_, ?_, ?_, ?_, ?_, ?_, ?_, ?_, ?_, ?_⟩ <;> first | exact h1 | (rw [hc _ (by decide)]; assumption) | (rw [hf]; assumption)
theorem Eight.set7 {w : World} {b : Nat} {v : Value} {x0 x1 x2 x3 x4 x5 x6 x7 : Value} (h : Eight w b x0 x1 x2 x3 x4 x5 x6 x7) : Eight (w.setCell ⟨b, 7, none⟩ v) b x0 x1 x2 x3 x4 x5 x6 v := by
 have hc : ∀ j, j ≠ 7 → (w.setCell ⟨b, 7, none⟩ v).cell? ⟨b, j, none⟩ = w.cell? ⟨b, j, none⟩ := fun j hj => World.cell?_setCell_other _ _ _ _ (by intro e; simp at e <;> omega)
 have hf : ∀ j, (w.setCell ⟨b, 7, none⟩ v).frozen? ⟨b, j, none⟩ = w.frozen? ⟨b, j, none⟩ := fun j => by rw [World.frozen?_setCell]
 obtain ⟨h0, a0, a1, a2, a3, a4, a5, a6, a7, b0, b1, b2, b3, b4, b5, b6, b7⟩ := h
 have h1 : (w.setCell ⟨b, 7, none⟩ v).cell? ⟨b, 7, none⟩ = some v := by rw [World.cell?_setCell_same _ _ _ a7]
 refine ⟨by simpa [World.setCell] using h0, ?_, ?_, ?_, ?_, ?_, ?_, ?_, ?_, ?_, ?_, ?_, ?_, ?_, ?_, ?_, ?_⟩ <;> first | exact h1 | (rw [hc _ (by decide)]; assumption) | (rw [hf]; assumption)
theorem last_row {lo : Nat} {w : World} {v : Value} {ms : List DClsMethod} {m : DClsMethod} (h : TSl 8 tClsMethod 65 lo w v ms) (hm : ms.getLast? = some m) :
  ∃ (b cap : Nat) (va vc vm : Value), v = .slice (some ⟨b, 0, none⟩) ms.length cap ∧ lo ≤ b ∧ b < w.heap.size ∧ ms.length ≤ cap ∧ cap ≤ maxLen ∧
   w.rangeAt b ((ms.length - 1) * 8) [.string m.fName, va, .int .i64 m.fRet.fKind, .string m.fRet.fName, .int .i64 m.fLocals, .int .i64 m.fStack, vc, vm] ∧
   tClsMethod lo w [.string m.fName, va, .int .i64 m.fRet.fKind, .string m.fRet.fName, .int .i64 m.fLocals, .int .i64 m.fStack, vc, vm] m := by
 have hne : ms ≠ [] := fun e => by rw [e] at hm; cases hm
 have hpos : 0 < ms.length := List.length_pos_iff.2 hne
 have hi : ms[ms.length - 1]? = some m := by rw [← List.getLast?_eq_getElem?]; exact hm
 obtain ⟨css, h1, h2⟩ := h
 obtain ⟨b, cap, rfl, hb, hlt, hc, hmx, hcell, _⟩ := own_cell h2 hpos
 obtain ⟨cs, hcs⟩ : ∃ cs, css[ms.length - 1]? = some cs := ⟨_, List.getElem?_eq_getElem (by rw [h1.len]; omega)⟩
 obtain ⟨hk, hR⟩ := h1.row _ m cs hi hcs
 obtain ⟨va, vc, vm, rfl, s⟩ := id hR
 refine ⟨b, cap, va, vc, vm, rfl, hb, hlt, hc, hmx, fun j u hj => ?_, hR⟩
 have hj8 : j < 8 := by have := (List.getElem?_eq_some_iff.1 hj).1; simpa using this
 exact hcell _ u ((flat_at h1.each hcs hj8).trans hj)

theorem S_l8Inner_frame (c : DClsClass) (m : DClsMethod) (vf vm : Value) (line : ByteArray) (v : Value) (g cap lo : Nat) (w : World) (hlo : lo ≤ w.heap.size) (hc : tClsClass lo w [.string c.fName, .string c.fSuper, vf, vm] c) (hw : Wds w v (words line) g cap) (hs : SmallC 10000 c)
  (w0 : ByteArray) (h0 : (words line)[0]? = some w0) (hk1 : isW w0 tField = false) (hk2 : isW w0 tMethod = false) (hm : c.fMethods.getLast? = some m) (hk : isW w0 tFrame = true) :
  Calls Tryz.prog 96 #[.agg #[.string c.fName, .string c.fSuper, vf, vm], v, .string line] w fun e w' => InnerPost c line lo w e w' := by
 have IV := qhd (inner_frame (c := c) (line := line) (by rw [List.getD_eq_getElem?_getD, h0]; rfl) hk1 hk2 hm hk)
 have hk1' := qaw hk1
 have hk2' := qaw hk2
 have hk' := isW_true hk
 unfold tField at hk1'
 unfold tMethod at hk2'
 unfold tFrame at hk'
 obtain ⟨y1, y2, e0, t1, t2, hb1, hb2⟩ := id hc
 cases e0
 obtain ⟨fa, fn, fc, rfl⟩ := t1.form3
 obtain ⟨mb, gc, va, vc, vx, rfl, hmb, hmlt, hmc, hmx, hrng, hmrow⟩ := last_row t2 hm
 have hmem : m ∈ c.fMethods := List.mem_of_getLast? hm
 have hne : 0 < c.fMethods.length := List.length_pos_iff.2 (List.ne_nil_of_mem hmem)
 obtain ⟨ad, gc2, css, e1, _, _, hsrc, hrow⟩ := t2.src_take hne (c.fMethods.length - 1) (by omega)
 cases e1
 rw [← dropLast_take] at hrow
 obtain ⟨mn, hmn⟩ : ∃ n, c.fMethods.length = n := ⟨_, rfl⟩
 have hml : mn ≤ 10000 := by rw [← hmn]; exact hs.mths
 have hmaps := hs.maps m hmem
 have hcode := hs.code m hmem
 rw [hmn] at hne hmc hrng hsrc hc ⊢
 obtain ⟨z1, z2, z3, ez, s1, s2, s3, mb1, mb2⟩ := id hmrow
 cases ez
 obtain ⟨aa, an, ac, rfl⟩ := s1.form3
 obtain ⟨ba, bc, rfl, _, _⟩ := s2.form
 obtain ⟨xa, xn, xc, rfl⟩ := s3.form3
 obtain ⟨cn, hcn⟩ : ∃ n, m.fCode.length = n := ⟨_, rfl⟩
 rw [hcn] at hmrow hcode hrng IV
 obtain ⟨x, ok, hx⟩ : ∃ a b, mapRead (words line) = (a, b) := ⟨_, _, rfl⟩
 rw [hx] at IV
 have HW := qhd hw
 have CF : ∀ W, Below w.heap.size w W → Calls Tryz.prog 111 #[v] W fun e w' => ∃ v1 v2, e = .returned (.tuple #[.agg #[.int .i64 x.fAt, v1, v2], .bool ok]) ∧ TSl 2 rTagTag 94 w.heap.size w' v1 x.fLocals ∧ TSl 2 rTagTag 94 w.heap.size w' v2 x.fStack ∧ Below W.heap.size W w' := fun W hb => (S_l8ReadMap v (words line) g cap W (HW.out.below hb)).mono fun e w' h => by
  obtain ⟨v1, v2, h1, h2, h3, h4⟩ := h
  rw [hx] at h1 h2 h3
  exact ⟨v1, v2, h1, h2.low' rTagTag_goodT hb.size, h3.low' rTagTag_goodT hb.size, h4⟩
 have HC := qhd hc
 have T1 := qhd t1
 have HSRC := qhd hsrc
 have HROW := qhd hrow
 have HRNG := qhd hrng
 have HMR := qhd hmrow
 have S3 := qhd s3
 have HDL : Hid (c.fMethods.length ≤ 10000) := qhd hs.mths
 have HIM : Hid ((Tryz.prog.info? 65).map (·.size) = some 8) := qhd (by kernel_rfl)
 have MB : Hid (((cn : Int) == 0) = decide (cn = 0)) := qhd (by rw [Bool.eq_iff_iff]; simp)
 have hnn : ((mn : Int) == 0) = false := by rw [beq_eq_false_iff_ne]; omega
 have hgc : gc ≤ 9223372036854775807 := by unfold maxLen at hmx; omega
 have c0 := hw.cell 0 w0 h0
 have hv := hw.val
 have hpos := hw.pos
 have hg : g < w.heap.size := block_lt_of_cell c0
 subst hv
 clear hs hw hc t1 t2 hsrc hrow hmn hk hk1 hk2 h0 hrng hmrow s1 s2 s3 hcn hx hm hmem hmx
 refine qab fun R HR => ?_
 go_enter Tryz.func96, Tryz.ntmps96
 have hi1 : (1 : Int) ≤ (mn : Int) := by omega
 have hi2 : (mn : Int) - 1 ≤ (gc : Int) := by omega
 have hi3 : ¬ ((gc : Int) < (mn : Int) - 1) := by omega
 have hi4 : (0 : Int) ≤ (mn : Int) - 1 := by omega
 have hi5 : ((mn : Int) - 1).toNat = mn - 1 := by omega
 have HI5 := qhd hi5
 clear hi5
 go_wp2_with (first | (refine wpList_load_mid (by rfl) 65 (.tmp 69) (by rfl) mb ((mn - 1) * 8) ?hx [.string m.fName, .slice aa an ac, .int .i64 m.fRet.fKind, .string m.fRet.fName, .int .i64 m.fLocals, .int .i64 m.fStack, .slice ba cn bc, .slice xa xn xc] _ ?hr Tryz.underlying65 (by rfl) HIM.out ?_) | (at_builtin; refine wpList_append_copy (B := w.heap.size + 3) (lo := lo) (R := tClsMethod) (E := EClsMethod) (ys := c.fMethods.dropLast) (css := css) (by rfl) (.tmp 71) (.tmp 76) 35 (by rfl) sty_Mth tClsMethod_goodT tClsMethod_one (by rfl) (by rfl) ?he ?hs0 ?hrw ?hl0 ?hlo0 ?hB0 ?_))
 case hr => exact range_below HRNG.out (bbel : Below w.heap.size w _) hmlt
 case he => exact Empty0.at _ (by (first | omega | (simp; done) | (simp; omega))) (by (first | omega | (simp; done) | (simp; omega)))
 case hs0 => exact HSRC.out.kept (bbel)
 case hrw => exact HROW.out.mono fun cs x hx => tClsMethod_goodT.stays _ _ _ _ _ (KeepsT.of_below (bbel)) hx
 case hl0 => have := HDL.out; omega
 case hlo0 => omega
 intro v14 w1 ht1 hb1'
 have CM : Hid (Eight w1 (w.heap.size + 2) (.string m.fName) (.slice aa an ac) (.int .i64 m.fRet.fKind) (.string m.fRet.fName) (.int .i64 m.fLocals) (.int .i64 m.fStack) (.slice ba cn bc) (.slice xa xn xc)) := qhd (by refine Eight.below ?_ hb1' (by omega); refine ⟨by (first | omega | (simp; done) | (simp; omega)), ?_, ?_, ?_, ?_, ?_, ?_, ?_, ?_, ?_, ?_, ?_, ?_, ?_, ?_, ?_, ?_⟩ <;> go_simp)
 have X1 : Hid (Four w1 w.heap.size (.string c.fName) (.string c.fSuper) (.slice fa fn fc) (.slice (some ⟨mb, 0, none⟩) mn gc)) := qhd (by refine Four.below ?_ hb1' (by omega); refine ⟨by (first | omega | (simp; done) | (simp; omega)), ?_, ?_, ?_, ?_, ?_, ?_, ?_, ?_⟩ <;> go_simp)
 have R1 : Hid (Four w1 (w.heap.size + 1) (.string ⟨#[]⟩) (.string ⟨#[]⟩) (.slice none 0 0) (.slice none 0 0)) := qhd (by refine Four.below ?_ hb1' (by omega); refine ⟨by (first | omega | (simp; done) | (simp; omega)), ?_, ?_, ?_, ?_, ?_, ?_, ?_, ?_⟩ <;> go_simp)
 have TX1 : Hid (TypeAt w1 w.heap.size 37) := qhd (by refine TypeAt.below ?_ hb1' (by omega); (repeat' (first | (with_reducible assumption) | ((with_reducible refine TypeAt.new' _ _ _ _ ?_); simp; done) | (with_reducible refine TypeAt.alloc ?_ _) | (with_reducible refine TypeAt.set ?_ _ _) | (with_reducible refine TypeAt.drew ?_))))
 have TR1 : Hid (TypeAt w1 (w.heap.size + 1) 37) := qhd (by refine TypeAt.below ?_ hb1' (by omega); (repeat' (first | (with_reducible assumption) | ((with_reducible refine TypeAt.new' _ _ _ _ ?_); simp; done) | (with_reducible refine TypeAt.alloc ?_ _) | (with_reducible refine TypeAt.set ?_ _ _) | (with_reducible refine TypeAt.drew ?_))))
 have TM1 : Hid (TypeAt w1 (w.heap.size + 2) 65) := qhd (by refine TypeAt.below ?_ hb1' (by omega); (repeat' (first | (with_reducible assumption) | ((with_reducible refine TypeAt.new' _ _ _ _ ?_); simp; done) | (with_reducible refine TypeAt.alloc ?_ _) | (with_reducible refine TypeAt.set ?_ _ _) | (with_reducible refine TypeAt.drew ?_))))
 obtain ⟨da, dn, dc, rfl⟩ := ht1.sl.form3
 have HD1 := qhd ht1
 have hz1 := hb1'.size
 (try simp only [World.size_alloc] at hz1)
 have hE1 : Below w.heap.size w w1 := bbel
 have c0' := qad hE1 c0
 clear ht1 hb1' HRNG HSRC HROW hi1 hi2 hi3 hi4 HI5 c0 HC
 have hlx := X1.out.lt
 have hlr := R1.out.lt
 have hlm := CM.out.lt
 have x3 := X1.out.c3
 have g3 := (show Four w1 _ _ _ _ _ from X1.out).f3
 go_wp2_with fail
 obtain ⟨W1, hW1⟩ : ∃ W, W = w1.setCell ⟨w.heap.size, 3, none⟩ (.slice da dn dc) := ⟨_, rfl⟩
 rw [← hW1]
 have X1s : Hid (Four W1 w.heap.size (.string c.fName) (.string c.fSuper) (.slice fa fn fc) (.slice da dn dc)) := qhd (by rw [hW1]; exact X1.out.set3)
 have R1s : Hid (Four W1 (w.heap.size + 1) (.string ⟨#[]⟩) (.string ⟨#[]⟩) (.slice none 0 0) (.slice none 0 0)) := qhd (by rw [hW1]; exact R1.out.set_other (by omega))
 have CMs : Hid (Eight W1 (w.heap.size + 2) (.string m.fName) (.slice aa an ac) (.int .i64 m.fRet.fKind) (.string m.fRet.fName) (.int .i64 m.fLocals) (.int .i64 m.fStack) (.slice ba cn bc) (.slice xa xn xc)) := qhd (by rw [hW1]; exact CM.out.set_other (by omega))
 have TX1s : Hid (TypeAt W1 w.heap.size 37) := qhd (by rw [hW1]; exact TX1.out.set _ _)
 have TR1s : Hid (TypeAt W1 (w.heap.size + 1) 37) := qhd (by rw [hW1]; exact TR1.out.set _ _)
 have TM1s : Hid (TypeAt W1 (w.heap.size + 2) 65) := qhd (by rw [hW1]; exact TM1.out.set _ _)
 have HDs : Hid (TOwn 8 tClsMethod 65 lo (w.heap.size + 3) W1 (.slice da dn dc) c.fMethods.dropLast) := qhd (by rw [hW1]; exact HD1.out.setB tClsMethod_goodT (by omega) TX1.out (by unfold EClsMethod; decide))
 have hE1s : Below w.heap.size w W1 := by rw [hW1]; exact bbel
 have hzs : w.heap.size + 4 ≤ W1.heap.size := by rw [hW1]; simp [World.setCell]; omega
 clear hW1 X1 R1 CM TX1 TR1 TM1 HD1 x3 g3 hE1 hlx hlr hlm hz1 c0'
 refine (CF W1 hE1s).mono ?_
 rintro _ w2 ⟨v1, v2, rfl, hx1, hx2, h2⟩
 obtain ⟨pa, pn, pc, rfl⟩ := hx1.form3
 obtain ⟨qa, qn, qc, rfl⟩ := hx2.form3
 have HX2 : Hid (tClsMap lo w2 [.int .i64 x.fAt, .slice pa pn pc, .slice qa qn qc] x) := qhd ⟨_, _, rfl, hx1.low' rTagTag_goodT hlo, hx2.low' rTagTag_goodT hlo⟩
 have X2 := qhd (X1s.out.keep h2)
 have R2 := qhd (R1s.out.keep h2)
 have CM2 := qhd (CMs.out.keep h2)
 have TX2 := qhd (TX1s.out.below h2 X1s.out.lt)
 have TR2 := qhd (TR1s.out.below h2 R1s.out.lt)
 have TM2 := qhd (TM1s.out.below h2 CMs.out.lt)
 have HD2 := qhd (HDs.out.below tClsMethod_goodT h2)
 have hE2 := hE1s.trans (h2.mono hE1s.size)
 have hz2 := h2.size
 have HE2 := qhd hE2
 have S32 : Hid (TSl 3 tClsMap 98 lo w2 (.slice xa xn xc) m.fMaps) := qhd (S3.out.stays (E := EClsMethod) (tClsMap_goodT.mono EClsMap_ClsMethod) (by unfold EClsMethod; simp) (KeepsT.of_below hE2))
 obtain ⟨cssx, hsx, hrx⟩ := S32.out.src
 have HSX := qhd hsx
 have HRX := qhd hrx
 have hlx := X2.out.lt
 have hlr := R2.out.lt
 have hlm := CM2.out.lt
 have m6 := CM2.out.c6
 clear hx1 hx2 h2 X1s R1s CMs TX1s TR1s TM1s HDs CF hE1s hzs hsx hrx S3
 cases ok
 all_goals
  go_wp2_with fail
  refine wp_app2 (css := cssx) (B := w2.heap.size + 1) (lo := lo) (R := tClsMap) (E := EClsMap) (bx := w.heap.size + 2) (fx := 7) (cy := w2.heap.size) (src := .slice xa xn xc) (csy := [.int .i64 x.fAt, .slice pa pn pc, .slice qa qn qc]) (xs := m.fMaps) sty_Map (by decide) tClsMap_goodT tClsMap_one (by first | omega | (simp; omega)) (by (first | omega | (simp; done) | (simp; omega))) (by rfl) (by intro w; go_simp) ?hcx (by rfl) ?hcy (by (first | omega | (simp; done) | (simp; omega))) rfl Tryz.underlying98 rfl ?hsrc ?hrow ?hlen (by decide) (by decide) (by simp) rfl (by kernel_rfl) (by decide) (by kernel_rfl) (by kernel_rfl) (by kernel_rfl) (by kernel_rfl) ?h
  case hcy => (intro j u hj; match j, hj with | 0, hj => cases hj; go_simp | 1, hj => cases hj; go_simp | 2, hj => cases hj; go_simp | j + 3, hj => simp at hj)
  case hsrc => exact (HSX.out).kept (bbel)
  case hrow => exact (HRX.out).mono fun cs x hx => (tClsMap_goodT).stays _ _ _ _ _ (KeepsT.of_below (bbel)) hx
  case hlen => omega
  case hcx => have := CM2.out.c7; go_simp
  case h =>
   intro v0 v3 v5 w3 hb3 ht3 hs3
   simp only [qnr]
   have hz3 := hb3.size
   simp only [World.size_alloc] at hz3
   have hE3 : Below w2.heap.size w2 w3 := bbel
   have HX3 := qhd (tClsMap_goodT.stays _ _ _ _ _ (KeepsT.of_below hE3) HX2.out)
   have HE3 := qhd hE3
   clear hb3 m6
   go_wp2_with (refine qam (B := w2.heap.size + 1) (lo := lo) (xs := m.fMaps) (ys := [x]) (css := [[.int .i64 x.fAt, .slice pa pn pc, .slice qa qn qc]]) (E := EClsMap) (by rfl) (.tmp 98) (.tmp 100) 63 (by rfl) sty_Map tClsMap_goodT EClsMap_not tClsMap_one (by rfl) (by rfl) ht3 hs3 (Rows.one rfl HX3.out) ?hl ?hlo ?hB ?_)
   case hl => simp; omega
   case hlo => omega
   case hB => omega
   intro v6 w4 ht4 hb4 hg4 hk4 hat4
   have hE4 : Below w2.heap.size w2 w4 := hE3.trans (hb4.mono (by omega))
   have X4 := qhd (X2.out.below hE4 hlx)
   have R4 := qhd (R2.out.below hE4 hlr)
   have CM4 := qhd (CM2.out.below hE4 hlm)
   have TX4 := qhd (TX2.out.below hE4 hlx)
   have TR4 := qhd (TR2.out.below hE4 hlr)
   have TM4 := qhd (TM2.out.below hE4 hlm)
   have HD4 := qhd (HD2.out.below tClsMethod_goodT hE4)
   have hF4 : Below w.heap.size w w4 := hE2.trans (hE4.mono hE2.size)
   have HF4 := qhd hF4
   obtain ⟨ka, kn, kc, rfl⟩ := ht4.sl.form3
   have ROW4 : Hid (tClsMethod lo w4 [.string m.fName, .slice aa an ac, .int .i64 m.fRet.fKind, .string m.fRet.fName, .int .i64 m.fLocals, .int .i64 m.fStack, .slice ba cn bc, .slice ka kn kc] { m with fMaps := m.fMaps ++ [x] }) := qhd (by
    obtain ⟨u1, u2, u3, eu, w1s, w2s, w3s, nb1, nb2⟩ := tClsMethod_goodT.stays _ _ _ _ _ (KeepsT.of_below hF4) HMR.out
    cases eu
    exact ⟨_, _, _, rfl, w1s, w2s, ht4.sl, nb1, nb2⟩)
   have hz4 := hE4.size
   clear ht3 hs3 ht4 hb4 hg4 hk4 hat4 X2 R2 CM2 TX2 TR2 TM2 HD2 HX2 HX3 HMR hE3 HE3 HSX HRX hz3
   have hl4x := X4.out.lt
   have hl4r := R4.out.lt
   obtain ⟨hl4m, m0, m1, m2, m3, m4, m5, m6, m7, _, _, _, _, _, _, _, mf7⟩ := CM4.out
   have x3 := X4.out.c3
   have xf3 := X4.out.f3
   have HO : Hid (∀ o, TOwn 8 tClsMethod 65 lo (w.heap.size + 3) ((w4.setCell ⟨w.heap.size + 2, 7, none⟩ (.slice ka kn kc)).alloc o) (.slice da dn dc) c.fMethods.dropLast) := qhd (fun o => (HD4.out.setB tClsMethod_goodT (by omega) TM4.out EClsMethod_not).below tClsMethod_goodT (bbel))
   have HRW : Hid (∀ o, tClsMethod lo ((w4.setCell ⟨w.heap.size + 2, 7, none⟩ (.slice ka kn kc)).alloc o) [.string m.fName, .slice aa an ac, .int .i64 m.fRet.fKind, .string m.fRet.fName, .int .i64 m.fLocals, .int .i64 m.fStack, .slice ba cn bc, .slice ka kn kc] { m with fMaps := m.fMaps ++ [x] }) := qhd (fun o => by
    have TM := TM4.out
    exact tClsMethod_goodT.stays lo w4 _ _ _ (by (repeat' (first | (with_reducible exact KeepsT.refl _ _ _) | (with_reducible assumption) | (with_reducible refine KeepsT.allocB ?_ _) | (with_reducible refine KeepsT.drewB ?_) | (with_reducible refine KeepsT.setB ?_ ?_ (EClsMethod_not) _) | ((with_reducible refine TypeAt.new' _ _ _ _ ?_); simp; done) | (with_reducible refine TypeAt.alloc ?_ _) | (with_reducible refine TypeAt.set ?_ _ _) | (with_reducible refine TypeAt.drew ?_)))) ROW4.out)
   have HSR : Hid (Src 8 ((w4.setCell ⟨w.heap.size + 2, 7, none⟩ (.slice ka kn kc)).alloc (.cells #[.string m.fName, .slice aa an ac, .int .i64 m.fRet.fKind, .string m.fRet.fName, .int .i64 m.fLocals, .int .i64 m.fStack, .slice ba cn bc, .slice ka kn kc] 65)) (.slice (some ⟨w4.heap.size, 0, none⟩) 1 1) [[.string m.fName, .slice aa an ac, .int .i64 m.fRet.fKind, .string m.fRet.fName, .int .i64 m.fLocals, .int .i64 m.fStack, .slice ba cn bc, .slice ka kn kc]]) := qhd (by
    have := Src.new (k := 8) (w := w4.setCell ⟨w.heap.size + 2, 7, none⟩ (.slice ka kn kc)) (e := 65) (cs := [.string m.fName, .slice aa an ac, .int .i64 m.fRet.fKind, .string m.fRet.fName, .int .i64 m.fLocals, .int .i64 m.fStack, .slice ba cn bc, .slice ka kn kc])
    rw [World.size_setCell] at this
    exact this)
   have HLN : Hid (c.fMethods.dropLast.length + 1 ≤ 1000000) := qhd (by have := HDL.out; rw [List.length_dropLast]; omega)
   have HZB : Hid (∀ o, w.heap.size + 3 ≤ ((w4.setCell ⟨w.heap.size + 2, 7, none⟩ (.slice ka kn kc)).alloc o).heap.size) := qhd (fun o => by simp [World.setCell]; omega)
   go_wp2_with (at_builtin; refine qam (B := w.heap.size + 3) (lo := lo) (xs := c.fMethods.dropLast) (ys := [{ m with fMaps := m.fMaps ++ [x] }]) (css := [[.string m.fName, .slice aa an ac, .int .i64 m.fRet.fKind, .string m.fRet.fName, .int .i64 m.fLocals, .int .i64 m.fStack, .slice ba cn bc, .slice ka kn kc]]) (E := EClsMethod) (by rfl) (.tmp 104) (.tmp 106) 35 (by rfl) sty_Mth tClsMethod_goodT EClsMethod_not tClsMethod_one (by rfl) (by rfl) (HO.out _) HSR.out (Rows.one rfl (HRW.out _)) HLN.out (by omega) (HZB.out _) ?_)
   intro v9 w5 ht5 hb5 hg5 hk5 hat5
   have hb5' : Below (w.heap.size + 3) (w4.setCell ⟨w.heap.size + 2, 7, none⟩ (.slice ka kn kc)) w5 := Below.trans (bbel) hb5
   have X5 := Four.below (X4.out.set_other (c := w.heap.size + 2) (o := 7) (v := .slice ka kn kc) (by omega)) hb5' (by omega)
   have R5 := Four.below (R4.out.set_other (c := w.heap.size + 2) (o := 7) (v := .slice ka kn kc) (by omega)) hb5' (by omega)
   have TX5 := qhd (TypeAt.below (TX4.out.set ⟨w.heap.size + 2, 7, none⟩ (.slice ka kn kc)) hb5' (by omega))
   have TR5 := qhd (TypeAt.below (TR4.out.set ⟨w.heap.size + 2, 7, none⟩ (.slice ka kn kc)) hb5' (by omega))
   have hF5 : Below w.heap.size w w5 := Below.trans (bbel : Below w.heap.size w (w4.setCell ⟨w.heap.size + 2, 7, none⟩ (.slice ka kn kc))) (hb5'.mono (by omega))
   obtain ⟨ja, jn, jc, rfl⟩ := ht5.sl.form3
   have HT5 := qhd ht5
   have HF5 := qhd hF5
   have hz5 := hb5'.size
   have hMB := MB.out
   clear ht5 hb5 hb5' hg5 hk5 hat5 X4 R4 CM4 TX4 TR4 TM4 HD4 HF4 ROW4 HO HRW HSR HLN HZB m0 m1 m2 m3 m4 m5 m6 m7 mf7 x3 xf3 hl4m hl4x hl4r
   obtain ⟨lx, x0, x1, x2, x3, g0, g1, g2, g3⟩ := X5
   obtain ⟨lr, r0, r1, r2, r3, o0, o1, o2, o3⟩ := R5
   go_wp2
   all_goals
    refine bodyPost_ret (v := ?_) ?hrun rfl ?_
    case hrun => (simp only [results, Tryz.results96]; go_simp; first | done | exact rfl)
    refine HR.out _ _ ⟨.slice fa fn fc, .slice ja jn jc, ?_, ?_, bbel⟩
    ·rw [IV.out]
     first | rfl | (rw [← hMB]; rfl) | (simp [*])
    ·rw [IV.out]
     have TX := TX5.out
     have TR := TR5.out
     refine tClsClass_goodT.stays lo w5 _ _ _ (by (repeat' (first | (with_reducible exact KeepsT.refl _ _ _) | (with_reducible assumption) | (with_reducible refine KeepsT.allocB ?_ _) | (with_reducible refine KeepsT.drewB ?_) | (with_reducible refine KeepsT.setB ?_ ?_ (EClsClass_not) _) | ((with_reducible refine TypeAt.new' _ _ _ _ ?_); simp; done) | (with_reducible refine TypeAt.alloc ?_ _) | (with_reducible refine TypeAt.set ?_ _ _) | (with_reducible refine TypeAt.drew ?_)))) ?_
     exact ⟨_, _, rfl, T1.out.stays (E := EClsClass) (rClsField_goodT.mono fun _ h => h.elim) (by unfold EClsClass; simp) (KeepsT.of_below HF5.out), HT5.out.sl, hb1, hb2⟩

theorem wordAt_size {line : ByteArray} {i : Nat} : ((words line).getD i ⟨#[]⟩).size ≤ line.size := by
 rw [List.getD_eq_getElem?_getD]
 cases h : (words line)[i]? with
 | none => exact Nat.zero_le _
 | some x => exact words_size (List.mem_of_getElem? h)
theorem insOf_size (op : Int) (line : ByteArray) : (insOf op (words line)).fName.size ≤ line.size ∧ (insOf op (words line)).fMember.size ≤ line.size := by
 unfold insOf
 refine ⟨?_, wordAt_size⟩
 simp only
 split
 ·split
  ·exact Nat.zero_le _
  ·exact wordAt_size
 ·exact Nat.zero_le _
theorem insGo_size (line : ByteArray) : ∀ f op, (insGo line f op).1.fName.size ≤ line.size ∧ (insGo line f op).1.fMember.size ≤ line.size
 | 0, _ => ⟨Nat.zero_le _, Nat.zero_le _⟩
 | f + 1, op => by
   unfold insGo
   split
   ·unfold insTry
    split
    ·exact ⟨Nat.zero_le _, Nat.zero_le _⟩
    ·exact insOf_size _ line
   ·exact insGo_size line f _
theorem insRead_size (line : ByteArray) : (insRead line).1.fName.size ≤ line.size ∧ (insRead line).1.fMember.size ≤ line.size := insGo_size line 15 1

theorem S_l8Inner_ins (c : DClsClass) (m : DClsMethod) (vf vm : Value) (line : ByteArray) (v : Value) (g cap lo : Nat) (w : World) (hlo : lo ≤ w.heap.size) (hc : tClsClass lo w [.string c.fName, .string c.fSuper, vf, vm] c) (hw : Wds w v (words line) g cap) (hs : SmallC 10000 c)
  (w0 : ByteArray) (h0 : (words line)[0]? = some w0) (hk1 : isW w0 tField = false) (hk2 : isW w0 tMethod = false) (hm : c.fMethods.getLast? = some m) (hk : isW w0 tFrame = false) (hline : line.size ≤ 10000) :
  Calls Tryz.prog 96 #[.agg #[.string c.fName, .string c.fSuper, vf, vm], v, .string line] w fun e w' => InnerPost c line lo w e w' := by
 have IV := qhd (inner_ins (c := c) (line := line) (by rw [List.getD_eq_getElem?_getD, h0]; rfl) hk1 hk2 hm hk)
 have hk1' := qaw hk1
 have hk2' := qaw hk2
 have hk' := qaw hk
 unfold tField at hk1'
 unfold tMethod at hk2'
 unfold tFrame at hk'
 obtain ⟨y1, y2, e0, t1, t2, hb1, hb2⟩ := id hc
 cases e0
 obtain ⟨fa, fn, fc, rfl⟩ := t1.form3
 obtain ⟨mb, gc, va, vc, vx, rfl, hmb, hmlt, hmc, hmx, hrng, hmrow⟩ := last_row t2 hm
 have hmem : m ∈ c.fMethods := List.mem_of_getLast? hm
 have hne : 0 < c.fMethods.length := List.length_pos_iff.2 (List.ne_nil_of_mem hmem)
 obtain ⟨ad, gc2, css, e1, _, _, hsrc, hrow⟩ := t2.src_take hne (c.fMethods.length - 1) (by omega)
 cases e1
 rw [← dropLast_take] at hrow
 obtain ⟨mn, hmn⟩ : ∃ n, c.fMethods.length = n := ⟨_, rfl⟩
 have hml : mn ≤ 10000 := by rw [← hmn]; exact hs.mths
 have hmaps := hs.maps m hmem
 have hcode := hs.code m hmem
 rw [hmn] at hne hmc hrng hsrc hc ⊢
 obtain ⟨z1, z2, z3, ez, s1, s2, s3, mb1, mb2⟩ := id hmrow
 cases ez
 obtain ⟨aa, an, ac, rfl⟩ := s1.form3
 obtain ⟨ba, cn, bc, rfl⟩ := s2.form3
 obtain ⟨xa, xn, xc, rfl⟩ := s3.form3
 obtain ⟨x, ok, hx⟩ : ∃ a b, insRead line = (a, b) := ⟨_, _, rfl⟩
 have hxs := insRead_size line
 rw [hx] at IV hxs
 obtain ⟨hxs1, hxs2⟩ := hxs
 have HW := qhd hw
 have CF : ∀ W, Below w.heap.size w W → Calls Tryz.prog 112 #[.string line] W fun e w' => e = .returned (.tuple #[.agg #[.int .i64 x.fOp, .int .i64 x.fA, .string x.fName, .string x.fMember], .bool ok]) ∧ Below W.heap.size W w' := fun W hb => (S_InsRead line W hline).mono fun e w' h => ⟨h.1.trans (by rw [hx]; rfl), h.2⟩
 have HC := qhd hc
 have T1 := qhd t1
 have HSRC := qhd hsrc
 have HROW := qhd hrow
 have HRNG := qhd hrng
 have HMR := qhd hmrow
 have S3 := qhd s2
 have HDL : Hid (c.fMethods.length ≤ 10000) := qhd hs.mths
 have HIM : Hid ((Tryz.prog.info? 65).map (·.size) = some 8) := qhd (by kernel_rfl)
 have hnn : ((mn : Int) == 0) = false := by rw [beq_eq_false_iff_ne]; omega
 have hgc : gc ≤ 9223372036854775807 := by unfold maxLen at hmx; omega
 have c0 := hw.cell 0 w0 h0
 have hv := hw.val
 have hpos := hw.pos
 have hg : g < w.heap.size := block_lt_of_cell c0
 subst hv
 clear hs hw hc t1 t2 hsrc hrow hmn hk hk1 hk2 h0 hrng hmrow s1 s2 s3 hx hm hmem hmx
 refine qab fun R HR => ?_
 go_enter Tryz.func96, Tryz.ntmps96
 have hi1 : (1 : Int) ≤ (mn : Int) := by omega
 have hi2 : (mn : Int) - 1 ≤ (gc : Int) := by omega
 have hi3 : ¬ ((gc : Int) < (mn : Int) - 1) := by omega
 have hi4 : (0 : Int) ≤ (mn : Int) - 1 := by omega
 have hi5 : ((mn : Int) - 1).toNat = mn - 1 := by omega
 have HI5 := qhd hi5
 clear hi5
 go_wp2_with (first | (refine wpList_load_mid (by rfl) 65 (.tmp 69) (by rfl) mb ((mn - 1) * 8) ?hx [.string m.fName, .slice aa an ac, .int .i64 m.fRet.fKind, .string m.fRet.fName, .int .i64 m.fLocals, .int .i64 m.fStack, .slice ba cn bc, .slice xa xn xc] _ ?hr Tryz.underlying65 (by rfl) HIM.out ?_) | (at_builtin; refine wpList_append_copy (B := w.heap.size + 3) (lo := lo) (R := tClsMethod) (E := EClsMethod) (ys := c.fMethods.dropLast) (css := css) (by rfl) (.tmp 71) (.tmp 76) 35 (by rfl) sty_Mth tClsMethod_goodT tClsMethod_one (by rfl) (by rfl) ?he ?hs0 ?hrw ?hl0 ?hlo0 ?hB0 ?_))
 case hr => exact range_below HRNG.out (bbel : Below w.heap.size w _) hmlt
 case he => exact Empty0.at _ (by (first | omega | (simp; done) | (simp; omega))) (by (first | omega | (simp; done) | (simp; omega)))
 case hs0 => exact HSRC.out.kept (bbel)
 case hrw => exact HROW.out.mono fun cs x hx => tClsMethod_goodT.stays _ _ _ _ _ (KeepsT.of_below (bbel)) hx
 case hl0 => have := HDL.out; omega
 case hlo0 => omega
 intro v14 w1 ht1 hb1'
 have CM : Hid (Eight w1 (w.heap.size + 2) (.string m.fName) (.slice aa an ac) (.int .i64 m.fRet.fKind) (.string m.fRet.fName) (.int .i64 m.fLocals) (.int .i64 m.fStack) (.slice ba cn bc) (.slice xa xn xc)) := qhd (by refine Eight.below ?_ hb1' (by omega); refine ⟨by (first | omega | (simp; done) | (simp; omega)), ?_, ?_, ?_, ?_, ?_, ?_, ?_, ?_, ?_, ?_, ?_, ?_, ?_, ?_, ?_, ?_⟩ <;> go_simp)
 have X1 : Hid (Four w1 w.heap.size (.string c.fName) (.string c.fSuper) (.slice fa fn fc) (.slice (some ⟨mb, 0, none⟩) mn gc)) := qhd (by refine Four.below ?_ hb1' (by omega); refine ⟨by (first | omega | (simp; done) | (simp; omega)), ?_, ?_, ?_, ?_, ?_, ?_, ?_, ?_⟩ <;> go_simp)
 have R1 : Hid (Four w1 (w.heap.size + 1) (.string ⟨#[]⟩) (.string ⟨#[]⟩) (.slice none 0 0) (.slice none 0 0)) := qhd (by refine Four.below ?_ hb1' (by omega); refine ⟨by (first | omega | (simp; done) | (simp; omega)), ?_, ?_, ?_, ?_, ?_, ?_, ?_, ?_⟩ <;> go_simp)
 have TX1 : Hid (TypeAt w1 w.heap.size 37) := qhd (by refine TypeAt.below ?_ hb1' (by omega); (repeat' (first | (with_reducible assumption) | ((with_reducible refine TypeAt.new' _ _ _ _ ?_); simp; done) | (with_reducible refine TypeAt.alloc ?_ _) | (with_reducible refine TypeAt.set ?_ _ _) | (with_reducible refine TypeAt.drew ?_))))
 have TR1 : Hid (TypeAt w1 (w.heap.size + 1) 37) := qhd (by refine TypeAt.below ?_ hb1' (by omega); (repeat' (first | (with_reducible assumption) | ((with_reducible refine TypeAt.new' _ _ _ _ ?_); simp; done) | (with_reducible refine TypeAt.alloc ?_ _) | (with_reducible refine TypeAt.set ?_ _ _) | (with_reducible refine TypeAt.drew ?_))))
 have TM1 : Hid (TypeAt w1 (w.heap.size + 2) 65) := qhd (by refine TypeAt.below ?_ hb1' (by omega); (repeat' (first | (with_reducible assumption) | ((with_reducible refine TypeAt.new' _ _ _ _ ?_); simp; done) | (with_reducible refine TypeAt.alloc ?_ _) | (with_reducible refine TypeAt.set ?_ _ _) | (with_reducible refine TypeAt.drew ?_))))
 obtain ⟨da, dn, dc, rfl⟩ := ht1.sl.form3
 have HD1 := qhd ht1
 have hz1 := hb1'.size
 (try simp only [World.size_alloc] at hz1)
 have hE1 : Below w.heap.size w w1 := bbel
 have c0' := qad hE1 c0
 clear ht1 hb1' HRNG HSRC HROW hi1 hi2 hi3 hi4 HI5 c0 HC
 have hlx := X1.out.lt
 have hlr := R1.out.lt
 have hlm := CM.out.lt
 have x3 := X1.out.c3
 have g3 := (show Four w1 _ _ _ _ _ from X1.out).f3
 go_wp2_with fail
 obtain ⟨W1, hW1⟩ : ∃ W, W = w1.setCell ⟨w.heap.size, 3, none⟩ (.slice da dn dc) := ⟨_, rfl⟩
 rw [← hW1]
 have X1s : Hid (Four W1 w.heap.size (.string c.fName) (.string c.fSuper) (.slice fa fn fc) (.slice da dn dc)) := qhd (by rw [hW1]; exact X1.out.set3)
 have R1s : Hid (Four W1 (w.heap.size + 1) (.string ⟨#[]⟩) (.string ⟨#[]⟩) (.slice none 0 0) (.slice none 0 0)) := qhd (by rw [hW1]; exact R1.out.set_other (by omega))
 have CMs : Hid (Eight W1 (w.heap.size + 2) (.string m.fName) (.slice aa an ac) (.int .i64 m.fRet.fKind) (.string m.fRet.fName) (.int .i64 m.fLocals) (.int .i64 m.fStack) (.slice ba cn bc) (.slice xa xn xc)) := qhd (by rw [hW1]; exact CM.out.set_other (by omega))
 have TX1s : Hid (TypeAt W1 w.heap.size 37) := qhd (by rw [hW1]; exact TX1.out.set _ _)
 have TR1s : Hid (TypeAt W1 (w.heap.size + 1) 37) := qhd (by rw [hW1]; exact TR1.out.set _ _)
 have TM1s : Hid (TypeAt W1 (w.heap.size + 2) 65) := qhd (by rw [hW1]; exact TM1.out.set _ _)
 have HDs : Hid (TOwn 8 tClsMethod 65 lo (w.heap.size + 3) W1 (.slice da dn dc) c.fMethods.dropLast) := qhd (by rw [hW1]; exact HD1.out.setB tClsMethod_goodT (by omega) TX1.out (by unfold EClsMethod; decide))
 have hE1s : Below w.heap.size w W1 := by rw [hW1]; exact bbel
 have hzs : w.heap.size + 4 ≤ W1.heap.size := by rw [hW1]; simp [World.setCell]; omega
 clear hW1 X1 R1 CM TX1 TR1 TM1 HD1 x3 g3 hE1 hlx hlr hlm hz1 c0'
 refine (CF W1 hE1s).mono ?_
 rintro _ w2 ⟨rfl, h2⟩
 have HX2 : Hid (rClsIns lo w2 [.int .i64 x.fOp, .int .i64 x.fA, .string x.fName, .string x.fMember] x) := qhd ⟨rfl, by unfold maxLen; omega, by unfold maxLen; omega⟩
 have X2 := qhd (X1s.out.keep h2)
 have R2 := qhd (R1s.out.keep h2)
 have CM2 := qhd (CMs.out.keep h2)
 have TX2 := qhd (TX1s.out.below h2 X1s.out.lt)
 have TR2 := qhd (TR1s.out.below h2 R1s.out.lt)
 have TM2 := qhd (TM1s.out.below h2 CMs.out.lt)
 have HD2 := qhd (HDs.out.below tClsMethod_goodT h2)
 have hE2 := hE1s.trans (h2.mono hE1s.size)
 have hz2 := h2.size
 have HE2 := qhd hE2
 have S32 : Hid (TSl 4 rClsIns 91 lo w2 (.slice ba cn bc) m.fCode) := qhd (S3.out.stays (E := EClsMethod) (rClsIns_goodT.mono fun _ h => h.elim) (by unfold EClsMethod; simp) (KeepsT.of_below hE2))
 obtain ⟨cssx, hsx, hrx⟩ := S32.out.src
 have HSX := qhd hsx
 have HRX := qhd hrx
 have hlx := X2.out.lt
 have hlr := R2.out.lt
 have hlm := CM2.out.lt
 clear h2 X1s R1s CMs TX1s TR1s TM1s HDs CF hE1s hzs hsx hrx S3
 have hOK : ok = ok := rfl
 clear hOK
 all_goals
  go_wp2_with fail
  refine wp_app2 (css := cssx) (B := w2.heap.size + 1) (lo := lo) (R := rClsIns) (E := NoT) (bx := w.heap.size + 2) (fx := 6) (cy := w2.heap.size) (src := .slice ba cn bc) (csy := [.int .i64 x.fOp, .int .i64 x.fA, .string x.fName, .string x.fMember]) (xs := m.fCode) sty_Ins (by decide) rClsIns_goodT rClsIns_one (by first | omega | (simp; omega)) (by (first | omega | (simp; done) | (simp; omega))) (by rfl) (by intro w; go_simp) ?hcx (by rfl) ?hcy (by (first | omega | (simp; done) | (simp; omega))) rfl Tryz.underlying91 rfl ?hsrc ?hrow ?hlen (by decide) (by decide) (by simp) rfl (by kernel_rfl) (by decide) (by kernel_rfl) (by kernel_rfl) (by kernel_rfl) (by kernel_rfl) ?h
  case hcy => (intro j u hj; match j, hj with | 0, hj => cases hj; go_simp | 1, hj => cases hj; go_simp | 2, hj => cases hj; go_simp | 3, hj => cases hj; go_simp | j + 4, hj => simp at hj)
  case hsrc => exact (HSX.out).kept (bbel)
  case hrow => exact (HRX.out).mono fun cs x hx => (rClsIns_goodT).stays _ _ _ _ _ (KeepsT.of_below (bbel)) hx
  case hlen => omega
  case hcx => have := CM2.out.c6; go_simp
  case h =>
   intro v0 v3 v5 w3 hb3 ht3 hs3
   simp only [qnr]
   have hz3 := hb3.size
   simp only [World.size_alloc] at hz3
   have hE3 : Below w2.heap.size w2 w3 := bbel
   have HX3 : Hid (rClsIns lo w3 [.int .i64 x.fOp, .int .i64 x.fA, .string x.fName, .string x.fMember] x) := HX2
   have HE3 := qhd hE3
   clear hb3
   go_wp2_with (refine qam (B := w2.heap.size + 1) (lo := lo) (xs := m.fCode) (ys := [x]) (css := [[.int .i64 x.fOp, .int .i64 x.fA, .string x.fName, .string x.fMember]]) (E := NoT) (by rfl) (.tmp 119) (.tmp 121) 62 (by rfl) sty_Ins rClsIns_goodT id rClsIns_one (by rfl) (by rfl) ht3 hs3 (Rows.one rfl HX3.out) ?hl ?hlo ?hB ?_)
   case hl => simp; omega
   case hlo => omega
   case hB => omega
   intro v6 w4 ht4 hb4 hg4 hk4 hat4
   have hE4 : Below w2.heap.size w2 w4 := hE3.trans (hb4.mono (by omega))
   have X4 := qhd (X2.out.below hE4 hlx)
   have R4 := qhd (R2.out.below hE4 hlr)
   have CM4 := qhd (CM2.out.below hE4 hlm)
   have TX4 := qhd (TX2.out.below hE4 hlx)
   have TR4 := qhd (TR2.out.below hE4 hlr)
   have TM4 := qhd (TM2.out.below hE4 hlm)
   have HD4 := qhd (HD2.out.below tClsMethod_goodT hE4)
   have hF4 : Below w.heap.size w w4 := hE2.trans (hE4.mono hE2.size)
   have HF4 := qhd hF4
   obtain ⟨ka, kn, kc, rfl⟩ := ht4.sl.form3
   have ROW4 : Hid (tClsMethod lo w4 [.string m.fName, .slice aa an ac, .int .i64 m.fRet.fKind, .string m.fRet.fName, .int .i64 m.fLocals, .int .i64 m.fStack, .slice ka kn kc, .slice xa xn xc] { m with fCode := m.fCode ++ [x] }) := qhd (by
    obtain ⟨u1, u2, u3, eu, w1s, w2s, w3s, nb1, nb2⟩ := tClsMethod_goodT.stays _ _ _ _ _ (KeepsT.of_below hF4) HMR.out
    cases eu
    exact ⟨_, _, _, rfl, w1s, ht4.sl, w3s, nb1, nb2⟩)
   have hz4 := hE4.size
   clear ht3 hs3 ht4 hb4 hg4 hk4 hat4 X2 R2 CM2 TX2 TR2 TM2 HD2 HX2 HX3 HMR hE3 HE3 HSX HRX hz3
   have hl4x := X4.out.lt
   have hl4r := R4.out.lt
   obtain ⟨hl4m, m0, m1, m2, m3, m4, m5, m6, m7, _, _, _, _, _, _, mf7, _⟩ := CM4.out
   have x3 := X4.out.c3
   have xf3 := X4.out.f3
   have HO : Hid (∀ o, TOwn 8 tClsMethod 65 lo (w.heap.size + 3) ((w4.setCell ⟨w.heap.size + 2, 6, none⟩ (.slice ka kn kc)).alloc o) (.slice da dn dc) c.fMethods.dropLast) := qhd (fun o => (HD4.out.setB tClsMethod_goodT (by omega) TM4.out EClsMethod_not).below tClsMethod_goodT (bbel))
   have HRW : Hid (∀ o, tClsMethod lo ((w4.setCell ⟨w.heap.size + 2, 6, none⟩ (.slice ka kn kc)).alloc o) [.string m.fName, .slice aa an ac, .int .i64 m.fRet.fKind, .string m.fRet.fName, .int .i64 m.fLocals, .int .i64 m.fStack, .slice ka kn kc, .slice xa xn xc] { m with fCode := m.fCode ++ [x] }) := qhd (fun o => by
    have TM := TM4.out
    exact tClsMethod_goodT.stays lo w4 _ _ _ (by (repeat' (first | (with_reducible exact KeepsT.refl _ _ _) | (with_reducible assumption) | (with_reducible refine KeepsT.allocB ?_ _) | (with_reducible refine KeepsT.drewB ?_) | (with_reducible refine KeepsT.setB ?_ ?_ (EClsMethod_not) _) | ((with_reducible refine TypeAt.new' _ _ _ _ ?_); simp; done) | (with_reducible refine TypeAt.alloc ?_ _) | (with_reducible refine TypeAt.set ?_ _ _) | (with_reducible refine TypeAt.drew ?_)))) ROW4.out)
   have HSR : Hid (Src 8 ((w4.setCell ⟨w.heap.size + 2, 6, none⟩ (.slice ka kn kc)).alloc (.cells #[.string m.fName, .slice aa an ac, .int .i64 m.fRet.fKind, .string m.fRet.fName, .int .i64 m.fLocals, .int .i64 m.fStack, .slice ka kn kc, .slice xa xn xc] 65)) (.slice (some ⟨w4.heap.size, 0, none⟩) 1 1) [[.string m.fName, .slice aa an ac, .int .i64 m.fRet.fKind, .string m.fRet.fName, .int .i64 m.fLocals, .int .i64 m.fStack, .slice ka kn kc, .slice xa xn xc]]) := qhd (by
    have := Src.new (k := 8) (w := w4.setCell ⟨w.heap.size + 2, 6, none⟩ (.slice ka kn kc)) (e := 65) (cs := [.string m.fName, .slice aa an ac, .int .i64 m.fRet.fKind, .string m.fRet.fName, .int .i64 m.fLocals, .int .i64 m.fStack, .slice ka kn kc, .slice xa xn xc])
    rw [World.size_setCell] at this
    exact this)
   have HLN : Hid (c.fMethods.dropLast.length + 1 ≤ 1000000) := qhd (by have := HDL.out; rw [List.length_dropLast]; omega)
   have HZB : Hid (∀ o, w.heap.size + 3 ≤ ((w4.setCell ⟨w.heap.size + 2, 6, none⟩ (.slice ka kn kc)).alloc o).heap.size) := qhd (fun o => by simp [World.setCell]; omega)
   go_wp2_with (at_builtin; refine qam (B := w.heap.size + 3) (lo := lo) (xs := c.fMethods.dropLast) (ys := [{ m with fCode := m.fCode ++ [x] }]) (css := [[.string m.fName, .slice aa an ac, .int .i64 m.fRet.fKind, .string m.fRet.fName, .int .i64 m.fLocals, .int .i64 m.fStack, .slice ka kn kc, .slice xa xn xc]]) (E := EClsMethod) (by rfl) (.tmp 125) (.tmp 127) 35 (by rfl) sty_Mth tClsMethod_goodT EClsMethod_not tClsMethod_one (by rfl) (by rfl) (HO.out _) HSR.out (Rows.one rfl (HRW.out _)) HLN.out (by omega) (HZB.out _) ?_)
   intro v9 w5 ht5 hb5 hg5 hk5 hat5
   have hb5' : Below (w.heap.size + 3) (w4.setCell ⟨w.heap.size + 2, 6, none⟩ (.slice ka kn kc)) w5 := Below.trans (bbel) hb5
   have X5 := Four.below (X4.out.set_other (c := w.heap.size + 2) (o := 6) (v := .slice ka kn kc) (by omega)) hb5' (by omega)
   have R5 := Four.below (R4.out.set_other (c := w.heap.size + 2) (o := 6) (v := .slice ka kn kc) (by omega)) hb5' (by omega)
   have TX5 := qhd (TypeAt.below (TX4.out.set ⟨w.heap.size + 2, 6, none⟩ (.slice ka kn kc)) hb5' (by omega))
   have TR5 := qhd (TypeAt.below (TR4.out.set ⟨w.heap.size + 2, 6, none⟩ (.slice ka kn kc)) hb5' (by omega))
   have hF5 : Below w.heap.size w w5 := Below.trans (bbel : Below w.heap.size w (w4.setCell ⟨w.heap.size + 2, 6, none⟩ (.slice ka kn kc))) (hb5'.mono (by omega))
   obtain ⟨ja, jn, jc, rfl⟩ := ht5.sl.form3
   have HT5 := qhd ht5
   have HF5 := qhd hF5
   have hz5 := hb5'.size
   clear ht5 hb5 hb5' hg5 hk5 hat5 X4 R4 CM4 TX4 TR4 TM4 HD4 HF4 ROW4 HO HRW HSR HLN HZB m0 m1 m2 m3 m4 m5 m6 m7 mf7 x3 xf3 hl4m hl4x hl4r
   obtain ⟨lx, x0, x1, x2, x3, g0, g1, g2, g3⟩ := X5
   obtain ⟨lr, r0, r1, r2, r3, o0, o1, o2, o3⟩ := R5
   go_wp2
   all_goals
    refine bodyPost_ret (v := ?_) ?hrun rfl ?_
    case hrun => (simp only [results, Tryz.results96]; go_simp; first | done | exact rfl)
    refine HR.out _ _ ⟨.slice fa fn fc, .slice ja jn jc, ?_, ?_, bbel⟩
    ·rw [IV.out]
    ·rw [IV.out]
     have TX := TX5.out
     have TR := TR5.out
     refine tClsClass_goodT.stays lo w5 _ _ _ (by (repeat' (first | (with_reducible exact KeepsT.refl _ _ _) | (with_reducible assumption) | (with_reducible refine KeepsT.allocB ?_ _) | (with_reducible refine KeepsT.drewB ?_) | (with_reducible refine KeepsT.setB ?_ ?_ (EClsClass_not) _) | ((with_reducible refine TypeAt.new' _ _ _ _ ?_); simp; done) | (with_reducible refine TypeAt.alloc ?_ _) | (with_reducible refine TypeAt.set ?_ _ _) | (with_reducible refine TypeAt.drew ?_)))) ?_
     exact ⟨_, _, rfl, T1.out.stays (E := EClsClass) (rClsField_goodT.mono fun _ h => h.elim) (by unfold EClsClass; simp) (KeepsT.of_below HF5.out), HT5.out.sl, hb1, hb2⟩

theorem S_l8Inner (c : DClsClass) (vf vm : Value) (line : ByteArray) (v : Value) (g cap lo : Nat) (w : World) (hlo : lo ≤ w.heap.size) (hc : tClsClass lo w [.string c.fName, .string c.fSuper, vf, vm] c) (hw : Wds w v (words line) g cap) (hs : SmallC 10000 c) (hline : line.size ≤ 10000) :
  Calls Tryz.prog 96 #[.agg #[.string c.fName, .string c.fSuper, vf, vm], v, .string line] w fun e w' => InnerPost c line lo w e w' := by
 obtain ⟨w0, h0⟩ : ∃ x, (words line)[0]? = some x := ⟨_, List.getElem?_eq_getElem hw.pos⟩
 cases h1 : isW w0 tField
 ·cases h2 : isW w0 tMethod
  ·cases hm : c.fMethods.getLast? with
   | none => exact S_l8Inner_none c vf vm line v g cap lo w hlo hc hw w0 h0 h1 h2 (List.getLast?_eq_none_iff.1 hm)
   | some m =>
     cases h3 : isW w0 tFrame
     ·exact S_l8Inner_ins c m vf vm line v g cap lo w hlo hc hw hs w0 h0 h1 h2 hm h3 hline
     ·exact S_l8Inner_frame c m vf vm line v g cap lo w hlo hc hw hs w0 h0 h1 h2 hm h3
  ·exact S_l8Inner_method c vf vm line v g cap lo w hlo hc hw hs w0 h0 h1 h2
 ·exact S_l8Inner_field c vf vm line v g cap lo w hlo hc hw hs w0 h0 h1

end Go.Proofs.YtfbonocadpknbaaGreatDoor
